import Derived.Test.YtlkajgjaidedkaaZ7
import Derived.Test.YtlkajgjaidedkaaZ13
import Derived.Test.YtlkajgjaidedkaaZ9
/-
  Few deeds; both stores of a law's own; the law StoreGets.
-/
namespace Go.Proofs.Ytlkajgjaidedkaa
set_option linter.unnecessarySimpa false
set_option maxRecDepth 100000
open Go Go.Vm
set_option linter.unusedSimpArgs false
set_option linter.unusedVariables false
attribute [local simp] evalL wantedA isCall opA evalA evalAll evalsA evalOpt ofValue ofCell plain binA_eql_pn binA_neq_pn binA_gtr binA_lss binA_geq binA_leq binA_add binA_sub binA_eql binA_neq binA_orI binA_shl binA_shr binA_mul binA_quo binA_rem binA_agg_eql binA_agg_neq convA_int unA_not fieldAddrA loadA partA pickA_true pickA_false pickA_bb lenA builtinA storeA splice AV.cells AV.isCell sliceA boundA intA callOf indexAddrA newObjA buildA fillA zeroA ofCells buildSliceA indexA fieldA set_appN get_appN take_appN List.getElem?_cons_zero List.getElem?_cons_succ get_sa0 get_sa1 get_sa2 get_sa3 set_sa0 set_sa1 set_sa2 set_sa3 sliceRowA binA_eqn binA_neqn drop_mr

theorem acsC_len (l : List Ac) : (acsC l).length = l.length * 3 := by
  induction l with
  | nil => rfl
  | cons p l ih => simp only [acsC, List.flatMap_cons, List.length_append, acC, List.length_cons, List.length_nil] at ih ⊢; omega
theorem acsC_at : ∀ {l : List Ac} {i : Nat} (h : i < l.length), ∃ R, (acsC l).drop (i * 3) = acC l[i] ++ R
  | p :: l, 0, h => ⟨acsC l, rfl⟩
  | p :: l, i + 1, h => by
    obtain ⟨R, hR⟩ := acsC_at (l := l) (i := i) (by simpa using h)
    refine ⟨R, ?_⟩
    rw [show (i + 1) * 3 = 3 + i * 3 by omega]
    show List.drop (3 + i * 3) (acC p ++ acsC l) = _
    rw [← List.drop_drop]
    exact hR
def FewA (l : List Ac) : Prop := l.length ≤ 40 ∧ ∀ a ∈ l, a.Few
instance (l : List Ac) : Decidable (FewA l) := by unfold FewA Ac.Few; exact inferInstance

set_option maxHeartbeats 1600000 in
attribute [local simp] undefA List.getElem?_cons_zero List.getElem?_cons_succ in
theorem few_ok {σ : St} {l : List Ac} (hl : l.length ≤ 9223372036854775807) (hb : ∀ a ∈ l, a.k.length ≤ 9223372036854775807 ∧ a.v.length ≤ 9223372036854775807) :
    CallsA Try.prog 21 [.sl 3 (acsC l) l.length .shut] σ (fun av σ' => av = .v (.bool (decide (FewA l))) ∧ σ = σ') := by
  have hlc := acsC_len l
  have F := And.intro hlc (True.intro)
  refine callsA_body Try.func21 rfl rfl rfl ?_; refine sr fun _ hJ2 => ?_; refine hJ2 _ _ ?_; refine sq fun K3 hK3 => ?_; refine sr fun _ hJ5 => ?_; refine hJ5 _ _ ?_; refine cs (fun c6 => ?_) (fun c6 => ?_)
  · (try exact nope c6); all_goals have c6p := c6; try simp [F] at c6p
    all_goals
     replace F := aF c6 F; try replace F := aF c6p F
     have hn : ¬ FewA l := fun e => by have h1 := e.1; have h := c6; simp at h; omega
     replace F := aF hn F; refine sr fun _ hJ7 => ?_; refine hJ7 _ _ ?_; refine ra ?_; exact rt
  (try exact nope c6); all_goals have c6p := c6; try simp [F] at c6p
  all_goals
   replace F := aF c6 F; (try replace F := aF c6p F); refine run_skip ?_; refine hK3 _ _ ?_; refine sq fun K8 hK8 => ?_; refine sr fun _ hJ10 => ?_; refine hJ10 _ _ ?_; refine run_block_k ?_; refine run_loopF (X := Nat) [0] (fun i ρ σ1 => (i ≤ l.length) ∧ (∀ a ∈ l.take i, a.Few) ∧ (ρ 3 = .v (.int .i64 i)) ∧ (σ1 = σ)) (fun i => l.length - i) (0) ?st1 ?rd1
   case st1 =>
    refine ⟨lp, ?_, lp, lp⟩
    · intro a ha
      simp at ha
   case rd1 =>
    rintro i ρ1 σ1 hF1 ⟨h1, h2, h5, hσ⟩; obtain rfl := hσ.symm
    have f1 := keepL hF1
    (try simp [KeepL, F] at f1); replace F := aF h5 F; (try replace F := aF f1 F); refine sq fun K11 hK11 => ?_; refine sr fun _ hJ13 => ?_; refine hJ13 _ _ ?_; refine cs (fun c10 => ?_) (fun c10 => ?_)
    · (try exact nope c10); all_goals have c10p := c10; try simp [F] at c10p
      all_goals
       replace F := aF c10 F; try replace F := aF c10p F
       have hlt : i < l.length := by have h := c10; simp at h; omega
       obtain ⟨R, hR⟩ := acsC_at hlt
       obtain ⟨a, ha⟩ : ∃ a, a = l[i] := ⟨_, rfl⟩
       rw [← ha] at hR
       simp only [acC, byC] at hR
       have hmem : a ∈ l := by rw [ha]; exact List.getElem_mem _
       have hbl := hb a hmem
       have hb3 : i * 3 + 3 ≤ l.length * 3 := by omega
       have hi1 : i + 1 ≤ l.length := hlt
       have hta : l.take (i + 1) = l.take i ++ [a] := by rw [ha]; exact (List.take_append_getElem hlt).symm
       replace F := aF hlt (And.intro hR (And.intro hb3 (And.intro hi1 F))); refine run_skip ?_; refine hK11 _ _ ?_; refine sq fun K14 hK14 => ?_; refine run_block_k ?_; refine sr fun _ hJ16 => ?_; refine gs 20 (fun g6_7 => ?_) (fun g6_7 => ?_)
       · (try exact nope g6_7); all_goals have g6_7p := g6_7; try simp [F] at g6_7p
         all_goals
          replace F := aF g6_7 F; try replace F := aF g6_7p F
          have hn : ¬ FewA l := fun e => by have h1 := (e.2 a hmem).1; have h := g6_7; simp at h; omega
          replace F := aF hn F; (iterate 7 refine no2 (k := ?_)); refine hJ16 _ _ ?_; refine ct ?_; refine sr fun _ hJ18 => ?_; refine hJ18 _ _ ?_; refine ra ?_; exact rt
       (try exact nope g6_7); all_goals have g6_7p := g6_7; try simp [F] at g6_7p
       all_goals
        replace F := aF g6_7 F; (try replace F := aF g6_7p F); (iterate 7 refine go2 (k := ?_)); refine hJ16 _ _ ?_; refine cs (fun c28 => ?_) (fun c28 => ?_)
        · (try exact nope c28); all_goals have c28p := c28; try simp [F] at c28p
          all_goals
           replace F := aF c28 F; try replace F := aF c28p F
           have hn : ¬ FewA l := fun e => by have h1 := (e.2 a hmem).2; have h := c28; simp at h; omega
           replace F := aF hn F; refine sr fun _ hJ20 => ?_; refine hJ20 _ _ ?_; refine ra ?_; exact rt
        (try exact nope c28); all_goals have c28p := c28; try simp [F] at c28p
        all_goals
         replace F := aF c28 F; (try replace F := aF c28p F); refine run_skip ?_; refine hK14 _ _ ?_; refine rg' (h := fun J21 hJ21 => ?_); refine hJ21 _ _ ?_; refine ⟨(i + 1), ⟨kp, lp, ?_, lp, lp⟩, lp⟩
         · rw [hta]
           intro y hy
           rcases List.mem_append.1 hy with h | h
           · exact h2 y h
           · simp at h; rw [h]; exact ⟨by have h := g6_7; simp at h; omega, by have h := c28; simp at h; omega⟩
    (try exact nope c10); all_goals have c10p := c10; try simp [F] at c10p
    all_goals
     replace F := aF c10 F; try replace F := aF c10p F
     have hy : FewA l := ⟨by have h := c6; simp at h; omega, by rw [List.take_of_length_le (by have h := c10; simp at h; omega)] at h2; exact h2⟩
     replace F := aF hy F; refine run_exit ?_; refine hK8 _ _ ?_; refine sr fun _ hJ23 => ?_; refine hJ23 _ _ ?_; refine ra ?_; exact rt

def St2 (σ : St) (G : Sg) (M : RS) : St := { σ with objs := σ.objs ++ [stC σ.rows.length G, rmC (σ.rows.length + 3) M], rows := σ.rows ++ [stR1 G, stR2 G, stR3 G, rmR M] }
theorem St2.s (σ : St) (G : Sg) (M : RS) : HasS (St2 σ G M) σ.objs.length σ.rows.length G := ⟨by simp [St2], by simp [St2], by simp [St2], by simp [St2]⟩
theorem St2.r (σ : St) (G : Sg) (M : RS) : HasR (St2 σ G M) (σ.objs.length + 1) (σ.rows.length + 3) M := ⟨by simp [St2], by simp [St2]⟩
theorem St2.a (σ : St) : Apart σ.objs.length σ.rows.length (σ.objs.length + 1) (σ.rows.length + 3) := ⟨by omega, by omega, by omega, by omega⟩
theorem St2.put (σ : St) (G G' : Sg) (M M' : RS) : putR (putS (St2 σ G M) σ.objs.length σ.rows.length G') (σ.objs.length + 1) (σ.rows.length + 3) M' = St2 σ G' M' := by simp [St2, putS, putR]
def newR : RS := ⟨[], [], 0⟩
theorem newR5 : R5 newSg.s newR 0 := ⟨newSg_ok, rfl, rfl, fun j x w hx => by simp [newSg] at hx, by simp [newSg], by simp [newR]⟩

theorem does2 {σ : St} {n : Nat} {G : Sg} {M : RS} {a : Ac} (hi : R5 G.s M n) (hn : n ≤ 400000) (hf : a.Few) :
    CallsA Try.prog 23 [.ptr σ.objs.length 0, .ptr (σ.objs.length + 1) 0, .agg (acC a)] (St2 σ G M) (fun av σ' => ∃ G', G'.s = actS G.s a ∧ av = .v (.bool true) ∧ σ' = St2 σ G' (actR M a)) :=
  callsA_mono (does_ok (St2.s σ G M) (St2.r σ G M) (St2.a σ) hi hn hf) (fun av σ' ⟨G', e1, e2, e3⟩ => ⟨G', e1, e2, by rw [e3, St2.put]⟩)

section
variable {z : Zone} {P : Program} {N : Nat} {ρ : Nat → AV} {σ : St}
theorem run_new2 {c : Code} {Q : Exit → (Nat → AV) → St → Prop} (σ : St) (k : Run z P N c ρ (St2 σ newSg newR) Q) :
    Run z P N c ρ { σ with objs := σ.objs ++ [stC σ.rows.length newSg, [.sl 0 [] 0 .full, .sl 0 [] 0 .full]], rows := σ.rows ++ [stR1 newSg, stR2 newSg, stR3 newSg] } Q := by
  refine run_nilcell (σ.objs.length + 1) 1 1 (h := by simp; rfl) (hj := rfl) (k := ?_)
  have h0 : WkS { σ with objs := (σ.objs ++ [stC σ.rows.length newSg, [.sl 0 [] 0 .full, .row (σ.rows.length + 3) 0 0 1 0]]).set (σ.objs.length + 1) [.sl 0 [] 0 .full, .row (σ.rows.length + 3) 0 0 1 0], rows := σ.rows ++ [stR1 newSg, stR2 newSg, stR3 newSg, ⟨0, [], none⟩] }
      { σ with objs := (σ.objs ++ [stC σ.rows.length newSg, [.sl 0 [] 0 .full, .row (σ.rows.length + 3) 0 0 1 0]]).set (σ.objs.length + 1) [.sl 2 [] 0 .shut, .row (σ.rows.length + 3) 0 0 1 0], rows := σ.rows ++ [stR1 newSg, stR2 newSg, stR3 newSg, ⟨0, [], none⟩] } :=
    WkS.set (σ := { σ with rows := σ.rows ++ [stR1 newSg, stR2 newSg, stR3 newSg, ⟨0, [], none⟩] }) (.cons (Wk.nil _ _ _) (.cons (Wk.refl _) .nil))
  simp only [List.set_append_right _ _ (Nat.le_add_right _ _), Nat.add_sub_cancel_left, List.set_cons_succ, List.set_cons_zero, List.length_append, List.length_cons, List.length_nil, List.append_assoc, List.cons_append, List.nil_append] at h0 ⊢
  exact run_wkS h0 k
end

structure LS where
  i : Nat
  G : Sg
  M : RS
theorem keysNil_ok {σ : St} {o k n : Nat} {G : Sg} (h : HasS σ o k G) (hG : G.s.Ok n) (hn : n ≤ 1000000) :
    CallsA Try.prog 28 [.ptr o 0, .sl 0 [] 0 .full] σ (fun av σ' => av = .sl 1 (kysC (G.s.l.map (·.k))) G.s.l.length .shut ∧ σ = σ') := by
  have hke := keys_ok (p := []) (t := .full) h hG hn
  rw [keysL_nil, List.length_map] at hke
  exact callsA_wk (.cons (Wk.refl _) (.cons (fun G w x h => by obtain ⟨a, c, rfl, rfl⟩ := sl_empty_full h; exact .sl0 rfl) .nil)) hke
end Go.Proofs.Ytlkajgjaidedkaa

/-
  Plans: what they are, when they are right.
-/
namespace Go.Vm
open Go

structure Per where
  l : Nat
  c : List Coin
deriving DecidableEq

structure Pln where
  k : UInt8
  s : Nat
  e : Nat
  tot : List Coin
  ps : List Per
deriving DecidableEq

def perC (p : Per) : List AV := [.v (.int .u64 p.l), .sl 5 (coinsC p.c) p.c.length .shut]
def persC (l : List Per) : List AV := l.flatMap perC
@[simp] theorem persC_nil : persC [] = [] := rfl
@[simp] theorem persC_len (l : List Per) : (persC l).length = l.length * 2 := flat_length perC 2 (fun _ => rfl) l
structure PerQ where
  i : Nat
  e : Nat
  a : List Coin

section
variable {P : Program} {z : Zone} {N : Nat} {σ : St} {ρ : Nat → AV}
end

end Go.Vm

/-
  Arguments: numbers, lists of coins, plans.
-/
namespace Go.Vm
set_option linter.unnecessarySimpa false
set_option linter.unusedVariables false
open Go

theorem leavesF_mono {go go' : TypeId → Option (List TypeId)} (h : ∀ t l, go t = some l → go' t = some l) : ∀ (fs : List Field) (acc ls : List TypeId), leavesF go fs acc = some ls → leavesF go' fs acc = some ls
  | [], acc, ls, e => e
  | f :: fs, acc, ls, e => by
    simp only [leavesF] at e ⊢
    split at e
    · rename_i hf
      rw [if_pos hf]
      cases hg : go f.type with
      | none => rw [hg] at e; cases e
      | some l =>
        rw [hg] at e
        rw [h _ _ hg]
        exact leavesF_mono h fs _ ls e
    · cases e

theorem leaves_succ {P : Program} : ∀ (n : Nat) (t : TypeId) (l : List TypeId), leaves P n t = some l → leaves P (n + 1) t = some l
  | 0, t, l, h => by simp [leaves] at h
  | n + 1, t, l, h => by
    have ih := leaves_succ (P := P) n
    rw [leaves] at h ⊢
    split at h
    · exact h
    · exact h
    · exact h
    · rename_i e hu
      cases hg : leaves P n e with
      | none => rw [hg] at h; cases h
      | some l' => rw [hg] at h; simp only [ih _ _ hg]; exact h
    · rename_i fs hu
      cases hg : leavesF (leaves P n) fs.toList [] with
      | none => rw [hg] at h; cases h
      | some l' => rw [hg] at h; simp only [leavesF_mono ih _ _ _ hg]; exact h
    · rename_i k e hu
      cases hg : leaves P n e with
      | none => rw [hg] at h; cases h
      | some l' => rw [hg] at h; simp only [ih _ _ hg]; exact h
    · cases h

theorem leaves_add {P : Program} {n : Nat} {t : TypeId} {l : List TypeId} (h : leaves P n t = some l) : ∀ k, leaves P (n + k) t = some l
  | 0 => h
  | k + 1 => leaves_succ _ _ _ (leaves_add h k)
theorem leaves_one {P : Program} {n m : Nat} {t : TypeId} {l l' : List TypeId} (h : leaves P n t = some l) (h' : leaves P m t = some l') : l = l' := by
  have h1 := leaves_add h m
  have h2 := leaves_add h' n
  rw [Nat.add_comm] at h2
  rw [h1] at h2
  exact Option.some.inj h2

theorem u8_of {P : Program} {u : TypeId} {a : AV} (hu : P.underlying u = some (.int .u8)) (w : WC P u a) : ∃ b : UInt8, a = .v (.int .u8 b.toNat) := by
  cases w with
  | bool h => rw [hu] at h; cases h
  | string h _ => rw [hu] at h; cases h
  | slice h _ _ _ _ => rw [hu] at h; cases h
  | int h hw =>
    rename_i k n
    rw [hu] at h
    cases h
    have m1 : IntKind.u8.min = 0 := rfl
    have m2 : IntKind.u8.max = 255 := rfl
    simp [Lit.wf, m1, m2] at hw
    refine ⟨UInt8.ofNat n.toNat, ?_⟩
    have e : (UInt8.ofNat n.toNat).toNat = n.toNat := toNat_u8 (by omega)
    rw [e]
    congr 2; omega

theorem groups {P : Program} {α : Type} {f : α → List AV} {ls : List TypeId} (hl : 0 < ls.length) (hf : ∀ a, (f a).length = ls.length)
    (one : ∀ cs : List AV, cs.length = ls.length → (∀ (j : Nat) a u, cs[j]? = some a → ls[j]? = some u → WC P u a) → ∃ x, cs = f x) :
    ∀ (n : Nat) (cs : List AV), cs.length = n * ls.length → (∀ (j : Nat) a u, cs[j]? = some a → ls[j % ls.length]? = some u → WC P u a) → ∃ l : List α, l.length = n ∧ cs = l.flatMap f
  | 0, cs, h, _ => ⟨[], rfl, by simpa using h⟩
  | n + 1, cs, h, hc => by
    have hle : ls.length ≤ cs.length := by rw [h, Nat.add_mul]; omega
    obtain ⟨x, hx⟩ := one (cs.take ls.length) (by simp; omega) (fun j a u ha hu => by
      have hj : j < ls.length := (List.getElem?_eq_some_iff.1 hu).1
      rw [List.getElem?_take, if_pos hj] at ha
      exact hc j a u ha (by rw [Nat.mod_eq_of_lt hj]; exact hu))
    obtain ⟨l, hln, hl2⟩ := groups hl hf one n (cs.drop ls.length) (by rw [List.length_drop, h, Nat.add_mul]; omega) (fun j a u ha hu => by
      rw [List.getElem?_drop] at ha
      exact hc (ls.length + j) a u ha (by rw [Nat.add_mod_left]; exact hu))
    exact ⟨x :: l, by simp [hln], by rw [List.flatMap_cons, ← hx, ← hl2, List.take_append_drop]⟩

theorem wc_len {P : Program} {t : TypeId} {sz n : Nat} {cs : List AV} {tl : Tail} (w : WC P t (.sl sz cs n tl)) : n ≤ 9223372036854775807 := by
  generalize hx : AV.sl sz cs n tl = x at w
  cases w with
  | bool h => cases hx
  | string h _ => cases hx
  | int h _ => cases hx
  | slice h hls hl hn hc => cases hx; exact hn

end Go.Vm

/-
  Arguments: deeds.
-/
namespace Go.Proofs.Ytlkajgjaidedkaa
set_option linter.unnecessarySimpa false
set_option maxRecDepth 100000
open Go Go.Vm
set_option linter.unusedVariables false

theorem bytes_cells2 {P : Program} {u : TypeId} (hu : P.underlying u = some (.int .u8)) : ∀ cs : List AV, (∀ a, a ∈ cs → WC P u a) → ∃ p : List UInt8, cs = bytesA p
  | [], _ => ⟨[], rfl⟩
  | a :: cs, hh => by
    obtain ⟨p, hp⟩ := bytes_cells2 hu cs (fun b hb => hh b (by simp [hb]))
    obtain ⟨b, hb⟩ := u8_of hu (hh a (by simp))
    exact ⟨b :: p, by rw [hp, hb]; rfl⟩
theorem bytes_of {P : Program} {t e : TypeId} {k : Nat} {a : AV} (ht : P.underlying t = some (.slice e)) (hle : leaves P k e = some [e]) (he : P.underlying e = some (.int .u8)) (w : WC P t a) : ∃ p : List UInt8, a = byC p ∧ p.length ≤ 9223372036854775807 := by
  have w0 := w
  cases w with
  | bool h => rw [ht] at h; cases h
  | string h _ => rw [ht] at h; cases h
  | int h _ => rw [ht] at h; cases h
  | slice h hls hl hn hc =>
    rw [ht] at h
    cases h
    rename_i fuel ls cs n
    obtain rfl := leaves_one hle hls
    obtain ⟨p, rfl⟩ := bytes_cells2 he cs (fun a ha => by
      obtain ⟨j, hj⟩ := List.mem_iff_getElem?.1 ha
      exact hc j a e hj (by simp [Nat.mod_one]))
    have : n = p.length := by simpa using hl.symm
    subst this
    exact ⟨p, rfl, wc_len w0⟩
theorem acts_of {P : Program} {t e u tc ec : TypeId} {k k2 : Nat} {a : AV} (ht : P.underlying t = some (.slice e)) (hle : leaves P k e = some [u, tc, tc]) (hu : P.underlying u = some (.int .u8))
    (htc : P.underlying tc = some (.slice ec)) (hlc : leaves P k2 ec = some [ec]) (hec : P.underlying ec = some (.int .u8)) (w : WC P t a) : ∃ L : List Ac, a = .sl 3 (acsC L) L.length .shut ∧ L.length ≤ 9223372036854775807 ∧ ∀ x ∈ L, x.k.length ≤ 9223372036854775807 ∧ x.v.length ≤ 9223372036854775807 := by
  cases w with
  | bool h => rw [ht] at h; cases h
  | string h _ => rw [ht] at h; cases h
  | int h _ => rw [ht] at h; cases h
  | slice h hls hl hn hc =>
    rw [ht] at h
    cases h
    rename_i fuel ls cs n
    obtain rfl := leaves_one hle hls
    obtain ⟨L, hL, rfl⟩ := groups (α := { x : Ac // x.k.length ≤ 9223372036854775807 ∧ x.v.length ≤ 9223372036854775807 }) (f := fun x => acC x.1) (ls := [u, tc, tc]) (by simp) (fun _ => rfl) (fun cs h1 h2 => by
      obtain ⟨a0, a1, a2, rfl⟩ : ∃ a0 a1 a2, cs = [a0, a1, a2] := by
        match cs, h1 with
        | [a0, a1, a2], _ => exact ⟨a0, a1, a2, rfl⟩
      obtain ⟨m, e0⟩ := u8_of hu (h2 0 a0 u rfl rfl)
      obtain ⟨p, e1, hp⟩ := bytes_of htc hlc hec (h2 1 a1 tc rfl rfl)
      obtain ⟨q, e2, hq⟩ := bytes_of htc hlc hec (h2 2 a2 tc rfl rfl)
      exact ⟨⟨⟨m, p, q⟩, hp, hq⟩, by rw [e0, e1, e2]; rfl⟩) n cs hl hc
    refine ⟨L.map Subtype.val, ?_, by rw [List.length_map, hL]; exact hn, fun x hx => ?_⟩
    · rw [List.length_map, hL]
      show AV.sl 3 _ n .shut = _
      congr 1
      induction L with
      | nil => rfl
      | cons y L ih => simp [acsC, List.flatMap_cons]
    · obtain ⟨y, _, rfl⟩ := List.mem_map.1 hx
      exact y.2
theorem acts_arg {n : Nat} {P : Program} {t e u tc ec : TypeId} {k k2 : Nat} {H : Type} {enc : TypeId × Value → H} {W : World} {spare : Nat → Bool} {ad : Option Addr} {m c : Nat} {d : DataW H} {ps : List MemPlace} (hl : leaves P n t = some [t]) (ht : P.underlying t = some (.slice e)) (hle : leaves P k e = some [u, tc, tc]) (hu : P.underlying u = some (.int .u8))
    (htc : P.underlying tc = some (.slice ec)) (hlc : leaves P k2 ec = some [ec]) (hec : P.underlying ec = some (.int .u8))
    (h : DataW.Trod enc P W 0 spare true t (.slice ad m c) d ps) : ∃ L : List Ac, L.length ≤ 9223372036854775807 ∧ (∀ x ∈ L, x.k.length ≤ 9223372036854775807 ∧ x.v.length ≤ 9223372036854775807) ∧ AVR (atFirst W) W (.slice ad m c) (.sl 3 (acsC L) L.length .shut) := by
  obtain ⟨l, h1, h2, h3, h4⟩ := open_arg hl h
  have hc : Value.cells (.slice ad m c) = #[.slice ad m c] := rfl
  obtain ⟨a, rfl⟩ : ∃ a, l = [a] := by
    match l, h1 with
    | [a], _ => exact ⟨a, rfl⟩
  obtain ⟨L, rfl, e1, e2⟩ := acts_of ht hle hu htc hlc hec (h4 0 a t rfl rfl)
  exact ⟨L, e1, e2, h3 0 _ _ (by rw [hc]; rfl) rfl⟩

end Go.Proofs.Ytlkajgjaidedkaa

/-
  The law StoreKeys.
-/
namespace Go.Proofs.Ytlkajgjaidedkaa
set_option linter.unnecessarySimpa false
set_option maxRecDepth 100000
open Go Go.Vm
set_option linter.unusedSimpArgs false
set_option linter.unusedVariables false
attribute [local simp] evalL wantedA isCall opA evalA evalAll evalsA evalOpt ofValue ofCell plain binA_eql_pn binA_neq_pn binA_gtr binA_lss binA_geq binA_leq binA_add binA_sub binA_eql binA_neq binA_orI binA_shl binA_shr binA_mul binA_quo binA_rem binA_agg_eql binA_agg_neq convA_int unA_not fieldAddrA loadA partA pickA_true pickA_false pickA_bb lenA builtinA storeA splice AV.cells AV.isCell sliceA boundA intA callOf indexAddrA newObjA buildA fillA zeroA ofCells buildSliceA indexA fieldA set_appN get_appN take_appN List.getElem?_cons_zero List.getElem?_cons_succ get_sa0 get_sa1 get_sa2 get_sa3 set_sa0 set_sa1 set_sa2 set_sa3 sliceRowA binA_eqn binA_neqn drop_mr

theorem preB_nil2 (b : UInt8) (p : List UInt8) : preB [] (b :: p) = false := by simp [preB]
theorem preB_cons (a b : UInt8) (l m : List UInt8) : preB (a :: l) (b :: m) = (decide (a = b) && preB l m) := by
  rw [Bool.eq_iff_iff]
  simp only [preB, List.length_cons, List.take_succ_cons, List.cons.injEq, Bool.and_eq_true, decide_eq_true_eq]
  constructor
  · rintro ⟨h1, h2, h3⟩; exact ⟨h2, by omega, h3⟩
  · rintro ⟨h1, h2, h3⟩; exact ⟨by omega, h1, h3⟩

theorem preB_lt : ∀ {a p : List UInt8}, ltB a p = true → preB a p = false
  | a, [], h => by rw [ltB_nil] at h; cases h
  | [], b :: p, _ => preB_nil2 b p
  | x :: a, y :: p, h => by
    rw [preB_cons]
    by_cases e : x = y
    · rw [ltB, if_pos e] at h; simp [preB_lt h]
    · simp [e]

theorem preB_up : ∀ {p a b : List UInt8}, ltB a p = false → preB a p = false → ltB a b = true → preB b p = false
  | [], a, b, _, h, _ => by rw [preB_nil] at h; cases h
  | y :: p, a, [], _, _, h => by rw [ltB_nil] at h; cases h
  | y :: p, [], z :: b, h, _, _ => by cases h
  | y :: p, x :: a, z :: b, h1, h2, h3 => by
    rw [preB_cons] at h2 ⊢
    rw [ltB] at h1 h3
    by_cases e : z = y
    · subst e
      by_cases e2 : x = z
      · rw [if_pos e2] at h1 h3; simp [e2] at h2; simp [preB_up h1 h2 h3]
      · rw [if_neg e2] at h1 h3; simp at h1 h3; omega
    · simp [e]

theorem tw_filter {p : List UInt8} : ∀ {l : List Pr}, Srt l → (∀ x ∈ l, ltB x.k p = false) → (l.takeWhile fun x => preB x.k p) = l.filter fun x => preB x.k p
  | [], _, _ => rfl
  | a :: l, h, hg => by
    have l1 := List.pairwise_cons.1 h
    have ih := tw_filter l1.2 (fun x hx => hg x (by simp [hx]))
    rw [List.takeWhile_cons, List.filter_cons]
    cases hp : preB a.k p with
    | true => simp [ih]
    | false =>
      simp only [Bool.false_eq_true, if_false]
      symm
      rw [List.filter_eq_nil_iff]
      intro x hx
      rw [preB_up (hg a (by simp)) hp (l1.1 x hx)]
      simp

theorem keysL_filter {p : List UInt8} : ∀ {l : List Pr}, Srt l → keysL l p = (l.filter fun x => preB x.k p).map (·.k)
  | [], _ => rfl
  | a :: l, h => by
    have l1 := List.pairwise_cons.1 h
    cases ha : ltB a.k p with
    | true =>
      have ih := keysL_filter (p := p) l1.2
      have hf : findL (a :: l) p = findL l p + 1 := by simp [findL, ha]
      unfold keysL at ih ⊢
      rw [hf, List.drop_succ_cons, ih, List.filter_cons, preB_lt ha]
      simp
    | false =>
      have hf : findL (a :: l) p = 0 := by simp [findL, ha]
      unfold keysL
      rw [hf, List.drop_zero, tw_filter h ?_]
      intro x hx
      rcases List.mem_cons.1 hx with rfl | hx
      · exact ha
      · cases hx2 : ltB x.k p with
        | false => rfl
        | true => have := ltB_trans (l1.1 x hx) hx2; rw [ha] at this; cases this

theorem keysL_rise {l : List Pr} {p : List UInt8} (h : Srt l) : (keysL l p).Pairwise fun a b => ltB a b = true := by
  rw [keysL_filter h, List.pairwise_map]
  exact List.Pairwise.filter _ h

theorem keysL_mem {l : List Pr} {p k : List UInt8} (h : Srt l) (hk : k ∈ keysL l p) : ∃ x ∈ l, x.k = k := by
  rw [keysL_filter h] at hk
  obtain ⟨x, hx, rfl⟩ := List.mem_map.1 hk
  exact ⟨x, (List.mem_filter.1 hx).1, rfl⟩

theorem kysC_ix {K : List (List UInt8)} {i : Nat} (h : i < K.length) (h2 : i < (kysC K).length) : (kysC K)[i]'h2 = .sl 1 (bytesA K[i]) K[i].length .shut := (List.getElem?_eq_some_iff.1 (kysC_at h)).2

set_option maxHeartbeats 1600000 in
attribute [local simp] undefA List.getElem?_cons_zero List.getElem?_cons_succ in
theorem storeKeys_ok {σ : St} {l : List Ac} {p : List UInt8} (hl : l.length ≤ 9223372036854775807) (hb : ∀ a ∈ l, a.k.length ≤ 9223372036854775807 ∧ a.v.length ≤ 9223372036854775807) (hkl : p.length ≤ 9223372036854775807) :
    CallsA Try.prog 5 [.sl 3 (acsC l) l.length .shut, .sl 1 (bytesA p) p.length .shut] σ (fun av σ' => av = .v (.bool true) ∧ σ = σ') := by
  refine callsA_gcS ?_ rfl
  have hlc := acsC_len l
  have hdo := fun (G : Sg) (M : RS) (a : Ac) (n : Nat) h1 h2 h3 => does2 (σ := σ) (G := G) (M := M) (a := a) (n := n) h1 h2 h3
  have F := And.intro hlc (True.intro)
  refine callsA_body Try.func5 rfl rfl rfl ?_; refine sr fun _ hJ2 => ?_; refine hJ2 _ _ ?_; refine sq fun K3 hK3 => ?_; refine sr fun _ hJ5 => ?_; refine ca (c := rolls_ok) (k := ?_); rintro _ _ ⟨rfl, rfl⟩; (repeat (first | simp [F] | simp (disch := omega) only [wC, if_pos, if_neg])); refine go2 (k := ?_); refine ca (c := few_ok hl hb) (k := ?_); rintro _ _ ⟨rfl, rfl⟩; (repeat (first | simp [F] | simp (disch := omega) only [wC, if_pos, if_neg])); refine go2 (k := ?_); refine gs 18 (fun g1_7 => ?_) (fun g1_7 => ?_)
  · (try exact nope g1_7); all_goals have g1_7p := g1_7; try simp [F] at g1_7p
    all_goals
     replace F := aF g1_7 F; (try replace F := aF g1_7p F); (iterate 3 refine no2 (k := ?_)); refine hJ5 _ _ ?_; refine ct ?_; refine sr fun _ hJ7 => ?_; refine ca (c := rolls_ok) (k := ?_); rintro _ _ ⟨rfl, rfl⟩; (repeat (first | simp [F] | simp (disch := omega) only [wC, if_pos, if_neg])); refine hJ7 _ _ ?_; refine ra ?_; exact gcr
  (try exact nope g1_7); all_goals have g1_7p := g1_7; try simp [F] at g1_7p
  all_goals
   replace F := aF g1_7 F; (try replace F := aF g1_7p F); (iterate 3 refine go2 (k := ?_)); refine hJ5 _ _ ?_; refine cs (fun c22 => ?_) (fun c22 => ?_)
   · (try exact nope c22); all_goals have c22p := c22; try simp [F] at c22p
     all_goals
      replace F := aF c22 F; (try replace F := aF c22p F); refine sr fun _ hJ9 => ?_; refine ca (c := rolls_ok) (k := ?_); rintro _ _ ⟨rfl, rfl⟩; (repeat (first | simp [F] | simp (disch := omega) only [wC, if_pos, if_neg])); refine hJ9 _ _ ?_; refine ra ?_; exact gcr
   (try exact nope c22); all_goals have c22p := c22; try simp [F] at c22p
   all_goals
    replace F := aF c22 F; try replace F := aF c22p F
    have hfw : FewA l := by have h := g1_7; simpa using h
    have hk30 : p.length ≤ 30 := by have h := c22; simp at h; omega
    refine run_skip ?_; refine hK3 _ _ ?_; refine sr fun _ hJ11 => ?_; refine ca (c := new_st_ok) (k := ?_); rintro _ _ ⟨rfl, rfl⟩; (repeat (first | simp [F] | simp (disch := omega) only [wC, if_pos, if_neg])); refine hJ11 _ _ ?_; refine sq fun K12 hK12 => ?_; refine sq fun K13 hK13 => ?_; refine run_new2 σ ?_; refine rg' (h := fun J14 hJ14 => ?_); refine hJ14 _ _ ?_; refine hK13 _ _ ?_; refine run_block_k ?_; refine run_loopF (X := LS) [0, 1, 4, 5, 6] (fun x ρ σ1 => (x.i ≤ l.length) ∧ (R5 x.G.s x.M x.i) ∧ (ρ 7 = .v (.int .i64 x.i)) ∧ (σ1 = St2 σ x.G x.M)) (fun x => l.length - x.i) (⟨0, newSg, newR⟩) ?st1 ?rd1
    case st1 =>
     refine ⟨lp, ?_, lp, lp⟩
     · exact newR5
    case rd1 =>
     rintro x ρ1 σ1 hF1 ⟨h1, h2, h5, hσ⟩; obtain rfl := hσ.symm
     have f1 := keepL hF1
     (try simp [KeepL, F] at f1); replace F := aF h5 F; (try replace F := aF f1 F); refine sq fun K15 hK15 => ?_; refine sr fun _ hJ17 => ?_; refine hJ17 _ _ ?_; refine cs (fun c30 => ?_) (fun c30 => ?_)
     · (try exact nope c30); all_goals have c30p := c30; try simp [F] at c30p
       all_goals
        replace F := aF c30 F; try replace F := aF c30p F
        have hlt : x.i < l.length := by have h := c30; simp at h; omega
        obtain ⟨R, hR⟩ := acsC_at hlt
        obtain ⟨a, ha⟩ : ∃ a, a = l[x.i] := ⟨_, rfl⟩
        rw [← ha] at hR
        simp only [acC, byC] at hR
        have haf : a.Few := hfw.2 a (by rw [ha]; exact List.getElem_mem _)
        have h40 := hfw.1
        have hb3 : x.i * 3 + 3 ≤ l.length * 3 := by omega
        have hi1 : x.i + 1 ≤ l.length := hlt
        have hda := hdo x.G x.M a x.i h2 (by omega) haf
        simp only [acC, byC] at hda
        replace F := aF hlt (And.intro hR (And.intro hb3 (And.intro hi1 F))); refine run_skip ?_; refine hK15 _ _ ?_; refine sq fun K18 hK18 => ?_; refine run_block_k ?_; refine rg' (h := fun J19 hJ19 => ?_); refine ca (c := hda) (k := ?_); rintro _ _ ⟨G', e0, rfl, rfl⟩; (repeat (first | simp [F] | simp (disch := omega) only [wC, if_pos, if_neg])); refine hJ19 _ _ ?_; refine hK18 _ _ ?_; refine rg' (h := fun J20 hJ20 => ?_); refine hJ20 _ _ ?_; refine ⟨(⟨x.i + 1, G', actR x.M a⟩), ⟨kp, lp, ?_, lp, lp⟩, lp⟩
        · rw [e0]
          exact h2.act haf
     (try exact nope c30); all_goals have c30p := c30; try simp [F] at c30p
     all_goals
      replace F := aF c30 F; try replace F := aF c30p F
      have h40 := hfw.1
      have hke := keys_ok (p := p) (t := .shut) (St2.s σ x.G x.M) h2.ok (by omega)
      have hrk := rkeys_ok (n := 0) (p := p) (t := .shut) (St2.r σ x.G x.M).o (by rw [← h2.l]; have := h2.ok.l; omega) (fun y hy => (h2.ok.kv y (by rw [h2.l]; exact hy)).1)
      have hkn := keysNil_ok (St2.s σ x.G x.M) h2.ok (by omega)
      have hle := len_ok (St2.s σ x.G x.M)
      rw [← h2.l, ← keysL_filter h2.ok.srt] at hrk
      have hrise := List.pairwise_iff_getElem.1 (keysL_rise (p := p) h2.ok.srt)
      have hkb : ∀ k ∈ keysL x.G.s.l p, k.length ≤ 1000000 := fun k hk => by obtain ⟨y, hy, rfl⟩ := keysL_mem h2.ok.srt hk; exact (h2.ok.kv y hy).1
      have hKL : (keysL x.G.s.l p).length ≤ 1000000 := by rw [keysL_filter h2.ok.srt, List.length_map]; have := List.length_filter_le (fun y : Pr => preB y.k p) x.G.s.l; have := h2.ok.l; omega
      obtain ⟨K, hK⟩ : ∃ K, K = keysL x.G.s.l p := ⟨_, rfl⟩
      rw [← hK] at hke hrk hrise hkb hKL
      have hkc := kysC_len K
      have hkc2 := kysC_len (x.G.s.l.map (·.k))
      replace F := aF hkc (And.intro hkc2 F); refine run_exit ?_; refine hK12 _ _ ?_; refine sr fun _ hJ22 => ?_; refine ca (c := hke) (k := ?_); rintro _ _ ⟨rfl, rfl⟩; (repeat (first | simp [F] | simp (disch := omega) only [wC, if_pos, if_neg])); refine ca (c := hrk) (k := ?_); rintro _ _ ⟨rfl, rfl⟩; (repeat (first | simp [F] | simp (disch := omega) only [wC, if_pos, if_neg])); refine hJ22 _ _ ?_; refine sq fun K23 hK23 => ?_; refine sr fun _ hJ25 => ?_; refine hJ25 _ _ ?_; refine cf ?_; refine run_skip ?_; refine hK23 _ _ ?_; refine sq fun K26 hK26 => ?_; refine sr fun _ hJ28 => ?_; refine hJ28 _ _ ?_; refine run_block_k ?_; refine run_loopF (X := Nat) [5, 8, 9] (fun i ρ σ1 => (i ≤ K.length) ∧ (ρ 10 = .v (.int .i64 i)) ∧ (σ1 = St2 σ x.G x.M)) (fun i => K.length - i) (0) ?st2 ?rd2
      case st2 =>
       refine ⟨lp, lp, lp⟩
      case rd2 =>
       rintro i ρ2 σ1 hF2 ⟨h1, h5, hσ⟩; obtain rfl := hσ.symm
       have f2 := keepL hF2
       (try simp [KeepL, F] at f2); replace F := aF h5 F; (try replace F := aF f2 F); refine sq fun K29 hK29 => ?_; refine sr fun _ hJ31 => ?_; refine hJ31 _ _ ?_; refine cs (fun c54 => ?_) (fun c54 => ?_)
       · (try exact nope c54); all_goals have c54p := c54; try simp [F] at c54p
         all_goals
          replace F := aF c54 F; try replace F := aF c54p F
          have hltK : i < K.length := by have h := c54; simp at h; omega
          have hgK : ∀ h : i < (kysC K).length, (kysC K)[i]'h = .sl 1 (bytesA K[i]) K[i].length .shut := fun h => kysC_ix hltK h
          have hgK1 : 0 < i → ∀ h : i - 1 < (kysC K).length, (kysC K)[i - 1]'h = .sl 1 (bytesA K[i - 1]) K[i - 1].length .shut := fun _ h => kysC_ix (by omega) h
          have hiK1 : i + 1 ≤ K.length := hltK
          have hKb := hkb K[i] (List.getElem_mem _)
          have hKb1 := hkb K[i - 1] (List.getElem_mem _)
          have hKr : 0 < i → ltB K[i - 1] K[i] = true := fun h => hrise (i - 1) i (by omega) hltK (by omega)
          replace F := aF hltK (And.intro hgK (And.intro hiK1 F)); refine run_skip ?_; refine hK29 _ _ ?_; refine sq fun K32 hK32 => ?_; refine run_block_k ?_; refine sq fun K33 hK33 => ?_
          refine run_draw (by kernel_rfl) fun J34 hJ34 => ?_
          refine rp2 0 (k := ?_); refine rp2 1 (k := ?_); refine rp2 2 (k := ?_); refine rp2 3 (k := ?_); refine rp2 4 (k := ?_); refine rp2 5 (k := ?_); refine rp2 6 (k := ?_); refine rp2 7 (k := ?_); refine dc 8 rfl (c := same_ok (p := K[i]) (q := K[i]) hKb) (k := ?_); rintro _ _ ⟨rfl, rfl⟩
          refine ⟨by first | exact fun _ _ h => h | (refine later_list [6, 5, 4, 2, 1, 0] (by kernel_rfl) (List.forall_mem_cons.2 ⟨fun _ => fact2 rfl rfl ?_, List.forall_mem_cons.2 ⟨fun _ => fact2 rfl rfl ?_, List.forall_mem_cons.2 ⟨fun _ => fact2 rfl rfl ?_, List.forall_mem_cons.2 ⟨fun _ => fact2 rfl rfl ?_, List.forall_mem_cons.2 ⟨fun _ => fact2 rfl rfl ?_, List.forall_mem_cons.2 ⟨fun _ => fact2 rfl rfl ?_, fun _ h => absurd h List.not_mem_nil⟩⟩⟩⟩⟩⟩) <;> constructor <;> first | rfl | (simp [F]; done)), ?_⟩
          (repeat (first | simp [F] | simp (disch := omega) only [wC, if_pos, if_neg])); refine rp2 9 (k := ?_); refine rp2 10 (k := ?_); refine rp2 11 (k := ?_); refine rp2 12 (k := ?_); refine rp2 13 (k := ?_); refine gd 70 (fun g14_13 => ?_) (fun g14_13 => ?_)
          · (try exact nope g14_13); all_goals have g14_13p := g14_13; try simp [F] at g14_13p
            all_goals
             replace F := aF g14_13 F; try replace F := aF g14_13p F
             have hi0 : 0 < i := by have h := g14_13; simp at h; omega
             have hgK1 := hgK1 hi0
             have hKr := hKr hi0
             have hws : IntKind.i64.wrap ((i : Int) - 1) = ((i - 1 : Nat) : Int) := by rw [wrap_i64 _ (by omega) (by omega)]; omega
             have hi1 : i - 1 < K.length := by omega
             have hi2 : i - 1 + 1 ≤ K.length := by omega
             replace F := aF hgK1 (And.intro hKr (And.intro hws (And.intro hi1 (And.intro hi2 F)))); refine rp2 14 (k := ?_); refine rp2 15 (k := ?_); refine rp2 16 (k := ?_); refine rp2 17 (k := ?_); refine rp2 18 (k := ?_); refine rp2 19 (k := ?_); refine rp2 20 (k := ?_); refine rp2 21 (k := ?_); refine rp2 22 (k := ?_); refine dc 23 rfl (c := less_ok (a := K[i - 1]) (b := K[i]) hKb1 hKb) (k := ?_); rintro _ _ ⟨rfl, rfl⟩
             refine ⟨by first | exact fun _ _ h => h | (refine later_list [21, 20, 19, 17, 16, 15, 14, 12, 11, 10, 9, 6, 5, 4, 2, 1, 0] (by kernel_rfl) (List.forall_mem_cons.2 ⟨fun _ => fact2 rfl rfl ?_, List.forall_mem_cons.2 ⟨fun _ => fact2 rfl rfl ?_, List.forall_mem_cons.2 ⟨fun _ => fact2 rfl rfl ?_, List.forall_mem_cons.2 ⟨fun _ => fact2 rfl rfl ?_, List.forall_mem_cons.2 ⟨fun _ => fact2 rfl rfl ?_, List.forall_mem_cons.2 ⟨fun _ => fact2 rfl rfl ?_, List.forall_mem_cons.2 ⟨fun _ => fact2 rfl rfl ?_, List.forall_mem_cons.2 ⟨fun _ => fact2 rfl rfl ?_, List.forall_mem_cons.2 ⟨fun _ => fact2 rfl rfl ?_, List.forall_mem_cons.2 ⟨fun _ => fact2 rfl rfl ?_, List.forall_mem_cons.2 ⟨fun _ => fact2 rfl rfl ?_, List.forall_mem_cons.2 ⟨fun _ => fact2 rfl rfl ?_, List.forall_mem_cons.2 ⟨fun _ => fact2 rfl rfl ?_, List.forall_mem_cons.2 ⟨fun _ => fact2 rfl rfl ?_, List.forall_mem_cons.2 ⟨fun _ => fact2 rfl rfl ?_, List.forall_mem_cons.2 ⟨fun _ => fact2 rfl rfl ?_, List.forall_mem_cons.2 ⟨fun _ => fact2 rfl rfl ?_, fun _ h => absurd h List.not_mem_nil⟩⟩⟩⟩⟩⟩⟩⟩⟩⟩⟩⟩⟩⟩⟩⟩⟩) <;> constructor <;> first | rfl | (simp [F]; done)), ?_⟩
             (repeat (first | simp [F] | simp (disch := omega) only [wC, if_pos, if_neg])); refine rp2 24 (k := ?_); refine rp2 25 (k := ?_); refine rp2 26 (k := ?_); refine dd ?_; refine hJ34 _ _ ?_; refine hK33 _ _ ?_; refine cs (fun c83 => ?_) (fun c83 => ?_)
             · (try exact nope c83); all_goals have c83p := c83; try simp [F] at c83p
               all_goals
                replace F := aF c83 F; (try replace F := aF c83p F); refine sr fun _ hJ36 => ?_; refine hJ36 _ _ ?_; refine ra ?_; exact gcr
             (try exact nope c83); all_goals have c83p := c83; try simp [F] at c83p
             all_goals
              replace F := aF c83 F; (try replace F := aF c83p F); refine run_skip ?_; refine hK32 _ _ ?_; refine rg' (h := fun J37 hJ37 => ?_); refine hJ37 _ _ ?_; refine ⟨(i + 1), ⟨kp, lp, lp, lp⟩, lp⟩
          (try exact nope g14_13); all_goals have g14_13p := g14_13; try simp [F] at g14_13p
          all_goals
           replace F := aF g14_13 F; (try replace F := aF g14_13p F); refine rp2 14 (k := ?_); refine rp2 15 (k := ?_); refine rp2 16 (k := ?_); refine rp2 17 (k := ?_); refine rp2 18 (k := ?_); refine rp2 19 (k := ?_); refine rp2 20 (k := ?_); refine rp2 21 (k := ?_); refine rp2 22 (k := ?_); refine dop 23 rfl ?_; (repeat (first | simp [F] | simp (disch := omega) only [wC, if_pos, if_neg])); refine rp2 24 (k := ?_); refine rp2 25 (k := ?_); refine rp2 26 (k := ?_); refine dd ?_; refine hJ34 _ _ ?_; refine hK33 _ _ ?_; refine cs (fun c83 => ?_) (fun c83 => ?_)
           · (try exact nope c83); all_goals have c83p := c83; try simp [F] at c83p
             all_goals
              replace F := aF c83 F; (try replace F := aF c83p F); refine sr fun _ hJ39 => ?_; refine hJ39 _ _ ?_; refine ra ?_; exact gcr
           (try exact nope c83); all_goals have c83p := c83; try simp [F] at c83p
           all_goals
            replace F := aF c83 F; (try replace F := aF c83p F); refine run_skip ?_; refine hK32 _ _ ?_; refine rg' (h := fun J40 hJ40 => ?_); refine hJ40 _ _ ?_; refine ⟨(i + 1), ⟨kp, lp, lp, lp⟩, lp⟩
       (try exact nope c54); all_goals have c54p := c54; try simp [F] at c54p
       all_goals
        replace F := aF c54 F; (try replace F := aF c54p F); refine run_exit ?_; refine hK26 _ _ ?_; refine sr fun _ hJ42 => ?_; refine ca (c := hkn) (k := ?_); rintro _ _ ⟨rfl, rfl⟩; (repeat (first | simp [F] | simp (disch := omega) only [wC, if_pos, if_neg])); refine ca (c := hle) (k := ?_); rintro _ _ ⟨rfl, rfl⟩; (repeat (first | simp [F] | simp (disch := omega) only [wC, if_pos, if_neg])); refine hJ42 _ _ ?_; refine ra ?_; exact gcr

end Go.Proofs.Ytlkajgjaidedkaa
