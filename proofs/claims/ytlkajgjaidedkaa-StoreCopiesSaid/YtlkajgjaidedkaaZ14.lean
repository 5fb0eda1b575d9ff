import Derived.Test.YtlkajgjaidedkaaZ7
import Derived.Test.YtlkajgjaidedkaaZ13
import Derived.Test.YtlkajgjaidedkaaZ9
/-
  Few deeds; both stores of a law's own; the law StoreGets.
-/
namespace Go.Proofs.Ytlkajgjaidedkaa
set_option linter.unnecessarySimpa false
set_option maxRecDepth 100000
open Go Go.Vm
set_option linter.unusedSimpArgs false
set_option linter.unusedVariables false
attribute [local simp] evalL wantedA isCall opA evalA evalAll evalsA evalOpt ofValue ofCell plain binA_eql_pn binA_neq_pn binA_gtr binA_lss binA_geq binA_leq binA_add binA_sub binA_eql binA_neq binA_orI binA_shl binA_shr binA_mul binA_quo binA_rem binA_agg_eql binA_agg_neq convA_int unA_not fieldAddrA loadA partA pickA_true pickA_false pickA_bb lenA builtinA storeA splice AV.cells AV.isCell sliceA boundA intA callOf indexAddrA newObjA buildA fillA zeroA ofCells buildSliceA indexA fieldA set_appN get_appN take_appN List.getElem?_cons_zero List.getElem?_cons_succ get_sa0 get_sa1 get_sa2 get_sa3 set_sa0 set_sa1 set_sa2 set_sa3 sliceRowA binA_eqn binA_neqn drop_mr

theorem acsC_len (l : List Ac) : (acsC l).length = l.length * 3 := by
  induction l with
  | nil => rfl
  | cons p l ih => simp only [acsC, List.flatMap_cons, List.length_append, acC, List.length_cons, List.length_nil] at ih ⊢; omega
theorem acsC_at : ∀ {l : List Ac} {i : Nat} (h : i < l.length), ∃ R, (acsC l).drop (i * 3) = acC l[i] ++ R
  | p :: l, 0, h => ⟨acsC l, rfl⟩
  | p :: l, i + 1, h => by
    obtain ⟨R, hR⟩ := acsC_at (l := l) (i := i) (by simpa using h)
    refine ⟨R, ?_⟩
    rw [show (i + 1) * 3 = 3 + i * 3 by omega]
    show List.drop (3 + i * 3) (acC p ++ acsC l) = _
    rw [← List.drop_drop]
    exact hR
def FewA (l : List Ac) : Prop := l.length ≤ 40 ∧ ∀ a ∈ l, a.Few
instance (l : List Ac) : Decidable (FewA l) := by unfold FewA Ac.Few; exact inferInstance

set_option maxHeartbeats 1600000 in
attribute [local simp] undefA List.getElem?_cons_zero List.getElem?_cons_succ in
theorem few_ok {σ : St} {l : List Ac} (hl : l.length ≤ 9223372036854775807) (hb : ∀ a ∈ l, a.k.length ≤ 9223372036854775807 ∧ a.v.length ≤ 9223372036854775807) :
    CallsA Try.prog 21 [.sl 3 (acsC l) l.length .shut] σ (fun av σ' => av = .v (.bool (decide (FewA l))) ∧ σ = σ') := by
  have hlc := acsC_len l
  have F := And.intro hlc (True.intro)
  refine callsA_body Try.func21 rfl rfl rfl ?_; refine sr fun _ hJ2 => ?_; refine hJ2 _ _ ?_; refine sq fun K3 hK3 => ?_; refine sr fun _ hJ5 => ?_; refine hJ5 _ _ ?_; refine cs (fun c6 => ?_) (fun c6 => ?_)
  · (try exact nope c6); all_goals have c6p := c6; try simp [F] at c6p
    all_goals
     replace F := aF c6 F; try replace F := aF c6p F
     have hn : ¬ FewA l := fun e => by have h1 := e.1; have h := c6; simp at h; omega
     replace F := aF hn F; refine sr fun _ hJ7 => ?_; refine hJ7 _ _ ?_; refine ra ?_; exact rt
  (try exact nope c6); all_goals have c6p := c6; try simp [F] at c6p
  all_goals
   replace F := aF c6 F; (try replace F := aF c6p F); refine run_skip ?_; refine hK3 _ _ ?_; refine sq fun K8 hK8 => ?_; refine sr fun _ hJ10 => ?_; refine hJ10 _ _ ?_; refine run_block_k ?_; refine run_loopF (X := Nat) [0] (fun i ρ σ1 => (i ≤ l.length) ∧ (∀ a ∈ l.take i, a.Few) ∧ (ρ 3 = .v (.int .i64 i)) ∧ (σ1 = σ)) (fun i => l.length - i) (0) ?st1 ?rd1
   case st1 =>
    refine ⟨lp, ?_, lp, lp⟩
    · intro a ha
      simp at ha
   case rd1 =>
    rintro i ρ1 σ1 hF1 ⟨h1, h2, h5, hσ⟩; obtain rfl := hσ.symm
    have f1 := keepL hF1
    (try simp [KeepL, F] at f1); replace F := aF h5 F; (try replace F := aF f1 F); refine sq fun K11 hK11 => ?_; refine sr fun _ hJ13 => ?_; refine hJ13 _ _ ?_; refine cs (fun c10 => ?_) (fun c10 => ?_)
    · (try exact nope c10); all_goals have c10p := c10; try simp [F] at c10p
      all_goals
       replace F := aF c10 F; try replace F := aF c10p F
       have hlt : i < l.length := by have h := c10; simp at h; omega
       obtain ⟨R, hR⟩ := acsC_at hlt
       obtain ⟨a, ha⟩ : ∃ a, a = l[i] := ⟨_, rfl⟩
       rw [← ha] at hR
       simp only [acC, byC] at hR
       have hmem : a ∈ l := by rw [ha]; exact List.getElem_mem _
       have hbl := hb a hmem
       have hb3 : i * 3 + 3 ≤ l.length * 3 := by omega
       have hi1 : i + 1 ≤ l.length := hlt
       have hta : l.take (i + 1) = l.take i ++ [a] := by rw [ha]; exact (List.take_append_getElem hlt).symm
       replace F := aF hlt (And.intro hR (And.intro hb3 (And.intro hi1 F))); refine run_skip ?_; refine hK11 _ _ ?_; refine sq fun K14 hK14 => ?_; refine run_block_k ?_; refine sr fun _ hJ16 => ?_; refine gs 20 (fun g6_7 => ?_) (fun g6_7 => ?_)
       · (try exact nope g6_7); all_goals have g6_7p := g6_7; try simp [F] at g6_7p
         all_goals
          replace F := aF g6_7 F; try replace F := aF g6_7p F
          have hn : ¬ FewA l := fun e => by have h1 := (e.2 a hmem).1; have h := g6_7; simp at h; omega
          replace F := aF hn F; (iterate 7 refine no2 (k := ?_)); refine hJ16 _ _ ?_; refine ct ?_; refine sr fun _ hJ18 => ?_; refine hJ18 _ _ ?_; refine ra ?_; exact rt
       (try exact nope g6_7); all_goals have g6_7p := g6_7; try simp [F] at g6_7p
       all_goals
        replace F := aF g6_7 F; (try replace F := aF g6_7p F); (iterate 7 refine go2 (k := ?_)); refine hJ16 _ _ ?_; refine cs (fun c28 => ?_) (fun c28 => ?_)
        · (try exact nope c28); all_goals have c28p := c28; try simp [F] at c28p
          all_goals
           replace F := aF c28 F; try replace F := aF c28p F
           have hn : ¬ FewA l := fun e => by have h1 := (e.2 a hmem).2; have h := c28; simp at h; omega
           replace F := aF hn F; refine sr fun _ hJ20 => ?_; refine hJ20 _ _ ?_; refine ra ?_; exact rt
        (try exact nope c28); all_goals have c28p := c28; try simp [F] at c28p
        all_goals
         replace F := aF c28 F; (try replace F := aF c28p F); refine run_skip ?_; refine hK14 _ _ ?_; refine rg' (h := fun J21 hJ21 => ?_); refine hJ21 _ _ ?_; refine ⟨(i + 1), ⟨kp, lp, ?_, lp, lp⟩, lp⟩
         · rw [hta]
           intro y hy
           rcases List.mem_append.1 hy with h | h
           · exact h2 y h
           · simp at h; rw [h]; exact ⟨by have h := g6_7; simp at h; omega, by have h := c28; simp at h; omega⟩
    (try exact nope c10); all_goals have c10p := c10; try simp [F] at c10p
    all_goals
     replace F := aF c10 F; try replace F := aF c10p F
     have hy : FewA l := ⟨by have h := c6; simp at h; omega, by rw [List.take_of_length_le (by have h := c10; simp at h; omega)] at h2; exact h2⟩
     replace F := aF hy F; refine run_exit ?_; refine hK8 _ _ ?_; refine sr fun _ hJ23 => ?_; refine hJ23 _ _ ?_; refine ra ?_; exact rt

def St2 (σ : St) (G : Sg) (M : RS) : St := { σ with objs := σ.objs ++ [stC σ.rows.length G, rmC (σ.rows.length + 3) M], rows := σ.rows ++ [stR1 G, stR2 G, stR3 G, rmR M] }
theorem St2.s (σ : St) (G : Sg) (M : RS) : HasS (St2 σ G M) σ.objs.length σ.rows.length G := ⟨by simp [St2], by simp [St2], by simp [St2], by simp [St2]⟩
theorem St2.r (σ : St) (G : Sg) (M : RS) : HasR (St2 σ G M) (σ.objs.length + 1) (σ.rows.length + 3) M := ⟨by simp [St2], by simp [St2]⟩
theorem St2.a (σ : St) : Apart σ.objs.length σ.rows.length (σ.objs.length + 1) (σ.rows.length + 3) := ⟨by omega, by omega, by omega, by omega⟩
theorem St2.put (σ : St) (G G' : Sg) (M M' : RS) : putR (putS (St2 σ G M) σ.objs.length σ.rows.length G') (σ.objs.length + 1) (σ.rows.length + 3) M' = St2 σ G' M' := by simp [St2, putS, putR]
def newR : RS := ⟨[], [], 0⟩
theorem newR5 : R5 newSg.s newR 0 := ⟨newSg_ok, rfl, rfl, fun j x w hx => by simp [newSg] at hx, by simp [newSg], by simp [newR]⟩

theorem does2 {σ : St} {n : Nat} {G : Sg} {M : RS} {a : Ac} (hi : R5 G.s M n) (hn : n ≤ 400000) (hf : a.Few) :
    CallsA Try.prog 23 [.ptr σ.objs.length 0, .ptr (σ.objs.length + 1) 0, .agg (acC a)] (St2 σ G M) (fun av σ' => ∃ G', G'.s = actS G.s a ∧ av = .v (.bool true) ∧ σ' = St2 σ G' (actR M a)) :=
  callsA_mono (does_ok (St2.s σ G M) (St2.r σ G M) (St2.a σ) hi hn hf) (fun av σ' ⟨G', e1, e2, e3⟩ => ⟨G', e1, e2, by rw [e3, St2.put]⟩)

section
variable {z : Zone} {P : Program} {N : Nat} {ρ : Nat → AV} {σ : St}
theorem run_new2 {c : Code} {Q : Exit → (Nat → AV) → St → Prop} (σ : St) (k : Run z P N c ρ (St2 σ newSg newR) Q) :
    Run z P N c ρ { σ with objs := σ.objs ++ [stC σ.rows.length newSg, [.sl 0 [] 0 .full, .sl 0 [] 0 .full]], rows := σ.rows ++ [stR1 newSg, stR2 newSg, stR3 newSg] } Q := by
  refine run_nilcell (σ.objs.length + 1) 1 1 (h := by simp; rfl) (hj := rfl) (k := ?_)
  have h0 : WkS { σ with objs := (σ.objs ++ [stC σ.rows.length newSg, [.sl 0 [] 0 .full, .row (σ.rows.length + 3) 0 0 1 0]]).set (σ.objs.length + 1) [.sl 0 [] 0 .full, .row (σ.rows.length + 3) 0 0 1 0], rows := σ.rows ++ [stR1 newSg, stR2 newSg, stR3 newSg, ⟨0, [], none⟩] }
      { σ with objs := (σ.objs ++ [stC σ.rows.length newSg, [.sl 0 [] 0 .full, .row (σ.rows.length + 3) 0 0 1 0]]).set (σ.objs.length + 1) [.sl 2 [] 0 .shut, .row (σ.rows.length + 3) 0 0 1 0], rows := σ.rows ++ [stR1 newSg, stR2 newSg, stR3 newSg, ⟨0, [], none⟩] } :=
    WkS.set (σ := { σ with rows := σ.rows ++ [stR1 newSg, stR2 newSg, stR3 newSg, ⟨0, [], none⟩] }) (.cons (Wk.nil _ _ _) (.cons (Wk.refl _) .nil))
  simp only [List.set_append_right _ _ (Nat.le_add_right _ _), Nat.add_sub_cancel_left, List.set_cons_succ, List.set_cons_zero, List.length_append, List.length_cons, List.length_nil, List.append_assoc, List.cons_append, List.nil_append] at h0 ⊢
  exact run_wkS h0 k
end

structure LS where
  i : Nat
  G : Sg
  M : RS
theorem keysNil_ok {σ : St} {o k n : Nat} {G : Sg} (h : HasS σ o k G) (hG : G.s.Ok n) (hn : n ≤ 1000000) :
    CallsA Try.prog 28 [.ptr o 0, .sl 0 [] 0 .full] σ (fun av σ' => av = .sl 1 (kysC (G.s.l.map (·.k))) G.s.l.length .shut ∧ σ = σ') := by
  have hke := keys_ok (p := []) (t := .full) h hG hn
  rw [keysL_nil, List.length_map] at hke
  exact callsA_wk (.cons (Wk.refl _) (.cons (fun G w x h => by obtain ⟨a, c, rfl, rfl⟩ := sl_empty_full h; exact .sl0 rfl) .nil)) hke

set_option maxHeartbeats 1600000 in
attribute [local simp] undefA List.getElem?_cons_zero List.getElem?_cons_succ in
theorem same2_ok {σ : St} {o k m q n : Nat} {G : Sg} {M : RS} (h : HasS σ o k G) (hr : HasR σ m q M) (hi : R5 G.s M n) (hn : n ≤ 1000000) :
    CallsA Try.prog 27 [.ptr o 0, .ptr m 0] σ (fun av σ' => av = .v (.bool true) ∧ σ = σ') := by
  have hke := keysNil_ok h hi.ok hn
  have hle := len_ok h
  have hde := depth_ok h
  have hge := fun key => get_ok (key := key) (t1 := .shut) h hi.ok hn
  have hl := hi.l
  have hmw := hi.len
  have hs := hi.ok.srt
  have hkv := hi.ok.kv
  have hll := hi.ok.l
  have hmr := hr.o
  obtain ⟨L, hL⟩ : ∃ L, L = G.s.l := ⟨_, rfl⟩
  rw [← hL] at hl
  simp only [← hL, hmw] at hke hle hde hge hs hkv hll
  rw [rmC, ← hl] at hmr
  have hlc := prsC_len L
  have hkc : (kysC (L.map (·.k))).length = L.length := by rw [kysC_len, List.length_map]
  have F := And.intro hmr (And.intro hlc (And.intro hkc (True.intro)))
  refine callsA_body Try.func27 rfl rfl rfl ?_; refine sr fun _ hJ2 => ?_; refine hJ2 _ _ ?_; refine sr fun _ hJ4 => ?_; refine ca (c := hke) (k := ?_); rintro _ _ ⟨rfl, rfl⟩; (repeat (first | simp [F] | simp (disch := omega) only [wC, if_pos, if_neg])); refine hJ4 _ _ ?_; refine sq fun K5 hK5 => ?_; refine sq fun K6 hK6 => ?_
  refine run_draw (by kernel_rfl) fun J7 hJ7 => ?_
  refine rp2 0 (k := ?_); refine rp2 1 (k := ?_); refine rp2 2 (k := ?_); refine rp2 3 (k := ?_); refine rp2 4 (k := ?_); refine rp2 5 (k := ?_); refine rp2 6 (k := ?_); refine rp2 7 (k := ?_); refine rp2 8 (k := ?_); refine rp2 9 (k := ?_); refine rp2 11 (k := ?_); refine rp2 12 (k := ?_); refine rp2 13 (k := ?_); refine rp2 14 (k := ?_); refine rp2 15 (k := ?_); refine dc 10 rfl (c := hle) (k := ?_); rintro _ _ ⟨rfl, rfl⟩
  refine ⟨by first | exact fun _ _ h => h | (refine later_list [15, 14, 13, 12, 11, 7, 6, 5, 4, 3, 2, 1, 0] (by kernel_rfl) (List.forall_mem_cons.2 ⟨fun _ => fact2 rfl rfl ?_, List.forall_mem_cons.2 ⟨fun _ => fact2 rfl rfl ?_, List.forall_mem_cons.2 ⟨fun _ => fact2 rfl rfl ?_, List.forall_mem_cons.2 ⟨fun _ => fact2 rfl rfl ?_, List.forall_mem_cons.2 ⟨fun _ => fact2 rfl rfl ?_, List.forall_mem_cons.2 ⟨fun _ => fact2 rfl rfl ?_, List.forall_mem_cons.2 ⟨fun _ => fact2 rfl rfl ?_, List.forall_mem_cons.2 ⟨fun _ => fact2 rfl rfl ?_, List.forall_mem_cons.2 ⟨fun _ => fact2 rfl rfl ?_, List.forall_mem_cons.2 ⟨fun _ => fact2 rfl rfl ?_, List.forall_mem_cons.2 ⟨fun _ => fact2 rfl rfl ?_, List.forall_mem_cons.2 ⟨fun _ => fact2 rfl rfl ?_, List.forall_mem_cons.2 ⟨fun _ => fact2 rfl rfl ?_, fun _ h => absurd h List.not_mem_nil⟩⟩⟩⟩⟩⟩⟩⟩⟩⟩⟩⟩⟩) <;> constructor <;> first | rfl | (simp [F]; done)), ?_⟩
  (repeat (first | simp [F] | simp (disch := omega) only [wC, if_pos, if_neg])); refine rp2 16 (k := ?_); refine rp2 17 (k := ?_); refine rp2 18 (k := ?_); refine rp2 19 (k := ?_); refine rp2 21 (k := ?_); refine rp2 22 (k := ?_); refine rp2 23 (k := ?_); refine rp2 24 (k := ?_); refine rp2 25 (k := ?_); refine dc 20 rfl (c := hde) (k := ?_); rintro _ _ ⟨rfl, rfl⟩
  refine ⟨by first | exact fun _ _ h => h | (refine later_list [25, 24, 23, 22, 21, 17, 16, 15, 14, 13, 12, 11, 7, 6, 5, 4, 3, 2, 1, 0] (by kernel_rfl) (List.forall_mem_cons.2 ⟨fun _ => fact2 rfl rfl ?_, List.forall_mem_cons.2 ⟨fun _ => fact2 rfl rfl ?_, List.forall_mem_cons.2 ⟨fun _ => fact2 rfl rfl ?_, List.forall_mem_cons.2 ⟨fun _ => fact2 rfl rfl ?_, List.forall_mem_cons.2 ⟨fun _ => fact2 rfl rfl ?_, List.forall_mem_cons.2 ⟨fun _ => fact2 rfl rfl ?_, List.forall_mem_cons.2 ⟨fun _ => fact2 rfl rfl ?_, List.forall_mem_cons.2 ⟨fun _ => fact2 rfl rfl ?_, List.forall_mem_cons.2 ⟨fun _ => fact2 rfl rfl ?_, List.forall_mem_cons.2 ⟨fun _ => fact2 rfl rfl ?_, List.forall_mem_cons.2 ⟨fun _ => fact2 rfl rfl ?_, List.forall_mem_cons.2 ⟨fun _ => fact2 rfl rfl ?_, List.forall_mem_cons.2 ⟨fun _ => fact2 rfl rfl ?_, List.forall_mem_cons.2 ⟨fun _ => fact2 rfl rfl ?_, List.forall_mem_cons.2 ⟨fun _ => fact2 rfl rfl ?_, List.forall_mem_cons.2 ⟨fun _ => fact2 rfl rfl ?_, List.forall_mem_cons.2 ⟨fun _ => fact2 rfl rfl ?_, List.forall_mem_cons.2 ⟨fun _ => fact2 rfl rfl ?_, List.forall_mem_cons.2 ⟨fun _ => fact2 rfl rfl ?_, List.forall_mem_cons.2 ⟨fun _ => fact2 rfl rfl ?_, fun _ h => absurd h List.not_mem_nil⟩⟩⟩⟩⟩⟩⟩⟩⟩⟩⟩⟩⟩⟩⟩⟩⟩⟩⟩⟩) <;> constructor <;> first | rfl | (simp [F]; done)), ?_⟩
  (repeat (first | simp [F] | simp (disch := omega) only [wC, if_pos, if_neg])); refine rp2 26 (k := ?_); refine rp2 27 (k := ?_); refine dd ?_; refine hJ7 _ _ ?_; refine hK6 _ _ ?_; refine cf ?_; refine run_skip ?_; refine hK5 _ _ ?_; refine sq fun K8 hK8 => ?_; refine sr fun _ hJ10 => ?_; refine hJ10 _ _ ?_; refine run_block_k ?_; refine run_loopF (X := Nat) [0, 1, 5] (fun i ρ σ1 => (i ≤ L.length) ∧ (ρ 6 = .v (.int .i64 i)) ∧ (σ1 = σ)) (fun i => L.length - i) (0) ?st1 ?rd1
  case st1 =>
   refine ⟨lp, lp, lp⟩
  case rd1 =>
   rintro i ρ1 σ1 hF1 ⟨h1, h5, hσ⟩; obtain rfl := hσ.symm
   have f1 := keepL hF1
   (try simp [KeepL, F] at f1); replace F := aF h5 F; (try replace F := aF f1 F); refine sq fun K11 hK11 => ?_; refine sr fun _ hJ13 => ?_; refine hJ13 _ _ ?_; refine cs (fun c42 => ?_) (fun c42 => ?_)
   · (try exact nope c42); all_goals have c42p := c42; try simp [F] at c42p
     all_goals
      replace F := aF c42 F; try replace F := aF c42p F
      have hlt : i < L.length := by have h := c42; simp at h; omega
      obtain ⟨x, hx⟩ : ∃ x, x = L[i] := ⟨_, rfl⟩
      have hxm : x ∈ L := by rw [hx]; exact List.getElem_mem _
      have hgx := hge x.k
      rw [getL_of_mem hs hxm] at hgx
      have hb := hkv x hxm
      have hat : (kysC (L.map (·.k)))[i]? = some (byC x.k) := by rw [kysC_at (by simpa using hlt)]; simp [hx]
      have hkE : ∀ h : i < (kysC (L.map (·.k))).length, (kysC (L.map (·.k)))[i]'h = .sl 1 (bytesA x.k) x.k.length .shut := fun h => (List.getElem?_eq_some_iff.1 hat).2
      have hpa := prsC_at hlt
      rw [← hx] at hpa
      have hatE : ∀ h : i * 2 < (prsC L).length, (prsC L)[i * 2]'h = .sl 1 (bytesA x.k) x.k.length .shut := fun h => (List.getElem?_eq_some_iff.1 hpa.1).2
      have hatV : ∀ h : i * 2 + 1 < (prsC L).length, (prsC L)[i * 2 + 1]'h = .sl 1 (bytesA x.v) x.v.length .shut := fun h => (List.getElem?_eq_some_iff.1 hpa.2).2
      have hb1 : i * 2 < L.length * 2 := by omega
      have hb2 : i * 2 + 1 < L.length * 2 := by omega
      have hi1 : i + 1 ≤ L.length := hlt
      simp only [byC] at hgx
      replace F := aF hlt (And.intro hkE (And.intro hatE (And.intro hatV (And.intro hb1 (And.intro hb2 (And.intro hi1 F)))))); refine run_skip ?_; refine hK11 _ _ ?_; refine sq fun K14 hK14 => ?_; refine run_block_k ?_; refine sr fun _ hJ16 => ?_; refine ca (c := hgx) (k := ?_); rintro _ _ ⟨rfl, rfl⟩; (repeat (first | simp [F] | simp (disch := omega) only [wC, if_pos, if_neg])); refine hJ16 _ _ ?_; refine sq fun K17 hK17 => ?_
      refine run_draw (by kernel_rfl) fun J18 hJ18 => ?_
      refine rp2 0 (k := ?_); refine rp2 1 (k := ?_); refine rp2 2 (k := ?_); refine rp2 3 (k := ?_); refine rp2 4 (k := ?_); refine rp2 5 (k := ?_); refine rp2 6 (k := ?_); refine rp2 7 (k := ?_); refine rp2 8 (k := ?_); refine rp2 9 (k := ?_); refine rp2 10 (k := ?_); refine rp2 11 (k := ?_); refine rp2 12 (k := ?_); refine rp2 13 (k := ?_); refine rp2 14 (k := ?_); refine dc 15 rfl (c := same_ok (p := x.k) (q := x.k) hb.1) (k := ?_); rintro _ _ ⟨rfl, rfl⟩
      refine ⟨by first | exact fun _ _ h => h | (refine later_list [13, 12, 11, 10, 9, 8, 7, 5, 4, 3, 1, 0] (by kernel_rfl) (List.forall_mem_cons.2 ⟨fun _ => fact2 rfl rfl ?_, List.forall_mem_cons.2 ⟨fun _ => fact2 rfl rfl ?_, List.forall_mem_cons.2 ⟨fun _ => fact2 rfl rfl ?_, List.forall_mem_cons.2 ⟨fun _ => fact2 rfl rfl ?_, List.forall_mem_cons.2 ⟨fun _ => fact2 rfl rfl ?_, List.forall_mem_cons.2 ⟨fun _ => fact2 rfl rfl ?_, List.forall_mem_cons.2 ⟨fun _ => fact2 rfl rfl ?_, List.forall_mem_cons.2 ⟨fun _ => fact2 rfl rfl ?_, List.forall_mem_cons.2 ⟨fun _ => fact2 rfl rfl ?_, List.forall_mem_cons.2 ⟨fun _ => fact2 rfl rfl ?_, List.forall_mem_cons.2 ⟨fun _ => fact2 rfl rfl ?_, List.forall_mem_cons.2 ⟨fun _ => fact2 rfl rfl ?_, fun _ h => absurd h List.not_mem_nil⟩⟩⟩⟩⟩⟩⟩⟩⟩⟩⟩⟩) <;> constructor <;> first | rfl | (simp [F]; done)), ?_⟩
      (repeat (first | simp [F] | simp (disch := omega) only [wC, if_pos, if_neg])); refine rp2 16 (k := ?_); refine rp2 17 (k := ?_); refine rp2 18 (k := ?_); refine rp2 19 (k := ?_); refine rp2 20 (k := ?_); refine rp2 21 (k := ?_); refine rp2 22 (k := ?_); refine rp2 23 (k := ?_); refine rp2 24 (k := ?_); refine rp2 25 (k := ?_); refine rp2 26 (k := ?_); refine rp2 27 (k := ?_); refine dc 28 rfl (c := same_ok (p := x.v) (q := x.v) hb.2) (k := ?_); rintro _ _ ⟨rfl, rfl⟩
      refine ⟨by first | exact fun _ _ h => h | (refine later_list [26, 25, 24, 23, 22, 21, 20, 17, 16, 13, 12, 11, 10, 9, 8, 7, 5, 4, 3, 1, 0] (by kernel_rfl) (List.forall_mem_cons.2 ⟨fun _ => fact2 rfl rfl ?_, List.forall_mem_cons.2 ⟨fun _ => fact2 rfl rfl ?_, List.forall_mem_cons.2 ⟨fun _ => fact2 rfl rfl ?_, List.forall_mem_cons.2 ⟨fun _ => fact2 rfl rfl ?_, List.forall_mem_cons.2 ⟨fun _ => fact2 rfl rfl ?_, List.forall_mem_cons.2 ⟨fun _ => fact2 rfl rfl ?_, List.forall_mem_cons.2 ⟨fun _ => fact2 rfl rfl ?_, List.forall_mem_cons.2 ⟨fun _ => fact2 rfl rfl ?_, List.forall_mem_cons.2 ⟨fun _ => fact2 rfl rfl ?_, List.forall_mem_cons.2 ⟨fun _ => fact2 rfl rfl ?_, List.forall_mem_cons.2 ⟨fun _ => fact2 rfl rfl ?_, List.forall_mem_cons.2 ⟨fun _ => fact2 rfl rfl ?_, List.forall_mem_cons.2 ⟨fun _ => fact2 rfl rfl ?_, List.forall_mem_cons.2 ⟨fun _ => fact2 rfl rfl ?_, List.forall_mem_cons.2 ⟨fun _ => fact2 rfl rfl ?_, List.forall_mem_cons.2 ⟨fun _ => fact2 rfl rfl ?_, List.forall_mem_cons.2 ⟨fun _ => fact2 rfl rfl ?_, List.forall_mem_cons.2 ⟨fun _ => fact2 rfl rfl ?_, List.forall_mem_cons.2 ⟨fun _ => fact2 rfl rfl ?_, List.forall_mem_cons.2 ⟨fun _ => fact2 rfl rfl ?_, List.forall_mem_cons.2 ⟨fun _ => fact2 rfl rfl ?_, fun _ h => absurd h List.not_mem_nil⟩⟩⟩⟩⟩⟩⟩⟩⟩⟩⟩⟩⟩⟩⟩⟩⟩⟩⟩⟩⟩) <;> constructor <;> first | rfl | (simp [F]; done)), ?_⟩
      (repeat (first | simp [F] | simp (disch := omega) only [wC, if_pos, if_neg])); refine rp2 29 (k := ?_); refine rp2 30 (k := ?_); refine dd ?_; refine hJ18 _ _ ?_; refine hK17 _ _ ?_; refine cf ?_; refine run_skip ?_; refine hK14 _ _ ?_; refine rg' (h := fun J19 hJ19 => ?_); refine hJ19 _ _ ?_; refine ⟨(i + 1), ⟨kp, lp, lp, lp⟩, lp⟩
   (try exact nope c42); all_goals have c42p := c42; try simp [F] at c42p
   all_goals
    replace F := aF c42 F; (try replace F := aF c42p F); refine run_exit ?_; refine hK8 _ _ ?_; refine sr fun _ hJ21 => ?_; refine hJ21 _ _ ?_; refine ra ?_; exact rt
set_option maxHeartbeats 1600000 in
attribute [local simp] undefA List.getElem?_cons_zero List.getElem?_cons_succ in
theorem does_any {σ : St} {o k m q n : Nat} {G : Sg} {M Mg : RS} {sg : Sto} {a : Ac} (h : HasS σ o k G) (hr : HasR σ m q M) (ha : Apart o k m q) (hi : R5 G.s Mg n) (hj : R5 sg M n) (hn : n ≤ 400000) (hf : a.Few) :
    CallsA Try.prog 23 [.ptr o 0, .ptr m 0, .agg (acC a)] σ (fun av σ' => ∃ G' b, G'.s = actS G.s a ∧ av = .v (.bool b) ∧ σ' = putR (putS σ o k G') m q (actR M a)) := by
  refine callsA_mono (Q := fun av σ' => ∃ x : Bool × Nat × Nat × Nat, av = .v (.bool x.1) ∧ σ' = putR (putS σ o k ⟨actS G.s a, x.2.1, x.2.2.1, x.2.2.2⟩) m q (actR M a)) ?_ (fun av σ' ⟨x, e1, e2⟩ => ⟨_, _, rfl, e1, e2⟩); refine callsA_gc2 (X := Bool × Nat × Nat × Nat) (A := fun x => .v (.bool x.1)) (T := fun x => ⟨actS G.s a, x.2.1, x.2.2.1, x.2.2.2⟩) (U := fun _ => actR M a) h hr (fun _ => rfl) ?_
  have f1 := hf.1
  have f2 := hf.2
  have hl := hj.l
  have hML : M.L.length ≤ n := by rw [← hl]; exact hj.ok.l
  have hMs : Srt M.L := by rw [← hl]; exact hj.ok.srt
  have hMk : ∀ p ∈ M.L, p.k.length ≤ 1000000 := fun p hp => (hj.ok.kv p (by rw [hl]; exact hp)).1
  have hMw : M.was.length ≤ 1000000 := by rw [← hj.len]; have := hj.ok.marks; omega
  obtain ⟨τ, hτ⟩ : ∃ τ, τ = { σ with objs := σ.objs ++ [acC a] } := ⟨_, rfl⟩
  have hS := h.app [acC a] σ.toks
  have hR := hr.app [acC a]
  rw [← hτ] at hR
  have hS : HasS τ o k G := by rw [hτ]; exact hS
  have hpa : ∀ (G' : Sg) (M' : RS), putR (putS τ o k G') m q M' = { putR (putS σ o k G') m q M' with objs := (putR (putS σ o k G') m q M').objs ++ [acC a], toks := σ.toks ++ [], rows := (putR (putS σ o k G') m q M').rows ++ [] } := fun G' M' => by
    have e1 := putS_app h G' [acC a]
    have e2 := putR_app (hr.putS ha G') M' [acC a]
    rw [hτ, e1, e2]; simp; rfl
  obtain ⟨r, hrd⟩ : ∃ r, r = a.d.toNat % 8 := ⟨_, rfl⟩
  have hr8 : r < 8 := by omega
  have hrem : ∀ xo yo, binA Try.prog .rem 5 xo yo (.v (.int .u8 (a.d.toNat : Nat))) (.v (.int .u8 8)) = some (.v (.int .u8 (r : Nat))) := fun xo yo => by rw [binA_rem (h := by decide), hrd]; rfl
  have ht : ∀ (S : Sto) (U : RS), actS G.s a = S → actR M a = U → ∀ (av : AV) (σ' : St) (c : Bool) (a1 a2 a3 : Nat), av = .v (.bool c) → σ' = putR (putS τ o k ⟨S, a1, a2, a3⟩) m q U →
      ∃ x : Bool × Nat × Nat × Nat, Wk av (.v (.bool x.1)) ∧ ∃ l t r, σ' = { putR (putS σ o k ⟨actS G.s a, x.2.1, x.2.2.1, x.2.2.2⟩) m q (actR M a) with objs := (putR (putS σ o k ⟨actS G.s a, x.2.1, x.2.2.1, x.2.2.2⟩) m q (actR M a)).objs ++ l, toks := σ.toks ++ t, rows := (putR (putS σ o k ⟨actS G.s a, x.2.1, x.2.2.1, x.2.2.2⟩) m q (actR M a)).rows ++ r } := fun S U e1 e2 av σ' c a1 a2 a3 e3 e4 => by
    subst e1 e2 e3 e4
    exact ⟨(c, a1, a2, a3), Wk.refl _, [acC a], [], [], hpa _ _⟩
  have k0 : r < 3 → actS G.s a = doS G.s a.k (some a.v) ∧ actR M a = ⟨setL M.L a.k (some a.v), M.was, M.g⟩ := fun h => by rw [hrd] at h; simp [actS, actR, h]
  have k3 : r = 3 → actS G.s a = doS G.s a.k none ∧ actR M a = ⟨setL M.L a.k none, M.was, M.g⟩ := fun h => by rw [hrd] at h; simp [actS, actR, h]
  have k4 : 3 < r → r < 6 → actS G.s a = beginS G.s ∧ actR M a = ⟨M.L, M.was ++ [M.L], M.g + 1⟩ := fun h h2 => by
    rw [hrd] at h h2; have h1 : ¬ a.d.toNat % 8 < 3 := by omega
    have h3 : ¬ a.d.toNat % 8 = 3 := by omega
    simp [actS, actR, h1, h2, h3]
  have k6 : r = 6 → actS G.s a = commitS G.s ∧ actR M a = endR M true := fun h => by
    rw [hrd] at h; simp [actS, actR, h]
  have k7 : 6 < r → actS G.s a = (if G.s.marks = [] then G.s else rollS G.s) ∧ actR M a = endR M false := fun h => by
    rw [hrd] at h; have h1 : ¬ a.d.toNat % 8 < 3 := by omega
    have h3 : ¬ a.d.toNat % 8 = 3 := by omega
    have h4 : ¬ a.d.toNat % 8 < 6 := by omega
    have h6 : ¬ a.d.toNat % 8 = 6 := by omega
    simp [actS, actR, h1, h3, h4, h6]
  have hset := set_ok (key := a.k) (val := a.v) (t1 := .shut) (t2 := .shut) hS hi.ok (by omega) (by omega) (by omega)
  have hdel := del_ok (key := a.k) (t1 := .shut) hS hi.ok (by omega) (by omega)
  have hbeg := begin_ok hS hi.ok (by omega)
  have hcom := commit_ok hS hi.ok (by omega)
  have hrs := fun (G' : Sg) V is hV => rsetR (key := a.k) (val := a.v) (V := V) (is := is) (hR.putS ha G') hMs hML (by omega) (by omega) hMk hV
  have hrs1 := fun (G' : Sg) => hrs G' _ true (fun _ => rfl)
  have hrs2 := fun (G' : Sg) => hrs G' (.sl 0 [] 0 .full) false (fun h => by cases h)
  have hrb := fun (G' : Sg) => rbeginR (hR.putS ha G') hMw
  have hre := fun (G' : Sg) stay => rendR (stay := stay) (hR.putS ha G') hMw
  have hro : ∃ b : Bool, b = decide (G.s.marks ≠ []) ∧ CallsA Try.prog 40 [.ptr o 0] τ (fun av σ' => ∃ G', G'.s = (if G.s.marks = [] then G.s else rollS G.s) ∧ av = .v (.bool b) ∧ σ' = putS τ o k G') := by
    refine ⟨_, rfl, ?_⟩
    by_cases hm : G.s.marks = []
    · refine callsA_mono (rollback_no hS hi.ok (by omega) hm) (fun av σ' ⟨e1, e2⟩ => ⟨G, by rw [if_pos hm], by rw [e1]; simp [hm], by rw [putS_self hS, e2]⟩)
    · refine callsA_mono (rollback_ok hS hi.ok (by omega) hm) (fun av σ' ⟨G', e0, e1, e2⟩ => ⟨G', by rw [if_neg hm, e0], by rw [e1]; simp [hm], e2⟩)
  obtain ⟨b, hb, hrol⟩ := hro
  rw [← hb] at hcom
  obtain ⟨b2, hb2⟩ : ∃ b : Bool, b = decide (M.was ≠ []) := ⟨_, rfl⟩
  simp only [← hb2] at hre
  have hgτ : τ.objs[σ.objs.length]? = some (acC a) := by rw [hτ]; simp
  have hoT : σ.objs ++ [acC a] = τ.objs := by rw [hτ]
  have hτ2 : τ.toks = σ.toks ∧ τ.gl = σ.gl ∧ τ.rows = σ.rows := by rw [hτ]; exact ⟨rfl, rfl, rfl⟩
  obtain ⟨t1, t2, t3⟩ := hτ2
  have heta : (⟨τ.objs, σ.toks, σ.gl, σ.rows⟩ : St) = τ := by rw [← t1, ← t2, ← t3]
  obtain ⟨ad, ak, av⟩ := a
  simp only [acC, byC] at *
  have F := And.intro hgτ (And.intro hoT (And.intro heta (And.intro hrem (True.intro))))
  refine callsA_body Try.func23 rfl rfl rfl ?_; refine sr fun _ hJ2 => ?_; refine hJ2 _ _ ?_; refine sq fun K3 hK3 => ?_
  refine run_draw (by kernel_rfl) fun J4 hJ4 => ?_
  refine rp2 0 (k := ?_); refine rp2 1 (k := ?_); refine rp2 3 (k := ?_); refine rp2 4 (k := ?_)
  refine dc 2 rfl (c := join0_ok (p := ak) (by omega)) (k := ?_)
  rintro _ _ ⟨rfl, rfl⟩
  refine ⟨by first | exact fun _ _ h => h | (refine later_list [4, 3, 0] (by kernel_rfl) (List.forall_mem_cons.2 ⟨fun _ => fact2 rfl rfl ?_, List.forall_mem_cons.2 ⟨fun _ => fact2 rfl rfl ?_, List.forall_mem_cons.2 ⟨fun _ => fact2 rfl rfl ?_, fun _ h => absurd h List.not_mem_nil⟩⟩⟩) <;> constructor <;> first | rfl | (simp [F]; done)), ?_⟩
  repeat (first | simp [F] | simp (disch := omega) only [wC, if_pos, if_neg])
  refine dc 5 rfl (c := join0_ok (p := av) (by omega)) (k := ?_)
  rintro _ _ ⟨rfl, rfl⟩
  refine ⟨by first | exact fun _ _ h => h | (refine later_list [3, 0] (by kernel_rfl) (List.forall_mem_cons.2 ⟨fun _ => fact2 rfl rfl ?_, List.forall_mem_cons.2 ⟨fun _ => fact2 rfl rfl ?_, fun _ h => absurd h List.not_mem_nil⟩⟩) <;> constructor <;> first | rfl | (simp [F]; done)), ?_⟩
  (repeat (first | simp [F] | simp (disch := omega) only [wC, if_pos, if_neg])); refine rp2 6 (k := ?_); refine rp2 7 (k := ?_); refine dd ?_; refine hJ4 _ _ ?_; refine hK3 _ _ ?_; refine sq fun K5 hK5 => ?_; refine sr fun _ hJ7 => ?_; refine hJ7 _ _ ?_; refine run_block_k ?_; refine sq fun K8 hK8 => ?_; refine sr fun _ hJ10 => ?_; refine hJ10 _ _ ?_; refine cs (fun c23 => ?_) (fun c23 => ?_)
  · (try exact nope c23); all_goals have c23p := c23; try simp [F] at c23p
    all_goals
     replace F := aF c23 F; (try replace F := aF c23p F); refine run_skip ?_; refine hK8 _ _ ?_; refine cs (fun c23 => ?_) (fun c23 => ?_)
     · (try exact nope c23); all_goals have c23p := c23; try simp [F] at c23p
       all_goals
        replace F := aF c23 F; (try replace F := aF c23p F); refine sr fun _ hJ12 => ?_; refine ca (c := hset) (k := ?_); rintro _ _ ⟨G', e0, rfl, rfl⟩; (repeat (first | simp [F] | simp (disch := omega) only [wC, if_pos, if_neg])); refine hJ12 _ _ ?_; refine rg' (h := fun J13 hJ13 => ?_); refine ca (c := hrs1 G') (k := ?_); rintro _ _ ⟨rfl, rfl⟩; (repeat (first | simp [F] | simp (disch := omega) only [wC, if_pos, if_neg])); refine hJ13 _ _ ?_; refine hK5 _ _ ?_; refine sr fun _ hJ15 => ?_; refine hJ15 _ _ ?_; refine ra ?_
        obtain ⟨gs, a1, a2, a3⟩ := G'
        simp only at e0
        subst e0
        first | exact ht _ _ (k0 (by omega)).1 (k0 (by omega)).2 _ _ true a1 a2 a3 (by simp [F]) rfl | exact ht _ _ (k3 (by omega)).1 (k3 (by omega)).2 _ _ true a1 a2 a3 (by simp [F]) rfl | exact ht _ _ (k4 (by omega) (by omega)).1 (k4 (by omega) (by omega)).2 _ _ true a1 a2 a3 (by simp [F]) rfl | exact ht _ _ (k6 (by omega)).1 (k6 (by omega)).2 _ _ (b == b2) a1 a2 a3 (by simp [F]) rfl | exact ht _ _ (k7 (by omega)).1 (k7 (by omega)).2 _ _ (b == b2) a1 a2 a3 (by simp [F]) rfl
     (try exact nope c23); all_goals have c23p := c23; try simp [F] at c23p
     all_goals
      replace F := aF c23 F; (try replace F := aF c23p F); refine sr fun _ hJ17 => ?_; refine hJ17 _ _ ?_; refine cs (fun c37 => ?_) (fun c37 => ?_)
      · (try exact nope c37); all_goals have c37p := c37; try simp [F] at c37p
        all_goals
         replace F := aF c37 F; (try replace F := aF c37p F); refine sr fun _ hJ19 => ?_; refine ca (c := hdel) (k := ?_); rintro _ _ ⟨G', e0, rfl, rfl⟩; (repeat (first | simp [F] | simp (disch := omega) only [wC, if_pos, if_neg])); refine hJ19 _ _ ?_; refine rg' (h := fun J20 hJ20 => ?_); refine ca (c := hrs2 G') (k := ?_); rintro _ _ ⟨rfl, rfl⟩; (repeat (first | simp [F] | simp (disch := omega) only [wC, if_pos, if_neg])); refine hJ20 _ _ ?_; refine hK5 _ _ ?_; refine sr fun _ hJ22 => ?_; refine hJ22 _ _ ?_; refine ra ?_
         obtain ⟨gs, a1, a2, a3⟩ := G'
         simp only at e0
         subst e0
         first | exact ht _ _ (k0 (by omega)).1 (k0 (by omega)).2 _ _ true a1 a2 a3 (by simp [F]) rfl | exact ht _ _ (k3 (by omega)).1 (k3 (by omega)).2 _ _ true a1 a2 a3 (by simp [F]) rfl | exact ht _ _ (k4 (by omega) (by omega)).1 (k4 (by omega) (by omega)).2 _ _ true a1 a2 a3 (by simp [F]) rfl | exact ht _ _ (k6 (by omega)).1 (k6 (by omega)).2 _ _ (b == b2) a1 a2 a3 (by simp [F]) rfl | exact ht _ _ (k7 (by omega)).1 (k7 (by omega)).2 _ _ (b == b2) a1 a2 a3 (by simp [F]) rfl
      (try exact nope c37); all_goals have c37p := c37; try simp [F] at c37p
      all_goals
       replace F := aF c37 F; (try replace F := aF c37p F); refine sq fun K23 hK23 => ?_; refine sr fun _ hJ25 => ?_; refine hJ25 _ _ ?_; refine cs (fun c46 => ?_) (fun c46 => ?_)
       · (try exact nope c46); all_goals have c46p := c46; try simp [F] at c46p
         all_goals
          replace F := aF c46 F; (try replace F := aF c46p F); refine run_skip ?_; refine hK23 _ _ ?_; refine cs (fun c46 => ?_) (fun c46 => ?_)
          · (try exact nope c46); all_goals have c46p := c46; try simp [F] at c46p
            all_goals
             replace F := aF c46 F; (try replace F := aF c46p F); refine sr fun _ hJ27 => ?_; refine ca (c := hbeg) (k := ?_); rintro _ _ ⟨G', e0, rfl, rfl⟩; (repeat (first | simp [F] | simp (disch := omega) only [wC, if_pos, if_neg])); refine hJ27 _ _ ?_; refine rg' (h := fun J28 hJ28 => ?_); refine ca (c := hrb G') (k := ?_); rintro _ _ ⟨rfl, rfl⟩; (repeat (first | simp [F] | simp (disch := omega) only [wC, if_pos, if_neg])); refine hJ28 _ _ ?_; refine hK5 _ _ ?_; refine sr fun _ hJ30 => ?_; refine hJ30 _ _ ?_; refine ra ?_
             obtain ⟨gs, a1, a2, a3⟩ := G'
             simp only at e0
             subst e0
             first | exact ht _ _ (k0 (by omega)).1 (k0 (by omega)).2 _ _ true a1 a2 a3 (by simp [F]) rfl | exact ht _ _ (k3 (by omega)).1 (k3 (by omega)).2 _ _ true a1 a2 a3 (by simp [F]) rfl | exact ht _ _ (k4 (by omega) (by omega)).1 (k4 (by omega) (by omega)).2 _ _ true a1 a2 a3 (by simp [F]) rfl | exact ht _ _ (k6 (by omega)).1 (k6 (by omega)).2 _ _ (b == b2) a1 a2 a3 (by simp [F]) rfl | exact ht _ _ (k7 (by omega)).1 (k7 (by omega)).2 _ _ (b == b2) a1 a2 a3 (by simp [F]) rfl
          (try exact nope c46); all_goals have c46p := c46; try simp [F] at c46p
          all_goals
           replace F := aF c46 F; (try replace F := aF c46p F); refine sr fun _ hJ32 => ?_; refine hJ32 _ _ ?_; refine cs (fun c53 => ?_) (fun c53 => ?_)
           · (try exact nope c53); all_goals have c53p := c53; try simp [F] at c53p
             all_goals
              replace F := aF c53 F; (try replace F := aF c53p F); refine sr fun _ hJ34 => ?_; refine ca (c := hcom) (k := ?_); rintro _ _ ⟨G', e0, rfl, rfl⟩; (repeat (first | simp [F] | simp (disch := omega) only [wC, if_pos, if_neg])); refine ca (c := hre G' true) (k := ?_); rintro _ _ ⟨rfl, rfl⟩; (repeat (first | simp [F] | simp (disch := omega) only [wC, if_pos, if_neg])); refine hJ34 _ _ ?_; refine ra ?_
              obtain ⟨gs, a1, a2, a3⟩ := G'
              simp only at e0
              subst e0
              first | exact ht _ _ (k0 (by omega)).1 (k0 (by omega)).2 _ _ true a1 a2 a3 (by simp [F]) rfl | exact ht _ _ (k3 (by omega)).1 (k3 (by omega)).2 _ _ true a1 a2 a3 (by simp [F]) rfl | exact ht _ _ (k4 (by omega) (by omega)).1 (k4 (by omega) (by omega)).2 _ _ true a1 a2 a3 (by simp [F]) rfl | exact ht _ _ (k6 (by omega)).1 (k6 (by omega)).2 _ _ (b == b2) a1 a2 a3 (by simp [F]) rfl | exact ht _ _ (k7 (by omega)).1 (k7 (by omega)).2 _ _ (b == b2) a1 a2 a3 (by simp [F]) rfl
           (try exact nope c53); all_goals have c53p := c53; try simp [F] at c53p
           all_goals
            replace F := aF c53 F; (try replace F := aF c53p F); refine sr fun _ hJ36 => ?_; refine ca (c := hrol) (k := ?_); rintro _ _ ⟨G', e0, rfl, rfl⟩; (repeat (first | simp [F] | simp (disch := omega) only [wC, if_pos, if_neg])); refine ca (c := hre G' false) (k := ?_); rintro _ _ ⟨rfl, rfl⟩; (repeat (first | simp [F] | simp (disch := omega) only [wC, if_pos, if_neg])); refine hJ36 _ _ ?_; refine ra ?_
            obtain ⟨gs, a1, a2, a3⟩ := G'
            simp only at e0
            subst e0
            first | exact ht _ _ (k0 (by omega)).1 (k0 (by omega)).2 _ _ true a1 a2 a3 (by simp [F]) rfl | exact ht _ _ (k3 (by omega)).1 (k3 (by omega)).2 _ _ true a1 a2 a3 (by simp [F]) rfl | exact ht _ _ (k4 (by omega) (by omega)).1 (k4 (by omega) (by omega)).2 _ _ true a1 a2 a3 (by simp [F]) rfl | exact ht _ _ (k6 (by omega)).1 (k6 (by omega)).2 _ _ (b == b2) a1 a2 a3 (by simp [F]) rfl | exact ht _ _ (k7 (by omega)).1 (k7 (by omega)).2 _ _ (b == b2) a1 a2 a3 (by simp [F]) rfl
       (try exact nope c46); all_goals have c46p := c46; try simp [F] at c46p
       all_goals
        replace F := aF c46 F; (try replace F := aF c46p F); refine rg' (h := fun J37 hJ37 => ?_); refine hJ37 _ _ ?_; refine hK23 _ _ ?_; refine cs (fun c46 => ?_) (fun c46 => ?_)
        · (try exact nope c46); all_goals have c46p := c46; try simp [F] at c46p
          all_goals
           replace F := aF c46 F; (try replace F := aF c46p F); refine sr fun _ hJ39 => ?_; refine ca (c := hbeg) (k := ?_); rintro _ _ ⟨G', e0, rfl, rfl⟩; (repeat (first | simp [F] | simp (disch := omega) only [wC, if_pos, if_neg])); refine hJ39 _ _ ?_; refine rg' (h := fun J40 hJ40 => ?_); refine ca (c := hrb G') (k := ?_); rintro _ _ ⟨rfl, rfl⟩; (repeat (first | simp [F] | simp (disch := omega) only [wC, if_pos, if_neg])); refine hJ40 _ _ ?_; refine hK5 _ _ ?_; refine sr fun _ hJ42 => ?_; refine hJ42 _ _ ?_; refine ra ?_
           obtain ⟨gs, a1, a2, a3⟩ := G'
           simp only at e0
           subst e0
           first | exact ht _ _ (k0 (by omega)).1 (k0 (by omega)).2 _ _ true a1 a2 a3 (by simp [F]) rfl | exact ht _ _ (k3 (by omega)).1 (k3 (by omega)).2 _ _ true a1 a2 a3 (by simp [F]) rfl | exact ht _ _ (k4 (by omega) (by omega)).1 (k4 (by omega) (by omega)).2 _ _ true a1 a2 a3 (by simp [F]) rfl | exact ht _ _ (k6 (by omega)).1 (k6 (by omega)).2 _ _ (b == b2) a1 a2 a3 (by simp [F]) rfl | exact ht _ _ (k7 (by omega)).1 (k7 (by omega)).2 _ _ (b == b2) a1 a2 a3 (by simp [F]) rfl
        (try exact nope c46); all_goals have c46p := c46; try simp [F] at c46p
        all_goals
         replace F := aF c46 F; (try replace F := aF c46p F); refine sr fun _ hJ44 => ?_; refine hJ44 _ _ ?_; refine cs (fun c53 => ?_) (fun c53 => ?_)
         · (try exact nope c53); all_goals have c53p := c53; try simp [F] at c53p
           all_goals
            replace F := aF c53 F; (try replace F := aF c53p F); refine sr fun _ hJ46 => ?_; refine ca (c := hcom) (k := ?_); rintro _ _ ⟨G', e0, rfl, rfl⟩; (repeat (first | simp [F] | simp (disch := omega) only [wC, if_pos, if_neg])); refine ca (c := hre G' true) (k := ?_); rintro _ _ ⟨rfl, rfl⟩; (repeat (first | simp [F] | simp (disch := omega) only [wC, if_pos, if_neg])); refine hJ46 _ _ ?_; refine ra ?_
            obtain ⟨gs, a1, a2, a3⟩ := G'
            simp only at e0
            subst e0
            first | exact ht _ _ (k0 (by omega)).1 (k0 (by omega)).2 _ _ true a1 a2 a3 (by simp [F]) rfl | exact ht _ _ (k3 (by omega)).1 (k3 (by omega)).2 _ _ true a1 a2 a3 (by simp [F]) rfl | exact ht _ _ (k4 (by omega) (by omega)).1 (k4 (by omega) (by omega)).2 _ _ true a1 a2 a3 (by simp [F]) rfl | exact ht _ _ (k6 (by omega)).1 (k6 (by omega)).2 _ _ (b == b2) a1 a2 a3 (by simp [F]) rfl | exact ht _ _ (k7 (by omega)).1 (k7 (by omega)).2 _ _ (b == b2) a1 a2 a3 (by simp [F]) rfl
         (try exact nope c53); all_goals have c53p := c53; try simp [F] at c53p
         all_goals
          replace F := aF c53 F; (try replace F := aF c53p F); refine sr fun _ hJ48 => ?_; refine ca (c := hrol) (k := ?_); rintro _ _ ⟨G', e0, rfl, rfl⟩; (repeat (first | simp [F] | simp (disch := omega) only [wC, if_pos, if_neg])); refine ca (c := hre G' false) (k := ?_); rintro _ _ ⟨rfl, rfl⟩; (repeat (first | simp [F] | simp (disch := omega) only [wC, if_pos, if_neg])); refine hJ48 _ _ ?_; refine ra ?_
          obtain ⟨gs, a1, a2, a3⟩ := G'
          simp only at e0
          subst e0
          first | exact ht _ _ (k0 (by omega)).1 (k0 (by omega)).2 _ _ true a1 a2 a3 (by simp [F]) rfl | exact ht _ _ (k3 (by omega)).1 (k3 (by omega)).2 _ _ true a1 a2 a3 (by simp [F]) rfl | exact ht _ _ (k4 (by omega) (by omega)).1 (k4 (by omega) (by omega)).2 _ _ true a1 a2 a3 (by simp [F]) rfl | exact ht _ _ (k6 (by omega)).1 (k6 (by omega)).2 _ _ (b == b2) a1 a2 a3 (by simp [F]) rfl | exact ht _ _ (k7 (by omega)).1 (k7 (by omega)).2 _ _ (b == b2) a1 a2 a3 (by simp [F]) rfl
  (try exact nope c23); all_goals have c23p := c23; try simp [F] at c23p
  all_goals
   replace F := aF c23 F; (try replace F := aF c23p F); refine sr fun _ hJ50 => ?_; refine hJ50 _ _ ?_; refine cs (fun c23 => ?_) (fun c23 => ?_)
   · (try exact nope c23); all_goals have c23p := c23; try simp [F] at c23p
     all_goals
      replace F := aF c23 F; (try replace F := aF c23p F); refine run_skip ?_; refine hK8 _ _ ?_; refine cs (fun c23 => ?_) (fun c23 => ?_)
      · (try exact nope c23); all_goals have c23p := c23; try simp [F] at c23p
        all_goals
         replace F := aF c23 F; (try replace F := aF c23p F); refine sr fun _ hJ52 => ?_; refine ca (c := hset) (k := ?_); rintro _ _ ⟨G', e0, rfl, rfl⟩; (repeat (first | simp [F] | simp (disch := omega) only [wC, if_pos, if_neg])); refine hJ52 _ _ ?_; refine rg' (h := fun J53 hJ53 => ?_); refine ca (c := hrs1 G') (k := ?_); rintro _ _ ⟨rfl, rfl⟩; (repeat (first | simp [F] | simp (disch := omega) only [wC, if_pos, if_neg])); refine hJ53 _ _ ?_; refine hK5 _ _ ?_; refine sr fun _ hJ55 => ?_; refine hJ55 _ _ ?_; refine ra ?_
         obtain ⟨gs, a1, a2, a3⟩ := G'
         simp only at e0
         subst e0
         first | exact ht _ _ (k0 (by omega)).1 (k0 (by omega)).2 _ _ true a1 a2 a3 (by simp [F]) rfl | exact ht _ _ (k3 (by omega)).1 (k3 (by omega)).2 _ _ true a1 a2 a3 (by simp [F]) rfl | exact ht _ _ (k4 (by omega) (by omega)).1 (k4 (by omega) (by omega)).2 _ _ true a1 a2 a3 (by simp [F]) rfl | exact ht _ _ (k6 (by omega)).1 (k6 (by omega)).2 _ _ (b == b2) a1 a2 a3 (by simp [F]) rfl | exact ht _ _ (k7 (by omega)).1 (k7 (by omega)).2 _ _ (b == b2) a1 a2 a3 (by simp [F]) rfl
      (try exact nope c23); all_goals have c23p := c23; try simp [F] at c23p
      all_goals
       replace F := aF c23 F; (try replace F := aF c23p F); refine sr fun _ hJ57 => ?_; refine hJ57 _ _ ?_; refine cs (fun c37 => ?_) (fun c37 => ?_)
       · (try exact nope c37); all_goals have c37p := c37; try simp [F] at c37p
         all_goals
          replace F := aF c37 F; (try replace F := aF c37p F); refine sr fun _ hJ59 => ?_; refine ca (c := hdel) (k := ?_); rintro _ _ ⟨G', e0, rfl, rfl⟩; (repeat (first | simp [F] | simp (disch := omega) only [wC, if_pos, if_neg])); refine hJ59 _ _ ?_; refine rg' (h := fun J60 hJ60 => ?_); refine ca (c := hrs2 G') (k := ?_); rintro _ _ ⟨rfl, rfl⟩; (repeat (first | simp [F] | simp (disch := omega) only [wC, if_pos, if_neg])); refine hJ60 _ _ ?_; refine hK5 _ _ ?_; refine sr fun _ hJ62 => ?_; refine hJ62 _ _ ?_; refine ra ?_
          obtain ⟨gs, a1, a2, a3⟩ := G'
          simp only at e0
          subst e0
          first | exact ht _ _ (k0 (by omega)).1 (k0 (by omega)).2 _ _ true a1 a2 a3 (by simp [F]) rfl | exact ht _ _ (k3 (by omega)).1 (k3 (by omega)).2 _ _ true a1 a2 a3 (by simp [F]) rfl | exact ht _ _ (k4 (by omega) (by omega)).1 (k4 (by omega) (by omega)).2 _ _ true a1 a2 a3 (by simp [F]) rfl | exact ht _ _ (k6 (by omega)).1 (k6 (by omega)).2 _ _ (b == b2) a1 a2 a3 (by simp [F]) rfl | exact ht _ _ (k7 (by omega)).1 (k7 (by omega)).2 _ _ (b == b2) a1 a2 a3 (by simp [F]) rfl
       (try exact nope c37); all_goals have c37p := c37; try simp [F] at c37p
       all_goals
        replace F := aF c37 F; (try replace F := aF c37p F); refine sq fun K63 hK63 => ?_; refine sr fun _ hJ65 => ?_; refine hJ65 _ _ ?_; refine cs (fun c46 => ?_) (fun c46 => ?_)
        · (try exact nope c46); all_goals have c46p := c46; try simp [F] at c46p
          all_goals
           replace F := aF c46 F; (try replace F := aF c46p F); refine run_skip ?_; refine hK63 _ _ ?_; refine cs (fun c46 => ?_) (fun c46 => ?_)
           · (try exact nope c46); all_goals have c46p := c46; try simp [F] at c46p
             all_goals
              replace F := aF c46 F; (try replace F := aF c46p F); refine sr fun _ hJ67 => ?_; refine ca (c := hbeg) (k := ?_); rintro _ _ ⟨G', e0, rfl, rfl⟩; (repeat (first | simp [F] | simp (disch := omega) only [wC, if_pos, if_neg])); refine hJ67 _ _ ?_; refine rg' (h := fun J68 hJ68 => ?_); refine ca (c := hrb G') (k := ?_); rintro _ _ ⟨rfl, rfl⟩; (repeat (first | simp [F] | simp (disch := omega) only [wC, if_pos, if_neg])); refine hJ68 _ _ ?_; refine hK5 _ _ ?_; refine sr fun _ hJ70 => ?_; refine hJ70 _ _ ?_; refine ra ?_
              obtain ⟨gs, a1, a2, a3⟩ := G'
              simp only at e0
              subst e0
              first | exact ht _ _ (k0 (by omega)).1 (k0 (by omega)).2 _ _ true a1 a2 a3 (by simp [F]) rfl | exact ht _ _ (k3 (by omega)).1 (k3 (by omega)).2 _ _ true a1 a2 a3 (by simp [F]) rfl | exact ht _ _ (k4 (by omega) (by omega)).1 (k4 (by omega) (by omega)).2 _ _ true a1 a2 a3 (by simp [F]) rfl | exact ht _ _ (k6 (by omega)).1 (k6 (by omega)).2 _ _ (b == b2) a1 a2 a3 (by simp [F]) rfl | exact ht _ _ (k7 (by omega)).1 (k7 (by omega)).2 _ _ (b == b2) a1 a2 a3 (by simp [F]) rfl
           (try exact nope c46); all_goals have c46p := c46; try simp [F] at c46p
           all_goals
            replace F := aF c46 F; (try replace F := aF c46p F); refine sr fun _ hJ72 => ?_; refine hJ72 _ _ ?_; refine cs (fun c53 => ?_) (fun c53 => ?_)
            · (try exact nope c53); all_goals have c53p := c53; try simp [F] at c53p
              all_goals
               replace F := aF c53 F; (try replace F := aF c53p F); refine sr fun _ hJ74 => ?_; refine ca (c := hcom) (k := ?_); rintro _ _ ⟨G', e0, rfl, rfl⟩; (repeat (first | simp [F] | simp (disch := omega) only [wC, if_pos, if_neg])); refine ca (c := hre G' true) (k := ?_); rintro _ _ ⟨rfl, rfl⟩; (repeat (first | simp [F] | simp (disch := omega) only [wC, if_pos, if_neg])); refine hJ74 _ _ ?_; refine ra ?_
               obtain ⟨gs, a1, a2, a3⟩ := G'
               simp only at e0
               subst e0
               first | exact ht _ _ (k0 (by omega)).1 (k0 (by omega)).2 _ _ true a1 a2 a3 (by simp [F]) rfl | exact ht _ _ (k3 (by omega)).1 (k3 (by omega)).2 _ _ true a1 a2 a3 (by simp [F]) rfl | exact ht _ _ (k4 (by omega) (by omega)).1 (k4 (by omega) (by omega)).2 _ _ true a1 a2 a3 (by simp [F]) rfl | exact ht _ _ (k6 (by omega)).1 (k6 (by omega)).2 _ _ (b == b2) a1 a2 a3 (by simp [F]) rfl | exact ht _ _ (k7 (by omega)).1 (k7 (by omega)).2 _ _ (b == b2) a1 a2 a3 (by simp [F]) rfl
            (try exact nope c53); all_goals have c53p := c53; try simp [F] at c53p
            all_goals
             replace F := aF c53 F; (try replace F := aF c53p F); refine sr fun _ hJ76 => ?_; refine ca (c := hrol) (k := ?_); rintro _ _ ⟨G', e0, rfl, rfl⟩; (repeat (first | simp [F] | simp (disch := omega) only [wC, if_pos, if_neg])); refine ca (c := hre G' false) (k := ?_); rintro _ _ ⟨rfl, rfl⟩; (repeat (first | simp [F] | simp (disch := omega) only [wC, if_pos, if_neg])); refine hJ76 _ _ ?_; refine ra ?_
             obtain ⟨gs, a1, a2, a3⟩ := G'
             simp only at e0
             subst e0
             first | exact ht _ _ (k0 (by omega)).1 (k0 (by omega)).2 _ _ true a1 a2 a3 (by simp [F]) rfl | exact ht _ _ (k3 (by omega)).1 (k3 (by omega)).2 _ _ true a1 a2 a3 (by simp [F]) rfl | exact ht _ _ (k4 (by omega) (by omega)).1 (k4 (by omega) (by omega)).2 _ _ true a1 a2 a3 (by simp [F]) rfl | exact ht _ _ (k6 (by omega)).1 (k6 (by omega)).2 _ _ (b == b2) a1 a2 a3 (by simp [F]) rfl | exact ht _ _ (k7 (by omega)).1 (k7 (by omega)).2 _ _ (b == b2) a1 a2 a3 (by simp [F]) rfl
        (try exact nope c46); all_goals have c46p := c46; try simp [F] at c46p
        all_goals
         replace F := aF c46 F; (try replace F := aF c46p F); refine rg' (h := fun J77 hJ77 => ?_); refine hJ77 _ _ ?_; refine hK63 _ _ ?_; refine cs (fun c46 => ?_) (fun c46 => ?_)
         · (try exact nope c46); all_goals have c46p := c46; try simp [F] at c46p
           all_goals
            replace F := aF c46 F; (try replace F := aF c46p F); refine sr fun _ hJ79 => ?_; refine ca (c := hbeg) (k := ?_); rintro _ _ ⟨G', e0, rfl, rfl⟩; (repeat (first | simp [F] | simp (disch := omega) only [wC, if_pos, if_neg])); refine hJ79 _ _ ?_; refine rg' (h := fun J80 hJ80 => ?_); refine ca (c := hrb G') (k := ?_); rintro _ _ ⟨rfl, rfl⟩; (repeat (first | simp [F] | simp (disch := omega) only [wC, if_pos, if_neg])); refine hJ80 _ _ ?_; refine hK5 _ _ ?_; refine sr fun _ hJ82 => ?_; refine hJ82 _ _ ?_; refine ra ?_
            obtain ⟨gs, a1, a2, a3⟩ := G'
            simp only at e0
            subst e0
            first | exact ht _ _ (k0 (by omega)).1 (k0 (by omega)).2 _ _ true a1 a2 a3 (by simp [F]) rfl | exact ht _ _ (k3 (by omega)).1 (k3 (by omega)).2 _ _ true a1 a2 a3 (by simp [F]) rfl | exact ht _ _ (k4 (by omega) (by omega)).1 (k4 (by omega) (by omega)).2 _ _ true a1 a2 a3 (by simp [F]) rfl | exact ht _ _ (k6 (by omega)).1 (k6 (by omega)).2 _ _ (b == b2) a1 a2 a3 (by simp [F]) rfl | exact ht _ _ (k7 (by omega)).1 (k7 (by omega)).2 _ _ (b == b2) a1 a2 a3 (by simp [F]) rfl
         (try exact nope c46); all_goals have c46p := c46; try simp [F] at c46p
         all_goals
          replace F := aF c46 F; (try replace F := aF c46p F); refine sr fun _ hJ84 => ?_; refine hJ84 _ _ ?_; refine cs (fun c53 => ?_) (fun c53 => ?_)
          · (try exact nope c53); all_goals have c53p := c53; try simp [F] at c53p
            all_goals
             replace F := aF c53 F; (try replace F := aF c53p F); refine sr fun _ hJ86 => ?_; refine ca (c := hcom) (k := ?_); rintro _ _ ⟨G', e0, rfl, rfl⟩; (repeat (first | simp [F] | simp (disch := omega) only [wC, if_pos, if_neg])); refine ca (c := hre G' true) (k := ?_); rintro _ _ ⟨rfl, rfl⟩; (repeat (first | simp [F] | simp (disch := omega) only [wC, if_pos, if_neg])); refine hJ86 _ _ ?_; refine ra ?_
             obtain ⟨gs, a1, a2, a3⟩ := G'
             simp only at e0
             subst e0
             first | exact ht _ _ (k0 (by omega)).1 (k0 (by omega)).2 _ _ true a1 a2 a3 (by simp [F]) rfl | exact ht _ _ (k3 (by omega)).1 (k3 (by omega)).2 _ _ true a1 a2 a3 (by simp [F]) rfl | exact ht _ _ (k4 (by omega) (by omega)).1 (k4 (by omega) (by omega)).2 _ _ true a1 a2 a3 (by simp [F]) rfl | exact ht _ _ (k6 (by omega)).1 (k6 (by omega)).2 _ _ (b == b2) a1 a2 a3 (by simp [F]) rfl | exact ht _ _ (k7 (by omega)).1 (k7 (by omega)).2 _ _ (b == b2) a1 a2 a3 (by simp [F]) rfl
          (try exact nope c53); all_goals have c53p := c53; try simp [F] at c53p
          all_goals
           replace F := aF c53 F; (try replace F := aF c53p F); refine sr fun _ hJ88 => ?_; refine ca (c := hrol) (k := ?_); rintro _ _ ⟨G', e0, rfl, rfl⟩; (repeat (first | simp [F] | simp (disch := omega) only [wC, if_pos, if_neg])); refine ca (c := hre G' false) (k := ?_); rintro _ _ ⟨rfl, rfl⟩; (repeat (first | simp [F] | simp (disch := omega) only [wC, if_pos, if_neg])); refine hJ88 _ _ ?_; refine ra ?_
           obtain ⟨gs, a1, a2, a3⟩ := G'
           simp only at e0
           subst e0
           first | exact ht _ _ (k0 (by omega)).1 (k0 (by omega)).2 _ _ true a1 a2 a3 (by simp [F]) rfl | exact ht _ _ (k3 (by omega)).1 (k3 (by omega)).2 _ _ true a1 a2 a3 (by simp [F]) rfl | exact ht _ _ (k4 (by omega) (by omega)).1 (k4 (by omega) (by omega)).2 _ _ true a1 a2 a3 (by simp [F]) rfl | exact ht _ _ (k6 (by omega)).1 (k6 (by omega)).2 _ _ (b == b2) a1 a2 a3 (by simp [F]) rfl | exact ht _ _ (k7 (by omega)).1 (k7 (by omega)).2 _ _ (b == b2) a1 a2 a3 (by simp [F]) rfl
   (try exact nope c23); all_goals have c23p := c23; try simp [F] at c23p
   all_goals
    replace F := aF c23 F; (try replace F := aF c23p F); refine rg' (h := fun J89 hJ89 => ?_); refine hJ89 _ _ ?_; refine hK8 _ _ ?_; refine cs (fun c23 => ?_) (fun c23 => ?_)
    · (try exact nope c23); all_goals have c23p := c23; try simp [F] at c23p
      all_goals
       replace F := aF c23 F; (try replace F := aF c23p F); refine sr fun _ hJ91 => ?_; refine ca (c := hset) (k := ?_); rintro _ _ ⟨G', e0, rfl, rfl⟩; (repeat (first | simp [F] | simp (disch := omega) only [wC, if_pos, if_neg])); refine hJ91 _ _ ?_; refine rg' (h := fun J92 hJ92 => ?_); refine ca (c := hrs1 G') (k := ?_); rintro _ _ ⟨rfl, rfl⟩; (repeat (first | simp [F] | simp (disch := omega) only [wC, if_pos, if_neg])); refine hJ92 _ _ ?_; refine hK5 _ _ ?_; refine sr fun _ hJ94 => ?_; refine hJ94 _ _ ?_; refine ra ?_
       obtain ⟨gs, a1, a2, a3⟩ := G'
       simp only at e0
       subst e0
       first | exact ht _ _ (k0 (by omega)).1 (k0 (by omega)).2 _ _ true a1 a2 a3 (by simp [F]) rfl | exact ht _ _ (k3 (by omega)).1 (k3 (by omega)).2 _ _ true a1 a2 a3 (by simp [F]) rfl | exact ht _ _ (k4 (by omega) (by omega)).1 (k4 (by omega) (by omega)).2 _ _ true a1 a2 a3 (by simp [F]) rfl | exact ht _ _ (k6 (by omega)).1 (k6 (by omega)).2 _ _ (b == b2) a1 a2 a3 (by simp [F]) rfl | exact ht _ _ (k7 (by omega)).1 (k7 (by omega)).2 _ _ (b == b2) a1 a2 a3 (by simp [F]) rfl
    (try exact nope c23); all_goals have c23p := c23; try simp [F] at c23p
    all_goals
     replace F := aF c23 F; (try replace F := aF c23p F); refine sr fun _ hJ96 => ?_; refine hJ96 _ _ ?_; refine cs (fun c37 => ?_) (fun c37 => ?_)
     · (try exact nope c37); all_goals have c37p := c37; try simp [F] at c37p
       all_goals
        replace F := aF c37 F; (try replace F := aF c37p F); refine sr fun _ hJ98 => ?_; refine ca (c := hdel) (k := ?_); rintro _ _ ⟨G', e0, rfl, rfl⟩; (repeat (first | simp [F] | simp (disch := omega) only [wC, if_pos, if_neg])); refine hJ98 _ _ ?_; refine rg' (h := fun J99 hJ99 => ?_); refine ca (c := hrs2 G') (k := ?_); rintro _ _ ⟨rfl, rfl⟩; (repeat (first | simp [F] | simp (disch := omega) only [wC, if_pos, if_neg])); refine hJ99 _ _ ?_; refine hK5 _ _ ?_; refine sr fun _ hJ101 => ?_; refine hJ101 _ _ ?_; refine ra ?_
        obtain ⟨gs, a1, a2, a3⟩ := G'
        simp only at e0
        subst e0
        first | exact ht _ _ (k0 (by omega)).1 (k0 (by omega)).2 _ _ true a1 a2 a3 (by simp [F]) rfl | exact ht _ _ (k3 (by omega)).1 (k3 (by omega)).2 _ _ true a1 a2 a3 (by simp [F]) rfl | exact ht _ _ (k4 (by omega) (by omega)).1 (k4 (by omega) (by omega)).2 _ _ true a1 a2 a3 (by simp [F]) rfl | exact ht _ _ (k6 (by omega)).1 (k6 (by omega)).2 _ _ (b == b2) a1 a2 a3 (by simp [F]) rfl | exact ht _ _ (k7 (by omega)).1 (k7 (by omega)).2 _ _ (b == b2) a1 a2 a3 (by simp [F]) rfl
     (try exact nope c37); all_goals have c37p := c37; try simp [F] at c37p
     all_goals
      replace F := aF c37 F; (try replace F := aF c37p F); refine sq fun K102 hK102 => ?_; refine sr fun _ hJ104 => ?_; refine hJ104 _ _ ?_; refine cs (fun c46 => ?_) (fun c46 => ?_)
      · (try exact nope c46); all_goals have c46p := c46; try simp [F] at c46p
        all_goals
         replace F := aF c46 F; (try replace F := aF c46p F); refine run_skip ?_; refine hK102 _ _ ?_; refine cs (fun c46 => ?_) (fun c46 => ?_)
         · (try exact nope c46); all_goals have c46p := c46; try simp [F] at c46p
           all_goals
            replace F := aF c46 F; (try replace F := aF c46p F); refine sr fun _ hJ106 => ?_; refine ca (c := hbeg) (k := ?_); rintro _ _ ⟨G', e0, rfl, rfl⟩; (repeat (first | simp [F] | simp (disch := omega) only [wC, if_pos, if_neg])); refine hJ106 _ _ ?_; refine rg' (h := fun J107 hJ107 => ?_); refine ca (c := hrb G') (k := ?_); rintro _ _ ⟨rfl, rfl⟩; (repeat (first | simp [F] | simp (disch := omega) only [wC, if_pos, if_neg])); refine hJ107 _ _ ?_; refine hK5 _ _ ?_; refine sr fun _ hJ109 => ?_; refine hJ109 _ _ ?_; refine ra ?_
            obtain ⟨gs, a1, a2, a3⟩ := G'
            simp only at e0
            subst e0
            first | exact ht _ _ (k0 (by omega)).1 (k0 (by omega)).2 _ _ true a1 a2 a3 (by simp [F]) rfl | exact ht _ _ (k3 (by omega)).1 (k3 (by omega)).2 _ _ true a1 a2 a3 (by simp [F]) rfl | exact ht _ _ (k4 (by omega) (by omega)).1 (k4 (by omega) (by omega)).2 _ _ true a1 a2 a3 (by simp [F]) rfl | exact ht _ _ (k6 (by omega)).1 (k6 (by omega)).2 _ _ (b == b2) a1 a2 a3 (by simp [F]) rfl | exact ht _ _ (k7 (by omega)).1 (k7 (by omega)).2 _ _ (b == b2) a1 a2 a3 (by simp [F]) rfl
         (try exact nope c46); all_goals have c46p := c46; try simp [F] at c46p
         all_goals
          replace F := aF c46 F; (try replace F := aF c46p F); refine sr fun _ hJ111 => ?_; refine hJ111 _ _ ?_; refine cs (fun c53 => ?_) (fun c53 => ?_)
          · (try exact nope c53); all_goals have c53p := c53; try simp [F] at c53p
            all_goals
             replace F := aF c53 F; (try replace F := aF c53p F); refine sr fun _ hJ113 => ?_; refine ca (c := hcom) (k := ?_); rintro _ _ ⟨G', e0, rfl, rfl⟩; (repeat (first | simp [F] | simp (disch := omega) only [wC, if_pos, if_neg])); refine ca (c := hre G' true) (k := ?_); rintro _ _ ⟨rfl, rfl⟩; (repeat (first | simp [F] | simp (disch := omega) only [wC, if_pos, if_neg])); refine hJ113 _ _ ?_; refine ra ?_
             obtain ⟨gs, a1, a2, a3⟩ := G'
             simp only at e0
             subst e0
             first | exact ht _ _ (k0 (by omega)).1 (k0 (by omega)).2 _ _ true a1 a2 a3 (by simp [F]) rfl | exact ht _ _ (k3 (by omega)).1 (k3 (by omega)).2 _ _ true a1 a2 a3 (by simp [F]) rfl | exact ht _ _ (k4 (by omega) (by omega)).1 (k4 (by omega) (by omega)).2 _ _ true a1 a2 a3 (by simp [F]) rfl | exact ht _ _ (k6 (by omega)).1 (k6 (by omega)).2 _ _ (b == b2) a1 a2 a3 (by simp [F]) rfl | exact ht _ _ (k7 (by omega)).1 (k7 (by omega)).2 _ _ (b == b2) a1 a2 a3 (by simp [F]) rfl
          (try exact nope c53); all_goals have c53p := c53; try simp [F] at c53p
          all_goals
           replace F := aF c53 F; (try replace F := aF c53p F); refine sr fun _ hJ115 => ?_; refine ca (c := hrol) (k := ?_); rintro _ _ ⟨G', e0, rfl, rfl⟩; (repeat (first | simp [F] | simp (disch := omega) only [wC, if_pos, if_neg])); refine ca (c := hre G' false) (k := ?_); rintro _ _ ⟨rfl, rfl⟩; (repeat (first | simp [F] | simp (disch := omega) only [wC, if_pos, if_neg])); refine hJ115 _ _ ?_; refine ra ?_
           obtain ⟨gs, a1, a2, a3⟩ := G'
           simp only at e0
           subst e0
           first | exact ht _ _ (k0 (by omega)).1 (k0 (by omega)).2 _ _ true a1 a2 a3 (by simp [F]) rfl | exact ht _ _ (k3 (by omega)).1 (k3 (by omega)).2 _ _ true a1 a2 a3 (by simp [F]) rfl | exact ht _ _ (k4 (by omega) (by omega)).1 (k4 (by omega) (by omega)).2 _ _ true a1 a2 a3 (by simp [F]) rfl | exact ht _ _ (k6 (by omega)).1 (k6 (by omega)).2 _ _ (b == b2) a1 a2 a3 (by simp [F]) rfl | exact ht _ _ (k7 (by omega)).1 (k7 (by omega)).2 _ _ (b == b2) a1 a2 a3 (by simp [F]) rfl
      (try exact nope c46); all_goals have c46p := c46; try simp [F] at c46p
      all_goals
       replace F := aF c46 F; (try replace F := aF c46p F); refine rg' (h := fun J116 hJ116 => ?_); refine hJ116 _ _ ?_; refine hK102 _ _ ?_; refine cs (fun c46 => ?_) (fun c46 => ?_)
       · (try exact nope c46); all_goals have c46p := c46; try simp [F] at c46p
         all_goals
          replace F := aF c46 F; (try replace F := aF c46p F); refine sr fun _ hJ118 => ?_; refine ca (c := hbeg) (k := ?_); rintro _ _ ⟨G', e0, rfl, rfl⟩; (repeat (first | simp [F] | simp (disch := omega) only [wC, if_pos, if_neg])); refine hJ118 _ _ ?_; refine rg' (h := fun J119 hJ119 => ?_); refine ca (c := hrb G') (k := ?_); rintro _ _ ⟨rfl, rfl⟩; (repeat (first | simp [F] | simp (disch := omega) only [wC, if_pos, if_neg])); refine hJ119 _ _ ?_; refine hK5 _ _ ?_; refine sr fun _ hJ121 => ?_; refine hJ121 _ _ ?_; refine ra ?_
          obtain ⟨gs, a1, a2, a3⟩ := G'
          simp only at e0
          subst e0
          first | exact ht _ _ (k0 (by omega)).1 (k0 (by omega)).2 _ _ true a1 a2 a3 (by simp [F]) rfl | exact ht _ _ (k3 (by omega)).1 (k3 (by omega)).2 _ _ true a1 a2 a3 (by simp [F]) rfl | exact ht _ _ (k4 (by omega) (by omega)).1 (k4 (by omega) (by omega)).2 _ _ true a1 a2 a3 (by simp [F]) rfl | exact ht _ _ (k6 (by omega)).1 (k6 (by omega)).2 _ _ (b == b2) a1 a2 a3 (by simp [F]) rfl | exact ht _ _ (k7 (by omega)).1 (k7 (by omega)).2 _ _ (b == b2) a1 a2 a3 (by simp [F]) rfl
       (try exact nope c46); all_goals have c46p := c46; try simp [F] at c46p
       all_goals
        replace F := aF c46 F; (try replace F := aF c46p F); refine sr fun _ hJ123 => ?_; refine hJ123 _ _ ?_; refine cs (fun c53 => ?_) (fun c53 => ?_)
        · (try exact nope c53); all_goals have c53p := c53; try simp [F] at c53p
          all_goals
           replace F := aF c53 F; (try replace F := aF c53p F); refine sr fun _ hJ125 => ?_; refine ca (c := hcom) (k := ?_); rintro _ _ ⟨G', e0, rfl, rfl⟩; (repeat (first | simp [F] | simp (disch := omega) only [wC, if_pos, if_neg])); refine ca (c := hre G' true) (k := ?_); rintro _ _ ⟨rfl, rfl⟩; (repeat (first | simp [F] | simp (disch := omega) only [wC, if_pos, if_neg])); refine hJ125 _ _ ?_; refine ra ?_
           obtain ⟨gs, a1, a2, a3⟩ := G'
           simp only at e0
           subst e0
           first | exact ht _ _ (k0 (by omega)).1 (k0 (by omega)).2 _ _ true a1 a2 a3 (by simp [F]) rfl | exact ht _ _ (k3 (by omega)).1 (k3 (by omega)).2 _ _ true a1 a2 a3 (by simp [F]) rfl | exact ht _ _ (k4 (by omega) (by omega)).1 (k4 (by omega) (by omega)).2 _ _ true a1 a2 a3 (by simp [F]) rfl | exact ht _ _ (k6 (by omega)).1 (k6 (by omega)).2 _ _ (b == b2) a1 a2 a3 (by simp [F]) rfl | exact ht _ _ (k7 (by omega)).1 (k7 (by omega)).2 _ _ (b == b2) a1 a2 a3 (by simp [F]) rfl
        (try exact nope c53); all_goals have c53p := c53; try simp [F] at c53p
        all_goals
         replace F := aF c53 F; (try replace F := aF c53p F); refine sr fun _ hJ127 => ?_; refine ca (c := hrol) (k := ?_); rintro _ _ ⟨G', e0, rfl, rfl⟩; (repeat (first | simp [F] | simp (disch := omega) only [wC, if_pos, if_neg])); refine ca (c := hre G' false) (k := ?_); rintro _ _ ⟨rfl, rfl⟩; (repeat (first | simp [F] | simp (disch := omega) only [wC, if_pos, if_neg])); refine hJ127 _ _ ?_; refine ra ?_
         obtain ⟨gs, a1, a2, a3⟩ := G'
         simp only at e0
         subst e0
         first | exact ht _ _ (k0 (by omega)).1 (k0 (by omega)).2 _ _ true a1 a2 a3 (by simp [F]) rfl | exact ht _ _ (k3 (by omega)).1 (k3 (by omega)).2 _ _ true a1 a2 a3 (by simp [F]) rfl | exact ht _ _ (k4 (by omega) (by omega)).1 (k4 (by omega) (by omega)).2 _ _ true a1 a2 a3 (by simp [F]) rfl | exact ht _ _ (k6 (by omega)).1 (k6 (by omega)).2 _ _ (b == b2) a1 a2 a3 (by simp [F]) rfl | exact ht _ _ (k7 (by omega)).1 (k7 (by omega)).2 _ _ (b == b2) a1 a2 a3 (by simp [F]) rfl
structure AS where
  i : Nat
  G : Sg
  M : RS

def addR (τ : St) (M : RS) : St := { τ with objs := τ.objs ++ [rmC τ.rows.length M], rows := τ.rows ++ [rmR M] }
section
variable {z : Zone} {P : Program} {N : Nat} {ρ : Nat → AV}
end

def St4 (σ : St) (G : Sg) (M M2 : RS) (W : Sg) : St := { σ with objs := σ.objs ++ [stC σ.rows.length G, rmC (σ.rows.length + 3) M, rmC (σ.rows.length + 4) M2, stC (σ.rows.length + 5) W], rows := σ.rows ++ [stR1 G, stR2 G, stR3 G, rmR M, rmR M2, stR1 W, stR2 W, stR3 W] }
theorem St4.s (σ : St) (G : Sg) (M M2 : RS) (W : Sg) : HasS (St4 σ G M M2 W) σ.objs.length σ.rows.length G := ⟨by simp [St4], by simp [St4], by simp [St4], by simp [St4]⟩
theorem St4.r (σ : St) (G : Sg) (M M2 : RS) (W : Sg) : HasR (St4 σ G M M2 W) (σ.objs.length + 2) (σ.rows.length + 4) M2 := ⟨by simp [St4], by simp [St4]⟩
theorem St4.w (σ : St) (G : Sg) (M M2 : RS) (W : Sg) : HasS (St4 σ G M M2 W) (σ.objs.length + 3) (σ.rows.length + 5) W := ⟨by simp [St4], by simp [St4], by simp only [St4]; rw [List.getElem?_append_right (by omega), show σ.rows.length + 5 + 1 - σ.rows.length = 6 by omega]; rfl, by simp only [St4]; rw [List.getElem?_append_right (by omega), show σ.rows.length + 5 + 2 - σ.rows.length = 7 by omega]; rfl⟩
theorem St4.a (σ : St) : Apart σ.objs.length σ.rows.length (σ.objs.length + 2) (σ.rows.length + 4) := ⟨by omega, by omega, by omega, by omega⟩
theorem St4.put (σ : St) (G G' : Sg) (M M2 M' : RS) (W : Sg) : putR (putS (St4 σ G M M2 W) σ.objs.length σ.rows.length G') (σ.objs.length + 2) (σ.rows.length + 4) M' = St4 σ G' M M' W := by simp [St4, putS, putR]
theorem St4.made (σ : St) (G : Sg) (M : RS) (W : Sg) : St1 (addR (St2 σ G M) newR) W = St4 σ G M newR W := by simp [St4, St2, St1, addR]

theorem acsC_d {l : List Ac} {i : Nat} (hi : i < l.length) (h : i * 3 < (acsC l).length) : (acsC l)[i * 3]'h = .v (.int .u8 (l[i].d.toNat : Nat)) := by
  obtain ⟨R, hR⟩ := acsC_at hi
  have h2 : ((acsC l).drop (i * 3))[0]? = some (.v (.int .u8 (l[i].d.toNat : Nat))) := by rw [hR]; rfl
  rw [List.getElem?_drop] at h2
  exact (List.getElem?_eq_some_iff.1 h2).2

theorem copy_Ok {s : Sto} {n : Nat} (h : s.Ok n) : Sto.Ok ⟨s.l, [], []⟩ n := ⟨h.srt, h.l, Nat.zero_le _, Nat.zero_le _, h.kv, fun u hu => (by cases hu), fun m hm => (by cases hm)⟩

structure BS where
  i : Nat
  G : Sg
  M : RS
  M2 : RS
  sg : Sto
  r : List (List Pr)
theorem callsA_nilcell {P : Program} {σ : St} {f : FuncId} {args : List AV} {Q : AV → St → Prop} (id j sz : Nat) {s : Nat} {cs : List AV} (h : σ.objs[id]? = some cs) (hj : cs[j]? = some (.sl s [] 0 .full))
    (k : CallsA P f args { σ with objs := σ.objs.set id (cs.set j (.row σ.rows.length 0 0 sz 0)), rows := σ.rows ++ [⟨0, [], none⟩] } Q) : CallsA P f args σ Q := fun G w vs R hS hl hr hK => by
  obtain ⟨G', hE, hS'⟩ := nilcell_sound (sz := sz) hS h hj
  exact k G' w vs R hS' hl (fun j x b hx hb => (hr j x b hx hb).mono hE) (fun v av σ' G2 w' hq hE2 hS2 hv => hK v av σ' G2 w' hq (hE.trans hE2) hS2 hv)
theorem callsA_wkSin {P : Program} {σ σ1 : St} {f : FuncId} {args : List AV} {Q : AV → St → Prop} (h : WkS σ σ1) (k : CallsA P f args σ1 Q) : CallsA P f args σ Q := fun G w vs R hS hl hr hK =>
  k G w vs R (hS.wk h) hl hr hK
theorem callsA_newR {P : Program} {τ : St} {f : FuncId} {args : List AV} {Q : AV → St → Prop} (k : CallsA P f args (addR τ newR) Q) : CallsA P f args { τ with objs := τ.objs ++ [[.sl 0 [] 0 .full, .sl 0 [] 0 .full]] } Q := by
  refine callsA_nilcell τ.objs.length 1 1 (h := by simp; rfl) (hj := rfl) (k := ?_)
  have h0 : WkS { τ with objs := (τ.objs ++ [[AV.sl 0 [] 0 .full, AV.row τ.rows.length 0 0 1 0]]).set τ.objs.length [AV.sl 0 [] 0 .full, AV.row τ.rows.length 0 0 1 0], rows := τ.rows ++ [⟨0, [], none⟩] }
      { τ with objs := (τ.objs ++ [[AV.sl 0 [] 0 .full, AV.row τ.rows.length 0 0 1 0]]).set τ.objs.length [AV.sl 2 [] 0 .shut, AV.row τ.rows.length 0 0 1 0], rows := τ.rows ++ [⟨0, [], none⟩] } :=
    WkS.set (σ := { τ with rows := τ.rows ++ [⟨0, [], none⟩] }) (.cons (Wk.nil _ _ _) (.cons (Wk.refl _) .nil))
  simp only [List.set_append_right _ _ (Nat.le_refl _), Nat.sub_self, List.set_cons_zero] at h0 ⊢
  exact callsA_wkSin h0 k

def grb (τ : St) (l : List (List AV)) (r : List RowSt) : St := { τ with objs := τ.objs ++ l, rows := τ.rows ++ r }
theorem grb_nil (τ : St) : grb τ [] [] = τ := by simp [grb]
theorem grbS {τ : St} {o k : Nat} {G : Sg} (h : HasS τ o k G) (l : List (List AV)) (r : List RowSt) : HasS (grb τ l r) o k G :=
  ⟨by simp only [grb]; rw [List.getElem?_append_left (lt_of_get h.o)]; exact h.o, by simp only [grb]; rw [List.getElem?_append_left (lt_of_get h.r1)]; exact h.r1, by simp only [grb]; rw [List.getElem?_append_left (lt_of_get h.r2)]; exact h.r2, by simp only [grb]; rw [List.getElem?_append_left (lt_of_get h.r3)]; exact h.r3⟩
theorem grbR {τ : St} {m q : Nat} {M : RS} (h : HasR τ m q M) (l : List (List AV)) (r : List RowSt) : HasR (grb τ l r) m q M :=
  ⟨by simp only [grb]; rw [List.getElem?_append_left (lt_of_get h.o)]; exact h.o, by simp only [grb]; rw [List.getElem?_append_left (lt_of_get h.r)]; exact h.r⟩
theorem putS_grb {τ : St} {o k : Nat} {G : Sg} (h : HasS τ o k G) (G' : Sg) (l : List (List AV)) (r : List RowSt) : putS (grb τ l r) o k G' = grb (putS τ o k G') l r := by
  have h3 := lt_of_get h.r3
  simp only [putS, grb]
  rw [List.set_append_left _ _ (lt_of_get h.o), List.set_append_left _ _ (lt_of_get h.r1), List.set_append_left _ _ (by simp; omega), List.set_append_left _ _ (by simp; omega)]

theorem does_box {B : St} {o k n : Nat} {G : Sg} {Mg : RS} {a : Ac} {l : List (List AV)} {r : List RowSt} (h : HasS B o k G) (hi : R5 G.s Mg n) (hn : n ≤ 400000) (hf : a.Few) :
    CallsA Try.prog 23 [.ptr o 0, .ptr (grb B l r).objs.length 0, .agg (acC a)] { grb B l r with objs := (grb B l r).objs ++ [[.sl 0 [] 0 .full, .sl 0 [] 0 .full]] } (fun av σ' => ∃ G' b l' r', G'.s = actS G.s a ∧ av = .v (.bool b) ∧ σ' = grb (putS B o k G') l' r') := by
  refine callsA_newR ?_
  have hg := grbS h l r
  have hS : HasS (addR (grb B l r) newR) o k G := grbS hg [rmC (grb B l r).rows.length newR] [rmR newR]
  have hR : HasR (addR (grb B l r) newR) (grb B l r).objs.length (grb B l r).rows.length newR := ⟨by simp [addR], by simp [addR]⟩
  have l1 := lt_of_get hg.o
  have l2 := lt_of_get hg.r3
  have hA : Apart o k (grb B l r).objs.length (grb B l r).rows.length := ⟨by omega, by omega, by omega, by omega⟩
  refine callsA_mono (does_any hS hR hA hi (newR5.mono' (Nat.zero_le n)) hn hf) (fun av σ' ⟨G', b, e0, e1, e2⟩ => ⟨G', b, l ++ [rmC (grb B l r).rows.length (actR newR a)], r ++ [rmR (actR newR a)], e0, e1, ?_⟩)
  have e3 : putS (addR (grb B l r) newR) o k G' = addR (grb (putS B o k G') l r) newR := by
    have := putS_grb hg G' [rmC (grb B l r).rows.length newR] [rmR newR]
    rw [putS_grb h] at this
    simp only [grb, addR, putS, List.length_append, List.length_set] at this ⊢
    exact this
  rw [e2, e3]
  simp [putR, addR, grb, putS]

def Sab (σ : St) (A : Sg) (M : RS) (B : Sg) (N : RS) : St := { σ with objs := σ.objs ++ [stC σ.rows.length A, rmC (σ.rows.length + 3) M, stC (σ.rows.length + 4) B, rmC (σ.rows.length + 7) N], rows := σ.rows ++ [stR1 A, stR2 A, stR3 A, rmR M, stR1 B, stR2 B, stR3 B, rmR N] }
theorem Sab.made (σ : St) (A : Sg) (M : RS) (B : Sg) (N : RS) : St2 (St2 σ A M) B N = Sab σ A M B N := by simp [St2, Sab]
theorem Sab.a (σ : St) (A : Sg) (M : RS) (B : Sg) (N : RS) : HasS (Sab σ A M B N) σ.objs.length σ.rows.length A := ⟨by simp [Sab], by simp [Sab], by simp [Sab], by simp [Sab]⟩
theorem Sab.b (σ : St) (A : Sg) (M : RS) (B : Sg) (N : RS) : HasS (Sab σ A M B N) (σ.objs.length + 2) (σ.rows.length + 4) B := ⟨by simp [Sab], by simp [Sab], by simp only [Sab]; rw [List.getElem?_append_right (by omega), show σ.rows.length + 4 + 1 - σ.rows.length = 5 by omega]; rfl, by simp only [Sab]; rw [List.getElem?_append_right (by omega), show σ.rows.length + 4 + 2 - σ.rows.length = 6 by omega]; rfl⟩
structure CS where
  i : Nat
  A : Sg
  B : Sg
  MA : RS
  MB : RS
  l : List (List AV)
  r : List RowSt
theorem acsC_under (B : Bd) : ∀ l : List Ac, underL B (acsC l) = true
  | [] => rfl
  | a :: l => by
    have ih := acsC_under B l
    simp only [acsC, List.flatMap_cons, acC, List.cons_append, List.nil_append, underL, AV.under, byC_under, Bool.true_and, Bool.and_true] at ih ⊢
    exact ih
theorem acsC_app (l m : List Ac) : acsC (l ++ m) = acsC l ++ acsC m := by simp [acsC]
def plainL (l : List Ac) : List Ac := l.filter fun a => decide (a.d.toNat % 8 < 4)
theorem plainL_few {l : List Ac} (h : FewA l) : FewA (plainL l) := ⟨Nat.le_trans (List.length_filter_le _ _) h.1, fun a ha => h.2 a (List.mem_filter.1 ha).1⟩

set_option maxHeartbeats 1600000 in
attribute [local simp] undefA List.getElem?_cons_zero List.getElem?_cons_succ lsA_nil lsT_nil lsZ_nil lsL_nil in
theorem plain_ok {σ : St} {l : List Ac} (hfw : FewA l) :
    CallsA Try.prog 41 [.sl 3 (acsC l) l.length .shut] σ (fun av σ' => av = .sl 3 (acsC (plainL l)) (plainL l).length .shut ∧ σ = σ') := by
  refine callsA_gcS ?_ (by simp [AV.under, acsC_under])
  have hlc := acsC_len l
  have h40 := hfw.1
  obtain ⟨T, hT⟩ : ∃ T, T = plainL l := ⟨_, rfl⟩
  rw [← hT]
  have hrem : ∀ (a : Ac) xo yo, binA Try.prog .rem 5 xo yo (.v (.int .u8 (a.d.toNat : Nat))) (.v (.int .u8 8)) = some (.v (.int .u8 ((a.d.toNat % 8 : Nat) : Int))) := fun a xo yo => by rw [binA_rem (h := by decide)]; rfl
  have hap : ∀ (O : List Ac) (a : Ac) objs, O.length ≤ 10000 → appendA Try.prog 22 (lsA σ.toks.length 3 (acsC O) O.length) (.sl 3 [.v (.int .u8 a.d.toNat), .sl 1 (bytesA a.k) a.k.length .shut, .sl 1 (bytesA a.v) a.v.length .shut] 1 .full) ⟨objs, σ.toks ++ lsT O.length, σ.gl, σ.rows⟩ = some (lsA σ.toks.length 3 (acsC (O ++ [a])) (O.length + 1), ⟨objs, σ.toks ++ lsT (O.length + 1), σ.gl, σ.rows⟩) := fun O a objs hO => by
    rw [acsC_app]
    exact append_ls elemT_22 ti_35 (by decide) rfl (fun h => by rw [List.eq_nil_of_length_eq_zero h]; rfl) rfl (by omega) (by simp only [roomA]; omega) (by simp only [maxLen]; omega)
  have F := And.intro hlc (And.intro hrem (True.intro))
  refine callsA_body Try.func41 rfl rfl rfl ?_; refine sr fun _ hJ2 => ?_; refine hJ2 _ _ ?_; refine sr fun _ hJ4 => ?_; refine hJ4 _ _ ?_; refine sq fun K5 hK5 => ?_; refine sr fun _ hJ7 => ?_; refine hJ7 _ _ ?_; refine run_block_k ?_; refine run_loopF (X := Nat × List Ac) [0, 2] (fun x ρ σ1 => (x.1 ≤ l.length) ∧ (x.2 ++ plainL (l.drop x.1) = T) ∧ (x.2.length ≤ x.1) ∧ (ρ 4 = .v (.int .i64 x.1)) ∧ (ρ 3 = lsA σ.toks.length 3 (acsC x.2) x.2.length) ∧ (σ1 = { σ with toks := σ.toks ++ lsT x.2.length })) (fun x => l.length - x.1) ((0, [])) ?st1 ?rd1
  case st1 =>
   refine ⟨lp, ?_, lp, lp, lp, ?_⟩
   · rw [hT]
     rfl
   · simp [lsT_nil]
  case rd1 =>
   rintro x ρ1 σ1 hF1 ⟨h1, h2, h3, h5, h7, hσ⟩; obtain rfl := hσ.symm
   have f1 := keepL hF1
   (try simp [KeepL, F] at f1); replace F := aF h5 F; replace F := aF h7 F; (try replace F := aF f1 F); refine sq fun K8 hK8 => ?_; refine sr fun _ hJ10 => ?_; refine hJ10 _ _ ?_; refine cs (fun c8 => ?_) (fun c8 => ?_)
   · (try exact nope c8); all_goals have c8p := c8; try simp [F] at c8p
     all_goals
      replace F := aF c8 F; try replace F := aF c8p F
      have hlt : x.1 < l.length := by have h := c8; simp at h; omega
      obtain ⟨i, O⟩ := x
      simp only at *
      obtain ⟨R, hR⟩ := acsC_at hlt
      obtain ⟨a, ha⟩ : ∃ a, a = l[i] := ⟨_, rfl⟩
      rw [← ha] at hR
      have hb3 : i * 3 + 3 ≤ l.length * 3 := by omega
      have hi1 : i + 1 ≤ l.length := hlt
      have hgd : ∀ h : i * 3 < (acsC l).length, (acsC l)[i * 3]'h = .v (.int .u8 (a.d.toNat : Nat)) := fun h => by rw [acsC_d hlt, ha]
      rw [List.drop_eq_getElem_cons hlt, ← ha, plainL, List.filter_cons] at h2
      have hap0 := fun objs => hap O a objs (by omega)
      have hrm := hrem a
      obtain ⟨d, hd⟩ : ∃ d, d = a.d.toNat % 8 := ⟨_, rfl⟩
      rw [← hd] at hrm h2
      simp only [acC, byC] at hR
      replace F := aF hlt (And.intro hR (And.intro hb3 (And.intro hi1 (And.intro hgd (And.intro hrm (And.intro hap0 F)))))); refine run_skip ?_; refine hK8 _ _ ?_; refine sq fun K11 hK11 => ?_; refine run_block_k ?_; refine sr fun _ hJ13 => ?_; refine hJ13 _ _ ?_; refine cs (fun c17 => ?_) (fun c17 => ?_)
      · (try exact nope c17); all_goals have c17p := c17; try simp [F] at c17p
        all_goals
         replace F := aF c17 F; try replace F := aF c17p F
         have hp : d < 4 := by have h := c17; simp at h; omega
         rw [if_pos (decide_eq_true hp), List.append_cons] at h2
         refine rg' (h := fun J14 hJ14 => ?_); refine hJ14 _ _ ?_; refine hK11 _ _ ?_; refine rg' (h := fun J15 hJ15 => ?_); refine hJ15 _ _ ?_; refine ⟨((i + 1, O ++ [a])), ⟨kp, lp, ?_, lp, lp, lp, lp⟩, lp⟩
         · exact h2
      (try exact nope c17); all_goals have c17p := c17; try simp [F] at c17p
      all_goals
       replace F := aF c17 F; try replace F := aF c17p F
       have hp : ¬ d < 4 := by have h := c17; simp at h; omega
       rw [if_neg (by simpa using hp)] at h2
       refine run_skip ?_; refine hK11 _ _ ?_; refine rg' (h := fun J16 hJ16 => ?_); refine hJ16 _ _ ?_; refine ⟨((i + 1, O)), ⟨kp, lp, ?_, lp, lp, lp, lp⟩, lp⟩
       · exact h2
   (try exact nope c8); all_goals have c8p := c8; try simp [F] at c8p
   all_goals
    replace F := aF c8 F; try replace F := aF c8p F
    have hde : l.drop x.1 = [] := List.drop_of_length_le (by have h := c8; simp at h; omega)
    rw [hde] at h2
    simp only [plainL, List.filter_nil, List.append_nil] at h2
    have hwk := lsA_wk (k := σ.toks.length) (sz := 3) (n := x.2.length) (cs := acsC x.2) (fun h => by rw [List.eq_nil_of_length_eq_zero h]; rfl)
    refine run_exit ?_; refine hK5 _ _ ?_; refine sr fun _ hJ18 => ?_; refine hJ18 _ _ ?_; refine ra ?_
    rw [← h2]
    exact gcr (hA := by simp only [putA_get]; simp [F]; exact hwk)

def S3 (σ : St) (G : Sg) (M : RS) (C : Sg) : St := { σ with objs := σ.objs ++ [stC σ.rows.length G, rmC (σ.rows.length + 3) M, stC (σ.rows.length + 4) C], rows := σ.rows ++ [stR1 G, stR2 G, stR3 G, rmR M, stR1 C, stR2 C, stR3 C] }
theorem S3.made (σ : St) (G : Sg) (M : RS) (C : Sg) : St1 (St2 σ G M) C = S3 σ G M C := by simp [St2, St1, S3]
theorem S3.s (σ : St) (G : Sg) (M : RS) (C : Sg) : HasS (S3 σ G M C) σ.objs.length σ.rows.length G := ⟨by simp [S3], by simp [S3], by simp [S3], by simp [S3]⟩
theorem S3.r (σ : St) (G : Sg) (M : RS) (C : Sg) : HasR (S3 σ G M C) (σ.objs.length + 1) (σ.rows.length + 3) M := ⟨by simp [S3], by simp [S3]⟩
theorem S3.c (σ : St) (G : Sg) (M : RS) (C : Sg) : HasS (S3 σ G M C) (σ.objs.length + 2) (σ.rows.length + 4) C := ⟨by simp [S3], by simp [S3], by simp only [S3]; rw [List.getElem?_append_right (by omega), show σ.rows.length + 4 + 1 - σ.rows.length = 5 by omega]; rfl, by simp only [S3]; rw [List.getElem?_append_right (by omega), show σ.rows.length + 4 + 2 - σ.rows.length = 6 by omega]; rfl⟩
theorem S3.put (σ : St) (G : Sg) (M : RS) (C C' : Sg) : putS (S3 σ G M C) (σ.objs.length + 2) (σ.rows.length + 4) C' = S3 σ G M C' := by
  have h1 : σ.rows.length + 4 + 1 - σ.rows.length = 5 := by omega
  have h2 : σ.rows.length + 4 + 2 - σ.rows.length = 6 := by omega
  simp only [S3, putS]
  rw [List.set_append_right _ _ (by omega), List.set_append_right _ _ (by omega), List.set_append_right _ _ (by omega), List.set_append_right _ _ (by omega), h1, h2, show σ.objs.length + 2 - σ.objs.length = 2 by omega, show σ.rows.length + 4 - σ.rows.length = 4 by omega]
  rfl
theorem copy_R5 {s : Sto} {n : Nat} (h : s.Ok n) : R5 ⟨s.l, [], []⟩ ⟨s.l, [], 0⟩ n := ⟨copy_Ok h, rfl, rfl, fun j x w hx => by simp at hx, by simp, by simp⟩

structure DS where
  i : Nat
  C : Sg
  MC : RS
  l : List (List AV)
  r : List RowSt

set_option maxHeartbeats 1600000 in
attribute [local simp] undefA List.getElem?_cons_zero List.getElem?_cons_succ in
theorem storeCopies_ok {σ : St} {l more : List Ac} (hl : l.length ≤ 9223372036854775807) (hb : ∀ a ∈ l, a.k.length ≤ 9223372036854775807 ∧ a.v.length ≤ 9223372036854775807) (hl2 : more.length ≤ 9223372036854775807) (hb2 : ∀ a ∈ more, a.k.length ≤ 9223372036854775807 ∧ a.v.length ≤ 9223372036854775807) :
    CallsA Try.prog 9 [.sl 3 (acsC l) l.length .shut, .sl 3 (acsC more) more.length .shut] σ (fun av σ' => av = .v (.bool true) ∧ σ = σ') := by
  refine callsA_gcS ?_ rfl
  have hlc := acsC_len l
  have hdo := fun (G : Sg) (M : RS) (a : Ac) (n : Nat) h1 h2 h3 => does2 (σ := σ) (G := G) (M := M) (a := a) (n := n) h1 h2 h3
  have F := And.intro hlc (True.intro)
  refine callsA_body Try.func9 rfl rfl rfl ?_; refine sr fun _ hJ2 => ?_; refine hJ2 _ _ ?_; refine sq fun K3 hK3 => ?_; refine sr fun _ hJ5 => ?_; refine ca (c := rolls_ok) (k := ?_); rintro _ _ ⟨rfl, rfl⟩; (repeat (first | simp [F] | simp (disch := omega) only [wC, if_pos, if_neg])); refine go2 (k := ?_); refine ca (c := few_ok hl hb) (k := ?_); rintro _ _ ⟨rfl, rfl⟩; (repeat (first | simp [F] | simp (disch := omega) only [wC, if_pos, if_neg])); refine go2 (k := ?_); refine gs 18 (fun g1_7 => ?_) (fun g1_7 => ?_)
  · (try exact nope g1_7); all_goals have g1_7p := g1_7; try simp [F] at g1_7p
    all_goals
     replace F := aF g1_7 F; (try replace F := aF g1_7p F); (iterate 3 refine no2 (k := ?_)); refine hJ5 _ _ ?_; refine ct ?_; refine sr fun _ hJ7 => ?_; refine ca (c := rolls_ok) (k := ?_); rintro _ _ ⟨rfl, rfl⟩; (repeat (first | simp [F] | simp (disch := omega) only [wC, if_pos, if_neg])); refine hJ7 _ _ ?_; refine ra ?_; exact gcr
  (try exact nope g1_7); all_goals have g1_7p := g1_7; try simp [F] at g1_7p
  all_goals
   replace F := aF g1_7 F; (try replace F := aF g1_7p F); refine go2 (k := ?_); refine ca (c := few_ok hl2 hb2) (k := ?_); rintro _ _ ⟨rfl, rfl⟩; (repeat (first | simp [F] | simp (disch := omega) only [wC, if_pos, if_neg])); refine go2 (k := ?_); refine hJ5 _ _ ?_; refine cs (fun c22 => ?_) (fun c22 => ?_)
   · (try exact nope c22); all_goals have c22p := c22; try simp [F] at c22p
     all_goals
      replace F := aF c22 F; (try replace F := aF c22p F); refine sr fun _ hJ9 => ?_; refine ca (c := rolls_ok) (k := ?_); rintro _ _ ⟨rfl, rfl⟩; (repeat (first | simp [F] | simp (disch := omega) only [wC, if_pos, if_neg])); refine hJ9 _ _ ?_; refine ra ?_; exact gcr
   (try exact nope c22); all_goals have c22p := c22; try simp [F] at c22p
   all_goals
    replace F := aF c22 F; try replace F := aF c22p F
    have hfw : FewA l := by have h := g1_7; simpa using h
    have hfm : FewA more := by have h := c22; simpa using h
    have h40 := hfw.1
    have h41 := hfm.1
    refine run_skip ?_; refine hK3 _ _ ?_; refine sr fun _ hJ11 => ?_; refine ca (c := new_st_ok) (k := ?_); rintro _ _ ⟨rfl, rfl⟩; (repeat (first | simp [F] | simp (disch := omega) only [wC, if_pos, if_neg])); refine hJ11 _ _ ?_; refine sq fun K12 hK12 => ?_; refine sq fun K13 hK13 => ?_; refine run_new2 σ ?_; refine rg' (h := fun J14 hJ14 => ?_); refine hJ14 _ _ ?_; refine hK13 _ _ ?_; refine run_block_k ?_; refine run_loopF (X := LS) [0, 1, 4, 5, 6] (fun x ρ σ1 => (x.i ≤ l.length) ∧ (R5 x.G.s x.M x.i) ∧ (ρ 7 = .v (.int .i64 x.i)) ∧ (σ1 = St2 σ x.G x.M)) (fun x => l.length - x.i) (⟨0, newSg, newR⟩) ?st1 ?rd1
    case st1 =>
     refine ⟨lp, ?_, lp, lp⟩
     · exact newR5
    case rd1 =>
     rintro x ρ1 σ1 hF1 ⟨h1, h2, h5, hσ⟩; obtain rfl := hσ.symm
     have f1 := keepL hF1
     (try simp [KeepL, F] at f1); replace F := aF h5 F; (try replace F := aF f1 F); refine sq fun K15 hK15 => ?_; refine sr fun _ hJ17 => ?_; refine hJ17 _ _ ?_; refine cs (fun c30 => ?_) (fun c30 => ?_)
     · (try exact nope c30); all_goals have c30p := c30; try simp [F] at c30p
       all_goals
        replace F := aF c30 F; try replace F := aF c30p F
        have hlt : x.i < l.length := by have h := c30; simp at h; omega
        obtain ⟨R, hR⟩ := acsC_at hlt
        obtain ⟨a, ha⟩ : ∃ a, a = l[x.i] := ⟨_, rfl⟩
        rw [← ha] at hR
        simp only [acC, byC] at hR
        have haf : a.Few := hfw.2 a (by rw [ha]; exact List.getElem_mem _)
        have hb3 : x.i * 3 + 3 ≤ l.length * 3 := by omega
        have hi1 : x.i + 1 ≤ l.length := hlt
        have hda := hdo x.G x.M a x.i h2 (by omega) haf
        simp only [acC, byC] at hda
        replace F := aF hlt (And.intro hR (And.intro hb3 (And.intro hi1 F))); refine run_skip ?_; refine hK15 _ _ ?_; refine sq fun K18 hK18 => ?_; refine run_block_k ?_; refine rg' (h := fun J19 hJ19 => ?_); refine ca (c := hda) (k := ?_); rintro _ _ ⟨G', e0, rfl, rfl⟩; (repeat (first | simp [F] | simp (disch := omega) only [wC, if_pos, if_neg])); refine hJ19 _ _ ?_; refine hK18 _ _ ?_; refine rg' (h := fun J20 hJ20 => ?_); refine hJ20 _ _ ?_; refine ⟨(⟨x.i + 1, G', actR x.M a⟩), ⟨kp, lp, ?_, lp, lp⟩, lp⟩
        · rw [e0]
          exact h2.act haf
     (try exact nope c30); all_goals have c30p := c30; try simp [F] at c30p
     all_goals
      replace F := aF c30 F; try replace F := aF c30p F
      obtain ⟨C, hC⟩ : ∃ C : Sg, C = ⟨⟨x.G.s.l, [], []⟩, 0, 0, 0⟩ := ⟨_, rfl⟩
      have h2m := h2.mono' (m := 100) (by omega)
      have hCR : R5 C.s ⟨x.G.s.l, [], 0⟩ 100 := by rw [hC]; exact copy_R5 h2m.ok
      have hcp : CallsA Try.prog 39 [.ptr σ.objs.length 0] (St2 σ x.G x.M) (fun av σ' => av = .ptr (σ.objs.length + 2) 0 ∧ σ' = grb (S3 σ x.G x.M C) [] []) := by
        have := copy_st_ok (St2.s σ x.G x.M) h2m.ok (by omega)
        refine callsA_mono this (fun av σ' ⟨q1, q2⟩ => ⟨by rw [q1]; simp [St2], by rw [q2, ← hC, grb_nil, ← S3.made]; rfl⟩)
      have hsm : CallsA Try.prog 37 [.ptr (σ.objs.length + 2) 0, .ptr σ.objs.length 0] (grb (S3 σ x.G x.M C) [] []) (fun av σ' => av = .v (.bool true) ∧ grb (S3 σ x.G x.M C) [] [] = σ') := by
        have := same_st_ok (grbS (S3.c σ x.G x.M C) [] []) (grbS (S3.s σ x.G x.M C) [] []) hCR.ok h2m.ok (by omega)
        rw [decide_eq_true (show C.s.l = x.G.s.l by rw [hC])] at this; exact this
      have hdp : CallsA Try.prog 38 [.ptr (σ.objs.length + 2) 0] (grb (S3 σ x.G x.M C) [] []) (fun av σ' => av = .v (.int .i64 0) ∧ grb (S3 σ x.G x.M C) [] [] = σ') := by
        have := depth_ok (grbS (S3.c σ x.G x.M C) [] [])
        rw [show C.s.marks.length = 0 by rw [hC]; rfl] at this; exact this
      have hrb : CallsA Try.prog 40 [.ptr (σ.objs.length + 2) 0] (grb (S3 σ x.G x.M C) [] []) (fun av σ' => av = .v (.bool false) ∧ grb (S3 σ x.G x.M C) [] [] = σ') := rollback_no (grbS (S3.c σ x.G x.M C) [] []) hCR.ok (by omega) (by rw [hC])
      have hpf := plainL_few hfm
      have hpc := acsC_len (plainL more)
      have hp40 := hpf.1
      obtain ⟨X, hX⟩ : ∃ X, X = plainL more := ⟨_, rfl⟩
      have hpo := fun τ => plain_ok (σ := τ) hfm
      rw [← hX] at hpf hpc hp40
      simp only [← hX] at hpo
      replace F := aF hpc F; refine run_exit ?_; refine hK12 _ _ ?_; refine sr fun _ hJ22 => ?_; refine ca (c := hcp) (k := ?_); rintro _ _ ⟨rfl, rfl⟩; (repeat (first | simp [F] | simp (disch := omega) only [wC, if_pos, if_neg])); refine hJ22 _ _ ?_; refine sq fun K23 hK23 => ?_; refine sr fun _ hJ25 => ?_; refine ca (c := hsm) (k := ?_); rintro _ _ ⟨rfl, rfl⟩; (repeat (first | simp [F] | simp (disch := omega) only [wC, if_pos, if_neg])); refine go2 (k := ?_); refine ca (c := hdp) (k := ?_); rintro _ _ ⟨rfl, rfl⟩; (repeat (first | simp [F] | simp (disch := omega) only [wC, if_pos, if_neg])); (iterate 2 refine go2 (k := ?_)); refine ca (c := hrb) (k := ?_); rintro _ _ ⟨rfl, rfl⟩; (repeat (first | simp [F] | simp (disch := omega) only [wC, if_pos, if_neg])); refine hJ25 _ _ ?_; refine cf ?_; refine run_skip ?_; refine hK23 _ _ ?_; refine sr fun _ hJ27 => ?_; refine ca (c := hpo _) (k := ?_); rintro _ _ ⟨rfl, rfl⟩; (repeat (first | simp [F] | simp (disch := omega) only [wC, if_pos, if_neg])); refine hJ27 _ _ ?_; refine sq fun K28 hK28 => ?_; refine sr fun _ hJ30 => ?_; refine hJ30 _ _ ?_; refine run_block_k ?_; refine run_loopF (X := DS) [4, 5, 6, 8, 9] (fun y ρ σ1 => (y.i ≤ X.length) ∧ (R5 y.C.s y.MC (100 + y.i)) ∧ (ρ 10 = .v (.int .i64 y.i)) ∧ (σ1 = grb (S3 σ x.G x.M y.C) y.l y.r)) (fun y => X.length - y.i) (⟨0, C, ⟨x.G.s.l, [], 0⟩, [], []⟩) ?st2 ?rd2
      case st2 =>
       refine ⟨lp, ?_, lp, lp⟩
       · exact hCR
      case rd2 =>
       rintro y ρ2 σ1 hF2 ⟨k1, k2, k5, hσ⟩; obtain rfl := hσ.symm
       have f2 := keepL hF2
       (try simp [KeepL, F] at f2); replace F := aF k5 F; (try replace F := aF f2 F); refine sq fun K31 hK31 => ?_; refine sr fun _ hJ33 => ?_; refine hJ33 _ _ ?_; refine cs (fun c60 => ?_) (fun c60 => ?_)
       · (try exact nope c60); all_goals have c60p := c60; try simp [F] at c60p
         all_goals
          replace F := aF c60 F; try replace F := aF c60p F
          have hlt : y.i < X.length := by have h := c60; simp at h; omega
          obtain ⟨R, hR⟩ := acsC_at hlt
          obtain ⟨a, ha⟩ : ∃ a, a = X[y.i] := ⟨_, rfl⟩
          rw [← ha] at hR
          have haf : a.Few := hpf.2 a (by rw [ha]; exact List.getElem_mem _)
          have hb3 : y.i * 3 + 3 ≤ X.length * 3 := by omega
          have hi1 : y.i + 1 ≤ X.length := hlt
          have hdb := does_box (l := y.l) (r := y.r) (S3.c σ x.G x.M y.C) k2 (by omega) haf
          simp only [S3.put] at hdb
          have hr1 := k2.act haf
          simp only [acC, byC] at hR hdb
          replace F := aF hlt (And.intro hR (And.intro hb3 (And.intro hi1 F))); refine run_skip ?_; refine hK31 _ _ ?_; refine sq fun K34 hK34 => ?_; refine run_block_k ?_; refine rg' (h := fun J35 hJ35 => ?_); refine ca (c := hdb) (k := ?_); rintro _ _ ⟨C', b, l', r', q0, rfl, rfl⟩; (repeat (first | simp [F] | simp (disch := omega) only [wC, if_pos, if_neg])); refine hJ35 _ _ ?_; refine hK34 _ _ ?_; refine rg' (h := fun J36 hJ36 => ?_); refine hJ36 _ _ ?_; refine ⟨(⟨y.i + 1, C', actR y.MC a, l', r'⟩), ⟨kp, lp, ?_, lp, lp⟩, lp⟩
          · rw [q0]
            exact hr1
       (try exact nope c60); all_goals have c60p := c60; try simp [F] at c60p
       all_goals
        replace F := aF c60 F; (try replace F := aF c60p F); refine run_exit ?_; refine hK28 _ _ ?_; refine sr fun _ hJ38 => ?_
        refine ca (c := same2_ok (grbS (S3.s σ x.G x.M y.C) y.l y.r) (grbR (S3.r σ x.G x.M y.C) y.l y.r) h2m (by omega)) (k := ?_)
        rintro _ _ ⟨rfl, rfl⟩; (repeat (first | simp [F] | simp (disch := omega) only [wC, if_pos, if_neg])); refine hJ38 _ _ ?_; refine ra ?_; exact gcr (h1 := List.append_assoc _ _ _) (h3 := List.append_assoc _ _ _)
end Go.Proofs.Ytlkajgjaidedkaa

/-
  Plans: what they are, when they are right.
-/
namespace Go.Vm
open Go

structure Per where
  l : Nat
  c : List Coin
deriving DecidableEq

structure Pln where
  k : UInt8
  s : Nat
  e : Nat
  tot : List Coin
  ps : List Per
deriving DecidableEq

def perC (p : Per) : List AV := [.v (.int .u64 p.l), .sl 5 (coinsC p.c) p.c.length .shut]
def persC (l : List Per) : List AV := l.flatMap perC
@[simp] theorem persC_nil : persC [] = [] := rfl
@[simp] theorem persC_len (l : List Per) : (persC l).length = l.length * 2 := flat_length perC 2 (fun _ => rfl) l
structure PerQ where
  i : Nat
  e : Nat
  a : List Coin

section
variable {P : Program} {z : Zone} {N : Nat} {σ : St} {ρ : Nat → AV}
end

end Go.Vm

/-
  Arguments: numbers, lists of coins, plans.
-/
namespace Go.Vm
set_option linter.unnecessarySimpa false
set_option linter.unusedVariables false
open Go

theorem leavesF_mono {go go' : TypeId → Option (List TypeId)} (h : ∀ t l, go t = some l → go' t = some l) : ∀ (fs : List Field) (acc ls : List TypeId), leavesF go fs acc = some ls → leavesF go' fs acc = some ls
  | [], acc, ls, e => e
  | f :: fs, acc, ls, e => by
    simp only [leavesF] at e ⊢
    split at e
    · rename_i hf
      rw [if_pos hf]
      cases hg : go f.type with
      | none => rw [hg] at e; cases e
      | some l =>
        rw [hg] at e
        rw [h _ _ hg]
        exact leavesF_mono h fs _ ls e
    · cases e

theorem leaves_succ {P : Program} : ∀ (n : Nat) (t : TypeId) (l : List TypeId), leaves P n t = some l → leaves P (n + 1) t = some l
  | 0, t, l, h => by simp [leaves] at h
  | n + 1, t, l, h => by
    have ih := leaves_succ (P := P) n
    rw [leaves] at h ⊢
    split at h
    · exact h
    · exact h
    · exact h
    · rename_i e hu
      cases hg : leaves P n e with
      | none => rw [hg] at h; cases h
      | some l' => rw [hg] at h; simp only [ih _ _ hg]; exact h
    · rename_i fs hu
      cases hg : leavesF (leaves P n) fs.toList [] with
      | none => rw [hg] at h; cases h
      | some l' => rw [hg] at h; simp only [leavesF_mono ih _ _ _ hg]; exact h
    · rename_i k e hu
      cases hg : leaves P n e with
      | none => rw [hg] at h; cases h
      | some l' => rw [hg] at h; simp only [ih _ _ hg]; exact h
    · cases h

theorem leaves_add {P : Program} {n : Nat} {t : TypeId} {l : List TypeId} (h : leaves P n t = some l) : ∀ k, leaves P (n + k) t = some l
  | 0 => h
  | k + 1 => leaves_succ _ _ _ (leaves_add h k)
theorem leaves_one {P : Program} {n m : Nat} {t : TypeId} {l l' : List TypeId} (h : leaves P n t = some l) (h' : leaves P m t = some l') : l = l' := by
  have h1 := leaves_add h m
  have h2 := leaves_add h' n
  rw [Nat.add_comm] at h2
  rw [h1] at h2
  exact Option.some.inj h2

theorem u8_of {P : Program} {u : TypeId} {a : AV} (hu : P.underlying u = some (.int .u8)) (w : WC P u a) : ∃ b : UInt8, a = .v (.int .u8 b.toNat) := by
  cases w with
  | bool h => rw [hu] at h; cases h
  | string h _ => rw [hu] at h; cases h
  | slice h _ _ _ _ => rw [hu] at h; cases h
  | int h hw =>
    rename_i k n
    rw [hu] at h
    cases h
    have m1 : IntKind.u8.min = 0 := rfl
    have m2 : IntKind.u8.max = 255 := rfl
    simp [Lit.wf, m1, m2] at hw
    refine ⟨UInt8.ofNat n.toNat, ?_⟩
    have e : (UInt8.ofNat n.toNat).toNat = n.toNat := toNat_u8 (by omega)
    rw [e]
    congr 2; omega

theorem groups {P : Program} {α : Type} {f : α → List AV} {ls : List TypeId} (hl : 0 < ls.length) (hf : ∀ a, (f a).length = ls.length)
    (one : ∀ cs : List AV, cs.length = ls.length → (∀ (j : Nat) a u, cs[j]? = some a → ls[j]? = some u → WC P u a) → ∃ x, cs = f x) :
    ∀ (n : Nat) (cs : List AV), cs.length = n * ls.length → (∀ (j : Nat) a u, cs[j]? = some a → ls[j % ls.length]? = some u → WC P u a) → ∃ l : List α, l.length = n ∧ cs = l.flatMap f
  | 0, cs, h, _ => ⟨[], rfl, by simpa using h⟩
  | n + 1, cs, h, hc => by
    have hle : ls.length ≤ cs.length := by rw [h, Nat.add_mul]; omega
    obtain ⟨x, hx⟩ := one (cs.take ls.length) (by simp; omega) (fun j a u ha hu => by
      have hj : j < ls.length := (List.getElem?_eq_some_iff.1 hu).1
      rw [List.getElem?_take, if_pos hj] at ha
      exact hc j a u ha (by rw [Nat.mod_eq_of_lt hj]; exact hu))
    obtain ⟨l, hln, hl2⟩ := groups hl hf one n (cs.drop ls.length) (by rw [List.length_drop, h, Nat.add_mul]; omega) (fun j a u ha hu => by
      rw [List.getElem?_drop] at ha
      exact hc (ls.length + j) a u ha (by rw [Nat.add_mod_left]; exact hu))
    exact ⟨x :: l, by simp [hln], by rw [List.flatMap_cons, ← hx, ← hl2, List.take_append_drop]⟩

theorem wc_len {P : Program} {t : TypeId} {sz n : Nat} {cs : List AV} {tl : Tail} (w : WC P t (.sl sz cs n tl)) : n ≤ 9223372036854775807 := by
  generalize hx : AV.sl sz cs n tl = x at w
  cases w with
  | bool h => cases hx
  | string h _ => cases hx
  | int h _ => cases hx
  | slice h hls hl hn hc => cases hx; exact hn

end Go.Vm

/-
  Arguments: deeds.
-/
namespace Go.Proofs.Ytlkajgjaidedkaa
set_option linter.unnecessarySimpa false
set_option maxRecDepth 100000
open Go Go.Vm
set_option linter.unusedVariables false

theorem bytes_cells2 {P : Program} {u : TypeId} (hu : P.underlying u = some (.int .u8)) : ∀ cs : List AV, (∀ a, a ∈ cs → WC P u a) → ∃ p : List UInt8, cs = bytesA p
  | [], _ => ⟨[], rfl⟩
  | a :: cs, hh => by
    obtain ⟨p, hp⟩ := bytes_cells2 hu cs (fun b hb => hh b (by simp [hb]))
    obtain ⟨b, hb⟩ := u8_of hu (hh a (by simp))
    exact ⟨b :: p, by rw [hp, hb]; rfl⟩
theorem bytes_of {P : Program} {t e : TypeId} {k : Nat} {a : AV} (ht : P.underlying t = some (.slice e)) (hle : leaves P k e = some [e]) (he : P.underlying e = some (.int .u8)) (w : WC P t a) : ∃ p : List UInt8, a = byC p ∧ p.length ≤ 9223372036854775807 := by
  have w0 := w
  cases w with
  | bool h => rw [ht] at h; cases h
  | string h _ => rw [ht] at h; cases h
  | int h _ => rw [ht] at h; cases h
  | slice h hls hl hn hc =>
    rw [ht] at h
    cases h
    rename_i fuel ls cs n
    obtain rfl := leaves_one hle hls
    obtain ⟨p, rfl⟩ := bytes_cells2 he cs (fun a ha => by
      obtain ⟨j, hj⟩ := List.mem_iff_getElem?.1 ha
      exact hc j a e hj (by simp [Nat.mod_one]))
    have : n = p.length := by simpa using hl.symm
    subst this
    exact ⟨p, rfl, wc_len w0⟩
theorem acts_of {P : Program} {t e u tc ec : TypeId} {k k2 : Nat} {a : AV} (ht : P.underlying t = some (.slice e)) (hle : leaves P k e = some [u, tc, tc]) (hu : P.underlying u = some (.int .u8))
    (htc : P.underlying tc = some (.slice ec)) (hlc : leaves P k2 ec = some [ec]) (hec : P.underlying ec = some (.int .u8)) (w : WC P t a) : ∃ L : List Ac, a = .sl 3 (acsC L) L.length .shut ∧ L.length ≤ 9223372036854775807 ∧ ∀ x ∈ L, x.k.length ≤ 9223372036854775807 ∧ x.v.length ≤ 9223372036854775807 := by
  cases w with
  | bool h => rw [ht] at h; cases h
  | string h _ => rw [ht] at h; cases h
  | int h _ => rw [ht] at h; cases h
  | slice h hls hl hn hc =>
    rw [ht] at h
    cases h
    rename_i fuel ls cs n
    obtain rfl := leaves_one hle hls
    obtain ⟨L, hL, rfl⟩ := groups (α := { x : Ac // x.k.length ≤ 9223372036854775807 ∧ x.v.length ≤ 9223372036854775807 }) (f := fun x => acC x.1) (ls := [u, tc, tc]) (by simp) (fun _ => rfl) (fun cs h1 h2 => by
      obtain ⟨a0, a1, a2, rfl⟩ : ∃ a0 a1 a2, cs = [a0, a1, a2] := by
        match cs, h1 with
        | [a0, a1, a2], _ => exact ⟨a0, a1, a2, rfl⟩
      obtain ⟨m, e0⟩ := u8_of hu (h2 0 a0 u rfl rfl)
      obtain ⟨p, e1, hp⟩ := bytes_of htc hlc hec (h2 1 a1 tc rfl rfl)
      obtain ⟨q, e2, hq⟩ := bytes_of htc hlc hec (h2 2 a2 tc rfl rfl)
      exact ⟨⟨⟨m, p, q⟩, hp, hq⟩, by rw [e0, e1, e2]; rfl⟩) n cs hl hc
    refine ⟨L.map Subtype.val, ?_, by rw [List.length_map, hL]; exact hn, fun x hx => ?_⟩
    · rw [List.length_map, hL]
      show AV.sl 3 _ n .shut = _
      congr 1
      induction L with
      | nil => rfl
      | cons y L ih => simp [acsC, List.flatMap_cons]
    · obtain ⟨y, _, rfl⟩ := List.mem_map.1 hx
      exact y.2
theorem acts_arg {n : Nat} {P : Program} {t e u tc ec : TypeId} {k k2 : Nat} {H : Type} {enc : TypeId × Value → H} {W : World} {spare : Nat → Bool} {ad : Option Addr} {m c : Nat} {d : DataW H} {ps : List MemPlace} (hl : leaves P n t = some [t]) (ht : P.underlying t = some (.slice e)) (hle : leaves P k e = some [u, tc, tc]) (hu : P.underlying u = some (.int .u8))
    (htc : P.underlying tc = some (.slice ec)) (hlc : leaves P k2 ec = some [ec]) (hec : P.underlying ec = some (.int .u8))
    (h : DataW.Trod enc P W 0 spare true t (.slice ad m c) d ps) : ∃ L : List Ac, L.length ≤ 9223372036854775807 ∧ (∀ x ∈ L, x.k.length ≤ 9223372036854775807 ∧ x.v.length ≤ 9223372036854775807) ∧ AVR (atFirst W) W (.slice ad m c) (.sl 3 (acsC L) L.length .shut) := by
  obtain ⟨l, h1, h2, h3, h4⟩ := open_arg hl h
  have hc : Value.cells (.slice ad m c) = #[.slice ad m c] := rfl
  obtain ⟨a, rfl⟩ : ∃ a, l = [a] := by
    match l, h1 with
    | [a], _ => exact ⟨a, rfl⟩
  obtain ⟨L, rfl, e1, e2⟩ := acts_of ht hle hu htc hlc hec (h4 0 a t rfl rfl)
  exact ⟨L, e1, e2, h3 0 _ _ (by rw [hc]; rfl) rfl⟩

end Go.Proofs.Ytlkajgjaidedkaa
