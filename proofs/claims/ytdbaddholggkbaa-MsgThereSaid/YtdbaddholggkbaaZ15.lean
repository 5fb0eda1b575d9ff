import Derived.Test.YtdbaddholggkbaaZ7
import Derived.Test.YtdbaddholggkbaaZ13
import Derived.Test.YtdbaddholggkbaaZ12
import Derived.Test.YtdbaddholggkbaaZ14
import Derived.Test.YtdbaddholggkbaaZ10
/-
  A plan without what is locked..
-/
namespace Go.Proofs.Ytdbaddholggkbaa
set_option linter.unnecessarySimpa false
set_option maxRecDepth 100000
open Go Go.Vm
set_option linter.unusedSimpArgs false
set_option linter.unusedVariables false
attribute [local simp] evalL wantedA isCall opA evalA evalAll evalsA evalOpt ofValue ofCell plain binA_eql_pn binA_neq_pn binA_gtr binA_lss binA_geq binA_leq binA_add binA_sub binA_eql binA_neq binA_orI binA_andI binA_shl binA_shr binA_mul binA_quo binA_rem binA_agg_eql binA_agg_neq convA_int unA_not fieldAddrA loadA partA pickA_true pickA_false pickA_bb lenA builtinA storeA splice AV.cells AV.isCell sliceA boundA intA callOf indexAddrA newObjA buildA fillA zeroA ofCells buildSliceA indexA fieldA numA_len4 numA_take4 numA_drop4 set_appN get_appN take_appN List.getElem?_cons_zero List.getElem?_cons_succ makeA zeros64

theorem cut_nil {k : UInt8} (h : k = 0) : WkL [.v (.int .u8 k.toNat), .v (.int .u64 0), .v (.int .u64 0), .sl 0 [] 0 .full, .sl 0 [] 0 .full] (plnC ⟨0, 0, 0, [], []⟩) := by
  subst h
  exact .cons (Wk.refl _) (.cons (Wk.refl _) (.cons (Wk.refl _) (.cons (Wk.nil _ _ _) (.cons (Wk.nil _ _ _) .nil))))

end Go.Proofs.Ytdbaddholggkbaa

/-
  Lists of coins: what both readers make of a list's bytes.
-/
namespace Go.Proofs.Ytdbaddholggkbaa
set_option linter.unnecessarySimpa false
open Go Go.Vm
set_option linter.unusedSimpArgs false
set_option linter.unusedVariables false
set_option maxRecDepth 100000
attribute [local simp] evalL wantedA isCall opA evalA evalAll evalsA evalOpt ofValue ofCell plain binA_eql_pn binA_neq_pn binA_gtr binA_lss binA_geq binA_leq binA_add binA_sub binA_eql binA_neq binA_or binA_shl binA_shr binA_mul binA_quo binA_rem binA_agg_eql binA_agg_neq convA_int unA_not fieldAddrA loadA partA pickA_true pickA_false pickA_bb lenA builtinA storeA splice AV.cells AV.isCell sliceA boundA intA callOf indexAddrA newObjA buildA fillA zeroA ofCells indexA fieldA coinsC_at

structure CSk where
  m : Nat
  s : Option (List UInt8)
  l : List Coin
  k : Nat

end Go.Proofs.Ytdbaddholggkbaa

/-
  A plan, read of any bytes..
-/
namespace Go.Proofs.Ytdbaddholggkbaa
set_option linter.unnecessarySimpa false
set_option maxRecDepth 100000
open Go Go.Vm
set_option linter.unusedSimpArgs false
set_option linter.unusedVariables false
attribute [local simp] evalL wantedA isCall opA evalA evalAll evalsA evalOpt ofValue ofCell plain binA_eql_pn binA_neq_pn binA_gtr binA_lss binA_geq binA_leq binA_add binA_sub binA_eql binA_neq binA_orI binA_andI binA_shl binA_shr binA_mul binA_quo binA_rem binA_agg_eql binA_agg_neq convA_int unA_not fieldAddrA loadA partA pickA_true pickA_false pickA_bb lenA builtinA storeA splice AV.cells AV.isCell sliceA boundA intA callOf indexAddrA newObjA buildA fillA zeroA ofCells buildSliceA indexA fieldA numA_len4 numA_take4 numA_drop4 set_appN get_appN take_appN List.getElem?_cons_zero List.getElem?_cons_succ makeA zeros64

def perS (s : Option (List UInt8)) : Per := ⟨be (takeB 8 s), coinsL (takeS 8 s)⟩
def perT (s : Option (List UInt8)) : Option (List UInt8) := coinsS (takeS 8 s)
def persGo : Nat → Option (List UInt8) → List Per → List Per × Option (List UInt8)
  | 0, s, l => (l, s)
  | _ + 1, none, l => (l, none)
  | m + 1, some p, l => persGo m (perT (some p)) (l ++ [perS (some p)])
theorem persGo_more {m : Nat} {s : Option (List UInt8)} {l : List Per} (hm : 0 < m) (hs : ¬ s = none) : persGo m s l = persGo (m - 1) (perT s) (l ++ [perS s]) := by
  match m, s, hm, hs with
  | m + 1, some p, _, _ => rfl
theorem persGo_stop {m : Nat} {s : Option (List UInt8)} {l : List Per} (h : m = 0 ∨ s = none) : persGo m s l = (l, s) := by
  match m, s, h with
  | 0, _, _ => rfl
  | m + 1, none, _ => rfl
def s4S (s : Option (List UInt8)) : Option (List UInt8) := coinsS (takeS 8 (takeS 8 (takeS 1 s)))
def planR (s : Option (List UInt8)) : List Per × Option (List UInt8) := persGo (be (takeB 1 (s4S s))) (takeS 1 (s4S s)) []
def planP (s : Option (List UInt8)) (L : List Per) : Pln := ⟨byteS s, be (takeB 8 (takeS 1 s)), be (takeB 8 (takeS 8 (takeS 1 s))), coinsL (takeS 8 (takeS 8 (takeS 1 s))), L⟩
def takeT (s : Option (List UInt8)) : Option (List UInt8) := if rightB (planP s (planR s).1) = true then (planR s).2 else none
def takeP (s : Option (List UInt8)) : Pln := if takeT s = none then ⟨0, 0, 0, [], []⟩ else planP s (planR s).1
theorem take_none {s S : Option (List UInt8)} {L : List Per} (h : planR s = (L, S)) (h2 : rightB (planP s L) = false ∨ S = none) : takeP s = ⟨0, 0, 0, [], []⟩ ∧ takeT s = none := by
  have e : takeT s = none := by
    unfold takeT
    rw [h]
    rcases h2 with h2 | h2
    · simp [h2]
    · simp [h2]
  exact ⟨by simp [takeP, e], e⟩
theorem take_some {s S : Option (List UInt8)} {L : List Per} (h : planR s = (L, S)) (h1 : rightB (planP s L) = true) (h2 : ¬ S = none) : takeP s = planP s L ∧ takeT s = S := by
  have e : takeT s = S := by
    unfold takeT
    rw [h, if_pos h1]
  exact ⟨by rw [takeP, e, if_neg h2, h], e⟩
theorem planP_ok {s : Option (List UInt8)} {L : List Per} (hl : L.length ≤ 255) (hx : ∀ x ∈ L, x.l < 2 ^ 64 ∧ x.c.length ≤ 255) : (planP s L).Ok := by
  refine ⟨be_lt8 _ (takeB_len 8 _), be_lt8 _ (takeB_len 8 _), ?_, ?_, fun x h => ⟨(hx x h).1, ?_⟩⟩
  · have := coinsL_le (takeS 8 (takeS 8 (takeS 1 s))); simp only [planP]; omega
  · simp only [planP]; omega
  · have := (hx x h).2; omega
theorem perS_ok (s : Option (List UInt8)) : (perS s).l < 2 ^ 64 ∧ (perS s).c.length ≤ 255 := ⟨be_lt8 _ (takeB_len 8 _), coinsL_le _⟩

structure TSt where
  m : Nat
  s : Option (List UInt8)
  l : List Per

theorem nil0 {L : List Per} (h : posB L.length = false) : persC L = [] ∧ L.length = 0 := by
  have h0 := posB_no h
  have : L = [] := List.length_eq_zero_iff.1 h0
  subst this
  exact ⟨rfl, rfl⟩
theorem take_wk {s : Option (List UInt8)} {L : List Per} {k : Nat} : WkL [.v (.int .u8 (be (takeB 1 s))), .v (.int .u64 (be (takeB 8 (takeS 1 s)))), .v (.int .u64 (be (takeB 8 (takeS 8 (takeS 1 s))))), .sl 5 (coinsC (coinsL (takeS 8 (takeS 8 (takeS 1 s))))) (coinsL (takeS 8 (takeS 8 (takeS 1 s)))).length .shut, grA k 2 (posB L.length) (persC L) L.length] (plnC (planP s L)) :=
  .cons (by rw [be_byteS]; exact Wk.refl _) (.cons (Wk.refl _) (.cons (Wk.refl _) (.cons (Wk.refl _) (.cons (wk_grA nil0) .nil))))

set_option maxHeartbeats 1600000 in
attribute [local simp] undefA List.getElem?_cons_zero List.getElem?_cons_succ perC persC_noObj in
theorem ptake_ok {σ : St} {id : Nat} {s : Option (List UInt8)} (h : σ.objs[id]? = some (rd s)) :
    CallsA Try.prog 34 [.ptr id 0] σ (fun av σ' => av = .agg (plnC (takeP s)) ∧ σ' = { σ with objs := σ.objs.set id (rd (takeT s)) }) := by
  refine callsA_gc_obj (Q := fun av σ' => Wk av (.agg (plnC (takeP s))) ∧ ∃ l m r, σ' = { σ with objs := σ.objs.set id (rd (takeT s)) ++ l, toks := σ.toks ++ m, rows := σ.rows ++ r }) ?_ (fun av σ' h => h) (by simp [AV.under, underL, plnC, persC_under]) (rd_under _ _)
  have hs := set_self_of h
  have hlt := lt_of_get h
  have ho1 : ∀ r, (σ.objs ++ r)[id]? = some (rd s) := fun r => by rw [List.getElem?_append_left hlt]; exact h
  have ho2 : ∀ x r, (σ.objs.set id x ++ r)[id]? = some x := fun x r => by rw [List.getElem?_append_left (by simpa using hlt)]; exact hs x
  have ho3 : ∀ x r, (σ.objs ++ r).set id x = σ.objs.set id x ++ r := fun x r => List.set_append_left _ _ hlt
  have ho4 : ∀ x y r, (σ.objs.set id y ++ r).set id x = σ.objs.set id x ++ r := fun x y r => by rw [List.set_append_left _ _ (by simpa using hlt), List.set_set]
  have hm := be_lt1 (takeB_len 1 (s4S s))
  have hgc : ∀ (k : Nat) (b : Bool) (cs : List AV) (n : Nat), (grA k 2 b cs n).isCell = true := fun k b cs n => by cases b <;> rfl
  simp only [AV.isCell] at hgc
  have hdr : ∀ f : Nat → AV, List.drop 2 (List.map f (List.range 2)) = [] := fun _ => rfl
  have hdr5 : ∀ f : Nat → AV, List.drop 5 (List.map f (List.range 5)) = [] := fun _ => rfl
  have hR : ∀ (L : List Per) (k : Nat) (τ : St), L.length ≤ 255 → (∀ x ∈ L, x.l < 2 ^ 64 ∧ x.c.length ≤ 255) → CallsA Try.prog 18 [.agg [.v (.int .u8 (be (takeB 1 s))), .v (.int .u64 (be (takeB 8 (takeS 1 s)))), .v (.int .u64 (be (takeB 8 (takeS 8 (takeS 1 s))))), .sl 5 (coinsC (coinsL (takeS 8 (takeS 8 (takeS 1 s))))) (coinsL (takeS 8 (takeS 8 (takeS 1 s)))).length .shut, grA k 2 (posB L.length) (persC L) L.length]] τ (fun av σ' => av = .v (.bool (rightB (planP s L))) ∧ τ = σ') :=
    fun L k τ hl hx => callsA_wk (.cons (WkL.agg take_wk) .nil) (plright_ok (planP_ok hl hx))
  have F := And.intro ho1 (And.intro ho2 (And.intro ho3 (And.intro ho4 (And.intro hlt (And.intro hdr (And.intro hdr5 (And.intro hgc (True.intro))))))))
  refine callsA_body Try.func34 rfl rfl rfl ?_; refine sr fun _ hJ2 => ?_; refine hJ2 _ _ ?_; refine sr fun _ hJ4 => ?_; refine ca (c := byte_ok (ho1 _)) (k := ?_); rintro _ _ ⟨rfl, rfl⟩; (repeat (first | simp [F] | simp (disch := omega) only [wC, if_pos, if_neg])); refine ca (c := long_ok (ho2 _ _)) (k := ?_); rintro _ _ ⟨rfl, rfl⟩; (repeat (first | simp [F] | simp (disch := omega) only [wC, if_pos, if_neg])); refine ca (c := long_ok (ho2 _ _)) (k := ?_); rintro _ _ ⟨rfl, rfl⟩; (repeat (first | simp [F] | simp (disch := omega) only [wC, if_pos, if_neg])); refine ca (c := rcoins_raw (ho2 _ _)) (k := ?_); rintro _ _ ⟨rfl, rfl⟩; (repeat (first | simp [F] | simp (disch := omega) only [wC, if_pos, if_neg])); refine hJ4 _ _ ?_; refine sq fun K5 hK5 => ?_; refine sr fun _ hJ7 => ?_; refine ca (c := byte_ok (ho2 _ _)) (k := ?_); rintro _ _ ⟨rfl, rfl⟩; (repeat (first | simp [F] | simp (disch := omega) only [wC, if_pos, if_neg])); refine hJ7 _ _ ?_; refine run_block_k ?_; refine run_loopF (X := TSt) [0, 2, 3] (fun q ρ σ1 => (q.m + q.l.length ≤ 255) ∧ (∀ x ∈ q.l, x.l < 2 ^ 64 ∧ x.c.length ≤ 255) ∧ (persGo q.m q.s q.l = planR s) ∧ (ρ 4 = .v (.int .u8 q.m)) ∧ (σ1 = { σ with objs := σ.objs.set id (rd q.s) ++ [[.v (.int .u8 0), .v (.int .u64 0), .v (.int .u64 0), .sl 0 [] 0 .full, .sl 0 [] 0 .full], [.v (.int .u8 (be (takeB 1 s))), .v (.int .u64 (be (takeB 8 (takeS 1 s)))), .v (.int .u64 (be (takeB 8 (takeS 8 (takeS 1 s))))), .sl 5 (coinsC (coinsL (takeS 8 (takeS 8 (takeS 1 s))))) (coinsL (takeS 8 (takeS 8 (takeS 1 s)))).length .shut, grA σ.toks.length 2 (posB q.l.length) (persC q.l) q.l.length]], toks := σ.toks ++ grT (posB q.l.length) q.l.length })) (fun q => q.m) (⟨be (takeB 1 (s4S s)), takeS 1 (s4S s), []⟩) ?st1 ?rd1
  case st1 =>
   refine ⟨?_, ?_, ?_, lp, ?_⟩
   · simp
     omega
   · simp
   · rfl
   · simp [F, s4S]
  case rd1 =>
   rintro q ρ1 σ1 hF1 ⟨hm, hx, hg, h4, hσ⟩; obtain rfl := hσ.symm
   have f1 := keepL hF1
   (try simp [KeepL, F] at f1); replace F := aF h4 F; (try replace F := aF f1 F); refine sq fun K8 hK8 => ?_; refine sqc (X := Unit) [0, 2, 3, 4] (fun k ρ σ1 => (ρ 22 = .v (.bool (decide (0 < q.m) && !q.s.isNone))) ∧ (σ1 = { σ with objs := σ.objs.set id (rd q.s) ++ [[.v (.int .u8 0), .v (.int .u64 0), .v (.int .u64 0), .sl 0 [] 0 .full, .sl 0 [] 0 .full], [.v (.int .u8 (be (takeB 1 s))), .v (.int .u64 (be (takeB 8 (takeS 1 s)))), .v (.int .u64 (be (takeB 8 (takeS 8 (takeS 1 s))))), .sl 5 (coinsC (coinsL (takeS 8 (takeS 8 (takeS 1 s))))) (coinsL (takeS 8 (takeS 8 (takeS 1 s)))).length .shut, grA σ.toks.length 2 (posB q.l.length) (persC q.l) q.l.length]], toks := σ.toks ++ grT (posB q.l.length) q.l.length })) ?cy9 ?cx9
   case cy9 =>
    rintro k ρCr3 σ1 hFCr3 ⟨h22, hσ⟩; obtain rfl := hσ.symm
    have fCr3 := keepL hFCr3
    (try simp [KeepL, F] at fCr3); replace F := aF h22 F; (try replace F := aF fCr3 F); refine cs (t := (decide (0 < q.m) && !q.s.isNone)) (fun c22 => ?_) (fun c22 => ?_)
    · (try exact nope c22); all_goals have c22p := c22; try simp [F] at c22p
      all_goals
       replace F := aF c22 F; (try replace F := aF c22p F); refine run_skip ?_; refine hK8 _ _ ?_; refine sq fun K10 hK10 => ?_; refine run_block_k ?_
       obtain ⟨m, S, L⟩ := q
       simp only at hm hx hg h4
       have hmS : 0 < m ∧ ¬ S = none := by have h := c22; simp at h; exact ⟨h.1, by intro e; rw [e] at h; simp at h⟩
       have hnx := persGo_more (l := L) hmS.1 hmS.2
       have hP : persC (L ++ [perS S]) = persC L ++ [.v (.int .u64 (be (takeB 8 S))), .sl 5 (coinsC (coinsL (takeS 8 S))) (coinsL (takeS 8 S)).length .shut] := by rw [← persC_append]; rfl
       have hLl : L.length ≤ 254 := by omega
       have happ : ∀ objs, appendA Try.prog 24 (grA σ.toks.length 2 (posB L.length) (persC L) L.length) (.sl 2 [.v (.int .u64 (be (takeB 8 S))), .sl 5 (coinsC (coinsL (takeS 8 S))) (coinsL (takeS 8 S)).length .shut] 1 .full) ⟨objs, σ.toks ++ grT (posB L.length) L.length, σ.gl, σ.rows⟩ = some (grA σ.toks.length 2 true (persC L ++ [.v (.int .u64 (be (takeB 8 S))), .sl 5 (coinsC (coinsL (takeS 8 S))) (coinsL (takeS 8 S)).length .shut]) (L.length + 1), ⟨objs, σ.toks ++ grT true (L.length + 1), σ.gl, σ.rows⟩) := fun objs => append_gr elemT_24 ti_88 (by decide) rfl nil0 (.inl rfl) (by simp [roomA]; omega) (by simp [maxLen]; omega)
       have hwm : IntKind.u8.wrap ((m : Int) - 1) = ((m - 1 : Nat) : Int) := by rw [wrap_u8c (by omega)]; omega
       replace F := aF happ F
       refine run_draw (by kernel_rfl) fun J11 hJ11 => ?_
       refine rp2 0 (k := ?_); refine rp2 1 (k := ?_); refine rp2 2 (k := ?_); refine rp2 4 (k := ?_); refine dc 3 rfl (c := long_ok (ho2 _ _)) (k := ?_); rintro _ _ ⟨rfl, rfl⟩
       refine ⟨by first | exact fun _ _ h => h | (refine later_list [4, 1, 0] (by kernel_rfl) (List.forall_mem_cons.2 ⟨fun _ => fact2 rfl rfl ?_, List.forall_mem_cons.2 ⟨fun _ => fact2 rfl rfl ?_, List.forall_mem_cons.2 ⟨fun _ => fact2 rfl rfl ?_, fun _ h => absurd h List.not_mem_nil⟩⟩⟩) <;> constructor <;> first | rfl | (simp [F]; done)), ?_⟩
       (repeat (first | simp [F] | simp (disch := omega) only [wC, if_pos, if_neg])); refine dc 5 rfl (c := rcoins_raw (ho2 _ _)) (k := ?_); rintro _ _ ⟨rfl, rfl⟩
       refine ⟨by first | exact fun _ _ h => h | (refine later_list [1, 0] (by kernel_rfl) (List.forall_mem_cons.2 ⟨fun _ => fact2 rfl rfl ?_, List.forall_mem_cons.2 ⟨fun _ => fact2 rfl rfl ?_, fun _ h => absurd h List.not_mem_nil⟩⟩) <;> constructor <;> first | rfl | (simp [F]; done)), ?_⟩
       (repeat (first | simp [F] | simp (disch := omega) only [wC, if_pos, if_neg])); refine rp2 6 (k := ?_); refine rp2 7 (k := ?_); refine dop 8 rfl ?_; repeat (first | simp [F] | simp (disch := omega) only [wC, if_pos, if_neg])
       refine ⟨by first | exact fun _ _ h => h | (refine later_list [6, 0] (by kernel_rfl) (List.forall_mem_cons.2 ⟨fun _ => fact2 rfl rfl ?_, List.forall_mem_cons.2 ⟨fun _ => fact2 rfl rfl ?_, fun _ h => absurd h List.not_mem_nil⟩⟩) <;> constructor <;> first | rfl | (simp [F]; done)), ?_⟩
       refine rp2 9 (k := ?_); refine dop 10 rfl ?_; (repeat (first | simp [F] | simp (disch := omega) only [wC, if_pos, if_neg])); refine ⟨ln, ?_⟩; refine dd ?_; refine hJ11 _ _ ?_; refine hK10 _ _ ?_; replace F := aF hwm F; refine rg' (h := fun J12 hJ12 => ?_); refine hJ12 _ _ ?_; refine ⟨(⟨m - 1, perT S, L ++ [perS S]⟩), ⟨kp, ?_, ?_, ?_, lp, ?_⟩, ?_⟩
       · simp
         omega
       · intro x hxm
         rcases List.mem_append.1 hxm with h | h
         · exact hx x h
         · simp at h; subst h; exact perS_ok S
       · rw [← hg]
         exact hnx.symm
       · simp [F, hP, perT]
       · simp
         omega
    (try exact nope c22); all_goals have c22p := c22; try simp [F] at c22p
    all_goals
     replace F := aF c22 F; try replace F := aF c22p F
     have he : planR s = (q.l, q.s) := by rw [← hg]; exact persGo_stop (by have h := c22; simp at h; by_cases h0 : q.m = 0; exact .inl h0; exact .inr (h (by omega)))
     have hql : q.l.length ≤ 255 := by omega
     refine run_exit ?_; refine hK5 _ _ ?_; refine sq fun K13 hK13 => ?_; refine sr fun _ hJ15 => ?_; refine ca (c := hR q.l _ _ hql hx) (k := ?_); rintro _ _ ⟨rfl, rfl⟩; (repeat (first | simp [F] | simp (disch := omega) only [wC, if_pos, if_neg])); refine hJ15 _ _ ?_; refine cs (fun c37 => ?_) (fun c37 => ?_)
     · (try exact nope c37); all_goals have c37p := c37; try simp [F] at c37p
       all_goals
        replace F := aF c37 F; (try replace F := aF c37p F); refine rg' (h := fun J16 hJ16 => ?_); refine ca (c := fail_ok (ho2 _ _)) (k := ?_); rintro _ _ ⟨rfl, rfl⟩; (repeat (first | simp [F] | simp (disch := omega) only [wC, if_pos, if_neg])); refine hJ16 _ _ ?_; refine hK13 _ _ ?_; refine sq fun K17 hK17 => ?_; refine sr fun _ hJ19 => ?_; refine ca (c := bad_ok (ho2 _ _)) (k := ?_); rintro _ _ ⟨rfl, rfl⟩; (repeat (first | simp [F] | simp (disch := omega) only [wC, if_pos, if_neg])); refine hJ19 _ _ ?_; refine cs (fun c41 => ?_) (fun c41 => ?_)
        · (try exact nope c41); all_goals have c41p := c41; try simp [F] at c41p
          all_goals
           replace F := aF c41 F; (try replace F := aF c41p F); refine sr fun _ hJ21 => ?_; refine hJ21 _ _ ?_; refine run_ret ?_; (try simp only [Then, InBlock, NoGoto]); refine acell (h := ?_)
           obtain ⟨e1, e2⟩ := take_none he (.inl (by simpa using c37))
           rw [e1, e2]
           refine gcr (τ := { σ with objs := σ.objs.set id (rd none) }) (hA := ?_); exact WkL.agg (cut_nil rfl)
        (try exact nope c41); all_goals have c41p := c41; try simp [F] at c41p
        all_goals
         replace F := aF c41 F; (try replace F := aF c41p F); refine run_skip ?_; refine hK17 _ _ ?_; refine sr fun _ hJ23 => ?_; refine hJ23 _ _ ?_; refine run_ret ?_; (try simp only [Then, InBlock, NoGoto]); refine acell (h := ?_)
         obtain ⟨e1, e2⟩ := take_none he (.inl (by simpa using c37))
         rw [e1, e2]
         refine gcr (τ := { σ with objs := σ.objs.set id (rd none) }) (hA := ?_); exact WkL.agg (cut_nil rfl)
     (try exact nope c37); all_goals have c37p := c37; try simp [F] at c37p
     all_goals
      replace F := aF c37 F; (try replace F := aF c37p F); refine run_skip ?_; refine hK13 _ _ ?_; refine sq fun K24 hK24 => ?_; refine sr fun _ hJ26 => ?_; refine ca (c := bad_ok (ho2 _ _)) (k := ?_); rintro _ _ ⟨rfl, rfl⟩; (repeat (first | simp [F] | simp (disch := omega) only [wC, if_pos, if_neg])); refine hJ26 _ _ ?_; refine cs (fun c41 => ?_) (fun c41 => ?_)
      · (try exact nope c41); all_goals have c41p := c41; try simp [F] at c41p
        all_goals
         replace F := aF c41 F; (try replace F := aF c41p F); refine sr fun _ hJ28 => ?_; refine hJ28 _ _ ?_; refine run_ret ?_; (try simp only [Then, InBlock, NoGoto]); refine acell (h := ?_)
         obtain ⟨e1, e2⟩ := take_none he (.inr (by simpa using c41))
         rw [e1, e2]
         refine gcr (τ := { σ with objs := σ.objs.set id (rd none) }) (hA := ?_); exact WkL.agg (cut_nil rfl)
      (try exact nope c41); all_goals have c41p := c41; try simp [F] at c41p
      all_goals
       replace F := aF c41 F; (try replace F := aF c41p F); refine run_skip ?_; refine hK24 _ _ ?_; refine sr fun _ hJ30 => ?_; refine hJ30 _ _ ?_; refine run_ret ?_; (try simp only [Then, InBlock, NoGoto]); refine acell (h := ?_)
       obtain ⟨e1, e2⟩ := take_some he (by simpa using c37) (by intro e; rw [e] at c41; simp at c41)
       rw [e1, e2]
       refine gcr (τ := { σ with objs := σ.objs.set id (rd q.s) }) (hA := ?_); exact WkL.agg take_wk
   case cx9 =>
    intro K9 hK9
    refine rg' (h := fun J31 hJ31 => ?_); refine gs 18 (fun g3_2 => ?_) (fun g3_2 => ?_)
    · (try exact nope g3_2); all_goals have g3_2p := g3_2; try simp [F] at g3_2p
      all_goals
       replace F := aF g3_2 F; (try replace F := aF g3_2p F); refine go2 (k := ?_); refine ca (c := bad_ok (ho2 _ _)) (k := ?_); rintro _ _ ⟨rfl, rfl⟩; (repeat (first | simp [F] | simp (disch := omega) only [wC, if_pos, if_neg])); refine go2 (k := ?_); refine hJ31 _ _ ?_; refine hK9 (()) _ _ ⟨kp, ?_, lp⟩
       · have h := g3_2
         simp at h
         simp [F, h]
    (try exact nope g3_2); all_goals have g3_2p := g3_2; try simp [F] at g3_2p
    all_goals
     replace F := aF g3_2 F; (try replace F := aF g3_2p F); (iterate 3 refine no2 (k := ?_)); refine hJ31 _ _ ?_; refine hK9 (()) _ _ ⟨kp, ?_, lp⟩
     · have h := g3_2
       simp at h
       simp [F, h]

end Go.Proofs.Ytdbaddholggkbaa

/-
  What was laid of a plan reads back: the plain law.
-/
namespace Go.Proofs.Ytdbaddholggkbaa
set_option linter.unnecessarySimpa false
set_option maxRecDepth 100000
set_option linter.unusedSimpArgs false
open Go Go.Vm
set_option linter.unusedVariables false

theorem takeS_app {E q : List UInt8} {n : Nat} (h : E.length = n) : takeS n (some (E ++ q)) = some q ∧ takeB n (some (E ++ q)) = E := by
  subst h
  simp [takeS, takeB]
theorem byte_app (b : UInt8) (q : List UInt8) : takeS 1 (some (b :: q)) = some q ∧ takeB 1 (some (b :: q)) = [b] := takeS_app (E := [b]) rfl

theorem be_natBytes (x : Nat) : be (natBytes x) = x := by
  induction x using Nat.strongRecOn with
  | _ x ih =>
    by_cases h : x = 0
    · subst h; simp [natBytes_zero, be]
    · rw [natBytes_pos (by omega), be_snoc, ih (x / 256) (by omega), toNat_ofNat (by omega)]
      omega

theorem natBytes_head (x : Nat) : (natBytes x).headD 1 ≠ 0 := by
  induction x using Nat.strongRecOn with
  | _ x ih =>
    by_cases h : x = 0
    · subst h; simp [natBytes_zero]
    · rw [natBytes_pos (by omega)]
      by_cases h2 : x / 256 = 0
      · rw [h2, natBytes_zero]
        simp only [List.nil_append, List.headD_cons]
        intro e
        have := congrArg UInt8.toNat e
        rw [toNat_ofNat (by omega)] at this
        simp at this; omega
      · have h3 := ih (x / 256) (by omega)
        cases h4 : natBytes (x / 256) with
        | nil => exact absurd (natBytes_nil.1 h4) h2
        | cons b l => rw [h4] at h3; simpa using h3

theorem natBytes_le {x : Nat} (hx : x < 2 ^ 256) : (natBytes x).length ≤ 32 := natBytes_len x 32 (by simpa using hx)

theorem natBytes_ok {x : Nat} (hx : x < 2 ^ 256) : numOk (natBytes x) = true := by
  have h1 := natBytes_le hx
  have h2 := natBytes_head x
  simp only [numOk, Bool.and_eq_true, decide_eq_true_eq, bne_iff_ne]
  exact ⟨h1, h2⟩

theorem num_app {x : Nat} (hx : x < 2 ^ 256) (q : List UInt8) : numS (some (encN x ++ q)) = some q ∧ numOf (numB (some (encN x ++ q))) = x := by
  have hle := natBytes_le hx
  obtain ⟨h1, h2⟩ := byte_app (UInt8.ofNat (natBytes x).length) (natBytes x ++ q)
  have h3 : be [UInt8.ofNat (natBytes x).length] = (natBytes x).length := by
    have : (UInt8.ofNat (natBytes x).length).toNat = (natBytes x).length := toNat_ofNat (by omega)
    simp only [be, List.foldl_cons, List.foldl_nil]
    omega
  obtain ⟨h4, h5⟩ := takeS_app (E := natBytes x) (q := q) rfl
  have hb : numB (some (encN x ++ q)) = natBytes x := by
    show takeB (be (takeB 1 (some (UInt8.ofNat (natBytes x).length :: (natBytes x ++ q))))) (takeS 1 (some (UInt8.ofNat (natBytes x).length :: (natBytes x ++ q)))) = _
    rw [h1, h2, h3, h5]
  have hok := natBytes_ok hx
  refine ⟨?_, by rw [hb, numOf, hok]; simpa using be_natBytes x⟩
  unfold numS
  rw [hb, hok]
  show (if true = true then takeS (be (takeB 1 (some (UInt8.ofNat (natBytes x).length :: (natBytes x ++ q))))) (takeS 1 (some (UInt8.ofNat (natBytes x).length :: (natBytes x ++ q)))) else none) = _
  rw [h1, h2, h3, h4]
  rfl

theorem coin_app (c : Coin) (q : List UInt8) : numS (takeS 1 (some (encC c ++ q))) = some q ∧ coinS (some (encC c ++ q)) = c := by
  obtain ⟨h1, h2⟩ := byte_app c.d (encN c.n.v ++ q)
  obtain ⟨h3, h4⟩ := num_app c.n.h q
  have e : encC c ++ q = c.d :: (encN c.n.v ++ q) := by simp [encC]
  rw [e, h1]
  refine ⟨h3, ?_⟩
  unfold coinS
  rw [h1]
  refine Coin.ext ?_ (Num.ext h4)
  show byteS (some (c.d :: (encN c.n.v ++ q))) = c.d
  unfold byteS
  rw [h2]; rfl

theorem coinsGo_app : ∀ (L : List Coin) (q : List UInt8) (l : List Coin), coinsGo L.length (some (encCs L ++ q)) l = (l ++ L, some q)
  | [], q, l => by simp [coinsGo, encCs]
  | c :: L, q, l => by
    have e : encCs (c :: L) ++ q = encC c ++ (encCs L ++ q) := by simp [encCs]
    obtain ⟨h1, h2⟩ := coin_app c (encCs L ++ q)
    rw [e]
    simp only [List.length_cons, coinsGo]
    rw [h1, h2, coinsGo_app L q]
    simp

theorem len_byte {L : List Coin} (hL : L.length ≤ 255) : be [UInt8.ofNat L.length] = L.length := by
  have : (UInt8.ofNat L.length).toNat = L.length := toNat_ofNat (by omega)
  simp only [be, List.foldl_cons, List.foldl_nil]
  omega

theorem coins_app {L : List Coin} (hL : L.length ≤ 255) (hR : Right L) (q : List UInt8) : coinsS (some (encL L ++ q)) = some q := by
  obtain ⟨h1, h2⟩ := byte_app (UInt8.ofNat L.length) (encCs L ++ q)
  have e : coinsR (some (encL L ++ q)) = (L, some q) := by
    show coinsGo (be (takeB 1 (some (UInt8.ofNat L.length :: (encCs L ++ q))))) (takeS 1 (some (UInt8.ofNat L.length :: (encCs L ++ q)))) [] = _
    rw [h1, h2, len_byte hL, coinsGo_app]; simp
  unfold coinsS
  rw [e, if_pos hR]

theorem coinsL_app {L : List Coin} (hL : L.length ≤ 255) (hR : Right L) (q : List UInt8) : coinsL (some (encL L ++ q)) = L := by
  obtain ⟨h1, h2⟩ := byte_app (UInt8.ofNat L.length) (encCs L ++ q)
  have e : coinsR (some (encL L ++ q)) = (L, some q) := by
    unfold coinsR
    rw [show encL L ++ q = UInt8.ofNat L.length :: (encCs L ++ q) from rfl, h1, h2, len_byte hL, coinsGo_app]
    simp
  unfold coinsL
  rw [coins_app hL hR q, e]
  simp

theorem be_nBytes8 {n : Nat} (h : n < 2 ^ 64) : be (nBytes 8 n) = n := by
  have e : nBytes 8 n = [UInt8.ofNat (n / 2 ^ 56 % 256), UInt8.ofNat (n / 2 ^ 48 % 256), UInt8.ofNat (n / 2 ^ 40 % 256), UInt8.ofNat (n / 2 ^ 32 % 256), UInt8.ofNat (n / 2 ^ 24 % 256), UInt8.ofNat (n / 2 ^ 16 % 256), UInt8.ofNat (n / 2 ^ 8 % 256), UInt8.ofNat (n / 2 ^ 0 % 256)] := rfl
  rw [e]
  have hb : ∀ x, (UInt8.ofNat (x % 256)).toNat = x % 256 := fun x => by rw [toNat_ofNat (by omega)]
  simp only [be, List.foldl_cons, List.foldl_nil, hb]
  omega

def encPer (x : Per) : List UInt8 := nBytes 8 x.l ++ encL x.c
def encPers (l : List Per) : List UInt8 := l.flatMap encPer
def encPl (p : Pln) : List UInt8 := p.k :: (nBytes 8 p.s ++ (nBytes 8 p.e ++ (encL p.tot ++ (UInt8.ofNat p.ps.length :: encPers p.ps))))
theorem encPers_snoc (l : List Per) (x : Per) : encPers (l ++ [x]) = encPers l ++ encPer x := by simp [encPers]
theorem encL_len {l : List Coin} (h : l.length ≤ 8) : (encL l).length ≤ 273 := by
  have := encCs_len l
  simp only [encL, List.length_cons]; omega
theorem encPers_len : ∀ l : List Per, (∀ x ∈ l, x.c.length ≤ 8) → (encPers l).length ≤ 281 * l.length
  | [], _ => by simp [encPers]
  | x :: l, h => by
    have h1 := encPers_len l (fun y hy => h y (by simp [hy]))
    have h2 := encL_len (h x (by simp))
    have e : encPers (x :: l) = encPer x ++ encPers l := rfl
    rw [e]
    simp only [encPer, List.length_append, nBytes_len, List.length_cons]
    omega

theorem persGo_app : ∀ (L : List Per) (q : List UInt8) (l : List Per), (∀ x ∈ L, x.l < 2 ^ 64 ∧ Right x.c) → persGo L.length (some (encPers L ++ q)) l = (l ++ L, some q)
  | [], q, l, _ => by simp [persGo, encPers]
  | x :: L, q, l, h => by
    obtain ⟨h1, h2⟩ := h x (by simp)
    have hl := right_len h2
    obtain ⟨t1, t2⟩ := takeS_app (E := nBytes 8 x.l) (q := encL x.c ++ (encPers L ++ q)) (n := 8) (nBytes_len _ _)
    have e : encPers (x :: L) ++ q = nBytes 8 x.l ++ (encL x.c ++ (encPers L ++ q)) := by simp [encPers, encPer]
    rw [e, List.length_cons, persGo, perT, perS, t1, t2, be_nBytes8 h1, coinsL_app (by omega) h2, coins_app (by omega) h2]
    rw [persGo_app L q _ (fun y hy => h y (by simp [hy]))]
    simp

theorem take_app {p : Pln} (h1 : p.s < 2 ^ 64) (h2 : p.e < 2 ^ 64) (h3 : Right p.tot) (h4 : p.ps.length ≤ 255) (h5 : ∀ x ∈ p.ps, x.l < 2 ^ 64 ∧ Right x.c) (hr : rightB p = true) (q : List UInt8) :
    takeP (some (encPl p ++ q)) = p ∧ takeT (some (encPl p ++ q)) = some q := by
  obtain ⟨k, s, e, t, ps⟩ := p
  simp only at h1 h2 h3 h4 h5
  have hl := right_len h3
  obtain ⟨a1, a2⟩ := byte_app k (nBytes 8 s ++ (nBytes 8 e ++ (encL t ++ (UInt8.ofNat ps.length :: (encPers ps ++ q)))))
  obtain ⟨b1, b2⟩ := takeS_app (E := nBytes 8 s) (q := nBytes 8 e ++ (encL t ++ (UInt8.ofNat ps.length :: (encPers ps ++ q)))) (n := 8) (nBytes_len _ _)
  obtain ⟨c1, c2⟩ := takeS_app (E := nBytes 8 e) (q := encL t ++ (UInt8.ofNat ps.length :: (encPers ps ++ q))) (n := 8) (nBytes_len _ _)
  have d1 := coins_app (by omega : t.length ≤ 255) h3 (UInt8.ofNat ps.length :: (encPers ps ++ q))
  have d2 := coinsL_app (by omega : t.length ≤ 255) h3 (UInt8.ofNat ps.length :: (encPers ps ++ q))
  obtain ⟨e1, e2⟩ := byte_app (UInt8.ofNat ps.length) (encPers ps ++ q)
  have hcnt : be [UInt8.ofNat ps.length] = ps.length := by
    have : (UInt8.ofNat ps.length).toNat = ps.length := toNat_ofNat (by omega)
    simp [be, this]
  have hE : encPl ⟨k, s, e, t, ps⟩ ++ q = k :: (nBytes 8 s ++ (nBytes 8 e ++ (encL t ++ (UInt8.ofNat ps.length :: (encPers ps ++ q))))) := by simp [encPl]
  rw [hE]
  have hR : planR (some (k :: (nBytes 8 s ++ (nBytes 8 e ++ (encL t ++ (UInt8.ofNat ps.length :: (encPers ps ++ q))))))) = (ps, some q) := by
    unfold planR s4S
    rw [a1, b1, c1, d1, e1, e2, hcnt, persGo_app ps q [] h5]
    rfl
  have hP : planP (some (k :: (nBytes 8 s ++ (nBytes 8 e ++ (encL t ++ (UInt8.ofNat ps.length :: (encPers ps ++ q))))))) ps = ⟨k, s, e, t, ps⟩ := by
    unfold planP byteS
    rw [a1, a2, b1, b2, c1, c2, d2, be_nBytes8 h1, be_nBytes8 h2]
    rfl
  have := take_some hR (by rw [hP]; exact hr) (by simp)
  rw [hP] at this
  exact this

end Go.Proofs.Ytdbaddholggkbaa

/-
  A plan is laid..
-/
namespace Go.Proofs.Ytdbaddholggkbaa
set_option linter.unnecessarySimpa false
set_option maxRecDepth 100000
open Go Go.Vm
set_option linter.unusedSimpArgs false
set_option linter.unusedVariables false
attribute [local simp] evalL wantedA isCall opA evalA evalAll evalsA evalOpt ofValue ofCell plain binA_eql_pn binA_neq_pn binA_gtr binA_lss binA_geq binA_leq binA_add binA_sub binA_eql binA_neq binA_orI binA_andI binA_shl binA_shr binA_mul binA_quo binA_rem binA_agg_eql binA_agg_neq convA_int unA_not fieldAddrA loadA partA pickA_true pickA_false pickA_bb lenA builtinA storeA splice AV.cells AV.isCell sliceA boundA intA callOf indexAddrA newObjA buildA fillA zeroA ofCells buildSliceA indexA fieldA numA_len4 numA_take4 numA_drop4 set_appN get_appN take_appN List.getElem?_cons_zero List.getElem?_cons_succ makeA zeros64

def WQ (id : Nat) (σ : St) (k : Nat) (l A : List UInt8) : AV → St → Prop := fun av σ' => av = .ptr id 0 ∧ ∃ k' tk', Wr σ.toks k l tk' k' A ∧ σ' = { σ with objs := σ.objs.set id [wrA k' A], toks := tk' }
theorem wbyteA {σ : St} {id k : Nat} {l A : List UInt8} {b : UInt8} (hA : A = l ++ [b]) (h : σ.objs[id]? = some [wrA k l]) (ht : Tk σ.toks k l) (hl : l.length ≤ 300000) :
    CallsA Try.prog 88 [.ptr id 0, .v (.int .u8 b.toNat)] σ (WQ id σ k l A) := by
  subst hA; exact wbyte_ok h ht (by omega)
theorem wlongA {σ : St} {id k n : Nat} {l A : List UInt8} (hA : A = l ++ nBytes 8 n) (h : σ.objs[id]? = some [wrA k l]) (ht : Tk σ.toks k l) (hn : n < 2 ^ 64) (hl : l.length ≤ 300000) :
    CallsA Try.prog 39 [.ptr id 0, .v (.int .u64 n)] σ (WQ id σ k l A) := by
  subst hA; exact wlong_ok h ht hn (by omega)
theorem wcoinsA {σ : St} {id k : Nat} {l A : List UInt8} {L : List Coin} {tL : Tail} (hA : A = l ++ encL L) (h : σ.objs[id]? = some [wrA k l]) (ht : Tk σ.toks k l) (hL : L.length ≤ 255) (hl : l.length ≤ 300000) :
    CallsA Try.prog 89 [.ptr id 0, .sl 5 (coinsC L) L.length tL] σ (WQ id σ k l A) := by
  subst hA; exact wcoins_ok h ht hL (by omega)

structure LSt where
  i : Nat
  k : Nat
  tk : List Nat

set_option maxHeartbeats 1600000 in
attribute [local simp] undefA List.getElem?_cons_zero List.getElem?_cons_succ plnC perC persC_noObj noObj_wrA noObj_wrA' in
theorem play_ok {σ : St} {id k : Nat} {l A : List UInt8} {p : Pln} (hA : A = l ++ encPl p) (h : σ.objs[id]? = some [wrA k l]) (ht : Tk σ.toks k l) (hl : l.length ≤ 100000)
    (p1 : p.s < 2 ^ 64) (p2 : p.e < 2 ^ 64) (p3 : p.tot.length ≤ 8) (p4 : p.ps.length ≤ 255) (p5 : ∀ x ∈ p.ps, x.l < 2 ^ 64 ∧ x.c.length ≤ 8) :
    CallsA Try.prog 40 [.ptr id 0, .agg (plnC p)] σ (fun av σ' => av = .tup [] ∧ ∃ k' tk', Wr σ.toks k l tk' k' A ∧ σ' = { σ with objs := σ.objs.set id [wrA k' A], toks := tk' }) := by
  have hlt := lt_of_get h
  refine callsA_mono (callsA_gcOI (A := .tup []) (Pi := fun i : Nat × List Nat => Wr σ.toks k l i.2 i.1 A) (τ := fun i => { σ with objs := σ.objs.set id [wrA i.1 A], toks := i.2 }) ?_ (by simp [AV.gcO, gcOL]) (fun _ => by simp) (fun _ => rfl) (fun _ => kp_set (kp_refl _) (noObj_wrA _ _ _)) (fun _ => kpr_refl _)) (fun av σ' ⟨h1, i, h2, h3⟩ => ⟨h1, i.1, i.2, h2, h3⟩)
  have hs := set_self_of h
  obtain ⟨pk, ps, pe, pt, pp⟩ := p
  simp only at p1 p2 p3 p4 p5
  obtain ⟨c, hc⟩ : ∃ c, c = UInt8.ofNat pp.length := ⟨_, rfl⟩
  have hcn : c.toNat = pp.length := by rw [hc]; exact toNat_ofNat (by omega)
  have hw : IntKind.u8.wrap (pp.length : Int) = (c.toNat : Int) := by rw [wrap_u8, hcn, Nat.mod_eq_of_lt (by omega)]
  obtain ⟨A1, hA1⟩ : ∃ A1, A1 = l ++ [pk] := ⟨_, rfl⟩
  obtain ⟨A2, hA2⟩ : ∃ A2, A2 = A1 ++ nBytes 8 ps := ⟨_, rfl⟩
  obtain ⟨A3, hA3⟩ : ∃ A3, A3 = A2 ++ nBytes 8 pe := ⟨_, rfl⟩
  obtain ⟨A4, hA4⟩ : ∃ A4, A4 = A3 ++ encL pt := ⟨_, rfl⟩
  obtain ⟨A5, hA5⟩ : ∃ A5, A5 = A4 ++ [c] := ⟨_, rfl⟩
  have n1 : A1.length = l.length + 1 := by rw [hA1]; simp
  have n2 : A2.length = l.length + 9 := by rw [hA2, List.length_append, nBytes_len, n1]
  have n3 : A3.length = l.length + 17 := by rw [hA3, List.length_append, nBytes_len, n2]
  have n4 : A4.length ≤ l.length + 290 := by have := encL_len p3; rw [hA4, List.length_append, n3]; omega
  have n5 : A5.length ≤ l.length + 291 := by rw [hA5, List.length_append]; simp; omega
  obtain ⟨Bf, hBf⟩ : ∃ Bf : Nat → List UInt8, Bf = fun i => A5 ++ encPers (pp.take i) := ⟨_, rfl⟩
  have hB0 : A5 = Bf 0 := by rw [hBf]; simp [encPers]
  have hBl : ∀ i, i ≤ pp.length → (Bf i).length ≤ 200000 := fun i hi => by
    have := encPers_len (pp.take i) (fun x hx => (p5 x (List.mem_of_mem_take hx)).2)
    have e : (pp.take i).length = i := by simp; omega
    rw [hBf]; simp only [List.length_append]; rw [e] at this; omega
  have hBs : ∀ i (hi : i < pp.length), Bf (i + 1) = Bf i ++ nBytes 8 pp[i].l ++ encL pp[i].c := fun i hi => by
    rw [hBf]; simp only; rw [← List.take_append_getElem hi, encPers_snoc]; simp [encPer]
  have hBA : Bf pp.length = A := by
    rw [hA, hBf]; simp only; rw [List.take_length, hA5, hA4, hA3, hA2, hA1, hc]; simp [encPl]
  clear hBf hA
  have ho1 : ∀ r, (σ.objs ++ r)[id]? = some [wrA k l] := fun r => by rw [List.getElem?_append_left hlt]; exact h
  have ho2 : ∀ x r, (σ.objs.set id x ++ r)[id]? = some x := fun x r => by rw [List.getElem?_append_left (by simpa using hlt)]; exact hs x
  have ho3 : ∀ x r, (σ.objs ++ r).set id x = σ.objs.set id x ++ r := fun x r => List.set_append_left _ _ hlt
  have ho4 : ∀ x y r, (σ.objs.set id y ++ r).set id x = σ.objs.set id x ++ r := fun x y r => by rw [List.set_append_left _ _ (by simpa using hlt), List.set_set]
  have hlt1 : id < σ.objs.length + 1 := by omega
  have htk : ∀ (x a b : List AV), List.take (σ.objs.length + 1) (σ.objs.set id x ++ [a, b]) = σ.objs.set id x ++ [a] := fun x a b => by
    have := List.take_length_add_append (l₁ := σ.objs.set id x) (l₂ := [a, b]) 1
    rw [List.length_set] at this
    exact this
  have F := And.intro hw (And.intro ho1 (And.intro ho2 (And.intro ho3 (And.intro ho4 (And.intro hlt (And.intro hlt1 (And.intro htk (True.intro))))))))
  refine callsA_body Try.func40 rfl rfl rfl ?_; refine sr fun _ hJ2 => ?_; refine hJ2 _ _ ?_; refine sq fun K3 hK3 => ?_
  refine run_draw (by kernel_rfl) fun J4 hJ4 => ?_
  refine rp2 0 (k := ?_); refine rp2 1 (k := ?_); refine rp2 2 (k := ?_); refine rp2 4 (k := ?_); refine rp2 5 (k := ?_); refine rp2 7 (k := ?_); refine rp2 8 (k := ?_); refine rp2 10 (k := ?_); refine rp2 11 (k := ?_); refine rp2 13 (k := ?_); refine rp2 14 (k := ?_); refine rp2 15 (k := ?_); refine rp2 16 (k := ?_)
  refine dc 3 rfl (c := wbyteA hA1 (ho1 _) ht (by omega)) (k := ?_)
  rintro _ _ ⟨rfl, k1, tk1, hw1, rfl⟩
  refine ⟨by first | exact fun _ _ h => h | (refine later_list [16, 15, 14, 13, 11, 10, 8, 7, 5, 4, 1] (by kernel_rfl) (List.forall_mem_cons.2 ⟨fun _ => fact2 rfl rfl ?_, List.forall_mem_cons.2 ⟨fun _ => fact2 rfl rfl ?_, List.forall_mem_cons.2 ⟨fun _ => fact2 rfl rfl ?_, List.forall_mem_cons.2 ⟨fun _ => fact2 rfl rfl ?_, List.forall_mem_cons.2 ⟨fun _ => fact2 rfl rfl ?_, List.forall_mem_cons.2 ⟨fun _ => fact2 rfl rfl ?_, List.forall_mem_cons.2 ⟨fun _ => fact2 rfl rfl ?_, List.forall_mem_cons.2 ⟨fun _ => fact2 rfl rfl ?_, List.forall_mem_cons.2 ⟨fun _ => fact2 rfl rfl ?_, List.forall_mem_cons.2 ⟨fun _ => fact2 rfl rfl ?_, List.forall_mem_cons.2 ⟨fun _ => fact2 rfl rfl ?_, fun _ h => absurd h List.not_mem_nil⟩⟩⟩⟩⟩⟩⟩⟩⟩⟩⟩) <;> constructor <;> first | rfl | (simp [F]; done)), ?_⟩
  repeat (first | simp [F] | simp (disch := omega) only [wC, if_pos, if_neg])
  refine dc 6 rfl (c := wlongA hA2 (ho2 _ _) hw1.tok p1 (by omega)) (k := ?_)
  rintro _ _ ⟨rfl, k2, tk2, hw2, rfl⟩
  refine ⟨by first | exact fun _ _ h => h | (refine later_list [16, 15, 14, 13, 11, 10, 8, 7, 4, 1] (by kernel_rfl) (List.forall_mem_cons.2 ⟨fun _ => fact2 rfl rfl ?_, List.forall_mem_cons.2 ⟨fun _ => fact2 rfl rfl ?_, List.forall_mem_cons.2 ⟨fun _ => fact2 rfl rfl ?_, List.forall_mem_cons.2 ⟨fun _ => fact2 rfl rfl ?_, List.forall_mem_cons.2 ⟨fun _ => fact2 rfl rfl ?_, List.forall_mem_cons.2 ⟨fun _ => fact2 rfl rfl ?_, List.forall_mem_cons.2 ⟨fun _ => fact2 rfl rfl ?_, List.forall_mem_cons.2 ⟨fun _ => fact2 rfl rfl ?_, List.forall_mem_cons.2 ⟨fun _ => fact2 rfl rfl ?_, List.forall_mem_cons.2 ⟨fun _ => fact2 rfl rfl ?_, fun _ h => absurd h List.not_mem_nil⟩⟩⟩⟩⟩⟩⟩⟩⟩⟩) <;> constructor <;> first | rfl | (simp [F]; done)), ?_⟩
  repeat (first | simp [F] | simp (disch := omega) only [wC, if_pos, if_neg])
  refine dc 9 rfl (c := wlongA hA3 (ho2 _ _) hw2.tok p2 (by omega)) (k := ?_)
  rintro _ _ ⟨rfl, k3, tk3, hw3, rfl⟩
  refine ⟨by first | exact fun _ _ h => h | (refine later_list [16, 15, 14, 13, 11, 10, 7, 4, 1] (by kernel_rfl) (List.forall_mem_cons.2 ⟨fun _ => fact2 rfl rfl ?_, List.forall_mem_cons.2 ⟨fun _ => fact2 rfl rfl ?_, List.forall_mem_cons.2 ⟨fun _ => fact2 rfl rfl ?_, List.forall_mem_cons.2 ⟨fun _ => fact2 rfl rfl ?_, List.forall_mem_cons.2 ⟨fun _ => fact2 rfl rfl ?_, List.forall_mem_cons.2 ⟨fun _ => fact2 rfl rfl ?_, List.forall_mem_cons.2 ⟨fun _ => fact2 rfl rfl ?_, List.forall_mem_cons.2 ⟨fun _ => fact2 rfl rfl ?_, List.forall_mem_cons.2 ⟨fun _ => fact2 rfl rfl ?_, fun _ h => absurd h List.not_mem_nil⟩⟩⟩⟩⟩⟩⟩⟩⟩) <;> constructor <;> first | rfl | (simp [F]; done)), ?_⟩
  repeat (first | simp [F] | simp (disch := omega) only [wC, if_pos, if_neg])
  refine dc 12 rfl (c := wcoinsA hA4 (ho2 _ _) hw3.tok (by omega) (by omega)) (k := ?_)
  rintro _ _ ⟨rfl, k4, tk4, hw4, rfl⟩
  refine ⟨by first | exact fun _ _ h => h | (refine later_list [16, 15, 14, 13, 10, 7, 4, 1] (by kernel_rfl) (List.forall_mem_cons.2 ⟨fun _ => fact2 rfl rfl ?_, List.forall_mem_cons.2 ⟨fun _ => fact2 rfl rfl ?_, List.forall_mem_cons.2 ⟨fun _ => fact2 rfl rfl ?_, List.forall_mem_cons.2 ⟨fun _ => fact2 rfl rfl ?_, List.forall_mem_cons.2 ⟨fun _ => fact2 rfl rfl ?_, List.forall_mem_cons.2 ⟨fun _ => fact2 rfl rfl ?_, List.forall_mem_cons.2 ⟨fun _ => fact2 rfl rfl ?_, List.forall_mem_cons.2 ⟨fun _ => fact2 rfl rfl ?_, fun _ h => absurd h List.not_mem_nil⟩⟩⟩⟩⟩⟩⟩⟩) <;> constructor <;> first | rfl | (simp [F]; done)), ?_⟩
  repeat (first | simp [F] | simp (disch := omega) only [wC, if_pos, if_neg])
  refine dc 17 rfl (c := wbyteA hA5 (ho2 _ _) hw4.tok (by omega)) (k := ?_)
  rintro _ _ ⟨rfl, k5, tk5, hw5, rfl⟩
  refine ⟨by first | exact fun _ _ h => h | (refine later_list [15, 14, 13, 10, 7, 4, 1] (by kernel_rfl) (List.forall_mem_cons.2 ⟨fun _ => fact2 rfl rfl ?_, List.forall_mem_cons.2 ⟨fun _ => fact2 rfl rfl ?_, List.forall_mem_cons.2 ⟨fun _ => fact2 rfl rfl ?_, List.forall_mem_cons.2 ⟨fun _ => fact2 rfl rfl ?_, List.forall_mem_cons.2 ⟨fun _ => fact2 rfl rfl ?_, List.forall_mem_cons.2 ⟨fun _ => fact2 rfl rfl ?_, List.forall_mem_cons.2 ⟨fun _ => fact2 rfl rfl ?_, fun _ h => absurd h List.not_mem_nil⟩⟩⟩⟩⟩⟩⟩) <;> constructor <;> first | rfl | (simp [F]; done)), ?_⟩
  (repeat (first | simp [F] | simp (disch := omega) only [wC, if_pos, if_neg])); refine dd ?_; refine hJ4 _ _ ?_; refine hK3 _ _ ?_; refine sr fun _ hJ6 => ?_; refine hJ6 _ _ ?_; refine run_block_k ?_; refine run_loopG (X := LSt) [0, 25, 26] (fun q ρ σ1 => (q.i ≤ pp.length) ∧ (Wr σ.toks k l q.tk q.k (Bf q.i)) ∧ (ρ 27 = .v (.int .i64 q.i)) ∧ (σ1 = { σ with objs := σ.objs.set id [wrA q.k (Bf q.i)] ++ [[.v (.int .u8 pk.toNat), .v (.int .u64 ps), .v (.int .u64 pe), .sl 5 (coinsC pt) pt.length .shut, .sl 2 (persC pp) pp.length .shut]], toks := q.tk })) (fun q => pp.length - q.i) (⟨0, k5, tk5⟩) ?st1 ?rd1
  case st1 =>
   refine ⟨lp, ?_, lp, ?_⟩
   · rw [← hB0]
     exact (((hw1.trans hw2).trans hw3).trans hw4).trans hw5
   · simp only [← hB0]
  case rd1 =>
   rintro q ρ1 σ1 hF1 ⟨hj, hq, h27, hσ⟩; obtain rfl := hσ.symm
   have f1 := keepL hF1
   (try simp [KeepL, F] at f1); replace F := aF h27 F; (try replace F := aF f1 F); refine sr fun _ hJ8 => ?_; refine hJ8 _ _ ?_; refine sq fun K9 hK9 => ?_; refine cs (fun c28 => ?_) (fun c28 => ?_)
   · (try exact nope c28); all_goals have c28p := c28; try simp [F] at c28p
     all_goals
      replace F := aF c28 F; (try replace F := aF c28p F); refine run_skip ?_; refine hK9 _ _ ?_; refine sq fun K10 hK10 => ?_; refine run_block_k ?_; refine sq fun K11 hK11 => ?_
      have hlt2 : q.i < pp.length := by have h := c28; simp at h; omega
      have hat := persC_at hlt2
      have hb1 : q.i * 2 + 2 ≤ pp.length * 2 := by omega
      have hx5 := p5 _ (List.getElem_mem hlt2)
      have hBs1 := hBs _ hlt2
      have hBl1 := hBl q.i hj
      obtain ⟨x, hx⟩ : ∃ x, x = pp[q.i] := ⟨_, rfl⟩
      rw [← hx] at hat hx5 hBs1
      obtain ⟨xl, xc⟩ := x
      simp only at hx5 hBs1
      obtain ⟨C1, hC1⟩ : ∃ C1, C1 = Bf q.i ++ nBytes 8 xl := ⟨_, rfl⟩
      rw [← hC1] at hBs1
      have nC : C1.length = (Bf q.i).length + 8 := by rw [hC1, List.length_append, nBytes_len]
      replace F := aF hlt2 F; replace F := aF hat F; replace F := aF hb1 F; refine rg' (h := fun J12 hJ12 => ?_); refine hJ12 _ _ ?_; refine hK11 _ _ ?_
      refine run_draw (by kernel_rfl) fun J13 hJ13 => ?_
      refine rp2 0 (k := ?_); refine rp2 1 (k := ?_); refine rp2 2 (k := ?_); refine rp2 4 (k := ?_); refine rp2 5 (k := ?_)
      refine dc 3 rfl (c := wlongA hC1 (ho2 _ _) hq.tok hx5.1 (by omega)) (k := ?_)
      rintro _ _ ⟨rfl, k6, tk6, hw6, rfl⟩
      refine ⟨by first | exact fun _ _ h => h | (refine later_list [5, 4, 1] (by kernel_rfl) (List.forall_mem_cons.2 ⟨fun _ => fact2 rfl rfl ?_, List.forall_mem_cons.2 ⟨fun _ => fact2 rfl rfl ?_, List.forall_mem_cons.2 ⟨fun _ => fact2 rfl rfl ?_, fun _ h => absurd h List.not_mem_nil⟩⟩⟩) <;> constructor <;> first | rfl | (simp [F]; done)), ?_⟩
      repeat (first | simp [F] | simp (disch := omega) only [wC, if_pos, if_neg])
      refine dc 6 rfl (c := wcoinsA hBs1 (ho2 _ _) hw6.tok (by omega) (by omega)) (k := ?_)
      rintro _ _ ⟨rfl, k7, tk7, hw7, rfl⟩
      refine ⟨by first | exact fun _ _ h => h | (refine later_list [4, 1] (by kernel_rfl) (List.forall_mem_cons.2 ⟨fun _ => fact2 rfl rfl ?_, List.forall_mem_cons.2 ⟨fun _ => fact2 rfl rfl ?_, fun _ h => absurd h List.not_mem_nil⟩⟩) <;> constructor <;> first | rfl | (simp [F]; done)), ?_⟩
      (repeat (first | simp [F] | simp (disch := omega) only [wC, if_pos, if_neg])); refine dd ?_; refine hJ13 _ _ ?_; refine hK10 _ _ ?_; refine rg' (h := fun J14 hJ14 => ?_); refine hJ14 _ _ ?_; refine ⟨gk, (⟨q.i + 1, k7, tk7⟩), ⟨kpG, lpG, ?_, lpG, ?_⟩, lpG⟩
      · exact (hq.trans hw6).trans hw7
      · simp [St.trimO, F]
   (try exact nope c28); all_goals have c28p := c28; try simp [F] at c28p
   all_goals
    replace F := aF c28 F; (try replace F := aF c28p F); refine run_exit ?_; (try simp only [Then, InBlock, NoGoto, if_true]); refine answer_none rfl (.inl rfl) ?_
    have hii : q.i = pp.length := by have h := c28; simp at h; omega
    rw [hii, hBA] at hq
    rw [hii, hBA]
    exact ⟨(q.k, q.tk), hq, rfl, _, rfl⟩

end Go.Proofs.Ytdbaddholggkbaa

/-
  The document's writer: numbers and lists of coins.
-/
namespace Go.Proofs.Ytdbaddholggkbaa
set_option linter.unnecessarySimpa false
open Go Go.Vm
set_option linter.unusedSimpArgs false
set_option linter.unusedVariables false
set_option maxRecDepth 100000
attribute [local simp] evalL wantedA isCall opA evalA evalAll evalsA evalOpt ofValue ofCell plain binA_eql_pn binA_neq_pn binA_gtr binA_lss binA_geq binA_leq binA_add binA_sub binA_eql binA_neq binA_or binA_shl binA_shr binA_mul binA_quo binA_rem binA_agg_eql binA_agg_neq convA_int unA_not fieldAddrA loadA partA pickA_true pickA_false pickA_bb lenA builtinA storeA splice AV.cells AV.isCell sliceA boundA intA callOf indexAddrA newObjA buildA fillA zeroA ofCells buildSliceA indexA fieldA coinsC_at
/-! ### Lists of bytes that are being made -/

def tkB (l : List UInt8) : List Nat := if l = [] then [] else [l.length]
@[simp] theorem tkB_nil : tkB [] = [] := rfl
theorem wrA_nil (k : Nat) : wrA k [] = .sl 0 [] 0 .full := rfl
class SmallB (l : List UInt8) : Prop where
  h : l.length ≤ 500000

theorem wk_wrA (k : Nat) (l : List UInt8) : Wk (wrA k l) (.sl 1 (bytesA l) l.length .shut) := by
  unfold wrA
  split
  · rename_i h; subst h; exact Wk.nil _ _ _
  · exact Wk.shut _ _ _ _

theorem append_wrA {l q : List UInt8} {tq : Tail} [hsm : SmallB l] {objs : List (List AV)} {tk : List Nat} {gl : Nat → Option (List AV)} {rows : List RowSt} (hq0 : q ≠ []) (hq : q.length ≤ 100000) :
    appendA Try.prog 47 (wrA tk.length l) (.sl 1 (bytesA q) q.length tq) ⟨objs, tk ++ tkB l, gl, rows⟩ = some (wrA tk.length (l ++ q), ⟨objs, tk ++ tkB (l ++ q), gl, rows⟩) := by
  have hl := hsm.h
  have hv : (Value.int IntKind.u8 0).cells.size = 1 := rfl
  by_cases h : l = []
  · subst h
    have h1 : q.length ≤ 140737488355328 := by omega
    have h2 : q.length ≤ 9223372036854775807 := by omega
    simp [wrA, tkB, appendA, readA, roomA, maxLen, hq0, h1, h2, hv]
  · have h1 : l.length + q.length ≤ 140737488355328 := by omega
    have h2 : l.length + q.length ≤ 9223372036854775807 := by omega
    simp [wrA, tkB, h, appendA, readA, roomA, maxLen, hq0, h1, h2, hv, bytesA_append]

theorem append_byte {l : List UInt8} {b : UInt8} [hsm : SmallB l] {objs : List (List AV)} {tk : List Nat} {gl : Nat → Option (List AV)} {rows : List RowSt} :
    appendA Try.prog 47 (wrA tk.length l) (.sl 1 [.v (.int .u8 b.toNat)] 1 .full) ⟨objs, tk ++ tkB l, gl, rows⟩ = some (wrA tk.length (l ++ [b]), ⟨objs, tk ++ tkB (l ++ [b]), gl, rows⟩) := append_wrA (q := [b]) (by simp) (by simp)

set_option maxHeartbeats 1600000 in
attribute [local simp] undefA List.getElem?_cons_zero List.getElem?_cons_succ in
theorem rflag_ok {σ : St} {b : Bool} : CallsA Try.prog 108 [.v (.bool b)] σ (fun av σ' => av = .sl 1 (bytesA [if b then 1 else 0]) 1 .full ∧ σ = σ') := by
  have hv : (Value.int IntKind.u8 0).cells.size = 1 := rfl
  have F := And.intro hv (True.intro)
  refine callsA_body Try.func108 rfl rfl rfl ?_; refine sr fun _ hJ2 => ?_; refine hJ2 _ _ ?_; refine sq fun K3 hK3 => ?_; refine sr fun _ hJ5 => ?_; refine hJ5 _ _ ?_; refine cs (fun c3 => ?_) (fun c3 => ?_)
  · (try exact nope c3); all_goals have c3p := c3; try simp [F] at c3p
    all_goals
     replace F := aF c3 F; (try replace F := aF c3p F); refine sr fun _ hJ7 => ?_; refine hJ7 _ _ ?_; refine ra ?_
     have e : b = true := (by simpa using c3)
     subst e
     exact ⟨rfl, rfl⟩
  (try exact nope c3); all_goals have c3p := c3; try simp [F] at c3p
  all_goals
   replace F := aF c3 F; (try replace F := aF c3p F); refine run_skip ?_; refine hK3 _ _ ?_; refine sr fun _ hJ9 => ?_; refine hJ9 _ _ ?_; refine ra ?_
   have e : b = false := (by simpa using c3)
   subst e
   exact ⟨rfl, rfl⟩

set_option maxHeartbeats 1600000 in
attribute [local simp] undefA List.getElem?_cons_zero List.getElem?_cons_succ append_byte in
theorem rlong_ok {σ : St} {n size : Nat} (hn : n < 2 ^ 64) (hsz : size ≤ 8) :
    CallsA Try.prog 44 [.v (.int .u64 n), .v (.int .i64 size)] σ (fun av σ' => av = .sl 1 (bytesA (nBytes size n)) size .shut ∧ σ = σ') := by
  refine callsA_gcS ?_ (by simp [AV.under])
  have hv : (Value.int IntKind.u8 0).cells.size = 1 := rfl
  have F := And.intro hv (True.intro)
  refine callsA_body Try.func44 rfl rfl rfl ?_; refine sr fun _ hJ2 => ?_; refine hJ2 _ _ ?_; refine sr fun _ hJ4 => ?_; refine hJ4 _ _ ?_; refine sq fun K5 hK5 => ?_; refine sr fun _ hJ7 => ?_; refine hJ7 _ _ ?_; refine run_block_k ?_; refine run_loopF (X := Nat) [0, 4] (fun q ρ σ1 => (q ≤ size) ∧ (ρ 5 = wrA σ.toks.length ((nBytes size n).take q)) ∧ (ρ 6 = .v (.int .i64 ((size : Int) - 1 - q))) ∧ (σ1 = { σ with toks := σ.toks ++ tkB ((nBytes size n).take q) })) (fun q => size - q) (0) ?st1 ?rd1
  case st1 =>
   refine ⟨lp, ?_, lp, lp⟩
   · simp [wrA_nil]
  case rd1 =>
   rintro q ρ1 σ1 hF1 ⟨hj, h5, h6, hσ⟩; obtain rfl := hσ.symm
   have f1 := keepL hF1
   (try simp [KeepL, F] at f1); replace F := aF h5 F; replace F := aF h6 F; (try replace F := aF f1 F); refine sq fun K8 hK8 => ?_; refine sr fun _ hJ10 => ?_; refine hJ10 _ _ ?_; refine cs (fun c10 => ?_) (fun c10 => ?_)
   · (try exact nope c10); all_goals have c10p := c10; try simp [F] at c10p
     all_goals
      replace F := aF c10 F; (try replace F := aF c10p F); refine run_skip ?_; refine hK8 _ _ ?_; refine sq fun K11 hK11 => ?_; refine run_block_k ?_
      obtain ⟨i, hi⟩ : ∃ i, i = size - 1 - q := ⟨_, rfl⟩
      have he : (size : Int) - 1 - q = (i : Int) := by omega
      have hi8 : i < 8 := by omega
      obtain ⟨b, hb⟩ : ∃ b, b = UInt8.ofNat (n / 2 ^ (8 * i) % 256) := ⟨_, rfl⟩
      have hbn : b.toNat = n / 2 ^ (8 * i) % 256 := by rw [hb]; exact toNat_ofNat (by omega)
      have hnx : (nBytes size n).take (q + 1) = (nBytes size n).take q ++ [b] := by rw [take_snoc (by rw [nBytes_len]; omega)]; simp [nBytes, hb, hi]
      have : SmallB ((nBytes size n).take q) := ⟨by simp [nBytes_len]; omega⟩
      have hnn : ¬ 8 * (i : Int) < 0 := by omega
      have hsh : Int.fdiv (n : Int) (2 ^ (min (8 * (i : Int)).toNat 64)) = ((n / 2 ^ (8 * i) : Nat) : Int) := by rw [show min (8 * (i : Int)).toNat 64 = 8 * i by omega, Int.fdiv_eq_ediv_of_nonneg _ (by exact Int.le_of_lt (Int.pow_pos (by omega)))]; simp
      have hcv : IntKind.u8.wrap ((n / 2 ^ (8 * i) : Nat) : Int) = (b.toNat : Int) := by rw [wrap_u8, hbn]
      generalize n / 2 ^ (8 * i) = z at *
      replace F := aF he F; replace F := aF hnn F; replace F := aF hsh F; replace F := aF hcv F; refine rg' (h := fun J12 hJ12 => ?_); refine hJ12 _ _ ?_; refine hK11 _ _ ?_; refine rg' (h := fun J13 hJ13 => ?_); refine hJ13 _ _ ?_; refine ⟨(q + 1), ⟨kp, lp, ?_, ?_, ?_⟩, lp⟩
      · simp [hnx]
      · simp
        omega
      · simp [hnx]
   (try exact nope c10); all_goals have c10p := c10; try simp [F] at c10p
   all_goals
    replace F := aF c10 F; (try replace F := aF c10p F); refine run_exit ?_; refine hK5 _ _ ?_; refine sr fun _ hJ15 => ?_; refine hJ15 _ _ ?_; refine ra ?_
    have hfull : (nBytes size n).take q = nBytes size n := List.take_of_length_le (by rw [nBytes_len]; simp at c10; omega)
    have hwk := wk_wrA σ.toks.length (nBytes size n)
    rw [nBytes_len] at hwk
    rw [hfull]
    exact ⟨by simpa [F, hfull] using hwk, [], tkB (nBytes size n), [], by simp⟩

/-! ### The sixteen digits of a number -/
def dgA (l : List Nat) : List AV := l.map fun d => .v (.int .u64 (d : Nat))
def slD (k : Nat) (l : List Nat) : AV := if l = [] then .sl 0 [] 0 .full else .sl 1 (dgA l) l.length (.own k)
def tkD (l : List Nat) : List Nat := if l = [] then [] else [l.length]
@[simp] theorem tkD_nil : tkD [] = [] := rfl
theorem slD_nil (k : Nat) : slD k [] = .sl 0 [] 0 .full := rfl
@[simp] theorem dgA_len (l : List Nat) : (dgA l).length = l.length := by simp [dgA]
theorem under_dgA (B : Bd) : ∀ l : List Nat, underL B (dgA l) = true
  | [] => rfl
  | d :: l => under_dgA B l
class SmallN (l : List Nat) : Prop where
  h : l.length ≤ 1000
theorem wk_slD (k : Nat) (l : List Nat) : Wk (slD k l) (.sl 1 (dgA l) l.length .shut) := by
  unfold slD
  split
  · rename_i h; subst h; exact Wk.nil _ _ _
  · exact Wk.shut _ _ _ _
theorem append_digit {l : List Nat} {d : Nat} [hsm : SmallN l] {objs : List (List AV)} {tk : List Nat} {gl : Nat → Option (List AV)} {rows : List RowSt} :
    appendA Try.prog 146 (slD tk.length l) (.sl 1 [.v (.int .u64 (d : Nat))] 1 .full) ⟨objs, tk ++ tkD l, gl, rows⟩ = some (slD tk.length (l ++ [d]), ⟨objs, tk ++ tkD (l ++ [d]), gl, rows⟩) := by
  have hl := hsm.h
  have hv : (Value.int IntKind.u64 0).cells.size = 1 := rfl
  by_cases h : l = []
  · subst h
    simp [slD, tkD, appendA, readA, roomA, maxLen, hv, dgA]
  · have h1 : (l.length + 1) * 8 ≤ 140737488355328 := by omega
    have h2 : l.length + 1 ≤ 9223372036854775807 := by omega
    simp [slD, tkD, h, appendA, readA, roomA, maxLen, h1, h2, hv, dgA]

def digsE (x : Nat) : List Nat := (List.range 16).map fun i => x / 65536 ^ i % 65536
theorem digsE_len (x : Nat) : (digsE x).length = 16 := by simp [digsE]
theorem limb_digE {x i : Nat} (hi : i < 16) : limb x (i / 4) / 2 ^ (16 * (i % 4)) % 65536 = x / 65536 ^ i % 65536 := by
  have e : (65536 : Nat) ^ i = 2 ^ (16 * i) := by rw [Nat.pow_mul]
  rw [e]
  apply Nat.eq_of_testBit_eq
  intro j
  rw [show (65536 : Nat) = 2 ^ 16 by rfl]
  simp only [Nat.testBit_mod_two_pow, Nat.testBit_div_two_pow, limb_bit]
  by_cases hj : j < 16
  · have h1 : 16 * (i % 4) + j < 64 := by omega
    have h2 : 64 * (i / 4) + (j + 16 * (i % 4)) = j + 16 * i := by omega
    simp [hj, h2]
    omega
  · simp [hj]

set_option maxHeartbeats 1600000 in
attribute [local simp] undefA List.getElem?_cons_zero List.getElem?_cons_succ append_digit in
theorem digitsE_ok {σ : St} {x : Nat} :
    CallsA Try.prog 127 [.agg (numA x)] σ (fun av σ' => av = .sl 1 (dgA (digsE x)) 16 .shut ∧ σ = σ') := by
  refine callsA_gcS ?_ (by simp [AV.under, under_dgA])
  have hv : (Value.int IntKind.u64 0).cells.size = 1 := rfl
  have F := And.intro hv (True.intro)
  refine callsA_body Try.func127 rfl rfl rfl ?_; refine sr fun _ hJ2 => ?_; refine hJ2 _ _ ?_; refine sr fun _ hJ4 => ?_; refine hJ4 _ _ ?_; refine sq fun K5 hK5 => ?_; refine sr fun _ hJ7 => ?_; refine hJ7 _ _ ?_; refine run_block_k ?_; refine run_loopF (X := Nat) [1, 2] (fun i ρ σ1 => (i ≤ 16) ∧ (ρ 3 = slD σ.toks.length ((digsE x).take i)) ∧ (ρ 4 = .v (.int .i64 i)) ∧ (σ1 = { σ with objs := σ.objs ++ [numA x], toks := σ.toks ++ tkD ((digsE x).take i) })) (fun i => 16 - i) (0) ?st1 ?rd1
  case st1 =>
   refine ⟨lp, ?_, lp, lp⟩
   · simp [slD_nil]
  case rd1 =>
   rintro i ρ1 σ1 hF1 ⟨hj, h3, h4, hσ⟩; obtain rfl := hσ.symm
   have f1 := keepL hF1
   (try simp [KeepL, F] at f1); replace F := aF h3 F; replace F := aF h4 F; (try replace F := aF f1 F); refine sq fun K8 hK8 => ?_; refine sr fun _ hJ10 => ?_; refine hJ10 _ _ ?_; refine cs (fun c6 => ?_) (fun c6 => ?_)
   · (try exact nope c6); all_goals have c6p := c6; try simp [F] at c6p
     all_goals
      replace F := aF c6 F; (try replace F := aF c6p F); refine run_skip ?_; refine hK8 _ _ ?_; refine sq fun K11 hK11 => ?_; refine run_block_k ?_
      obtain ⟨q, hq⟩ : ∃ q, q = i / 4 := ⟨_, rfl⟩
      obtain ⟨r, hr⟩ : ∃ r, r = i % 4 := ⟨_, rfl⟩
      have hq4 : q < 4 := by omega
      have hq5 : (q : Int) < 4 := by omega
      have hr8 : r < 4 := by omega
      have hqq : IntKind.i64.wrap ((i : Int).tdiv 4) = (q : Int) := by rw [Int.tdiv_eq_ediv_of_nonneg (by omega), wrap_i64 _ (by omega) (by omega)]; omega
      have hrr : (i : Int).tmod 4 = (r : Int) := by rw [Int.tmod_eq_emod_of_nonneg (by omega)]; omega
      have hq2 : IntKind.i64.wrap ((i : Int) / 4) = (q : Int) := by rw [wrap_i64 _ (by omega) (by omega)]; omega
      have hr2 : (i : Int) % 4 = (r : Int) := by omega
      have hnn : ¬ 16 * (r : Int) < 0 := by omega
      obtain ⟨m, hm⟩ : ∃ m, m = limb x q / 2 ^ (16 * r) := ⟨_, rfl⟩
      obtain ⟨y, hy⟩ : ∃ y, y = x / 65536 ^ i % 65536 := ⟨_, rfl⟩
      have hmy : m % 65536 = y := by rw [hm, hq, hr, hy]; exact limb_digE (by omega)
      have hsh : Int.fdiv ((limb x q : Nat) : Int) (2 ^ (min (16 * (r : Int)).toNat 64)) = (m : Int) := by rw [show min (16 * (r : Int)).toNat 64 = 16 * r by omega, Int.fdiv_eq_ediv_of_nonneg _ (by exact Int.le_of_lt (Int.pow_pos (by omega))), hm]; simp
      have hmd : (m : Int).tmod 65536 = (y : Int) := by rw [Int.tmod_eq_emod_of_nonneg (by omega)]; omega
      have hmd2 : (m : Int) % 65536 = (y : Int) := by omega
      have hget := numA_get x hq4
      have hnx : (digsE x).take (i + 1) = (digsE x).take i ++ [y] := by rw [take_snoc (by rw [digsE_len]; omega)]; simp [digsE, hy]
      have : SmallN ((digsE x).take i) := ⟨by simp [digsE_len]; omega⟩
      replace F := aF hqq F; replace F := aF hrr F; replace F := aF hq2 F; replace F := aF hr2 F; replace F := aF hq4 F; replace F := aF hq5 F; replace F := aF hnn F; replace F := aF hsh F; replace F := aF hmd F; replace F := aF hmd2 F; replace F := aF hget F; refine rg' (h := fun J12 hJ12 => ?_); refine hJ12 _ _ ?_; refine hK11 _ _ ?_; refine rg' (h := fun J13 hJ13 => ?_); refine hJ13 _ _ ?_; refine ⟨(i + 1), ⟨kp, lp, ?_, lp, ?_⟩, lp⟩
      · simp [hnx]
      · simp [hnx]
   (try exact nope c6); all_goals have c6p := c6; try simp [F] at c6p
   all_goals
    replace F := aF c6 F; (try replace F := aF c6p F); refine run_exit ?_; refine hK5 _ _ ?_; refine sr fun _ hJ15 => ?_; refine hJ15 _ _ ?_; refine ra ?_
    have hfull : (digsE x).take i = digsE x := List.take_of_length_le (by rw [digsE_len]; simp at c6; omega)
    have hwk := wk_slD σ.toks.length (digsE x)
    rw [digsE_len] at hwk
    rw [hfull]
    exact ⟨by simpa [F, hfull] using hwk, [numA x], tkD (digsE x), [], by simp⟩

end Go.Proofs.Ytdbaddholggkbaa

/-
  The document's writer: a number's bytes, numbers and lists of coins.
-/
namespace Go.Proofs.Ytdbaddholggkbaa
set_option linter.unnecessarySimpa false
open Go Go.Vm
set_option linter.unusedSimpArgs false
set_option linter.unusedVariables false
set_option maxRecDepth 100000
attribute [local simp] evalL wantedA isCall opA evalA evalAll evalsA evalOpt ofValue ofCell plain binA_eql_pn binA_neq_pn binA_gtr binA_lss binA_geq binA_leq binA_add binA_sub binA_eql binA_neq binA_or binA_shl binA_shr binA_mul binA_quo binA_rem binA_agg_eql binA_agg_neq convA_int unA_not fieldAddrA loadA partA pickA_true pickA_false pickA_bb lenA_sl builtinA storeA splice AV.cells AV.isCell sliceA boundA intA callOf indexAddrA newObjA buildA fillA zeroA ofCells buildSliceA indexA fieldA coinsC_at

theorem len_wrA (k : Nat) (l : List UInt8) : lenA Try.prog 47 (wrA k l) = some (.v (.int .i64 (l.length : Nat))) := by
  unfold wrA
  split
  · rename_i h; subst h; simp [lenA]
  · simp [lenA]

theorem dig_byteE {x i : Nat} : x / 65536 ^ (i / 2) % 65536 / 2 ^ (8 * (i % 2)) % 256 = x / 256 ^ i % 256 := by
  have e : (256 : Nat) ^ i = 2 ^ (8 * i) := by rw [Nat.pow_mul]
  have e2 : (65536 : Nat) ^ (i / 2) = 2 ^ (16 * (i / 2)) := by rw [Nat.pow_mul]
  rw [e, e2]
  apply Nat.eq_of_testBit_eq
  intro j
  rw [show (65536 : Nat) = 2 ^ 16 by rfl, show (256 : Nat) = 2 ^ 8 by rfl]
  simp only [Nat.testBit_mod_two_pow, Nat.testBit_div_two_pow]
  by_cases hj : j < 8
  · have h1 : j + 8 * (i % 2) < 16 := by omega
    have h2 : j + 8 * (i % 2) + 16 * (i / 2) = j + 8 * i := by omega
    simp [hj, h1, h2]
  · simp [hj]

theorem digsE_get {x q : Nat} (hq : q < 16) : (dgA (digsE x))[q]? = some (.v (.int .u64 (x / 65536 ^ q % 65536 : Nat))) := by
  simp [dgA, digsE, hq]

theorem append_byte0 {l : List UInt8} [hsm : SmallB l] {objs : List (List AV)} {tk : List Nat} {gl : Nat → Option (List AV)} {rows : List RowSt} :
    appendA Try.prog 47 (wrA tk.length l) (.sl 1 [.v (.int .u8 0)] 1 .full) ⟨objs, tk ++ tkB l, gl, rows⟩ = some (wrA tk.length (l ++ [0]), ⟨objs, tk ++ tkB (l ++ [0]), gl, rows⟩) := append_byte (b := 0)

set_option maxHeartbeats 1600000 in
attribute [local simp] undefA List.getElem?_cons_zero List.getElem?_cons_succ append_byte append_byte0 len_wrA in
theorem rbytes_ok {σ : St} {x : Nat} (hx : x < 2 ^ 256) :
    CallsA Try.prog 136 [.agg (numA x)] σ (fun av σ' => av = .sl 1 (bytesA (natBytes x)) (natBytes x).length .shut ∧ σ = σ') := by
  refine callsA_gcS ?_ (by simp [AV.under])
  have hv : (Value.int IntKind.u8 0).cells.size = 1 := rfl
  have F := And.intro hv (True.intro)
  refine callsA_body Try.func136 rfl rfl rfl ?_; refine sr fun _ hJ2 => ?_; refine hJ2 _ _ ?_; refine sr fun _ hJ4 => ?_; refine ca (c := digitsE_ok) (k := ?_); rintro _ _ ⟨rfl, rfl⟩; (repeat (first | simp [F] | simp (disch := omega) only [wC, if_pos, if_neg])); refine hJ4 _ _ ?_; refine sr fun _ hJ6 => ?_; refine hJ6 _ _ ?_; refine sq fun K7 hK7 => ?_; refine sr fun _ hJ9 => ?_; refine hJ9 _ _ ?_; refine run_block_k ?_
  have h00 : x / 256 ^ 32 = 0 := Nat.div_eq_of_lt (by simpa using hx)
  refine run_loopF (X := Nat) [2, 3] (fun k ρ σ1 => (k ≤ 32) ∧ (ρ 4 = wrA σ.toks.length (natBytes (x / 256 ^ k))) ∧ (ρ 5 = .v (.int .i64 ((k : Int) - 1))) ∧ ((natBytes (x / 256 ^ k)).length ≤ 32 - k) ∧ (σ1 = { σ with objs := σ.objs ++ [numA x], toks := σ.toks ++ tkB (natBytes (x / 256 ^ k)) })) (fun k => k) (32) ?st1 ?rd1
  case st1 =>
   refine ⟨lp, ?_, lp, ?_, ?_⟩
   · rw [h00, natBytes_zero]
     simp [wrA_nil]
   · rw [h00, natBytes_zero]
     simp
   · rw [h00, natBytes_zero]
     simp
  case rd1 =>
   rintro k ρ1 σ1 hF1 ⟨hj, h4, h5, hl, hσ⟩; obtain rfl := hσ.symm
   have f1 := keepL hF1
   (try simp [KeepL, F] at f1); replace F := aF h4 F; replace F := aF h5 F; (try replace F := aF f1 F); refine sq fun K10 hK10 => ?_; refine sr fun _ hJ12 => ?_; refine hJ12 _ _ ?_; refine cs (fun c10 => ?_) (fun c10 => ?_)
   · (try exact nope c10); all_goals have c10p := c10; try simp [F] at c10p
     all_goals
      replace F := aF c10 F; (try replace F := aF c10p F); refine run_skip ?_; refine hK10 _ _ ?_; refine sq fun K13 hK13 => ?_; refine run_block_k ?_; refine sq fun K14 hK14 => ?_
      obtain ⟨i, rfl⟩ : ∃ i, k = i + 1 := ⟨k - 1, by simp at c10; omega⟩
      have hki : ((i + 1 : Nat) : Int) - 1 = (i : Int) := by omega
      obtain ⟨q, hq⟩ : ∃ q, q = i / 2 := ⟨_, rfl⟩
      obtain ⟨r, hr⟩ : ∃ r, r = i % 2 := ⟨_, rfl⟩
      have hq4 : q < 16 := by omega
      have hq5 : (q : Int) < 16 := by omega
      have hr8 : r < 2 := by omega
      have hqq : IntKind.i64.wrap ((i : Int).tdiv 2) = (q : Int) := by rw [Int.tdiv_eq_ediv_of_nonneg (by omega), wrap_i64 _ (by omega) (by omega)]; omega
      have hrr : (i : Int).tmod 2 = (r : Int) := by rw [Int.tmod_eq_emod_of_nonneg (by omega)]; omega
      have hq2 : IntKind.i64.wrap ((i : Int) / 2) = (q : Int) := by rw [wrap_i64 _ (by omega) (by omega)]; omega
      have hr2 : (i : Int) % 2 = (r : Int) := by omega
      have hnn : ¬ 8 * (r : Int) < 0 := by omega
      obtain ⟨m, hm⟩ : ∃ m, m = x / 65536 ^ q % 65536 := ⟨_, rfl⟩
      have hget := digsE_get (x := x) hq4
      rw [← hm] at hget
      obtain ⟨c, hc⟩ : ∃ c, c = UInt8.ofNat (x / 256 ^ i % 256) := ⟨_, rfl⟩
      have hcn : c.toNat = x / 256 ^ i % 256 := by rw [hc]; exact toNat_ofNat (by omega)
      have hmy : m / 2 ^ (8 * r) % 256 = c.toNat := by rw [hm, hq, hr, hcn]; exact dig_byteE
      have hsh : Int.fdiv (m : Int) (2 ^ (min (8 * (r : Int)).toNat 64)) = ((m / 2 ^ (8 * r) : Nat) : Int) := by rw [show min (8 * (r : Int)).toNat 64 = 8 * r by omega, Int.fdiv_eq_ediv_of_nonneg _ (by exact Int.le_of_lt (Int.pow_pos (by omega)))]; simp
      have hcv : IntKind.u8.wrap ((m / 2 ^ (8 * r) : Nat) : Int) = (c.toNat : Int) := by rw [wrap_u8, hmy]
      generalize m / 2 ^ (8 * r) = z at *
      have : SmallB (natBytes (x / 256 ^ (i + 1))) := ⟨by omega⟩
      replace F := aF hki F; replace F := aF hqq F; replace F := aF hrr F; replace F := aF hq2 F; replace F := aF hr2 F; replace F := aF hq4 F; replace F := aF hq5 F; replace F := aF hnn F; replace F := aF hsh F; replace F := aF hcv F; replace F := aF hget F; refine rg' (h := fun J15 hJ15 => ?_); refine hJ15 _ _ ?_; refine hK14 _ _ ?_; refine sr fun _ hJ17 => ?_; refine gs 25 (fun g7_2 => ?_) (fun g7_2 => ?_)
      · (try exact nope g7_2); all_goals have g7_2p := g7_2; try simp [F] at g7_2p
        all_goals
         replace F := aF g7_2 F; try replace F := aF g7_2p F
         have e : natBytes (x / 256 ^ i) = natBytes (x / 256 ^ (i + 1)) ++ [c] := by rw [hc]; exact nb1 (.inl (by simp at g7_2; omega))
         (iterate 3 refine no2 (k := ?_)); refine hJ17 _ _ ?_; refine ct ?_; refine rg' (h := fun J18 hJ18 => ?_); refine hJ18 _ _ ?_; refine hK13 _ _ ?_; refine rg' (h := fun J19 hJ19 => ?_); refine hJ19 _ _ ?_; refine ⟨(i), ⟨kp, lp, ?_, lp, ?_, ?_⟩, lp⟩
         · simp [e]
         · rw [e]
           simp
           omega
         · simp [e]
      (try exact nope g7_2); all_goals have g7_2p := g7_2; try simp [F] at g7_2p
      all_goals
       replace F := aF g7_2 F; (try replace F := aF g7_2p F); (iterate 3 refine go2 (k := ?_)); refine hJ17 _ _ ?_; refine cs (fun c29 => ?_) (fun c29 => ?_)
       · (try exact nope c29); all_goals have c29p := c29; try simp [F] at c29p
         all_goals
          replace F := aF c29 F; (try replace F := aF c29p F); (try (have g7 : c.toNat = 0 := by simp at g7_2; omega)); (try have hc0 : c = 0 := UInt8.toNat_inj.1 (by simpa using g7)); (try have e : natBytes (x / 256 ^ i) = natBytes (x / 256 ^ (i + 1)) ++ [c] := by rw [hc]; exact nb1 (.inr (by simpa using c29))); refine rg' (h := fun J20 hJ20 => ?_); refine hJ20 _ _ ?_; refine hK13 _ _ ?_; refine rg' (h := fun J21 hJ21 => ?_); refine hJ21 _ _ ?_; refine ⟨(i), ⟨kp, lp, ?_, lp, ?_, ?_⟩, lp⟩
          · simp [e, hc0]
          · rw [e]
            simp
            omega
          · simp [e, hc0]
       (try exact nope c29); all_goals have c29p := c29; try simp [F] at c29p
       all_goals
        replace F := aF c29 F; try replace F := aF c29p F
        have g7 : c.toNat = 0 := by simp at g7_2; omega
        have e : natBytes (x / 256 ^ i) = natBytes (x / 256 ^ (i + 1)) := nb2 (by omega) (by simpa using c29)
        refine run_skip ?_; refine hK13 _ _ ?_; refine rg' (h := fun J22 hJ22 => ?_); refine hJ22 _ _ ?_; refine ⟨(i), ⟨kp, lp, ?_, lp, ?_, ?_⟩, lp⟩
        · rw [e]
          simp [F]
        · rw [e]
          omega
        · rw [e]
          simp [F]
   (try exact nope c10); all_goals have c10p := c10; try simp [F] at c10p
   all_goals
    replace F := aF c10 F; (try replace F := aF c10p F); refine run_exit ?_; refine hK7 _ _ ?_; refine sr fun _ hJ24 => ?_; refine hJ24 _ _ ?_; refine ra ?_
    have hk0 : k = 0 := by simp at c10; omega
    subst hk0
    simp only [Nat.pow_zero, Nat.div_one]
    exact ⟨wk_wrA _ _, [numA x], tkB (natBytes x), [], by simp⟩

set_option maxHeartbeats 1600000 in
attribute [local simp] undefA List.getElem?_cons_zero List.getElem?_cons_succ appendA readA roomA maxLen in
theorem rnum_ok {σ : St} {x : Nat} (hx : x < 2 ^ 256) :
    CallsA Try.prog 107 [.agg (numA x)] σ (fun av σ' => av = .sl 1 (bytesA (encN x)) (encN x).length .shut ∧ σ = σ') := by
  refine callsA_gcS ?_ (by simp [AV.under])
  have hv : (Value.int IntKind.u8 0).cells.size = 1 := rfl
  have hlen : (natBytes x).length ≤ 32 := natBytes_len x 32 (by simpa using hx)
  obtain ⟨c, hc⟩ : ∃ c, c = UInt8.ofNat (natBytes x).length := ⟨_, rfl⟩
  have hcn : c.toNat = (natBytes x).length := by rw [hc]; exact toNat_ofNat (by omega)
  have hw : IntKind.u8.wrap ((natBytes x).length : Int) = (c.toNat : Int) := by rw [wrap_u8, hcn, Nat.mod_eq_of_lt (by omega)]
  have h1 : 1 + (natBytes x).length ≤ 140737488355328 := by omega
  have h2 : 1 + (natBytes x).length ≤ 9223372036854775807 := by omega
  have he : encN x = c :: natBytes x := by simp [encN, hc]
  have hwk : Wk (.sl 1 (.v (.int .u8 c.toNat) :: bytesA (natBytes x)) (1 + (natBytes x).length) (.own σ.toks.length)) (.sl 1 (bytesA (encN x)) (encN x).length .shut) := by
    rw [he, List.length_cons, Nat.add_comm]
    exact Wk.shut 1 (bytesA (c :: natBytes x)) _ _
  have F := And.intro hv (And.intro hw (And.intro h1 (And.intro h2 (True.intro))))
  refine callsA_body Try.func107 rfl rfl rfl ?_; refine sr fun _ hJ2 => ?_; refine hJ2 _ _ ?_; refine sr fun _ hJ4 => ?_; refine ca (c := rbytes_ok hx) (k := ?_); rintro _ _ ⟨rfl, rfl⟩; (repeat (first | simp [F] | simp (disch := omega) only [wC, if_pos, if_neg])); refine hJ4 _ _ ?_; refine sr fun _ hJ6 => ?_; refine hJ6 _ _ ?_; refine ra ?_; exact ⟨hwk, [numA x], [1 + (natBytes x).length], [], by simp⟩

/-! ### A list that begins with one byte of its own -/
def wrF (k : Nat) (first : Bool) (l : List UInt8) : AV := .sl 1 (bytesA l) l.length (if first then .full else .own k)
def tkF (first : Bool) (l : List UInt8) : List Nat := if first then [] else [l.length]
theorem wk_wrF (k : Nat) (b : Bool) (l : List UInt8) : Wk (wrF k b l) (.sl 1 (bytesA l) l.length .shut) := Wk.shut _ _ _ _
theorem append_wrF {l q : List UInt8} {tq : Tail} {first : Bool} [hsm : SmallB l] {objs : List (List AV)} {tk : List Nat} {gl : Nat → Option (List AV)} {rows : List RowSt} (hq : q.length ≤ 100000) :
    appendA Try.prog 47 (wrF tk.length first l) (.sl 1 (bytesA q) q.length tq) ⟨objs, tk ++ tkF first l, gl, rows⟩ = some (wrF tk.length false (l ++ q), ⟨objs, tk ++ tkF false (l ++ q), gl, rows⟩) := by
  have hl := hsm.h
  have hv : (Value.int IntKind.u8 0).cells.size = 1 := rfl
  have h1 : l.length + q.length ≤ 140737488355328 := by omega
  have h2 : l.length + q.length ≤ 9223372036854775807 := by omega
  cases first <;> simp [wrF, tkF, appendA, readA, roomA, maxLen, h1, h2, hv, bytesA_append]
theorem append_wrF1 {l : List UInt8} {b : UInt8} {first : Bool} [hsm : SmallB l] {objs : List (List AV)} {tk : List Nat} {gl : Nat → Option (List AV)} {rows : List RowSt} :
    appendA Try.prog 47 (wrF tk.length first l) (.sl 1 [.v (.int .u8 b.toNat)] 1 .full) ⟨objs, tk ++ tkF first l, gl, rows⟩ = some (wrF tk.length false (l ++ [b]), ⟨objs, tk ++ tkF false (l ++ [b]), gl, rows⟩) := append_wrF (q := [b]) (by simp)

set_option maxHeartbeats 1600000 in
attribute [local simp] undefA List.getElem?_cons_zero List.getElem?_cons_succ append_wrF1 coinC in
theorem rcoinsW_ok {σ : St} {L : List Coin} {tL : Tail} (hL : L.length ≤ 255) :
    CallsA Try.prog 90 [.sl 5 (coinsC L) L.length tL] σ (fun av σ' => av = .sl 1 (bytesA (encL L)) (encL L).length .shut ∧ σ = σ') := by
  refine callsA_gcS ?_ (by simp [AV.under])
  have hv : (Value.int IntKind.u8 0).cells.size = 1 := rfl
  obtain ⟨c, hc⟩ : ∃ c, c = UInt8.ofNat L.length := ⟨_, rfl⟩
  have hcn : c.toNat = L.length := by rw [hc]; exact toNat_ofNat (by omega)
  have hw : IntKind.u8.wrap (L.length : Int) = (c.toNat : Int) := by rw [wrap_u8, hcn, Nat.mod_eq_of_lt (by omega)]
  have hlA : lenA Try.prog 23 (.sl 5 (coinsC L) L.length tL) = some (.v (.int .i64 (L.length : Nat))) := by simp [lenA]
  have F := And.intro hv (And.intro hw (And.intro hlA (True.intro)))
  refine callsA_body Try.func90 rfl rfl rfl ?_; refine sr fun _ hJ2 => ?_; refine hJ2 _ _ ?_; refine sr fun _ hJ4 => ?_; refine hJ4 _ _ ?_; refine sq fun K5 hK5 => ?_; refine sr fun _ hJ7 => ?_; refine hJ7 _ _ ?_; refine run_block_k ?_; refine run_loopF (X := Nat) [0, 2] (fun j ρ σ1 => (j ≤ L.length) ∧ (ρ 3 = wrF σ.toks.length (decide (j = 0)) (c :: encCs (L.take j))) ∧ (ρ 4 = .v (.int .i64 j)) ∧ (σ1 = { σ with toks := σ.toks ++ tkF (decide (j = 0)) (c :: encCs (L.take j)) })) (fun j => L.length - j) (0) ?st1 ?rd1
  case st1 =>
   refine ⟨lp, ?_, lp, ?_⟩
   · simp [wrF, encCs, bytesA]
   · simp [tkF]
  case rd1 =>
   rintro j ρ1 σ1 hF1 ⟨hj, h3, h4, hσ⟩; obtain rfl := hσ.symm
   have f1 := keepL hF1
   (try simp [KeepL, F] at f1); replace F := aF h3 F; replace F := aF h4 F; (try replace F := aF f1 F); refine sq fun K8 hK8 => ?_; refine sr fun _ hJ10 => ?_; refine hJ10 _ _ ?_; refine cs (fun c12 => ?_) (fun c12 => ?_)
   · (try exact nope c12); all_goals have c12p := c12; try simp [F] at c12p
     all_goals
      replace F := aF c12 F; (try replace F := aF c12p F); refine run_skip ?_; refine hK8 _ _ ?_; refine sq fun K11 hK11 => ?_; refine run_block_k ?_; refine sq fun K12 hK12 => ?_
      have hel := encCs_len (L.take j)
      have htl : (L.take j).length ≤ 255 := by simp; omega
      have : SmallB (c :: encCs (L.take j)) := ⟨by simp; omega⟩
      have : SmallB (c :: (encCs (L.take j) ++ [L[j].d])) := ⟨by simp; omega⟩
      have e3 : encCs (L.take (j + 1)) = encCs (L.take j) ++ L[j].d :: encN L[j].n.v := by rw [take_snoc (by simp at c12; omega), encCs_snoc]; rfl
      have hq1 : (encN L[j].n.v).length ≤ 33 := by have := natBytes_len L[j].n.v 32 (by simpa using L[j].n.h); simp [encN]; omega
      have hap := fun (o : List (List AV)) => append_wrF (first := false) (l := c :: (encCs (L.take j) ++ [L[j].d])) (q := encN L[j].n.v) (tq := .shut) (objs := o) (tk := σ.toks) (gl := σ.gl) (rows := σ.rows) (by omega)
      replace F := aF hap F; refine rg' (h := fun J13 hJ13 => ?_); refine hJ13 _ _ ?_; refine hK12 _ _ ?_; refine rg' (h := fun J14 hJ14 => ?_); refine ca (c := rnum_ok L[j].n.h) (k := ?_); rintro _ _ ⟨rfl, rfl⟩; (repeat (first | simp [F] | simp (disch := omega) only [wC, if_pos, if_neg])); refine hJ14 _ _ ?_; refine hK11 _ _ ?_; refine rg' (h := fun J15 hJ15 => ?_); refine hJ15 _ _ ?_; refine ⟨(j + 1), ⟨kp, lp, ?_, lp, ?_⟩, lp⟩
      · simp [e3]
      · simp [e3]
   (try exact nope c12); all_goals have c12p := c12; try simp [F] at c12p
   all_goals
    replace F := aF c12 F; (try replace F := aF c12p F); refine run_exit ?_; refine hK5 _ _ ?_; refine sr fun _ hJ17 => ?_; refine hJ17 _ _ ?_; refine ra ?_
    have hfull : L.take j = L := List.take_of_length_le (by simp at c12; omega)
    have e2 : c :: encCs L = encL L := (by simp [encL, hc])
    rw [hfull, e2]
    exact ⟨wk_wrF _ _ _, [], tkF (decide (j = 0)) (encL L), [], by simp⟩

end Go.Proofs.Ytdbaddholggkbaa

/-
  A plan's bytes, by the document..
-/
namespace Go.Proofs.Ytdbaddholggkbaa
set_option linter.unnecessarySimpa false
set_option maxRecDepth 100000
open Go Go.Vm
set_option linter.unusedSimpArgs false
set_option linter.unusedVariables false
attribute [local simp] evalL wantedA isCall opA evalA evalAll evalsA evalOpt ofValue ofCell plain binA_eql_pn binA_neq_pn binA_gtr binA_lss binA_geq binA_leq binA_add binA_sub binA_eql binA_neq binA_orI binA_andI binA_shl binA_shr binA_mul binA_quo binA_rem binA_agg_eql binA_agg_neq convA_int unA_not fieldAddrA loadA partA pickA_true pickA_false pickA_bb lenA builtinA storeA splice AV.cells AV.isCell sliceA boundA intA callOf indexAddrA newObjA buildA fillA zeroA ofCells buildSliceA indexA fieldA numA_len4 numA_take4 numA_drop4 set_appN get_appN take_appN List.getElem?_cons_zero List.getElem?_cons_succ makeA zeros64

theorem ap0 {q A : List UInt8} {b : UInt8} {m : Nat} {tq : Tail} {objs : List (List AV)} {tk : List Nat} {gl : Nat → Option (List AV)} {rows : List RowSt} (hA : A = b :: q) (hm : q.length = m) (hq : m ≤ 100000) :
    appendA Try.prog 47 (.sl 1 [.v (.int .u8 b.toNat)] 1 .full) (.sl 1 (bytesA q) m tq) ⟨objs, tk, gl, rows⟩ = some (.sl 1 (bytesA A) A.length (.own tk.length), ⟨objs, tk ++ [A.length], gl, rows⟩) := by
  subst hA hm
  have : SmallB [b] := ⟨by simp⟩
  have h := append_wrF (l := [b]) (q := q) (tq := tq) (first := true) (objs := objs) (tk := tk) (gl := gl) (rows := rows) hq
  simpa [wrF, tkF, bytesA] using h
theorem apO {l q A : List UInt8} {m : Nat} {tq : Tail} {objs : List (List AV)} {tk : List Nat} {gl : Nat → Option (List AV)} {rows : List RowSt} (hA : A = l ++ q) (hm : q.length = m) (hl : l.length ≤ 400000) (hq : m ≤ 100000) :
    appendA Try.prog 47 (.sl 1 (bytesA l) l.length (.own tk.length)) (.sl 1 (bytesA q) m tq) ⟨objs, tk ++ [l.length], gl, rows⟩ = some (.sl 1 (bytesA A) A.length (.own tk.length), ⟨objs, tk ++ [A.length], gl, rows⟩) := by
  subst hA hm
  have : SmallB l := ⟨by omega⟩
  have h := append_wrF (l := l) (q := q) (tq := tq) (first := false) (objs := objs) (tk := tk) (gl := gl) (rows := rows) hq
  simpa [wrF, tkF] using h

set_option maxHeartbeats 1600000 in
attribute [local simp] undefA List.getElem?_cons_zero List.getElem?_cons_succ plnC perC persC_noObj in
theorem rbytesP_ok {σ : St} {p : Pln} (p1 : p.s < 2 ^ 64) (p2 : p.e < 2 ^ 64) (p3 : p.tot.length ≤ 8) (p4 : p.ps.length ≤ 255) (p5 : ∀ x ∈ p.ps, x.l < 2 ^ 64 ∧ x.c.length ≤ 8) :
    CallsA Try.prog 45 [.agg (plnC p)] σ (fun av σ' => av = .sl 1 (bytesA (encPl p)) (encPl p).length .shut ∧ σ = σ') := by
  refine callsA_gcS ?_ (by simp [AV.under])
  obtain ⟨A, hA⟩ : ∃ A, A = encPl p := ⟨_, rfl⟩
  rw [← hA]
  obtain ⟨pk, ps, pe, pt, pp⟩ := p
  simp only at p1 p2 p3 p4 p5
  obtain ⟨c, hc⟩ : ∃ c, c = UInt8.ofNat pp.length := ⟨_, rfl⟩
  have hcn : c.toNat = pp.length := by rw [hc]; exact toNat_ofNat (by omega)
  have hw : IntKind.u8.wrap (pp.length : Int) = (c.toNat : Int) := by rw [wrap_u8, hcn, Nat.mod_eq_of_lt (by omega)]
  obtain ⟨A2, hA2⟩ : ∃ A2, A2 = pk :: nBytes 8 ps := ⟨_, rfl⟩
  obtain ⟨A3, hA3⟩ : ∃ A3, A3 = A2 ++ nBytes 8 pe := ⟨_, rfl⟩
  obtain ⟨A4, hA4⟩ : ∃ A4, A4 = A3 ++ encL pt := ⟨_, rfl⟩
  obtain ⟨A5, hA5⟩ : ∃ A5, A5 = A4 ++ [c] := ⟨_, rfl⟩
  have n2 : A2.length = 9 := by rw [hA2, List.length_cons, nBytes_len]
  have n3 : A3.length = 17 := by rw [hA3, List.length_append, nBytes_len, n2]
  have ne := encL_len p3
  have n4 : A4.length ≤ 290 := by rw [hA4, List.length_append, n3]; omega
  have n5 : A5.length ≤ 291 := by rw [hA5, List.length_append]; simp; omega
  obtain ⟨Bf, hBf⟩ : ∃ Bf : Nat → List UInt8, Bf = fun i => A5 ++ encPers (pp.take i) := ⟨_, rfl⟩
  have hB0 : Bf 0 = A5 := by rw [hBf]; simp [encPers]
  have hBl : ∀ i, i ≤ pp.length → (Bf i).length ≤ 200000 := fun i hi => by
    have := encPers_len (pp.take i) (fun x hx => (p5 x (List.mem_of_mem_take hx)).2)
    have e : (pp.take i).length = i := by simp; omega
    rw [hBf]; simp only [List.length_append]; rw [e] at this; omega
  have hBs : ∀ i (hi : i < pp.length), Bf (i + 1) = Bf i ++ nBytes 8 pp[i].l ++ encL pp[i].c := fun i hi => by
    rw [hBf]; simp only; rw [← List.take_append_getElem hi, encPers_snoc]; simp [encPer]
  have hBA : Bf pp.length = A := by
    rw [hA, hBf]; simp only; rw [List.take_length, hA5, hA4, hA3, hA2, hc]; simp [encPl]
  have q2 := fun objs => ap0 (tq := .shut) (objs := objs) (tk := σ.toks) (gl := σ.gl) (rows := σ.rows) hA2 (nBytes_len 8 ps) (by omega)
  have q3 := fun objs => apO (tq := .shut) (objs := objs) (tk := σ.toks) (gl := σ.gl) (rows := σ.rows) hA3 (nBytes_len 8 pe) (by omega) (by omega)
  have q4 := fun objs => apO (tq := .shut) (objs := objs) (tk := σ.toks) (gl := σ.gl) (rows := σ.rows) hA4 rfl (by omega) (by omega)
  have q5 := fun objs => apO (m := 1) (tq := .full) (objs := objs) (tk := σ.toks) (gl := σ.gl) (rows := σ.rows) hA5 rfl (by omega) (by omega)
  have hbc : bytesA [c] = [.v (.int .u8 c.toNat)] := rfl
  simp only [hbc] at q5
  clear hBf hA
  have F := And.intro hw (True.intro)
  refine callsA_body Try.func45 rfl rfl rfl ?_; refine sr fun _ hJ2 => ?_; refine hJ2 _ _ ?_; refine sr fun _ hJ4 => ?_; refine hJ4 _ _ ?_; refine sq fun K5 hK5 => ?_; replace F := aF q2 F; refine rg' (h := fun J6 hJ6 => ?_)
  refine ca (c := rlong_ok (size := 8) p1 (by omega)) (k := ?_)
  rintro _ _ ⟨rfl, rfl⟩; (repeat (first | simp [F] | simp (disch := omega) only [wC, if_pos, if_neg])); refine hJ6 _ _ ?_; refine hK5 _ _ ?_; refine sq fun K7 hK7 => ?_; replace F := aF q3 F; refine rg' (h := fun J8 hJ8 => ?_)
  refine ca (c := rlong_ok (size := 8) p2 (by omega)) (k := ?_)
  rintro _ _ ⟨rfl, rfl⟩; (repeat (first | simp [F] | simp (disch := omega) only [wC, if_pos, if_neg])); refine hJ8 _ _ ?_; refine hK7 _ _ ?_; refine sq fun K9 hK9 => ?_; replace F := aF q4 F; refine rg' (h := fun J10 hJ10 => ?_)
  refine ca (c := rcoinsW_ok (L := pt) (by omega)) (k := ?_)
  rintro _ _ ⟨rfl, rfl⟩; (repeat (first | simp [F] | simp (disch := omega) only [wC, if_pos, if_neg])); refine hJ10 _ _ ?_; refine hK9 _ _ ?_; refine sq fun K11 hK11 => ?_; replace F := aF q5 F; refine rg' (h := fun J12 hJ12 => ?_); refine hJ12 _ _ ?_; refine hK11 _ _ ?_; refine sq fun K13 hK13 => ?_; refine sr fun _ hJ15 => ?_; refine hJ15 _ _ ?_; refine run_block_k ?_; refine run_loopF (X := Nat) [1, 2] (fun i ρ σ1 => (i ≤ pp.length) ∧ (ρ 3 = .sl 1 (bytesA (Bf i)) (Bf i).length (.own σ.toks.length)) ∧ (ρ 4 = .v (.int .i64 i)) ∧ (σ1 = { σ with objs := σ.objs ++ [[.v (.int .u8 pk.toNat), .v (.int .u64 ps), .v (.int .u64 pe), .sl 5 (coinsC pt) pt.length .shut, .sl 2 (persC pp) pp.length .shut]], toks := σ.toks ++ [(Bf i).length] })) (fun i => pp.length - i) (0) ?st1 ?rd1
  case st1 =>
   refine ⟨lp, ?_, lp, ?_⟩
   · simp [hB0]
   · simp [hB0]
  case rd1 =>
   rintro i ρ1 σ1 hF1 ⟨hj, h3, h4, hσ⟩; obtain rfl := hσ.symm
   have f1 := keepL hF1
   (try simp [KeepL, F] at f1); replace F := aF h3 F; replace F := aF h4 F; (try replace F := aF f1 F); refine sq fun K16 hK16 => ?_; refine sr fun _ hJ18 => ?_; refine hJ18 _ _ ?_; refine cs (fun c34 => ?_) (fun c34 => ?_)
   · (try exact nope c34); all_goals have c34p := c34; try simp [F] at c34p
     all_goals
      replace F := aF c34 F; (try replace F := aF c34p F); refine run_skip ?_; refine hK16 _ _ ?_; refine sq fun K19 hK19 => ?_; refine run_block_k ?_; refine sq fun K20 hK20 => ?_
      have hlt2 : i < pp.length := by have h := c34; simp at h; omega
      have hat := persC_at hlt2
      have hb1 : i * 2 + 2 ≤ pp.length * 2 := by omega
      have hx5 := p5 _ (List.getElem_mem hlt2)
      have hBs1 := hBs _ hlt2
      have hBl1 := hBl i hj
      obtain ⟨x, hx⟩ : ∃ x, x = pp[i] := ⟨_, rfl⟩
      rw [← hx] at hat hx5 hBs1
      obtain ⟨xl, xc⟩ := x
      simp only at hx5 hBs1
      obtain ⟨C1, hC1⟩ : ∃ C1, C1 = Bf i ++ nBytes 8 xl := ⟨_, rfl⟩
      rw [← hC1] at hBs1
      have nC : C1.length = (Bf i).length + 8 := by rw [hC1, List.length_append, nBytes_len]
      have nE := encL_len hx5.2
      have q6 := fun objs => apO (tq := .shut) (objs := objs) (tk := σ.toks) (gl := σ.gl) (rows := σ.rows) hC1 (nBytes_len 8 xl) (by omega) (by omega)
      have q7 := fun objs => apO (tq := .shut) (objs := objs) (tk := σ.toks) (gl := σ.gl) (rows := σ.rows) hBs1 rfl (by omega) (by omega)
      replace F := aF hlt2 F; replace F := aF hat F; replace F := aF hb1 F; replace F := aF q6 F; refine rg' (h := fun J21 hJ21 => ?_)
      refine ca (c := rlong_ok (size := 8) hx5.1 (by omega)) (k := ?_)
      rintro _ _ ⟨rfl, rfl⟩; (repeat (first | simp [F] | simp (disch := omega) only [wC, if_pos, if_neg])); refine hJ21 _ _ ?_; refine hK20 _ _ ?_; replace F := aF hlt2 F; replace F := aF hat F; replace F := aF hb1 F; replace F := aF q7 F; refine rg' (h := fun J22 hJ22 => ?_)
      refine ca (c := rcoinsW_ok (L := xc) (by omega)) (k := ?_)
      rintro _ _ ⟨rfl, rfl⟩; (repeat (first | simp [F] | simp (disch := omega) only [wC, if_pos, if_neg])); refine hJ22 _ _ ?_; refine hK19 _ _ ?_; refine rg' (h := fun J23 hJ23 => ?_); refine hJ23 _ _ ?_; refine ⟨(i + 1), ⟨kp, lp, lp, lp, lp⟩, lp⟩
   (try exact nope c34); all_goals have c34p := c34; try simp [F] at c34p
   all_goals
    replace F := aF c34 F; (try replace F := aF c34p F); refine run_exit ?_; refine hK13 _ _ ?_; refine sr fun _ hJ25 => ?_; refine hJ25 _ _ ?_; refine ra ?_
    have hii : i = pp.length := by have h := c34; simp at h; omega
    rw [hii, hBA] at h3 ⊢
    exact gcr (hA := by simp [F, h3]; exact Wk.shut _ _ _ _)

end Go.Proofs.Ytdbaddholggkbaa

/-
  The bytes of a message..
-/
namespace Go.Proofs.Ytdbaddholggkbaa
set_option linter.unnecessarySimpa false
set_option maxRecDepth 100000
open Go Go.Vm
set_option linter.unusedSimpArgs false
set_option linter.unusedVariables false
attribute [local simp] evalL wantedA isCall opA evalA evalAll evalsA evalOpt ofValue ofCell plain binA_eql_pn binA_neq_pn binA_gtr binA_lss binA_geq binA_leq binA_add binA_sub binA_eql binA_neq binA_orI binA_shl binA_shr binA_mul binA_quo binA_rem binA_agg_eql binA_agg_neq convA_int unA_not fieldAddrA loadA partA pickA_true pickA_false pickA_bb lenA builtinA storeA splice AV.cells AV.isCell sliceA boundA intA callOf indexAddrA newObjA buildA fillA zeroA ofCells buildSliceA indexA fieldA numA_len4 numA_take4 numA_drop4 set_appN get_appN take_appN List.getElem?_cons_zero List.getElem?_cons_succ makeA zeros64

def encO (x : Out) : List UInt8 := x.t :: encL x.c
def encOs (l : List Out) : List UInt8 := l.flatMap encO
theorem encOs_snoc (l : List Out) (x : Out) : encOs (l ++ [x]) = encOs l ++ encO x := by simp [encOs]
theorem encOs_len : ∀ l : List Out, (∀ x ∈ l, x.c.length ≤ 8) → (encOs l).length ≤ 274 * l.length
  | [], _ => by simp [encOs]
  | x :: l, h => by
    have h1 := encOs_len l (fun y hy => h y (by simp [hy]))
    have h2 := encL_len (h x (by simp))
    have e : encOs (x :: l) = encO x ++ encOs l := rfl
    rw [e]
    simp only [encO, List.length_append, List.length_cons]
    omega
def ncE (m : Msg) : List UInt8 := bif hB m.k 1024 then [] else m.f :: (nBytes 8 m.s ++ encL m.fee)
def ncT (m : Msg) : List UInt8 := bif hB m.k 1 then [m.t] else []
def ncV (m : Msg) : List UInt8 := bif hB m.k 2 then [m.v] else []
def ncO (m : Msg) : List UInt8 := bif hB m.k 4 then [m.o] else []
def ncN (m : Msg) : List UInt8 := bif hB m.k 8 then encN m.n.v else []
def ncC (m : Msg) : List UInt8 := bif hB m.k 16 then encL m.c else []
def ncU (m : Msg) : List UInt8 := bif hB m.k 32 then UInt8.ofNat m.outs.length :: encOs m.outs else []
def ncP (m : Msg) : List UInt8 := bif hB m.k 64 then encPl m.p else []
def ncM (m : Msg) : List UInt8 := bif hB m.k 128 then nBytes 8 m.tm else []
def ncQ (m : Msg) : List UInt8 := bif hB m.k 256 then nBytes 2 m.pt else []
def ncJ (m : Msg) : List UInt8 := bif hB m.k 512 then [if m.j then 1 else 0] else []
def encM (m : Msg) : List UInt8 := m.k :: (ncE m ++ (ncT m ++ (ncV m ++ (ncO m ++ (ncN m ++ (ncC m ++ (ncU m ++ (ncP m ++ (ncM m ++ (ncQ m ++ ncJ m))))))))))

theorem perOk_mem : ∀ (l : List Per) (E : Nat) (a : List Coin) (r : Nat × List Coin), perOk l E a = some r → ∀ x ∈ l, Right x.c
  | [], _, _, _, _ => by simp
  | x :: l, E, a, r, h => by
    simp only [perOk] at h
    split at h
    · cases h
    · rename_i hn
      split at h
      · intro y hy
        rcases List.mem_cons.1 hy with e | hy
        · subst e
          exact Classical.byContradiction fun hc => hn (.inr (.inr (.inr (fun hh => hc hh.2))))
        · exact perOk_mem l _ _ _ h y hy
      · cases h
theorem rightB_bounds {p : Pln} (h : rightB p = true) : Right p.tot ∧ p.ps.length ≤ 16 ∧ ∀ x ∈ p.ps, Right x.c := by
  unfold rightB at h
  split at h
  · rw [of_decide_eq_true h]; exact ⟨Go.Vm.right_nil, by simp, by simp⟩
  · split at h
    · cases h
    · rename_i hn
      have hr : Right p.tot := Classical.byContradiction fun hc => hn (.inl (fun hh => hc hh.2))
      have nps : p.ps = [] → Right p.tot ∧ p.ps.length ≤ 16 ∧ ∀ x ∈ p.ps, Right x.c := fun e => ⟨hr, by rw [e]; simp, by rw [e]; simp⟩
      split at h
      · exact nps (of_decide_eq_true h).2
      · split at h
        · exact nps (of_decide_eq_true h).2
        · split at h
          · exact nps (of_decide_eq_true h).2.2
          · split at h
            · simp only [perB, Bool.and_eq_true, decide_eq_true_eq] at h
              exact ⟨hr, h.1, perOk_mem _ _ _ _ h.2⟩
            · cases h
structure MB (m : Msg) : Prop where
  fee : Right m.fee
  c : Right m.c
  outs : m.outs.length ≤ 16
  out : ∀ x ∈ m.outs, Right x.c
  p : Right m.p.tot ∧ m.p.ps.length ≤ 16 ∧ ∀ x ∈ m.p.ps, Right x.c
theorem right_mb {m : Msg} (h : rightM m = true) : MB m := by
  unfold rightM at h
  simp only [Bool.and_eq_true, decide_eq_true_eq, Bool.not_eq_true', List.all_eq_true] at h
  obtain ⟨⟨⟨⟨⟨⟨⟨⟨⟨h1, h2⟩, h3⟩, h4⟩, h5⟩, h6⟩, h7⟩, h8⟩, h9⟩, h10⟩ := h
  refine ⟨h4.1, h4.2, ?_, fun x hx => ?_, rightB_bounds h8⟩
  · cases hu : hB m.k 32
    · have : m.outs = [] := by rw [h2]; simp [onlyM, hu]
      rw [this]; simp
    · rw [hu] at h5
      simp at h5
      omega
  · have := h7 x hx
    simp only [outB, Bool.and_eq_true, decide_eq_true_eq] at this
    exact this.2

theorem wnumA {σ : St} {id k x : Nat} {l A : List UInt8} (hA : A = l ++ encN x) (h : σ.objs[id]? = some [wrA k l]) (ht : Tk σ.toks k l) (hx : x < 2 ^ 256) (hl : l.length ≤ 300000) :
    CallsA Try.prog 103 [.ptr id 0, .agg (numA x)] σ (WQ id σ k l A) := by
  subst hA; exact wnum_ok h ht hx (by omega)
theorem wshortA {σ : St} {id k n : Nat} {l A : List UInt8} (hA : A = l ++ nBytes 2 n) (h : σ.objs[id]? = some [wrA k l]) (ht : Tk σ.toks k l) (hn : n < 2 ^ 16) (hl : l.length ≤ 300000) :
    CallsA Try.prog 104 [.ptr id 0, .v (.int .u16 n)] σ (WQ id σ k l A) := by
  subst hA; exact wshort_ok h ht hn (by omega)
theorem wflagA {σ : St} {id k : Nat} {l A : List UInt8} {b : Bool} (hA : A = l ++ [if b then 1 else 0]) (h : σ.objs[id]? = some [wrA k l]) (ht : Tk σ.toks k l) (hl : l.length ≤ 300000) :
    CallsA Try.prog 105 [.ptr id 0, .v (.bool b)] σ (WQ id σ k l A) := by
  subst hA; exact wflag_ok h ht (by omega)
theorem mdoneA {σ : St} {id k : Nat} {l : List UInt8} (h : σ.objs[id]? = some [wrA k l]) (hne : l ≠ []) (hl : l.length ≤ 1000000) :
    CallsA Try.prog 41 [.ptr id 0] σ (fun av σ' => av = .sl 1 (bytesA l) l.length .shut ∧ σ = σ') := done_ok (tl := .own k) (by simpa [wrA, hne] using h) hl

set_option maxHeartbeats 1600000 in
attribute [local simp] undefA List.getElem?_cons_zero List.getElem?_cons_succ msgC outC outsC_noObj persC_noObj noObj_wrA noObj_wrA' in
theorem encode_ok {σ : St} {m : Msg} (hm : m.Ok) :
    CallsA Try.prog 54 [.agg (msgC m)] σ (fun av σ' => av = (bif rightM m then .tup [.sl 1 (bytesA (encM m)) (encM m).length .shut, .v (.int .i64 0)] else .tup [.sl 1 [] 0 .shut, .v (.int .i64 4)]) ∧ σ = σ') := by
  refine callsA_gcS ?_ (by cases rightM m <;> simp [AV.under, underL])
  have hmr := fun σ => mright_ok (σ := σ) hm
  obtain ⟨G, hG⟩ : ∃ G, G = rightM m := ⟨_, rfl⟩
  rw [← hG] at hmr ⊢
  have hb : G = true → MB m := fun e => right_mb (by rw [← hG]; exact e)
  obtain ⟨h1, h2, h3, h4, h5, h6, h7, h8⟩ := hm
  obtain ⟨A, hA⟩ : ∃ A, A = encM m := ⟨_, rfl⟩
  have hne : A ≠ [] := by rw [hA]; simp [encM]
  rw [← hA]
  obtain ⟨x1, x2, x3, x4, x5, x6, x7, x8, x9, x10, x11, x12, x13, x14⟩ := m
  simp only at h1 h2 h3 h4 h5 h6 h7 h8
  have hhas := fun σ => has_ok (σ := σ) (k := x1)
  obtain ⟨h, hh⟩ : ∃ h, h = hasN x1 := ⟨_, rfl⟩
  have hlt : h < 4096 := by rw [hh]; exact hasN_lt _
  rw [← hh] at hhas
  obtain ⟨eE, heE⟩ : ∃ e, e = h &&& 1024 := ⟨_, rfl⟩
  have handE : ∀ xo yo, binA Try.prog .and 3 xo yo (.v (.int .i64 (h : Nat))) (.v (.int .i64 1024)) = some (.v (.int .i64 (eE : Nat))) := fun xo yo => by rw [heE]; exact binA_andN _ xo yo hlt (by decide)
  obtain ⟨bE, hbE⟩ : ∃ b, b = hB x1 1024 := ⟨_, rfl⟩
  have hneE : (((eE : Nat) : Int) != 0) = bE := by rw [hbE, hB, ← hh, ← heE]; simp [bne, Int.natCast_eq_zero]; rw [Bool.eq_iff_iff]; simp
  obtain ⟨eT, heT⟩ : ∃ e, e = h &&& 1 := ⟨_, rfl⟩
  have handT : ∀ xo yo, binA Try.prog .and 3 xo yo (.v (.int .i64 (h : Nat))) (.v (.int .i64 1)) = some (.v (.int .i64 (eT : Nat))) := fun xo yo => by rw [heT]; exact binA_andN _ xo yo hlt (by decide)
  obtain ⟨bT, hbT⟩ : ∃ b, b = hB x1 1 := ⟨_, rfl⟩
  have hneT : (((eT : Nat) : Int) != 0) = bT := by rw [hbT, hB, ← hh, ← heT]; simp [bne, Int.natCast_eq_zero]; rw [Bool.eq_iff_iff]; simp
  obtain ⟨eV, heV⟩ : ∃ e, e = h &&& 2 := ⟨_, rfl⟩
  have handV : ∀ xo yo, binA Try.prog .and 3 xo yo (.v (.int .i64 (h : Nat))) (.v (.int .i64 2)) = some (.v (.int .i64 (eV : Nat))) := fun xo yo => by rw [heV]; exact binA_andN _ xo yo hlt (by decide)
  obtain ⟨bV, hbV⟩ : ∃ b, b = hB x1 2 := ⟨_, rfl⟩
  have hneV : (((eV : Nat) : Int) != 0) = bV := by rw [hbV, hB, ← hh, ← heV]; simp [bne, Int.natCast_eq_zero]; rw [Bool.eq_iff_iff]; simp
  obtain ⟨eO, heO⟩ : ∃ e, e = h &&& 4 := ⟨_, rfl⟩
  have handO : ∀ xo yo, binA Try.prog .and 3 xo yo (.v (.int .i64 (h : Nat))) (.v (.int .i64 4)) = some (.v (.int .i64 (eO : Nat))) := fun xo yo => by rw [heO]; exact binA_andN _ xo yo hlt (by decide)
  obtain ⟨bO, hbO⟩ : ∃ b, b = hB x1 4 := ⟨_, rfl⟩
  have hneO : (((eO : Nat) : Int) != 0) = bO := by rw [hbO, hB, ← hh, ← heO]; simp [bne, Int.natCast_eq_zero]; rw [Bool.eq_iff_iff]; simp
  obtain ⟨eN, heN⟩ : ∃ e, e = h &&& 8 := ⟨_, rfl⟩
  have handN : ∀ xo yo, binA Try.prog .and 3 xo yo (.v (.int .i64 (h : Nat))) (.v (.int .i64 8)) = some (.v (.int .i64 (eN : Nat))) := fun xo yo => by rw [heN]; exact binA_andN _ xo yo hlt (by decide)
  obtain ⟨bN, hbN⟩ : ∃ b, b = hB x1 8 := ⟨_, rfl⟩
  have hneN : (((eN : Nat) : Int) != 0) = bN := by rw [hbN, hB, ← hh, ← heN]; simp [bne, Int.natCast_eq_zero]; rw [Bool.eq_iff_iff]; simp
  obtain ⟨eC, heC⟩ : ∃ e, e = h &&& 16 := ⟨_, rfl⟩
  have handC : ∀ xo yo, binA Try.prog .and 3 xo yo (.v (.int .i64 (h : Nat))) (.v (.int .i64 16)) = some (.v (.int .i64 (eC : Nat))) := fun xo yo => by rw [heC]; exact binA_andN _ xo yo hlt (by decide)
  obtain ⟨bC, hbC⟩ : ∃ b, b = hB x1 16 := ⟨_, rfl⟩
  have hneC : (((eC : Nat) : Int) != 0) = bC := by rw [hbC, hB, ← hh, ← heC]; simp [bne, Int.natCast_eq_zero]; rw [Bool.eq_iff_iff]; simp
  obtain ⟨eU, heU⟩ : ∃ e, e = h &&& 32 := ⟨_, rfl⟩
  have handU : ∀ xo yo, binA Try.prog .and 3 xo yo (.v (.int .i64 (h : Nat))) (.v (.int .i64 32)) = some (.v (.int .i64 (eU : Nat))) := fun xo yo => by rw [heU]; exact binA_andN _ xo yo hlt (by decide)
  obtain ⟨bU, hbU⟩ : ∃ b, b = hB x1 32 := ⟨_, rfl⟩
  have hneU : (((eU : Nat) : Int) != 0) = bU := by rw [hbU, hB, ← hh, ← heU]; simp [bne, Int.natCast_eq_zero]; rw [Bool.eq_iff_iff]; simp
  obtain ⟨eP, heP⟩ : ∃ e, e = h &&& 64 := ⟨_, rfl⟩
  have handP : ∀ xo yo, binA Try.prog .and 3 xo yo (.v (.int .i64 (h : Nat))) (.v (.int .i64 64)) = some (.v (.int .i64 (eP : Nat))) := fun xo yo => by rw [heP]; exact binA_andN _ xo yo hlt (by decide)
  obtain ⟨bP, hbP⟩ : ∃ b, b = hB x1 64 := ⟨_, rfl⟩
  have hneP : (((eP : Nat) : Int) != 0) = bP := by rw [hbP, hB, ← hh, ← heP]; simp [bne, Int.natCast_eq_zero]; rw [Bool.eq_iff_iff]; simp
  obtain ⟨eM, heM⟩ : ∃ e, e = h &&& 128 := ⟨_, rfl⟩
  have handM : ∀ xo yo, binA Try.prog .and 3 xo yo (.v (.int .i64 (h : Nat))) (.v (.int .i64 128)) = some (.v (.int .i64 (eM : Nat))) := fun xo yo => by rw [heM]; exact binA_andN _ xo yo hlt (by decide)
  obtain ⟨bM, hbM⟩ : ∃ b, b = hB x1 128 := ⟨_, rfl⟩
  have hneM : (((eM : Nat) : Int) != 0) = bM := by rw [hbM, hB, ← hh, ← heM]; simp [bne, Int.natCast_eq_zero]; rw [Bool.eq_iff_iff]; simp
  obtain ⟨eQ, heQ⟩ : ∃ e, e = h &&& 256 := ⟨_, rfl⟩
  have handQ : ∀ xo yo, binA Try.prog .and 3 xo yo (.v (.int .i64 (h : Nat))) (.v (.int .i64 256)) = some (.v (.int .i64 (eQ : Nat))) := fun xo yo => by rw [heQ]; exact binA_andN _ xo yo hlt (by decide)
  obtain ⟨bQ, hbQ⟩ : ∃ b, b = hB x1 256 := ⟨_, rfl⟩
  have hneQ : (((eQ : Nat) : Int) != 0) = bQ := by rw [hbQ, hB, ← hh, ← heQ]; simp [bne, Int.natCast_eq_zero]; rw [Bool.eq_iff_iff]; simp
  obtain ⟨eJ, heJ⟩ : ∃ e, e = h &&& 512 := ⟨_, rfl⟩
  have handJ : ∀ xo yo, binA Try.prog .and 3 xo yo (.v (.int .i64 (h : Nat))) (.v (.int .i64 512)) = some (.v (.int .i64 (eJ : Nat))) := fun xo yo => by rw [heJ]; exact binA_andN _ xo yo hlt (by decide)
  obtain ⟨bJ, hbJ⟩ : ∃ b, b = hB x1 512 := ⟨_, rfl⟩
  have hneJ : (((eJ : Nat) : Int) != 0) = bJ := by rw [hbJ, hB, ← hh, ← heJ]; simp [bne, Int.natCast_eq_zero]; rw [Bool.eq_iff_iff]; simp
  have heqE : (((eE : Nat) : Int) == 0) = !bE := by rw [← hneE]; simp [bne]
  obtain ⟨A0, hA0⟩ : ∃ A, A = [x1] := ⟨_, rfl⟩
  obtain ⟨AE, hAE⟩ : ∃ A, A = A0 ++ (bif bE then [] else x2 :: (nBytes 8 x3 ++ encL x4)) := ⟨_, rfl⟩
  obtain ⟨AT, hAT⟩ : ∃ A, A = AE ++ (bif bT then [x5] else []) := ⟨_, rfl⟩
  obtain ⟨AVl, hAV⟩ : ∃ A, A = AT ++ (bif bV then [x6] else []) := ⟨_, rfl⟩
  obtain ⟨AO, hAO⟩ : ∃ A, A = AVl ++ (bif bO then [x7] else []) := ⟨_, rfl⟩
  obtain ⟨AN, hAN⟩ : ∃ A, A = AO ++ (bif bN then encN x8.v else []) := ⟨_, rfl⟩
  obtain ⟨AC, hAC⟩ : ∃ A, A = AN ++ (bif bC then encL x9 else []) := ⟨_, rfl⟩
  obtain ⟨AU, hAU⟩ : ∃ A, A = AC ++ (bif bU then UInt8.ofNat x10.length :: encOs x10 else []) := ⟨_, rfl⟩
  obtain ⟨AP, hAP⟩ : ∃ A, A = AU ++ (bif bP then encPl x11 else []) := ⟨_, rfl⟩
  obtain ⟨AM, hAM⟩ : ∃ A, A = AP ++ (bif bM then nBytes 8 x12 else []) := ⟨_, rfl⟩
  obtain ⟨AQ, hAQ⟩ : ∃ A, A = AM ++ (bif bQ then nBytes 2 x13 else []) := ⟨_, rfl⟩
  obtain ⟨AJ, hAJ⟩ : ∃ A, A = AQ ++ (bif bJ then [if x14 then 1 else 0] else []) := ⟨_, rfl⟩
  have hAJ2 : AJ = A := by rw [hA, hAJ, hAQ, hAM, hAP, hAU, hAC, hAN, hAO, hAV, hAT, hAE, hA0]; simp only [encM, ncE, ncT, ncV, ncO, ncN, ncC, ncU, ncP, ncM, ncQ, ncJ, ← hbE, ← hbT, ← hbV, ← hbO, ← hbN, ← hbC, ← hbU, ← hbP, ← hbM, ← hbQ, ← hbJ]; simp
  clear hA hh hbE hbT hbV hbO hbN hbC hbU hbP hbM hbQ hbJ heE heT heV heO heN heC heU heP heM heQ heJ
  have hlen : MB ⟨x1, x2, x3, x4, x5, x6, x7, x8, x9, x10, x11, x12, x13, x14⟩ → A0.length ≤ 1 ∧ AE.length ≤ 290 ∧ AT.length ≤ 291 ∧ AVl.length ≤ 292 ∧ AO.length ≤ 293 ∧ AN.length ≤ 330 ∧ AC.length ≤ 610 ∧ AU.length ≤ 5100 ∧ AP.length ≤ 10000 ∧ AM.length ≤ 10008 ∧ AQ.length ≤ 10010 ∧ AJ.length ≤ 10011 := fun mb => by
    have l4 := right_len mb.fee
    have l9 := right_len mb.c
    have l10 := encOs_len x10 (fun x hx => right_len (mb.out x hx))
    have m10 := mb.outs
    have lE := encL_len l4
    have lC := encL_len l9
    have lN := natBytes_len x8.v 32 (by simpa using x8.h)
    have lP := encPers_len x11.ps (fun x hx => right_len (mb.p.2.2 x hx))
    have lP1 := encL_len (right_len mb.p.1)
    have lP2 := mb.p.2.1
    simp only at l4 l9 l10 m10 lE lC lP lP1 lP2
    have q0 : A0.length ≤ 1 := by rw [hA0]; simp
    have qE : AE.length ≤ 290 := by rw [hAE]; cases bE <;> simp [nBytes_len] <;> omega
    have qT : AT.length ≤ 291 := by rw [hAT]; cases bT <;> simp <;> omega
    have qV : AVl.length ≤ 292 := by rw [hAV]; cases bV <;> simp <;> omega
    have qO : AO.length ≤ 293 := by rw [hAO]; cases bO <;> simp <;> omega
    have qN : AN.length ≤ 330 := by rw [hAN]; cases bN <;> simp [encN] <;> omega
    have qC : AC.length ≤ 610 := by rw [hAC]; cases bC <;> simp <;> omega
    have qU : AU.length ≤ 5100 := by rw [hAU]; cases bU <;> simp <;> omega
    have qP : AP.length ≤ 10000 := by rw [hAP]; cases bP <;> simp [encPl, nBytes_len] <;> omega
    have qM : AM.length ≤ 10008 := by rw [hAM]; cases bM <;> simp [nBytes_len] <;> omega
    have qQ : AQ.length ≤ 10010 := by rw [hAQ]; cases bQ <;> simp [nBytes_len] <;> omega
    have qJ : AJ.length ≤ 10011 := by rw [hAJ]; cases bJ <;> simp <;> omega
    exact ⟨q0, qE, qT, qV, qO, qN, qC, qU, qP, qM, qQ, qJ⟩
  have hpl : MB ⟨x1, x2, x3, x4, x5, x6, x7, x8, x9, x10, x11, x12, x13, x14⟩ → ∀ ⦃τ : St⦄ ⦃id k : Nat⦄ ⦃l B : List UInt8⦄, B = l ++ encPl x11 → τ.objs[id]? = some [wrA k l] → Tk τ.toks k l → l.length ≤ 100000 → CallsA Try.prog 40 [.ptr id 0, .agg (plnC x11)] τ (fun av σ' => av = .tup [] ∧ ∃ k' tk', Wr τ.toks k l tk' k' B ∧ σ' = { τ with objs := τ.objs.set id [wrA k' B], toks := tk' }) :=
    fun mb τ id k l B hB h ht hl => play_ok hB h ht hl h6.1 h6.2.1 (right_len mb.p.1) (by have := mb.p.2.1; simp only at this; omega) (fun x hx => ⟨(h6.2.2.2.2 x hx).1, right_len (mb.p.2.2 x hx)⟩)
  obtain ⟨c, hc⟩ : ∃ c, c = UInt8.ofNat x10.length := ⟨_, rfl⟩
  have hcn : x10.length ≤ 16 → IntKind.u8.wrap (x10.length : Int) = (c.toNat : Int) := fun h => by rw [wrap_u8, hc, toNat_ofNat (by omega), Nat.mod_eq_of_lt (by omega)]
  have hw0 : [AV.sl 0 [] 0 Tail.full] = [wrA 0 []] := rfl
  obtain ⟨xpk, xps, xpe, xpt, xpq⟩ := x11
  simp only [plnC] at hpl
  have F := And.intro handE (And.intro handT (And.intro handV (And.intro handO (And.intro handN (And.intro handC (And.intro handU (And.intro handP (And.intro handM (And.intro handQ (And.intro handJ (And.intro hneE (And.intro hneT (And.intro hneV (And.intro hneO (And.intro hneN (And.intro hneC (And.intro hneU (And.intro hneP (And.intro hneM (And.intro hneQ (And.intro hneJ (And.intro heqE (True.intro)))))))))))))))))))))))
  refine callsA_body Try.func54 rfl rfl rfl ?_; refine sr fun _ hJ2 => ?_; refine hJ2 _ _ ?_; refine sq fun K3 hK3 => ?_; refine sr fun _ hJ5 => ?_; refine ca (c := hmr _) (k := ?_); rintro _ _ ⟨rfl, rfl⟩; (repeat (first | simp [F] | simp (disch := omega) only [wC, if_pos, if_neg])); refine hJ5 _ _ ?_; refine cs (t := !G) (fun c11 => ?_) (fun c11 => ?_)
  · (try exact nope c11); all_goals have c11p := c11; try simp [F] at c11p
    all_goals
     replace F := aF c11 F; (try replace F := aF c11p F); refine sr fun _ hJ7 => ?_; refine hJ7 _ _ ?_; refine run_ret ?_; (try simp only [Then, InBlock, NoGoto]); refine answer_tmp2 rfl (.inr rfl) ?_
     have hGf : G = false := by simpa using c11
     rw [hGf]
     exact gcr (hA := WkL.tup (.cons (Wk.nil _ _ _) (.cons (Wk.refl _) .nil)))
  (try exact nope c11); all_goals have c11p := c11; try simp [F] at c11p
  all_goals
   replace F := aF c11 F; (try replace F := aF c11p F); refine run_skip ?_; refine hK3 _ _ ?_; refine sq fun K8 hK8 => ?_
   have hGt : G = true := by simpa using c11
   obtain ⟨n0, nE, nT, nV, nO, nN, nC, nU, nP, nM, nQ, nJ⟩ := hlen (hb hGt)
   have mb := hb hGt
   have l4 := right_len mb.fee
   have l9 := right_len mb.c
   have l10 := mb.outs
   simp only at l4 l9 l10
   have hcw := hcn l10
   have hpl := hpl mb
   replace F := aF hGt (And.intro hcw F); refine rg' (h := fun J9 hJ9 => ?_); refine ca (c := hhas _) (k := ?_); rintro _ _ ⟨rfl, rfl⟩; (repeat (first | simp [F] | simp (disch := omega) only [wC, if_pos, if_neg])); refine hJ9 _ _ ?_; refine hK8 _ _ ?_; refine sq fun K10 hK10 => ?_; replace F := aF hw0 F; refine rg' (h := fun J11 hJ11 => ?_); refine hJ11 _ _ ?_; refine hK10 _ _ ?_; refine sr fun _ hJ13 => ?_
   refine ca (c := wbyteA (k := 0) (l := []) (A := A0) (by rw [hA0]; rfl) (by simp [F, hw0]) (.inl rfl) (by simp)) (k := ?_)
   rintro _ _ ⟨rfl, k0, tk0, w0, rfl⟩; (repeat (first | simp [F] | simp (disch := omega) only [wC, if_pos, if_neg])); refine hJ13 _ _ ?_; refine sqc (X := Nat × List Nat) [1, 2, 3, 4, 6] (fun qE ρ σ1 => (Wr σ.toks 0 [] qE.2 qE.1 AE) ∧ (σ1 = { σ with objs := σ.objs ++ [[.v (.int .u8 x1.toNat), .v (.int .u8 x2.toNat), .v (.int .u64 x3), .sl 5 (coinsC x4) x4.length .shut, .v (.int .u8 x5.toNat), .v (.int .u8 x6.toNat), .v (.int .u8 x7.toNat), .v (.int .u64 (limb x8.v 0)), .v (.int .u64 (limb x8.v 1)), .v (.int .u64 (limb x8.v 2)), .v (.int .u64 (limb x8.v 3)), .sl 5 (coinsC x9) x9.length .shut, .sl 2 (outsC x10) x10.length .shut, .v (.int .u8 xpk.toNat), .v (.int .u64 xps), .v (.int .u64 xpe), .sl 5 (coinsC xpt) xpt.length .shut, .sl 2 (persC xpq) xpq.length .shut, .v (.int .u64 x12), .v (.int .u16 x13), .v (.bool x14)], [wrA qE.1 AE]], toks := qE.2 })) ?cy14 ?cx14
   case cy14 =>
    rintro qE ρCc26 σ1 hFCc26 ⟨wE, hσ⟩; obtain rfl := hσ.symm
    have fCc26 := keepL hFCc26
    (try simp [KeepL, F] at fCc26); (try replace F := aF fCc26 F); refine sqc (X := Nat × List Nat) [1, 2, 3, 4, 6] (fun qT ρ σ1 => (Wr σ.toks 0 [] qT.2 qT.1 AT) ∧ (σ1 = { σ with objs := σ.objs ++ [[.v (.int .u8 x1.toNat), .v (.int .u8 x2.toNat), .v (.int .u64 x3), .sl 5 (coinsC x4) x4.length .shut, .v (.int .u8 x5.toNat), .v (.int .u8 x6.toNat), .v (.int .u8 x7.toNat), .v (.int .u64 (limb x8.v 0)), .v (.int .u64 (limb x8.v 1)), .v (.int .u64 (limb x8.v 2)), .v (.int .u64 (limb x8.v 3)), .sl 5 (coinsC x9) x9.length .shut, .sl 2 (outsC x10) x10.length .shut, .v (.int .u8 xpk.toNat), .v (.int .u64 xps), .v (.int .u64 xpe), .sl 5 (coinsC xpt) xpt.length .shut, .sl 2 (persC xpq) xpq.length .shut, .v (.int .u64 x12), .v (.int .u16 x13), .v (.bool x14)], [wrA qT.1 AT]], toks := qT.2 })) ?cy15 ?cx15
    case cy15 =>
     rintro qT ρCc39 σ1 hFCc39 ⟨wT, hσ⟩; obtain rfl := hσ.symm
     have fCc39 := keepL hFCc39
     (try simp [KeepL, F] at fCc39); (try replace F := aF fCc39 F); refine sqc (X := Nat × List Nat) [1, 2, 3, 4, 6] (fun qV ρ σ1 => (Wr σ.toks 0 [] qV.2 qV.1 AVl) ∧ (σ1 = { σ with objs := σ.objs ++ [[.v (.int .u8 x1.toNat), .v (.int .u8 x2.toNat), .v (.int .u64 x3), .sl 5 (coinsC x4) x4.length .shut, .v (.int .u8 x5.toNat), .v (.int .u8 x6.toNat), .v (.int .u8 x7.toNat), .v (.int .u64 (limb x8.v 0)), .v (.int .u64 (limb x8.v 1)), .v (.int .u64 (limb x8.v 2)), .v (.int .u64 (limb x8.v 3)), .sl 5 (coinsC x9) x9.length .shut, .sl 2 (outsC x10) x10.length .shut, .v (.int .u8 xpk.toNat), .v (.int .u64 xps), .v (.int .u64 xpe), .sl 5 (coinsC xpt) xpt.length .shut, .sl 2 (persC xpq) xpq.length .shut, .v (.int .u64 x12), .v (.int .u16 x13), .v (.bool x14)], [wrA qV.1 AVl]], toks := qV.2 })) ?cy16 ?cx16
     case cy16 =>
      rintro qV ρCc46 σ1 hFCc46 ⟨wV, hσ⟩; obtain rfl := hσ.symm
      have fCc46 := keepL hFCc46
      (try simp [KeepL, F] at fCc46); (try replace F := aF fCc46 F); refine sqc (X := Nat × List Nat) [1, 2, 3, 4, 6] (fun qO ρ σ1 => (Wr σ.toks 0 [] qO.2 qO.1 AO) ∧ (σ1 = { σ with objs := σ.objs ++ [[.v (.int .u8 x1.toNat), .v (.int .u8 x2.toNat), .v (.int .u64 x3), .sl 5 (coinsC x4) x4.length .shut, .v (.int .u8 x5.toNat), .v (.int .u8 x6.toNat), .v (.int .u8 x7.toNat), .v (.int .u64 (limb x8.v 0)), .v (.int .u64 (limb x8.v 1)), .v (.int .u64 (limb x8.v 2)), .v (.int .u64 (limb x8.v 3)), .sl 5 (coinsC x9) x9.length .shut, .sl 2 (outsC x10) x10.length .shut, .v (.int .u8 xpk.toNat), .v (.int .u64 xps), .v (.int .u64 xpe), .sl 5 (coinsC xpt) xpt.length .shut, .sl 2 (persC xpq) xpq.length .shut, .v (.int .u64 x12), .v (.int .u16 x13), .v (.bool x14)], [wrA qO.1 AO]], toks := qO.2 })) ?cy17 ?cx17
      case cy17 =>
       rintro qO ρCc53 σ1 hFCc53 ⟨wO, hσ⟩; obtain rfl := hσ.symm
       have fCc53 := keepL hFCc53
       (try simp [KeepL, F] at fCc53); (try replace F := aF fCc53 F); refine sqc (X := Nat × List Nat) [1, 2, 3, 4, 6] (fun qN ρ σ1 => (Wr σ.toks 0 [] qN.2 qN.1 AN) ∧ (σ1 = { σ with objs := σ.objs ++ [[.v (.int .u8 x1.toNat), .v (.int .u8 x2.toNat), .v (.int .u64 x3), .sl 5 (coinsC x4) x4.length .shut, .v (.int .u8 x5.toNat), .v (.int .u8 x6.toNat), .v (.int .u8 x7.toNat), .v (.int .u64 (limb x8.v 0)), .v (.int .u64 (limb x8.v 1)), .v (.int .u64 (limb x8.v 2)), .v (.int .u64 (limb x8.v 3)), .sl 5 (coinsC x9) x9.length .shut, .sl 2 (outsC x10) x10.length .shut, .v (.int .u8 xpk.toNat), .v (.int .u64 xps), .v (.int .u64 xpe), .sl 5 (coinsC xpt) xpt.length .shut, .sl 2 (persC xpq) xpq.length .shut, .v (.int .u64 x12), .v (.int .u16 x13), .v (.bool x14)], [wrA qN.1 AN]], toks := qN.2 })) ?cy18 ?cx18
       case cy18 =>
        rintro qN ρCc60 σ1 hFCc60 ⟨wN, hσ⟩; obtain rfl := hσ.symm
        have fCc60 := keepL hFCc60
        (try simp [KeepL, F] at fCc60); (try replace F := aF fCc60 F); refine sqc (X := Nat × List Nat) [1, 2, 3, 4, 6] (fun qC ρ σ1 => (Wr σ.toks 0 [] qC.2 qC.1 AC) ∧ (σ1 = { σ with objs := σ.objs ++ [[.v (.int .u8 x1.toNat), .v (.int .u8 x2.toNat), .v (.int .u64 x3), .sl 5 (coinsC x4) x4.length .shut, .v (.int .u8 x5.toNat), .v (.int .u8 x6.toNat), .v (.int .u8 x7.toNat), .v (.int .u64 (limb x8.v 0)), .v (.int .u64 (limb x8.v 1)), .v (.int .u64 (limb x8.v 2)), .v (.int .u64 (limb x8.v 3)), .sl 5 (coinsC x9) x9.length .shut, .sl 2 (outsC x10) x10.length .shut, .v (.int .u8 xpk.toNat), .v (.int .u64 xps), .v (.int .u64 xpe), .sl 5 (coinsC xpt) xpt.length .shut, .sl 2 (persC xpq) xpq.length .shut, .v (.int .u64 x12), .v (.int .u16 x13), .v (.bool x14)], [wrA qC.1 AC]], toks := qC.2 })) ?cy19 ?cx19
        case cy19 =>
         rintro qC ρCc67 σ1 hFCc67 ⟨wC, hσ⟩; obtain rfl := hσ.symm
         have fCc67 := keepL hFCc67
         (try simp [KeepL, F] at fCc67); (try replace F := aF fCc67 F); refine sqc (X := Nat × List Nat) [1, 2, 3, 4, 6] (fun qU ρ σ1 => (Wr σ.toks 0 [] qU.2 qU.1 AU) ∧ (σ1 = { σ with objs := σ.objs ++ [[.v (.int .u8 x1.toNat), .v (.int .u8 x2.toNat), .v (.int .u64 x3), .sl 5 (coinsC x4) x4.length .shut, .v (.int .u8 x5.toNat), .v (.int .u8 x6.toNat), .v (.int .u8 x7.toNat), .v (.int .u64 (limb x8.v 0)), .v (.int .u64 (limb x8.v 1)), .v (.int .u64 (limb x8.v 2)), .v (.int .u64 (limb x8.v 3)), .sl 5 (coinsC x9) x9.length .shut, .sl 2 (outsC x10) x10.length .shut, .v (.int .u8 xpk.toNat), .v (.int .u64 xps), .v (.int .u64 xpe), .sl 5 (coinsC xpt) xpt.length .shut, .sl 2 (persC xpq) xpq.length .shut, .v (.int .u64 x12), .v (.int .u16 x13), .v (.bool x14)], [wrA qU.1 AU]], toks := qU.2 })) ?cy20 ?cx20
         case cy20 =>
          rintro qU ρCc74 σ1 hFCc74 ⟨wU, hσ⟩; obtain rfl := hσ.symm
          have fCc74 := keepL hFCc74
          (try simp [KeepL, F] at fCc74); (try replace F := aF fCc74 F); refine sqc (X := Nat × List Nat) [1, 2, 3, 4, 6] (fun qP ρ σ1 => (Wr σ.toks 0 [] qP.2 qP.1 AP) ∧ (σ1 = { σ with objs := σ.objs ++ [[.v (.int .u8 x1.toNat), .v (.int .u8 x2.toNat), .v (.int .u64 x3), .sl 5 (coinsC x4) x4.length .shut, .v (.int .u8 x5.toNat), .v (.int .u8 x6.toNat), .v (.int .u8 x7.toNat), .v (.int .u64 (limb x8.v 0)), .v (.int .u64 (limb x8.v 1)), .v (.int .u64 (limb x8.v 2)), .v (.int .u64 (limb x8.v 3)), .sl 5 (coinsC x9) x9.length .shut, .sl 2 (outsC x10) x10.length .shut, .v (.int .u8 xpk.toNat), .v (.int .u64 xps), .v (.int .u64 xpe), .sl 5 (coinsC xpt) xpt.length .shut, .sl 2 (persC xpq) xpq.length .shut, .v (.int .u64 x12), .v (.int .u16 x13), .v (.bool x14)], [wrA qP.1 AP]], toks := qP.2 })) ?cy21 ?cx21
          case cy21 =>
           rintro qP ρCc98 σ1 hFCc98 ⟨wP, hσ⟩; obtain rfl := hσ.symm
           have fCc98 := keepL hFCc98
           (try simp [KeepL, F] at fCc98); (try replace F := aF fCc98 F); refine sqc (X := Nat × List Nat) [1, 2, 3, 4, 6] (fun qM ρ σ1 => (Wr σ.toks 0 [] qM.2 qM.1 AM) ∧ (σ1 = { σ with objs := σ.objs ++ [[.v (.int .u8 x1.toNat), .v (.int .u8 x2.toNat), .v (.int .u64 x3), .sl 5 (coinsC x4) x4.length .shut, .v (.int .u8 x5.toNat), .v (.int .u8 x6.toNat), .v (.int .u8 x7.toNat), .v (.int .u64 (limb x8.v 0)), .v (.int .u64 (limb x8.v 1)), .v (.int .u64 (limb x8.v 2)), .v (.int .u64 (limb x8.v 3)), .sl 5 (coinsC x9) x9.length .shut, .sl 2 (outsC x10) x10.length .shut, .v (.int .u8 xpk.toNat), .v (.int .u64 xps), .v (.int .u64 xpe), .sl 5 (coinsC xpt) xpt.length .shut, .sl 2 (persC xpq) xpq.length .shut, .v (.int .u64 x12), .v (.int .u16 x13), .v (.bool x14)], [wrA qM.1 AM]], toks := qM.2 })) ?cy22 ?cx22
           case cy22 =>
            rintro qM ρCc105 σ1 hFCc105 ⟨wM, hσ⟩; obtain rfl := hσ.symm
            have fCc105 := keepL hFCc105
            (try simp [KeepL, F] at fCc105); (try replace F := aF fCc105 F); refine sqc (X := Nat × List Nat) [1, 2, 3, 4, 6] (fun qQ ρ σ1 => (Wr σ.toks 0 [] qQ.2 qQ.1 AQ) ∧ (σ1 = { σ with objs := σ.objs ++ [[.v (.int .u8 x1.toNat), .v (.int .u8 x2.toNat), .v (.int .u64 x3), .sl 5 (coinsC x4) x4.length .shut, .v (.int .u8 x5.toNat), .v (.int .u8 x6.toNat), .v (.int .u8 x7.toNat), .v (.int .u64 (limb x8.v 0)), .v (.int .u64 (limb x8.v 1)), .v (.int .u64 (limb x8.v 2)), .v (.int .u64 (limb x8.v 3)), .sl 5 (coinsC x9) x9.length .shut, .sl 2 (outsC x10) x10.length .shut, .v (.int .u8 xpk.toNat), .v (.int .u64 xps), .v (.int .u64 xpe), .sl 5 (coinsC xpt) xpt.length .shut, .sl 2 (persC xpq) xpq.length .shut, .v (.int .u64 x12), .v (.int .u16 x13), .v (.bool x14)], [wrA qQ.1 AQ]], toks := qQ.2 })) ?cy23 ?cx23
            case cy23 =>
             rintro qQ ρCc112 σ1 hFCc112 ⟨wQ, hσ⟩; obtain rfl := hσ.symm
             have fCc112 := keepL hFCc112
             (try simp [KeepL, F] at fCc112); (try replace F := aF fCc112 F); refine sqc (X := Nat × List Nat) [2, 3, 6] (fun qJ ρ σ1 => (Wr σ.toks 0 [] qJ.2 qJ.1 AJ) ∧ (σ1 = { σ with objs := σ.objs ++ [[.v (.int .u8 x1.toNat), .v (.int .u8 x2.toNat), .v (.int .u64 x3), .sl 5 (coinsC x4) x4.length .shut, .v (.int .u8 x5.toNat), .v (.int .u8 x6.toNat), .v (.int .u8 x7.toNat), .v (.int .u64 (limb x8.v 0)), .v (.int .u64 (limb x8.v 1)), .v (.int .u64 (limb x8.v 2)), .v (.int .u64 (limb x8.v 3)), .sl 5 (coinsC x9) x9.length .shut, .sl 2 (outsC x10) x10.length .shut, .v (.int .u8 xpk.toNat), .v (.int .u64 xps), .v (.int .u64 xpe), .sl 5 (coinsC xpt) xpt.length .shut, .sl 2 (persC xpq) xpq.length .shut, .v (.int .u64 x12), .v (.int .u16 x13), .v (.bool x14)], [wrA qJ.1 AJ]], toks := qJ.2 })) ?cy24 ?cx24
             case cy24 =>
              rintro qJ ρCc119 σ1 hFCc119 ⟨wJ, hσ⟩; obtain rfl := hσ.symm
              have fCc119 := keepL hFCc119
              (try simp [KeepL, F] at fCc119); (try replace F := aF fCc119 F); refine sq fun K25 hK25 => ?_
              obtain ⟨tm, htm⟩ := wJ.pre
              rw [htm]
              refine rg' (h := fun J26 hJ26 => ?_)
              refine ca (c := mdoneA (l := AJ) (k := qJ.1) (by simp [F]) (by rw [hAJ2]; exact hne) (by omega)) (k := ?_)
              rintro _ _ ⟨rfl, rfl⟩; (repeat (first | simp [F] | simp (disch := omega) only [wC, if_pos, if_neg])); refine hJ26 _ _ ?_; refine hK25 _ _ ?_; refine run_ret ?_; (try simp only [Then, InBlock, NoGoto]); refine answer_tmp2 rfl (.inr rfl) ?_
              rw [← hAJ2, hGt]
              exact gcr (hA := by simp [F]; exact Wk.refl _)
             case cx24 =>
              intro K24 hK24
              refine sr fun _ hJ28 => ?_; refine hJ28 _ _ ?_; refine cs (t := bJ) (fun c119 => ?_) (fun c119 => ?_)
              · (try exact nope c119); all_goals have c119p := c119; try simp [F] at c119p
                all_goals
                 replace F := aF c119 F; try replace F := aF c119p F
                 have hyJ : AJ = AQ ++ ([if x14 then 1 else 0]) := by (rw [hAJ]; have h := c119; (try simp at h); simp [h])
                 refine rg' (h := fun J29 hJ29 => ?_)
                 refine ca (c := wflagA hyJ (by simp [F]) wQ.tok (by omega)) (k := ?_)
                 rintro _ _ ⟨rfl, kJ, tkJ, uJ, rfl⟩; (repeat (first | simp [F] | simp (disch := omega) only [wC, if_pos, if_neg])); refine hJ29 _ _ ?_
                 first | refine hK24 ((kJ, tkJ)) _ _ ⟨kp, ?_, lp⟩ | refine hK24 (qQ) _ _ ⟨kp, ?_, lp⟩
                 · exact wQ.trans uJ
              (try exact nope c119); all_goals have c119p := c119; try simp [F] at c119p
              all_goals
               replace F := aF c119 F; try replace F := aF c119p F
               have hzJ : AJ = AQ := by (rw [hAJ]; have h := c119; (try simp at h); simp [h])
               refine run_skip ?_
               first | refine hK24 ((kJ, tkJ)) _ _ ⟨kp, ?_, ?_⟩ | refine hK24 (qQ) _ _ ⟨kp, ?_, ?_⟩
               · rw [hzJ]
                 exact wQ
               · rw [hzJ]
            case cx23 =>
             intro K23 hK23
             refine sr fun _ hJ31 => ?_; refine hJ31 _ _ ?_; refine cs (t := bQ) (fun c112 => ?_) (fun c112 => ?_)
             · (try exact nope c112); all_goals have c112p := c112; try simp [F] at c112p
               all_goals
                replace F := aF c112 F; try replace F := aF c112p F
                have hyQ : AQ = AM ++ (nBytes 2 x13) := by (rw [hAQ]; have h := c112; (try simp at h); simp [h])
                refine rg' (h := fun J32 hJ32 => ?_)
                refine ca (c := wshortA hyQ (by simp [F]) wM.tok h8 (by omega)) (k := ?_)
                rintro _ _ ⟨rfl, kQ, tkQ, uQ, rfl⟩; (repeat (first | simp [F] | simp (disch := omega) only [wC, if_pos, if_neg])); refine hJ32 _ _ ?_
                first | refine hK23 ((kQ, tkQ)) _ _ ⟨kp, ?_, lp⟩ | refine hK23 (qM) _ _ ⟨kp, ?_, lp⟩
                · exact wM.trans uQ
             (try exact nope c112); all_goals have c112p := c112; try simp [F] at c112p
             all_goals
              replace F := aF c112 F; try replace F := aF c112p F
              have hzQ : AQ = AM := by (rw [hAQ]; have h := c112; (try simp at h); simp [h])
              refine run_skip ?_
              first | refine hK23 ((kQ, tkQ)) _ _ ⟨kp, ?_, ?_⟩ | refine hK23 (qM) _ _ ⟨kp, ?_, ?_⟩
              · rw [hzQ]
                exact wM
              · rw [hzQ]
           case cx22 =>
            intro K22 hK22
            refine sr fun _ hJ34 => ?_; refine hJ34 _ _ ?_; refine cs (t := bM) (fun c105 => ?_) (fun c105 => ?_)
            · (try exact nope c105); all_goals have c105p := c105; try simp [F] at c105p
              all_goals
               replace F := aF c105 F; try replace F := aF c105p F
               have hyM : AM = AP ++ (nBytes 8 x12) := by (rw [hAM]; have h := c105; (try simp at h); simp [h])
               refine rg' (h := fun J35 hJ35 => ?_)
               refine ca (c := wlongA hyM (by simp [F]) wP.tok h7 (by omega)) (k := ?_)
               rintro _ _ ⟨rfl, kM, tkM, uM, rfl⟩; (repeat (first | simp [F] | simp (disch := omega) only [wC, if_pos, if_neg])); refine hJ35 _ _ ?_
               first | refine hK22 ((kM, tkM)) _ _ ⟨kp, ?_, lp⟩ | refine hK22 (qP) _ _ ⟨kp, ?_, lp⟩
               · exact wP.trans uM
            (try exact nope c105); all_goals have c105p := c105; try simp [F] at c105p
            all_goals
             replace F := aF c105 F; try replace F := aF c105p F
             have hzM : AM = AP := by (rw [hAM]; have h := c105; (try simp at h); simp [h])
             refine run_skip ?_
             first | refine hK22 ((kM, tkM)) _ _ ⟨kp, ?_, ?_⟩ | refine hK22 (qP) _ _ ⟨kp, ?_, ?_⟩
             · rw [hzM]
               exact wP
             · rw [hzM]
          case cx21 =>
           intro K21 hK21
           refine sr fun _ hJ37 => ?_; refine hJ37 _ _ ?_; refine cs (t := bP) (fun c98 => ?_) (fun c98 => ?_)
           · (try exact nope c98); all_goals have c98p := c98; try simp [F] at c98p
             all_goals
              replace F := aF c98 F; try replace F := aF c98p F
              have hyP : AP = AU ++ (encPl ⟨xpk, xps, xpe, xpt, xpq⟩) := by (rw [hAP]; have h := c98; (try simp at h); simp [h])
              refine rg' (h := fun J38 hJ38 => ?_)
              refine ca (c := hpl hyP (by simp [F]) wU.tok (by omega)) (k := ?_)
              rintro _ _ ⟨rfl, kP, tkP, uP, rfl⟩; (repeat (first | simp [F] | simp (disch := omega) only [wC, if_pos, if_neg])); refine hJ38 _ _ ?_
              first | refine hK21 ((kP, tkP)) _ _ ⟨kp, ?_, lp⟩ | refine hK21 (qU) _ _ ⟨kp, ?_, lp⟩
              · exact wU.trans uP
           (try exact nope c98); all_goals have c98p := c98; try simp [F] at c98p
           all_goals
            replace F := aF c98 F; try replace F := aF c98p F
            have hzP : AP = AU := by (rw [hAP]; have h := c98; (try simp at h); simp [h])
            refine run_skip ?_
            first | refine hK21 ((kP, tkP)) _ _ ⟨kp, ?_, ?_⟩ | refine hK21 (qU) _ _ ⟨kp, ?_, ?_⟩
            · rw [hzP]
              exact wU
            · rw [hzP]
         case cx20 =>
          intro K20 hK20
          refine sr fun _ hJ40 => ?_; refine hJ40 _ _ ?_; refine cs (t := bU) (fun c74 => ?_) (fun c74 => ?_)
          · (try exact nope c74); all_goals have c74p := c74; try simp [F] at c74p
            all_goals
             replace F := aF c74 F; try replace F := aF c74p F
             have hyU : AU = AC ++ (UInt8.ofNat x10.length :: encOs x10) := by (rw [hAU]; have h := c74; (try simp at h); simp [h])
             obtain ⟨C5, hC5⟩ : ∃ C, C = AC ++ [c] := ⟨_, rfl⟩
             have m5 : C5.length ≤ 611 := by rw [hC5, List.length_append]; simp; omega
             obtain ⟨Bf, hBf⟩ : ∃ Bf : Nat → List UInt8, Bf = fun i => C5 ++ encOs (x10.take i) := ⟨_, rfl⟩
             have hB0 : C5 = Bf 0 := by rw [hBf]; simp [encOs]
             have hBl : ∀ i, i ≤ x10.length → (Bf i).length ≤ 20000 := fun i hi => by (have := encOs_len (x10.take i) (fun x hx => right_len (mb.out x (List.mem_of_mem_take hx))); have e : (x10.take i).length = i := (by simp; omega); rw [hBf]; simp only [List.length_append]; rw [e] at this; omega)
             have hBs : ∀ i (hi : i < x10.length), Bf (i + 1) = Bf i ++ [x10[i].t] ++ encL x10[i].c := fun i hi => by (rw [hBf]; simp only; rw [← List.take_append_getElem hi, encOs_snoc]; simp [encO])
             have hBA : Bf x10.length = AU := by (rw [hyU, hBf]; simp only; rw [List.take_length, hC5, ← hc]; simp)
             refine sr fun _ hJ42 => ?_
             refine ca (c := wbyteA hC5 (by simp [F]) wC.tok (by omega)) (k := ?_)
             rintro _ _ ⟨rfl, kU0, tkU0, uU0, rfl⟩; (repeat (first | simp [F] | simp (disch := omega) only [wC, if_pos, if_neg])); refine hJ42 _ _ ?_; refine sr fun _ hJ44 => ?_; refine hJ44 _ _ ?_; refine run_block_k ?_; refine run_loopG (X := LSt) [1, 2, 3, 4, 6, 82, 83] (fun y ρ σ1 => (y.i ≤ x10.length) ∧ (Wr σ.toks 0 [] y.tk y.k (Bf y.i)) ∧ (ρ 84 = .v (.int .i64 y.i)) ∧ (σ1 = { σ with objs := σ.objs ++ [[.v (.int .u8 x1.toNat), .v (.int .u8 x2.toNat), .v (.int .u64 x3), .sl 5 (coinsC x4) x4.length .shut, .v (.int .u8 x5.toNat), .v (.int .u8 x6.toNat), .v (.int .u8 x7.toNat), .v (.int .u64 (limb x8.v 0)), .v (.int .u64 (limb x8.v 1)), .v (.int .u64 (limb x8.v 2)), .v (.int .u64 (limb x8.v 3)), .sl 5 (coinsC x9) x9.length .shut, .sl 2 (outsC x10) x10.length .shut, .v (.int .u8 xpk.toNat), .v (.int .u64 xps), .v (.int .u64 xpe), .sl 5 (coinsC xpt) xpt.length .shut, .sl 2 (persC xpq) xpq.length .shut, .v (.int .u64 x12), .v (.int .u16 x13), .v (.bool x14)], [wrA y.k (Bf y.i)]], toks := y.tk })) (fun y => x10.length - y.i) (⟨0, kU0, tkU0⟩) ?st1 ?rd1
             case st1 =>
              refine ⟨lp, ?_, lp, ?_⟩
              · rw [← hB0]
                exact wC.trans uU0
              · simp only [← hB0]
             case rd1 =>
              rintro y ρ1 σ1 hF1 ⟨hj, hq, h84, hσ⟩; obtain rfl := hσ.symm
              have f1 := keepL hF1
              (try simp [KeepL, F] at f1); replace F := aF h84 F; (try replace F := aF f1 F); refine sr fun _ hJ46 => ?_; refine hJ46 _ _ ?_; refine sq fun K47 hK47 => ?_; refine cs (fun c85 => ?_) (fun c85 => ?_)
              · (try exact nope c85); all_goals have c85p := c85; try simp [F] at c85p
                all_goals
                 replace F := aF c85 F; (try replace F := aF c85p F); refine run_skip ?_; refine hK47 _ _ ?_; refine sq fun K48 hK48 => ?_; refine run_block_k ?_; refine sq fun K49 hK49 => ?_
                 have hlt2 : y.i < x10.length := by have h := c85; simp at h; omega
                 have hat := outsC_at hlt2
                 have hb1 : y.i * 2 + 2 ≤ x10.length * 2 := by omega
                 have hx5 := right_len (mb.out _ (List.getElem_mem hlt2))
                 have hBs1 := hBs _ hlt2
                 have hBl1 := hBl y.i hj
                 obtain ⟨x, hx⟩ : ∃ x, x = x10[y.i] := ⟨_, rfl⟩
                 rw [← hx] at hat hx5 hBs1
                 obtain ⟨xl, xc⟩ := x
                 simp only at hx5 hBs1
                 obtain ⟨D1, hD1⟩ : ∃ C, C = Bf y.i ++ [xl] := ⟨_, rfl⟩
                 rw [← hD1] at hBs1
                 have nD : D1.length = (Bf y.i).length + 1 := by rw [hD1, List.length_append]; rfl
                 have hwi : IntKind.i64.wrap ((y.i : Int) + 1) = (y.i : Int) + 1 := wrap_i64 _ (by omega) (by omega)
                 replace F := aF hwi F; replace F := aF hlt2 F; replace F := aF hat F; replace F := aF hb1 F; refine rg' (h := fun J50 hJ50 => ?_); refine hJ50 _ _ ?_; refine hK49 _ _ ?_
                 refine run_draw (by kernel_rfl) fun J51 hJ51 => ?_
                 refine rp2 0 (k := ?_); refine rp2 1 (k := ?_); refine rp2 2 (k := ?_); refine rp2 4 (k := ?_); refine rp2 5 (k := ?_)
                 refine dc 3 rfl (c := wbyteA hD1 (by simp [F]) hq.tok (by omega)) (k := ?_)
                 rintro _ _ ⟨rfl, k6, tk6, hw6, rfl⟩
                 refine ⟨by first | exact fun _ _ h => h | (refine later_list [5, 4, 1] (by kernel_rfl) (List.forall_mem_cons.2 ⟨fun _ => fact2 rfl rfl ?_, List.forall_mem_cons.2 ⟨fun _ => fact2 rfl rfl ?_, List.forall_mem_cons.2 ⟨fun _ => fact2 rfl rfl ?_, fun _ h => absurd h List.not_mem_nil⟩⟩⟩) <;> constructor <;> first | rfl | (simp [F]; done)), ?_⟩
                 repeat (first | simp [F] | simp (disch := omega) only [wC, if_pos, if_neg])
                 refine dc 6 rfl (c := wcoinsA hBs1 (by simp [F]) hw6.tok (by omega) (by omega)) (k := ?_)
                 rintro _ _ ⟨rfl, k7, tk7, hw7, rfl⟩
                 refine ⟨by first | exact fun _ _ h => h | (refine later_list [4, 1] (by kernel_rfl) (List.forall_mem_cons.2 ⟨fun _ => fact2 rfl rfl ?_, List.forall_mem_cons.2 ⟨fun _ => fact2 rfl rfl ?_, fun _ h => absurd h List.not_mem_nil⟩⟩) <;> constructor <;> first | rfl | (simp [F]; done)), ?_⟩
                 (repeat (first | simp [F] | simp (disch := omega) only [wC, if_pos, if_neg])); refine dd ?_; refine hJ51 _ _ ?_; refine hK48 _ _ ?_; refine rg' (h := fun J52 hJ52 => ?_); refine hJ52 _ _ ?_; refine ⟨gk, (⟨y.i + 1, k7, tk7⟩), ⟨kpG, lpG, ?_, lpG, ?_⟩, lpG⟩
                 · exact (hq.trans hw6).trans hw7
                 · simp [St.trimO, F]
              (try exact nope c85); all_goals have c85p := c85; try simp [F] at c85p
              all_goals
               replace F := aF c85 F; try replace F := aF c85p F
               have hii : y.i = x10.length := by have h := c85; simp at h; omega
               rw [hii, hBA] at hq
               rw [hii, hBA]
               refine run_exit ?_
               first | refine hK20 ((y.k, y.tk)) _ _ ⟨kp, ?_, lp⟩ | refine hK20 (qC) _ _ ⟨kp, ?_, lp⟩
               · exact hq
          (try exact nope c74); all_goals have c74p := c74; try simp [F] at c74p
          all_goals
           replace F := aF c74 F; try replace F := aF c74p F
           have hzU : AU = AC := by (rw [hAU]; have h := c74; (try simp at h); simp [h])
           refine run_skip ?_
           first | refine hK20 ((y.k, y.tk)) _ _ ⟨kp, ?_, ?_⟩ | refine hK20 (qC) _ _ ⟨kp, ?_, ?_⟩
           · rw [hzU]
             exact wC
           · rw [hzU]
        case cx19 =>
         intro K19 hK19
         refine sr fun _ hJ54 => ?_; refine hJ54 _ _ ?_; refine cs (t := bC) (fun c67 => ?_) (fun c67 => ?_)
         · (try exact nope c67); all_goals have c67p := c67; try simp [F] at c67p
           all_goals
            replace F := aF c67 F; try replace F := aF c67p F
            have hyC : AC = AN ++ (encL x9) := by (rw [hAC]; have h := c67; (try simp at h); simp [h])
            refine rg' (h := fun J55 hJ55 => ?_)
            refine ca (c := wcoinsA hyC (by simp [F]) wN.tok (by omega) (by omega)) (k := ?_)
            rintro _ _ ⟨rfl, kC, tkC, uC, rfl⟩; (repeat (first | simp [F] | simp (disch := omega) only [wC, if_pos, if_neg])); refine hJ55 _ _ ?_
            first | refine hK19 ((kC, tkC)) _ _ ⟨kp, ?_, lp⟩ | refine hK19 (qN) _ _ ⟨kp, ?_, lp⟩
            · exact wN.trans uC
         (try exact nope c67); all_goals have c67p := c67; try simp [F] at c67p
         all_goals
          replace F := aF c67 F; try replace F := aF c67p F
          have hzC : AC = AN := by (rw [hAC]; have h := c67; (try simp at h); simp [h])
          refine run_skip ?_
          first | refine hK19 ((kC, tkC)) _ _ ⟨kp, ?_, ?_⟩ | refine hK19 (qN) _ _ ⟨kp, ?_, ?_⟩
          · rw [hzC]
            exact wN
          · rw [hzC]
       case cx18 =>
        intro K18 hK18
        refine sr fun _ hJ57 => ?_; refine hJ57 _ _ ?_; refine cs (t := bN) (fun c60 => ?_) (fun c60 => ?_)
        · (try exact nope c60); all_goals have c60p := c60; try simp [F] at c60p
          all_goals
           replace F := aF c60 F; try replace F := aF c60p F
           have hyN : AN = AO ++ (encN x8.v) := by (rw [hAN]; have h := c60; (try simp at h); simp [h])
           refine rg' (h := fun J58 hJ58 => ?_)
           refine ca (c := wnumA hyN (by simp [F]) wO.tok x8.h (by omega)) (k := ?_)
           rintro _ _ ⟨rfl, kN, tkN, uN, rfl⟩; (repeat (first | simp [F] | simp (disch := omega) only [wC, if_pos, if_neg])); refine hJ58 _ _ ?_
           first | refine hK18 ((kN, tkN)) _ _ ⟨kp, ?_, lp⟩ | refine hK18 (qO) _ _ ⟨kp, ?_, lp⟩
           · exact wO.trans uN
        (try exact nope c60); all_goals have c60p := c60; try simp [F] at c60p
        all_goals
         replace F := aF c60 F; try replace F := aF c60p F
         have hzN : AN = AO := by (rw [hAN]; have h := c60; (try simp at h); simp [h])
         refine run_skip ?_
         first | refine hK18 ((kN, tkN)) _ _ ⟨kp, ?_, ?_⟩ | refine hK18 (qO) _ _ ⟨kp, ?_, ?_⟩
         · rw [hzN]
           exact wO
         · rw [hzN]
      case cx17 =>
       intro K17 hK17
       refine sr fun _ hJ60 => ?_; refine hJ60 _ _ ?_; refine cs (t := bO) (fun c53 => ?_) (fun c53 => ?_)
       · (try exact nope c53); all_goals have c53p := c53; try simp [F] at c53p
         all_goals
          replace F := aF c53 F; try replace F := aF c53p F
          have hyO : AO = AVl ++ ([x7]) := by (rw [hAO]; have h := c53; (try simp at h); simp [h])
          refine rg' (h := fun J61 hJ61 => ?_)
          refine ca (c := wbyteA hyO (by simp [F]) wV.tok (by omega)) (k := ?_)
          rintro _ _ ⟨rfl, kO, tkO, uO, rfl⟩; (repeat (first | simp [F] | simp (disch := omega) only [wC, if_pos, if_neg])); refine hJ61 _ _ ?_
          first | refine hK17 ((kO, tkO)) _ _ ⟨kp, ?_, lp⟩ | refine hK17 (qV) _ _ ⟨kp, ?_, lp⟩
          · exact wV.trans uO
       (try exact nope c53); all_goals have c53p := c53; try simp [F] at c53p
       all_goals
        replace F := aF c53 F; try replace F := aF c53p F
        have hzO : AO = AVl := by (rw [hAO]; have h := c53; (try simp at h); simp [h])
        refine run_skip ?_
        first | refine hK17 ((kO, tkO)) _ _ ⟨kp, ?_, ?_⟩ | refine hK17 (qV) _ _ ⟨kp, ?_, ?_⟩
        · rw [hzO]
          exact wV
        · rw [hzO]
     case cx16 =>
      intro K16 hK16
      refine sr fun _ hJ63 => ?_; refine hJ63 _ _ ?_; refine cs (t := bV) (fun c46 => ?_) (fun c46 => ?_)
      · (try exact nope c46); all_goals have c46p := c46; try simp [F] at c46p
        all_goals
         replace F := aF c46 F; try replace F := aF c46p F
         have hyV : AVl = AT ++ ([x6]) := by (rw [hAV]; have h := c46; (try simp at h); simp [h])
         refine rg' (h := fun J64 hJ64 => ?_)
         refine ca (c := wbyteA hyV (by simp [F]) wT.tok (by omega)) (k := ?_)
         rintro _ _ ⟨rfl, kV, tkV, uV, rfl⟩; (repeat (first | simp [F] | simp (disch := omega) only [wC, if_pos, if_neg])); refine hJ64 _ _ ?_
         first | refine hK16 ((kV, tkV)) _ _ ⟨kp, ?_, lp⟩ | refine hK16 (qT) _ _ ⟨kp, ?_, lp⟩
         · exact wT.trans uV
      (try exact nope c46); all_goals have c46p := c46; try simp [F] at c46p
      all_goals
       replace F := aF c46 F; try replace F := aF c46p F
       have hzV : AVl = AT := by (rw [hAV]; have h := c46; (try simp at h); simp [h])
       refine run_skip ?_
       first | refine hK16 ((kV, tkV)) _ _ ⟨kp, ?_, ?_⟩ | refine hK16 (qT) _ _ ⟨kp, ?_, ?_⟩
       · rw [hzV]
         exact wT
       · rw [hzV]
    case cx15 =>
     intro K15 hK15
     refine sr fun _ hJ66 => ?_; refine hJ66 _ _ ?_; refine cs (t := bT) (fun c39 => ?_) (fun c39 => ?_)
     · (try exact nope c39); all_goals have c39p := c39; try simp [F] at c39p
       all_goals
        replace F := aF c39 F; try replace F := aF c39p F
        have hyT : AT = AE ++ ([x5]) := by (rw [hAT]; have h := c39; (try simp at h); simp [h])
        refine rg' (h := fun J67 hJ67 => ?_)
        refine ca (c := wbyteA hyT (by simp [F]) wE.tok (by omega)) (k := ?_)
        rintro _ _ ⟨rfl, kT, tkT, uT, rfl⟩; (repeat (first | simp [F] | simp (disch := omega) only [wC, if_pos, if_neg])); refine hJ67 _ _ ?_
        first | refine hK15 ((kT, tkT)) _ _ ⟨kp, ?_, lp⟩ | refine hK15 (qE) _ _ ⟨kp, ?_, lp⟩
        · exact wE.trans uT
     (try exact nope c39); all_goals have c39p := c39; try simp [F] at c39p
     all_goals
      replace F := aF c39 F; try replace F := aF c39p F
      have hzT : AT = AE := by (rw [hAT]; have h := c39; (try simp at h); simp [h])
      refine run_skip ?_
      first | refine hK15 ((kT, tkT)) _ _ ⟨kp, ?_, ?_⟩ | refine hK15 (qE) _ _ ⟨kp, ?_, ?_⟩
      · rw [hzT]
        exact wE
      · rw [hzT]
   case cx14 =>
    intro K14 hK14
    refine sr fun _ hJ69 => ?_; refine hJ69 _ _ ?_; refine cs (t := !bE) (fun c26 => ?_) (fun c26 => ?_)
    · (try exact nope c26); all_goals have c26p := c26; try simp [F] at c26p
      all_goals
       replace F := aF c26 F; try replace F := aF c26p F
       have hyE : AE = A0 ++ (x2 :: (nBytes 8 x3 ++ encL x4)) := by (rw [hAE]; have h := c26; (try simp at h); simp [h])
       obtain ⟨C1, hC1⟩ : ∃ C, C = A0 ++ [x2] := ⟨_, rfl⟩
       obtain ⟨C2, hC2⟩ : ∃ C, C = C1 ++ nBytes 8 x3 := ⟨_, rfl⟩
       have hC3 : AE = C2 ++ encL x4 := by rw [hyE, hC2, hC1]; simp
       have m1 : C1.length ≤ 2 := by rw [hC1]; simp; omega
       have m2 : C2.length ≤ 10 := by rw [hC2, List.length_append, nBytes_len]; omega
       refine run_draw (by kernel_rfl) fun J70 hJ70 => ?_
       refine rp2 0 (k := ?_); refine rp2 1 (k := ?_); refine rp2 2 (k := ?_); refine rp2 4 (k := ?_); refine rp2 5 (k := ?_); refine rp2 7 (k := ?_); refine rp2 8 (k := ?_)
       refine dc 3 rfl (c := wbyteA hC1 (by simp [F]) w0.tok (by omega)) (k := ?_)
       rintro _ _ ⟨rfl, kE1, tkE1, u1, rfl⟩
       refine ⟨by first | exact fun _ _ h => h | (refine later_list [8, 7, 5, 4, 1] (by kernel_rfl) (List.forall_mem_cons.2 ⟨fun _ => fact2 rfl rfl ?_, List.forall_mem_cons.2 ⟨fun _ => fact2 rfl rfl ?_, List.forall_mem_cons.2 ⟨fun _ => fact2 rfl rfl ?_, List.forall_mem_cons.2 ⟨fun _ => fact2 rfl rfl ?_, List.forall_mem_cons.2 ⟨fun _ => fact2 rfl rfl ?_, fun _ h => absurd h List.not_mem_nil⟩⟩⟩⟩⟩) <;> constructor <;> first | rfl | (simp [F]; done)), ?_⟩
       repeat (first | simp [F] | simp (disch := omega) only [wC, if_pos, if_neg])
       refine dc 6 rfl (c := wlongA hC2 (by simp [F]) u1.tok h1 (by omega)) (k := ?_)
       rintro _ _ ⟨rfl, kE2, tkE2, u2, rfl⟩
       refine ⟨by first | exact fun _ _ h => h | (refine later_list [8, 7, 4, 1] (by kernel_rfl) (List.forall_mem_cons.2 ⟨fun _ => fact2 rfl rfl ?_, List.forall_mem_cons.2 ⟨fun _ => fact2 rfl rfl ?_, List.forall_mem_cons.2 ⟨fun _ => fact2 rfl rfl ?_, List.forall_mem_cons.2 ⟨fun _ => fact2 rfl rfl ?_, fun _ h => absurd h List.not_mem_nil⟩⟩⟩⟩) <;> constructor <;> first | rfl | (simp [F]; done)), ?_⟩
       repeat (first | simp [F] | simp (disch := omega) only [wC, if_pos, if_neg])
       refine dc 9 rfl (c := wcoinsA hC3 (by simp [F]) u2.tok (by omega) (by omega)) (k := ?_)
       rintro _ _ ⟨rfl, kE, tkE, u3, rfl⟩
       refine ⟨by first | exact fun _ _ h => h | (refine later_list [7, 4, 1] (by kernel_rfl) (List.forall_mem_cons.2 ⟨fun _ => fact2 rfl rfl ?_, List.forall_mem_cons.2 ⟨fun _ => fact2 rfl rfl ?_, List.forall_mem_cons.2 ⟨fun _ => fact2 rfl rfl ?_, fun _ h => absurd h List.not_mem_nil⟩⟩⟩) <;> constructor <;> first | rfl | (simp [F]; done)), ?_⟩
       (repeat (first | simp [F] | simp (disch := omega) only [wC, if_pos, if_neg])); refine dd ?_; refine hJ70 _ _ ?_
       first | refine hK14 ((kE, tkE)) _ _ ⟨kp, ?_, lp⟩ | refine hK14 ((k0, tk0)) _ _ ⟨kp, ?_, lp⟩
       · exact ((w0.trans u1).trans u2).trans u3
    (try exact nope c26); all_goals have c26p := c26; try simp [F] at c26p
    all_goals
     replace F := aF c26 F; try replace F := aF c26p F
     have hzE : AE = A0 := by (rw [hAE]; have h := c26; (try simp at h); simp [h])
     refine run_skip ?_
     first | refine hK14 ((kE, tkE)) _ _ ⟨kp, ?_, ?_⟩ | refine hK14 ((k0, tk0)) _ _ ⟨kp, ?_, ?_⟩
     · rw [hzE]
       exact w0
     · rw [hzE]

set_option maxHeartbeats 1600000 in
attribute [local simp] undefA List.getElem?_cons_zero List.getElem?_cons_succ msgC outC outsC_noObj persC_noObj in
theorem rmbytes_ok {σ : St} {m : Msg} (hm : m.Ok) (mb : MB m) (hk : hasK m.k = true) :
    CallsA Try.prog 56 [.agg (msgC m)] σ (fun av σ' => av = .sl 1 (bytesA (encM m)) (encM m).length .shut ∧ σ = σ') := by
  refine callsA_gcS ?_ (by simp [AV.under])
  obtain ⟨h1, h2, h3, h4, h5, h6, h7, h8⟩ := hm
  obtain ⟨A, hA⟩ : ∃ A, A = encM m := ⟨_, rfl⟩
  rw [← hA]
  rw [hasK_iff] at hk
  have hk := of_decide_eq_true hk
  have l4 := right_len mb.fee
  have l9 := right_len mb.c
  have l10 := mb.outs
  have lP := encPers_len m.p.ps (fun x hx => right_len (mb.p.2.2 x hx))
  have lP1 := encL_len (right_len mb.p.1)
  have lP2 := mb.p.2.1
  have hpl := fun σ => rbytesP_ok (σ := σ) h6.1 h6.2.1 (right_len mb.p.1) (by have := mb.p.2.1; omega) (fun x hx => ⟨(h6.2.2.2.2 x hx).1, right_len (mb.p.2.2 x hx)⟩)
  have hout := mb.out
  have nP : (encPl m.p).length ≤ 6000 := by simp only [encPl, List.length_cons, List.length_append, nBytes_len]; omega
  obtain ⟨EP, hEP⟩ : ∃ E, E = encPl m.p := ⟨_, rfl⟩
  rw [← hEP] at hpl nP
  obtain ⟨x1, x2, x3, x4, x5, x6, x7, x8, x9, x10, x11, x12, x13, x14⟩ := m
  simp only at h1 h2 h3 h4 h5 h6 h7 h8 hk l4 l9 l10 hout hEP
  have lE := encL_len l4
  have lC := encL_len l9
  have lN : (encN x8.v).length ≤ 33 := by have := natBytes_len x8.v 32 (by simpa using x8.h); simp [encN]; omega
  clear lP lP1 lP2 mb
  have hkn : ∀ n : UInt8, x1 = n ↔ (x1.toNat : Int) = (n.toNat : Int) := fun n => ⟨fun e => by rw [e], fun e => UInt8.toNat_inj.1 (Int.ofNat_inj.1 e)⟩
  obtain ⟨c, hc⟩ : ∃ c, c = UInt8.ofNat x10.length := ⟨_, rfl⟩
  have hcw : IntKind.u8.wrap (x10.length : Int) = (c.toNat : Int) := by rw [wrap_u8, hc, toNat_ofNat (by omega), Nat.mod_eq_of_lt (by omega)]
  have hwp : IntKind.u64.wrap (x13 : Int) = (x13 : Int) := wrap_u64c (by omega)
  obtain ⟨B74, hB74⟩ : ∃ b, b = (decide (x1 = 3) || decide (x1 = 4)) := ⟨_, rfl⟩
  obtain ⟨B101, hB101⟩ : ∃ b, b = (decide (x1 = 6) || decide (x1 = 7) || decide (x1 = 11) || decide (x1 = 35)) := ⟨_, rfl⟩
  obtain ⟨B111, hB111⟩ : ∃ b, b = (decide (x1 = 8) || decide (x1 = 10)) := ⟨_, rfl⟩
  have b1 : ∀ b : UInt8, bytesA [b] = [.v (.int .u8 b.toNat)] := fun _ => rfl
  have b2 : ∀ b d : UInt8, bytesA [b, d] = [.v (.int .u8 b.toNat), .v (.int .u8 d.toNat)] := fun _ _ => rfl
  obtain ⟨xpk, xps, xpe, xpt, xpq⟩ := x11
  simp only [plnC] at hpl
  have hdr2 : ∀ f : Nat → AV, List.drop 2 (List.map f (List.range 2)) = [] := fun _ => rfl
  have F := And.intro hcw (And.intro hwp (And.intro hdr2 (True.intro)))
  refine callsA_body Try.func56 rfl rfl rfl ?_; refine sr fun _ hJ2 => ?_; refine hJ2 _ _ ?_; refine sr fun _ hJ4 => ?_; refine hJ4 _ _ ?_; refine sq fun K5 hK5 => ?_; refine sr fun _ hJ7 => ?_; refine hJ7 _ _ ?_; refine cs (fun c10 => ?_) (fun c10 => ?_)
  · (try exact nope c10); all_goals have c10p := c10; try simp [F] at c10p
    all_goals
     replace F := aF c10 F; try replace F := aF c10p F
     have hlt32 : x1.toNat < 32 := by have h := c10; simp at h; omega
     have z32 : ((x1.toNat : Int) == 32) = false := by simp; omega
     have z33 : ((x1.toNat : Int) == 33) = false := by simp; omega
     have z34 : ((x1.toNat : Int) == 34) = false := by simp; omega
     have z35 : ((x1.toNat : Int) == 35) = false := by simp; omega
     have z36 : ((x1.toNat : Int) == 36) = false := by simp; omega
     replace F := aF z32 (And.intro z33 (And.intro z34 (And.intro z35 (And.intro z36 F))))
     obtain ⟨C1, hC1⟩ : ∃ L, L = x1 :: [x2] := ⟨_, rfl⟩
     have nC1 : C1.length ≤ 2 := by rw [hC1]; simp only [List.length_append, List.length_cons, List.length_nil, nBytes_len]; omega
     obtain ⟨C2, hC2⟩ : ∃ L, L = C1 ++ nBytes 8 x3 := ⟨_, rfl⟩
     have nC2 : C2.length ≤ 10 := by rw [hC2]; simp only [List.length_append, List.length_cons, List.length_nil, nBytes_len]; omega
     obtain ⟨C3, hC3⟩ : ∃ L, L = C2 ++ encL x4 := ⟨_, rfl⟩
     have nC3 : C3.length ≤ 283 := by rw [hC3]; simp only [List.length_append, List.length_cons, List.length_nil, nBytes_len]; omega
     obtain ⟨D5, hD5⟩ : ∃ L, L = C3 ++ [x5] := ⟨_, rfl⟩
     have nD5 : D5.length ≤ 284 := by rw [hD5]; simp only [List.length_append, List.length_cons, List.length_nil, nBytes_len]; omega
     obtain ⟨D5c, hD5c⟩ : ∃ L, L = D5 ++ encL x9 := ⟨_, rfl⟩
     have nD5c : D5c.length ≤ 557 := by rw [hD5c]; simp only [List.length_append, List.length_cons, List.length_nil, nBytes_len]; omega
     obtain ⟨D5p, hD5p⟩ : ∃ L, L = D5 ++ EP := ⟨_, rfl⟩
     have nD5p : D5p.length ≤ 6284 := by rw [hD5p]; simp only [List.length_append, List.length_cons, List.length_nil, nBytes_len]; omega
     obtain ⟨D6, hD6⟩ : ∃ L, L = C3 ++ [x6] := ⟨_, rfl⟩
     have nD6 : D6.length ≤ 284 := by rw [hD6]; simp only [List.length_append, List.length_cons, List.length_nil, nBytes_len]; omega
     obtain ⟨D6n, hD6n⟩ : ∃ L, L = D6 ++ encN x8.v := ⟨_, rfl⟩
     have nD6n : D6n.length ≤ 317 := by rw [hD6n]; simp only [List.length_append, List.length_cons, List.length_nil, nBytes_len]; omega
     obtain ⟨D67, hD67⟩ : ∃ L, L = C3 ++ [x6, x7] := ⟨_, rfl⟩
     have nD67 : D67.length ≤ 285 := by rw [hD67]; simp only [List.length_append, List.length_cons, List.length_nil, nBytes_len]; omega
     obtain ⟨D67n, hD67n⟩ : ∃ L, L = D67 ++ encN x8.v := ⟨_, rfl⟩
     have nD67n : D67n.length ≤ 318 := by rw [hD67n]; simp only [List.length_append, List.length_cons, List.length_nil, nBytes_len]; omega
     obtain ⟨Dc, hDc⟩ : ∃ L, L = C3 ++ [c] := ⟨_, rfl⟩
     have nDc : Dc.length ≤ 284 := by rw [hDc]; simp only [List.length_append, List.length_cons, List.length_nil, nBytes_len]; omega
     have q3 := fun objs => ap0 (m := 1) (tq := .full) (objs := objs) (tk := σ.toks) (gl := σ.gl) (rows := σ.rows) hC1 rfl (by omega)
     have q4 := fun objs => apO (m := 8) (tq := .shut) (objs := objs) (tk := σ.toks) (gl := σ.gl) (rows := σ.rows) hC2 (nBytes_len 8 x3) (by omega) (by omega)
     have q5 := fun objs => apO (m := (encL x4).length) (tq := .shut) (objs := objs) (tk := σ.toks) (gl := σ.gl) (rows := σ.rows) hC3 rfl (by omega) (by omega)
     have q8 := fun objs => apO (m := 1) (tq := .full) (objs := objs) (tk := σ.toks) (gl := σ.gl) (rows := σ.rows) hD5 rfl (by omega) (by omega)
     have q9 := fun objs => apO (m := (encL x9).length) (tq := .shut) (objs := objs) (tk := σ.toks) (gl := σ.gl) (rows := σ.rows) hD5c rfl (by omega) (by omega)
     have q34 := fun objs => apO (m := EP.length) (tq := .shut) (objs := objs) (tk := σ.toks) (gl := σ.gl) (rows := σ.rows) hD5p rfl (by omega) (by omega)
     have q28 := fun objs => apO (m := 1) (tq := .full) (objs := objs) (tk := σ.toks) (gl := σ.gl) (rows := σ.rows) hD6 rfl (by omega) (by omega)
     have q20 := fun objs => apO (m := (encN x8.v).length) (tq := .shut) (objs := objs) (tk := σ.toks) (gl := σ.gl) (rows := σ.rows) hD6n rfl (by omega) (by omega)
     have q22 := fun objs => apO (m := 2) (tq := .full) (objs := objs) (tk := σ.toks) (gl := σ.gl) (rows := σ.rows) hD67 rfl (by omega) (by omega)
     have q23 := fun objs => apO (m := (encN x8.v).length) (tq := .shut) (objs := objs) (tk := σ.toks) (gl := σ.gl) (rows := σ.rows) hD67n rfl (by omega) (by omega)
     have q11 := fun objs => apO (m := 1) (tq := .full) (objs := objs) (tk := σ.toks) (gl := σ.gl) (rows := σ.rows) hDc rfl (by omega) (by omega)
     simp only [b1] at q3 q8 q28 q11
     simp only [b2] at q22
     obtain ⟨tkX, htkX⟩ : ∃ T, T = [C3.length] := ⟨_, rfl⟩
     refine sq fun K8 hK8 => ?_; replace F := aF q3 F; refine rg' (h := fun J9 hJ9 => ?_); refine hJ9 _ _ ?_; refine hK8 _ _ ?_; refine sq fun K10 hK10 => ?_; replace F := aF q4 F; refine rg' (h := fun J11 hJ11 => ?_)
     refine ca (c := rlong_ok (size := 8) h1 (by omega)) (k := ?_)
     rintro _ _ ⟨rfl, rfl⟩; (repeat (first | simp [F] | simp (disch := omega) only [wC, if_pos, if_neg])); refine hJ11 _ _ ?_; refine hK10 _ _ ?_; replace F := aF q5 F; refine rg' (h := fun J12 hJ12 => ?_)
     refine ca (c := rcoinsW_ok (L := x4) (by omega)) (k := ?_)
     rintro _ _ ⟨rfl, rfl⟩; (repeat (first | simp [F] | simp (disch := omega) only [wC, if_pos, if_neg])); refine hJ12 _ _ ?_; refine hK5 _ _ ?_; refine sq fun K13 hK13 => ?_; refine sr fun _ hJ15 => ?_; refine hJ15 _ _ ?_; refine run_block_k ?_; refine sr fun _ hJ17 => ?_; refine hJ17 _ _ ?_; refine cs (fun c28 => ?_) (fun c28 => ?_)
     · (try exact nope c28); all_goals have c28p := c28; try simp [F] at c28p
       all_goals
        replace F := aF c28 F; (try replace F := aF c28p F); refine sq fun K18 hK18 => ?_; replace F := aF htkX F; replace F := aF q8 F; refine rg' (h := fun J19 hJ19 => ?_); refine hJ19 _ _ ?_; refine hK18 _ _ ?_; replace F := aF htkX F; replace F := aF q9 F; refine rg' (h := fun J20 hJ20 => ?_)
        refine ca (c := rcoinsW_ok (L := x9) (by omega)) (k := ?_)
        rintro _ _ ⟨rfl, rfl⟩; (repeat (first | simp [F] | simp (disch := omega) only [wC, if_pos, if_neg])); refine hJ20 _ _ ?_; refine hK13 _ _ ?_; refine sr fun _ hJ22 => ?_; refine hJ22 _ _ ?_; refine ra ?_
        have hk2 : x1 = 1 := (hkn 1).2 (by simpa using c28)
        have hv : hasN x1 = 17 := by rw [hk2]; decide
        have hX : D5c = A := by (rw [hA]; simp [encM, ncE, ncT, ncV, ncO, ncN, ncC, ncU, ncP, ncM, ncQ, ncJ, hB, hv, hD5c, hD5, hC3, hC2, hC1])
        rw [← hX]
        exact gcr (hA := by simp [F]; exact Wk.shut _ _ _ _)
     (try exact nope c28); all_goals have c28p := c28; try simp [F] at c28p
     all_goals
      replace F := aF c28 F; (try replace F := aF c28p F); refine sr fun _ hJ24 => ?_; refine hJ24 _ _ ?_; refine cs (fun c40 => ?_) (fun c40 => ?_)
      · (try exact nope c40); all_goals have c40p := c40; try simp [F] at c40p
        all_goals
         replace F := aF c40 F; try replace F := aF c40p F
         obtain ⟨Bf, hBf⟩ : ∃ Bf : Nat → List UInt8, Bf = fun i => Dc ++ encOs (x10.take i) := ⟨_, rfl⟩
         have hB0 : Bf 0 = Dc := by rw [hBf]; simp [encOs]
         have hBl : ∀ i, i ≤ x10.length → (Bf i).length ≤ 20000 := fun i hi => by (have := encOs_len (x10.take i) (fun x hx => right_len (hout x (List.mem_of_mem_take hx))); have e : (x10.take i).length = i := (by simp; omega); rw [hBf]; simp only [List.length_append]; rw [e] at this; omega)
         have hBs : ∀ i (hi : i < x10.length), Bf (i + 1) = Bf i ++ [x10[i].t] ++ encL x10[i].c := fun i hi => by (rw [hBf]; simp only; rw [← List.take_append_getElem hi, encOs_snoc]; simp [encO])
         have hBA : Bf x10.length = Dc ++ encOs x10 := by (rw [hBf]; simp only; rw [List.take_length])
         refine sq fun K25 hK25 => ?_; replace F := aF htkX F; replace F := aF q11 F; refine rg' (h := fun J26 hJ26 => ?_); refine hJ26 _ _ ?_; refine hK25 _ _ ?_; refine sr fun _ hJ28 => ?_; refine hJ28 _ _ ?_; refine run_block_k ?_; refine run_loopF (X := Nat) [1, 2] (fun i ρ σ1 => (i ≤ x10.length) ∧ (ρ 3 = .sl 1 (bytesA (Bf i)) (Bf i).length (.own σ.toks.length)) ∧ (ρ 4 = .v (.int .i64 i)) ∧ (σ1 = { σ with objs := σ.objs ++ [[.v (.int .u8 x1.toNat), .v (.int .u8 x2.toNat), .v (.int .u64 x3), .sl 5 (coinsC x4) x4.length .shut, .v (.int .u8 x5.toNat), .v (.int .u8 x6.toNat), .v (.int .u8 x7.toNat), .v (.int .u64 (limb x8.v 0)), .v (.int .u64 (limb x8.v 1)), .v (.int .u64 (limb x8.v 2)), .v (.int .u64 (limb x8.v 3)), .sl 5 (coinsC x9) x9.length .shut, .sl 2 (outsC x10) x10.length .shut, .v (.int .u8 xpk.toNat), .v (.int .u64 xps), .v (.int .u64 xpe), .sl 5 (coinsC xpt) xpt.length .shut, .sl 2 (persC xpq) xpq.length .shut, .v (.int .u64 x12), .v (.int .u16 x13), .v (.bool x14)]], toks := σ.toks ++ [(Bf i).length] })) (fun i => x10.length - i) (0) ?st1 ?rd1
         case st1 =>
          refine ⟨lp, ?_, lp, ?_⟩
          · simp [hB0]
          · simp [hB0, F]
         case rd1 =>
          rintro i ρ1 σ1 hF1 ⟨hj, h3p, h4i, hσ⟩; obtain rfl := hσ.symm
          have f1 := keepL hF1
          (try simp [KeepL, F] at f1); replace F := aF h3p F; replace F := aF h4i F; (try replace F := aF f1 F); refine sq fun K29 hK29 => ?_; refine sr fun _ hJ31 => ?_; refine hJ31 _ _ ?_; refine cs (fun c53 => ?_) (fun c53 => ?_)
          · (try exact nope c53); all_goals have c53p := c53; try simp [F] at c53p
            all_goals
             replace F := aF c53 F; (try replace F := aF c53p F); refine run_skip ?_; refine hK29 _ _ ?_; refine sq fun K32 hK32 => ?_; refine run_block_k ?_; refine sq fun K33 hK33 => ?_
             have hlt2 : i < x10.length := by have h := c53; simp at h; omega
             have hat := outsC_at hlt2
             have hq1 : i * 2 + 2 ≤ x10.length * 2 := by omega
             have hx5 := right_len (hout _ (List.getElem_mem hlt2))
             have hBs1 := hBs _ hlt2
             have hBl1 := hBl i hj
             obtain ⟨x, hx⟩ : ∃ x, x = x10[i] := ⟨_, rfl⟩
             rw [← hx] at hat hx5 hBs1
             obtain ⟨xl, xc⟩ := x
             simp only at hx5 hBs1
             obtain ⟨E1, hE1⟩ : ∃ C, C = Bf i ++ [xl] := ⟨_, rfl⟩
             rw [← hE1] at hBs1
             have nE : E1.length = (Bf i).length + 1 := by rw [hE1, List.length_append]; rfl
             have nx := encL_len hx5
             have hwi : IntKind.i64.wrap ((i : Int) + 1) = (i : Int) + 1 := wrap_i64 _ (by omega) (by omega)
             have q15 := fun objs => apO (m := 1) (tq := .full) (objs := objs) (tk := σ.toks) (gl := σ.gl) (rows := σ.rows) hE1 rfl (by omega) (by omega)
             simp only [b1] at q15
             have q16 := fun objs => apO (m := (encL xc).length) (tq := .shut) (objs := objs) (tk := σ.toks) (gl := σ.gl) (rows := σ.rows) hBs1 rfl (by omega) (by omega)
             replace F := aF hwi (And.intro hlt2 (And.intro hat (And.intro hq1 F))); replace F := aF q15 F; refine rg' (h := fun J34 hJ34 => ?_); refine hJ34 _ _ ?_; refine hK33 _ _ ?_; replace F := aF q16 F; refine rg' (h := fun J35 hJ35 => ?_)
             refine ca (c := rcoinsW_ok (L := xc) (by omega)) (k := ?_)
             rintro _ _ ⟨rfl, rfl⟩; (repeat (first | simp [F] | simp (disch := omega) only [wC, if_pos, if_neg])); refine hJ35 _ _ ?_; refine hK32 _ _ ?_; refine rg' (h := fun J36 hJ36 => ?_); refine hJ36 _ _ ?_; refine ⟨(i + 1), ⟨kp, lp, lp, lp, lp⟩, lp⟩
          (try exact nope c53); all_goals have c53p := c53; try simp [F] at c53p
          all_goals
           replace F := aF c53 F; (try replace F := aF c53p F); refine run_exit ?_; refine hK13 _ _ ?_; refine sr fun _ hJ38 => ?_; refine hJ38 _ _ ?_; refine ra ?_
           have hk2 : x1 = 2 := (hkn 2).2 (by simpa using c40)
           have hv : hasN x1 = 32 := by rw [hk2]; decide
           have hX : (Dc ++ encOs x10) = A := by (rw [hA]; simp [encM, ncE, ncT, ncV, ncO, ncN, ncC, ncU, ncP, ncM, ncQ, ncJ, hB, hv, hDc, ← hc, hC3, hC2, hC1])
           have hii : i = x10.length := (by have h := c53; simp at h; omega)
           rw [hii, hBA] at h3p ⊢
           rw [← hX]
           rw [hX] at h3p
           exact gcr (hA := by simp [h3p]; exact Wk.shut _ _ _ _)
      (try exact nope c40); all_goals have c40p := c40; try simp [F] at c40p
      all_goals
       replace F := aF c40 F; (try replace F := aF c40p F); refine sqc (X := Unit) [1, 2, 3, 27] (fun z ρ σ1 => (ρ 74 = .v (.bool B74)) ∧ (σ1 = { σ with objs := σ.objs ++ [[.v (.int .u8 x1.toNat), .v (.int .u8 x2.toNat), .v (.int .u64 x3), .sl 5 (coinsC x4) x4.length .shut, .v (.int .u8 x5.toNat), .v (.int .u8 x6.toNat), .v (.int .u8 x7.toNat), .v (.int .u64 (limb x8.v 0)), .v (.int .u64 (limb x8.v 1)), .v (.int .u64 (limb x8.v 2)), .v (.int .u64 (limb x8.v 3)), .sl 5 (coinsC x9) x9.length .shut, .sl 2 (outsC x10) x10.length .shut, .v (.int .u8 xpk.toNat), .v (.int .u64 xps), .v (.int .u64 xpe), .sl 5 (coinsC xpt) xpt.length .shut, .sl 2 (persC xpq) xpq.length .shut, .v (.int .u64 x12), .v (.int .u16 x13), .v (.bool x14)]], toks := σ.toks ++ tkX })) ?cy39 ?cx39
       case cy39 =>
        rintro z ρCc74 σ1 hFCc74 ⟨h74, hσ⟩; obtain rfl := hσ.symm
        have fCc74 := keepL hFCc74
        (try simp [KeepL, F] at fCc74); replace F := aF h74 F; (try replace F := aF fCc74 F); refine cs (t := B74) (fun c74 => ?_) (fun c74 => ?_)
        · (try exact nope c74); all_goals have c74p := c74; try simp [F] at c74p
          all_goals
           replace F := aF c74 F; (try replace F := aF c74p F); refine sq fun K40 hK40 => ?_; replace F := aF htkX F; replace F := aF q28 F; refine rg' (h := fun J41 hJ41 => ?_); refine hJ41 _ _ ?_; refine hK40 _ _ ?_; replace F := aF htkX F; replace F := aF q20 F; refine rg' (h := fun J42 hJ42 => ?_); refine ca (c := rnum_ok x8.h) (k := ?_); rintro _ _ ⟨rfl, rfl⟩; (repeat (first | simp [F] | simp (disch := omega) only [wC, if_pos, if_neg])); refine hJ42 _ _ ?_; refine hK13 _ _ ?_; refine sr fun _ hJ44 => ?_; refine hJ44 _ _ ?_; refine ra ?_
           have hk2 : x1 = 3 ∨ x1 = 4 := by rw [hB74] at c74; simpa using c74
           have hv : hasN x1 = 10 := by rcases hk2 with e | e <;> (rw [e]; decide)
           have hX : D6n = A := by (rw [hA]; simp [encM, ncE, ncT, ncV, ncO, ncN, ncC, ncU, ncP, ncM, ncQ, ncJ, hB, hv, hD6n, hD6, hC3, hC2, hC1])
           rw [← hX]
           exact gcr (hA := by simp [F]; exact Wk.shut _ _ _ _)
        (try exact nope c74); all_goals have c74p := c74; try simp [F] at c74p
        all_goals
         replace F := aF c74 F; (try replace F := aF c74p F); refine sr fun _ hJ46 => ?_; refine hJ46 _ _ ?_; refine cs (fun c87 => ?_) (fun c87 => ?_)
         · (try exact nope c87); all_goals have c87p := c87; try simp [F] at c87p
           all_goals
            replace F := aF c87 F; (try replace F := aF c87p F); refine sq fun K47 hK47 => ?_; replace F := aF htkX F; replace F := aF q22 F; refine rg' (h := fun J48 hJ48 => ?_); refine hJ48 _ _ ?_; refine hK47 _ _ ?_; replace F := aF htkX F; replace F := aF q23 F; refine rg' (h := fun J49 hJ49 => ?_); refine ca (c := rnum_ok x8.h) (k := ?_); rintro _ _ ⟨rfl, rfl⟩; (repeat (first | simp [F] | simp (disch := omega) only [wC, if_pos, if_neg])); refine hJ49 _ _ ?_; refine hK13 _ _ ?_; refine sr fun _ hJ51 => ?_; refine hJ51 _ _ ?_; refine ra ?_
            have hk2 : x1 = 5 := (hkn 5).2 (by simpa using c87)
            have hv : hasN x1 = 14 := by rw [hk2]; decide
            have hX : D67n = A := by (rw [hA]; simp [encM, ncE, ncT, ncV, ncO, ncN, ncC, ncU, ncP, ncM, ncQ, ncJ, hB, hv, hD67n, hD67, hC3, hC2, hC1])
            rw [← hX]
            exact gcr (hA := by simp [F]; exact Wk.shut _ _ _ _)
         (try exact nope c87); all_goals have c87p := c87; try simp [F] at c87p
         all_goals
          replace F := aF c87 F; (try replace F := aF c87p F); refine sqc (X := Unit) [1, 2, 3, 27] (fun z ρ σ1 => (ρ 101 = .v (.bool B101)) ∧ (σ1 = { σ with objs := σ.objs ++ [[.v (.int .u8 x1.toNat), .v (.int .u8 x2.toNat), .v (.int .u64 x3), .sl 5 (coinsC x4) x4.length .shut, .v (.int .u8 x5.toNat), .v (.int .u8 x6.toNat), .v (.int .u8 x7.toNat), .v (.int .u64 (limb x8.v 0)), .v (.int .u64 (limb x8.v 1)), .v (.int .u64 (limb x8.v 2)), .v (.int .u64 (limb x8.v 3)), .sl 5 (coinsC x9) x9.length .shut, .sl 2 (outsC x10) x10.length .shut, .v (.int .u8 xpk.toNat), .v (.int .u64 xps), .v (.int .u64 xpe), .sl 5 (coinsC xpt) xpt.length .shut, .sl 2 (persC xpq) xpq.length .shut, .v (.int .u64 x12), .v (.int .u16 x13), .v (.bool x14)]], toks := σ.toks ++ tkX })) ?cy52 ?cx52
          case cy52 =>
           rintro z ρCc101 σ1 hFCc101 ⟨h101, hσ⟩; obtain rfl := hσ.symm
           have fCc101 := keepL hFCc101
           (try simp [KeepL, F] at fCc101); replace F := aF h101 F; (try replace F := aF fCc101 F); refine cs (t := B101) (fun c101 => ?_) (fun c101 => ?_)
           · (try exact nope c101); all_goals have c101p := c101; try simp [F] at c101p
             all_goals
              replace F := aF c101 F; (try replace F := aF c101p F); replace F := aF htkX F; replace F := aF q28 F; refine rg' (h := fun J53 hJ53 => ?_); refine hJ53 _ _ ?_; refine hK13 _ _ ?_; refine sr fun _ hJ55 => ?_; refine hJ55 _ _ ?_; refine ra ?_
              have hk2 : ((x1 = 6 ∨ x1 = 7) ∨ x1 = 11) ∨ x1 = 35 := by rw [hB101] at c101; simpa using c101
              have hv : hasN x1 = 2 := by rcases hk2 with ((e | e) | e) | e <;> first | (rw [e]; decide) | (exfalso; rw [e] at z35; simp at z35)
              have hX : D6 = A := by (rw [hA]; simp [encM, ncE, ncT, ncV, ncO, ncN, ncC, ncU, ncP, ncM, ncQ, ncJ, hB, hv, hD6, hC3, hC2, hC1])
              rw [← hX]
              exact gcr (hA := by simp [F]; exact Wk.shut _ _ _ _)
           (try exact nope c101); all_goals have c101p := c101; try simp [F] at c101p
           all_goals
            replace F := aF c101 F; (try replace F := aF c101p F); refine sqc (X := Unit) [1, 2, 3, 27] (fun z ρ σ1 => (ρ 111 = .v (.bool B111)) ∧ (σ1 = { σ with objs := σ.objs ++ [[.v (.int .u8 x1.toNat), .v (.int .u8 x2.toNat), .v (.int .u64 x3), .sl 5 (coinsC x4) x4.length .shut, .v (.int .u8 x5.toNat), .v (.int .u8 x6.toNat), .v (.int .u8 x7.toNat), .v (.int .u64 (limb x8.v 0)), .v (.int .u64 (limb x8.v 1)), .v (.int .u64 (limb x8.v 2)), .v (.int .u64 (limb x8.v 3)), .sl 5 (coinsC x9) x9.length .shut, .sl 2 (outsC x10) x10.length .shut, .v (.int .u8 xpk.toNat), .v (.int .u64 xps), .v (.int .u64 xpe), .sl 5 (coinsC xpt) xpt.length .shut, .sl 2 (persC xpq) xpq.length .shut, .v (.int .u64 x12), .v (.int .u16 x13), .v (.bool x14)]], toks := σ.toks ++ tkX })) ?cy56 ?cx56
            case cy56 =>
             rintro z ρCc111 σ1 hFCc111 ⟨h111, hσ⟩; obtain rfl := hσ.symm
             have fCc111 := keepL hFCc111
             (try simp [KeepL, F] at fCc111); replace F := aF h111 F; (try replace F := aF fCc111 F); refine cs (t := B111) (fun c111 => ?_) (fun c111 => ?_)
             · (try exact nope c111); all_goals have c111p := c111; try simp [F] at c111p
               all_goals
                replace F := aF c111 F; (try replace F := aF c111p F); replace F := aF htkX F; replace F := aF q8 F; refine rg' (h := fun J57 hJ57 => ?_); refine hJ57 _ _ ?_; refine hK13 _ _ ?_; refine sr fun _ hJ59 => ?_; refine hJ59 _ _ ?_; refine ra ?_
                have hk2 : x1 = 8 ∨ x1 = 10 := by rw [hB111] at c111; simpa using c111
                have hv : hasN x1 = 1 := by rcases hk2 with e | e <;> (rw [e]; decide)
                have hX : D5 = A := by (rw [hA]; simp [encM, ncE, ncT, ncV, ncO, ncN, ncC, ncU, ncP, ncM, ncQ, ncJ, hB, hv, hD5, hC3, hC2, hC1])
                rw [← hX]
                exact gcr (hA := by simp [F]; exact Wk.shut _ _ _ _)
             (try exact nope c111); all_goals have c111p := c111; try simp [F] at c111p
             all_goals
              replace F := aF c111 F; (try replace F := aF c111p F); refine sr fun _ hJ61 => ?_; refine hJ61 _ _ ?_; refine cs (fun c119 => ?_) (fun c119 => ?_)
              · (try exact nope c119); all_goals have c119p := c119; try simp [F] at c119p
                all_goals
                 replace F := aF c119 F; (try replace F := aF c119p F); refine sq fun K62 hK62 => ?_; replace F := aF htkX F; replace F := aF q8 F; refine rg' (h := fun J63 hJ63 => ?_); refine hJ63 _ _ ?_; refine hK62 _ _ ?_; replace F := aF htkX F; replace F := aF q34 F; refine rg' (h := fun J64 hJ64 => ?_); refine ca (c := hpl _) (k := ?_); rintro _ _ ⟨rfl, rfl⟩; (repeat (first | simp [F] | simp (disch := omega) only [wC, if_pos, if_neg])); refine hJ64 _ _ ?_; refine hK13 _ _ ?_; refine sr fun _ hJ66 => ?_; refine hJ66 _ _ ?_; refine ra ?_
                 have hk2 : x1 = 9 := (hkn 9).2 (by simpa using c119)
                 have hv : hasN x1 = 65 := by rw [hk2]; decide
                 have hX : D5p = A := by (rw [hA]; simp [encM, ncE, ncT, ncV, ncO, ncN, ncC, ncU, ncP, ncM, ncQ, ncJ, hB, hv, hD5p, hD5, hEP, hC3, hC2, hC1])
                 rw [← hX]
                 exact gcr (hA := by simp [F]; exact Wk.shut _ _ _ _)
              (try exact nope c119); all_goals have c119p := c119; try simp [F] at c119p
              all_goals
               replace F := aF c119 F; (try replace F := aF c119p F); refine sr fun _ hJ68 => ?_; refine hJ68 _ _ ?_; refine cf ?_; refine sr fun _ hJ70 => ?_; refine hJ70 _ _ ?_; refine cf ?_; refine sr fun _ hJ72 => ?_; refine hJ72 _ _ ?_; refine cf ?_; refine run_skip ?_; refine hK13 _ _ ?_; refine sr fun _ hJ74 => ?_; refine hJ74 _ _ ?_; refine ra ?_
               exfalso
               have a1 := c28
               have a2 := c40
               have a3 := c74
               have a4 := c87
               have a5 := c101
               have a6 := c111
               have a7 := c119
               rw [hB74] at a3
               rw [hB101] at a5
               rw [hB111] at a6
               simp [hkn] at a1 a2 a3 a4 a5 a6 a7
               omega
            case cx56 =>
             intro K56 hK56
             refine sr fun _ hJ76 => ?_; refine hJ76 _ _ ?_; refine cs (fun c111 => ?_) (fun c111 => ?_)
             · (try exact nope c111); all_goals have c111p := c111; try simp [F] at c111p
               all_goals
                replace F := aF c111 F; (try replace F := aF c111p F); refine run_skip ?_; refine hK56 (()) _ _ ⟨kp, ?_, ?_⟩
                · rw [hB111]
                  simp [hkn, F]
                  all_goals try (first | omega | rfl | (rw [Bool.eq_iff_iff]; simp; omega))
                · simp [htkX]
             (try exact nope c111); all_goals have c111p := c111; try simp [F] at c111p
             all_goals
              replace F := aF c111 F; (try replace F := aF c111p F); refine rg' (h := fun J77 hJ77 => ?_); refine hJ77 _ _ ?_; refine hK56 (()) _ _ ⟨kp, ?_, ?_⟩
              · rw [hB111]
                simp [hkn, F]
                all_goals try (first | omega | rfl | (rw [Bool.eq_iff_iff]; simp; omega))
              · simp [htkX]
          case cx52 =>
           intro K52 hK52
           refine sr fun _ hJ79 => ?_; refine hJ79 _ _ ?_; refine cs (fun c101 => ?_) (fun c101 => ?_)
           · (try exact nope c101); all_goals have c101p := c101; try simp [F] at c101p
             all_goals
              replace F := aF c101 F; (try replace F := aF c101p F); refine run_skip ?_; refine hK52 (()) _ _ ⟨kp, ?_, ?_⟩
              · rw [hB101]
                simp [hkn, F]
                all_goals try (first | omega | rfl | (rw [Bool.eq_iff_iff]; simp; omega))
              · simp [htkX]
           (try exact nope c101); all_goals have c101p := c101; try simp [F] at c101p
           all_goals
            replace F := aF c101 F; (try replace F := aF c101p F); refine sr fun _ hJ81 => ?_; refine hJ81 _ _ ?_; refine cs (fun c101 => ?_) (fun c101 => ?_)
            · (try exact nope c101); all_goals have c101p := c101; try simp [F] at c101p
              all_goals
               replace F := aF c101 F; (try replace F := aF c101p F); refine run_skip ?_; refine hK52 (()) _ _ ⟨kp, ?_, ?_⟩
               · rw [hB101]
                 simp [hkn, F]
                 all_goals try (first | omega | rfl | (rw [Bool.eq_iff_iff]; simp; omega))
               · simp [htkX]
            (try exact nope c101); all_goals have c101p := c101; try simp [F] at c101p
            all_goals
             replace F := aF c101 F; (try replace F := aF c101p F); refine sr fun _ hJ83 => ?_; refine hJ83 _ _ ?_; refine cs (fun c101 => ?_) (fun c101 => ?_)
             · (try exact nope c101); all_goals have c101p := c101; try simp [F] at c101p
               all_goals
                replace F := aF c101 F; (try replace F := aF c101p F); refine run_skip ?_; refine hK52 (()) _ _ ⟨kp, ?_, ?_⟩
                · rw [hB101]
                  simp [hkn, F]
                  all_goals try (first | omega | rfl | (rw [Bool.eq_iff_iff]; simp; omega))
                · simp [htkX]
             (try exact nope c101); all_goals have c101p := c101; try simp [F] at c101p
             all_goals
              replace F := aF c101 F; (try replace F := aF c101p F); refine rg' (h := fun J84 hJ84 => ?_); refine hJ84 _ _ ?_; refine hK52 (()) _ _ ⟨kp, ?_, ?_⟩
              · rw [hB101]
                simp [hkn, F]
                all_goals try (first | omega | rfl | (rw [Bool.eq_iff_iff]; simp; omega))
              · simp [htkX]
       case cx39 =>
        intro K39 hK39
        refine sr fun _ hJ86 => ?_; refine hJ86 _ _ ?_; refine cs (fun c74 => ?_) (fun c74 => ?_)
        · (try exact nope c74); all_goals have c74p := c74; try simp [F] at c74p
          all_goals
           replace F := aF c74 F; (try replace F := aF c74p F); refine run_skip ?_; refine hK39 (()) _ _ ⟨kp, ?_, ?_⟩
           · rw [hB74]
             simp [hkn, F]
             all_goals try (first | omega | rfl | (rw [Bool.eq_iff_iff]; simp; omega))
           · simp [htkX]
        (try exact nope c74); all_goals have c74p := c74; try simp [F] at c74p
        all_goals
         replace F := aF c74 F; (try replace F := aF c74p F); refine rg' (h := fun J87 hJ87 => ?_); refine hJ87 _ _ ?_; refine hK39 (()) _ _ ⟨kp, ?_, ?_⟩
         · rw [hB74]
           simp [hkn, F]
           all_goals try (first | omega | rfl | (rw [Bool.eq_iff_iff]; simp; omega))
         · simp [htkX]
  (try exact nope c10); all_goals have c10p := c10; try simp [F] at c10p
  all_goals
   replace F := aF c10 F; try replace F := aF c10p F
   have hge32 : 32 ≤ x1.toNat := by have h := c10; simp at h; omega
   have z1 : ((x1.toNat : Int) == 1) = false := by simp; omega
   have z2 : ((x1.toNat : Int) == 2) = false := by simp; omega
   have z3 : ((x1.toNat : Int) == 3) = false := by simp; omega
   have z4 : ((x1.toNat : Int) == 4) = false := by simp; omega
   have z5 : ((x1.toNat : Int) == 5) = false := by simp; omega
   have z6 : ((x1.toNat : Int) == 6) = false := by simp; omega
   have z7 : ((x1.toNat : Int) == 7) = false := by simp; omega
   have z8 : ((x1.toNat : Int) == 8) = false := by simp; omega
   have z9 : ((x1.toNat : Int) == 9) = false := by simp; omega
   have z10 : ((x1.toNat : Int) == 10) = false := by simp; omega
   have z11 : ((x1.toNat : Int) == 11) = false := by simp; omega
   have f74 : B74 = false := by rw [hB74]; simp [hkn]; omega
   have f111 : B111 = false := by rw [hB111]; simp [hkn]; omega
   replace F := aF f74 (And.intro f111 F); replace F := aF z1 (And.intro z2 (And.intro z3 (And.intro z4 (And.intro z5 (And.intro z6 (And.intro z7 (And.intro z8 (And.intro z9 (And.intro z10 (And.intro z11 F))))))))))
   obtain ⟨G12, hG12⟩ : ∃ L, L = x1 :: nBytes 8 x12 := ⟨_, rfl⟩
   have nG12 : G12.length ≤ 9 := by rw [hG12]; simp only [List.length_append, List.length_cons, List.length_nil, nBytes_len]; omega
   obtain ⟨D6, hD6⟩ : ∃ L, L = x1 :: [x6] := ⟨_, rfl⟩
   have nD6 : D6.length ≤ 2 := by rw [hD6]; simp only [List.length_append, List.length_cons, List.length_nil, nBytes_len]; omega
   obtain ⟨G8, hG8⟩ : ∃ L, L = D6 ++ nBytes 8 x12 := ⟨_, rfl⟩
   have nG8 : G8.length ≤ 10 := by rw [hG8]; simp only [List.length_append, List.length_cons, List.length_nil, nBytes_len]; omega
   obtain ⟨G9, hG9⟩ : ∃ L, L = G8 ++ nBytes 2 x13 := ⟨_, rfl⟩
   have nG9 : G9.length ≤ 12 := by rw [hG9]; simp only [List.length_append, List.length_cons, List.length_nil, nBytes_len]; omega
   obtain ⟨G10, hG10⟩ : ∃ L, L = G9 ++ [if x14 then 1 else 0] := ⟨_, rfl⟩
   have nG10 : G10.length ≤ 13 := by rw [hG10]; simp only [List.length_append, List.length_cons, List.length_nil, nBytes_len]; omega
   obtain ⟨G4, hG4⟩ : ∃ L, L = D6 ++ encL x9 := ⟨_, rfl⟩
   have nG4 : G4.length ≤ 275 := by rw [hG4]; simp only [List.length_append, List.length_cons, List.length_nil, nBytes_len]; omega
   have q36 := fun objs => ap0 (m := 8) (tq := .shut) (objs := objs) (tk := σ.toks) (gl := σ.gl) (rows := σ.rows) hG12 (nBytes_len 8 x12) (by omega)
   have q28 := fun objs => ap0 (m := 1) (tq := .full) (objs := objs) (tk := σ.toks) (gl := σ.gl) (rows := σ.rows) hD6 rfl (by omega)
   have q39 := fun objs => apO (m := 8) (tq := .shut) (objs := objs) (tk := σ.toks) (gl := σ.gl) (rows := σ.rows) hG8 (nBytes_len 8 x12) (by omega) (by omega)
   have q40 := fun objs => apO (m := 2) (tq := .shut) (objs := objs) (tk := σ.toks) (gl := σ.gl) (rows := σ.rows) hG9 (nBytes_len 2 x13) (by omega) (by omega)
   have q41 := fun objs => apO (m := 1) (tq := .full) (objs := objs) (tk := σ.toks) (gl := σ.gl) (rows := σ.rows) hG10 rfl (by omega) (by omega)
   have q44 := fun objs => apO (m := (encL x9).length) (tq := .shut) (objs := objs) (tk := σ.toks) (gl := σ.gl) (rows := σ.rows) hG4 rfl (by omega) (by omega)
   simp only [b1] at q28
   obtain ⟨tkX, htkX⟩ : ∃ T, T = ([] : List Nat) := ⟨_, rfl⟩
   refine run_skip ?_; refine hK5 _ _ ?_; refine sq fun K88 hK88 => ?_; refine sr fun _ hJ90 => ?_; refine hJ90 _ _ ?_; refine run_block_k ?_; refine sr fun _ hJ92 => ?_; refine hJ92 _ _ ?_; refine cf ?_; refine sr fun _ hJ94 => ?_; refine hJ94 _ _ ?_; refine cf ?_; refine sqc (X := Unit) [1, 2, 3, 27] (fun z ρ σ1 => (ρ 74 = .v (.bool B74)) ∧ (σ1 = { σ with objs := σ.objs ++ [[.v (.int .u8 x1.toNat), .v (.int .u8 x2.toNat), .v (.int .u64 x3), .sl 5 (coinsC x4) x4.length .shut, .v (.int .u8 x5.toNat), .v (.int .u8 x6.toNat), .v (.int .u8 x7.toNat), .v (.int .u64 (limb x8.v 0)), .v (.int .u64 (limb x8.v 1)), .v (.int .u64 (limb x8.v 2)), .v (.int .u64 (limb x8.v 3)), .sl 5 (coinsC x9) x9.length .shut, .sl 2 (outsC x10) x10.length .shut, .v (.int .u8 xpk.toNat), .v (.int .u64 xps), .v (.int .u64 xpe), .sl 5 (coinsC xpt) xpt.length .shut, .sl 2 (persC xpq) xpq.length .shut, .v (.int .u64 x12), .v (.int .u16 x13), .v (.bool x14)]], toks := σ.toks ++ tkX })) ?cy95 ?cx95
   case cy95 =>
    rintro z ρCc74 σ1 hFCc74 ⟨h74, hσ⟩; obtain rfl := hσ.symm
    have fCc74 := keepL hFCc74
    (try simp [KeepL, F] at fCc74); replace F := aF h74 F; (try replace F := aF fCc74 F); refine cf ?_; refine sr fun _ hJ97 => ?_; refine hJ97 _ _ ?_; refine cf ?_; refine sqc (X := Unit) [1, 2, 3, 27] (fun z ρ σ1 => (ρ 101 = .v (.bool B101)) ∧ (σ1 = { σ with objs := σ.objs ++ [[.v (.int .u8 x1.toNat), .v (.int .u8 x2.toNat), .v (.int .u64 x3), .sl 5 (coinsC x4) x4.length .shut, .v (.int .u8 x5.toNat), .v (.int .u8 x6.toNat), .v (.int .u8 x7.toNat), .v (.int .u64 (limb x8.v 0)), .v (.int .u64 (limb x8.v 1)), .v (.int .u64 (limb x8.v 2)), .v (.int .u64 (limb x8.v 3)), .sl 5 (coinsC x9) x9.length .shut, .sl 2 (outsC x10) x10.length .shut, .v (.int .u8 xpk.toNat), .v (.int .u64 xps), .v (.int .u64 xpe), .sl 5 (coinsC xpt) xpt.length .shut, .sl 2 (persC xpq) xpq.length .shut, .v (.int .u64 x12), .v (.int .u16 x13), .v (.bool x14)]], toks := σ.toks ++ tkX })) ?cy98 ?cx98
    case cy98 =>
     rintro z ρCc101 σ1 hFCc101 ⟨h101, hσ⟩; obtain rfl := hσ.symm
     have fCc101 := keepL hFCc101
     (try simp [KeepL, F] at fCc101); replace F := aF h101 F; (try replace F := aF fCc101 F); refine cs (t := B101) (fun c101 => ?_) (fun c101 => ?_)
     · (try exact nope c101); all_goals have c101p := c101; try simp [F] at c101p
       all_goals
        replace F := aF c101 F; (try replace F := aF c101p F); replace F := aF htkX F; replace F := aF q28 F; refine rg' (h := fun J99 hJ99 => ?_); refine hJ99 _ _ ?_; refine hK88 _ _ ?_; refine sr fun _ hJ101 => ?_; refine hJ101 _ _ ?_; refine ra ?_
        have hk2 : ((x1 = 6 ∨ x1 = 7) ∨ x1 = 11) ∨ x1 = 35 := by rw [hB101] at c101; simpa using c101
        have hv : hasN x1 = 1026 := by rcases hk2 with ((e | e) | e) | e <;> first | (exfalso; rw [e] at hge32; simp at hge32; done) | (rw [e]; decide)
        have hX : D6 = A := by (rw [hA]; simp [encM, ncE, ncT, ncV, ncO, ncN, ncC, ncU, ncP, ncM, ncQ, ncJ, hB, hv, hD6])
        rw [← hX]
        exact gcr (hA := by simp [F]; exact Wk.shut _ _ _ _)
     (try exact nope c101); all_goals have c101p := c101; try simp [F] at c101p
     all_goals
      replace F := aF c101 F; (try replace F := aF c101p F); refine sqc (X := Unit) [1, 2, 3, 27] (fun z ρ σ1 => (ρ 111 = .v (.bool B111)) ∧ (σ1 = { σ with objs := σ.objs ++ [[.v (.int .u8 x1.toNat), .v (.int .u8 x2.toNat), .v (.int .u64 x3), .sl 5 (coinsC x4) x4.length .shut, .v (.int .u8 x5.toNat), .v (.int .u8 x6.toNat), .v (.int .u8 x7.toNat), .v (.int .u64 (limb x8.v 0)), .v (.int .u64 (limb x8.v 1)), .v (.int .u64 (limb x8.v 2)), .v (.int .u64 (limb x8.v 3)), .sl 5 (coinsC x9) x9.length .shut, .sl 2 (outsC x10) x10.length .shut, .v (.int .u8 xpk.toNat), .v (.int .u64 xps), .v (.int .u64 xpe), .sl 5 (coinsC xpt) xpt.length .shut, .sl 2 (persC xpq) xpq.length .shut, .v (.int .u64 x12), .v (.int .u16 x13), .v (.bool x14)]], toks := σ.toks ++ tkX })) ?cy102 ?cx102
      case cy102 =>
       rintro z ρCc111 σ1 hFCc111 ⟨h111, hσ⟩; obtain rfl := hσ.symm
       have fCc111 := keepL hFCc111
       (try simp [KeepL, F] at fCc111); replace F := aF h111 F; (try replace F := aF fCc111 F); refine cf ?_; refine sr fun _ hJ104 => ?_; refine hJ104 _ _ ?_; refine cf ?_; refine sr fun _ hJ106 => ?_; refine hJ106 _ _ ?_; refine cs (fun c131 => ?_) (fun c131 => ?_)
       · (try exact nope c131); all_goals have c131p := c131; try simp [F] at c131p
         all_goals
          replace F := aF c131 F; try replace F := aF c131p F
          have e32 : (x1.toNat : Int) = 32 := by simpa using c131
          simp only [e32] at q36
          replace F := aF htkX F; replace F := aF q36 F; refine rg' (h := fun J107 hJ107 => ?_)
          refine ca (c := rlong_ok (size := 8) h7 (by omega)) (k := ?_)
          rintro _ _ ⟨rfl, rfl⟩; (repeat (first | simp [F] | simp (disch := omega) only [wC, if_pos, if_neg])); refine hJ107 _ _ ?_; refine hK88 _ _ ?_; refine sr fun _ hJ109 => ?_; refine hJ109 _ _ ?_; refine ra ?_
          have hk2 : x1 = 32 := (hkn 32).2 (by simpa using c131)
          have hv : hasN x1 = 1152 := by rw [hk2]; decide
          have hX : G12 = A := by (rw [hA]; simp [encM, ncE, ncT, ncV, ncO, ncN, ncC, ncU, ncP, ncM, ncQ, ncJ, hB, hv, hG12])
          rw [← hX]
          exact gcr (hA := by simp [F]; exact Wk.shut _ _ _ _)
       (try exact nope c131); all_goals have c131p := c131; try simp [F] at c131p
       all_goals
        replace F := aF c131 F; (try replace F := aF c131p F); refine sr fun _ hJ111 => ?_; refine hJ111 _ _ ?_; refine cs (fun c138 => ?_) (fun c138 => ?_)
        · (try exact nope c138); all_goals have c138p := c138; try simp [F] at c138p
          all_goals
           replace F := aF c138 F; try replace F := aF c138p F
           have e33 : (x1.toNat : Int) = 33 := by simpa using c138
           simp only [e33] at q28
           refine sq fun K112 hK112 => ?_; replace F := aF htkX F; replace F := aF q28 F; refine rg' (h := fun J113 hJ113 => ?_); refine hJ113 _ _ ?_; refine hK112 _ _ ?_; refine sq fun K114 hK114 => ?_; replace F := aF htkX F; replace F := aF q39 F; refine rg' (h := fun J115 hJ115 => ?_)
           refine ca (c := rlong_ok (size := 8) h7 (by omega)) (k := ?_)
           rintro _ _ ⟨rfl, rfl⟩; (repeat (first | simp [F] | simp (disch := omega) only [wC, if_pos, if_neg])); refine hJ115 _ _ ?_; refine hK114 _ _ ?_; refine sq fun K116 hK116 => ?_; replace F := aF htkX F; replace F := aF q40 F; refine rg' (h := fun J117 hJ117 => ?_)
           refine ca (c := rlong_ok (n := x13) (size := 2) (by omega) (by omega)) (k := ?_)
           rintro _ _ ⟨rfl, rfl⟩; (repeat (first | simp [F] | simp (disch := omega) only [wC, if_pos, if_neg])); refine hJ117 _ _ ?_; refine hK116 _ _ ?_; replace F := aF htkX F; replace F := aF q41 F; refine rg' (h := fun J118 hJ118 => ?_); refine ca (c := rflag_ok) (k := ?_); rintro _ _ ⟨rfl, rfl⟩; (repeat (first | simp [F] | simp (disch := omega) only [wC, if_pos, if_neg])); refine hJ118 _ _ ?_; refine hK88 _ _ ?_; refine sr fun _ hJ120 => ?_; refine hJ120 _ _ ?_; refine ra ?_
           have hk2 : x1 = 33 := (hkn 33).2 (by simpa using c138)
           have hv : hasN x1 = 1922 := by rw [hk2]; decide
           have hX : G10 = A := by (rw [hA]; simp [encM, ncE, ncT, ncV, ncO, ncN, ncC, ncU, ncP, ncM, ncQ, ncJ, hB, hv, hG10, hG9, hG8, hD6])
           rw [← hX]
           exact gcr (hA := by simp [F]; exact Wk.shut _ _ _ _)
        (try exact nope c138); all_goals have c138p := c138; try simp [F] at c138p
        all_goals
         replace F := aF c138 F; (try replace F := aF c138p F); refine sr fun _ hJ122 => ?_; refine hJ122 _ _ ?_; refine cs (fun c161 => ?_) (fun c161 => ?_)
         · (try exact nope c161); all_goals have c161p := c161; try simp [F] at c161p
           all_goals
            replace F := aF c161 F; try replace F := aF c161p F
            have e34 : (x1.toNat : Int) = 34 := by simpa using c161
            simp only [e34] at q28
            refine sq fun K123 hK123 => ?_; replace F := aF htkX F; replace F := aF q28 F; refine rg' (h := fun J124 hJ124 => ?_); refine hJ124 _ _ ?_; refine hK123 _ _ ?_; replace F := aF htkX F; replace F := aF q44 F; refine rg' (h := fun J125 hJ125 => ?_)
            refine ca (c := rcoinsW_ok (L := x9) (by omega)) (k := ?_)
            rintro _ _ ⟨rfl, rfl⟩; (repeat (first | simp [F] | simp (disch := omega) only [wC, if_pos, if_neg])); refine hJ125 _ _ ?_; refine hK88 _ _ ?_; refine sr fun _ hJ127 => ?_; refine hJ127 _ _ ?_; refine ra ?_
            have hk2 : x1 = 34 := (hkn 34).2 (by simpa using c161)
            have hv : hasN x1 = 1042 := by rw [hk2]; decide
            have hX : G4 = A := by (rw [hA]; simp [encM, ncE, ncT, ncV, ncO, ncN, ncC, ncU, ncP, ncM, ncQ, ncJ, hB, hv, hG4, hD6])
            rw [← hX]
            exact gcr (hA := by simp [F]; exact Wk.shut _ _ _ _)
         (try exact nope c161); all_goals have c161p := c161; try simp [F] at c161p
         all_goals
          replace F := aF c161 F; (try replace F := aF c161p F); refine run_skip ?_; refine hK88 _ _ ?_; refine sr fun _ hJ129 => ?_; refine hJ129 _ _ ?_; refine ra ?_
          have hk2 : x1 = 36 := UInt8.toNat_inj.1 (by have a := c131; have b := c138; have d := c161; have e := c101; rw [hB101] at e; simp [hkn] at e; simp at a b d; simp; omega)
          have hv : hasN x1 = 1024 := by rw [hk2]; decide
          have hX : [x1] = A := by (rw [hA]; simp [encM, ncE, ncT, ncV, ncO, ncN, ncC, ncU, ncP, ncM, ncQ, ncJ, hB, hv])
          rw [← hX]
          exact gcr (hA := by simp [F, b1]; exact Wk.shut _ _ _ _)
      case cx102 =>
       intro K102 hK102
       refine sr fun _ hJ131 => ?_; refine hJ131 _ _ ?_; refine cf ?_; refine rg' (h := fun J132 hJ132 => ?_); refine hJ132 _ _ ?_; refine hK102 (()) _ _ ⟨kp, ?_, ?_⟩
       · rw [hB111]
         simp [hkn, F]
         all_goals try (first | omega | rfl | (rw [Bool.eq_iff_iff]; simp; omega))
       · simp [htkX]
    case cx98 =>
     intro K98 hK98
     refine sr fun _ hJ134 => ?_; refine hJ134 _ _ ?_; refine cs (fun c101 => ?_) (fun c101 => ?_)
     · (try exact nope c101); all_goals have c101p := c101; try simp [F] at c101p
       all_goals
        replace F := aF c101 F; (try replace F := aF c101p F); refine run_skip ?_; refine hK98 (()) _ _ ⟨kp, ?_, ?_⟩
        · rw [hB101]
          simp [hkn, F]
          all_goals try (first | omega | rfl | (rw [Bool.eq_iff_iff]; simp; omega))
        · simp [htkX]
     (try exact nope c101); all_goals have c101p := c101; try simp [F] at c101p
     all_goals
      replace F := aF c101 F; (try replace F := aF c101p F); refine sr fun _ hJ136 => ?_; refine hJ136 _ _ ?_; refine cs (fun c101 => ?_) (fun c101 => ?_)
      · (try exact nope c101); all_goals have c101p := c101; try simp [F] at c101p
        all_goals
         replace F := aF c101 F; (try replace F := aF c101p F); refine run_skip ?_; refine hK98 (()) _ _ ⟨kp, ?_, ?_⟩
         · rw [hB101]
           simp [hkn, F]
           all_goals try (first | omega | rfl | (rw [Bool.eq_iff_iff]; simp; omega))
         · simp [htkX]
      (try exact nope c101); all_goals have c101p := c101; try simp [F] at c101p
      all_goals
       replace F := aF c101 F; (try replace F := aF c101p F); refine sr fun _ hJ138 => ?_; refine hJ138 _ _ ?_; refine cs (fun c101 => ?_) (fun c101 => ?_)
       · (try exact nope c101); all_goals have c101p := c101; try simp [F] at c101p
         all_goals
          replace F := aF c101 F; (try replace F := aF c101p F); refine run_skip ?_; refine hK98 (()) _ _ ⟨kp, ?_, ?_⟩
          · rw [hB101]
            simp [hkn, F]
            all_goals try (first | omega | rfl | (rw [Bool.eq_iff_iff]; simp; omega))
          · simp [htkX]
       (try exact nope c101); all_goals have c101p := c101; try simp [F] at c101p
       all_goals
        replace F := aF c101 F; (try replace F := aF c101p F); refine rg' (h := fun J139 hJ139 => ?_); refine hJ139 _ _ ?_; refine hK98 (()) _ _ ⟨kp, ?_, ?_⟩
        · rw [hB101]
          simp [hkn, F]
          all_goals try (first | omega | rfl | (rw [Bool.eq_iff_iff]; simp; omega))
        · simp [htkX]
   case cx95 =>
    intro K95 hK95
    refine sr fun _ hJ141 => ?_; refine hJ141 _ _ ?_; refine cf ?_; refine rg' (h := fun J142 hJ142 => ?_); refine hJ142 _ _ ?_; refine hK95 (()) _ _ ⟨kp, ?_, ?_⟩
    · rw [hB74]
      simp [hkn, F]
      all_goals try (first | omega | rfl | (rw [Bool.eq_iff_iff]; simp; omega))
    · simp [htkX]
end Go.Proofs.Ytdbaddholggkbaa
