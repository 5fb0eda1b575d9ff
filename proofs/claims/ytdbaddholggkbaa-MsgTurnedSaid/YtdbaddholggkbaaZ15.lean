import Derived.Test.YtdbaddholggkbaaZ7
import Derived.Test.YtdbaddholggkbaaZ12
import Derived.Test.YtdbaddholggkbaaZ14
import Derived.Test.YtdbaddholggkbaaZ10
import Derived.Test.YtdbaddholggkbaaZ13
/-
  A plan without what is locked..
-/
namespace Go.Proofs.Ytdbaddholggkbaa
set_option linter.unnecessarySimpa false
set_option maxRecDepth 100000
open Go Go.Vm
set_option linter.unusedSimpArgs false
set_option linter.unusedVariables false
attribute [local simp] evalL wantedA isCall opA evalA evalAll evalsA evalOpt ofValue ofCell plain binA_eql_pn binA_neq_pn binA_gtr binA_lss binA_geq binA_leq binA_add binA_sub binA_eql binA_neq binA_orI binA_andI binA_shl binA_shr binA_mul binA_quo binA_rem binA_agg_eql binA_agg_neq convA_int unA_not fieldAddrA loadA partA pickA_true pickA_false pickA_bb lenA builtinA storeA splice AV.cells AV.isCell sliceA boundA intA callOf indexAddrA newObjA buildA fillA zeroA ofCells buildSliceA indexA fieldA numA_len4 numA_take4 numA_drop4 set_appN get_appN take_appN List.getElem?_cons_zero List.getElem?_cons_succ makeA zeros64

theorem cut_nil {k : UInt8} (h : k = 0) : WkL [.v (.int .u8 k.toNat), .v (.int .u64 0), .v (.int .u64 0), .sl 0 [] 0 .full, .sl 0 [] 0 .full] (plnC ⟨0, 0, 0, [], []⟩) := by
  subst h
  exact .cons (Wk.refl _) (.cons (Wk.refl _) (.cons (Wk.refl _) (.cons (Wk.nil _ _ _) (.cons (Wk.nil _ _ _) .nil))))

end Go.Proofs.Ytdbaddholggkbaa

/-
  Lists of coins: what both readers make of a list's bytes.
-/
namespace Go.Proofs.Ytdbaddholggkbaa
set_option linter.unnecessarySimpa false
open Go Go.Vm
set_option linter.unusedSimpArgs false
set_option linter.unusedVariables false
set_option maxRecDepth 100000
attribute [local simp] evalL wantedA isCall opA evalA evalAll evalsA evalOpt ofValue ofCell plain binA_eql_pn binA_neq_pn binA_gtr binA_lss binA_geq binA_leq binA_add binA_sub binA_eql binA_neq binA_or binA_shl binA_shr binA_mul binA_quo binA_rem binA_agg_eql binA_agg_neq convA_int unA_not fieldAddrA loadA partA pickA_true pickA_false pickA_bb lenA builtinA storeA splice AV.cells AV.isCell sliceA boundA intA callOf indexAddrA newObjA buildA fillA zeroA ofCells indexA fieldA coinsC_at

theorem noObjL_inC (n : Nat) (p : List UInt8) (k : Nat) (b : Bool) : noObjL n (inC p .shut k b) = true := by simp [inC, noObjL, AV.noObj]

theorem gcO_slA (n k : Nat) (l : List Coin) : AV.gcO n (slA k l) = slA k l := by
  unfold slA
  split <;> simp [AV.gcO, noObjL]

structure CSk where
  m : Nat
  s : Option (List UInt8)
  l : List Coin
  k : Nat

set_option maxHeartbeats 1600000 in
attribute [local simp] undefA List.getElem?_cons_zero List.getElem?_cons_succ coinS_cells build_coin append_slA noObjL_inC gcO_slA in
theorem inCoins_ok {σ : St} {id k : Nat} {p : List UInt8} {s : Option (List UInt8)} (h : σ.objs[id]? = some (inC p .shut k s.isNone)) (hp : p.length ≤ 1000000) (hk : At p k s) :
    CallsA Try.prog 86 [.ptr id 0] σ (fun av σ' => av = .sl 5 (coinsC (coinsL s)) (coinsL s).length .shut ∧ ∃ k', At p k' (coinsS s) ∧ σ' = { σ with objs := σ.objs.set id (inC p .shut k' (coinsS s).isNone) }) := by
  refine callsA_gcI (x := fun k' => inC p .shut k' (coinsS s).isNone) ?_ (by simp [AV.under]) (fun _ => inC_under _ _ _ _)
  have hs := set_self_of h
  have hlt := lt_of_get h
  have ho2 : ∀ x r, (σ.objs.set id x ++ r)[id]? = some x := fun x r => by rw [List.getElem?_append_left (by simpa using hlt)]; exact hs x
  have ho3 : ∀ x r, (σ.objs ++ r).set id x = σ.objs.set id x ++ r := fun x r => List.set_append_left _ _ hlt
  have ho4 : ∀ x y r, (σ.objs.set id y ++ r).set id x = σ.objs.set id x ++ r := fun x y r => by rw [List.set_append_left _ _ (by simpa using hlt), List.set_set]
  have hm := be_lt1 (takeB_len 1 s)
  have F := And.intro h (And.intro hs (And.intro ho2 (And.intro ho3 (And.intro ho4 (And.intro hlt (True.intro))))))
  refine callsA_body Try.func86 rfl rfl rfl ?_; refine sr fun _ hJ2 => ?_; refine hJ2 _ _ ?_; refine sr fun _ hJ4 => ?_; refine hJ4 _ _ ?_; refine sr fun _ hJ6 => ?_; refine ca (c := inByte_ok h hp hk) (k := ?_); rintro _ _ ⟨rfl, k0, hk0, rfl⟩; (repeat (first | simp [F] | simp (disch := omega) only [wC, if_pos, if_neg])); refine hJ6 _ _ ?_; refine sq fun K7 hK7 => ?_; refine sr fun _ hJ9 => ?_; refine hJ9 _ _ ?_; refine run_block_k ?_; refine run_loopG (X := CSk) [0, 2, 4] (fun q ρ σ1 => (q.m ≤ be (takeB 1 s)) ∧ (q.m + q.l.length ≤ 255) ∧ (coinsGo q.m q.s q.l = coinsR s) ∧ (At p q.k q.s) ∧ (ρ 5 = .v (.int .i64 (be (takeB 1 s) - q.m : Nat))) ∧ (ρ 3 = slA σ.toks.length q.l) ∧ (σ1 = { σ with objs := σ.objs.set id (inC p .shut q.k q.s.isNone), toks := σ.toks ++ tkA q.l })) (fun q => q.m) (⟨be (takeB 1 s), takeS 1 s, [], k0⟩) ?st1 ?rd1
  case st1 =>
   refine ⟨lp, ?_, lp, lp, lp, lp, lp⟩
   · simp
     omega
  case rd1 =>
   rintro q ρ1 σ1 hF1 ⟨hm, hml, hg, hq, hi, h3, hσ⟩; obtain rfl := hσ.symm
   have f1 := keepL hF1
   (try simp [KeepL, F] at f1); replace F := aF hi F; replace F := aF h3 F; (try replace F := aF f1 F); refine sq fun K10 hK10 => ?_; refine sr fun _ hJ12 => ?_; refine gs 14 (fun g4_3 => ?_) (fun g4_3 => ?_)
   · try exact nope g4_3
     all_goals
      replace F := wf F g4_3; (iterate 5 refine go2 (k := ?_)); refine hJ12 _ _ ?_; refine cs (fun c20 => ?_) (fun c20 => ?_)
      · (try exact nope c20); all_goals have c20p := c20; try simp [F] at c20p
        all_goals
         replace F := aF c20 F; (try replace F := aF c20p F); refine run_skip ?_; refine hK10 _ _ ?_; refine sq fun K13 hK13 => ?_; refine run_block_k ?_; refine sr fun _ hJ15 => ?_; refine ca (c := inByte_ok (hs _) hp hq) (k := ?_); rintro _ _ ⟨rfl, k1, hk1, rfl⟩; (repeat (first | simp [F] | simp (disch := omega) only [wC, if_pos, if_neg])); refine hJ15 _ _ ?_; refine sr fun _ hJ17 => ?_; refine ca (c := inNum_ok (hs _) hp hk1) (k := ?_); rintro _ _ ⟨rfl, k2, hk2, rfl⟩; (repeat (first | simp [F] | simp (disch := omega) only [wC, if_pos, if_neg])); refine hJ17 _ _ ?_
         have : Small q.l := ⟨by omega⟩
         refine rg' (h := fun J18 hJ18 => ?_); refine hJ18 _ _ ?_; refine hK13 _ _ ?_; refine rg' (h := fun J19 hJ19 => ?_); refine hJ19 _ _ ?_; refine ⟨gk, (⟨q.m - 1, numS (takeS 1 q.s), q.l ++ [coinS q.s], k2⟩), ⟨kpG, ?_, ?_, ?_, ?_, ?_, lpG, lpG⟩, ?_⟩
         · simp
           omega
         · simp
           omega
         · rw [← hg]
           exact (coinsGo_more (by simp at g4_3; omega) (by intro e; simp [e] at c20p)).symm
         · exact hk2
         · simp [AV.gcO]
           omega
         · simp
           omega
      (try exact nope c20); all_goals have c20p := c20; try simp [F] at c20p
      all_goals
       replace F := aF c20 F; (try replace F := aF c20p F); refine run_exit ?_; refine hK7 _ _ ?_; refine sq fun K20 hK20 => ?_; refine sr fun _ hJ22 => ?_; refine gs 37 (fun g9_4 => ?_) (fun g9_4 => ?_)
       · try exact nope g9_4
         all_goals
          replace F := wf F g9_4; (iterate 3 refine no2 (k := ?_)); refine hJ22 _ _ ?_; refine ct ?_; refine sr fun _ hJ24 => ?_; refine hJ24 _ _ ?_; refine sr fun _ hJ26 => ?_; refine hJ26 _ _ ?_; refine ra ?_
          have h0 : q.s = none := (by simpa using c20)
          obtain ⟨e1, e2⟩ := coinsR_none (L := q.l) (S := q.s) (by rw [← hg]; exact coinsGo_stop (.inr h0)) (.inr h0)
          rw [e1, e2]
          exact ⟨q.k, ⟨hq.1, .inl rfl⟩, Wk.nil _ _ _, [], tkA q.l, [], by simp [inC]⟩
       try exact nope g9_4
       all_goals
        replace F := wf F g9_4; refine go2 (k := ?_)
        refine cb (c := rright_slA (by omega)) (k := ?_)
        refine go2 (k := ?_); refine hJ22 _ _ ?_; refine cs (fun c41 => ?_) (fun c41 => ?_)
        · try exact nope c41
          all_goals
           replace F := wf F c41; refine sr fun _ hJ28 => ?_; refine hJ28 _ _ ?_; refine sr fun _ hJ30 => ?_; refine hJ30 _ _ ?_; refine ra ?_
           obtain ⟨e1, e2⟩ := coinsR_none (L := q.l) (S := q.s) (by rw [← hg]; exact coinsGo_stop (.inl (by simp at g4_3; omega))) (.inl (by simpa using c41))
           rw [e1, e2]
           exact ⟨q.k, ⟨hq.1, .inl rfl⟩, Wk.nil _ _ _, [], tkA q.l, [], by simp [inC]⟩
        try exact nope c41
        all_goals
         replace F := wf F c41; refine run_skip ?_; refine hK20 _ _ ?_; refine sr fun _ hJ32 => ?_; refine hJ32 _ _ ?_; refine ra ?_
         obtain ⟨e1, e2⟩ := coinsR_some (L := q.l) (S := q.s) (by rw [← hg]; exact coinsGo_stop (.inl (by simp at g4_3; omega))) (by simpa using c41) (by intro e; simp [e] at g9_4)
         rw [e1, e2]
         exact ⟨q.k, hq, wk_slA _ _, [], tkA q.l, [], by rw [g9_4]; simp⟩
   try exact nope g4_3
   all_goals
    replace F := wf F g4_3; (iterate 5 refine no2 (k := ?_)); refine hJ12 _ _ ?_; refine cf ?_; refine run_exit ?_; refine hK7 _ _ ?_; refine sq fun K33 hK33 => ?_; refine sr fun _ hJ35 => ?_; refine gs 37 (fun g9_4 => ?_) (fun g9_4 => ?_)
    · try exact nope g9_4
      all_goals
       replace F := wf F g9_4; (iterate 3 refine no2 (k := ?_)); refine hJ35 _ _ ?_; refine ct ?_; refine sr fun _ hJ37 => ?_; refine hJ37 _ _ ?_; refine sr fun _ hJ39 => ?_; refine hJ39 _ _ ?_; refine ra ?_
       have h0 : q.s = none := (by simpa using g9_4)
       obtain ⟨e1, e2⟩ := coinsR_none (L := q.l) (S := q.s) (by rw [← hg]; exact coinsGo_stop (.inr h0)) (.inr h0)
       rw [e1, e2]
       exact ⟨q.k, ⟨hq.1, .inl rfl⟩, Wk.nil _ _ _, [], tkA q.l, [], by simp [inC]⟩
    try exact nope g9_4
    all_goals
     replace F := wf F g9_4; refine go2 (k := ?_)
     refine cb (c := rright_slA (by omega)) (k := ?_)
     refine go2 (k := ?_); refine hJ35 _ _ ?_; refine cs (fun c41 => ?_) (fun c41 => ?_)
     · try exact nope c41
       all_goals
        replace F := wf F c41; refine sr fun _ hJ41 => ?_; refine hJ41 _ _ ?_; refine sr fun _ hJ43 => ?_; refine hJ43 _ _ ?_; refine ra ?_
        obtain ⟨e1, e2⟩ := coinsR_none (L := q.l) (S := q.s) (by rw [← hg]; exact coinsGo_stop (.inl (by simp at g4_3; omega))) (.inl (by simpa using c41))
        rw [e1, e2]
        exact ⟨q.k, ⟨hq.1, .inl rfl⟩, Wk.nil _ _ _, [], tkA q.l, [], by simp [inC]⟩
     try exact nope c41
     all_goals
      replace F := wf F c41; refine run_skip ?_; refine hK33 _ _ ?_; refine sr fun _ hJ45 => ?_; refine hJ45 _ _ ?_; refine ra ?_
      obtain ⟨e1, e2⟩ := coinsR_some (L := q.l) (S := q.s) (by rw [← hg]; exact coinsGo_stop (.inl (by simp at g4_3; omega))) (by simpa using c41) (by intro e; simp [e] at g9_4)
      rw [e1, e2]
      exact ⟨q.k, hq, wk_slA _ _, [], tkA q.l, [], by rw [g9_4]; simp⟩

end Go.Proofs.Ytdbaddholggkbaa

/-
  A plan, read of any bytes..
-/
namespace Go.Proofs.Ytdbaddholggkbaa
set_option linter.unnecessarySimpa false
set_option maxRecDepth 100000
open Go Go.Vm
set_option linter.unusedSimpArgs false
set_option linter.unusedVariables false
attribute [local simp] evalL wantedA isCall opA evalA evalAll evalsA evalOpt ofValue ofCell plain binA_eql_pn binA_neq_pn binA_gtr binA_lss binA_geq binA_leq binA_add binA_sub binA_eql binA_neq binA_orI binA_andI binA_shl binA_shr binA_mul binA_quo binA_rem binA_agg_eql binA_agg_neq convA_int unA_not fieldAddrA loadA partA pickA_true pickA_false pickA_bb lenA builtinA storeA splice AV.cells AV.isCell sliceA boundA intA callOf indexAddrA newObjA buildA fillA zeroA ofCells buildSliceA indexA fieldA numA_len4 numA_take4 numA_drop4 set_appN get_appN take_appN List.getElem?_cons_zero List.getElem?_cons_succ makeA zeros64

def perS (s : Option (List UInt8)) : Per := ⟨be (takeB 8 s), coinsL (takeS 8 s)⟩
def perT (s : Option (List UInt8)) : Option (List UInt8) := coinsS (takeS 8 s)
def persGo : Nat → Option (List UInt8) → List Per → List Per × Option (List UInt8)
  | 0, s, l => (l, s)
  | _ + 1, none, l => (l, none)
  | m + 1, some p, l => persGo m (perT (some p)) (l ++ [perS (some p)])
theorem persGo_more {m : Nat} {s : Option (List UInt8)} {l : List Per} (hm : 0 < m) (hs : ¬ s = none) : persGo m s l = persGo (m - 1) (perT s) (l ++ [perS s]) := by
  match m, s, hm, hs with
  | m + 1, some p, _, _ => rfl
theorem persGo_stop {m : Nat} {s : Option (List UInt8)} {l : List Per} (h : m = 0 ∨ s = none) : persGo m s l = (l, s) := by
  match m, s, h with
  | 0, _, _ => rfl
  | m + 1, none, _ => rfl
def s4S (s : Option (List UInt8)) : Option (List UInt8) := coinsS (takeS 8 (takeS 8 (takeS 1 s)))
def planR (s : Option (List UInt8)) : List Per × Option (List UInt8) := persGo (be (takeB 1 (s4S s))) (takeS 1 (s4S s)) []
def planP (s : Option (List UInt8)) (L : List Per) : Pln := ⟨byteS s, be (takeB 8 (takeS 1 s)), be (takeB 8 (takeS 8 (takeS 1 s))), coinsL (takeS 8 (takeS 8 (takeS 1 s))), L⟩
def takeT (s : Option (List UInt8)) : Option (List UInt8) := if rightB (planP s (planR s).1) = true then (planR s).2 else none
def takeP (s : Option (List UInt8)) : Pln := if takeT s = none then ⟨0, 0, 0, [], []⟩ else planP s (planR s).1
theorem take_none {s S : Option (List UInt8)} {L : List Per} (h : planR s = (L, S)) (h2 : rightB (planP s L) = false ∨ S = none) : takeP s = ⟨0, 0, 0, [], []⟩ ∧ takeT s = none := by
  have e : takeT s = none := by
    unfold takeT
    rw [h]
    rcases h2 with h2 | h2
    · simp [h2]
    · simp [h2]
  exact ⟨by simp [takeP, e], e⟩
theorem take_some {s S : Option (List UInt8)} {L : List Per} (h : planR s = (L, S)) (h1 : rightB (planP s L) = true) (h2 : ¬ S = none) : takeP s = planP s L ∧ takeT s = S := by
  have e : takeT s = S := by
    unfold takeT
    rw [h, if_pos h1]
  exact ⟨by rw [takeP, e, if_neg h2, h], e⟩
theorem planP_ok {s : Option (List UInt8)} {L : List Per} (hl : L.length ≤ 255) (hx : ∀ x ∈ L, x.l < 2 ^ 64 ∧ x.c.length ≤ 255) : (planP s L).Ok := by
  refine ⟨be_lt8 _ (takeB_len 8 _), be_lt8 _ (takeB_len 8 _), ?_, ?_, fun x h => ⟨(hx x h).1, ?_⟩⟩
  · have := coinsL_le (takeS 8 (takeS 8 (takeS 1 s))); simp only [planP]; omega
  · simp only [planP]; omega
  · have := (hx x h).2; omega
theorem perS_ok (s : Option (List UInt8)) : (perS s).l < 2 ^ 64 ∧ (perS s).c.length ≤ 255 := ⟨be_lt8 _ (takeB_len 8 _), coinsL_le _⟩

structure TSt where
  m : Nat
  s : Option (List UInt8)
  l : List Per

theorem nil0 {L : List Per} (h : posB L.length = false) : persC L = [] ∧ L.length = 0 := by
  have h0 := posB_no h
  have : L = [] := List.length_eq_zero_iff.1 h0
  subst this
  exact ⟨rfl, rfl⟩
theorem take_wk {s : Option (List UInt8)} {L : List Per} {k : Nat} : WkL [.v (.int .u8 (be (takeB 1 s))), .v (.int .u64 (be (takeB 8 (takeS 1 s)))), .v (.int .u64 (be (takeB 8 (takeS 8 (takeS 1 s))))), .sl 5 (coinsC (coinsL (takeS 8 (takeS 8 (takeS 1 s))))) (coinsL (takeS 8 (takeS 8 (takeS 1 s)))).length .shut, grA k 2 (posB L.length) (persC L) L.length] (plnC (planP s L)) :=
  .cons (by rw [be_byteS]; exact Wk.refl _) (.cons (Wk.refl _) (.cons (Wk.refl _) (.cons (Wk.refl _) (.cons (wk_grA nil0) .nil))))

set_option maxHeartbeats 1600000 in
attribute [local simp] undefA List.getElem?_cons_zero List.getElem?_cons_succ perC persC_noObj in
theorem ptake_ok {σ : St} {id : Nat} {s : Option (List UInt8)} (h : σ.objs[id]? = some (rd s)) :
    CallsA Try.prog 34 [.ptr id 0] σ (fun av σ' => av = .agg (plnC (takeP s)) ∧ σ' = { σ with objs := σ.objs.set id (rd (takeT s)) }) := by
  refine callsA_gc_obj (Q := fun av σ' => Wk av (.agg (plnC (takeP s))) ∧ ∃ l m r, σ' = { σ with objs := σ.objs.set id (rd (takeT s)) ++ l, toks := σ.toks ++ m, rows := σ.rows ++ r }) ?_ (fun av σ' h => h) (by simp [AV.under, underL, plnC, persC_under]) (rd_under _ _)
  have hs := set_self_of h
  have hlt := lt_of_get h
  have ho1 : ∀ r, (σ.objs ++ r)[id]? = some (rd s) := fun r => by rw [List.getElem?_append_left hlt]; exact h
  have ho2 : ∀ x r, (σ.objs.set id x ++ r)[id]? = some x := fun x r => by rw [List.getElem?_append_left (by simpa using hlt)]; exact hs x
  have ho3 : ∀ x r, (σ.objs ++ r).set id x = σ.objs.set id x ++ r := fun x r => List.set_append_left _ _ hlt
  have ho4 : ∀ x y r, (σ.objs.set id y ++ r).set id x = σ.objs.set id x ++ r := fun x y r => by rw [List.set_append_left _ _ (by simpa using hlt), List.set_set]
  have hm := be_lt1 (takeB_len 1 (s4S s))
  have hgc : ∀ (k : Nat) (b : Bool) (cs : List AV) (n : Nat), (grA k 2 b cs n).isCell = true := fun k b cs n => by cases b <;> rfl
  simp only [AV.isCell] at hgc
  have hdr : ∀ f : Nat → AV, List.drop 2 (List.map f (List.range 2)) = [] := fun _ => rfl
  have hdr5 : ∀ f : Nat → AV, List.drop 5 (List.map f (List.range 5)) = [] := fun _ => rfl
  have hR : ∀ (L : List Per) (k : Nat) (τ : St), L.length ≤ 255 → (∀ x ∈ L, x.l < 2 ^ 64 ∧ x.c.length ≤ 255) → CallsA Try.prog 18 [.agg [.v (.int .u8 (be (takeB 1 s))), .v (.int .u64 (be (takeB 8 (takeS 1 s)))), .v (.int .u64 (be (takeB 8 (takeS 8 (takeS 1 s))))), .sl 5 (coinsC (coinsL (takeS 8 (takeS 8 (takeS 1 s))))) (coinsL (takeS 8 (takeS 8 (takeS 1 s)))).length .shut, grA k 2 (posB L.length) (persC L) L.length]] τ (fun av σ' => av = .v (.bool (rightB (planP s L))) ∧ τ = σ') :=
    fun L k τ hl hx => callsA_wk (.cons (WkL.agg take_wk) .nil) (plright_ok (planP_ok hl hx))
  have F := And.intro ho1 (And.intro ho2 (And.intro ho3 (And.intro ho4 (And.intro hlt (And.intro hdr (And.intro hdr5 (And.intro hgc (True.intro))))))))
  refine callsA_body Try.func34 rfl rfl rfl ?_; refine sr fun _ hJ2 => ?_; refine hJ2 _ _ ?_; refine sr fun _ hJ4 => ?_; refine cb (c := byte_ok (ho1 _)) (k := ?_); refine cb (c := long_ok (ho2 _ _)) (k := ?_); refine cb (c := long_ok (ho2 _ _)) (k := ?_); refine cb (c := rcoins_raw (ho2 _ _)) (k := ?_); refine hJ4 _ _ ?_; refine sq fun K5 hK5 => ?_; refine sr fun _ hJ7 => ?_; refine cb (c := byte_ok (ho2 _ _)) (k := ?_); refine hJ7 _ _ ?_; refine run_block_k ?_; refine run_loopF (X := TSt) [0, 2, 3] (fun q ρ σ1 => (q.m + q.l.length ≤ 255) ∧ (∀ x ∈ q.l, x.l < 2 ^ 64 ∧ x.c.length ≤ 255) ∧ (persGo q.m q.s q.l = planR s) ∧ (ρ 4 = .v (.int .u8 q.m)) ∧ (σ1 = { σ with objs := σ.objs.set id (rd q.s) ++ [[.v (.int .u8 0), .v (.int .u64 0), .v (.int .u64 0), .sl 0 [] 0 .full, .sl 0 [] 0 .full], [.v (.int .u8 (be (takeB 1 s))), .v (.int .u64 (be (takeB 8 (takeS 1 s)))), .v (.int .u64 (be (takeB 8 (takeS 8 (takeS 1 s))))), .sl 5 (coinsC (coinsL (takeS 8 (takeS 8 (takeS 1 s))))) (coinsL (takeS 8 (takeS 8 (takeS 1 s)))).length .shut, grA σ.toks.length 2 (posB q.l.length) (persC q.l) q.l.length]], toks := σ.toks ++ grT (posB q.l.length) q.l.length })) (fun q => q.m) (⟨be (takeB 1 (s4S s)), takeS 1 (s4S s), []⟩) ?st1 ?rd1
  case st1 =>
   refine ⟨?_, ?_, ?_, lp, ?_⟩
   · simp
     omega
   · simp
   · rfl
   · simp [F, s4S]
  case rd1 =>
   rintro q ρ1 σ1 hF1 ⟨hm, hx, hg, h4, hσ⟩; obtain rfl := hσ.symm
   have f1 := keepL hF1
   (try simp [KeepL, F] at f1); replace F := aF h4 F; (try replace F := aF f1 F); refine sq fun K8 hK8 => ?_; refine sqc (X := Unit) [0, 2, 3, 4] (fun k ρ σ1 => (ρ 22 = .v (.bool (decide (0 < q.m) && !q.s.isNone))) ∧ (σ1 = { σ with objs := σ.objs.set id (rd q.s) ++ [[.v (.int .u8 0), .v (.int .u64 0), .v (.int .u64 0), .sl 0 [] 0 .full, .sl 0 [] 0 .full], [.v (.int .u8 (be (takeB 1 s))), .v (.int .u64 (be (takeB 8 (takeS 1 s)))), .v (.int .u64 (be (takeB 8 (takeS 8 (takeS 1 s))))), .sl 5 (coinsC (coinsL (takeS 8 (takeS 8 (takeS 1 s))))) (coinsL (takeS 8 (takeS 8 (takeS 1 s)))).length .shut, grA σ.toks.length 2 (posB q.l.length) (persC q.l) q.l.length]], toks := σ.toks ++ grT (posB q.l.length) q.l.length })) ?cy9 ?cx9
   case cy9 =>
    rintro k ρCr3 σ1 hFCr3 ⟨h22, hσ⟩; obtain rfl := hσ.symm
    have fCr3 := keepL hFCr3
    (try simp [KeepL, F] at fCr3); replace F := aF h22 F; (try replace F := aF fCr3 F); refine cs (t := (decide (0 < q.m) && !q.s.isNone)) (fun c22 => ?_) (fun c22 => ?_)
    · try exact nope c22
      all_goals
       replace F := wf F c22; refine run_skip ?_; refine hK8 _ _ ?_; refine sq fun K10 hK10 => ?_; refine run_block_k ?_
       obtain ⟨m, S, L⟩ := q
       simp only at hm hx hg h4
       have hmS : 0 < m ∧ ¬ S = none := by have h := c22; simp at h; exact ⟨h.1, by intro e; rw [e] at h; simp at h⟩
       have hnx := persGo_more (l := L) hmS.1 hmS.2
       have hP : persC (L ++ [perS S]) = persC L ++ [.v (.int .u64 (be (takeB 8 S))), .sl 5 (coinsC (coinsL (takeS 8 S))) (coinsL (takeS 8 S)).length .shut] := by rw [← persC_append]; rfl
       have hLl : L.length ≤ 254 := by omega
       have happ : ∀ objs, appendA Try.prog 24 (grA σ.toks.length 2 (posB L.length) (persC L) L.length) (.sl 2 [.v (.int .u64 (be (takeB 8 S))), .sl 5 (coinsC (coinsL (takeS 8 S))) (coinsL (takeS 8 S)).length .shut] 1 .full) ⟨objs, σ.toks ++ grT (posB L.length) L.length, σ.gl, σ.rows⟩ = some (grA σ.toks.length 2 true (persC L ++ [.v (.int .u64 (be (takeB 8 S))), .sl 5 (coinsC (coinsL (takeS 8 S))) (coinsL (takeS 8 S)).length .shut]) (L.length + 1), ⟨objs, σ.toks ++ grT true (L.length + 1), σ.gl, σ.rows⟩) := fun objs => append_gr elemT_24 ti_88 (by decide) rfl nil0 (.inl rfl) (by simp [roomA]; omega) (by simp [maxLen]; omega)
       have hwm : IntKind.u8.wrap ((m : Int) - 1) = ((m - 1 : Nat) : Int) := by rw [wrap_u8c (by omega)]; omega
       replace F := aF happ F
       refine run_draw (by kernel_rfl) fun J11 hJ11 => ?_
       refine rp2 0 (k := ?_); refine rp2 1 (k := ?_); refine rp2 2 (k := ?_); refine rp2 4 (k := ?_); refine dc 3 rfl (c := long_ok (ho2 _ _)) (k := ?_); rintro _ _ ⟨rfl, rfl⟩
       refine ⟨by first | exact fun _ _ h => h | (refine later_list [4, 1, 0] (by kernel_rfl) (fc2 ?_ <| fc2 ?_ <| fc2 ?_ <| fn0) <;> constructor <;> first | rfl | (simp [F]; done)), ?_⟩
       (repeat (first | simp [F] | simp (disch := omega) only [wC, if_pos, if_neg])); refine dc 5 rfl (c := rcoins_raw (ho2 _ _)) (k := ?_); rintro _ _ ⟨rfl, rfl⟩
       refine ⟨by first | exact fun _ _ h => h | (refine later_list [1, 0] (by kernel_rfl) (fc2 ?_ <| fc2 ?_ <| fn0) <;> constructor <;> first | rfl | (simp [F]; done)), ?_⟩
       (repeat (first | simp [F] | simp (disch := omega) only [wC, if_pos, if_neg])); refine rp2 6 (k := ?_); refine rp2 7 (k := ?_); refine dop 8 rfl ?_; repeat (first | simp [F] | simp (disch := omega) only [wC, if_pos, if_neg])
       refine ⟨by first | exact fun _ _ h => h | (refine later_list [6, 0] (by kernel_rfl) (fc2 ?_ <| fc2 ?_ <| fn0) <;> constructor <;> first | rfl | (simp [F]; done)), ?_⟩
       refine rp2 9 (k := ?_); refine dop 10 rfl ?_; (repeat (first | simp [F] | simp (disch := omega) only [wC, if_pos, if_neg])); refine ⟨ln, ?_⟩; refine dd ?_; refine hJ11 _ _ ?_; refine hK10 _ _ ?_; replace F := aF hwm F; refine rg' (h := fun J12 hJ12 => ?_); refine hJ12 _ _ ?_; refine ⟨(⟨m - 1, perT S, L ++ [perS S]⟩), ⟨kp, ?_, ?_, ?_, lp, ?_⟩, ?_⟩
       · simp
         omega
       · intro x hxm
         rcases List.mem_append.1 hxm with h | h
         · exact hx x h
         · simp at h; subst h; exact perS_ok S
       · rw [← hg]
         exact hnx.symm
       · simp [F, hP, perT]
       · simp
         omega
    try exact nope c22
    all_goals
     replace F := wf F c22
     have he : planR s = (q.l, q.s) := by rw [← hg]; exact persGo_stop (by have h := c22; simp at h; by_cases h0 : q.m = 0; exact .inl h0; exact .inr (h (by omega)))
     have hql : q.l.length ≤ 255 := by omega
     refine run_exit ?_; refine hK5 _ _ ?_; refine sq fun K13 hK13 => ?_; refine sr fun _ hJ15 => ?_; refine cb (c := hR q.l _ _ hql hx) (k := ?_); refine hJ15 _ _ ?_; refine cs (fun c37 => ?_) (fun c37 => ?_)
     · try exact nope c37
       all_goals
        replace F := wf F c37; refine rg' (h := fun J16 hJ16 => ?_); refine cb (c := fail_ok (ho2 _ _)) (k := ?_); refine hJ16 _ _ ?_; refine hK13 _ _ ?_; refine sq fun K17 hK17 => ?_; refine sr fun _ hJ19 => ?_; refine cb (c := bad_ok (ho2 _ _)) (k := ?_); refine hJ19 _ _ ?_; refine cs (fun c41 => ?_) (fun c41 => ?_)
        · try exact nope c41
          all_goals
           replace F := wf F c41; refine sr fun _ hJ21 => ?_; refine hJ21 _ _ ?_; refine run_ret ?_; (try simp only [Then, InBlock, NoGoto]); refine acell (h := ?_)
           obtain ⟨e1, e2⟩ := take_none he (.inl (by simpa using c37))
           rw [e1, e2]
           refine gcr (τ := { σ with objs := σ.objs.set id (rd none) }) (hA := ?_); exact WkL.agg (cut_nil rfl)
        try exact nope c41
        all_goals
         replace F := wf F c41; refine run_skip ?_; refine hK17 _ _ ?_; refine sr fun _ hJ23 => ?_; refine hJ23 _ _ ?_; refine run_ret ?_; (try simp only [Then, InBlock, NoGoto]); refine acell (h := ?_)
         obtain ⟨e1, e2⟩ := take_none he (.inl (by simpa using c37))
         rw [e1, e2]
         refine gcr (τ := { σ with objs := σ.objs.set id (rd none) }) (hA := ?_); exact WkL.agg (cut_nil rfl)
     try exact nope c37
     all_goals
      replace F := wf F c37; refine run_skip ?_; refine hK13 _ _ ?_; refine sq fun K24 hK24 => ?_; refine sr fun _ hJ26 => ?_; refine cb (c := bad_ok (ho2 _ _)) (k := ?_); refine hJ26 _ _ ?_; refine cs (fun c41 => ?_) (fun c41 => ?_)
      · try exact nope c41
        all_goals
         replace F := wf F c41; refine sr fun _ hJ28 => ?_; refine hJ28 _ _ ?_; refine run_ret ?_; (try simp only [Then, InBlock, NoGoto]); refine acell (h := ?_)
         obtain ⟨e1, e2⟩ := take_none he (.inr (by simpa using c41))
         rw [e1, e2]
         refine gcr (τ := { σ with objs := σ.objs.set id (rd none) }) (hA := ?_); exact WkL.agg (cut_nil rfl)
      try exact nope c41
      all_goals
       replace F := wf F c41; refine run_skip ?_; refine hK24 _ _ ?_; refine sr fun _ hJ30 => ?_; refine hJ30 _ _ ?_; refine run_ret ?_; (try simp only [Then, InBlock, NoGoto]); refine acell (h := ?_)
       obtain ⟨e1, e2⟩ := take_some he (by simpa using c37) (by intro e; rw [e] at c41; simp at c41)
       rw [e1, e2]
       refine gcr (τ := { σ with objs := σ.objs.set id (rd q.s) }) (hA := ?_); exact WkL.agg take_wk
   case cx9 =>
    intro K9 hK9
    refine rg' (h := fun J31 hJ31 => ?_); refine gs 18 (fun g3_2 => ?_) (fun g3_2 => ?_)
    · try exact nope g3_2
      all_goals
       replace F := wf F g3_2; refine go2 (k := ?_); refine cb (c := bad_ok (ho2 _ _)) (k := ?_); refine go2 (k := ?_); refine hJ31 _ _ ?_; refine hK9 (()) _ _ ⟨kp, ?_, lp⟩
       · have h := g3_2
         simp at h
         simp [F, h]
    try exact nope g3_2
    all_goals
     replace F := wf F g3_2; (iterate 3 refine no2 (k := ?_)); refine hJ31 _ _ ?_; refine hK9 (()) _ _ ⟨kp, ?_, lp⟩
     · have h := g3_2
       simp at h
       simp [F, h]

end Go.Proofs.Ytdbaddholggkbaa

/-
  What was laid of a plan reads back: the plain law.
-/
namespace Go.Proofs.Ytdbaddholggkbaa
set_option linter.unnecessarySimpa false
set_option maxRecDepth 100000
set_option linter.unusedSimpArgs false
open Go Go.Vm
set_option linter.unusedVariables false

def encPer (x : Per) : List UInt8 := nBytes 8 x.l ++ encL x.c
def encPers (l : List Per) : List UInt8 := l.flatMap encPer
def encPl (p : Pln) : List UInt8 := p.k :: (nBytes 8 p.s ++ (nBytes 8 p.e ++ (encL p.tot ++ (UInt8.ofNat p.ps.length :: encPers p.ps))))
theorem encPers_snoc (l : List Per) (x : Per) : encPers (l ++ [x]) = encPers l ++ encPer x := by simp [encPers]
theorem encL_len {l : List Coin} (h : l.length ≤ 8) : (encL l).length ≤ 273 := by
  have := encCs_len l
  simp only [encL, List.length_cons]; omega
theorem encPers_len : ∀ l : List Per, (∀ x ∈ l, x.c.length ≤ 8) → (encPers l).length ≤ 281 * l.length
  | [], _ => by simp [encPers]
  | x :: l, h => by
    have h1 := encPers_len l (fun y hy => h y (by simp [hy]))
    have h2 := encL_len (h x (by simp))
    have e : encPers (x :: l) = encPer x ++ encPers l := rfl
    rw [e]
    simp only [encPer, List.length_append, nBytes_len, List.length_cons]
    omega

end Go.Proofs.Ytdbaddholggkbaa

/-
  A plan is laid..
-/
namespace Go.Proofs.Ytdbaddholggkbaa
set_option linter.unnecessarySimpa false
set_option maxRecDepth 100000
open Go Go.Vm
set_option linter.unusedSimpArgs false
set_option linter.unusedVariables false
attribute [local simp] evalL wantedA isCall opA evalA evalAll evalsA evalOpt ofValue ofCell plain binA_eql_pn binA_neq_pn binA_gtr binA_lss binA_geq binA_leq binA_add binA_sub binA_eql binA_neq binA_orI binA_andI binA_shl binA_shr binA_mul binA_quo binA_rem binA_agg_eql binA_agg_neq convA_int unA_not fieldAddrA loadA partA pickA_true pickA_false pickA_bb lenA builtinA storeA splice AV.cells AV.isCell sliceA boundA intA callOf indexAddrA newObjA buildA fillA zeroA ofCells buildSliceA indexA fieldA numA_len4 numA_take4 numA_drop4 set_appN get_appN take_appN List.getElem?_cons_zero List.getElem?_cons_succ makeA zeros64

def WQ (id : Nat) (σ : St) (k : Nat) (l A : List UInt8) : AV → St → Prop := fun av σ' => av = .ptr id 0 ∧ ∃ k' tk', Wr σ.toks k l tk' k' A ∧ σ' = { σ with objs := σ.objs.set id [wrA k' A], toks := tk' }
theorem wbyteA {σ : St} {id k : Nat} {l A : List UInt8} {b : UInt8} (hA : A = l ++ [b]) (h : σ.objs[id]? = some [wrA k l]) (ht : Tk σ.toks k l) (hl : l.length ≤ 300000) :
    CallsA Try.prog 88 [.ptr id 0, .v (.int .u8 b.toNat)] σ (WQ id σ k l A) := by
  subst hA; exact wbyte_ok h ht (by omega)
theorem wlongA {σ : St} {id k n : Nat} {l A : List UInt8} (hA : A = l ++ nBytes 8 n) (h : σ.objs[id]? = some [wrA k l]) (ht : Tk σ.toks k l) (hn : n < 2 ^ 64) (hl : l.length ≤ 300000) :
    CallsA Try.prog 39 [.ptr id 0, .v (.int .u64 n)] σ (WQ id σ k l A) := by
  subst hA; exact wlong_ok h ht hn (by omega)
theorem wcoinsA {σ : St} {id k : Nat} {l A : List UInt8} {L : List Coin} {tL : Tail} (hA : A = l ++ encL L) (h : σ.objs[id]? = some [wrA k l]) (ht : Tk σ.toks k l) (hL : L.length ≤ 255) (hl : l.length ≤ 300000) :
    CallsA Try.prog 89 [.ptr id 0, .sl 5 (coinsC L) L.length tL] σ (WQ id σ k l A) := by
  subst hA; exact wcoins_ok h ht hL (by omega)

structure LSt where
  i : Nat
  k : Nat
  tk : List Nat

set_option maxHeartbeats 1600000 in
attribute [local simp] undefA List.getElem?_cons_zero List.getElem?_cons_succ plnC perC persC_noObj noObj_wrA noObj_wrA' in
theorem play_ok {σ : St} {id k : Nat} {l A : List UInt8} {p : Pln} (hA : A = l ++ encPl p) (h : σ.objs[id]? = some [wrA k l]) (ht : Tk σ.toks k l) (hl : l.length ≤ 100000)
    (p1 : p.s < 2 ^ 64) (p2 : p.e < 2 ^ 64) (p3 : p.tot.length ≤ 8) (p4 : p.ps.length ≤ 255) (p5 : ∀ x ∈ p.ps, x.l < 2 ^ 64 ∧ x.c.length ≤ 8) :
    CallsA Try.prog 40 [.ptr id 0, .agg (plnC p)] σ (fun av σ' => av = .tup [] ∧ ∃ k' tk', Wr σ.toks k l tk' k' A ∧ σ' = { σ with objs := σ.objs.set id [wrA k' A], toks := tk' }) := by
  have hlt := lt_of_get h
  refine callsA_mono (callsA_gcOI (A := .tup []) (Pi := fun i : Nat × List Nat => Wr σ.toks k l i.2 i.1 A) (τ := fun i => { σ with objs := σ.objs.set id [wrA i.1 A], toks := i.2 }) ?_ (by simp [AV.gcO, gcOL]) (fun _ => by simp) (fun _ => rfl) (fun _ => kp_set (kp_refl _) (noObj_wrA _ _ _)) (fun _ => kpr_refl _)) (fun av σ' ⟨h1, i, h2, h3⟩ => ⟨h1, i.1, i.2, h2, h3⟩)
  have hs := set_self_of h
  obtain ⟨pk, ps, pe, pt, pp⟩ := p
  simp only at p1 p2 p3 p4 p5
  obtain ⟨c, hc⟩ : ∃ c, c = UInt8.ofNat pp.length := ⟨_, rfl⟩
  have hcn : c.toNat = pp.length := by rw [hc]; exact toNat_ofNat (by omega)
  have hw : IntKind.u8.wrap (pp.length : Int) = (c.toNat : Int) := by rw [wrap_u8, hcn, Nat.mod_eq_of_lt (by omega)]
  obtain ⟨A1, hA1⟩ : ∃ A1, A1 = l ++ [pk] := ⟨_, rfl⟩
  obtain ⟨A2, hA2⟩ : ∃ A2, A2 = A1 ++ nBytes 8 ps := ⟨_, rfl⟩
  obtain ⟨A3, hA3⟩ : ∃ A3, A3 = A2 ++ nBytes 8 pe := ⟨_, rfl⟩
  obtain ⟨A4, hA4⟩ : ∃ A4, A4 = A3 ++ encL pt := ⟨_, rfl⟩
  obtain ⟨A5, hA5⟩ : ∃ A5, A5 = A4 ++ [c] := ⟨_, rfl⟩
  have n1 : A1.length = l.length + 1 := by rw [hA1]; simp
  have n2 : A2.length = l.length + 9 := by rw [hA2, List.length_append, nBytes_len, n1]
  have n3 : A3.length = l.length + 17 := by rw [hA3, List.length_append, nBytes_len, n2]
  have n4 : A4.length ≤ l.length + 290 := by have := encL_len p3; rw [hA4, List.length_append, n3]; omega
  have n5 : A5.length ≤ l.length + 291 := by rw [hA5, List.length_append]; simp; omega
  obtain ⟨Bf, hBf⟩ : ∃ Bf : Nat → List UInt8, Bf = fun i => A5 ++ encPers (pp.take i) := ⟨_, rfl⟩
  have hB0 : A5 = Bf 0 := by rw [hBf]; simp [encPers]
  have hBl : ∀ i, i ≤ pp.length → (Bf i).length ≤ 200000 := fun i hi => by
    have := encPers_len (pp.take i) (fun x hx => (p5 x (List.mem_of_mem_take hx)).2)
    have e : (pp.take i).length = i := by simp; omega
    rw [hBf]; simp only [List.length_append]; rw [e] at this; omega
  have hBs : ∀ i (hi : i < pp.length), Bf (i + 1) = Bf i ++ nBytes 8 pp[i].l ++ encL pp[i].c := fun i hi => by
    rw [hBf]; simp only; rw [← List.take_append_getElem hi, encPers_snoc]; simp [encPer]
  have hBA : Bf pp.length = A := by
    rw [hA, hBf]; simp only; rw [List.take_length, hA5, hA4, hA3, hA2, hA1, hc]; simp [encPl]
  clear hBf hA
  have ho1 : ∀ r, (σ.objs ++ r)[id]? = some [wrA k l] := fun r => by rw [List.getElem?_append_left hlt]; exact h
  have ho2 : ∀ x r, (σ.objs.set id x ++ r)[id]? = some x := fun x r => by rw [List.getElem?_append_left (by simpa using hlt)]; exact hs x
  have ho3 : ∀ x r, (σ.objs ++ r).set id x = σ.objs.set id x ++ r := fun x r => List.set_append_left _ _ hlt
  have ho4 : ∀ x y r, (σ.objs.set id y ++ r).set id x = σ.objs.set id x ++ r := fun x y r => by rw [List.set_append_left _ _ (by simpa using hlt), List.set_set]
  have hlt1 : id < σ.objs.length + 1 := by omega
  have htk : ∀ (x a b : List AV), List.take (σ.objs.length + 1) (σ.objs.set id x ++ [a, b]) = σ.objs.set id x ++ [a] := fun x a b => by
    have := List.take_length_add_append (l₁ := σ.objs.set id x) (l₂ := [a, b]) 1
    rw [List.length_set] at this
    exact this
  have F := And.intro hw (And.intro ho1 (And.intro ho2 (And.intro ho3 (And.intro ho4 (And.intro hlt (And.intro hlt1 (And.intro htk (True.intro))))))))
  refine callsA_body Try.func40 rfl rfl rfl ?_; refine sr fun _ hJ2 => ?_; refine hJ2 _ _ ?_; refine sq fun K3 hK3 => ?_
  refine run_draw (by kernel_rfl) fun J4 hJ4 => ?_
  refine rp2 0 (k := ?_); refine rp2 1 (k := ?_); refine rp2 2 (k := ?_); refine rp2 4 (k := ?_); refine rp2 5 (k := ?_); refine rp2 7 (k := ?_); refine rp2 8 (k := ?_); refine rp2 10 (k := ?_); refine rp2 11 (k := ?_); refine rp2 13 (k := ?_); refine rp2 14 (k := ?_); refine rp2 15 (k := ?_); refine rp2 16 (k := ?_)
  refine dc 3 rfl (c := wbyteA hA1 (ho1 _) ht (by omega)) (k := ?_)
  rintro _ _ ⟨rfl, k1, tk1, hw1, rfl⟩
  refine ⟨by first | exact fun _ _ h => h | (refine later_list [16, 15, 14, 13, 11, 10, 8, 7, 5, 4, 1] (by kernel_rfl) (fc2 ?_ <| fc2 ?_ <| fc2 ?_ <| fc2 ?_ <| fc2 ?_ <| fc2 ?_ <| fc2 ?_ <| fc2 ?_ <| fc2 ?_ <| fc2 ?_ <| fc2 ?_ <| fn0) <;> constructor <;> first | rfl | (simp [F]; done)), ?_⟩
  repeat (first | simp [F] | simp (disch := omega) only [wC, if_pos, if_neg])
  refine dc 6 rfl (c := wlongA hA2 (ho2 _ _) hw1.tok p1 (by omega)) (k := ?_)
  rintro _ _ ⟨rfl, k2, tk2, hw2, rfl⟩
  refine ⟨by first | exact fun _ _ h => h | (refine later_list [16, 15, 14, 13, 11, 10, 8, 7, 4, 1] (by kernel_rfl) (fc2 ?_ <| fc2 ?_ <| fc2 ?_ <| fc2 ?_ <| fc2 ?_ <| fc2 ?_ <| fc2 ?_ <| fc2 ?_ <| fc2 ?_ <| fc2 ?_ <| fn0) <;> constructor <;> first | rfl | (simp [F]; done)), ?_⟩
  repeat (first | simp [F] | simp (disch := omega) only [wC, if_pos, if_neg])
  refine dc 9 rfl (c := wlongA hA3 (ho2 _ _) hw2.tok p2 (by omega)) (k := ?_)
  rintro _ _ ⟨rfl, k3, tk3, hw3, rfl⟩
  refine ⟨by first | exact fun _ _ h => h | (refine later_list [16, 15, 14, 13, 11, 10, 7, 4, 1] (by kernel_rfl) (fc2 ?_ <| fc2 ?_ <| fc2 ?_ <| fc2 ?_ <| fc2 ?_ <| fc2 ?_ <| fc2 ?_ <| fc2 ?_ <| fc2 ?_ <| fn0) <;> constructor <;> first | rfl | (simp [F]; done)), ?_⟩
  repeat (first | simp [F] | simp (disch := omega) only [wC, if_pos, if_neg])
  refine dc 12 rfl (c := wcoinsA hA4 (ho2 _ _) hw3.tok (by omega) (by omega)) (k := ?_)
  rintro _ _ ⟨rfl, k4, tk4, hw4, rfl⟩
  refine ⟨by first | exact fun _ _ h => h | (refine later_list [16, 15, 14, 13, 10, 7, 4, 1] (by kernel_rfl) (fc2 ?_ <| fc2 ?_ <| fc2 ?_ <| fc2 ?_ <| fc2 ?_ <| fc2 ?_ <| fc2 ?_ <| fc2 ?_ <| fn0) <;> constructor <;> first | rfl | (simp [F]; done)), ?_⟩
  repeat (first | simp [F] | simp (disch := omega) only [wC, if_pos, if_neg])
  refine dc 17 rfl (c := wbyteA hA5 (ho2 _ _) hw4.tok (by omega)) (k := ?_)
  rintro _ _ ⟨rfl, k5, tk5, hw5, rfl⟩
  refine ⟨by first | exact fun _ _ h => h | (refine later_list [15, 14, 13, 10, 7, 4, 1] (by kernel_rfl) (fc2 ?_ <| fc2 ?_ <| fc2 ?_ <| fc2 ?_ <| fc2 ?_ <| fc2 ?_ <| fc2 ?_ <| fn0) <;> constructor <;> first | rfl | (simp [F]; done)), ?_⟩
  (repeat (first | simp [F] | simp (disch := omega) only [wC, if_pos, if_neg])); refine dd ?_; refine hJ4 _ _ ?_; refine hK3 _ _ ?_; refine sr fun _ hJ6 => ?_; refine hJ6 _ _ ?_; refine run_block_k ?_; refine run_loopG (X := LSt) [0, 25, 26] (fun q ρ σ1 => (q.i ≤ pp.length) ∧ (Wr σ.toks k l q.tk q.k (Bf q.i)) ∧ (ρ 27 = .v (.int .i64 q.i)) ∧ (σ1 = { σ with objs := σ.objs.set id [wrA q.k (Bf q.i)] ++ [[.v (.int .u8 pk.toNat), .v (.int .u64 ps), .v (.int .u64 pe), .sl 5 (coinsC pt) pt.length .shut, .sl 2 (persC pp) pp.length .shut]], toks := q.tk })) (fun q => pp.length - q.i) (⟨0, k5, tk5⟩) ?st1 ?rd1
  case st1 =>
   refine ⟨lp, ?_, lp, ?_⟩
   · rw [← hB0]
     exact (((hw1.trans hw2).trans hw3).trans hw4).trans hw5
   · simp only [← hB0]
  case rd1 =>
   rintro q ρ1 σ1 hF1 ⟨hj, hq, h27, hσ⟩; obtain rfl := hσ.symm
   have f1 := keepL hF1
   (try simp [KeepL, F] at f1); replace F := aF h27 F; (try replace F := aF f1 F); refine sr fun _ hJ8 => ?_; refine hJ8 _ _ ?_; refine sq fun K9 hK9 => ?_; refine cs (fun c28 => ?_) (fun c28 => ?_)
   · try exact nope c28
     all_goals
      replace F := wf F c28; refine run_skip ?_; refine hK9 _ _ ?_; refine sq fun K10 hK10 => ?_; refine run_block_k ?_; refine sq fun K11 hK11 => ?_
      have hlt2 : q.i < pp.length := by have h := c28; simp at h; omega
      have hat := persC_at hlt2
      have hb1 : q.i * 2 + 2 ≤ pp.length * 2 := by omega
      have hx5 := p5 _ (List.getElem_mem hlt2)
      have hBs1 := hBs _ hlt2
      have hBl1 := hBl q.i hj
      obtain ⟨x, hx⟩ : ∃ x, x = pp[q.i] := ⟨_, rfl⟩
      rw [← hx] at hat hx5 hBs1
      obtain ⟨xl, xc⟩ := x
      simp only at hx5 hBs1
      obtain ⟨C1, hC1⟩ : ∃ C1, C1 = Bf q.i ++ nBytes 8 xl := ⟨_, rfl⟩
      rw [← hC1] at hBs1
      have nC : C1.length = (Bf q.i).length + 8 := by rw [hC1, List.length_append, nBytes_len]
      replace F := aF hlt2 F; replace F := aF hat F; replace F := aF hb1 F; refine rg' (h := fun J12 hJ12 => ?_); refine hJ12 _ _ ?_; refine hK11 _ _ ?_
      refine run_draw (by kernel_rfl) fun J13 hJ13 => ?_
      refine rp2 0 (k := ?_); refine rp2 1 (k := ?_); refine rp2 2 (k := ?_); refine rp2 4 (k := ?_); refine rp2 5 (k := ?_)
      refine dc 3 rfl (c := wlongA hC1 (ho2 _ _) hq.tok hx5.1 (by omega)) (k := ?_)
      rintro _ _ ⟨rfl, k6, tk6, hw6, rfl⟩
      refine ⟨by first | exact fun _ _ h => h | (refine later_list [5, 4, 1] (by kernel_rfl) (fc2 ?_ <| fc2 ?_ <| fc2 ?_ <| fn0) <;> constructor <;> first | rfl | (simp [F]; done)), ?_⟩
      repeat (first | simp [F] | simp (disch := omega) only [wC, if_pos, if_neg])
      refine dc 6 rfl (c := wcoinsA hBs1 (ho2 _ _) hw6.tok (by omega) (by omega)) (k := ?_)
      rintro _ _ ⟨rfl, k7, tk7, hw7, rfl⟩
      refine ⟨by first | exact fun _ _ h => h | (refine later_list [4, 1] (by kernel_rfl) (fc2 ?_ <| fc2 ?_ <| fn0) <;> constructor <;> first | rfl | (simp [F]; done)), ?_⟩
      (repeat (first | simp [F] | simp (disch := omega) only [wC, if_pos, if_neg])); refine dd ?_; refine hJ13 _ _ ?_; refine hK10 _ _ ?_; refine rg' (h := fun J14 hJ14 => ?_); refine hJ14 _ _ ?_; refine ⟨gk, (⟨q.i + 1, k7, tk7⟩), ⟨kpG, lpG, ?_, lpG, ?_⟩, lpG⟩
      · exact (hq.trans hw6).trans hw7
      · simp [St.trimO, F]
   try exact nope c28
   all_goals
    replace F := wf F c28; refine run_exit ?_; (try simp only [Then, InBlock, NoGoto, if_true]); refine answer_none rfl (.inl rfl) ?_
    have hii : q.i = pp.length := by have h := c28; simp at h; omega
    rw [hii, hBA] at hq
    rw [hii, hBA]
    exact ⟨(q.k, q.tk), hq, rfl, _, rfl⟩

end Go.Proofs.Ytdbaddholggkbaa

/-
  The document's writer: numbers and lists of coins.
-/
namespace Go.Proofs.Ytdbaddholggkbaa
set_option linter.unnecessarySimpa false
open Go Go.Vm
set_option linter.unusedSimpArgs false
set_option linter.unusedVariables false
set_option maxRecDepth 100000
attribute [local simp] evalL wantedA isCall opA evalA evalAll evalsA evalOpt ofValue ofCell plain binA_eql_pn binA_neq_pn binA_gtr binA_lss binA_geq binA_leq binA_add binA_sub binA_eql binA_neq binA_or binA_shl binA_shr binA_mul binA_quo binA_rem binA_agg_eql binA_agg_neq convA_int unA_not fieldAddrA loadA partA pickA_true pickA_false pickA_bb lenA builtinA storeA splice AV.cells AV.isCell sliceA boundA intA callOf indexAddrA newObjA buildA fillA zeroA ofCells buildSliceA indexA fieldA coinsC_at
/-! ### Lists of bytes that are being made -/

def tkB (l : List UInt8) : List Nat := if l = [] then [] else [l.length]
@[simp] theorem tkB_nil : tkB [] = [] := rfl
theorem wrA_nil (k : Nat) : wrA k [] = .sl 0 [] 0 .full := rfl
class SmallB (l : List UInt8) : Prop where
  h : l.length ≤ 500000

theorem wk_wrA (k : Nat) (l : List UInt8) : Wk (wrA k l) (.sl 1 (bytesA l) l.length .shut) := by
  unfold wrA
  split
  · rename_i h; subst h; exact Wk.nil _ _ _
  · exact Wk.shut _ _ _ _

theorem append_wrA {l q : List UInt8} {tq : Tail} [hsm : SmallB l] {objs : List (List AV)} {tk : List Nat} {gl : Nat → Option (List AV)} {rows : List RowSt} (hq0 : q ≠ []) (hq : q.length ≤ 100000) :
    appendA Try.prog 47 (wrA tk.length l) (.sl 1 (bytesA q) q.length tq) ⟨objs, tk ++ tkB l, gl, rows⟩ = some (wrA tk.length (l ++ q), ⟨objs, tk ++ tkB (l ++ q), gl, rows⟩) := by
  have hl := hsm.h
  have hv : (Value.int IntKind.u8 0).cells.size = 1 := rfl
  by_cases h : l = []
  · subst h
    have h1 : q.length ≤ 140737488355328 := by omega
    have h2 : q.length ≤ 9223372036854775807 := by omega
    simp [wrA, tkB, appendA, readA, roomA, maxLen, hq0, h1, h2, hv]
  · have h1 : l.length + q.length ≤ 140737488355328 := by omega
    have h2 : l.length + q.length ≤ 9223372036854775807 := by omega
    simp [wrA, tkB, h, appendA, readA, roomA, maxLen, hq0, h1, h2, hv, bytesA_append]

theorem append_byte {l : List UInt8} {b : UInt8} [hsm : SmallB l] {objs : List (List AV)} {tk : List Nat} {gl : Nat → Option (List AV)} {rows : List RowSt} :
    appendA Try.prog 47 (wrA tk.length l) (.sl 1 [.v (.int .u8 b.toNat)] 1 .full) ⟨objs, tk ++ tkB l, gl, rows⟩ = some (wrA tk.length (l ++ [b]), ⟨objs, tk ++ tkB (l ++ [b]), gl, rows⟩) := append_wrA (q := [b]) (by simp) (by simp)

set_option maxHeartbeats 1600000 in
attribute [local simp] undefA List.getElem?_cons_zero List.getElem?_cons_succ in
theorem rflag_ok {σ : St} {b : Bool} : CallsA Try.prog 108 [.v (.bool b)] σ (fun av σ' => av = .sl 1 (bytesA [if b then 1 else 0]) 1 .full ∧ σ = σ') := by
  have hv : (Value.int IntKind.u8 0).cells.size = 1 := rfl
  have F := And.intro hv (True.intro)
  refine callsA_body Try.func108 rfl rfl rfl ?_; refine sr fun _ hJ2 => ?_; refine hJ2 _ _ ?_; refine sq fun K3 hK3 => ?_; refine sr fun _ hJ5 => ?_; refine hJ5 _ _ ?_; refine cs (fun c3 => ?_) (fun c3 => ?_)
  · try exact nope c3
    all_goals
     replace F := wf F c3; refine sr fun _ hJ7 => ?_; refine hJ7 _ _ ?_; refine ra ?_
     have e : b = true := (by simpa using c3)
     subst e
     exact ⟨rfl, rfl⟩
  try exact nope c3
  all_goals
   replace F := wf F c3; refine run_skip ?_; refine hK3 _ _ ?_; refine sr fun _ hJ9 => ?_; refine hJ9 _ _ ?_; refine ra ?_
   have e : b = false := (by simpa using c3)
   subst e
   exact ⟨rfl, rfl⟩

set_option maxHeartbeats 1600000 in
attribute [local simp] undefA List.getElem?_cons_zero List.getElem?_cons_succ append_byte in
theorem rlong_ok {σ : St} {n size : Nat} (hn : n < 2 ^ 64) (hsz : size ≤ 8) :
    CallsA Try.prog 44 [.v (.int .u64 n), .v (.int .i64 size)] σ (fun av σ' => av = .sl 1 (bytesA (nBytes size n)) size .shut ∧ σ = σ') := by
  refine callsA_gcS ?_ (by simp [AV.under])
  have hv : (Value.int IntKind.u8 0).cells.size = 1 := rfl
  have F := And.intro hv (True.intro)
  refine callsA_body Try.func44 rfl rfl rfl ?_; refine sr fun _ hJ2 => ?_; refine hJ2 _ _ ?_; refine sr fun _ hJ4 => ?_; refine hJ4 _ _ ?_; refine sq fun K5 hK5 => ?_; refine sr fun _ hJ7 => ?_; refine hJ7 _ _ ?_; refine run_block_k ?_; refine run_loopF (X := Nat) [0, 4] (fun q ρ σ1 => (q ≤ size) ∧ (ρ 5 = wrA σ.toks.length ((nBytes size n).take q)) ∧ (ρ 6 = .v (.int .i64 ((size : Int) - 1 - q))) ∧ (σ1 = { σ with toks := σ.toks ++ tkB ((nBytes size n).take q) })) (fun q => size - q) (0) ?st1 ?rd1
  case st1 =>
   refine ⟨lp, ?_, lp, lp⟩
   · simp [wrA_nil]
  case rd1 =>
   rintro q ρ1 σ1 hF1 ⟨hj, h5, h6, hσ⟩; obtain rfl := hσ.symm
   have f1 := keepL hF1
   (try simp [KeepL, F] at f1); replace F := aF h5 F; replace F := aF h6 F; (try replace F := aF f1 F); refine sq fun K8 hK8 => ?_; refine sr fun _ hJ10 => ?_; refine hJ10 _ _ ?_; refine cs (fun c10 => ?_) (fun c10 => ?_)
   · try exact nope c10
     all_goals
      replace F := wf F c10; refine run_skip ?_; refine hK8 _ _ ?_; refine sq fun K11 hK11 => ?_; refine run_block_k ?_
      obtain ⟨i, hi⟩ : ∃ i, i = size - 1 - q := ⟨_, rfl⟩
      have he : (size : Int) - 1 - q = (i : Int) := by omega
      have hi8 : i < 8 := by omega
      obtain ⟨b, hb⟩ : ∃ b, b = UInt8.ofNat (n / 2 ^ (8 * i) % 256) := ⟨_, rfl⟩
      have hbn : b.toNat = n / 2 ^ (8 * i) % 256 := by rw [hb]; exact toNat_ofNat (by omega)
      have hnx : (nBytes size n).take (q + 1) = (nBytes size n).take q ++ [b] := by rw [take_snoc (by rw [nBytes_len]; omega)]; simp [nBytes, hb, hi]
      have : SmallB ((nBytes size n).take q) := ⟨by simp [nBytes_len]; omega⟩
      have hnn : ¬ 8 * (i : Int) < 0 := by omega
      have hsh : Int.fdiv (n : Int) (2 ^ (min (8 * (i : Int)).toNat 64)) = ((n / 2 ^ (8 * i) : Nat) : Int) := by rw [show min (8 * (i : Int)).toNat 64 = 8 * i by omega, Int.fdiv_eq_ediv_of_nonneg _ (by exact Int.le_of_lt (Int.pow_pos (by omega)))]; simp
      have hcv : IntKind.u8.wrap ((n / 2 ^ (8 * i) : Nat) : Int) = (b.toNat : Int) := by rw [wrap_u8, hbn]
      generalize n / 2 ^ (8 * i) = z at *
      replace F := aF he F; replace F := aF hnn F; replace F := aF hsh F; replace F := aF hcv F; refine rg' (h := fun J12 hJ12 => ?_); refine hJ12 _ _ ?_; refine hK11 _ _ ?_; refine rg' (h := fun J13 hJ13 => ?_); refine hJ13 _ _ ?_; refine ⟨(q + 1), ⟨kp, lp, ?_, ?_, ?_⟩, lp⟩
      · simp [hnx]
      · simp
        omega
      · simp [hnx]
   try exact nope c10
   all_goals
    replace F := wf F c10; refine run_exit ?_; refine hK5 _ _ ?_; refine sr fun _ hJ15 => ?_; refine hJ15 _ _ ?_; refine ra ?_
    have hfull : (nBytes size n).take q = nBytes size n := List.take_of_length_le (by rw [nBytes_len]; simp at c10; omega)
    have hwk := wk_wrA σ.toks.length (nBytes size n)
    rw [nBytes_len] at hwk
    rw [hfull]
    exact ⟨by simpa [F, hfull] using hwk, [], tkB (nBytes size n), [], by simp⟩

/-! ### The sixteen digits of a number -/
def dgA (l : List Nat) : List AV := l.map fun d => .v (.int .u64 (d : Nat))
def slD (k : Nat) (l : List Nat) : AV := if l = [] then .sl 0 [] 0 .full else .sl 1 (dgA l) l.length (.own k)
def tkD (l : List Nat) : List Nat := if l = [] then [] else [l.length]
@[simp] theorem tkD_nil : tkD [] = [] := rfl
theorem slD_nil (k : Nat) : slD k [] = .sl 0 [] 0 .full := rfl
@[simp] theorem dgA_len (l : List Nat) : (dgA l).length = l.length := by simp [dgA]
theorem under_dgA (B : Bd) : ∀ l : List Nat, underL B (dgA l) = true
  | [] => rfl
  | d :: l => under_dgA B l
class SmallN (l : List Nat) : Prop where
  h : l.length ≤ 1000
theorem wk_slD (k : Nat) (l : List Nat) : Wk (slD k l) (.sl 1 (dgA l) l.length .shut) := by
  unfold slD
  split
  · rename_i h; subst h; exact Wk.nil _ _ _
  · exact Wk.shut _ _ _ _
theorem append_digit {l : List Nat} {d : Nat} [hsm : SmallN l] {objs : List (List AV)} {tk : List Nat} {gl : Nat → Option (List AV)} {rows : List RowSt} :
    appendA Try.prog 146 (slD tk.length l) (.sl 1 [.v (.int .u64 (d : Nat))] 1 .full) ⟨objs, tk ++ tkD l, gl, rows⟩ = some (slD tk.length (l ++ [d]), ⟨objs, tk ++ tkD (l ++ [d]), gl, rows⟩) := by
  have hl := hsm.h
  have hv : (Value.int IntKind.u64 0).cells.size = 1 := rfl
  by_cases h : l = []
  · subst h
    simp [slD, tkD, appendA, readA, roomA, maxLen, hv, dgA]
  · have h1 : (l.length + 1) * 8 ≤ 140737488355328 := by omega
    have h2 : l.length + 1 ≤ 9223372036854775807 := by omega
    simp [slD, tkD, h, appendA, readA, roomA, maxLen, h1, h2, hv, dgA]

def digsE (x : Nat) : List Nat := (List.range 16).map fun i => x / 65536 ^ i % 65536
theorem digsE_len (x : Nat) : (digsE x).length = 16 := by simp [digsE]
theorem limb_digE {x i : Nat} (hi : i < 16) : limb x (i / 4) / 2 ^ (16 * (i % 4)) % 65536 = x / 65536 ^ i % 65536 := by
  have e : (65536 : Nat) ^ i = 2 ^ (16 * i) := by rw [Nat.pow_mul]
  rw [e]
  apply Nat.eq_of_testBit_eq
  intro j
  rw [show (65536 : Nat) = 2 ^ 16 by rfl]
  simp only [Nat.testBit_mod_two_pow, Nat.testBit_div_two_pow, limb_bit]
  by_cases hj : j < 16
  · have h1 : 16 * (i % 4) + j < 64 := by omega
    have h2 : 64 * (i / 4) + (j + 16 * (i % 4)) = j + 16 * i := by omega
    simp [hj, h2]
    omega
  · simp [hj]

set_option maxHeartbeats 1600000 in
attribute [local simp] undefA List.getElem?_cons_zero List.getElem?_cons_succ append_digit in
theorem digitsE_ok {σ : St} {x : Nat} :
    CallsA Try.prog 127 [.agg (numA x)] σ (fun av σ' => av = .sl 1 (dgA (digsE x)) 16 .shut ∧ σ = σ') := by
  refine callsA_gcS ?_ (by simp [AV.under, under_dgA])
  have hv : (Value.int IntKind.u64 0).cells.size = 1 := rfl
  have F := And.intro hv (True.intro)
  refine callsA_body Try.func127 rfl rfl rfl ?_; refine sr fun _ hJ2 => ?_; refine hJ2 _ _ ?_; refine sr fun _ hJ4 => ?_; refine hJ4 _ _ ?_; refine sq fun K5 hK5 => ?_; refine sr fun _ hJ7 => ?_; refine hJ7 _ _ ?_; refine run_block_k ?_; refine run_loopF (X := Nat) [1, 2] (fun i ρ σ1 => (i ≤ 16) ∧ (ρ 3 = slD σ.toks.length ((digsE x).take i)) ∧ (ρ 4 = .v (.int .i64 i)) ∧ (σ1 = { σ with objs := σ.objs ++ [numA x], toks := σ.toks ++ tkD ((digsE x).take i) })) (fun i => 16 - i) (0) ?st1 ?rd1
  case st1 =>
   refine ⟨lp, ?_, lp, lp⟩
   · simp [slD_nil]
  case rd1 =>
   rintro i ρ1 σ1 hF1 ⟨hj, h3, h4, hσ⟩; obtain rfl := hσ.symm
   have f1 := keepL hF1
   (try simp [KeepL, F] at f1); replace F := aF h3 F; replace F := aF h4 F; (try replace F := aF f1 F); refine sq fun K8 hK8 => ?_; refine sr fun _ hJ10 => ?_; refine hJ10 _ _ ?_; refine cs (fun c6 => ?_) (fun c6 => ?_)
   · try exact nope c6
     all_goals
      replace F := wf F c6; refine run_skip ?_; refine hK8 _ _ ?_; refine sq fun K11 hK11 => ?_; refine run_block_k ?_
      obtain ⟨q, hq⟩ : ∃ q, q = i / 4 := ⟨_, rfl⟩
      obtain ⟨r, hr⟩ : ∃ r, r = i % 4 := ⟨_, rfl⟩
      have hq4 : q < 4 := by omega
      have hq5 : (q : Int) < 4 := by omega
      have hr8 : r < 4 := by omega
      have hqq : IntKind.i64.wrap ((i : Int).tdiv 4) = (q : Int) := by rw [Int.tdiv_eq_ediv_of_nonneg (by omega), wrap_i64 _ (by omega) (by omega)]; omega
      have hrr : (i : Int).tmod 4 = (r : Int) := by rw [Int.tmod_eq_emod_of_nonneg (by omega)]; omega
      have hq2 : IntKind.i64.wrap ((i : Int) / 4) = (q : Int) := by rw [wrap_i64 _ (by omega) (by omega)]; omega
      have hr2 : (i : Int) % 4 = (r : Int) := by omega
      have hnn : ¬ 16 * (r : Int) < 0 := by omega
      obtain ⟨m, hm⟩ : ∃ m, m = limb x q / 2 ^ (16 * r) := ⟨_, rfl⟩
      obtain ⟨y, hy⟩ : ∃ y, y = x / 65536 ^ i % 65536 := ⟨_, rfl⟩
      have hmy : m % 65536 = y := by rw [hm, hq, hr, hy]; exact limb_digE (by omega)
      have hsh : Int.fdiv ((limb x q : Nat) : Int) (2 ^ (min (16 * (r : Int)).toNat 64)) = (m : Int) := by rw [show min (16 * (r : Int)).toNat 64 = 16 * r by omega, Int.fdiv_eq_ediv_of_nonneg _ (by exact Int.le_of_lt (Int.pow_pos (by omega))), hm]; simp
      have hmd : (m : Int).tmod 65536 = (y : Int) := by rw [Int.tmod_eq_emod_of_nonneg (by omega)]; omega
      have hmd2 : (m : Int) % 65536 = (y : Int) := by omega
      have hget := numA_get x hq4
      have hnx : (digsE x).take (i + 1) = (digsE x).take i ++ [y] := by rw [take_snoc (by rw [digsE_len]; omega)]; simp [digsE, hy]
      have : SmallN ((digsE x).take i) := ⟨by simp [digsE_len]; omega⟩
      replace F := aF hqq F; replace F := aF hrr F; replace F := aF hq2 F; replace F := aF hr2 F; replace F := aF hq4 F; replace F := aF hq5 F; replace F := aF hnn F; replace F := aF hsh F; replace F := aF hmd F; replace F := aF hmd2 F; replace F := aF hget F; refine rg' (h := fun J12 hJ12 => ?_); refine hJ12 _ _ ?_; refine hK11 _ _ ?_; refine rg' (h := fun J13 hJ13 => ?_); refine hJ13 _ _ ?_; refine ⟨(i + 1), ⟨kp, lp, ?_, lp, ?_⟩, lp⟩
      · simp [hnx]
      · simp [hnx]
   try exact nope c6
   all_goals
    replace F := wf F c6; refine run_exit ?_; refine hK5 _ _ ?_; refine sr fun _ hJ15 => ?_; refine hJ15 _ _ ?_; refine ra ?_
    have hfull : (digsE x).take i = digsE x := List.take_of_length_le (by rw [digsE_len]; simp at c6; omega)
    have hwk := wk_slD σ.toks.length (digsE x)
    rw [digsE_len] at hwk
    rw [hfull]
    exact ⟨by simpa [F, hfull] using hwk, [numA x], tkD (digsE x), [], by simp⟩

end Go.Proofs.Ytdbaddholggkbaa

/-
  The document's writer: a number's bytes, numbers and lists of coins.
-/
namespace Go.Proofs.Ytdbaddholggkbaa
set_option linter.unnecessarySimpa false
open Go Go.Vm
set_option linter.unusedSimpArgs false
set_option linter.unusedVariables false
set_option maxRecDepth 100000
attribute [local simp] evalL wantedA isCall opA evalA evalAll evalsA evalOpt ofValue ofCell plain binA_eql_pn binA_neq_pn binA_gtr binA_lss binA_geq binA_leq binA_add binA_sub binA_eql binA_neq binA_or binA_shl binA_shr binA_mul binA_quo binA_rem binA_agg_eql binA_agg_neq convA_int unA_not fieldAddrA loadA partA pickA_true pickA_false pickA_bb lenA_sl builtinA storeA splice AV.cells AV.isCell sliceA boundA intA callOf indexAddrA newObjA buildA fillA zeroA ofCells buildSliceA indexA fieldA coinsC_at

theorem len_wrA (k : Nat) (l : List UInt8) : lenA Try.prog 47 (wrA k l) = some (.v (.int .i64 (l.length : Nat))) := by
  unfold wrA
  split
  · rename_i h; subst h; simp [lenA]
  · simp [lenA]

theorem dig_byteE {x i : Nat} : x / 65536 ^ (i / 2) % 65536 / 2 ^ (8 * (i % 2)) % 256 = x / 256 ^ i % 256 := by
  have e : (256 : Nat) ^ i = 2 ^ (8 * i) := by rw [Nat.pow_mul]
  have e2 : (65536 : Nat) ^ (i / 2) = 2 ^ (16 * (i / 2)) := by rw [Nat.pow_mul]
  rw [e, e2]
  apply Nat.eq_of_testBit_eq
  intro j
  rw [show (65536 : Nat) = 2 ^ 16 by rfl, show (256 : Nat) = 2 ^ 8 by rfl]
  simp only [Nat.testBit_mod_two_pow, Nat.testBit_div_two_pow]
  by_cases hj : j < 8
  · have h1 : j + 8 * (i % 2) < 16 := by omega
    have h2 : j + 8 * (i % 2) + 16 * (i / 2) = j + 8 * i := by omega
    simp [hj, h1, h2]
  · simp [hj]

theorem digsE_get {x q : Nat} (hq : q < 16) : (dgA (digsE x))[q]? = some (.v (.int .u64 (x / 65536 ^ q % 65536 : Nat))) := by
  simp [dgA, digsE, hq]

theorem append_byte0 {l : List UInt8} [hsm : SmallB l] {objs : List (List AV)} {tk : List Nat} {gl : Nat → Option (List AV)} {rows : List RowSt} :
    appendA Try.prog 47 (wrA tk.length l) (.sl 1 [.v (.int .u8 0)] 1 .full) ⟨objs, tk ++ tkB l, gl, rows⟩ = some (wrA tk.length (l ++ [0]), ⟨objs, tk ++ tkB (l ++ [0]), gl, rows⟩) := append_byte (b := 0)

set_option maxHeartbeats 1600000 in
attribute [local simp] undefA List.getElem?_cons_zero List.getElem?_cons_succ append_byte append_byte0 len_wrA in
theorem rbytes_ok {σ : St} {x : Nat} (hx : x < 2 ^ 256) :
    CallsA Try.prog 136 [.agg (numA x)] σ (fun av σ' => av = .sl 1 (bytesA (natBytes x)) (natBytes x).length .shut ∧ σ = σ') := by
  refine callsA_gcS ?_ (by simp [AV.under])
  have hv : (Value.int IntKind.u8 0).cells.size = 1 := rfl
  have F := And.intro hv (True.intro)
  refine callsA_body Try.func136 rfl rfl rfl ?_; refine sr fun _ hJ2 => ?_; refine hJ2 _ _ ?_; refine sr fun _ hJ4 => ?_; refine cb (c := digitsE_ok) (k := ?_); refine hJ4 _ _ ?_; refine sr fun _ hJ6 => ?_; refine hJ6 _ _ ?_; refine sq fun K7 hK7 => ?_; refine sr fun _ hJ9 => ?_; refine hJ9 _ _ ?_; refine run_block_k ?_
  have h00 : x / 256 ^ 32 = 0 := Nat.div_eq_of_lt (by simpa using hx)
  refine run_loopF (X := Nat) [2, 3] (fun k ρ σ1 => (k ≤ 32) ∧ (ρ 4 = wrA σ.toks.length (natBytes (x / 256 ^ k))) ∧ (ρ 5 = .v (.int .i64 ((k : Int) - 1))) ∧ ((natBytes (x / 256 ^ k)).length ≤ 32 - k) ∧ (σ1 = { σ with objs := σ.objs ++ [numA x], toks := σ.toks ++ tkB (natBytes (x / 256 ^ k)) })) (fun k => k) (32) ?st1 ?rd1
  case st1 =>
   refine ⟨lp, ?_, lp, ?_, ?_⟩
   · rw [h00, natBytes_zero]
     simp [wrA_nil]
   · rw [h00, natBytes_zero]
     simp
   · rw [h00, natBytes_zero]
     simp
  case rd1 =>
   rintro k ρ1 σ1 hF1 ⟨hj, h4, h5, hl, hσ⟩; obtain rfl := hσ.symm
   have f1 := keepL hF1
   (try simp [KeepL, F] at f1); replace F := aF h4 F; replace F := aF h5 F; (try replace F := aF f1 F); refine sq fun K10 hK10 => ?_; refine sr fun _ hJ12 => ?_; refine hJ12 _ _ ?_; refine cs (fun c10 => ?_) (fun c10 => ?_)
   · try exact nope c10
     all_goals
      replace F := wf F c10; refine run_skip ?_; refine hK10 _ _ ?_; refine sq fun K13 hK13 => ?_; refine run_block_k ?_; refine sq fun K14 hK14 => ?_
      obtain ⟨i, rfl⟩ : ∃ i, k = i + 1 := ⟨k - 1, by simp at c10; omega⟩
      have hki : ((i + 1 : Nat) : Int) - 1 = (i : Int) := by omega
      obtain ⟨q, hq⟩ : ∃ q, q = i / 2 := ⟨_, rfl⟩
      obtain ⟨r, hr⟩ : ∃ r, r = i % 2 := ⟨_, rfl⟩
      have hq4 : q < 16 := by omega
      have hq5 : (q : Int) < 16 := by omega
      have hr8 : r < 2 := by omega
      have hqq : IntKind.i64.wrap ((i : Int).tdiv 2) = (q : Int) := by rw [Int.tdiv_eq_ediv_of_nonneg (by omega), wrap_i64 _ (by omega) (by omega)]; omega
      have hrr : (i : Int).tmod 2 = (r : Int) := by rw [Int.tmod_eq_emod_of_nonneg (by omega)]; omega
      have hq2 : IntKind.i64.wrap ((i : Int) / 2) = (q : Int) := by rw [wrap_i64 _ (by omega) (by omega)]; omega
      have hr2 : (i : Int) % 2 = (r : Int) := by omega
      have hnn : ¬ 8 * (r : Int) < 0 := by omega
      obtain ⟨m, hm⟩ : ∃ m, m = x / 65536 ^ q % 65536 := ⟨_, rfl⟩
      have hget := digsE_get (x := x) hq4
      rw [← hm] at hget
      obtain ⟨c, hc⟩ : ∃ c, c = UInt8.ofNat (x / 256 ^ i % 256) := ⟨_, rfl⟩
      have hcn : c.toNat = x / 256 ^ i % 256 := by rw [hc]; exact toNat_ofNat (by omega)
      have hmy : m / 2 ^ (8 * r) % 256 = c.toNat := by rw [hm, hq, hr, hcn]; exact dig_byteE
      have hsh : Int.fdiv (m : Int) (2 ^ (min (8 * (r : Int)).toNat 64)) = ((m / 2 ^ (8 * r) : Nat) : Int) := by rw [show min (8 * (r : Int)).toNat 64 = 8 * r by omega, Int.fdiv_eq_ediv_of_nonneg _ (by exact Int.le_of_lt (Int.pow_pos (by omega)))]; simp
      have hcv : IntKind.u8.wrap ((m / 2 ^ (8 * r) : Nat) : Int) = (c.toNat : Int) := by rw [wrap_u8, hmy]
      generalize m / 2 ^ (8 * r) = z at *
      have : SmallB (natBytes (x / 256 ^ (i + 1))) := ⟨by omega⟩
      replace F := aF hki F; replace F := aF hqq F; replace F := aF hrr F; replace F := aF hq2 F; replace F := aF hr2 F; replace F := aF hq4 F; replace F := aF hq5 F; replace F := aF hnn F; replace F := aF hsh F; replace F := aF hcv F; replace F := aF hget F; refine rg' (h := fun J15 hJ15 => ?_); refine hJ15 _ _ ?_; refine hK14 _ _ ?_; refine sr fun _ hJ17 => ?_; refine gs 25 (fun g7_2 => ?_) (fun g7_2 => ?_)
      · try exact nope g7_2
        all_goals
         replace F := wf F g7_2
         have e : natBytes (x / 256 ^ i) = natBytes (x / 256 ^ (i + 1)) ++ [c] := by rw [hc]; exact nb1 (.inl (by simp at g7_2; omega))
         (iterate 3 refine no2 (k := ?_)); refine hJ17 _ _ ?_; refine ct ?_; refine rg' (h := fun J18 hJ18 => ?_); refine hJ18 _ _ ?_; refine hK13 _ _ ?_; refine rg' (h := fun J19 hJ19 => ?_); refine hJ19 _ _ ?_; refine ⟨(i), ⟨kp, lp, ?_, lp, ?_, ?_⟩, lp⟩
         · simp [e]
         · rw [e]
           simp
           omega
         · simp [e]
      try exact nope g7_2
      all_goals
       replace F := wf F g7_2; (iterate 3 refine go2 (k := ?_)); refine hJ17 _ _ ?_; refine cs (fun c29 => ?_) (fun c29 => ?_)
       · try exact nope c29
         all_goals
          replace F := wf F c29; (try (have g7 : c.toNat = 0 := by simp at g7_2; omega)); (try have hc0 : c = 0 := UInt8.toNat_inj.1 (by simpa using g7)); (try have e : natBytes (x / 256 ^ i) = natBytes (x / 256 ^ (i + 1)) ++ [c] := by rw [hc]; exact nb1 (.inr (by simpa using c29))); refine rg' (h := fun J20 hJ20 => ?_); refine hJ20 _ _ ?_; refine hK13 _ _ ?_; refine rg' (h := fun J21 hJ21 => ?_); refine hJ21 _ _ ?_; refine ⟨(i), ⟨kp, lp, ?_, lp, ?_, ?_⟩, lp⟩
          · simp [e, hc0]
          · rw [e]
            simp
            omega
          · simp [e, hc0]
       try exact nope c29
       all_goals
        replace F := wf F c29
        have g7 : c.toNat = 0 := by simp at g7_2; omega
        have e : natBytes (x / 256 ^ i) = natBytes (x / 256 ^ (i + 1)) := nb2 (by omega) (by simpa using c29)
        refine run_skip ?_; refine hK13 _ _ ?_; refine rg' (h := fun J22 hJ22 => ?_); refine hJ22 _ _ ?_; refine ⟨(i), ⟨kp, lp, ?_, lp, ?_, ?_⟩, lp⟩
        · rw [e]
          simp [F]
        · rw [e]
          omega
        · rw [e]
          simp [F]
   try exact nope c10
   all_goals
    replace F := wf F c10; refine run_exit ?_; refine hK7 _ _ ?_; refine sr fun _ hJ24 => ?_; refine hJ24 _ _ ?_; refine ra ?_
    have hk0 : k = 0 := by simp at c10; omega
    subst hk0
    simp only [Nat.pow_zero, Nat.div_one]
    exact ⟨wk_wrA _ _, [numA x], tkB (natBytes x), [], by simp⟩

set_option maxHeartbeats 1600000 in
attribute [local simp] undefA List.getElem?_cons_zero List.getElem?_cons_succ appendA readA roomA maxLen in
theorem rnum_ok {σ : St} {x : Nat} (hx : x < 2 ^ 256) :
    CallsA Try.prog 107 [.agg (numA x)] σ (fun av σ' => av = .sl 1 (bytesA (encN x)) (encN x).length .shut ∧ σ = σ') := by
  refine callsA_gcS ?_ (by simp [AV.under])
  have hv : (Value.int IntKind.u8 0).cells.size = 1 := rfl
  have hlen : (natBytes x).length ≤ 32 := natBytes_len x 32 (by simpa using hx)
  obtain ⟨c, hc⟩ : ∃ c, c = UInt8.ofNat (natBytes x).length := ⟨_, rfl⟩
  have hcn : c.toNat = (natBytes x).length := by rw [hc]; exact toNat_ofNat (by omega)
  have hw : IntKind.u8.wrap ((natBytes x).length : Int) = (c.toNat : Int) := by rw [wrap_u8, hcn, Nat.mod_eq_of_lt (by omega)]
  have h1 : 1 + (natBytes x).length ≤ 140737488355328 := by omega
  have h2 : 1 + (natBytes x).length ≤ 9223372036854775807 := by omega
  have he : encN x = c :: natBytes x := by simp [encN, hc]
  have hwk : Wk (.sl 1 (.v (.int .u8 c.toNat) :: bytesA (natBytes x)) (1 + (natBytes x).length) (.own σ.toks.length)) (.sl 1 (bytesA (encN x)) (encN x).length .shut) := by
    rw [he, List.length_cons, Nat.add_comm]
    exact Wk.shut 1 (bytesA (c :: natBytes x)) _ _
  have F := And.intro hv (And.intro hw (And.intro h1 (And.intro h2 (True.intro))))
  refine callsA_body Try.func107 rfl rfl rfl ?_; refine sr fun _ hJ2 => ?_; refine hJ2 _ _ ?_; refine sr fun _ hJ4 => ?_; refine cb (c := rbytes_ok hx) (k := ?_); refine hJ4 _ _ ?_; refine sr fun _ hJ6 => ?_; refine hJ6 _ _ ?_; refine ra ?_; exact ⟨hwk, [numA x], [1 + (natBytes x).length], [], by simp⟩

/-! ### A list that begins with one byte of its own -/
def wrF (k : Nat) (first : Bool) (l : List UInt8) : AV := .sl 1 (bytesA l) l.length (if first then .full else .own k)
def tkF (first : Bool) (l : List UInt8) : List Nat := if first then [] else [l.length]
theorem wk_wrF (k : Nat) (b : Bool) (l : List UInt8) : Wk (wrF k b l) (.sl 1 (bytesA l) l.length .shut) := Wk.shut _ _ _ _
theorem append_wrF {l q : List UInt8} {tq : Tail} {first : Bool} [hsm : SmallB l] {objs : List (List AV)} {tk : List Nat} {gl : Nat → Option (List AV)} {rows : List RowSt} (hq : q.length ≤ 100000) :
    appendA Try.prog 47 (wrF tk.length first l) (.sl 1 (bytesA q) q.length tq) ⟨objs, tk ++ tkF first l, gl, rows⟩ = some (wrF tk.length false (l ++ q), ⟨objs, tk ++ tkF false (l ++ q), gl, rows⟩) := by
  have hl := hsm.h
  have hv : (Value.int IntKind.u8 0).cells.size = 1 := rfl
  have h1 : l.length + q.length ≤ 140737488355328 := by omega
  have h2 : l.length + q.length ≤ 9223372036854775807 := by omega
  cases first <;> simp [wrF, tkF, appendA, readA, roomA, maxLen, h1, h2, hv, bytesA_append]
theorem append_wrF1 {l : List UInt8} {b : UInt8} {first : Bool} [hsm : SmallB l] {objs : List (List AV)} {tk : List Nat} {gl : Nat → Option (List AV)} {rows : List RowSt} :
    appendA Try.prog 47 (wrF tk.length first l) (.sl 1 [.v (.int .u8 b.toNat)] 1 .full) ⟨objs, tk ++ tkF first l, gl, rows⟩ = some (wrF tk.length false (l ++ [b]), ⟨objs, tk ++ tkF false (l ++ [b]), gl, rows⟩) := append_wrF (q := [b]) (by simp)

set_option maxHeartbeats 1600000 in
attribute [local simp] undefA List.getElem?_cons_zero List.getElem?_cons_succ append_wrF1 coinC in
theorem rcoinsW_ok {σ : St} {L : List Coin} {tL : Tail} (hL : L.length ≤ 255) :
    CallsA Try.prog 90 [.sl 5 (coinsC L) L.length tL] σ (fun av σ' => av = .sl 1 (bytesA (encL L)) (encL L).length .shut ∧ σ = σ') := by
  refine callsA_gcS ?_ (by simp [AV.under])
  have hv : (Value.int IntKind.u8 0).cells.size = 1 := rfl
  obtain ⟨c, hc⟩ : ∃ c, c = UInt8.ofNat L.length := ⟨_, rfl⟩
  have hcn : c.toNat = L.length := by rw [hc]; exact toNat_ofNat (by omega)
  have hw : IntKind.u8.wrap (L.length : Int) = (c.toNat : Int) := by rw [wrap_u8, hcn, Nat.mod_eq_of_lt (by omega)]
  have hlA : lenA Try.prog 23 (.sl 5 (coinsC L) L.length tL) = some (.v (.int .i64 (L.length : Nat))) := by simp [lenA]
  have F := And.intro hv (And.intro hw (And.intro hlA (True.intro)))
  refine callsA_body Try.func90 rfl rfl rfl ?_; refine sr fun _ hJ2 => ?_; refine hJ2 _ _ ?_; refine sr fun _ hJ4 => ?_; refine hJ4 _ _ ?_; refine sq fun K5 hK5 => ?_; refine sr fun _ hJ7 => ?_; refine hJ7 _ _ ?_; refine run_block_k ?_; refine run_loopF (X := Nat) [0, 2] (fun j ρ σ1 => (j ≤ L.length) ∧ (ρ 3 = wrF σ.toks.length (decide (j = 0)) (c :: encCs (L.take j))) ∧ (ρ 4 = .v (.int .i64 j)) ∧ (σ1 = { σ with toks := σ.toks ++ tkF (decide (j = 0)) (c :: encCs (L.take j)) })) (fun j => L.length - j) (0) ?st1 ?rd1
  case st1 =>
   refine ⟨lp, ?_, lp, ?_⟩
   · simp [wrF, encCs, bytesA]
   · simp [tkF]
  case rd1 =>
   rintro j ρ1 σ1 hF1 ⟨hj, h3, h4, hσ⟩; obtain rfl := hσ.symm
   have f1 := keepL hF1
   (try simp [KeepL, F] at f1); replace F := aF h3 F; replace F := aF h4 F; (try replace F := aF f1 F); refine sq fun K8 hK8 => ?_; refine sr fun _ hJ10 => ?_; refine hJ10 _ _ ?_; refine cs (fun c12 => ?_) (fun c12 => ?_)
   · try exact nope c12
     all_goals
      replace F := wf F c12; refine run_skip ?_; refine hK8 _ _ ?_; refine sq fun K11 hK11 => ?_; refine run_block_k ?_; refine sq fun K12 hK12 => ?_
      have hel := encCs_len (L.take j)
      have htl : (L.take j).length ≤ 255 := by simp; omega
      have : SmallB (c :: encCs (L.take j)) := ⟨by simp; omega⟩
      have : SmallB (c :: (encCs (L.take j) ++ [L[j].d])) := ⟨by simp; omega⟩
      have e3 : encCs (L.take (j + 1)) = encCs (L.take j) ++ L[j].d :: encN L[j].n.v := by rw [take_snoc (by simp at c12; omega), encCs_snoc]; rfl
      have hq1 : (encN L[j].n.v).length ≤ 33 := by have := natBytes_len L[j].n.v 32 (by simpa using L[j].n.h); simp [encN]; omega
      have hap := fun (o : List (List AV)) => append_wrF (first := false) (l := c :: (encCs (L.take j) ++ [L[j].d])) (q := encN L[j].n.v) (tq := .shut) (objs := o) (tk := σ.toks) (gl := σ.gl) (rows := σ.rows) (by omega)
      replace F := aF hap F; refine rg' (h := fun J13 hJ13 => ?_); refine hJ13 _ _ ?_; refine hK12 _ _ ?_; refine rg' (h := fun J14 hJ14 => ?_); refine cb (c := rnum_ok L[j].n.h) (k := ?_); refine hJ14 _ _ ?_; refine hK11 _ _ ?_; refine rg' (h := fun J15 hJ15 => ?_); refine hJ15 _ _ ?_; refine ⟨(j + 1), ⟨kp, lp, ?_, lp, ?_⟩, lp⟩
      · simp [e3]
      · simp [e3]
   try exact nope c12
   all_goals
    replace F := wf F c12; refine run_exit ?_; refine hK5 _ _ ?_; refine sr fun _ hJ17 => ?_; refine hJ17 _ _ ?_; refine ra ?_
    have hfull : L.take j = L := List.take_of_length_le (by simp at c12; omega)
    have e2 : c :: encCs L = encL L := (by simp [encL, hc])
    rw [hfull, e2]
    exact ⟨wk_wrF _ _ _, [], tkF (decide (j = 0)) (encL L), [], by simp⟩

end Go.Proofs.Ytdbaddholggkbaa

/-
  A plan's bytes, by the document..
-/
namespace Go.Proofs.Ytdbaddholggkbaa
set_option linter.unnecessarySimpa false
set_option maxRecDepth 100000
open Go Go.Vm
set_option linter.unusedSimpArgs false
set_option linter.unusedVariables false
attribute [local simp] evalL wantedA isCall opA evalA evalAll evalsA evalOpt ofValue ofCell plain binA_eql_pn binA_neq_pn binA_gtr binA_lss binA_geq binA_leq binA_add binA_sub binA_eql binA_neq binA_orI binA_andI binA_shl binA_shr binA_mul binA_quo binA_rem binA_agg_eql binA_agg_neq convA_int unA_not fieldAddrA loadA partA pickA_true pickA_false pickA_bb lenA builtinA storeA splice AV.cells AV.isCell sliceA boundA intA callOf indexAddrA newObjA buildA fillA zeroA ofCells buildSliceA indexA fieldA numA_len4 numA_take4 numA_drop4 set_appN get_appN take_appN List.getElem?_cons_zero List.getElem?_cons_succ makeA zeros64

theorem ap0 {q A : List UInt8} {b : UInt8} {m : Nat} {tq : Tail} {objs : List (List AV)} {tk : List Nat} {gl : Nat → Option (List AV)} {rows : List RowSt} (hA : A = b :: q) (hm : q.length = m) (hq : m ≤ 100000) :
    appendA Try.prog 47 (.sl 1 [.v (.int .u8 b.toNat)] 1 .full) (.sl 1 (bytesA q) m tq) ⟨objs, tk, gl, rows⟩ = some (.sl 1 (bytesA A) A.length (.own tk.length), ⟨objs, tk ++ [A.length], gl, rows⟩) := by
  subst hA hm
  have : SmallB [b] := ⟨by simp⟩
  have h := append_wrF (l := [b]) (q := q) (tq := tq) (first := true) (objs := objs) (tk := tk) (gl := gl) (rows := rows) hq
  simpa [wrF, tkF, bytesA] using h
theorem apO {l q A : List UInt8} {m : Nat} {tq : Tail} {objs : List (List AV)} {tk : List Nat} {gl : Nat → Option (List AV)} {rows : List RowSt} (hA : A = l ++ q) (hm : q.length = m) (hl : l.length ≤ 400000) (hq : m ≤ 100000) :
    appendA Try.prog 47 (.sl 1 (bytesA l) l.length (.own tk.length)) (.sl 1 (bytesA q) m tq) ⟨objs, tk ++ [l.length], gl, rows⟩ = some (.sl 1 (bytesA A) A.length (.own tk.length), ⟨objs, tk ++ [A.length], gl, rows⟩) := by
  subst hA hm
  have : SmallB l := ⟨by omega⟩
  have h := append_wrF (l := l) (q := q) (tq := tq) (first := false) (objs := objs) (tk := tk) (gl := gl) (rows := rows) hq
  simpa [wrF, tkF] using h

set_option maxHeartbeats 1600000 in
attribute [local simp] undefA List.getElem?_cons_zero List.getElem?_cons_succ plnC perC persC_noObj in
theorem rbytesP_ok {σ : St} {p : Pln} (p1 : p.s < 2 ^ 64) (p2 : p.e < 2 ^ 64) (p3 : p.tot.length ≤ 8) (p4 : p.ps.length ≤ 255) (p5 : ∀ x ∈ p.ps, x.l < 2 ^ 64 ∧ x.c.length ≤ 8) :
    CallsA Try.prog 45 [.agg (plnC p)] σ (fun av σ' => av = .sl 1 (bytesA (encPl p)) (encPl p).length .shut ∧ σ = σ') := by
  refine callsA_gcS ?_ (by simp [AV.under])
  obtain ⟨A, hA⟩ : ∃ A, A = encPl p := ⟨_, rfl⟩
  rw [← hA]
  obtain ⟨pk, ps, pe, pt, pp⟩ := p
  simp only at p1 p2 p3 p4 p5
  obtain ⟨c, hc⟩ : ∃ c, c = UInt8.ofNat pp.length := ⟨_, rfl⟩
  have hcn : c.toNat = pp.length := by rw [hc]; exact toNat_ofNat (by omega)
  have hw : IntKind.u8.wrap (pp.length : Int) = (c.toNat : Int) := by rw [wrap_u8, hcn, Nat.mod_eq_of_lt (by omega)]
  obtain ⟨A2, hA2⟩ : ∃ A2, A2 = pk :: nBytes 8 ps := ⟨_, rfl⟩
  obtain ⟨A3, hA3⟩ : ∃ A3, A3 = A2 ++ nBytes 8 pe := ⟨_, rfl⟩
  obtain ⟨A4, hA4⟩ : ∃ A4, A4 = A3 ++ encL pt := ⟨_, rfl⟩
  obtain ⟨A5, hA5⟩ : ∃ A5, A5 = A4 ++ [c] := ⟨_, rfl⟩
  have n2 : A2.length = 9 := by rw [hA2, List.length_cons, nBytes_len]
  have n3 : A3.length = 17 := by rw [hA3, List.length_append, nBytes_len, n2]
  have ne := encL_len p3
  have n4 : A4.length ≤ 290 := by rw [hA4, List.length_append, n3]; omega
  have n5 : A5.length ≤ 291 := by rw [hA5, List.length_append]; simp; omega
  obtain ⟨Bf, hBf⟩ : ∃ Bf : Nat → List UInt8, Bf = fun i => A5 ++ encPers (pp.take i) := ⟨_, rfl⟩
  have hB0 : Bf 0 = A5 := by rw [hBf]; simp [encPers]
  have hBl : ∀ i, i ≤ pp.length → (Bf i).length ≤ 200000 := fun i hi => by
    have := encPers_len (pp.take i) (fun x hx => (p5 x (List.mem_of_mem_take hx)).2)
    have e : (pp.take i).length = i := by simp; omega
    rw [hBf]; simp only [List.length_append]; rw [e] at this; omega
  have hBs : ∀ i (hi : i < pp.length), Bf (i + 1) = Bf i ++ nBytes 8 pp[i].l ++ encL pp[i].c := fun i hi => by
    rw [hBf]; simp only; rw [← List.take_append_getElem hi, encPers_snoc]; simp [encPer]
  have hBA : Bf pp.length = A := by
    rw [hA, hBf]; simp only; rw [List.take_length, hA5, hA4, hA3, hA2, hc]; simp [encPl]
  have q2 := fun objs => ap0 (tq := .shut) (objs := objs) (tk := σ.toks) (gl := σ.gl) (rows := σ.rows) hA2 (nBytes_len 8 ps) (by omega)
  have q3 := fun objs => apO (tq := .shut) (objs := objs) (tk := σ.toks) (gl := σ.gl) (rows := σ.rows) hA3 (nBytes_len 8 pe) (by omega) (by omega)
  have q4 := fun objs => apO (tq := .shut) (objs := objs) (tk := σ.toks) (gl := σ.gl) (rows := σ.rows) hA4 rfl (by omega) (by omega)
  have q5 := fun objs => apO (m := 1) (tq := .full) (objs := objs) (tk := σ.toks) (gl := σ.gl) (rows := σ.rows) hA5 rfl (by omega) (by omega)
  have hbc : bytesA [c] = [.v (.int .u8 c.toNat)] := rfl
  simp only [hbc] at q5
  clear hBf hA
  have F := And.intro hw (True.intro)
  refine callsA_body Try.func45 rfl rfl rfl ?_; refine sr fun _ hJ2 => ?_; refine hJ2 _ _ ?_; refine sr fun _ hJ4 => ?_; refine hJ4 _ _ ?_; refine sq fun K5 hK5 => ?_; replace F := aF q2 F; refine rg' (h := fun J6 hJ6 => ?_)
  refine cb (c := rlong_ok (size := 8) p1 (by omega)) (k := ?_)
  refine hJ6 _ _ ?_; refine hK5 _ _ ?_; refine sq fun K7 hK7 => ?_; replace F := aF q3 F; refine rg' (h := fun J8 hJ8 => ?_)
  refine cb (c := rlong_ok (size := 8) p2 (by omega)) (k := ?_)
  refine hJ8 _ _ ?_; refine hK7 _ _ ?_; refine sq fun K9 hK9 => ?_; replace F := aF q4 F; refine rg' (h := fun J10 hJ10 => ?_)
  refine cb (c := rcoinsW_ok (L := pt) (by omega)) (k := ?_)
  refine hJ10 _ _ ?_; refine hK9 _ _ ?_; refine sq fun K11 hK11 => ?_; replace F := aF q5 F; refine rg' (h := fun J12 hJ12 => ?_); refine hJ12 _ _ ?_; refine hK11 _ _ ?_; refine sq fun K13 hK13 => ?_; refine sr fun _ hJ15 => ?_; refine hJ15 _ _ ?_; refine run_block_k ?_; refine run_loopF (X := Nat) [1, 2] (fun i ρ σ1 => (i ≤ pp.length) ∧ (ρ 3 = .sl 1 (bytesA (Bf i)) (Bf i).length (.own σ.toks.length)) ∧ (ρ 4 = .v (.int .i64 i)) ∧ (σ1 = { σ with objs := σ.objs ++ [[.v (.int .u8 pk.toNat), .v (.int .u64 ps), .v (.int .u64 pe), .sl 5 (coinsC pt) pt.length .shut, .sl 2 (persC pp) pp.length .shut]], toks := σ.toks ++ [(Bf i).length] })) (fun i => pp.length - i) (0) ?st1 ?rd1
  case st1 =>
   refine ⟨lp, ?_, lp, ?_⟩
   · simp [hB0]
   · simp [hB0]
  case rd1 =>
   rintro i ρ1 σ1 hF1 ⟨hj, h3, h4, hσ⟩; obtain rfl := hσ.symm
   have f1 := keepL hF1
   (try simp [KeepL, F] at f1); replace F := aF h3 F; replace F := aF h4 F; (try replace F := aF f1 F); refine sq fun K16 hK16 => ?_; refine sr fun _ hJ18 => ?_; refine hJ18 _ _ ?_; refine cs (fun c34 => ?_) (fun c34 => ?_)
   · try exact nope c34
     all_goals
      replace F := wf F c34; refine run_skip ?_; refine hK16 _ _ ?_; refine sq fun K19 hK19 => ?_; refine run_block_k ?_; refine sq fun K20 hK20 => ?_
      have hlt2 : i < pp.length := by have h := c34; simp at h; omega
      have hat := persC_at hlt2
      have hb1 : i * 2 + 2 ≤ pp.length * 2 := by omega
      have hx5 := p5 _ (List.getElem_mem hlt2)
      have hBs1 := hBs _ hlt2
      have hBl1 := hBl i hj
      obtain ⟨x, hx⟩ : ∃ x, x = pp[i] := ⟨_, rfl⟩
      rw [← hx] at hat hx5 hBs1
      obtain ⟨xl, xc⟩ := x
      simp only at hx5 hBs1
      obtain ⟨C1, hC1⟩ : ∃ C1, C1 = Bf i ++ nBytes 8 xl := ⟨_, rfl⟩
      rw [← hC1] at hBs1
      have nC : C1.length = (Bf i).length + 8 := by rw [hC1, List.length_append, nBytes_len]
      have nE := encL_len hx5.2
      have q6 := fun objs => apO (tq := .shut) (objs := objs) (tk := σ.toks) (gl := σ.gl) (rows := σ.rows) hC1 (nBytes_len 8 xl) (by omega) (by omega)
      have q7 := fun objs => apO (tq := .shut) (objs := objs) (tk := σ.toks) (gl := σ.gl) (rows := σ.rows) hBs1 rfl (by omega) (by omega)
      replace F := aF hlt2 F; replace F := aF hat F; replace F := aF hb1 F; replace F := aF q6 F; refine rg' (h := fun J21 hJ21 => ?_)
      refine cb (c := rlong_ok (size := 8) hx5.1 (by omega)) (k := ?_)
      refine hJ21 _ _ ?_; refine hK20 _ _ ?_; replace F := aF hlt2 F; replace F := aF hat F; replace F := aF hb1 F; replace F := aF q7 F; refine rg' (h := fun J22 hJ22 => ?_)
      refine cb (c := rcoinsW_ok (L := xc) (by omega)) (k := ?_)
      refine hJ22 _ _ ?_; refine hK19 _ _ ?_; refine rg' (h := fun J23 hJ23 => ?_); refine hJ23 _ _ ?_; refine ⟨(i + 1), ⟨kp, lp, lp, lp, lp⟩, lp⟩
   try exact nope c34
   all_goals
    replace F := wf F c34; refine run_exit ?_; refine hK13 _ _ ?_; refine sr fun _ hJ25 => ?_; refine hJ25 _ _ ?_; refine ra ?_
    have hii : i = pp.length := by have h := c34; simp at h; omega
    rw [hii, hBA] at h3 ⊢
    exact gcr (hA := by simp [F, h3]; exact Wk.shut _ _ _ _)

end Go.Proofs.Ytdbaddholggkbaa

/-
  The bytes of a message..
-/
namespace Go.Proofs.Ytdbaddholggkbaa
set_option linter.unnecessarySimpa false
set_option maxRecDepth 100000
open Go Go.Vm
set_option linter.unusedSimpArgs false
set_option linter.unusedVariables false
attribute [local simp] evalL wantedA isCall opA evalA evalAll evalsA evalOpt ofValue ofCell plain binA_eql_pn binA_neq_pn binA_gtr binA_lss binA_geq binA_leq binA_add binA_sub binA_eql binA_neq binA_orI binA_shl binA_shr binA_mul binA_quo binA_rem binA_agg_eql binA_agg_neq convA_int unA_not fieldAddrA loadA partA pickA_true pickA_false pickA_bb lenA builtinA storeA splice AV.cells AV.isCell sliceA boundA intA callOf indexAddrA newObjA buildA fillA zeroA ofCells buildSliceA indexA fieldA numA_len4 numA_take4 numA_drop4 set_appN get_appN take_appN List.getElem?_cons_zero List.getElem?_cons_succ makeA zeros64

def encO (x : Out) : List UInt8 := x.t :: encL x.c
def encOs (l : List Out) : List UInt8 := l.flatMap encO
theorem encOs_snoc (l : List Out) (x : Out) : encOs (l ++ [x]) = encOs l ++ encO x := by simp [encOs]
theorem encOs_len : ∀ l : List Out, (∀ x ∈ l, x.c.length ≤ 8) → (encOs l).length ≤ 274 * l.length
  | [], _ => by simp [encOs]
  | x :: l, h => by
    have h1 := encOs_len l (fun y hy => h y (by simp [hy]))
    have h2 := encL_len (h x (by simp))
    have e : encOs (x :: l) = encO x ++ encOs l := rfl
    rw [e]
    simp only [encO, List.length_append, List.length_cons]
    omega
def ncE (m : Msg) : List UInt8 := bif hB m.k 1024 then [] else m.f :: (nBytes 8 m.s ++ encL m.fee)
def ncT (m : Msg) : List UInt8 := bif hB m.k 1 then [m.t] else []
def ncV (m : Msg) : List UInt8 := bif hB m.k 2 then [m.v] else []
def ncO (m : Msg) : List UInt8 := bif hB m.k 4 then [m.o] else []
def ncN (m : Msg) : List UInt8 := bif hB m.k 8 then encN m.n.v else []
def ncC (m : Msg) : List UInt8 := bif hB m.k 16 then encL m.c else []
def ncU (m : Msg) : List UInt8 := bif hB m.k 32 then UInt8.ofNat m.outs.length :: encOs m.outs else []
def ncP (m : Msg) : List UInt8 := bif hB m.k 64 then encPl m.p else []
def ncM (m : Msg) : List UInt8 := bif hB m.k 128 then nBytes 8 m.tm else []
def ncQ (m : Msg) : List UInt8 := bif hB m.k 256 then nBytes 2 m.pt else []
def ncJ (m : Msg) : List UInt8 := bif hB m.k 512 then [if m.j then 1 else 0] else []
def encM (m : Msg) : List UInt8 := m.k :: (ncE m ++ (ncT m ++ (ncV m ++ (ncO m ++ (ncN m ++ (ncC m ++ (ncU m ++ (ncP m ++ (ncM m ++ (ncQ m ++ ncJ m))))))))))

theorem perOk_mem : ∀ (l : List Per) (E : Nat) (a : List Coin) (r : Nat × List Coin), perOk l E a = some r → ∀ x ∈ l, Right x.c
  | [], _, _, _, _ => by simp
  | x :: l, E, a, r, h => by
    simp only [perOk] at h
    split at h
    · cases h
    · rename_i hn
      split at h
      · intro y hy
        rcases List.mem_cons.1 hy with e | hy
        · subst e
          exact Classical.byContradiction fun hc => hn (.inr (.inr (.inr (fun hh => hc hh.2))))
        · exact perOk_mem l _ _ _ h y hy
      · cases h
theorem rightB_bounds {p : Pln} (h : rightB p = true) : Right p.tot ∧ p.ps.length ≤ 16 ∧ ∀ x ∈ p.ps, Right x.c := by
  unfold rightB at h
  split at h
  · rw [of_decide_eq_true h]; exact ⟨Go.Vm.right_nil, by simp, by simp⟩
  · split at h
    · cases h
    · rename_i hn
      have hr : Right p.tot := Classical.byContradiction fun hc => hn (.inl (fun hh => hc hh.2))
      have nps : p.ps = [] → Right p.tot ∧ p.ps.length ≤ 16 ∧ ∀ x ∈ p.ps, Right x.c := fun e => ⟨hr, by rw [e]; simp, by rw [e]; simp⟩
      split at h
      · exact nps (of_decide_eq_true h).2
      · split at h
        · exact nps (of_decide_eq_true h).2
        · split at h
          · exact nps (of_decide_eq_true h).2.2
          · split at h
            · simp only [perB, Bool.and_eq_true, decide_eq_true_eq] at h
              exact ⟨hr, h.1, perOk_mem _ _ _ _ h.2⟩
            · cases h
structure MB (m : Msg) : Prop where
  fee : Right m.fee
  c : Right m.c
  outs : m.outs.length ≤ 16
  out : ∀ x ∈ m.outs, Right x.c
  p : Right m.p.tot ∧ m.p.ps.length ≤ 16 ∧ ∀ x ∈ m.p.ps, Right x.c
theorem right_mb {m : Msg} (h : rightM m = true) : MB m := by
  unfold rightM at h
  simp only [Bool.and_eq_true, decide_eq_true_eq, Bool.not_eq_true', List.all_eq_true] at h
  obtain ⟨⟨⟨⟨⟨⟨⟨⟨⟨h1, h2⟩, h3⟩, h4⟩, h5⟩, h6⟩, h7⟩, h8⟩, h9⟩, h10⟩ := h
  refine ⟨h4.1, h4.2, ?_, fun x hx => ?_, rightB_bounds h8⟩
  · cases hu : hB m.k 32
    · have : m.outs = [] := by rw [h2]; simp [onlyM, hu]
      rw [this]; simp
    · rw [hu] at h5
      simp at h5
      omega
  · have := h7 x hx
    simp only [outB, Bool.and_eq_true, decide_eq_true_eq] at this
    exact this.2

theorem wnumA {σ : St} {id k x : Nat} {l A : List UInt8} (hA : A = l ++ encN x) (h : σ.objs[id]? = some [wrA k l]) (ht : Tk σ.toks k l) (hx : x < 2 ^ 256) (hl : l.length ≤ 300000) :
    CallsA Try.prog 103 [.ptr id 0, .agg (numA x)] σ (WQ id σ k l A) := by
  subst hA; exact wnum_ok h ht hx (by omega)
theorem wshortA {σ : St} {id k n : Nat} {l A : List UInt8} (hA : A = l ++ nBytes 2 n) (h : σ.objs[id]? = some [wrA k l]) (ht : Tk σ.toks k l) (hn : n < 2 ^ 16) (hl : l.length ≤ 300000) :
    CallsA Try.prog 104 [.ptr id 0, .v (.int .u16 n)] σ (WQ id σ k l A) := by
  subst hA; exact wshort_ok h ht hn (by omega)
theorem wflagA {σ : St} {id k : Nat} {l A : List UInt8} {b : Bool} (hA : A = l ++ [if b then 1 else 0]) (h : σ.objs[id]? = some [wrA k l]) (ht : Tk σ.toks k l) (hl : l.length ≤ 300000) :
    CallsA Try.prog 105 [.ptr id 0, .v (.bool b)] σ (WQ id σ k l A) := by
  subst hA; exact wflag_ok h ht (by omega)
theorem mdoneA {σ : St} {id k : Nat} {l : List UInt8} (h : σ.objs[id]? = some [wrA k l]) (hne : l ≠ []) (hl : l.length ≤ 1000000) :
    CallsA Try.prog 41 [.ptr id 0] σ (fun av σ' => av = .sl 1 (bytesA l) l.length .shut ∧ σ = σ') := done_ok (tl := .own k) (by simpa [wrA, hne] using h) hl

set_option maxHeartbeats 1600000 in
attribute [local simp] undefA List.getElem?_cons_zero List.getElem?_cons_succ msgC outC outsC_noObj persC_noObj noObj_wrA noObj_wrA' in
theorem encode_ok {σ : St} {m : Msg} (hm : m.Ok) :
    CallsA Try.prog 54 [.agg (msgC m)] σ (fun av σ' => av = (bif rightM m then .tup [.sl 1 (bytesA (encM m)) (encM m).length .shut, .v (.int .i64 0)] else .tup [.sl 1 [] 0 .shut, .v (.int .i64 4)]) ∧ σ = σ') := by
  refine callsA_gcS ?_ (by cases rightM m <;> simp [AV.under, underL])
  have hmr := fun σ => mright_ok (σ := σ) hm
  obtain ⟨G, hG⟩ : ∃ G, G = rightM m := ⟨_, rfl⟩
  rw [← hG] at hmr ⊢
  have hb : G = true → MB m := fun e => right_mb (by rw [← hG]; exact e)
  obtain ⟨h1, h2, h3, h4, h5, h6, h7, h8⟩ := hm
  obtain ⟨A, hA⟩ : ∃ A, A = encM m := ⟨_, rfl⟩
  have hne : A ≠ [] := by rw [hA]; simp [encM]
  rw [← hA]
  obtain ⟨x1, x2, x3, x4, x5, x6, x7, x8, x9, x10, x11, x12, x13, x14⟩ := m
  simp only at h1 h2 h3 h4 h5 h6 h7 h8
  have hhas := fun σ => has_ok (σ := σ) (k := x1)
  obtain ⟨h, hh⟩ : ∃ h, h = hasN x1 := ⟨_, rfl⟩
  have hlt : h < 4096 := by rw [hh]; exact hasN_lt _
  rw [← hh] at hhas
  obtain ⟨eE, heE⟩ : ∃ e, e = h &&& 1024 := ⟨_, rfl⟩
  have handE : ∀ xo yo, binA Try.prog .and 3 xo yo (.v (.int .i64 (h : Nat))) (.v (.int .i64 1024)) = some (.v (.int .i64 (eE : Nat))) := fun xo yo => by rw [heE]; exact binA_andN _ xo yo hlt (by decide)
  obtain ⟨bE, hbE⟩ : ∃ b, b = hB x1 1024 := ⟨_, rfl⟩
  have hneE : (((eE : Nat) : Int) != 0) = bE := by rw [hbE, hB, ← hh, ← heE]; simp [bne, Int.natCast_eq_zero]; rw [Bool.eq_iff_iff]; simp
  obtain ⟨eT, heT⟩ : ∃ e, e = h &&& 1 := ⟨_, rfl⟩
  have handT : ∀ xo yo, binA Try.prog .and 3 xo yo (.v (.int .i64 (h : Nat))) (.v (.int .i64 1)) = some (.v (.int .i64 (eT : Nat))) := fun xo yo => by rw [heT]; exact binA_andN _ xo yo hlt (by decide)
  obtain ⟨bT, hbT⟩ : ∃ b, b = hB x1 1 := ⟨_, rfl⟩
  have hneT : (((eT : Nat) : Int) != 0) = bT := by rw [hbT, hB, ← hh, ← heT]; simp [bne, Int.natCast_eq_zero]; rw [Bool.eq_iff_iff]; simp
  obtain ⟨eV, heV⟩ : ∃ e, e = h &&& 2 := ⟨_, rfl⟩
  have handV : ∀ xo yo, binA Try.prog .and 3 xo yo (.v (.int .i64 (h : Nat))) (.v (.int .i64 2)) = some (.v (.int .i64 (eV : Nat))) := fun xo yo => by rw [heV]; exact binA_andN _ xo yo hlt (by decide)
  obtain ⟨bV, hbV⟩ : ∃ b, b = hB x1 2 := ⟨_, rfl⟩
  have hneV : (((eV : Nat) : Int) != 0) = bV := by rw [hbV, hB, ← hh, ← heV]; simp [bne, Int.natCast_eq_zero]; rw [Bool.eq_iff_iff]; simp
  obtain ⟨eO, heO⟩ : ∃ e, e = h &&& 4 := ⟨_, rfl⟩
  have handO : ∀ xo yo, binA Try.prog .and 3 xo yo (.v (.int .i64 (h : Nat))) (.v (.int .i64 4)) = some (.v (.int .i64 (eO : Nat))) := fun xo yo => by rw [heO]; exact binA_andN _ xo yo hlt (by decide)
  obtain ⟨bO, hbO⟩ : ∃ b, b = hB x1 4 := ⟨_, rfl⟩
  have hneO : (((eO : Nat) : Int) != 0) = bO := by rw [hbO, hB, ← hh, ← heO]; simp [bne, Int.natCast_eq_zero]; rw [Bool.eq_iff_iff]; simp
  obtain ⟨eN, heN⟩ : ∃ e, e = h &&& 8 := ⟨_, rfl⟩
  have handN : ∀ xo yo, binA Try.prog .and 3 xo yo (.v (.int .i64 (h : Nat))) (.v (.int .i64 8)) = some (.v (.int .i64 (eN : Nat))) := fun xo yo => by rw [heN]; exact binA_andN _ xo yo hlt (by decide)
  obtain ⟨bN, hbN⟩ : ∃ b, b = hB x1 8 := ⟨_, rfl⟩
  have hneN : (((eN : Nat) : Int) != 0) = bN := by rw [hbN, hB, ← hh, ← heN]; simp [bne, Int.natCast_eq_zero]; rw [Bool.eq_iff_iff]; simp
  obtain ⟨eC, heC⟩ : ∃ e, e = h &&& 16 := ⟨_, rfl⟩
  have handC : ∀ xo yo, binA Try.prog .and 3 xo yo (.v (.int .i64 (h : Nat))) (.v (.int .i64 16)) = some (.v (.int .i64 (eC : Nat))) := fun xo yo => by rw [heC]; exact binA_andN _ xo yo hlt (by decide)
  obtain ⟨bC, hbC⟩ : ∃ b, b = hB x1 16 := ⟨_, rfl⟩
  have hneC : (((eC : Nat) : Int) != 0) = bC := by rw [hbC, hB, ← hh, ← heC]; simp [bne, Int.natCast_eq_zero]; rw [Bool.eq_iff_iff]; simp
  obtain ⟨eU, heU⟩ : ∃ e, e = h &&& 32 := ⟨_, rfl⟩
  have handU : ∀ xo yo, binA Try.prog .and 3 xo yo (.v (.int .i64 (h : Nat))) (.v (.int .i64 32)) = some (.v (.int .i64 (eU : Nat))) := fun xo yo => by rw [heU]; exact binA_andN _ xo yo hlt (by decide)
  obtain ⟨bU, hbU⟩ : ∃ b, b = hB x1 32 := ⟨_, rfl⟩
  have hneU : (((eU : Nat) : Int) != 0) = bU := by rw [hbU, hB, ← hh, ← heU]; simp [bne, Int.natCast_eq_zero]; rw [Bool.eq_iff_iff]; simp
  obtain ⟨eP, heP⟩ : ∃ e, e = h &&& 64 := ⟨_, rfl⟩
  have handP : ∀ xo yo, binA Try.prog .and 3 xo yo (.v (.int .i64 (h : Nat))) (.v (.int .i64 64)) = some (.v (.int .i64 (eP : Nat))) := fun xo yo => by rw [heP]; exact binA_andN _ xo yo hlt (by decide)
  obtain ⟨bP, hbP⟩ : ∃ b, b = hB x1 64 := ⟨_, rfl⟩
  have hneP : (((eP : Nat) : Int) != 0) = bP := by rw [hbP, hB, ← hh, ← heP]; simp [bne, Int.natCast_eq_zero]; rw [Bool.eq_iff_iff]; simp
  obtain ⟨eM, heM⟩ : ∃ e, e = h &&& 128 := ⟨_, rfl⟩
  have handM : ∀ xo yo, binA Try.prog .and 3 xo yo (.v (.int .i64 (h : Nat))) (.v (.int .i64 128)) = some (.v (.int .i64 (eM : Nat))) := fun xo yo => by rw [heM]; exact binA_andN _ xo yo hlt (by decide)
  obtain ⟨bM, hbM⟩ : ∃ b, b = hB x1 128 := ⟨_, rfl⟩
  have hneM : (((eM : Nat) : Int) != 0) = bM := by rw [hbM, hB, ← hh, ← heM]; simp [bne, Int.natCast_eq_zero]; rw [Bool.eq_iff_iff]; simp
  obtain ⟨eQ, heQ⟩ : ∃ e, e = h &&& 256 := ⟨_, rfl⟩
  have handQ : ∀ xo yo, binA Try.prog .and 3 xo yo (.v (.int .i64 (h : Nat))) (.v (.int .i64 256)) = some (.v (.int .i64 (eQ : Nat))) := fun xo yo => by rw [heQ]; exact binA_andN _ xo yo hlt (by decide)
  obtain ⟨bQ, hbQ⟩ : ∃ b, b = hB x1 256 := ⟨_, rfl⟩
  have hneQ : (((eQ : Nat) : Int) != 0) = bQ := by rw [hbQ, hB, ← hh, ← heQ]; simp [bne, Int.natCast_eq_zero]; rw [Bool.eq_iff_iff]; simp
  obtain ⟨eJ, heJ⟩ : ∃ e, e = h &&& 512 := ⟨_, rfl⟩
  have handJ : ∀ xo yo, binA Try.prog .and 3 xo yo (.v (.int .i64 (h : Nat))) (.v (.int .i64 512)) = some (.v (.int .i64 (eJ : Nat))) := fun xo yo => by rw [heJ]; exact binA_andN _ xo yo hlt (by decide)
  obtain ⟨bJ, hbJ⟩ : ∃ b, b = hB x1 512 := ⟨_, rfl⟩
  have hneJ : (((eJ : Nat) : Int) != 0) = bJ := by rw [hbJ, hB, ← hh, ← heJ]; simp [bne, Int.natCast_eq_zero]; rw [Bool.eq_iff_iff]; simp
  have heqE : (((eE : Nat) : Int) == 0) = !bE := by rw [← hneE]; simp [bne]
  obtain ⟨A0, hA0⟩ : ∃ A, A = [x1] := ⟨_, rfl⟩
  obtain ⟨AE, hAE⟩ : ∃ A, A = A0 ++ (bif bE then [] else x2 :: (nBytes 8 x3 ++ encL x4)) := ⟨_, rfl⟩
  obtain ⟨AT, hAT⟩ : ∃ A, A = AE ++ (bif bT then [x5] else []) := ⟨_, rfl⟩
  obtain ⟨AVl, hAV⟩ : ∃ A, A = AT ++ (bif bV then [x6] else []) := ⟨_, rfl⟩
  obtain ⟨AO, hAO⟩ : ∃ A, A = AVl ++ (bif bO then [x7] else []) := ⟨_, rfl⟩
  obtain ⟨AN, hAN⟩ : ∃ A, A = AO ++ (bif bN then encN x8.v else []) := ⟨_, rfl⟩
  obtain ⟨AC, hAC⟩ : ∃ A, A = AN ++ (bif bC then encL x9 else []) := ⟨_, rfl⟩
  obtain ⟨AU, hAU⟩ : ∃ A, A = AC ++ (bif bU then UInt8.ofNat x10.length :: encOs x10 else []) := ⟨_, rfl⟩
  obtain ⟨AP, hAP⟩ : ∃ A, A = AU ++ (bif bP then encPl x11 else []) := ⟨_, rfl⟩
  obtain ⟨AM, hAM⟩ : ∃ A, A = AP ++ (bif bM then nBytes 8 x12 else []) := ⟨_, rfl⟩
  obtain ⟨AQ, hAQ⟩ : ∃ A, A = AM ++ (bif bQ then nBytes 2 x13 else []) := ⟨_, rfl⟩
  obtain ⟨AJ, hAJ⟩ : ∃ A, A = AQ ++ (bif bJ then [if x14 then 1 else 0] else []) := ⟨_, rfl⟩
  have hAJ2 : AJ = A := by rw [hA, hAJ, hAQ, hAM, hAP, hAU, hAC, hAN, hAO, hAV, hAT, hAE, hA0]; simp only [encM, ncE, ncT, ncV, ncO, ncN, ncC, ncU, ncP, ncM, ncQ, ncJ, ← hbE, ← hbT, ← hbV, ← hbO, ← hbN, ← hbC, ← hbU, ← hbP, ← hbM, ← hbQ, ← hbJ]; simp
  clear hA hh hbE hbT hbV hbO hbN hbC hbU hbP hbM hbQ hbJ heE heT heV heO heN heC heU heP heM heQ heJ
  have hlen : MB ⟨x1, x2, x3, x4, x5, x6, x7, x8, x9, x10, x11, x12, x13, x14⟩ → A0.length ≤ 1 ∧ AE.length ≤ 290 ∧ AT.length ≤ 291 ∧ AVl.length ≤ 292 ∧ AO.length ≤ 293 ∧ AN.length ≤ 330 ∧ AC.length ≤ 610 ∧ AU.length ≤ 5100 ∧ AP.length ≤ 10000 ∧ AM.length ≤ 10008 ∧ AQ.length ≤ 10010 ∧ AJ.length ≤ 10011 := fun mb => by
    have l4 := right_len mb.fee
    have l9 := right_len mb.c
    have l10 := encOs_len x10 (fun x hx => right_len (mb.out x hx))
    have m10 := mb.outs
    have lE := encL_len l4
    have lC := encL_len l9
    have lN := natBytes_len x8.v 32 (by simpa using x8.h)
    have lP := encPers_len x11.ps (fun x hx => right_len (mb.p.2.2 x hx))
    have lP1 := encL_len (right_len mb.p.1)
    have lP2 := mb.p.2.1
    simp only at l4 l9 l10 m10 lE lC lP lP1 lP2
    have q0 : A0.length ≤ 1 := by rw [hA0]; simp
    have qE : AE.length ≤ 290 := by rw [hAE]; cases bE <;> simp [nBytes_len] <;> omega
    have qT : AT.length ≤ 291 := by rw [hAT]; cases bT <;> simp <;> omega
    have qV : AVl.length ≤ 292 := by rw [hAV]; cases bV <;> simp <;> omega
    have qO : AO.length ≤ 293 := by rw [hAO]; cases bO <;> simp <;> omega
    have qN : AN.length ≤ 330 := by rw [hAN]; cases bN <;> simp [encN] <;> omega
    have qC : AC.length ≤ 610 := by rw [hAC]; cases bC <;> simp <;> omega
    have qU : AU.length ≤ 5100 := by rw [hAU]; cases bU <;> simp <;> omega
    have qP : AP.length ≤ 10000 := by rw [hAP]; cases bP <;> simp [encPl, nBytes_len] <;> omega
    have qM : AM.length ≤ 10008 := by rw [hAM]; cases bM <;> simp [nBytes_len] <;> omega
    have qQ : AQ.length ≤ 10010 := by rw [hAQ]; cases bQ <;> simp [nBytes_len] <;> omega
    have qJ : AJ.length ≤ 10011 := by rw [hAJ]; cases bJ <;> simp <;> omega
    exact ⟨q0, qE, qT, qV, qO, qN, qC, qU, qP, qM, qQ, qJ⟩
  have hpl : MB ⟨x1, x2, x3, x4, x5, x6, x7, x8, x9, x10, x11, x12, x13, x14⟩ → ∀ ⦃τ : St⦄ ⦃id k : Nat⦄ ⦃l B : List UInt8⦄, B = l ++ encPl x11 → τ.objs[id]? = some [wrA k l] → Tk τ.toks k l → l.length ≤ 100000 → CallsA Try.prog 40 [.ptr id 0, .agg (plnC x11)] τ (fun av σ' => av = .tup [] ∧ ∃ k' tk', Wr τ.toks k l tk' k' B ∧ σ' = { τ with objs := τ.objs.set id [wrA k' B], toks := tk' }) :=
    fun mb τ id k l B hB h ht hl => play_ok hB h ht hl h6.1 h6.2.1 (right_len mb.p.1) (by have := mb.p.2.1; simp only at this; omega) (fun x hx => ⟨(h6.2.2.2.2 x hx).1, right_len (mb.p.2.2 x hx)⟩)
  obtain ⟨c, hc⟩ : ∃ c, c = UInt8.ofNat x10.length := ⟨_, rfl⟩
  have hcn : x10.length ≤ 16 → IntKind.u8.wrap (x10.length : Int) = (c.toNat : Int) := fun h => by rw [wrap_u8, hc, toNat_ofNat (by omega), Nat.mod_eq_of_lt (by omega)]
  have hw0 : [AV.sl 0 [] 0 Tail.full] = [wrA 0 []] := rfl
  obtain ⟨xpk, xps, xpe, xpt, xpq⟩ := x11
  simp only [plnC] at hpl
  have F := And.intro handE (And.intro handT (And.intro handV (And.intro handO (And.intro handN (And.intro handC (And.intro handU (And.intro handP (And.intro handM (And.intro handQ (And.intro handJ (And.intro hneE (And.intro hneT (And.intro hneV (And.intro hneO (And.intro hneN (And.intro hneC (And.intro hneU (And.intro hneP (And.intro hneM (And.intro hneQ (And.intro hneJ (And.intro heqE (True.intro)))))))))))))))))))))))
  refine callsA_body Try.func54 rfl rfl rfl ?_; refine sr fun _ hJ2 => ?_; refine hJ2 _ _ ?_; refine sq fun K3 hK3 => ?_; refine sr fun _ hJ5 => ?_; refine cb (c := hmr _) (k := ?_); refine hJ5 _ _ ?_; refine cs (t := !G) (fun c11 => ?_) (fun c11 => ?_)
  · try exact nope c11
    all_goals
     have c11p := c11; (try simp [F] at c11p); replace F := aF c11 F; (try replace F := aF c11p F); refine sr fun _ hJ7 => ?_; refine hJ7 _ _ ?_; refine run_ret ?_; (try simp only [Then, InBlock, NoGoto]); refine answer_tmp2 rfl (.inr rfl) ?_
     have hGf : G = false := by simpa using c11
     rw [hGf]
     exact gcr (hA := WkL.tup (.cons (Wk.nil _ _ _) (.cons (Wk.refl _) .nil)))
  try exact nope c11
  all_goals
   have c11p := c11; (try simp [F] at c11p); replace F := aF c11 F; (try replace F := aF c11p F); refine run_skip ?_; refine hK3 _ _ ?_; refine sq fun K8 hK8 => ?_
   have hGt : G = true := by simpa using c11
   obtain ⟨n0, nE, nT, nV, nO, nN, nC, nU, nP, nM, nQ, nJ⟩ := hlen (hb hGt)
   have mb := hb hGt
   have l4 := right_len mb.fee
   have l9 := right_len mb.c
   have l10 := mb.outs
   simp only at l4 l9 l10
   have hcw := hcn l10
   have hpl := hpl mb
   replace F := aF hGt (And.intro hcw F); refine rg' (h := fun J9 hJ9 => ?_); refine cb (c := hhas _) (k := ?_); refine hJ9 _ _ ?_; refine hK8 _ _ ?_; refine sq fun K10 hK10 => ?_; replace F := aF hw0 F; refine rg' (h := fun J11 hJ11 => ?_); refine hJ11 _ _ ?_; refine hK10 _ _ ?_; refine sr fun _ hJ13 => ?_
   refine ca (c := wbyteA (k := 0) (l := []) (A := A0) (by rw [hA0]; rfl) (by simp [F, hw0]) (.inl rfl) (by simp)) (k := ?_)
   rintro _ _ ⟨rfl, k0, tk0, w0, rfl⟩; (repeat (first | simp [F] | simp (disch := omega) only [wC, if_pos, if_neg])); refine hJ13 _ _ ?_; refine sqc (X := Nat × List Nat) [1, 2, 3, 4, 6] (fun qE ρ σ1 => (Wr σ.toks 0 [] qE.2 qE.1 AE) ∧ (σ1 = { σ with objs := σ.objs ++ [msgC ⟨x1, x2, x3, x4, x5, x6, x7, x8, x9, x10, ⟨xpk, xps, xpe, xpt, xpq⟩, x12, x13, x14⟩, [wrA qE.1 AE]], toks := qE.2 })) ?cy14 ?cx14
   case cy14 =>
    rintro qE ρCc26 σ1 hFCc26 ⟨wE, hσ⟩; obtain rfl := hσ.symm
    have fCc26 := keepL hFCc26
    (try simp [KeepL, F] at fCc26); (try replace F := aF fCc26 F); refine sqc (X := Nat × List Nat) [1, 2, 3, 4, 6] (fun qT ρ σ1 => (Wr σ.toks 0 [] qT.2 qT.1 AT) ∧ (σ1 = { σ with objs := σ.objs ++ [msgC ⟨x1, x2, x3, x4, x5, x6, x7, x8, x9, x10, ⟨xpk, xps, xpe, xpt, xpq⟩, x12, x13, x14⟩, [wrA qT.1 AT]], toks := qT.2 })) ?cy15 ?cx15
    case cy15 =>
     rintro qT ρCc39 σ1 hFCc39 ⟨wT, hσ⟩; obtain rfl := hσ.symm
     have fCc39 := keepL hFCc39
     (try simp [KeepL, F] at fCc39); (try replace F := aF fCc39 F); refine sqc (X := Nat × List Nat) [1, 2, 3, 4, 6] (fun qV ρ σ1 => (Wr σ.toks 0 [] qV.2 qV.1 AVl) ∧ (σ1 = { σ with objs := σ.objs ++ [msgC ⟨x1, x2, x3, x4, x5, x6, x7, x8, x9, x10, ⟨xpk, xps, xpe, xpt, xpq⟩, x12, x13, x14⟩, [wrA qV.1 AVl]], toks := qV.2 })) ?cy16 ?cx16
     case cy16 =>
      rintro qV ρCc46 σ1 hFCc46 ⟨wV, hσ⟩; obtain rfl := hσ.symm
      have fCc46 := keepL hFCc46
      (try simp [KeepL, F] at fCc46); (try replace F := aF fCc46 F); refine sqc (X := Nat × List Nat) [1, 2, 3, 4, 6] (fun qO ρ σ1 => (Wr σ.toks 0 [] qO.2 qO.1 AO) ∧ (σ1 = { σ with objs := σ.objs ++ [msgC ⟨x1, x2, x3, x4, x5, x6, x7, x8, x9, x10, ⟨xpk, xps, xpe, xpt, xpq⟩, x12, x13, x14⟩, [wrA qO.1 AO]], toks := qO.2 })) ?cy17 ?cx17
      case cy17 =>
       rintro qO ρCc53 σ1 hFCc53 ⟨wO, hσ⟩; obtain rfl := hσ.symm
       have fCc53 := keepL hFCc53
       (try simp [KeepL, F] at fCc53); (try replace F := aF fCc53 F); refine sqc (X := Nat × List Nat) [1, 2, 3, 4, 6] (fun qN ρ σ1 => (Wr σ.toks 0 [] qN.2 qN.1 AN) ∧ (σ1 = { σ with objs := σ.objs ++ [msgC ⟨x1, x2, x3, x4, x5, x6, x7, x8, x9, x10, ⟨xpk, xps, xpe, xpt, xpq⟩, x12, x13, x14⟩, [wrA qN.1 AN]], toks := qN.2 })) ?cy18 ?cx18
       case cy18 =>
        rintro qN ρCc60 σ1 hFCc60 ⟨wN, hσ⟩; obtain rfl := hσ.symm
        have fCc60 := keepL hFCc60
        (try simp [KeepL, F] at fCc60); (try replace F := aF fCc60 F); refine sqc (X := Nat × List Nat) [1, 2, 3, 4, 6] (fun qC ρ σ1 => (Wr σ.toks 0 [] qC.2 qC.1 AC) ∧ (σ1 = { σ with objs := σ.objs ++ [msgC ⟨x1, x2, x3, x4, x5, x6, x7, x8, x9, x10, ⟨xpk, xps, xpe, xpt, xpq⟩, x12, x13, x14⟩, [wrA qC.1 AC]], toks := qC.2 })) ?cy19 ?cx19
        case cy19 =>
         rintro qC ρCc67 σ1 hFCc67 ⟨wC, hσ⟩; obtain rfl := hσ.symm
         have fCc67 := keepL hFCc67
         (try simp [KeepL, F] at fCc67); (try replace F := aF fCc67 F); refine sqc (X := Nat × List Nat) [1, 2, 3, 4, 6] (fun qU ρ σ1 => (Wr σ.toks 0 [] qU.2 qU.1 AU) ∧ (σ1 = { σ with objs := σ.objs ++ [msgC ⟨x1, x2, x3, x4, x5, x6, x7, x8, x9, x10, ⟨xpk, xps, xpe, xpt, xpq⟩, x12, x13, x14⟩, [wrA qU.1 AU]], toks := qU.2 })) ?cy20 ?cx20
         case cy20 =>
          rintro qU ρCc74 σ1 hFCc74 ⟨wU, hσ⟩; obtain rfl := hσ.symm
          have fCc74 := keepL hFCc74
          (try simp [KeepL, F] at fCc74); (try replace F := aF fCc74 F); refine sqc (X := Nat × List Nat) [1, 2, 3, 4, 6] (fun qP ρ σ1 => (Wr σ.toks 0 [] qP.2 qP.1 AP) ∧ (σ1 = { σ with objs := σ.objs ++ [msgC ⟨x1, x2, x3, x4, x5, x6, x7, x8, x9, x10, ⟨xpk, xps, xpe, xpt, xpq⟩, x12, x13, x14⟩, [wrA qP.1 AP]], toks := qP.2 })) ?cy21 ?cx21
          case cy21 =>
           rintro qP ρCc98 σ1 hFCc98 ⟨wP, hσ⟩; obtain rfl := hσ.symm
           have fCc98 := keepL hFCc98
           (try simp [KeepL, F] at fCc98); (try replace F := aF fCc98 F); refine sqc (X := Nat × List Nat) [1, 2, 3, 4, 6] (fun qM ρ σ1 => (Wr σ.toks 0 [] qM.2 qM.1 AM) ∧ (σ1 = { σ with objs := σ.objs ++ [msgC ⟨x1, x2, x3, x4, x5, x6, x7, x8, x9, x10, ⟨xpk, xps, xpe, xpt, xpq⟩, x12, x13, x14⟩, [wrA qM.1 AM]], toks := qM.2 })) ?cy22 ?cx22
           case cy22 =>
            rintro qM ρCc105 σ1 hFCc105 ⟨wM, hσ⟩; obtain rfl := hσ.symm
            have fCc105 := keepL hFCc105
            (try simp [KeepL, F] at fCc105); (try replace F := aF fCc105 F); refine sqc (X := Nat × List Nat) [1, 2, 3, 4, 6] (fun qQ ρ σ1 => (Wr σ.toks 0 [] qQ.2 qQ.1 AQ) ∧ (σ1 = { σ with objs := σ.objs ++ [msgC ⟨x1, x2, x3, x4, x5, x6, x7, x8, x9, x10, ⟨xpk, xps, xpe, xpt, xpq⟩, x12, x13, x14⟩, [wrA qQ.1 AQ]], toks := qQ.2 })) ?cy23 ?cx23
            case cy23 =>
             rintro qQ ρCc112 σ1 hFCc112 ⟨wQ, hσ⟩; obtain rfl := hσ.symm
             have fCc112 := keepL hFCc112
             (try simp [KeepL, F] at fCc112); (try replace F := aF fCc112 F); refine sqc (X := Nat × List Nat) [2, 3, 6] (fun qJ ρ σ1 => (Wr σ.toks 0 [] qJ.2 qJ.1 AJ) ∧ (σ1 = { σ with objs := σ.objs ++ [msgC ⟨x1, x2, x3, x4, x5, x6, x7, x8, x9, x10, ⟨xpk, xps, xpe, xpt, xpq⟩, x12, x13, x14⟩, [wrA qJ.1 AJ]], toks := qJ.2 })) ?cy24 ?cx24
             case cy24 =>
              rintro qJ ρCc119 σ1 hFCc119 ⟨wJ, hσ⟩; obtain rfl := hσ.symm
              have fCc119 := keepL hFCc119
              (try simp [KeepL, F] at fCc119); (try replace F := aF fCc119 F); refine sq fun K25 hK25 => ?_
              obtain ⟨tm, htm⟩ := wJ.pre
              rw [htm]
              refine rg' (h := fun J26 hJ26 => ?_)
              refine cb (c := mdoneA (l := AJ) (k := qJ.1) (by simp [F]) (by rw [hAJ2]; exact hne) (by omega)) (k := ?_)
              refine hJ26 _ _ ?_; refine hK25 _ _ ?_; refine run_ret ?_; (try simp only [Then, InBlock, NoGoto]); refine answer_tmp2 rfl (.inr rfl) ?_
              rw [← hAJ2, hGt]
              exact gcr (hA := by simp [F]; exact Wk.refl _)
             case cx24 =>
              intro K24 hK24
              refine sr fun _ hJ28 => ?_; refine hJ28 _ _ ?_; refine cs (t := bJ) (fun c119 => ?_) (fun c119 => ?_)
              · try exact nope c119
                all_goals
                 have c119p := c119; (try simp [F] at c119p); replace F := aF c119 F; (try replace F := aF c119p F)
                 have hyJ : AJ = AQ ++ ([if x14 then 1 else 0]) := by (rw [hAJ]; have h := c119; (try simp at h); simp [h])
                 refine rg' (h := fun J29 hJ29 => ?_)
                 refine ca (c := wflagA hyJ (by simp [F]) wQ.tok (by omega)) (k := ?_)
                 rintro _ _ ⟨rfl, kJ, tkJ, uJ, rfl⟩; (repeat (first | simp [F] | simp (disch := omega) only [wC, if_pos, if_neg])); refine hJ29 _ _ ?_
                 first | refine hK24 ((kJ, tkJ)) _ _ ⟨kp, ?_, lp⟩ | refine hK24 (qQ) _ _ ⟨kp, ?_, lp⟩
                 · exact wQ.trans uJ
              try exact nope c119
              all_goals
               have c119p := c119; (try simp [F] at c119p); replace F := aF c119 F; (try replace F := aF c119p F)
               have hzJ : AJ = AQ := by (rw [hAJ]; have h := c119; (try simp at h); simp [h])
               refine run_skip ?_
               first | refine hK24 ((kJ, tkJ)) _ _ ⟨kp, ?_, ?_⟩ | refine hK24 (qQ) _ _ ⟨kp, ?_, ?_⟩
               · rw [hzJ]
                 exact wQ
               · rw [hzJ]; try rfl
            case cx23 =>
             intro K23 hK23
             refine sr fun _ hJ31 => ?_; refine hJ31 _ _ ?_; refine cs (t := bQ) (fun c112 => ?_) (fun c112 => ?_)
             · try exact nope c112
               all_goals
                have c112p := c112; (try simp [F] at c112p); replace F := aF c112 F; (try replace F := aF c112p F)
                have hyQ : AQ = AM ++ (nBytes 2 x13) := by (rw [hAQ]; have h := c112; (try simp at h); simp [h])
                refine rg' (h := fun J32 hJ32 => ?_)
                refine ca (c := wshortA hyQ (by simp [F]) wM.tok h8 (by omega)) (k := ?_)
                rintro _ _ ⟨rfl, kQ, tkQ, uQ, rfl⟩; (repeat (first | simp [F] | simp (disch := omega) only [wC, if_pos, if_neg])); refine hJ32 _ _ ?_
                first | refine hK23 ((kQ, tkQ)) _ _ ⟨kp, ?_, lp⟩ | refine hK23 (qM) _ _ ⟨kp, ?_, lp⟩
                · exact wM.trans uQ
             try exact nope c112
             all_goals
              have c112p := c112; (try simp [F] at c112p); replace F := aF c112 F; (try replace F := aF c112p F)
              have hzQ : AQ = AM := by (rw [hAQ]; have h := c112; (try simp at h); simp [h])
              refine run_skip ?_
              first | refine hK23 ((kQ, tkQ)) _ _ ⟨kp, ?_, ?_⟩ | refine hK23 (qM) _ _ ⟨kp, ?_, ?_⟩
              · rw [hzQ]
                exact wM
              · rw [hzQ]; try rfl
           case cx22 =>
            intro K22 hK22
            refine sr fun _ hJ34 => ?_; refine hJ34 _ _ ?_; refine cs (t := bM) (fun c105 => ?_) (fun c105 => ?_)
            · try exact nope c105
              all_goals
               have c105p := c105; (try simp [F] at c105p); replace F := aF c105 F; (try replace F := aF c105p F)
               have hyM : AM = AP ++ (nBytes 8 x12) := by (rw [hAM]; have h := c105; (try simp at h); simp [h])
               refine rg' (h := fun J35 hJ35 => ?_)
               refine ca (c := wlongA hyM (by simp [F]) wP.tok h7 (by omega)) (k := ?_)
               rintro _ _ ⟨rfl, kM, tkM, uM, rfl⟩; (repeat (first | simp [F] | simp (disch := omega) only [wC, if_pos, if_neg])); refine hJ35 _ _ ?_
               first | refine hK22 ((kM, tkM)) _ _ ⟨kp, ?_, lp⟩ | refine hK22 (qP) _ _ ⟨kp, ?_, lp⟩
               · exact wP.trans uM
            try exact nope c105
            all_goals
             have c105p := c105; (try simp [F] at c105p); replace F := aF c105 F; (try replace F := aF c105p F)
             have hzM : AM = AP := by (rw [hAM]; have h := c105; (try simp at h); simp [h])
             refine run_skip ?_
             first | refine hK22 ((kM, tkM)) _ _ ⟨kp, ?_, ?_⟩ | refine hK22 (qP) _ _ ⟨kp, ?_, ?_⟩
             · rw [hzM]
               exact wP
             · rw [hzM]; try rfl
          case cx21 =>
           intro K21 hK21
           refine sr fun _ hJ37 => ?_; refine hJ37 _ _ ?_; refine cs (t := bP) (fun c98 => ?_) (fun c98 => ?_)
           · try exact nope c98
             all_goals
              have c98p := c98; (try simp [F] at c98p); replace F := aF c98 F; (try replace F := aF c98p F)
              have hyP : AP = AU ++ (encPl ⟨xpk, xps, xpe, xpt, xpq⟩) := by (rw [hAP]; have h := c98; (try simp at h); simp [h])
              refine rg' (h := fun J38 hJ38 => ?_)
              refine ca (c := hpl hyP (by simp [F]) wU.tok (by omega)) (k := ?_)
              rintro _ _ ⟨rfl, kP, tkP, uP, rfl⟩; (repeat (first | simp [F] | simp (disch := omega) only [wC, if_pos, if_neg])); refine hJ38 _ _ ?_
              first | refine hK21 ((kP, tkP)) _ _ ⟨kp, ?_, lp⟩ | refine hK21 (qU) _ _ ⟨kp, ?_, lp⟩
              · exact wU.trans uP
           try exact nope c98
           all_goals
            have c98p := c98; (try simp [F] at c98p); replace F := aF c98 F; (try replace F := aF c98p F)
            have hzP : AP = AU := by (rw [hAP]; have h := c98; (try simp at h); simp [h])
            refine run_skip ?_
            first | refine hK21 ((kP, tkP)) _ _ ⟨kp, ?_, ?_⟩ | refine hK21 (qU) _ _ ⟨kp, ?_, ?_⟩
            · rw [hzP]
              exact wU
            · rw [hzP]; try rfl
         case cx20 =>
          intro K20 hK20
          refine sr fun _ hJ40 => ?_; refine hJ40 _ _ ?_; refine cs (t := bU) (fun c74 => ?_) (fun c74 => ?_)
          · try exact nope c74
            all_goals
             have c74p := c74; (try simp [F] at c74p); replace F := aF c74 F; (try replace F := aF c74p F)
             have hyU : AU = AC ++ (UInt8.ofNat x10.length :: encOs x10) := by (rw [hAU]; have h := c74; (try simp at h); simp [h])
             obtain ⟨C5, hC5⟩ : ∃ C, C = AC ++ [c] := ⟨_, rfl⟩
             have m5 : C5.length ≤ 611 := by rw [hC5, List.length_append]; simp; omega
             obtain ⟨Bf, hBf⟩ : ∃ Bf : Nat → List UInt8, Bf = fun i => C5 ++ encOs (x10.take i) := ⟨_, rfl⟩
             have hB0 : C5 = Bf 0 := by rw [hBf]; simp [encOs]
             have hBl : ∀ i, i ≤ x10.length → (Bf i).length ≤ 20000 := fun i hi => by (have := encOs_len (x10.take i) (fun x hx => right_len (mb.out x (List.mem_of_mem_take hx))); have e : (x10.take i).length = i := (by simp; omega); rw [hBf]; simp only [List.length_append]; rw [e] at this; omega)
             have hBs : ∀ i (hi : i < x10.length), Bf (i + 1) = Bf i ++ [x10[i].t] ++ encL x10[i].c := fun i hi => by (rw [hBf]; simp only; rw [← List.take_append_getElem hi, encOs_snoc]; simp [encO])
             have hBA : Bf x10.length = AU := by (rw [hyU, hBf]; simp only; rw [List.take_length, hC5, ← hc]; simp)
             refine sr fun _ hJ42 => ?_
             refine ca (c := wbyteA hC5 (by simp [F]) wC.tok (by omega)) (k := ?_)
             rintro _ _ ⟨rfl, kU0, tkU0, uU0, rfl⟩; (repeat (first | simp [F] | simp (disch := omega) only [wC, if_pos, if_neg])); refine hJ42 _ _ ?_; refine sr fun _ hJ44 => ?_; refine hJ44 _ _ ?_; refine run_block_k ?_; refine run_loopG (X := LSt) [1, 2, 3, 4, 6, 82, 83] (fun y ρ σ1 => (y.i ≤ x10.length) ∧ (Wr σ.toks 0 [] y.tk y.k (Bf y.i)) ∧ (ρ 84 = .v (.int .i64 y.i)) ∧ (σ1 = { σ with objs := σ.objs ++ [msgC ⟨x1, x2, x3, x4, x5, x6, x7, x8, x9, x10, ⟨xpk, xps, xpe, xpt, xpq⟩, x12, x13, x14⟩, [wrA y.k (Bf y.i)]], toks := y.tk })) (fun y => x10.length - y.i) (⟨0, kU0, tkU0⟩) ?st1 ?rd1
             case st1 =>
              refine ⟨lp, ?_, lp, ?_⟩
              · rw [← hB0]
                exact wC.trans uU0
              · simp only [← hB0]; rfl
             case rd1 =>
              rintro y ρ1 σ1 hF1 ⟨hj, hq, h84, hσ⟩; obtain rfl := hσ.symm
              have f1 := keepL hF1
              (try simp [KeepL, F] at f1); replace F := aF h84 F; (try replace F := aF f1 F); refine sr fun _ hJ46 => ?_; refine hJ46 _ _ ?_; refine sq fun K47 hK47 => ?_; refine cs (fun c85 => ?_) (fun c85 => ?_)
              · try exact nope c85
                all_goals
                 have c85p := c85; (try simp [F] at c85p); replace F := aF c85 F; (try replace F := aF c85p F); refine run_skip ?_; refine hK47 _ _ ?_; refine sq fun K48 hK48 => ?_; refine run_block_k ?_; refine sq fun K49 hK49 => ?_
                 have hlt2 : y.i < x10.length := by have h := c85; simp at h; omega
                 have hat := outsC_at hlt2
                 have hb1 : y.i * 2 + 2 ≤ x10.length * 2 := by omega
                 have hx5 := right_len (mb.out _ (List.getElem_mem hlt2))
                 have hBs1 := hBs _ hlt2
                 have hBl1 := hBl y.i hj
                 obtain ⟨x, hx⟩ : ∃ x, x = x10[y.i] := ⟨_, rfl⟩
                 rw [← hx] at hat hx5 hBs1
                 obtain ⟨xl, xc⟩ := x
                 simp only at hx5 hBs1
                 obtain ⟨D1, hD1⟩ : ∃ C, C = Bf y.i ++ [xl] := ⟨_, rfl⟩
                 rw [← hD1] at hBs1
                 have nD : D1.length = (Bf y.i).length + 1 := by rw [hD1, List.length_append]; rfl
                 have hwi : IntKind.i64.wrap ((y.i : Int) + 1) = (y.i : Int) + 1 := wrap_i64 _ (by omega) (by omega)
                 replace F := aF hwi F; replace F := aF hlt2 F; replace F := aF hat F; replace F := aF hb1 F; refine rg' (h := fun J50 hJ50 => ?_); refine hJ50 _ _ ?_; refine hK49 _ _ ?_
                 refine run_draw (by kernel_rfl) fun J51 hJ51 => ?_
                 refine rp2 0 (k := ?_); refine rp2 1 (k := ?_); refine rp2 2 (k := ?_); refine rp2 4 (k := ?_); refine rp2 5 (k := ?_)
                 refine dc 3 rfl (c := wbyteA hD1 (by simp [F]) hq.tok (by omega)) (k := ?_)
                 rintro _ _ ⟨rfl, k6, tk6, hw6, rfl⟩
                 refine ⟨by first | exact fun _ _ h => h | (refine later_list [5, 4, 1] (by kernel_rfl) (fc2 ?_ <| fc2 ?_ <| fc2 ?_ <| fn0) <;> constructor <;> first | rfl | (simp [F]; done)), ?_⟩
                 repeat (first | simp [F] | simp (disch := omega) only [wC, if_pos, if_neg])
                 refine dc 6 rfl (c := wcoinsA hBs1 (by simp [F]) hw6.tok (by omega) (by omega)) (k := ?_)
                 rintro _ _ ⟨rfl, k7, tk7, hw7, rfl⟩
                 refine ⟨by first | exact fun _ _ h => h | (refine later_list [4, 1] (by kernel_rfl) (fc2 ?_ <| fc2 ?_ <| fn0) <;> constructor <;> first | rfl | (simp [F]; done)), ?_⟩
                 (repeat (first | simp [F] | simp (disch := omega) only [wC, if_pos, if_neg])); refine dd ?_; refine hJ51 _ _ ?_; refine hK48 _ _ ?_; refine rg' (h := fun J52 hJ52 => ?_); refine hJ52 _ _ ?_; refine ⟨gk, (⟨y.i + 1, k7, tk7⟩), ⟨kpG, lpG, ?_, lpG, ?_⟩, lpG⟩
                 · exact (hq.trans hw6).trans hw7
                 · simp [St.trimO, F]
              try exact nope c85
              all_goals
               have c85p := c85; (try simp [F] at c85p); replace F := aF c85 F; (try replace F := aF c85p F)
               have hii : y.i = x10.length := by have h := c85; simp at h; omega
               rw [hii, hBA] at hq
               rw [hii, hBA]
               refine run_exit ?_
               first | refine hK20 ((y.k, y.tk)) _ _ ⟨kp, ?_, lp⟩ | refine hK20 (qC) _ _ ⟨kp, ?_, lp⟩
               · exact hq
          try exact nope c74
          all_goals
           have c74p := c74; (try simp [F] at c74p); replace F := aF c74 F; (try replace F := aF c74p F)
           have hzU : AU = AC := by (rw [hAU]; have h := c74; (try simp at h); simp [h])
           refine run_skip ?_
           first | refine hK20 ((y.k, y.tk)) _ _ ⟨kp, ?_, ?_⟩ | refine hK20 (qC) _ _ ⟨kp, ?_, ?_⟩
           · rw [hzU]
             exact wC
           · rw [hzU]; try rfl
        case cx19 =>
         intro K19 hK19
         refine sr fun _ hJ54 => ?_; refine hJ54 _ _ ?_; refine cs (t := bC) (fun c67 => ?_) (fun c67 => ?_)
         · try exact nope c67
           all_goals
            have c67p := c67; (try simp [F] at c67p); replace F := aF c67 F; (try replace F := aF c67p F)
            have hyC : AC = AN ++ (encL x9) := by (rw [hAC]; have h := c67; (try simp at h); simp [h])
            refine rg' (h := fun J55 hJ55 => ?_)
            refine ca (c := wcoinsA hyC (by simp [F]) wN.tok (by omega) (by omega)) (k := ?_)
            rintro _ _ ⟨rfl, kC, tkC, uC, rfl⟩; (repeat (first | simp [F] | simp (disch := omega) only [wC, if_pos, if_neg])); refine hJ55 _ _ ?_
            first | refine hK19 ((kC, tkC)) _ _ ⟨kp, ?_, lp⟩ | refine hK19 (qN) _ _ ⟨kp, ?_, lp⟩
            · exact wN.trans uC
         try exact nope c67
         all_goals
          have c67p := c67; (try simp [F] at c67p); replace F := aF c67 F; (try replace F := aF c67p F)
          have hzC : AC = AN := by (rw [hAC]; have h := c67; (try simp at h); simp [h])
          refine run_skip ?_
          first | refine hK19 ((kC, tkC)) _ _ ⟨kp, ?_, ?_⟩ | refine hK19 (qN) _ _ ⟨kp, ?_, ?_⟩
          · rw [hzC]
            exact wN
          · rw [hzC]; try rfl
       case cx18 =>
        intro K18 hK18
        refine sr fun _ hJ57 => ?_; refine hJ57 _ _ ?_; refine cs (t := bN) (fun c60 => ?_) (fun c60 => ?_)
        · try exact nope c60
          all_goals
           have c60p := c60; (try simp [F] at c60p); replace F := aF c60 F; (try replace F := aF c60p F)
           have hyN : AN = AO ++ (encN x8.v) := by (rw [hAN]; have h := c60; (try simp at h); simp [h])
           refine rg' (h := fun J58 hJ58 => ?_)
           refine ca (c := wnumA hyN (by simp [F]) wO.tok x8.h (by omega)) (k := ?_)
           rintro _ _ ⟨rfl, kN, tkN, uN, rfl⟩; (repeat (first | simp [F] | simp (disch := omega) only [wC, if_pos, if_neg])); refine hJ58 _ _ ?_
           first | refine hK18 ((kN, tkN)) _ _ ⟨kp, ?_, lp⟩ | refine hK18 (qO) _ _ ⟨kp, ?_, lp⟩
           · exact wO.trans uN
        try exact nope c60
        all_goals
         have c60p := c60; (try simp [F] at c60p); replace F := aF c60 F; (try replace F := aF c60p F)
         have hzN : AN = AO := by (rw [hAN]; have h := c60; (try simp at h); simp [h])
         refine run_skip ?_
         first | refine hK18 ((kN, tkN)) _ _ ⟨kp, ?_, ?_⟩ | refine hK18 (qO) _ _ ⟨kp, ?_, ?_⟩
         · rw [hzN]
           exact wO
         · rw [hzN]; try rfl
      case cx17 =>
       intro K17 hK17
       refine sr fun _ hJ60 => ?_; refine hJ60 _ _ ?_; refine cs (t := bO) (fun c53 => ?_) (fun c53 => ?_)
       · try exact nope c53
         all_goals
          have c53p := c53; (try simp [F] at c53p); replace F := aF c53 F; (try replace F := aF c53p F)
          have hyO : AO = AVl ++ ([x7]) := by (rw [hAO]; have h := c53; (try simp at h); simp [h])
          refine rg' (h := fun J61 hJ61 => ?_)
          refine ca (c := wbyteA hyO (by simp [F]) wV.tok (by omega)) (k := ?_)
          rintro _ _ ⟨rfl, kO, tkO, uO, rfl⟩; (repeat (first | simp [F] | simp (disch := omega) only [wC, if_pos, if_neg])); refine hJ61 _ _ ?_
          first | refine hK17 ((kO, tkO)) _ _ ⟨kp, ?_, lp⟩ | refine hK17 (qV) _ _ ⟨kp, ?_, lp⟩
          · exact wV.trans uO
       try exact nope c53
       all_goals
        have c53p := c53; (try simp [F] at c53p); replace F := aF c53 F; (try replace F := aF c53p F)
        have hzO : AO = AVl := by (rw [hAO]; have h := c53; (try simp at h); simp [h])
        refine run_skip ?_
        first | refine hK17 ((kO, tkO)) _ _ ⟨kp, ?_, ?_⟩ | refine hK17 (qV) _ _ ⟨kp, ?_, ?_⟩
        · rw [hzO]
          exact wV
        · rw [hzO]; try rfl
     case cx16 =>
      intro K16 hK16
      refine sr fun _ hJ63 => ?_; refine hJ63 _ _ ?_; refine cs (t := bV) (fun c46 => ?_) (fun c46 => ?_)
      · try exact nope c46
        all_goals
         have c46p := c46; (try simp [F] at c46p); replace F := aF c46 F; (try replace F := aF c46p F)
         have hyV : AVl = AT ++ ([x6]) := by (rw [hAV]; have h := c46; (try simp at h); simp [h])
         refine rg' (h := fun J64 hJ64 => ?_)
         refine ca (c := wbyteA hyV (by simp [F]) wT.tok (by omega)) (k := ?_)
         rintro _ _ ⟨rfl, kV, tkV, uV, rfl⟩; (repeat (first | simp [F] | simp (disch := omega) only [wC, if_pos, if_neg])); refine hJ64 _ _ ?_
         first | refine hK16 ((kV, tkV)) _ _ ⟨kp, ?_, lp⟩ | refine hK16 (qT) _ _ ⟨kp, ?_, lp⟩
         · exact wT.trans uV
      try exact nope c46
      all_goals
       have c46p := c46; (try simp [F] at c46p); replace F := aF c46 F; (try replace F := aF c46p F)
       have hzV : AVl = AT := by (rw [hAV]; have h := c46; (try simp at h); simp [h])
       refine run_skip ?_
       first | refine hK16 ((kV, tkV)) _ _ ⟨kp, ?_, ?_⟩ | refine hK16 (qT) _ _ ⟨kp, ?_, ?_⟩
       · rw [hzV]
         exact wT
       · rw [hzV]; try rfl
    case cx15 =>
     intro K15 hK15
     refine sr fun _ hJ66 => ?_; refine hJ66 _ _ ?_; refine cs (t := bT) (fun c39 => ?_) (fun c39 => ?_)
     · try exact nope c39
       all_goals
        have c39p := c39; (try simp [F] at c39p); replace F := aF c39 F; (try replace F := aF c39p F)
        have hyT : AT = AE ++ ([x5]) := by (rw [hAT]; have h := c39; (try simp at h); simp [h])
        refine rg' (h := fun J67 hJ67 => ?_)
        refine ca (c := wbyteA hyT (by simp [F]) wE.tok (by omega)) (k := ?_)
        rintro _ _ ⟨rfl, kT, tkT, uT, rfl⟩; (repeat (first | simp [F] | simp (disch := omega) only [wC, if_pos, if_neg])); refine hJ67 _ _ ?_
        first | refine hK15 ((kT, tkT)) _ _ ⟨kp, ?_, lp⟩ | refine hK15 (qE) _ _ ⟨kp, ?_, lp⟩
        · exact wE.trans uT
     try exact nope c39
     all_goals
      have c39p := c39; (try simp [F] at c39p); replace F := aF c39 F; (try replace F := aF c39p F)
      have hzT : AT = AE := by (rw [hAT]; have h := c39; (try simp at h); simp [h])
      refine run_skip ?_
      first | refine hK15 ((kT, tkT)) _ _ ⟨kp, ?_, ?_⟩ | refine hK15 (qE) _ _ ⟨kp, ?_, ?_⟩
      · rw [hzT]
        exact wE
      · rw [hzT]; try rfl
   case cx14 =>
    intro K14 hK14
    refine sr fun _ hJ69 => ?_; refine hJ69 _ _ ?_; refine cs (t := !bE) (fun c26 => ?_) (fun c26 => ?_)
    · try exact nope c26
      all_goals
       have c26p := c26; (try simp [F] at c26p); replace F := aF c26 F; (try replace F := aF c26p F)
       have hyE : AE = A0 ++ (x2 :: (nBytes 8 x3 ++ encL x4)) := by (rw [hAE]; have h := c26; (try simp at h); simp [h])
       obtain ⟨C1, hC1⟩ : ∃ C, C = A0 ++ [x2] := ⟨_, rfl⟩
       obtain ⟨C2, hC2⟩ : ∃ C, C = C1 ++ nBytes 8 x3 := ⟨_, rfl⟩
       have hC3 : AE = C2 ++ encL x4 := by rw [hyE, hC2, hC1]; simp
       have m1 : C1.length ≤ 2 := by rw [hC1]; simp; omega
       have m2 : C2.length ≤ 10 := by rw [hC2, List.length_append, nBytes_len]; omega
       refine run_draw (by kernel_rfl) fun J70 hJ70 => ?_
       refine rp2 0 (k := ?_); refine rp2 1 (k := ?_); refine rp2 2 (k := ?_); refine rp2 4 (k := ?_); refine rp2 5 (k := ?_); refine rp2 7 (k := ?_); refine rp2 8 (k := ?_)
       refine dc 3 rfl (c := wbyteA hC1 (by simp [F]) w0.tok (by omega)) (k := ?_)
       rintro _ _ ⟨rfl, kE1, tkE1, u1, rfl⟩
       refine ⟨by first | exact fun _ _ h => h | (refine later_list [8, 7, 5, 4, 1] (by kernel_rfl) (fc2 ?_ <| fc2 ?_ <| fc2 ?_ <| fc2 ?_ <| fc2 ?_ <| fn0) <;> constructor <;> first | rfl | (simp [F]; done)), ?_⟩
       repeat (first | simp [F] | simp (disch := omega) only [wC, if_pos, if_neg])
       refine dc 6 rfl (c := wlongA hC2 (by simp [F]) u1.tok h1 (by omega)) (k := ?_)
       rintro _ _ ⟨rfl, kE2, tkE2, u2, rfl⟩
       refine ⟨by first | exact fun _ _ h => h | (refine later_list [8, 7, 4, 1] (by kernel_rfl) (fc2 ?_ <| fc2 ?_ <| fc2 ?_ <| fc2 ?_ <| fn0) <;> constructor <;> first | rfl | (simp [F]; done)), ?_⟩
       repeat (first | simp [F] | simp (disch := omega) only [wC, if_pos, if_neg])
       refine dc 9 rfl (c := wcoinsA hC3 (by simp [F]) u2.tok (by omega) (by omega)) (k := ?_)
       rintro _ _ ⟨rfl, kE, tkE, u3, rfl⟩
       refine ⟨by first | exact fun _ _ h => h | (refine later_list [7, 4, 1] (by kernel_rfl) (fc2 ?_ <| fc2 ?_ <| fc2 ?_ <| fn0) <;> constructor <;> first | rfl | (simp [F]; done)), ?_⟩
       (repeat (first | simp [F] | simp (disch := omega) only [wC, if_pos, if_neg])); refine dd ?_; refine hJ70 _ _ ?_
       first | refine hK14 ((kE, tkE)) _ _ ⟨kp, ?_, lp⟩ | refine hK14 ((k0, tk0)) _ _ ⟨kp, ?_, lp⟩
       · exact ((w0.trans u1).trans u2).trans u3
    try exact nope c26
    all_goals
     have c26p := c26; (try simp [F] at c26p); replace F := aF c26 F; (try replace F := aF c26p F)
     have hzE : AE = A0 := by (rw [hAE]; have h := c26; (try simp at h); simp [h])
     refine run_skip ?_
     first | refine hK14 ((kE, tkE)) _ _ ⟨kp, ?_, ?_⟩ | refine hK14 ((k0, tk0)) _ _ ⟨kp, ?_, ?_⟩
     · rw [hzE]
       exact w0
     · rw [hzE]; try rfl

def outS (s : Option (List UInt8)) : Out := ⟨byteS s, coinsL (takeS 1 s)⟩
def outT (s : Option (List UInt8)) : Option (List UInt8) := coinsS (takeS 1 s)
def outsGo : Nat → Option (List UInt8) → List Out → List Out × Option (List UInt8)
  | 0, s, l => (l, s)
  | _ + 1, none, l => (l, none)
  | m + 1, some p, l => outsGo m (outT (some p)) (l ++ [outS (some p)])
theorem outsGo_more {m : Nat} {s : Option (List UInt8)} {l : List Out} (hm : 0 < m) (hs : ¬ s = none) : outsGo m s l = outsGo (m - 1) (outT s) (l ++ [outS s]) := by
  match m, s, hm, hs with
  | m + 1, some p, _, _ => rfl
theorem outsGo_stop {m : Nat} {s : Option (List UInt8)} {l : List Out} (h : m = 0 ∨ s = none) : outsGo m s l = (l, s) := by
  match m, s, h with
  | 0, _, _ => rfl
  | m + 1, none, _ => rfl
def outsR (s : Option (List UInt8)) : List Out × Option (List UInt8) := outsGo (be (takeB 1 s)) (takeS 1 s) []
def stE (k : UInt8) (s : Option (List UInt8)) : Option (List UInt8) := bif hB k 1024 then s else coinsS (takeS 8 (takeS 1 s))
def stT (k : UInt8) (s : Option (List UInt8)) : Option (List UInt8) := bif hB k 1 then takeS 1 (stE k s) else stE k s
def stV (k : UInt8) (s : Option (List UInt8)) : Option (List UInt8) := bif hB k 2 then takeS 1 (stT k s) else stT k s
def stO (k : UInt8) (s : Option (List UInt8)) : Option (List UInt8) := bif hB k 4 then takeS 1 (stV k s) else stV k s
def stN (k : UInt8) (s : Option (List UInt8)) : Option (List UInt8) := bif hB k 8 then numS (stO k s) else stO k s
def stC (k : UInt8) (s : Option (List UInt8)) : Option (List UInt8) := bif hB k 16 then coinsS (stN k s) else stN k s
def stU (k : UInt8) (s : Option (List UInt8)) : Option (List UInt8) := bif hB k 32 then (outsR (stC k s)).2 else stC k s
def stP (k : UInt8) (s : Option (List UInt8)) : Option (List UInt8) := bif hB k 64 then takeT (stU k s) else stU k s
def stM (k : UInt8) (s : Option (List UInt8)) : Option (List UInt8) := bif hB k 128 then takeS 8 (stP k s) else stP k s
def stQ (k : UInt8) (s : Option (List UInt8)) : Option (List UInt8) := bif hB k 256 then takeS 2 (stM k s) else stM k s
def stJ (k : UInt8) (s : Option (List UInt8)) : Option (List UInt8) := bif hB k 512 then flagS (stQ k s) else stQ k s
def msgR (k : UInt8) (s : Option (List UInt8)) : Msg := ⟨k, bif hB k 1024 then 0 else byteS s, bif hB k 1024 then 0 else be (takeB 8 (takeS 1 s)), bif hB k 1024 then [] else coinsL (takeS 8 (takeS 1 s)),
  bif hB k 1 then byteS (stE k s) else 0, bif hB k 2 then byteS (stT k s) else 0, bif hB k 4 then byteS (stV k s) else 0, bif hB k 8 then numN (stO k s) else ⟨0, by decide⟩,
  bif hB k 16 then coinsL (stN k s) else [], bif hB k 32 then (outsR (stC k s)).1 else [], bif hB k 64 then takeP (stU k s) else ⟨0, 0, 0, [], []⟩,
  bif hB k 128 then be (takeB 8 (stP k s)) else 0, bif hB k 256 then be (takeB 2 (stM k s)) else 0, hB k 512 && (be (takeB 1 (stQ k s)) == 1)⟩

theorem onil0 {L : List Out} (h : posB L.length = false) : outsC L = [] ∧ L.length = 0 := by
  have h0 := posB_no h
  have : L = [] := List.length_eq_zero_iff.1 h0
  subst this
  exact ⟨rfl, rfl⟩

structure RSt where
  m : Nat
  s : Option (List UInt8)
  l : List Out

set_option maxHeartbeats 1600000 in
attribute [local simp] undefA List.getElem?_cons_zero List.getElem?_cons_succ outsC_noObj persC_noObj plnC in
theorem read_raw {O : List (List AV)} {tk : List Nat} {gl : Nat → Option (List AV)} {rows : List RowSt} {id1 id2 : Nat} {x1 : UInt8} {s : Option (List UInt8)} (i1 : id1 < O.length) (i2 : id2 < O.length) (hne : id1 ≠ id2) :
    CallsA Try.prog 106 [.ptr id1 0, .ptr id2 0, .v (.int .i64 (hasN x1 : Nat))] { objs := (O.set id1 (rd s)).set id2 [.v (.int .u8 x1.toNat), .v (.int .u8 0), .v (.int .u64 0), .sl 0 [] 0 .full, .v (.int .u8 0), .v (.int .u8 0), .v (.int .u8 0), .v (.int .u64 0), .v (.int .u64 0), .v (.int .u64 0), .v (.int .u64 0), .sl 0 [] 0 .full, .sl 0 [] 0 .full, .v (.int .u8 0), .v (.int .u64 0), .v (.int .u64 0), .sl 0 [] 0 .full, .sl 0 [] 0 .full, .v (.int .u64 0), .v (.int .u16 0), .v (.bool false)], toks := tk, gl := gl, rows := rows }
      (fun av σ' => av = .tup [] ∧ ∃ X T, WkL X (msgC (msgR x1 s)) ∧ X.all AV.isCell = true ∧ σ' = { objs := (O.set id1 (rd (stJ x1 s))).set id2 X, toks := tk ++ T, gl := gl, rows := rows }) := by
  obtain ⟨h, hh⟩ : ∃ h, h = hasN x1 := ⟨_, rfl⟩
  have hlt : h < 4096 := by rw [hh]; exact hasN_lt _
  obtain ⟨eE, heE⟩ : ∃ e, e = h &&& 1024 := ⟨_, rfl⟩
  have handE : ∀ xo yo, binA Try.prog .and 3 xo yo (.v (.int .i64 (h : Nat))) (.v (.int .i64 1024)) = some (.v (.int .i64 (eE : Nat))) := fun xo yo => by rw [heE]; exact binA_andN _ xo yo hlt (by decide)
  obtain ⟨bE, hbE⟩ : ∃ b, b = hB x1 1024 := ⟨_, rfl⟩
  have hneE : (((eE : Nat) : Int) != 0) = bE := by rw [hbE, hB, ← hh, ← heE]; simp [bne, Int.natCast_eq_zero]; rw [Bool.eq_iff_iff]; simp
  obtain ⟨eT, heT⟩ : ∃ e, e = h &&& 1 := ⟨_, rfl⟩
  have handT : ∀ xo yo, binA Try.prog .and 3 xo yo (.v (.int .i64 (h : Nat))) (.v (.int .i64 1)) = some (.v (.int .i64 (eT : Nat))) := fun xo yo => by rw [heT]; exact binA_andN _ xo yo hlt (by decide)
  obtain ⟨bT, hbT⟩ : ∃ b, b = hB x1 1 := ⟨_, rfl⟩
  have hneT : (((eT : Nat) : Int) != 0) = bT := by rw [hbT, hB, ← hh, ← heT]; simp [bne, Int.natCast_eq_zero]; rw [Bool.eq_iff_iff]; simp
  obtain ⟨eV, heV⟩ : ∃ e, e = h &&& 2 := ⟨_, rfl⟩
  have handV : ∀ xo yo, binA Try.prog .and 3 xo yo (.v (.int .i64 (h : Nat))) (.v (.int .i64 2)) = some (.v (.int .i64 (eV : Nat))) := fun xo yo => by rw [heV]; exact binA_andN _ xo yo hlt (by decide)
  obtain ⟨bV, hbV⟩ : ∃ b, b = hB x1 2 := ⟨_, rfl⟩
  have hneV : (((eV : Nat) : Int) != 0) = bV := by rw [hbV, hB, ← hh, ← heV]; simp [bne, Int.natCast_eq_zero]; rw [Bool.eq_iff_iff]; simp
  obtain ⟨eO, heO⟩ : ∃ e, e = h &&& 4 := ⟨_, rfl⟩
  have handO : ∀ xo yo, binA Try.prog .and 3 xo yo (.v (.int .i64 (h : Nat))) (.v (.int .i64 4)) = some (.v (.int .i64 (eO : Nat))) := fun xo yo => by rw [heO]; exact binA_andN _ xo yo hlt (by decide)
  obtain ⟨bO, hbO⟩ : ∃ b, b = hB x1 4 := ⟨_, rfl⟩
  have hneO : (((eO : Nat) : Int) != 0) = bO := by rw [hbO, hB, ← hh, ← heO]; simp [bne, Int.natCast_eq_zero]; rw [Bool.eq_iff_iff]; simp
  obtain ⟨eN, heN⟩ : ∃ e, e = h &&& 8 := ⟨_, rfl⟩
  have handN : ∀ xo yo, binA Try.prog .and 3 xo yo (.v (.int .i64 (h : Nat))) (.v (.int .i64 8)) = some (.v (.int .i64 (eN : Nat))) := fun xo yo => by rw [heN]; exact binA_andN _ xo yo hlt (by decide)
  obtain ⟨bN, hbN⟩ : ∃ b, b = hB x1 8 := ⟨_, rfl⟩
  have hneN : (((eN : Nat) : Int) != 0) = bN := by rw [hbN, hB, ← hh, ← heN]; simp [bne, Int.natCast_eq_zero]; rw [Bool.eq_iff_iff]; simp
  obtain ⟨eC, heC⟩ : ∃ e, e = h &&& 16 := ⟨_, rfl⟩
  have handC : ∀ xo yo, binA Try.prog .and 3 xo yo (.v (.int .i64 (h : Nat))) (.v (.int .i64 16)) = some (.v (.int .i64 (eC : Nat))) := fun xo yo => by rw [heC]; exact binA_andN _ xo yo hlt (by decide)
  obtain ⟨bC, hbC⟩ : ∃ b, b = hB x1 16 := ⟨_, rfl⟩
  have hneC : (((eC : Nat) : Int) != 0) = bC := by rw [hbC, hB, ← hh, ← heC]; simp [bne, Int.natCast_eq_zero]; rw [Bool.eq_iff_iff]; simp
  obtain ⟨eU, heU⟩ : ∃ e, e = h &&& 32 := ⟨_, rfl⟩
  have handU : ∀ xo yo, binA Try.prog .and 3 xo yo (.v (.int .i64 (h : Nat))) (.v (.int .i64 32)) = some (.v (.int .i64 (eU : Nat))) := fun xo yo => by rw [heU]; exact binA_andN _ xo yo hlt (by decide)
  obtain ⟨bU, hbU⟩ : ∃ b, b = hB x1 32 := ⟨_, rfl⟩
  have hneU : (((eU : Nat) : Int) != 0) = bU := by rw [hbU, hB, ← hh, ← heU]; simp [bne, Int.natCast_eq_zero]; rw [Bool.eq_iff_iff]; simp
  obtain ⟨eP, heP⟩ : ∃ e, e = h &&& 64 := ⟨_, rfl⟩
  have handP : ∀ xo yo, binA Try.prog .and 3 xo yo (.v (.int .i64 (h : Nat))) (.v (.int .i64 64)) = some (.v (.int .i64 (eP : Nat))) := fun xo yo => by rw [heP]; exact binA_andN _ xo yo hlt (by decide)
  obtain ⟨bP, hbP⟩ : ∃ b, b = hB x1 64 := ⟨_, rfl⟩
  have hneP : (((eP : Nat) : Int) != 0) = bP := by rw [hbP, hB, ← hh, ← heP]; simp [bne, Int.natCast_eq_zero]; rw [Bool.eq_iff_iff]; simp
  obtain ⟨eM, heM⟩ : ∃ e, e = h &&& 128 := ⟨_, rfl⟩
  have handM : ∀ xo yo, binA Try.prog .and 3 xo yo (.v (.int .i64 (h : Nat))) (.v (.int .i64 128)) = some (.v (.int .i64 (eM : Nat))) := fun xo yo => by rw [heM]; exact binA_andN _ xo yo hlt (by decide)
  obtain ⟨bM, hbM⟩ : ∃ b, b = hB x1 128 := ⟨_, rfl⟩
  have hneM : (((eM : Nat) : Int) != 0) = bM := by rw [hbM, hB, ← hh, ← heM]; simp [bne, Int.natCast_eq_zero]; rw [Bool.eq_iff_iff]; simp
  obtain ⟨eQ, heQ⟩ : ∃ e, e = h &&& 256 := ⟨_, rfl⟩
  have handQ : ∀ xo yo, binA Try.prog .and 3 xo yo (.v (.int .i64 (h : Nat))) (.v (.int .i64 256)) = some (.v (.int .i64 (eQ : Nat))) := fun xo yo => by rw [heQ]; exact binA_andN _ xo yo hlt (by decide)
  obtain ⟨bQ, hbQ⟩ : ∃ b, b = hB x1 256 := ⟨_, rfl⟩
  have hneQ : (((eQ : Nat) : Int) != 0) = bQ := by rw [hbQ, hB, ← hh, ← heQ]; simp [bne, Int.natCast_eq_zero]; rw [Bool.eq_iff_iff]; simp
  obtain ⟨eJ, heJ⟩ : ∃ e, e = h &&& 512 := ⟨_, rfl⟩
  have handJ : ∀ xo yo, binA Try.prog .and 3 xo yo (.v (.int .i64 (h : Nat))) (.v (.int .i64 512)) = some (.v (.int .i64 (eJ : Nat))) := fun xo yo => by rw [heJ]; exact binA_andN _ xo yo hlt (by decide)
  obtain ⟨bJ, hbJ⟩ : ∃ b, b = hB x1 512 := ⟨_, rfl⟩
  have hneJ : (((eJ : Nat) : Int) != 0) = bJ := by rw [hbJ, hB, ← hh, ← heJ]; simp [bne, Int.natCast_eq_zero]; rw [Bool.eq_iff_iff]; simp
  have heqE : (((eE : Nat) : Int) == 0) = !bE := by rw [← hneE]; simp [bne]
  rw [← hh]
  obtain ⟨SE, hSE⟩ : ∃ S, S = bif bE then s else coinsS (takeS 8 (takeS 1 s)) := ⟨_, rfl⟩
  obtain ⟨ST, hST⟩ : ∃ S, S = bif bT then takeS 1 SE else SE := ⟨_, rfl⟩
  obtain ⟨SV, hSV⟩ : ∃ S, S = bif bV then takeS 1 ST else ST := ⟨_, rfl⟩
  obtain ⟨SO, hSO⟩ : ∃ S, S = bif bO then takeS 1 SV else SV := ⟨_, rfl⟩
  obtain ⟨SN, hSN⟩ : ∃ S, S = bif bN then numS SO else SO := ⟨_, rfl⟩
  obtain ⟨SC, hSC⟩ : ∃ S, S = bif bC then coinsS SN else SN := ⟨_, rfl⟩
  obtain ⟨SU, hSU⟩ : ∃ S, S = bif bU then (outsR SC).2 else SC := ⟨_, rfl⟩
  obtain ⟨SP, hSP⟩ : ∃ S, S = bif bP then takeT SU else SU := ⟨_, rfl⟩
  obtain ⟨SM, hSM⟩ : ∃ S, S = bif bM then takeS 8 SP else SP := ⟨_, rfl⟩
  obtain ⟨SQ, hSQ⟩ : ∃ S, S = bif bQ then takeS 2 SM else SM := ⟨_, rfl⟩
  obtain ⟨SJ, hSJ⟩ : ∃ S, S = bif bJ then flagS SQ else SQ := ⟨_, rfl⟩
  obtain ⟨LU, hLU⟩ : ∃ L, L = bif bU then (outsR SC).1 else [] := ⟨_, rfl⟩
  obtain ⟨P, hP⟩ : ∃ P, P = takeP SU := ⟨_, rfl⟩
  have hptk : ∀ {τ : St} {id : Nat}, τ.objs[id]? = some (rd SU) → CallsA Try.prog 34 [.ptr id 0] τ (fun av σ' => av = .agg (plnC P) ∧ σ' = { τ with objs := τ.objs.set id (rd (takeT SU)) }) := fun h => by rw [hP]; exact ptake_ok h
  have hfin : stJ x1 s = SJ := by rw [hSJ, hSQ, hSM, hSP, hSU, hSC, hSN, hSO, hSV, hST, hSE]; simp only [stJ, stQ, stM, stP, stU, stC, stN, stO, stV, stT, stE, ← hbE, ← hbT, ← hbV, ← hbO, ← hbN, ← hbC, ← hbU, ← hbP, ← hbM, ← hbQ, ← hbJ]
  have eE : stE x1 s = SE := by rw [hSE]; simp only [stE, ← hbE]
  have eT : stT x1 s = ST := by rw [hST]; simp only [stT, eE, ← hbT]
  have eV : stV x1 s = SV := by rw [hSV]; simp only [stV, eT, ← hbV]
  have eO : stO x1 s = SO := by rw [hSO]; simp only [stO, eV, ← hbO]
  have eN : stN x1 s = SN := by rw [hSN]; simp only [stN, eO, ← hbN]
  have eC : stC x1 s = SC := by rw [hSC]; simp only [stC, eN, ← hbC]
  have eU : stU x1 s = SU := by rw [hSU]; simp only [stU, eC, ← hbU]
  have eP : stP x1 s = SP := by rw [hSP]; simp only [stP, eU, ← hbP]
  have eM : stM x1 s = SM := by rw [hSM]; simp only [stM, eP, ← hbM]
  have eQ : stQ x1 s = SQ := by rw [hSQ]; simp only [stQ, eM, ← hbQ]
  rw [hfin]
  obtain ⟨Pk, Ps, Pe, Pt, Pq⟩ := P
  have hW : WkL [.v (.int .u8 x1.toNat), .v (.int .u8 (bif bE then 0 else be (takeB 1 s) : Nat)), .v (.int .u64 (bif bE then 0 else be (takeB 8 (takeS 1 s)) : Nat)), allA (!bE) (coinsL (takeS 8 (takeS 1 s))), .v (.int .u8 (bif bT then be (takeB 1 SE) else 0 : Nat)), .v (.int .u8 (bif bV then be (takeB 1 ST) else 0 : Nat)), .v (.int .u8 (bif bO then be (takeB 1 SV) else 0 : Nat)), .v (.int .u64 (limb (bif bN then numOf (numB SO) else 0 : Nat) 0)), .v (.int .u64 (limb (bif bN then numOf (numB SO) else 0 : Nat) 1)), .v (.int .u64 (limb (bif bN then numOf (numB SO) else 0 : Nat) 2)), .v (.int .u64 (limb (bif bN then numOf (numB SO) else 0 : Nat) 3)), allA bC (coinsL SN), grA tk.length 2 (posB LU.length) (outsC LU) LU.length, .v (.int .u8 (bif bP then Pk else 0 : UInt8).toNat), .v (.int .u64 (bif bP then Ps else 0 : Nat)), .v (.int .u64 (bif bP then Pe else 0 : Nat)), allA bP Pt, perA bP Pq, .v (.int .u64 (bif bM then be (takeB 8 SP) else 0 : Nat)), .v (.int .u16 (bif bQ then be (takeB 2 SM) else 0 : Nat)), .v (.bool (bJ && (be (takeB 1 SQ) == 1)))] (msgC (msgR x1 s)) := by
    simp only [msgC, msgR, eE, eT, eV, eO, eN, eC, eU, eP, eM, eQ, ← hbE, ← hbT, ← hbV, ← hbO, ← hbN, ← hbC, ← hbU, ← hbP, ← hbM, ← hbQ, ← hbJ, ← hLU, ← hP]
    refine .cons (Wk.refl _) (.cons (wk_eq ?_) (.cons (wk_eq ?_) (.cons (wk_all ?_) (.cons (wk_eq ?_) (.cons (wk_eq ?_) (.cons (wk_eq ?_) (.cons (wk_eq ?_) (.cons (wk_eq ?_) (.cons (wk_eq ?_) (.cons (wk_eq ?_) (.cons (wk_all ?_) (.cons (wk_grA onil0) (.cons (wk_eq ?_) (.cons (wk_eq ?_) (.cons (wk_eq ?_) (.cons (wk_all ?_) (.cons (wk_per ?_) (.cons (wk_eq ?_) (.cons (wk_eq ?_) (.cons (wk_eq ?_) .nil))))))))))))))))))))
    all_goals first | rfl | (cases bE <;> simp [be_byteS]; done) | (cases bE <;> rfl) | (cases bT <;> simp [be_byteS]; done) | (cases bV <;> simp [be_byteS]; done) | (cases bO <;> simp [be_byteS]; done) | (cases bN <;> rfl) | (cases bP <;> rfl) | (cases bM <;> rfl) | (cases bQ <;> rfl)
  clear hfin hP eE eT eV eO eN eC eU eP eM eQ hh hbE hbT hbV hbO hbN hbC hbU hbP hbM hbQ hbJ heE heT heV heO heN heC heU heP heM heQ heJ
  have ic1 : ∀ (b : Bool) (l : List Coin), (allA b l).isCell = true := fun b l => by cases b <;> rfl
  have ic3 : ∀ (b : Bool) (l : List Per), (perA b l).isCell = true := fun b l => by cases b <;> rfl
  have ic4 : ∀ (k : Nat) (b : Bool) (cs : List AV) (n : Nat), (grA k 2 b cs n).isCell = true := fun k b cs n => by cases b <;> rfl
  have hcell : ([.v (.int .u8 x1.toNat), .v (.int .u8 (bif bE then 0 else be (takeB 1 s) : Nat)), .v (.int .u64 (bif bE then 0 else be (takeB 8 (takeS 1 s)) : Nat)), allA (!bE) (coinsL (takeS 8 (takeS 1 s))), .v (.int .u8 (bif bT then be (takeB 1 SE) else 0 : Nat)), .v (.int .u8 (bif bV then be (takeB 1 ST) else 0 : Nat)), .v (.int .u8 (bif bO then be (takeB 1 SV) else 0 : Nat)), .v (.int .u64 (limb (bif bN then numOf (numB SO) else 0 : Nat) 0)), .v (.int .u64 (limb (bif bN then numOf (numB SO) else 0 : Nat) 1)), .v (.int .u64 (limb (bif bN then numOf (numB SO) else 0 : Nat) 2)), .v (.int .u64 (limb (bif bN then numOf (numB SO) else 0 : Nat) 3)), allA bC (coinsL SN), grA tk.length 2 (posB LU.length) (outsC LU) LU.length, .v (.int .u8 (bif bP then Pk else 0 : UInt8).toNat), .v (.int .u64 (bif bP then Ps else 0 : Nat)), .v (.int .u64 (bif bP then Pe else 0 : Nat)), allA bP Pt, perA bP Pq, .v (.int .u64 (bif bM then be (takeB 8 SP) else 0 : Nat)), .v (.int .u16 (bif bQ then be (takeB 2 SM) else 0 : Nat)), .v (.bool (bJ && (be (takeB 1 SQ) == 1)))]).all AV.isCell = true := by simp only [List.all_cons, List.all_nil, ic1, ic3, ic4, Bool.and_true, Bool.true_and]; rfl
  simp only [AV.isCell] at ic1 ic3 ic4
  have hl0 : ∀ i, limb 0 i = 0 := by intro i; simp [limb]
  have g1 : ∀ a b, ((O.set id1 a).set id2 b)[id1]? = some a := fun a b => by rw [List.getElem?_set_ne (Ne.symm hne)]; simp [i1]
  have g2 : ∀ a b, ((O.set id1 a).set id2 b)[id2]? = some b := fun a b => by simp [i2]
  have s1 : ∀ a b a', ((O.set id1 a).set id2 b).set id1 a' = (O.set id1 a').set id2 b := fun a b a' => by rw [List.set_comm _ _ (Ne.symm hne), List.set_set]
  have s2 : ∀ a b b', ((O.set id1 a).set id2 b).set id2 b' = (O.set id1 a).set id2 b' := fun a b b' => by rw [List.set_set]
  have hdr : ∀ f : Nat → AV, List.drop 2 (List.map f (List.range 2)) = [] := fun _ => rfl
  have hm1 := be_lt1 (takeB_len 1 SC)
  have hnA : numA (numOf (numB SO)) = [.v (.int .u64 (limb (numOf (numB SO)) 0)), .v (.int .u64 (limb (numOf (numB SO)) 1)), .v (.int .u64 (limb (numOf (numB SO)) 2)), .v (.int .u64 (limb (numOf (numB SO)) 3))] := rfl
  have F := And.intro g1 (And.intro g2 (And.intro s1 (And.intro s2 (And.intro hl0 (And.intro ic1 (And.intro ic3 (And.intro ic4 (And.intro hdr (And.intro handE (And.intro handT (And.intro handV (And.intro handO (And.intro handN (And.intro handC (And.intro handU (And.intro handP (And.intro handM (And.intro handQ (And.intro handJ (And.intro hneE (And.intro hneT (And.intro hneV (And.intro hneO (And.intro hneN (And.intro hneC (And.intro hneU (And.intro hneP (And.intro hneM (And.intro hneQ (And.intro hneJ (And.intro heqE (True.intro))))))))))))))))))))))))))))))))
  refine callsA_body Try.func106 rfl rfl rfl ?_; refine sqc (X := Unit) [0, 1, 2] (fun z ρ σ1 => (σ1 = { objs := (O.set id1 (rd SE)).set id2 [.v (.int .u8 x1.toNat), .v (.int .u8 (bif bE then 0 else be (takeB 1 s) : Nat)), .v (.int .u64 (bif bE then 0 else be (takeB 8 (takeS 1 s)) : Nat)), allA (!bE) (coinsL (takeS 8 (takeS 1 s))), .v (.int .u8 0), .v (.int .u8 0), .v (.int .u8 0), .v (.int .u64 0), .v (.int .u64 0), .v (.int .u64 0), .v (.int .u64 0), .sl 0 [] 0 .full, .sl 0 [] 0 .full, .v (.int .u8 0), .v (.int .u64 0), .v (.int .u64 0), .sl 0 [] 0 .full, .sl 0 [] 0 .full, .v (.int .u64 0), .v (.int .u16 0), .v (.bool false)], toks := tk, gl := gl, rows := rows })) ?cy1 ?cx1
  case cy1 =>
   rintro z ρCc9 σ1 hFCc9 hσ; obtain rfl := hσ.symm
   have fCc9 := keepL hFCc9
   (try simp [KeepL, F] at fCc9); (try replace F := aF fCc9 F); refine sqc (X := Unit) [0, 1, 2] (fun z ρ σ1 => (σ1 = { objs := (O.set id1 (rd ST)).set id2 [.v (.int .u8 x1.toNat), .v (.int .u8 (bif bE then 0 else be (takeB 1 s) : Nat)), .v (.int .u64 (bif bE then 0 else be (takeB 8 (takeS 1 s)) : Nat)), allA (!bE) (coinsL (takeS 8 (takeS 1 s))), .v (.int .u8 (bif bT then be (takeB 1 SE) else 0 : Nat)), .v (.int .u8 0), .v (.int .u8 0), .v (.int .u64 0), .v (.int .u64 0), .v (.int .u64 0), .v (.int .u64 0), .sl 0 [] 0 .full, .sl 0 [] 0 .full, .v (.int .u8 0), .v (.int .u64 0), .v (.int .u64 0), .sl 0 [] 0 .full, .sl 0 [] 0 .full, .v (.int .u64 0), .v (.int .u16 0), .v (.bool false)], toks := tk, gl := gl, rows := rows })) ?cy2 ?cx2
   case cy2 =>
    rintro z ρCc27 σ1 hFCc27 hσ; obtain rfl := hσ.symm
    have fCc27 := keepL hFCc27
    (try simp [KeepL, F] at fCc27); (try replace F := aF fCc27 F); refine sqc (X := Unit) [0, 1, 2] (fun z ρ σ1 => (σ1 = { objs := (O.set id1 (rd SV)).set id2 [.v (.int .u8 x1.toNat), .v (.int .u8 (bif bE then 0 else be (takeB 1 s) : Nat)), .v (.int .u64 (bif bE then 0 else be (takeB 8 (takeS 1 s)) : Nat)), allA (!bE) (coinsL (takeS 8 (takeS 1 s))), .v (.int .u8 (bif bT then be (takeB 1 SE) else 0 : Nat)), .v (.int .u8 (bif bV then be (takeB 1 ST) else 0 : Nat)), .v (.int .u8 0), .v (.int .u64 0), .v (.int .u64 0), .v (.int .u64 0), .v (.int .u64 0), .sl 0 [] 0 .full, .sl 0 [] 0 .full, .v (.int .u8 0), .v (.int .u64 0), .v (.int .u64 0), .sl 0 [] 0 .full, .sl 0 [] 0 .full, .v (.int .u64 0), .v (.int .u16 0), .v (.bool false)], toks := tk, gl := gl, rows := rows })) ?cy3 ?cx3
    case cy3 =>
     rintro z ρCc35 σ1 hFCc35 hσ; obtain rfl := hσ.symm
     have fCc35 := keepL hFCc35
     (try simp [KeepL, F] at fCc35); (try replace F := aF fCc35 F); refine sqc (X := Unit) [0, 1, 2] (fun z ρ σ1 => (σ1 = { objs := (O.set id1 (rd SO)).set id2 [.v (.int .u8 x1.toNat), .v (.int .u8 (bif bE then 0 else be (takeB 1 s) : Nat)), .v (.int .u64 (bif bE then 0 else be (takeB 8 (takeS 1 s)) : Nat)), allA (!bE) (coinsL (takeS 8 (takeS 1 s))), .v (.int .u8 (bif bT then be (takeB 1 SE) else 0 : Nat)), .v (.int .u8 (bif bV then be (takeB 1 ST) else 0 : Nat)), .v (.int .u8 (bif bO then be (takeB 1 SV) else 0 : Nat)), .v (.int .u64 0), .v (.int .u64 0), .v (.int .u64 0), .v (.int .u64 0), .sl 0 [] 0 .full, .sl 0 [] 0 .full, .v (.int .u8 0), .v (.int .u64 0), .v (.int .u64 0), .sl 0 [] 0 .full, .sl 0 [] 0 .full, .v (.int .u64 0), .v (.int .u16 0), .v (.bool false)], toks := tk, gl := gl, rows := rows })) ?cy4 ?cx4
     case cy4 =>
      rintro z ρCc43 σ1 hFCc43 hσ; obtain rfl := hσ.symm
      have fCc43 := keepL hFCc43
      (try simp [KeepL, F] at fCc43); (try replace F := aF fCc43 F); refine sqc (X := Unit) [0, 1, 2] (fun z ρ σ1 => (σ1 = { objs := (O.set id1 (rd SN)).set id2 [.v (.int .u8 x1.toNat), .v (.int .u8 (bif bE then 0 else be (takeB 1 s) : Nat)), .v (.int .u64 (bif bE then 0 else be (takeB 8 (takeS 1 s)) : Nat)), allA (!bE) (coinsL (takeS 8 (takeS 1 s))), .v (.int .u8 (bif bT then be (takeB 1 SE) else 0 : Nat)), .v (.int .u8 (bif bV then be (takeB 1 ST) else 0 : Nat)), .v (.int .u8 (bif bO then be (takeB 1 SV) else 0 : Nat)), .v (.int .u64 (limb (bif bN then numOf (numB SO) else 0 : Nat) 0)), .v (.int .u64 (limb (bif bN then numOf (numB SO) else 0 : Nat) 1)), .v (.int .u64 (limb (bif bN then numOf (numB SO) else 0 : Nat) 2)), .v (.int .u64 (limb (bif bN then numOf (numB SO) else 0 : Nat) 3)), .sl 0 [] 0 .full, .sl 0 [] 0 .full, .v (.int .u8 0), .v (.int .u64 0), .v (.int .u64 0), .sl 0 [] 0 .full, .sl 0 [] 0 .full, .v (.int .u64 0), .v (.int .u16 0), .v (.bool false)], toks := tk, gl := gl, rows := rows })) ?cy5 ?cx5
      case cy5 =>
       rintro z ρCc51 σ1 hFCc51 hσ; obtain rfl := hσ.symm
       have fCc51 := keepL hFCc51
       (try simp [KeepL, F] at fCc51); (try replace F := aF fCc51 F); refine sqc (X := Unit) [0, 1, 2] (fun z ρ σ1 => (σ1 = { objs := (O.set id1 (rd SC)).set id2 [.v (.int .u8 x1.toNat), .v (.int .u8 (bif bE then 0 else be (takeB 1 s) : Nat)), .v (.int .u64 (bif bE then 0 else be (takeB 8 (takeS 1 s)) : Nat)), allA (!bE) (coinsL (takeS 8 (takeS 1 s))), .v (.int .u8 (bif bT then be (takeB 1 SE) else 0 : Nat)), .v (.int .u8 (bif bV then be (takeB 1 ST) else 0 : Nat)), .v (.int .u8 (bif bO then be (takeB 1 SV) else 0 : Nat)), .v (.int .u64 (limb (bif bN then numOf (numB SO) else 0 : Nat) 0)), .v (.int .u64 (limb (bif bN then numOf (numB SO) else 0 : Nat) 1)), .v (.int .u64 (limb (bif bN then numOf (numB SO) else 0 : Nat) 2)), .v (.int .u64 (limb (bif bN then numOf (numB SO) else 0 : Nat) 3)), allA bC (coinsL SN), .sl 0 [] 0 .full, .v (.int .u8 0), .v (.int .u64 0), .v (.int .u64 0), .sl 0 [] 0 .full, .sl 0 [] 0 .full, .v (.int .u64 0), .v (.int .u16 0), .v (.bool false)], toks := tk, gl := gl, rows := rows })) ?cy6 ?cx6
       case cy6 =>
        rintro z ρCc59 σ1 hFCc59 hσ; obtain rfl := hσ.symm
        have fCc59 := keepL hFCc59
        (try simp [KeepL, F] at fCc59); (try replace F := aF fCc59 F); refine sqc (X := Unit) [0, 1, 2] (fun z ρ σ1 => (σ1 = { objs := (O.set id1 (rd SU)).set id2 [.v (.int .u8 x1.toNat), .v (.int .u8 (bif bE then 0 else be (takeB 1 s) : Nat)), .v (.int .u64 (bif bE then 0 else be (takeB 8 (takeS 1 s)) : Nat)), allA (!bE) (coinsL (takeS 8 (takeS 1 s))), .v (.int .u8 (bif bT then be (takeB 1 SE) else 0 : Nat)), .v (.int .u8 (bif bV then be (takeB 1 ST) else 0 : Nat)), .v (.int .u8 (bif bO then be (takeB 1 SV) else 0 : Nat)), .v (.int .u64 (limb (bif bN then numOf (numB SO) else 0 : Nat) 0)), .v (.int .u64 (limb (bif bN then numOf (numB SO) else 0 : Nat) 1)), .v (.int .u64 (limb (bif bN then numOf (numB SO) else 0 : Nat) 2)), .v (.int .u64 (limb (bif bN then numOf (numB SO) else 0 : Nat) 3)), allA bC (coinsL SN), grA tk.length 2 (posB LU.length) (outsC LU) LU.length, .v (.int .u8 0), .v (.int .u64 0), .v (.int .u64 0), .sl 0 [] 0 .full, .sl 0 [] 0 .full, .v (.int .u64 0), .v (.int .u16 0), .v (.bool false)], toks := tk ++ grT (posB LU.length) LU.length, gl := gl, rows := rows })) ?cy7 ?cx7
        case cy7 =>
         rintro z ρCc67 σ1 hFCc67 hσ; obtain rfl := hσ.symm
         have fCc67 := keepL hFCc67
         (try simp [KeepL, F] at fCc67); (try replace F := aF fCc67 F); refine sqc (X := Unit) [0, 1, 2] (fun z ρ σ1 => (σ1 = { objs := (O.set id1 (rd SP)).set id2 [.v (.int .u8 x1.toNat), .v (.int .u8 (bif bE then 0 else be (takeB 1 s) : Nat)), .v (.int .u64 (bif bE then 0 else be (takeB 8 (takeS 1 s)) : Nat)), allA (!bE) (coinsL (takeS 8 (takeS 1 s))), .v (.int .u8 (bif bT then be (takeB 1 SE) else 0 : Nat)), .v (.int .u8 (bif bV then be (takeB 1 ST) else 0 : Nat)), .v (.int .u8 (bif bO then be (takeB 1 SV) else 0 : Nat)), .v (.int .u64 (limb (bif bN then numOf (numB SO) else 0 : Nat) 0)), .v (.int .u64 (limb (bif bN then numOf (numB SO) else 0 : Nat) 1)), .v (.int .u64 (limb (bif bN then numOf (numB SO) else 0 : Nat) 2)), .v (.int .u64 (limb (bif bN then numOf (numB SO) else 0 : Nat) 3)), allA bC (coinsL SN), grA tk.length 2 (posB LU.length) (outsC LU) LU.length, .v (.int .u8 (bif bP then Pk else 0 : UInt8).toNat), .v (.int .u64 (bif bP then Ps else 0 : Nat)), .v (.int .u64 (bif bP then Pe else 0 : Nat)), allA bP Pt, perA bP Pq, .v (.int .u64 0), .v (.int .u16 0), .v (.bool false)], toks := tk ++ grT (posB LU.length) LU.length, gl := gl, rows := rows })) ?cy8 ?cx8
         case cy8 =>
          rintro z ρCc95 σ1 hFCc95 hσ; obtain rfl := hσ.symm
          have fCc95 := keepL hFCc95
          (try simp [KeepL, F] at fCc95); (try replace F := aF fCc95 F); refine sqc (X := Unit) [0, 1, 2] (fun z ρ σ1 => (σ1 = { objs := (O.set id1 (rd SM)).set id2 [.v (.int .u8 x1.toNat), .v (.int .u8 (bif bE then 0 else be (takeB 1 s) : Nat)), .v (.int .u64 (bif bE then 0 else be (takeB 8 (takeS 1 s)) : Nat)), allA (!bE) (coinsL (takeS 8 (takeS 1 s))), .v (.int .u8 (bif bT then be (takeB 1 SE) else 0 : Nat)), .v (.int .u8 (bif bV then be (takeB 1 ST) else 0 : Nat)), .v (.int .u8 (bif bO then be (takeB 1 SV) else 0 : Nat)), .v (.int .u64 (limb (bif bN then numOf (numB SO) else 0 : Nat) 0)), .v (.int .u64 (limb (bif bN then numOf (numB SO) else 0 : Nat) 1)), .v (.int .u64 (limb (bif bN then numOf (numB SO) else 0 : Nat) 2)), .v (.int .u64 (limb (bif bN then numOf (numB SO) else 0 : Nat) 3)), allA bC (coinsL SN), grA tk.length 2 (posB LU.length) (outsC LU) LU.length, .v (.int .u8 (bif bP then Pk else 0 : UInt8).toNat), .v (.int .u64 (bif bP then Ps else 0 : Nat)), .v (.int .u64 (bif bP then Pe else 0 : Nat)), allA bP Pt, perA bP Pq, .v (.int .u64 (bif bM then be (takeB 8 SP) else 0 : Nat)), .v (.int .u16 0), .v (.bool false)], toks := tk ++ grT (posB LU.length) LU.length, gl := gl, rows := rows })) ?cy9 ?cx9
          case cy9 =>
           rintro z ρCc103 σ1 hFCc103 hσ; obtain rfl := hσ.symm
           have fCc103 := keepL hFCc103
           (try simp [KeepL, F] at fCc103); (try replace F := aF fCc103 F); refine sqc (X := Unit) [0, 1, 2] (fun z ρ σ1 => (σ1 = { objs := (O.set id1 (rd SQ)).set id2 [.v (.int .u8 x1.toNat), .v (.int .u8 (bif bE then 0 else be (takeB 1 s) : Nat)), .v (.int .u64 (bif bE then 0 else be (takeB 8 (takeS 1 s)) : Nat)), allA (!bE) (coinsL (takeS 8 (takeS 1 s))), .v (.int .u8 (bif bT then be (takeB 1 SE) else 0 : Nat)), .v (.int .u8 (bif bV then be (takeB 1 ST) else 0 : Nat)), .v (.int .u8 (bif bO then be (takeB 1 SV) else 0 : Nat)), .v (.int .u64 (limb (bif bN then numOf (numB SO) else 0 : Nat) 0)), .v (.int .u64 (limb (bif bN then numOf (numB SO) else 0 : Nat) 1)), .v (.int .u64 (limb (bif bN then numOf (numB SO) else 0 : Nat) 2)), .v (.int .u64 (limb (bif bN then numOf (numB SO) else 0 : Nat) 3)), allA bC (coinsL SN), grA tk.length 2 (posB LU.length) (outsC LU) LU.length, .v (.int .u8 (bif bP then Pk else 0 : UInt8).toNat), .v (.int .u64 (bif bP then Ps else 0 : Nat)), .v (.int .u64 (bif bP then Pe else 0 : Nat)), allA bP Pt, perA bP Pq, .v (.int .u64 (bif bM then be (takeB 8 SP) else 0 : Nat)), .v (.int .u16 (bif bQ then be (takeB 2 SM) else 0 : Nat)), .v (.bool false)], toks := tk ++ grT (posB LU.length) LU.length, gl := gl, rows := rows })) ?cy10 ?cx10
           case cy10 =>
            rintro z ρCc111 σ1 hFCc111 hσ; obtain rfl := hσ.symm
            have fCc111 := keepL hFCc111
            (try simp [KeepL, F] at fCc111); (try replace F := aF fCc111 F); refine sr fun _ hJ12 => ?_; refine hJ12 _ _ ?_; refine cs (t := bJ) (fun c119 => ?_) (fun c119 => ?_)
            · try exact nope c119
              all_goals
               replace F := wf F c119; refine rg' (h := fun J13 hJ13 => ?_); refine cb (c := flag_ok (g1 _ _)) (k := ?_); refine hJ13 _ _ ?_; (try simp only [Then, InBlock, NoGoto, if_true]); refine answer_none rfl (.inl rfl) ?_
               have hJs : True := trivial
               have h := c119
               exact ⟨rfl, _, grT (posB LU.length) LU.length, hW, hcell, by simp [hSJ, h]⟩
            try exact nope c119
            all_goals
             replace F := wf F c119; refine run_skip ?_; (try simp only [Then, InBlock, NoGoto, if_true]); refine answer_none rfl (.inl rfl) ?_
             have hJs : True := trivial
             have h := c119
             exact ⟨rfl, _, grT (posB LU.length) LU.length, hW, hcell, by simp [hSJ, h]⟩
           case cx10 =>
            intro K10 hK10
            refine sr fun _ hJ15 => ?_; refine hJ15 _ _ ?_; refine cs (t := bQ) (fun c111 => ?_) (fun c111 => ?_)
            · try exact nope c111
              all_goals
               replace F := wf F c111; refine rg' (h := fun J16 hJ16 => ?_); refine cb (c := short_ok (g1 _ _)) (k := ?_); refine hJ16 _ _ ?_; refine hK10 (()) _ _ ⟨kp, ?_⟩
               · have h := c111
                 (try simp at h); simp [hSQ, F, h]
            try exact nope c111
            all_goals
             replace F := wf F c111; refine run_skip ?_; refine hK10 (()) _ _ ⟨kp, ?_⟩
             · have h := c111
               (try simp at h); simp [hSQ, F, h]
          case cx9 =>
           intro K9 hK9
           refine sr fun _ hJ18 => ?_; refine hJ18 _ _ ?_; refine cs (t := bM) (fun c103 => ?_) (fun c103 => ?_)
           · try exact nope c103
             all_goals
              replace F := wf F c103; refine rg' (h := fun J19 hJ19 => ?_); refine cb (c := long_ok (g1 _ _)) (k := ?_); refine hJ19 _ _ ?_; refine hK9 (()) _ _ ⟨kp, ?_⟩
              · have h := c103
                (try simp at h); simp [hSM, F, h]
           try exact nope c103
           all_goals
            replace F := wf F c103; refine run_skip ?_; refine hK9 (()) _ _ ⟨kp, ?_⟩
            · have h := c103
              (try simp at h); simp [hSM, F, h]
         case cx8 =>
          intro K8 hK8
          refine sr fun _ hJ21 => ?_; refine hJ21 _ _ ?_; refine cs (t := bP) (fun c95 => ?_) (fun c95 => ?_)
          · try exact nope c95
            all_goals
             replace F := wf F c95; refine rg' (h := fun J22 hJ22 => ?_); refine cb (c := hptk (g1 _ _)) (k := ?_); refine hJ22 _ _ ?_; refine hK8 (()) _ _ ⟨kp, ?_⟩
             · have h := c95
               (try simp at h); simp [hSP, F, h]
          try exact nope c95
          all_goals
           replace F := wf F c95; refine run_skip ?_; refine hK8 (()) _ _ ⟨kp, ?_⟩
           · have h := c95
             (try simp at h); simp [hSP, F, h]
        case cx7 =>
         intro K7 hK7
         refine sr fun _ hJ24 => ?_; refine hJ24 _ _ ?_; refine cs (t := bU) (fun c67 => ?_) (fun c67 => ?_)
         · try exact nope c67
           all_goals
            replace F := wf F c67; refine sr fun _ hJ26 => ?_; refine cb (c := byte_ok (g1 _ _)) (k := ?_); refine hJ26 _ _ ?_; refine run_block_k ?_; refine run_loopF (X := RSt) [0, 1, 2] (fun y ρ σ1 => (y.m + y.l.length ≤ 255) ∧ (outsGo y.m y.s y.l = outsR SC) ∧ (ρ 6 = .v (.int .u8 y.m)) ∧ (σ1 = { objs := (O.set id1 (rd y.s)).set id2 [.v (.int .u8 x1.toNat), .v (.int .u8 (bif bE then 0 else be (takeB 1 s) : Nat)), .v (.int .u64 (bif bE then 0 else be (takeB 8 (takeS 1 s)) : Nat)), allA (!bE) (coinsL (takeS 8 (takeS 1 s))), .v (.int .u8 (bif bT then be (takeB 1 SE) else 0 : Nat)), .v (.int .u8 (bif bV then be (takeB 1 ST) else 0 : Nat)), .v (.int .u8 (bif bO then be (takeB 1 SV) else 0 : Nat)), .v (.int .u64 (limb (bif bN then numOf (numB SO) else 0 : Nat) 0)), .v (.int .u64 (limb (bif bN then numOf (numB SO) else 0 : Nat) 1)), .v (.int .u64 (limb (bif bN then numOf (numB SO) else 0 : Nat) 2)), .v (.int .u64 (limb (bif bN then numOf (numB SO) else 0 : Nat) 3)), allA bC (coinsL SN), grA tk.length 2 (posB y.l.length) (outsC y.l) y.l.length, .v (.int .u8 0), .v (.int .u64 0), .v (.int .u64 0), .sl 0 [] 0 .full, .sl 0 [] 0 .full, .v (.int .u64 0), .v (.int .u16 0), .v (.bool false)], toks := tk ++ grT (posB y.l.length) y.l.length, gl := gl, rows := rows })) (fun y => y.m) (⟨be (takeB 1 SC), takeS 1 SC, []⟩) ?st1 ?rd1
            case st1 =>
             refine ⟨?_, ?_, lp, ?_⟩
             · simp
               omega
             · rfl
             · simp [F]
            case rd1 =>
             rintro y ρ1 σ1 hF1 ⟨hm, hg, h6, hσ⟩; obtain rfl := hσ.symm
             have f1 := keepL hF1
             (try simp [KeepL, F] at f1); replace F := aF h6 F; (try replace F := aF f1 F); refine sq fun K27 hK27 => ?_; refine sqc (X := Unit) [0, 1, 2, 6] (fun z ρ σ1 => (ρ 76 = .v (.bool (decide (0 < y.m) && !y.s.isNone))) ∧ (σ1 = { objs := (O.set id1 (rd y.s)).set id2 [.v (.int .u8 x1.toNat), .v (.int .u8 (bif bE then 0 else be (takeB 1 s) : Nat)), .v (.int .u64 (bif bE then 0 else be (takeB 8 (takeS 1 s)) : Nat)), allA (!bE) (coinsL (takeS 8 (takeS 1 s))), .v (.int .u8 (bif bT then be (takeB 1 SE) else 0 : Nat)), .v (.int .u8 (bif bV then be (takeB 1 ST) else 0 : Nat)), .v (.int .u8 (bif bO then be (takeB 1 SV) else 0 : Nat)), .v (.int .u64 (limb (bif bN then numOf (numB SO) else 0 : Nat) 0)), .v (.int .u64 (limb (bif bN then numOf (numB SO) else 0 : Nat) 1)), .v (.int .u64 (limb (bif bN then numOf (numB SO) else 0 : Nat) 2)), .v (.int .u64 (limb (bif bN then numOf (numB SO) else 0 : Nat) 3)), allA bC (coinsL SN), grA tk.length 2 (posB y.l.length) (outsC y.l) y.l.length, .v (.int .u8 0), .v (.int .u64 0), .v (.int .u64 0), .sl 0 [] 0 .full, .sl 0 [] 0 .full, .v (.int .u64 0), .v (.int .u16 0), .v (.bool false)], toks := tk ++ grT (posB y.l.length) y.l.length, gl := gl, rows := rows })) ?cy28 ?cx28
             case cy28 =>
              rintro z ρCr14 σ1 hFCr14 ⟨h76, hσ⟩; obtain rfl := hσ.symm
              have fCr14 := keepL hFCr14
              (try simp [KeepL, F] at fCr14); replace F := aF h76 F; (try replace F := aF fCr14 F); refine cs (t := (decide (0 < y.m) && !y.s.isNone)) (fun c76 => ?_) (fun c76 => ?_)
              · try exact nope c76
                all_goals
                 replace F := wf F c76; refine run_skip ?_; refine hK27 _ _ ?_; refine sq fun K29 hK29 => ?_; refine run_block_k ?_
                 obtain ⟨m, S, L⟩ := y
                 simp only at hm hg h6
                 have hmS : 0 < m ∧ ¬ S = none := by have h := c76; simp at h; exact ⟨h.1, by intro e; rw [e] at h; simp at h⟩
                 have hnx := outsGo_more (l := L) hmS.1 hmS.2
                 have hPo : outsC (L ++ [outS S]) = outsC L ++ [.v (.int .u8 (be (takeB 1 S))), .sl 5 (coinsC (coinsL (takeS 1 S))) (coinsL (takeS 1 S)).length .shut] := by rw [← outsC_append, be_byteS]; rfl
                 have hLl : L.length ≤ 254 := by omega
                 have happ : ∀ objs, appendA Try.prog 70 (grA tk.length 2 (posB L.length) (outsC L) L.length) (.sl 2 [.v (.int .u8 (be (takeB 1 S))), .sl 5 (coinsC (coinsL (takeS 1 S))) (coinsL (takeS 1 S)).length .shut] 1 .full) ⟨objs, tk ++ grT (posB L.length) L.length, gl, rows⟩ = some (grA tk.length 2 true (outsC L ++ [.v (.int .u8 (be (takeB 1 S))), .sl 5 (coinsC (coinsL (takeS 1 S))) (coinsL (takeS 1 S)).length .shut]) (L.length + 1), ⟨objs, tk ++ grT true (L.length + 1), gl, rows⟩) := fun objs => append_gr elemT_70 ti_122 (by decide) rfl onil0 (.inl rfl) (by simp [roomA]; omega) (by simp [maxLen]; omega)
                 have hwm : IntKind.u8.wrap ((m : Int) - 1) = ((m - 1 : Nat) : Int) := by rw [wrap_u8c (by omega)]; omega
                 replace F := aF happ F
                 refine run_draw (by kernel_rfl) fun J30 hJ30 => ?_
                 refine rp2 0 (k := ?_); refine rp2 1 (k := ?_); refine rp2 2 (k := ?_); refine rp2 3 (k := ?_); refine rp2 4 (k := ?_); refine rp2 5 (k := ?_); refine rp2 7 (k := ?_); refine dc 6 rfl (c := byte_ok (g1 _ _)) (k := ?_); rintro _ _ ⟨rfl, rfl⟩
                 refine ⟨by first | exact fun _ _ h => h | (refine later_list [7, 4, 3, 2, 1, 0] (by kernel_rfl) (fc2 ?_ <| fc2 ?_ <| fc2 ?_ <| fc2 ?_ <| fc2 ?_ <| fc2 ?_ <| fn0) <;> constructor <;> first | rfl | (simp [F]; done)), ?_⟩
                 (repeat (first | simp [F] | simp (disch := omega) only [wC, if_pos, if_neg])); refine dc 8 rfl (c := rcoins_raw (g1 _ _)) (k := ?_); rintro _ _ ⟨rfl, rfl⟩
                 refine ⟨by first | exact fun _ _ h => h | (refine later_list [4, 3, 2, 1, 0] (by kernel_rfl) (fc2 ?_ <| fc2 ?_ <| fc2 ?_ <| fc2 ?_ <| fc2 ?_ <| fn0) <;> constructor <;> first | rfl | (simp [F]; done)), ?_⟩
                 (repeat (first | simp [F] | simp (disch := omega) only [wC, if_pos, if_neg])); refine rp2 9 (k := ?_); refine rp2 10 (k := ?_); refine dop 11 rfl ?_; repeat (first | simp [F] | simp (disch := omega) only [wC, if_pos, if_neg])
                 refine ⟨by first | exact fun _ _ h => h | (refine later_list [9, 3, 2, 1, 0] (by kernel_rfl) (fc2 ?_ <| fc2 ?_ <| fc2 ?_ <| fc2 ?_ <| fc2 ?_ <| fn0) <;> constructor <;> first | rfl | (simp [F]; done)), ?_⟩
                 refine rp2 12 (k := ?_); refine rp2 13 (k := ?_); refine dop 14 rfl ?_; repeat (first | simp [F] | simp (disch := omega) only [wC, if_pos, if_neg])
                 refine ⟨by first | exact fun _ _ h => h | (refine later_list [12] (by kernel_rfl) (fc2 ?_ <| fn0) <;> constructor <;> first | rfl | (simp [F]; done)), ?_⟩
                 refine dd ?_; refine hJ30 _ _ ?_; refine hK29 _ _ ?_; replace F := aF hwm F; refine rg' (h := fun J31 hJ31 => ?_); refine hJ31 _ _ ?_; refine ⟨(⟨m - 1, outT S, L ++ [outS S]⟩), ⟨kp, ?_, ?_, lp, ?_⟩, ?_⟩
                 · simp
                   omega
                 · rw [← hg]
                   exact hnx.symm
                 · simp [F, hPo, outT]
                 · simp
                   omega
              try exact nope c76
              all_goals
               replace F := wf F c76
               have he : outsR SC = (y.l, y.s) := by rw [← hg]; exact outsGo_stop (by have h := c76; simp at h; by_cases h0 : y.m = 0; exact .inl h0; exact .inr (h (by omega)))
               have hy1 : SU = y.s := by rw [hSU, c67, he]; rfl
               have hy2 : LU = y.l := by rw [hLU, c67, he]; rfl
               refine run_exit ?_; refine hK7 (()) _ _ ⟨kp, ?_⟩
               · simp [hy1, hy2]
             case cx28 =>
              intro K28 hK28
              refine rg' (h := fun J32 hJ32 => ?_); refine gs 72 (fun g14_2 => ?_) (fun g14_2 => ?_)
              · try exact nope g14_2
                all_goals
                 replace F := wf F g14_2; refine go2 (k := ?_); refine cb (c := bad_ok (g1 _ _)) (k := ?_); refine go2 (k := ?_); refine hJ32 _ _ ?_; refine hK28 (()) _ _ ⟨kp, ?_, lp⟩
                 · have h := g14_2
                   simp at h
                   simp [F, h]
              try exact nope g14_2
              all_goals
               replace F := wf F g14_2; (iterate 3 refine no2 (k := ?_)); refine hJ32 _ _ ?_; refine hK28 (()) _ _ ⟨kp, ?_, lp⟩
               · have h := g14_2
                 simp at h
                 simp [F, h]
         try exact nope c67
         all_goals
          replace F := wf F c67; refine run_skip ?_; refine hK7 (()) _ _ ⟨kp, ?_⟩
          · have e1 : SU = SC := by (rw [hSU, c67]; rfl)
            have e2 : LU = [] := by (rw [hLU, c67]; rfl)
            simp [e1, e2]
       case cx6 =>
        intro K6 hK6
        refine sr fun _ hJ34 => ?_; refine hJ34 _ _ ?_; refine cs (t := bC) (fun c59 => ?_) (fun c59 => ?_)
        · try exact nope c59
          all_goals
           replace F := wf F c59; refine rg' (h := fun J35 hJ35 => ?_); refine cb (c := rcoins_raw (g1 _ _)) (k := ?_); refine hJ35 _ _ ?_; refine hK6 (()) _ _ ⟨kp, ?_⟩
           · have h := c59
             (try simp at h); simp [hSC, F, h]
        try exact nope c59
        all_goals
         replace F := wf F c59; refine run_skip ?_; refine hK6 (()) _ _ ⟨kp, ?_⟩
         · have h := c59
           (try simp at h); simp [hSC, F, h]
      case cx5 =>
       intro K5 hK5
       refine sr fun _ hJ37 => ?_; refine hJ37 _ _ ?_; refine cs (t := bN) (fun c51 => ?_) (fun c51 => ?_)
       · try exact nope c51
         all_goals
          replace F := wf F c51; replace F := aF hnA F; refine rg' (h := fun J38 hJ38 => ?_); refine cb (c := num_ok (g1 _ _)) (k := ?_); refine hJ38 _ _ ?_; refine hK5 (()) _ _ ⟨kp, ?_⟩
          · have h := c51
            (try simp at h); simp [hSN, F, h]
       try exact nope c51
       all_goals
        replace F := wf F c51; refine run_skip ?_; refine hK5 (()) _ _ ⟨kp, ?_⟩
        · have h := c51
          (try simp at h); simp [hSN, F, h]
     case cx4 =>
      intro K4 hK4
      refine sr fun _ hJ40 => ?_; refine hJ40 _ _ ?_; refine cs (t := bO) (fun c43 => ?_) (fun c43 => ?_)
      · try exact nope c43
        all_goals
         replace F := wf F c43; refine rg' (h := fun J41 hJ41 => ?_); refine cb (c := byte_ok (g1 _ _)) (k := ?_); refine hJ41 _ _ ?_; refine hK4 (()) _ _ ⟨kp, ?_⟩
         · have h := c43
           (try simp at h); simp [hSO, F, h]
      try exact nope c43
      all_goals
       replace F := wf F c43; refine run_skip ?_; refine hK4 (()) _ _ ⟨kp, ?_⟩
       · have h := c43
         (try simp at h); simp [hSO, F, h]
    case cx3 =>
     intro K3 hK3
     refine sr fun _ hJ43 => ?_; refine hJ43 _ _ ?_; refine cs (t := bV) (fun c35 => ?_) (fun c35 => ?_)
     · try exact nope c35
       all_goals
        replace F := wf F c35; refine rg' (h := fun J44 hJ44 => ?_); refine cb (c := byte_ok (g1 _ _)) (k := ?_); refine hJ44 _ _ ?_; refine hK3 (()) _ _ ⟨kp, ?_⟩
        · have h := c35
          (try simp at h); simp [hSV, F, h]
     try exact nope c35
     all_goals
      replace F := wf F c35; refine run_skip ?_; refine hK3 (()) _ _ ⟨kp, ?_⟩
      · have h := c35
        (try simp at h); simp [hSV, F, h]
   case cx2 =>
    intro K2 hK2
    refine sr fun _ hJ46 => ?_; refine hJ46 _ _ ?_; refine cs (t := bT) (fun c27 => ?_) (fun c27 => ?_)
    · try exact nope c27
      all_goals
       replace F := wf F c27; refine rg' (h := fun J47 hJ47 => ?_); refine cb (c := byte_ok (g1 _ _)) (k := ?_); refine hJ47 _ _ ?_; refine hK2 (()) _ _ ⟨kp, ?_⟩
       · have h := c27
         (try simp at h); simp [hST, F, h]
    try exact nope c27
    all_goals
     replace F := wf F c27; refine run_skip ?_; refine hK2 (()) _ _ ⟨kp, ?_⟩
     · have h := c27
       (try simp at h); simp [hST, F, h]
  case cx1 =>
   intro K1 hK1
   refine sr fun _ hJ49 => ?_; refine hJ49 _ _ ?_; refine cs (t := !bE) (fun c9 => ?_) (fun c9 => ?_)
   · try exact nope c9
     all_goals
      replace F := wf F c9; refine rg' (h := fun J50 hJ50 => ?_); refine cb (c := byte_ok (g1 _ _)) (k := ?_); refine cb (c := long_ok (g1 _ _)) (k := ?_); refine cb (c := rcoins_raw (g1 _ _)) (k := ?_); refine hJ50 _ _ ?_; refine hK1 (()) _ _ ⟨kp, ?_⟩
      · have h := c9
        (try simp at h); simp [hSE, F, h]
   try exact nope c9
   all_goals
    replace F := wf F c9; refine run_skip ?_; refine hK1 (()) _ _ ⟨kp, ?_⟩
    · have h := c9
      (try simp at h); simp [hSE, F, h]
end Go.Proofs.Ytdbaddholggkbaa

/-
  A plan, read of any bytes by the document..
-/
namespace Go.Proofs.Ytdbaddholggkbaa
set_option linter.unnecessarySimpa false
set_option maxRecDepth 100000
open Go Go.Vm
set_option linter.unusedSimpArgs false
set_option linter.unusedVariables false
attribute [local simp] evalL wantedA isCall opA evalA evalAll evalsA evalOpt ofValue ofCell plain binA_eql_pn binA_neq_pn binA_gtr binA_lss binA_geq binA_leq binA_add binA_sub binA_eql binA_neq binA_orI binA_andI binA_shl binA_shr binA_mul binA_quo binA_rem binA_agg_eql binA_agg_neq convA_int unA_not fieldAddrA loadA partA pickA_true pickA_false pickA_bb lenA builtinA storeA splice AV.cells AV.isCell sliceA boundA intA callOf indexAddrA newObjA buildA fillA zeroA ofCells buildSliceA indexA fieldA numA_len4 numA_take4 numA_drop4 set_appN get_appN take_appN List.getElem?_cons_zero List.getElem?_cons_succ makeA zeros64

structure TSk where
  m : Nat
  s : Option (List UInt8)
  l : List Per
  k : Nat

theorem gcO_grA (n k : Nat) (b : Bool) (L : List Per) (m : Nat) : AV.gcO n (grA k 2 b (persC L) m) = grA k 2 b (persC L) m := by
  cases b <;> simp [AV.gcO, noObjL, persC_noObj]
theorem noObj_grA (n k : Nat) (b : Bool) (L : List Per) (m : Nat) : AV.noObj n (grA k 2 b (persC L) m) = true := by
  cases b <;> simp [AV.noObj, noObjL, persC_noObj]

set_option maxHeartbeats 1600000 in
attribute [local simp] undefA List.getElem?_cons_zero List.getElem?_cons_succ perC persC_noObj noObjL_inC gcO_grA noObj_grA in
theorem rtake_ok {σ : St} {id k : Nat} {p : List UInt8} {s : Option (List UInt8)} (h : σ.objs[id]? = some (inC p .shut k s.isNone)) (hp : p.length ≤ 1000000) (hk : At p k s) :
    CallsA Try.prog 35 [.ptr id 0] σ (fun av σ' => av = .agg (plnC (takeP s)) ∧ ∃ k', At p k' (takeT s) ∧ σ' = { σ with objs := σ.objs.set id (inC p .shut k' (takeT s).isNone) }) := by
  refine callsA_gcI (x := fun k' => inC p .shut k' (takeT s).isNone) ?_ (by simp [AV.under, underL, plnC, persC_under]) (fun _ => inC_under _ _ _ _)
  have hs := set_self_of h
  have hlt := lt_of_get h
  have ho1 : ∀ r, (σ.objs ++ r)[id]? = some (inC p .shut k s.isNone) := fun r => by rw [List.getElem?_append_left hlt]; exact h
  have ho2 : ∀ x r, (σ.objs.set id x ++ r)[id]? = some x := fun x r => by rw [List.getElem?_append_left (by simpa using hlt)]; exact hs x
  have ho3 : ∀ x r, (σ.objs ++ r).set id x = σ.objs.set id x ++ r := fun x r => List.set_append_left _ _ hlt
  have ho4 : ∀ x y r, (σ.objs.set id y ++ r).set id x = σ.objs.set id x ++ r := fun x y r => by rw [List.set_append_left _ _ (by simpa using hlt), List.set_set]
  have hgc : ∀ (k : Nat) (b : Bool) (cs : List AV) (n : Nat), (grA k 2 b cs n).isCell = true := fun k b cs n => by cases b <;> rfl
  simp only [AV.isCell] at hgc
  have hdr : ∀ f : Nat → AV, List.drop 2 (List.map f (List.range 2)) = [] := fun _ => rfl
  have hdr5 : ∀ f : Nat → AV, List.drop 5 (List.map f (List.range 5)) = [] := fun _ => rfl
  have hR : ∀ (L : List Per) (k : Nat) (τ : St), L.length ≤ 255 → (∀ x ∈ L, x.l < 2 ^ 64 ∧ x.c.length ≤ 255) → CallsA Try.prog 19 [.agg [.v (.int .u8 (be (takeB 1 s))), .v (.int .u64 (be (takeB 8 (takeS 1 s)))), .v (.int .u64 (be (takeB 8 (takeS 8 (takeS 1 s))))), .sl 5 (coinsC (coinsL (takeS 8 (takeS 8 (takeS 1 s))))) (coinsL (takeS 8 (takeS 8 (takeS 1 s)))).length .shut, grA k 2 (posB L.length) (persC L) L.length]] τ (fun av σ' => av = .v (.bool (rightB (planP s L))) ∧ τ = σ') :=
    fun L k τ hl hx => callsA_wk (.cons (WkL.agg take_wk) .nil) (rpright_ok (planP_ok hl hx))
  obtain ⟨c, hc⟩ : ∃ c, c = be (takeB 1 (s4S s)) := ⟨_, rfl⟩
  have hm := be_lt1 (takeB_len 1 (s4S s))
  rw [← hc] at hm
  have hlt2 : id < σ.objs.length + 2 := by omega
  have htk : ∀ (x a b e : List AV), List.take (σ.objs.length + 2) (σ.objs.set id x ++ [a, b, e]) = σ.objs.set id x ++ [a, b] := fun x a b e => by
    have := List.take_length_add_append (l₁ := σ.objs.set id x) (l₂ := [a, b, e]) 2
    rw [List.length_set] at this
    exact this
  have F := And.intro ho1 (And.intro ho2 (And.intro ho3 (And.intro ho4 (And.intro hlt (And.intro hdr (And.intro hdr5 (And.intro hgc (And.intro hlt2 (And.intro htk (True.intro))))))))))
  refine callsA_body Try.func35 rfl rfl rfl ?_; refine sr fun _ hJ2 => ?_; refine hJ2 _ _ ?_; refine sr fun _ hJ4 => ?_; refine hJ4 _ _ ?_; refine sr fun _ hJ6 => ?_; refine ca (c := inByte_ok (ho1 _) hp hk) (k := ?_); rintro _ _ ⟨rfl, k0, hk0, rfl⟩; (repeat (first | simp [F] | simp (disch := omega) only [wC, if_pos, if_neg])); refine hJ6 _ _ ?_; refine sr fun _ hJ8 => ?_
  refine ca (c := inLong_ok (n := 8) (ho2 _ _) hp hk0 (by omega)) (k := ?_)
  rintro _ _ ⟨rfl, k1, hk1, rfl⟩; (repeat (first | simp [F] | simp (disch := omega) only [wC, if_pos, if_neg])); refine hJ8 _ _ ?_; refine sr fun _ hJ10 => ?_
  refine ca (c := inLong_ok (n := 8) (ho2 _ _) hp hk1 (by omega)) (k := ?_)
  rintro _ _ ⟨rfl, k2, hk2, rfl⟩; (repeat (first | simp [F] | simp (disch := omega) only [wC, if_pos, if_neg])); refine hJ10 _ _ ?_; refine sr fun _ hJ12 => ?_; refine ca (c := inCoins_ok (ho2 _ _) hp hk2) (k := ?_); rintro _ _ ⟨rfl, k3, hk3, rfl⟩; (repeat (first | simp [F] | simp (disch := omega) only [wC, if_pos, if_neg])); refine hJ12 _ _ ?_; refine sq fun K13 hK13 => ?_
  have hc2 : be (takeB 1 (coinsS (takeS 8 (takeS 8 (takeS 1 s))))) = c := hc.symm
  replace F := aF hc2 F; refine rg' (h := fun J14 hJ14 => ?_); refine ca (c := inByte_ok (ho2 _ _) hp hk3) (k := ?_); rintro _ _ ⟨rfl, k4, hk4, rfl⟩; (repeat (first | simp [F] | simp (disch := omega) only [wC, if_pos, if_neg])); refine hJ14 _ _ ?_; refine hK13 _ _ ?_; refine sq fun K15 hK15 => ?_; refine sr fun _ hJ17 => ?_; refine hJ17 _ _ ?_; refine run_block_k ?_; refine run_loopG (X := TSk) [0, 2, 3, 4] (fun q ρ σ1 => (q.m ≤ c) ∧ (q.m + q.l.length ≤ 255) ∧ (∀ x ∈ q.l, x.l < 2 ^ 64 ∧ x.c.length ≤ 255) ∧ (persGo q.m q.s q.l = planR s) ∧ (At p q.k q.s) ∧ (ρ 5 = .v (.int .i64 (c - q.m : Nat))) ∧ (σ1 = { σ with objs := σ.objs.set id (inC p .shut q.k q.s.isNone) ++ [[.v (.int .u8 0), .v (.int .u64 0), .v (.int .u64 0), .sl 0 [] 0 .full, .sl 0 [] 0 .full], [.v (.int .u8 (be (takeB 1 s))), .v (.int .u64 (be (takeB 8 (takeS 1 s)))), .v (.int .u64 (be (takeB 8 (takeS 8 (takeS 1 s))))), .sl 5 (coinsC (coinsL (takeS 8 (takeS 8 (takeS 1 s))))) (coinsL (takeS 8 (takeS 8 (takeS 1 s)))).length .shut, grA σ.toks.length 2 (posB q.l.length) (persC q.l) q.l.length]], toks := σ.toks ++ grT (posB q.l.length) q.l.length })) (fun q => q.m) (⟨c, takeS 1 (s4S s), [], k4⟩) ?st1 ?rd1
  case st1 =>
   refine ⟨lp, ?_, ?_, ?_, ?_, lp, ?_⟩
   · simp
     omega
   · simp
   · rw [hc]
     rfl
   · exact hk4
   · simp [F, s4S]
  case rd1 =>
   rintro q ρ1 σ1 hF1 ⟨hmc, hml, hx, hg, hq, hi, hσ⟩; obtain rfl := hσ.symm
   have f1 := keepL hF1
   (try simp [KeepL, F] at f1); replace F := aF hi F; (try replace F := aF f1 F); refine sq fun K18 hK18 => ?_; refine sqc (X := Unit) [0, 2, 3, 4, 5] (fun k ρ σ1 => (ρ 31 = .v (.bool (decide (0 < q.m) && !q.s.isNone))) ∧ (σ1 = { σ with objs := σ.objs.set id (inC p .shut q.k q.s.isNone) ++ [[.v (.int .u8 0), .v (.int .u64 0), .v (.int .u64 0), .sl 0 [] 0 .full, .sl 0 [] 0 .full], [.v (.int .u8 (be (takeB 1 s))), .v (.int .u64 (be (takeB 8 (takeS 1 s)))), .v (.int .u64 (be (takeB 8 (takeS 8 (takeS 1 s))))), .sl 5 (coinsC (coinsL (takeS 8 (takeS 8 (takeS 1 s))))) (coinsL (takeS 8 (takeS 8 (takeS 1 s)))).length .shut, grA σ.toks.length 2 (posB q.l.length) (persC q.l) q.l.length]], toks := σ.toks ++ grT (posB q.l.length) q.l.length })) ?cy19 ?cx19
   case cy19 =>
    rintro k ρCr8 σ1 hFCr8 ⟨h31, hσ⟩; obtain rfl := hσ.symm
    have fCr8 := keepL hFCr8
    (try simp [KeepL, F] at fCr8); replace F := aF h31 F; (try replace F := aF fCr8 F); refine cs (t := (decide (0 < q.m) && !q.s.isNone)) (fun c31 => ?_) (fun c31 => ?_)
    · try exact nope c31
      all_goals
       replace F := wf F c31; refine run_skip ?_; refine hK18 _ _ ?_; refine sq fun K20 hK20 => ?_; refine run_block_k ?_; refine sq fun K21 hK21 => ?_
       obtain ⟨m, S, L, j⟩ := q
       simp only at hmc hml hx hg hq hi
       have hmS : 0 < m ∧ ¬ S = none := by have h := c31; simp at h; exact ⟨h.1, by intro e; rw [e] at h; simp at h⟩
       have hnx := persGo_more (l := L) hmS.1 hmS.2
       have hP : persC (L ++ [perS S]) = persC L ++ [.v (.int .u64 (be (takeB 8 S))), .sl 5 (coinsC (coinsL (takeS 8 S))) (coinsL (takeS 8 S)).length .shut] := by rw [← persC_append]; rfl
       have hLl : L.length ≤ 254 := by omega
       have happ : ∀ objs, appendA Try.prog 24 (grA σ.toks.length 2 (posB L.length) (persC L) L.length) (.sl 2 [.v (.int .u64 (be (takeB 8 S))), .sl 5 (coinsC (coinsL (takeS 8 S))) (coinsL (takeS 8 S)).length .shut] 1 .full) ⟨objs, σ.toks ++ grT (posB L.length) L.length, σ.gl, σ.rows⟩ = some (grA σ.toks.length 2 true (persC L ++ [.v (.int .u64 (be (takeB 8 S))), .sl 5 (coinsC (coinsL (takeS 8 S))) (coinsL (takeS 8 S)).length .shut]) (L.length + 1), ⟨objs, σ.toks ++ grT true (L.length + 1), σ.gl, σ.rows⟩) := fun objs => append_gr elemT_24 ti_88 (by decide) rfl nil0 (.inl rfl) (by simp [roomA]; omega) (by simp [maxLen]; omega)
       replace F := aF hP.symm F; refine rg' (h := fun J22 hJ22 => ?_); refine hJ22 _ _ ?_; refine hK21 _ _ ?_; refine sr fun _ hJ24 => ?_
       refine ca (c := inLong_ok (n := 8) (ho2 _ _) hp hq (by omega)) (k := ?_)
       rintro _ _ ⟨rfl, k5, hk5, rfl⟩; (repeat (first | simp [F] | simp (disch := omega) only [wC, if_pos, if_neg])); refine hJ24 _ _ ?_; refine sr fun _ hJ26 => ?_; refine ca (c := inCoins_ok (ho2 _ _) hp hk5) (k := ?_); rintro _ _ ⟨rfl, k6, hk6, rfl⟩; (repeat (first | simp [F] | simp (disch := omega) only [wC, if_pos, if_neg])); refine hJ26 _ _ ?_; replace F := aF happ F; refine rg' (h := fun J27 hJ27 => ?_); refine hJ27 _ _ ?_; refine hK20 _ _ ?_; refine rg' (h := fun J28 hJ28 => ?_); refine hJ28 _ _ ?_; refine ⟨gk, (⟨m - 1, perT S, L ++ [perS S], k6⟩), ⟨kpG, ?_, ?_, ?_, ?_, ?_, ?_, ?_⟩, ?_⟩
       · simp
         omega
       · simp
         omega
       · intro x hxm
         rcases List.mem_append.1 hxm with h | h
         · exact hx x h
         · simp at h; subst h; exact perS_ok S
       · rw [← hg]
         exact hnx.symm
       · exact hk6
       · simp [F, AV.gcO]
         omega
       · simp [F, perT, St.trimO]
       · simp
         omega
    try exact nope c31
    all_goals
     replace F := wf F c31
     have he : planR s = (q.l, q.s) := by rw [← hg]; exact persGo_stop (by have h := c31; simp at h; by_cases h0 : q.m = 0; exact .inl h0; exact .inr (h (by omega)))
     have hql : q.l.length ≤ 255 := by omega
     refine run_exit ?_; refine hK15 _ _ ?_; refine sq fun K29 hK29 => ?_; refine sr fun _ hJ31 => ?_; refine gs 50 (fun g14_4 => ?_) (fun g14_4 => ?_)
     · try exact nope g14_4
       all_goals
        replace F := wf F g14_4; (iterate 3 refine no2 (k := ?_)); refine hJ31 _ _ ?_; refine ct ?_; refine sr fun _ hJ33 => ?_; refine hJ33 _ _ ?_; refine sr fun _ hJ35 => ?_; refine hJ35 _ _ ?_; refine run_ret ?_; (try simp only [Then, InBlock, NoGoto]); refine acell (h := ?_)
        obtain ⟨e1, e2⟩ := take_none he (.inr (by simpa using g14_4))
        rw [e1, e2]
        exact ⟨q.k, ⟨hq.1, .inl rfl⟩, gcr (τ := { σ with objs := σ.objs.set id (inC p .shut q.k true) }) (hA := WkL.agg (cut_nil rfl))⟩
     try exact nope g14_4
     all_goals
      replace F := wf F g14_4; refine go2 (k := ?_); refine cb (c := hR q.l _ _ hql hx) (k := ?_); refine go2 (k := ?_); refine hJ31 _ _ ?_; refine cs (fun c54 => ?_) (fun c54 => ?_)
      · try exact nope c54
        all_goals
         replace F := wf F c54; refine sr fun _ hJ37 => ?_; refine hJ37 _ _ ?_; refine sr fun _ hJ39 => ?_; refine hJ39 _ _ ?_; refine run_ret ?_; (try simp only [Then, InBlock, NoGoto]); refine acell (h := ?_)
         obtain ⟨e1, e2⟩ := take_none he (.inl (by simpa using c54))
         rw [e1, e2]
         exact ⟨q.k, ⟨hq.1, .inl rfl⟩, gcr (τ := { σ with objs := σ.objs.set id (inC p .shut q.k true) }) (hA := WkL.agg (cut_nil rfl))⟩
      try exact nope c54
      all_goals
       replace F := wf F c54; refine run_skip ?_; refine hK29 _ _ ?_; refine sr fun _ hJ41 => ?_; refine hJ41 _ _ ?_; refine run_ret ?_; (try simp only [Then, InBlock, NoGoto]); refine acell (h := ?_)
       obtain ⟨e1, e2⟩ := take_some he (by simpa using c54) (by intro e; simp [e] at g14_4)
       rw [e1, e2]
       exact ⟨q.k, hq, gcr (τ := { σ with objs := σ.objs.set id (inC p .shut q.k q.s.isNone) }) (hA := WkL.agg take_wk)⟩
   case cx19 =>
    intro K19 hK19
    refine rg' (h := fun J42 hJ42 => ?_); refine gs 25 (fun g8_3 => ?_) (fun g8_3 => ?_)
    · try exact nope g8_3
      all_goals
       replace F := wf F g8_3; (iterate 5 refine go2 (k := ?_)); refine hJ42 _ _ ?_; refine hK19 (()) _ _ ⟨kp, ?_, lp⟩
       · have h := g8_3
         simp at h
         simp [F]
         try omega
    try exact nope g8_3
    all_goals
     replace F := wf F g8_3; (iterate 5 refine no2 (k := ?_)); refine hJ42 _ _ ?_; refine hK19 (()) _ _ ⟨kp, ?_, lp⟩
     · have h := g8_3
       simp at h
       simp [F]
       try omega

theorem persGo_all : ∀ (m : Nat) (s : Option (List UInt8)) (l : List Per), (∀ x ∈ l, x.l < 2 ^ 64 ∧ x.c.length ≤ 255) → m + l.length ≤ 255 → (persGo m s l).1.length ≤ 255 ∧ ∀ x ∈ (persGo m s l).1, x.l < 2 ^ 64 ∧ x.c.length ≤ 255
  | 0, s, l, hx, hl => ⟨by simp only [persGo]; omega, hx⟩
  | m + 1, none, l, hx, hl => ⟨by simp only [persGo]; omega, hx⟩
  | m + 1, some p, l, hx, hl => by
    rw [persGo]
    refine persGo_all m _ _ (fun x h => ?_) (by simp; omega)
    rcases List.mem_append.1 h with h | h
    · exact hx x h
    · simp at h; subst h; exact perS_ok _
theorem takeP_ok (s : Option (List UInt8)) : (takeP s).Ok := by
  unfold takeP
  split
  · simp [Pln.Ok]
  · have hm := be_lt1 (takeB_len 1 (s4S s))
    have h := persGo_all (be (takeB 1 (s4S s))) (takeS 1 (s4S s)) [] (by simp) (by simp; omega)
    exact planP_ok h.1 h.2
end Go.Proofs.Ytdbaddholggkbaa

/-
  A message is read of any bytes..
-/
namespace Go.Proofs.Ytdbaddholggkbaa
set_option linter.unnecessarySimpa false
set_option maxRecDepth 100000
open Go Go.Vm
set_option linter.unusedSimpArgs false
set_option linter.unusedVariables false
attribute [local simp] evalL wantedA isCall opA evalA evalAll evalsA evalOpt ofValue ofCell plain binA_eql_pn binA_neq_pn binA_gtr binA_lss binA_geq binA_leq binA_add binA_sub binA_eql binA_neq binA_orI binA_shl binA_shr binA_mul binA_quo binA_rem binA_agg_eql binA_agg_neq convA_int unA_not fieldAddrA loadA partA pickA_true pickA_false pickA_bb lenA builtinA storeA splice AV.cells AV.isCell sliceA boundA intA callOf indexAddrA newObjA buildA fillA zeroA ofCells buildSliceA indexA fieldA numA_len4 numA_take4 numA_drop4 set_appN get_appN take_appN List.getElem?_cons_zero List.getElem?_cons_succ makeA zeros64

def zeroM : Msg := ⟨0, 0, 0, [], 0, 0, 0, ⟨0, by decide⟩, [], [], ⟨0, 0, 0, [], []⟩, 0, 0, false⟩
theorem outsGo_all : ∀ (m : Nat) (s : Option (List UInt8)) (l : List Out), (∀ x ∈ l, x.c.length ≤ 255) → m + l.length ≤ 255 → (outsGo m s l).1.length ≤ 255 ∧ ∀ x ∈ (outsGo m s l).1, x.c.length ≤ 255
  | 0, s, l, hx, hl => ⟨by simp only [outsGo]; omega, hx⟩
  | m + 1, none, l, hx, hl => ⟨by simp only [outsGo]; omega, hx⟩
  | m + 1, some p, l, hx, hl => by
    rw [outsGo]
    refine outsGo_all m _ _ (fun x h => ?_) (by simp; omega)
    rcases List.mem_append.1 h with h | h
    · exact hx x h
    · simp at h; subst h; exact coinsL_le _
theorem msgR_ok (k : UInt8) (s : Option (List UInt8)) : (msgR k s).Ok := by
  have ho := outsGo_all (be (takeB 1 (stC k s))) (takeS 1 (stC k s)) [] (by simp) (by have := be_lt1 (takeB_len 1 (stC k s)); simp; omega)
  have e1 : (outsR (stC k s)).1.length ≤ 255 := ho.1
  refine ⟨?_, ?_, ?_, ?_, fun x hx => ?_, ?_, ?_, ?_⟩
  · simp only [msgR]; cases hB k 1024
    · exact be_lt8 _ (takeB_len 8 _)
    · show (0 : Nat) < _; decide
  · simp only [msgR]; cases hB k 1024
    · have := coinsL_le (takeS 8 (takeS 1 s)); simp only [cond_false]; omega
    · simp
  · simp only [msgR]; cases hB k 16
    · simp
    · have := coinsL_le (stN k s); simp only [cond_true]; omega
  · simp only [msgR]; cases hB k 32
    · simp
    · simp only [cond_true]; omega
  · simp only [msgR] at hx
    cases hq : hB k 32 <;> rw [hq] at hx
    · simp at hx
    · have := ho.2 x hx; omega
  · simp only [msgR]; cases hB k 64
    · simp [Pln.Ok]
    · exact takeP_ok _
  · simp only [msgR]; cases hB k 128
    · show (0 : Nat) < _; decide
    · exact be_lt8 _ (takeB_len 8 _)
  · simp only [msgR]; cases hB k 256
    · show (0 : Nat) < _; decide
    · exact be_lt2 (takeB_len 2 _)

def decB (p : List UInt8) : Bool := hasK (byteS (some p)) && endB (stJ (byteS (some p)) (takeS 1 (some p))) && rightM (msgR (byteS (some p)) (takeS 1 (some p)))
def decM (p : List UInt8) : Msg := bif decB p then msgR (byteS (some p)) (takeS 1 (some p)) else zeroM
theorem zero_wk : WkL [.v (.int .u8 0), .v (.int .u8 0), .v (.int .u64 0), .sl 0 [] 0 .full, .v (.int .u8 0), .v (.int .u8 0), .v (.int .u8 0), .v (.int .u64 0), .v (.int .u64 0), .v (.int .u64 0), .v (.int .u64 0), .sl 0 [] 0 .full, .sl 0 [] 0 .full, .v (.int .u8 0), .v (.int .u64 0), .v (.int .u64 0), .sl 0 [] 0 .full, .sl 0 [] 0 .full, .v (.int .u64 0), .v (.int .u16 0), .v (.bool false)] (msgC zeroM) := by
  have hl : ∀ i, limb 0 i = 0 := by intro i; simp [limb]
  simp only [msgC, zeroM, hl]
  repeat (first | exact WkL.nil | refine WkL.cons (Wk.nil _ _ _) ?_ | refine WkL.cons (Wk.refl _) ?_)

theorem wk21 {X : List AV} {M : Msg} (h : WkL X (msgC M)) (hc : X.all AV.isCell = true) : ∃ a0 a1 a2 a3 a4 a5 a6 a7 a8 a9 a10 a11 a12 a13 a14 a15 a16 a17 a18 a19 a20, X = [a0, a1, a2, a3, a4, a5, a6, a7, a8, a9, a10, a11, a12, a13, a14, a15, a16, a17, a18, a19, a20] ∧ a0.isCell = true ∧ a1.isCell = true ∧ a2.isCell = true ∧ a3.isCell = true ∧ a4.isCell = true ∧ a5.isCell = true ∧ a6.isCell = true ∧ a7.isCell = true ∧ a8.isCell = true ∧ a9.isCell = true ∧ a10.isCell = true ∧ a11.isCell = true ∧ a12.isCell = true ∧ a13.isCell = true ∧ a14.isCell = true ∧ a15.isCell = true ∧ a16.isCell = true ∧ a17.isCell = true ∧ a18.isCell = true ∧ a19.isCell = true ∧ a20.isCell = true := by
  have hl : X.length = 21 := h.get.1
  match X, hl, hc with
  | [a0, a1, a2, a3, a4, a5, a6, a7, a8, a9, a10, a11, a12, a13, a14, a15, a16, a17, a18, a19, a20], _, hc =>
    simp only [List.all_cons, List.all_nil, Bool.and_true, Bool.and_eq_true] at hc
    exact ⟨a0, a1, a2, a3, a4, a5, a6, a7, a8, a9, a10, a11, a12, a13, a14, a15, a16, a17, a18, a19, a20, rfl, hc⟩

set_option maxHeartbeats 1600000 in
attribute [local simp] undefA List.getElem?_cons_zero List.getElem?_cons_succ in
theorem decode_ok {σ : St} {p : List UInt8} {tl : Tail} (hp : p.length ≤ 1000000) :
    CallsA Try.prog 55 [.sl 1 (bytesA p) p.length tl] σ (fun av σ' => av = .tup [.agg (msgC (decM p)), .v (.int .i64 (bif decB p then 0 else 4))] ∧ σ = σ') := by
  refine callsA_gcS ?_ (by simp [AV.under, underL, msgC, persC_under, outsC_under])
  have hmo := msgR_ok (byteS (some p)) (takeS 1 (some p))
  have hM : decM p = bif decB p then msgR (byteS (some p)) (takeS 1 (some p)) else zeroM := rfl
  obtain ⟨A, hA⟩ : ∃ A, A = decM p := ⟨_, rfl⟩
  obtain ⟨D, hD⟩ : ∃ D, D = decB p := ⟨_, rfl⟩
  rw [← hA, ← hD] at hM ⊢
  unfold decB at hD
  have hby : ∀ {τ : St} {id : Nat}, τ.objs[id]? = some (rd (some p)) → CallsA Try.prog 81 [.ptr id 0] τ (fun av σ' => av = .v (.int .u8 ((byteS (some p)).toNat : Nat)) ∧ σ' = { τ with objs := τ.objs.set id (rd (takeS 1 (some p))) }) := fun h => by
    have := byte_ok h
    rw [be_byteS] at this
    exact this
  obtain ⟨K, hK⟩ : ∃ K, K = byteS (some p) := ⟨_, rfl⟩
  obtain ⟨s, hs⟩ : ∃ s, s = takeS 1 (some p) := ⟨_, rfl⟩
  simp only [← hK, ← hs] at hby hD hM hmo
  obtain ⟨M, hMd⟩ : ∃ M, M = msgR K s := ⟨_, rfl⟩
  obtain ⟨J, hJ⟩ : ∃ J, J = stJ K s := ⟨_, rfl⟩
  have hread : CallsA Try.prog 106 [.ptr (σ.objs.length + 1) 0, .ptr (σ.objs.length + 2) 0, .v (.int .i64 (hasN K : Nat))] { σ with objs := σ.objs ++ [[.v (.int .u8 0), .v (.int .u8 0), .v (.int .u64 0), .sl 0 [] 0 .full, .v (.int .u8 0), .v (.int .u8 0), .v (.int .u8 0), .v (.int .u64 0), .v (.int .u64 0), .v (.int .u64 0), .v (.int .u64 0), .sl 0 [] 0 .full, .sl 0 [] 0 .full, .v (.int .u8 0), .v (.int .u64 0), .v (.int .u64 0), .sl 0 [] 0 .full, .sl 0 [] 0 .full, .v (.int .u64 0), .v (.int .u16 0), .v (.bool false)], rd s, [.v (.int .u8 K.toNat), .v (.int .u8 0), .v (.int .u64 0), .sl 0 [] 0 .full, .v (.int .u8 0), .v (.int .u8 0), .v (.int .u8 0), .v (.int .u64 0), .v (.int .u64 0), .v (.int .u64 0), .v (.int .u64 0), .sl 0 [] 0 .full, .sl 0 [] 0 .full, .v (.int .u8 0), .v (.int .u64 0), .v (.int .u64 0), .sl 0 [] 0 .full, .sl 0 [] 0 .full, .v (.int .u64 0), .v (.int .u16 0), .v (.bool false)]] }
      (fun av σ' => av = .tup [] ∧ ∃ X T, WkL X (msgC M) ∧ X.all AV.isCell = true ∧ σ' = { σ with objs := σ.objs ++ [[.v (.int .u8 0), .v (.int .u8 0), .v (.int .u64 0), .sl 0 [] 0 .full, .v (.int .u8 0), .v (.int .u8 0), .v (.int .u8 0), .v (.int .u64 0), .v (.int .u64 0), .v (.int .u64 0), .v (.int .u64 0), .sl 0 [] 0 .full, .sl 0 [] 0 .full, .v (.int .u8 0), .v (.int .u64 0), .v (.int .u64 0), .sl 0 [] 0 .full, .sl 0 [] 0 .full, .v (.int .u64 0), .v (.int .u16 0), .v (.bool false)], rd J, X], toks := σ.toks ++ T }) := by
    have h := read_raw (O := σ.objs ++ [[.v (.int .u8 0), .v (.int .u8 0), .v (.int .u64 0), .sl 0 [] 0 .full, .v (.int .u8 0), .v (.int .u8 0), .v (.int .u8 0), .v (.int .u64 0), .v (.int .u64 0), .v (.int .u64 0), .v (.int .u64 0), .sl 0 [] 0 .full, .sl 0 [] 0 .full, .v (.int .u8 0), .v (.int .u64 0), .v (.int .u64 0), .sl 0 [] 0 .full, .sl 0 [] 0 .full, .v (.int .u64 0), .v (.int .u16 0), .v (.bool false)], rd s, [.v (.int .u8 K.toNat), .v (.int .u8 0), .v (.int .u64 0), .sl 0 [] 0 .full, .v (.int .u8 0), .v (.int .u8 0), .v (.int .u8 0), .v (.int .u64 0), .v (.int .u64 0), .v (.int .u64 0), .v (.int .u64 0), .sl 0 [] 0 .full, .sl 0 [] 0 .full, .v (.int .u8 0), .v (.int .u64 0), .v (.int .u64 0), .sl 0 [] 0 .full, .sl 0 [] 0 .full, .v (.int .u64 0), .v (.int .u16 0), .v (.bool false)]]) (tk := σ.toks) (gl := σ.gl) (rows := σ.rows) (id1 := σ.objs.length + 1) (id2 := σ.objs.length + 2) (x1 := K) (s := s) (by simp) (by simp) (by omega)
    rw [← hMd, ← hJ] at h
    simpa using h
  have hmr : ∀ (X : List AV) (τ : St), WkL X (msgC M) → CallsA Try.prog 51 [.agg X] τ (fun av σ' => av = .v (.bool (rightM M)) ∧ τ = σ') := fun X τ hX => callsA_wk (.cons (WkL.agg hX) .nil) (mright_ok (by rw [hMd]; exact hmo))
  rw [← hMd, ← hJ] at hD
  rw [← hMd] at hM
  have hhas := fun σ => has_ok (σ := σ) (k := K)
  obtain ⟨k0, hk0⟩ : ∃ k, k = hasK K := ⟨_, rfl⟩
  obtain ⟨h, hh⟩ : ∃ h, h = hasN K := ⟨_, rfl⟩
  obtain ⟨R, hR⟩ : ∃ R, R = rightM M := ⟨_, rfl⟩
  obtain ⟨e, he⟩ : ∃ e, e = endB J := ⟨_, rfl⟩
  rw [← hk0, ← he, ← hR] at hD
  simp only [← hh] at hread hhas
  simp only [← hk0] at hhas
  simp only [← hR] at hmr
  have hend : ∀ {τ : St} {id : Nat}, τ.objs[id]? = some (rd J) → CallsA Try.prog 48 [.ptr id 0] τ (fun av σ' => av = .v (.bool e) ∧ τ = σ') := fun h => by rw [he]; exact end_ok h
  clear hMd hJ hK hs hk0 hh hR he hmo hA
  have hd21 : ∀ f : Nat → AV, List.drop 21 (List.map f (List.range 21)) = [] := fun _ => rfl
  have F := And.intro hd21 (True.intro)
  refine callsA_body Try.func55 rfl rfl rfl ?_; refine sr fun _ hJ2 => ?_; refine hJ2 _ _ ?_; refine sr fun _ hJ4 => ?_; refine cb (c := new_ok hp) (k := ?_); refine hJ4 _ _ ?_; refine sr fun _ hJ6 => ?_
  refine cb (c := hby (by simp [F])) (k := ?_)
  refine hJ6 _ _ ?_; refine sr fun _ hJ8 => ?_; refine cb (c := hhas _) (k := ?_); refine hJ8 _ _ ?_; refine sq fun K9 hK9 => ?_; refine sr fun _ hJ11 => ?_; refine hJ11 _ _ ?_; refine cs (t := k0) (fun c19 => ?_) (fun c19 => ?_)
  · try exact nope c19
    all_goals
     replace F := wf F c19
     have hk1 : k0 = true := c19
     refine rg' (h := fun J12 hJ12 => ?_); refine ca (c := hread) (k := ?_); rintro _ _ ⟨rfl, X, T, hX, hXc, rfl⟩; (repeat (first | simp [F] | simp (disch := omega) only [wC, if_pos, if_neg])); refine hJ12 _ _ ?_; refine hK9 _ _ ?_; refine sq fun K13 hK13 => ?_; refine sq fun K14 hK14 => ?_
     first | (obtain ⟨a0, a1, a2, a3, a4, a5, a6, a7, a8, a9, a10, a11, a12, a13, a14, a15, a16, a17, a18, a19, a20, rfl, -⟩ := wk21 hX hXc; have hXe := List.all_eq_true.1 hXc; simp [AV.isCell] at hXe; replace F := aF hXe F) | skip
     refine rg' (h := fun J15 hJ15 => ?_); refine gs 25 (fun g6_2 => ?_) (fun g6_2 => ?_)
     · try exact nope g6_2
       all_goals
        replace F := wf F g6_2; (iterate 6 refine no2 (k := ?_)); refine hJ15 _ _ ?_; refine hK14 _ _ ?_; refine ct ?_; refine sr fun _ hJ17 => ?_; refine hJ17 _ _ ?_; refine run_ret ?_; (try simp only [Then, InBlock, NoGoto]); refine acell2 (h := ?_); exact gcr
     try exact nope g6_2
     all_goals
      replace F := wf F g6_2; refine go2 (k := ?_)
      refine cb (c := hend (by simp [F])) (k := ?_)
      refine go2 (k := ?_); refine gs 30 (fun g6_7 => ?_) (fun g6_7 => ?_)
      · try exact nope g6_7
        all_goals
         replace F := wf F g6_7; (iterate 3 refine no2 (k := ?_)); refine hJ15 _ _ ?_; refine hK14 _ _ ?_; refine ct ?_; refine sr fun _ hJ19 => ?_; refine hJ19 _ _ ?_; refine run_ret ?_; (try simp only [Then, InBlock, NoGoto]); refine acell2 (h := ?_)
         have hDf : D = false := by (rw [hD]; have h := g6_7; simp at h; simp [h])
         rw [hM, hDf]
         exact gcr (hA := WkL.tup (.cons (WkL.agg zero_wk) (.cons (Wk.refl _) .nil)))
      try exact nope g6_7
      all_goals
       replace F := wf F g6_7; refine go2 (k := ?_); refine cb (c := hmr _ _ hX) (k := ?_); refine go2 (k := ?_); refine hJ15 _ _ ?_; refine hK14 _ _ ?_; refine cs (t := !R) (fun c34 => ?_) (fun c34 => ?_)
       · try exact nope c34
         all_goals
          replace F := wf F c34; refine sr fun _ hJ21 => ?_; refine hJ21 _ _ ?_; refine run_ret ?_; (try simp only [Then, InBlock, NoGoto]); refine acell2 (h := ?_)
          have hDf : D = false := by (rw [hD]; have h := c34; simp at h; simp [h])
          rw [hM, hDf]
          exact gcr (hA := WkL.tup (.cons (WkL.agg zero_wk) (.cons (Wk.refl _) .nil)))
       try exact nope c34
       all_goals
        replace F := wf F c34; refine run_skip ?_; refine hK13 _ _ ?_; refine sr fun _ hJ23 => ?_; refine hJ23 _ _ ?_; refine run_ret ?_; (try simp only [Then, InBlock, NoGoto]); refine acell2 (h := ?_)
        have hDt : D = true := by (rw [hD, hk1]; have h1 := g6_7; have h2 := c34; simp at h1 h2; simp [h1, h2])
        rw [hM, hDt]
        exact gcr (hA := WkL.tup (.cons (WkL.agg hX) (.cons (Wk.refl _) .nil)))
  try exact nope c19
  all_goals
   replace F := wf F c19
   have hk1 : k0 = false := c19
   refine run_skip ?_; refine hK9 _ _ ?_; refine sq fun K24 hK24 => ?_; refine sq fun K25 hK25 => ?_
   first | (obtain ⟨a0, a1, a2, a3, a4, a5, a6, a7, a8, a9, a10, a11, a12, a13, a14, a15, a16, a17, a18, a19, a20, rfl, -⟩ := wk21 hX hXc; have hXe := List.all_eq_true.1 hXc; simp [AV.isCell] at hXe; replace F := aF hXe F) | skip
   refine rg' (h := fun J26 hJ26 => ?_); refine gs 25 (fun g6_2 => ?_) (fun g6_2 => ?_)
   · try exact nope g6_2
     all_goals
      replace F := wf F g6_2; (iterate 6 refine no2 (k := ?_)); refine hJ26 _ _ ?_; refine hK25 _ _ ?_; refine ct ?_; refine sr fun _ hJ28 => ?_; refine hJ28 _ _ ?_; refine run_ret ?_; (try simp only [Then, InBlock, NoGoto]); refine acell2 (h := ?_)
      have hDf : D = false := by (rw [hD, hk1]; rfl)
      rw [hM, hDf]
      exact gcr (hA := WkL.tup (.cons (WkL.agg zero_wk) (.cons (Wk.refl _) .nil)))
   try exact nope g6_2
   all_goals
    replace F := wf F g6_2; refine go2 (k := ?_)
    refine cb (c := hend (by simp [F])) (k := ?_)
    refine go2 (k := ?_); refine gs 30 (fun g6_7 => ?_) (fun g6_7 => ?_)
    · try exact nope g6_7
      all_goals
       replace F := wf F g6_7; (iterate 3 refine no2 (k := ?_)); refine hJ26 _ _ ?_; refine hK25 _ _ ?_; refine ct ?_; refine sr fun _ hJ30 => ?_; refine hJ30 _ _ ?_; refine run_ret ?_; (try simp only [Then, InBlock, NoGoto]); refine acell2 (h := ?_)
       have hDf : D = false := by (rw [hD, hk1]; rfl)
       rw [hM, hDf]
       exact gcr (hA := WkL.tup (.cons (WkL.agg zero_wk) (.cons (Wk.refl _) .nil)))
    try exact nope g6_7
    all_goals
     replace F := wf F g6_7; refine go2 (k := ?_); refine cb (c := hmr _ _ hX) (k := ?_); refine go2 (k := ?_); refine hJ26 _ _ ?_; refine hK25 _ _ ?_; refine cs (t := !R) (fun c34 => ?_) (fun c34 => ?_)
     · try exact nope c34
       all_goals
        replace F := wf F c34; refine sr fun _ hJ32 => ?_; refine hJ32 _ _ ?_; refine run_ret ?_; (try simp only [Then, InBlock, NoGoto]); refine acell2 (h := ?_)
        have hDf : D = false := by (rw [hD, hk1]; rfl)
        rw [hM, hDf]
        exact gcr (hA := WkL.tup (.cons (WkL.agg zero_wk) (.cons (Wk.refl _) .nil)))
     try exact nope c34
     all_goals
      replace F := wf F c34; refine run_skip ?_; refine hK24 _ _ ?_; refine sr fun _ hJ34 => ?_; refine hJ34 _ _ ?_; refine run_ret ?_; (try simp only [Then, InBlock, NoGoto]); refine acell2 (h := ?_)
      have hDf : D = false := by (rw [hD, hk1]; rfl)
      rw [hM, hDf]
      exact gcr (hA := WkL.tup (.cons (WkL.agg zero_wk) (.cons (Wk.refl _) .nil)))

def endM (v : UInt8) : Msg := ⟨36, 0, 0, [], 0, v, 0, ⟨0, by decide⟩, [], [], ⟨0, 0, 0, [], []⟩, 0, 0, false⟩
theorem endM_ok (v : UInt8) : (endM v).Ok := ⟨by simp [endM], by simp [endM], by simp [endM], by simp [endM], by simp [endM], by simp [endM, Pln.Ok], by simp [endM], by simp [endM]⟩
theorem end_wk0 : WkL [.v (.int .u8 36), .v (.int .u8 0), .v (.int .u64 0), .sl 0 [] 0 .full, .v (.int .u8 0), .v (.int .u8 0), .v (.int .u8 0), .v (.int .u64 0), .v (.int .u64 0), .v (.int .u64 0), .v (.int .u64 0), .sl 0 [] 0 .full, .sl 0 [] 0 .full, .v (.int .u8 0), .v (.int .u64 0), .v (.int .u64 0), .sl 0 [] 0 .full, .sl 0 [] 0 .full, .v (.int .u64 0), .v (.int .u16 0), .v (.bool false)] (msgC (endM 0)) := by
  have hl : ∀ i, limb 0 i = 0 := by intro i; simp [limb]
  simp only [msgC, endM, hl]
  repeat (first | exact WkL.nil | refine WkL.cons (Wk.nil _ _ _) ?_ | refine WkL.cons (Wk.refl _) ?_)
theorem end_wk1 : WkL [.v (.int .u8 36), .v (.int .u8 0), .v (.int .u64 0), .sl 0 [] 0 .full, .v (.int .u8 0), .v (.int .u8 1), .v (.int .u8 0), .v (.int .u64 0), .v (.int .u64 0), .v (.int .u64 0), .v (.int .u64 0), .sl 0 [] 0 .full, .sl 0 [] 0 .full, .v (.int .u8 0), .v (.int .u64 0), .v (.int .u64 0), .sl 0 [] 0 .full, .sl 0 [] 0 .full, .v (.int .u64 0), .v (.int .u16 0), .v (.bool false)] (msgC (endM 1)) := by
  have hl : ∀ i, limb 0 i = 0 := by intro i; simp [limb]
  simp only [msgC, endM, hl]
  repeat (first | exact WkL.nil | refine WkL.cons (Wk.nil _ _ _) ?_ | refine WkL.cons (Wk.refl _) ?_)
set_option maxHeartbeats 1600000 in
attribute [local simp] undefA List.getElem?_cons_zero List.getElem?_cons_succ in
theorem ends_ok {σ : St} : CallsA Try.prog 49 [] σ (fun av σ' => av = .v (.bool true) ∧ σ = σ') := by
  refine callsA_gcS ?_ rfl
  have c1 : ∀ τ, CallsA Try.prog 54 [.agg [.v (.int .u8 36), .v (.int .u8 0), .v (.int .u64 0), .sl 0 [] 0 .full, .v (.int .u8 0), .v (.int .u8 0), .v (.int .u8 0), .v (.int .u64 0), .v (.int .u64 0), .v (.int .u64 0), .v (.int .u64 0), .sl 0 [] 0 .full, .sl 0 [] 0 .full, .v (.int .u8 0), .v (.int .u64 0), .v (.int .u64 0), .sl 0 [] 0 .full, .sl 0 [] 0 .full, .v (.int .u64 0), .v (.int .u16 0), .v (.bool false)]] τ (fun av σ' => av = .tup [.sl 1 [.v (.int .u8 36)] 1 .shut, .v (.int .i64 0)] ∧ τ = σ') := fun τ => by
    have h := callsA_wk (σ := τ) (.cons (WkL.agg end_wk0) .nil) (encode_ok (endM_ok 0))
    rw [show rightM (endM 0) = true by decide +kernel, show encM (endM 0) = [36] by decide +kernel] at h
    exact h
  have c2 : ∀ τ, CallsA Try.prog 54 [.agg [.v (.int .u8 36), .v (.int .u8 0), .v (.int .u64 0), .sl 0 [] 0 .full, .v (.int .u8 0), .v (.int .u8 1), .v (.int .u8 0), .v (.int .u64 0), .v (.int .u64 0), .v (.int .u64 0), .v (.int .u64 0), .sl 0 [] 0 .full, .sl 0 [] 0 .full, .v (.int .u8 0), .v (.int .u64 0), .v (.int .u64 0), .sl 0 [] 0 .full, .sl 0 [] 0 .full, .v (.int .u64 0), .v (.int .u16 0), .v (.bool false)]] τ (fun av σ' => av = .tup [.sl 1 [] 0 .shut, .v (.int .i64 4)] ∧ τ = σ') := fun τ => by
    have h := callsA_wk (σ := τ) (.cons (WkL.agg end_wk1) .nil) (encode_ok (endM_ok 1))
    rw [show rightM (endM 1) = false by decide +kernel] at h
    exact h
  have c3 : ∀ τ, CallsA Try.prog 55 [.sl 1 [.v (.int .u8 36), .v (.int .u8 0)] 2 .full] τ (fun av σ' => av = .tup [.agg (msgC zeroM), .v (.int .i64 4)] ∧ τ = σ') := fun τ => by
    have h := decode_ok (σ := τ) (p := [36, 0]) (tl := .full) (by decide)
    have hb : decB [36, 0] = false := by decide +kernel
    rw [show decM [36, 0] = zeroM by (unfold decM; rw [hb]; rfl), hb] at h
    exact h
  have hdr2 : ∀ f : Nat → AV, List.drop 2 (List.map f (List.range 2)) = [] := fun _ => rfl
  have hd21 : ∀ f : Nat → AV, List.drop 21 (List.map f (List.range 21)) = [] := fun _ => rfl
  simp only [msgC, zeroM] at c3
  have F := And.intro hdr2 (And.intro hd21 (True.intro))
  refine callsA_body Try.func49 rfl rfl rfl ?_; refine sr fun _ hJ2 => ?_; refine hJ2 _ _ ?_; refine sr fun _ hJ4 => ?_; refine cb (c := c1 _) (k := ?_); refine hJ4 _ _ ?_; refine sr fun _ hJ6 => ?_; refine cb (c := c3 _) (k := ?_); refine hJ6 _ _ ?_; refine sr fun _ hJ8 => ?_; refine cb (c := c2 _) (k := ?_); refine hJ8 _ _ ?_; refine sr fun _ hJ10 => ?_; refine gs 25 (fun g4_3 => ?_) (fun g4_3 => ?_)
  · try exact nope g4_3
    all_goals
     replace F := wf F g4_3; (iterate 4 refine go2 (k := ?_)); refine gs 31 (fun g4_9 => ?_) (fun g4_9 => ?_)
     · try exact nope g4_9
       all_goals
        replace F := wf F g4_9; (iterate 2 refine go2 (k := ?_)); refine gs 35 (fun g4_13 => ?_) (fun g4_13 => ?_)
        · try exact nope g4_13
          all_goals
           replace F := wf F g4_13; (iterate 2 refine go2 (k := ?_)); refine gs 39 (fun g4_17 => ?_) (fun g4_17 => ?_)
           · try exact nope g4_17
             all_goals
              replace F := wf F g4_17; (iterate 2 refine go2 (k := ?_)); refine hJ10 _ _ ?_; refine ra ?_; exact gcr
           try exact nope g4_17
           all_goals
            replace F := wf F g4_17; (iterate 2 refine no2 (k := ?_)); refine hJ10 _ _ ?_; refine ra ?_; exact gcr
        try exact nope g4_13
        all_goals
         replace F := wf F g4_13; (iterate 4 refine no2 (k := ?_)); refine hJ10 _ _ ?_; refine ra ?_; exact gcr
     try exact nope g4_9
     all_goals
      replace F := wf F g4_9; (iterate 6 refine no2 (k := ?_)); refine hJ10 _ _ ?_; refine ra ?_; exact gcr
  try exact nope g4_3
  all_goals
   replace F := wf F g4_3; (iterate 10 refine no2 (k := ?_)); refine hJ10 _ _ ?_; refine ra ?_; exact gcr

def smallM (m : Msg) : Bool := decide (m.fee.length ≤ 12) && decide (m.c.length ≤ 12) && decide (m.outs.length ≤ 20) && decide (m.p.tot.length ≤ 12) && decide (m.p.ps.length ≤ 20) && m.outs.all (fun x => decide (x.c.length ≤ 12)) && m.p.ps.all (fun x => decide (x.c.length ≤ 12))
set_option maxHeartbeats 1600000 in
attribute [local simp] undefA List.getElem?_cons_zero List.getElem?_cons_succ msgC outC perC outsC_noObj persC_noObj in
theorem small_ok {σ : St} {m : Msg} (hm : m.Ok) :
    CallsA Try.prog 50 [.agg (msgC m)] σ (fun av σ' => av = .v (.bool (smallM m)) ∧ σ = σ') := by
  refine callsA_gcS ?_ rfl
  obtain ⟨h1, h2, h3, h4, h5, h6, h7, h8⟩ := hm
  obtain ⟨G, hG⟩ : ∃ G, G = smallM m := ⟨_, rfl⟩
  rw [← hG]
  unfold smallM at hG
  obtain ⟨x1, x2, x3, x4, x5, x6, x7, x8, x9, x10, x11, x12, x13, x14⟩ := m
  obtain ⟨xpk, xps, xpe, xpt, xpq⟩ := x11
  obtain ⟨p1, p2, p3, p4, p5⟩ := h6
  simp only at hG h2 h3 h4 p3 p4
  obtain ⟨B, hB⟩ : ∃ B, B = !(decide (x4.length ≤ 12) && decide (x9.length ≤ 12) && decide (x10.length ≤ 20) && decide (xpt.length ≤ 12) && decide (xpq.length ≤ 20)) := ⟨_, rfl⟩
  have hG2 : G = (!B && x10.all (fun x => decide (x.c.length ≤ 12)) && xpq.all (fun x => decide (x.c.length ≤ 12))) := by rw [hG, hB]; simp only [Bool.not_not]
  clear hG
  have F := True.intro
  refine callsA_body Try.func50 rfl rfl rfl ?_; refine sr fun _ hJ2 => ?_; refine hJ2 _ _ ?_; refine sq fun K3 hK3 => ?_; refine sqc (X := Unit) [1, 2] (fun z ρ σ1 => (ρ 34 = .v (.bool B)) ∧ (σ1 = { σ with objs := σ.objs ++ [msgC ⟨x1, x2, x3, x4, x5, x6, x7, x8, x9, x10, ⟨xpk, xps, xpe, xpt, xpq⟩, x12, x13, x14⟩] })) ?cy4 ?cx4
  case cy4 =>
   rintro z ρCr1 σ1 hFCr1 ⟨h34, hσ⟩; obtain rfl := hσ.symm
   have fCr1 := keepL hFCr1
   (try simp [KeepL, F] at fCr1); replace F := aF h34 F; (try replace F := aF fCr1 F); refine cs (t := B) (fun c34 => ?_) (fun c34 => ?_)
   · try exact nope c34
     all_goals
      replace F := wf F c34
      have h0 : G = false := by rw [hG2, c34]; rfl
      replace F := aF h0 F; refine sr fun _ hJ6 => ?_; refine hJ6 _ _ ?_; refine ra ?_; exact gcr
   try exact nope c34
   all_goals
    replace F := wf F c34; refine run_skip ?_; refine hK3 _ _ ?_; refine sq fun K7 hK7 => ?_; refine sr fun _ hJ9 => ?_; refine hJ9 _ _ ?_; refine run_block_k ?_; refine run_loopF (X := Nat) [1] (fun i ρ σ1 => (i ≤ x10.length) ∧ (x10.all (fun x ↦ decide (x.c.length ≤ 12)) = (x10.drop i).all (fun x ↦ decide (x.c.length ≤ 12))) ∧ (ρ 3 = .v (.int .i64 i)) ∧ (σ1 = { σ with objs := σ.objs ++ [msgC ⟨x1, x2, x3, x4, x5, x6, x7, x8, x9, x10, ⟨xpk, xps, xpe, xpt, xpq⟩, x12, x13, x14⟩] })) (fun i => x10.length - i) (0) ?st1 ?rd1
    case st1 =>
     refine ⟨lp, ?_, lp, ?_⟩
     · rfl
     · rfl
    case rd1 =>
     rintro i ρ1 σ1 hF1 ⟨hi, hE, h3, hσ⟩; obtain rfl := hσ.symm
     have f1 := keepL hF1
     (try simp [KeepL, F] at f1); replace F := aF h3 F; (try replace F := aF f1 F); refine sq fun K10 hK10 => ?_; refine sr fun _ hJ12 => ?_; refine hJ12 _ _ ?_; refine cs (fun c39 => ?_) (fun c39 => ?_)
     · try exact nope c39
       all_goals
        replace F := wf F c39; refine run_skip ?_; refine hK10 _ _ ?_; refine sq fun K13 hK13 => ?_; refine run_block_k ?_; refine sq fun K14 hK14 => ?_
        have hlt : i < x10.length := by have h := c39; simp at h; omega
        have hat := outsC_at hlt
        have hq1 : i * 2 + 2 ≤ x10.length * 2 := by omega
        have hcons : x10.drop i = x10[i] :: x10.drop (i + 1) := List.drop_eq_getElem_cons hlt
        obtain ⟨x, hx⟩ : ∃ x, x = x10[i] := ⟨_, rfl⟩
        rw [← hx] at hat hcons
        rw [hcons, List.all_cons] at hE
        obtain ⟨xl, xc⟩ := x
        simp only at hE
        replace F := aF hlt F; replace F := aF hat F; replace F := aF hq1 F; refine rg' (h := fun J15 hJ15 => ?_); refine hJ15 _ _ ?_; refine hK14 _ _ ?_; refine cs (fun c49 => ?_) (fun c49 => ?_)
        · try exact nope c49
          all_goals
           replace F := wf F c49
           have h0 : G = false := by (have h := c49; simp at h; rw [hG2, hE, decide_eq_false (by omega)]; simp)
           replace F := aF h0 F; refine sr fun _ hJ17 => ?_; refine hJ17 _ _ ?_; refine ra ?_; exact gcr
        try exact nope c49
        all_goals
         replace F := wf F c49; refine run_skip ?_; refine hK13 _ _ ?_; refine rg' (h := fun J18 hJ18 => ?_); refine hJ18 _ _ ?_; refine ⟨(i + 1), ⟨kp, lp, ?_, lp, lp⟩, lp⟩
         · have h := c49
           simp at h
           rw [hE, decide_eq_true (by omega)]
           rfl
     try exact nope c39
     all_goals
      replace F := wf F c39
      have hA1 : x10.all (fun x ↦ decide (x.c.length ≤ 12)) = true := by rw [hE, List.drop_of_length_le (by have h := c39; simp at h; omega)]; rfl
      refine run_exit ?_; refine hK7 _ _ ?_; refine sq fun K19 hK19 => ?_; refine sr fun _ hJ21 => ?_; refine hJ21 _ _ ?_; refine run_block_k ?_; refine run_loopF (X := Nat) [1] (fun i ρ σ1 => (i ≤ xpq.length) ∧ (xpq.all (fun x ↦ decide (x.c.length ≤ 12)) = (xpq.drop i).all (fun x ↦ decide (x.c.length ≤ 12))) ∧ (ρ 4 = .v (.int .i64 i)) ∧ (σ1 = { σ with objs := σ.objs ++ [msgC ⟨x1, x2, x3, x4, x5, x6, x7, x8, x9, x10, ⟨xpk, xps, xpe, xpt, xpq⟩, x12, x13, x14⟩] })) (fun i => xpq.length - i) (0) ?st2 ?rd2
      case st2 =>
       refine ⟨lp, ?_, lp, ?_⟩
       · rfl
       · rfl
      case rd2 =>
       rintro i ρ2 σ1 hF2 ⟨hi, hE, h4, hσ⟩; obtain rfl := hσ.symm
       have f2 := keepL hF2
       (try simp [KeepL, F] at f2); replace F := aF h4 F; (try replace F := aF f2 F); refine sq fun K22 hK22 => ?_; refine sr fun _ hJ24 => ?_; refine hJ24 _ _ ?_; refine cs (fun c55 => ?_) (fun c55 => ?_)
       · try exact nope c55
         all_goals
          replace F := wf F c55; refine run_skip ?_; refine hK22 _ _ ?_; refine sq fun K25 hK25 => ?_; refine run_block_k ?_; refine sq fun K26 hK26 => ?_
          have hlt : i < xpq.length := by have h := c55; simp at h; omega
          have hat := persC_at hlt
          have hq1 : i * 2 + 2 ≤ xpq.length * 2 := by omega
          have hcons : xpq.drop i = xpq[i] :: xpq.drop (i + 1) := List.drop_eq_getElem_cons hlt
          obtain ⟨x, hx⟩ : ∃ x, x = xpq[i] := ⟨_, rfl⟩
          rw [← hx] at hat hcons
          rw [hcons, List.all_cons] at hE
          obtain ⟨xl, xc⟩ := x
          simp only at hE
          replace F := aF hlt F; replace F := aF hat F; replace F := aF hq1 F; refine rg' (h := fun J27 hJ27 => ?_); refine hJ27 _ _ ?_; refine hK26 _ _ ?_; refine cs (fun c66 => ?_) (fun c66 => ?_)
          · try exact nope c66
            all_goals
             replace F := wf F c66
             have h0 : G = false := by (have h := c66; simp at h; rw [hG2, hE, decide_eq_false (by omega)]; simp)
             replace F := aF h0 F; refine sr fun _ hJ29 => ?_; refine hJ29 _ _ ?_; refine ra ?_; exact gcr
          try exact nope c66
          all_goals
           replace F := wf F c66; refine run_skip ?_; refine hK25 _ _ ?_; refine rg' (h := fun J30 hJ30 => ?_); refine hJ30 _ _ ?_; refine ⟨(i + 1), ⟨kp, lp, ?_, lp, lp⟩, lp⟩
           · have h := c66
             simp at h
             rw [hE, decide_eq_true (by omega)]
             rfl
       try exact nope c55
       all_goals
        replace F := wf F c55
        have h0 : G = true := by rw [hG2, c34, hA1, hE, List.drop_of_length_le (by have h := c55; simp at h; omega)]; rfl
        replace F := aF h0 F; refine run_exit ?_; refine hK19 _ _ ?_; refine sr fun _ hJ32 => ?_; refine hJ32 _ _ ?_; refine ra ?_; exact gcr
  case cx4 =>
   intro K4 hK4
   refine rg' (h := fun J33 hJ33 => ?_); refine gs 9 (fun g1_4 => ?_) (fun g1_4 => ?_)
   · try exact nope g1_4
     all_goals
      replace F := wf F g1_4
      have hq4 : ¬ x4.length ≤ 12 := by have h := g1_4; simp at h; omega
      replace F := aF hq4 F; (iterate 18 refine no2 (k := ?_)); refine hJ33 _ _ ?_; refine hK4 (()) _ _ ⟨kp, ?_, lp⟩
      · rw [hB]
        simp [F]
        (try (rw [Bool.eq_iff_iff]; simp)); all_goals try omega
   try exact nope g1_4
   all_goals
    replace F := wf F g1_4
    have hq4 : x4.length ≤ 12 := by have h := g1_4; simp at h; omega
    replace F := aF hq4 F; (iterate 4 refine go2 (k := ?_)); refine gs 15 (fun g1_10 => ?_) (fun g1_10 => ?_)
    · try exact nope g1_10
      all_goals
       replace F := wf F g1_10
       have hq10 : ¬ x9.length ≤ 12 := by have h := g1_10; simp at h; omega
       replace F := aF hq10 F; (iterate 14 refine no2 (k := ?_)); refine hJ33 _ _ ?_; refine hK4 (()) _ _ ⟨kp, ?_, lp⟩
       · rw [hB]
         simp [F]
         (try (rw [Bool.eq_iff_iff]; simp)); all_goals try omega
    try exact nope g1_10
    all_goals
     replace F := wf F g1_10
     have hq10 : x9.length ≤ 12 := by have h := g1_10; simp at h; omega
     replace F := aF hq10 F; (iterate 4 refine go2 (k := ?_)); refine gs 21 (fun g1_16 => ?_) (fun g1_16 => ?_)
     · try exact nope g1_16
       all_goals
        replace F := wf F g1_16
        have hq16 : ¬ x10.length ≤ 20 := by have h := g1_16; simp at h; omega
        replace F := aF hq16 F; (iterate 10 refine no2 (k := ?_)); refine hJ33 _ _ ?_; refine hK4 (()) _ _ ⟨kp, ?_, lp⟩
        · rw [hB]
          simp [F]
          (try (rw [Bool.eq_iff_iff]; simp)); all_goals try omega
     try exact nope g1_16
     all_goals
      replace F := wf F g1_16
      have hq16 : x10.length ≤ 20 := by have h := g1_16; simp at h; omega
      replace F := aF hq16 F; (iterate 5 refine go2 (k := ?_)); refine gs 28 (fun g1_23 => ?_) (fun g1_23 => ?_)
      · try exact nope g1_23
        all_goals
         replace F := wf F g1_23
         have hq23 : ¬ xpt.length ≤ 12 := by have h := g1_23; simp at h; omega
         replace F := aF hq23 F; (iterate 5 refine no2 (k := ?_)); refine hJ33 _ _ ?_; refine hK4 (()) _ _ ⟨kp, ?_, lp⟩
         · rw [hB]
           simp [F]
           (try (rw [Bool.eq_iff_iff]; simp)); all_goals try omega
      try exact nope g1_23
      all_goals
       replace F := wf F g1_23
       have hq23 : xpt.length ≤ 12 := by have h := g1_23; simp at h; omega
       replace F := aF hq23 F; (iterate 5 refine go2 (k := ?_)); refine hJ33 _ _ ?_; refine hK4 (()) _ _ ⟨kp, ?_, lp⟩
       · rw [hB]
         simp [F]
         (try (rw [Bool.eq_iff_iff]; simp)); all_goals try omega
end Go.Proofs.Ytdbaddholggkbaa
