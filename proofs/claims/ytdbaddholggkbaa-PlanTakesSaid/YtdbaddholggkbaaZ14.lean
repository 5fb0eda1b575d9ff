import Derived.Test.YtdbaddholggkbaaZ7
import Derived.Test.YtdbaddholggkbaaZ13
import Derived.Test.YtdbaddholggkbaaZ10
import Derived.Test.YtdbaddholggkbaaZ12
/-
  A plan at hand..
-/
namespace Go.Proofs.Ytdbaddholggkbaa
set_option linter.unnecessarySimpa false
set_option maxRecDepth 100000
open Go Go.Vm
set_option linter.unusedSimpArgs false
set_option linter.unusedVariables false

attribute [local simp] evalL wantedA isCall opA evalA evalAll evalsA evalOpt ofValue ofCell plain binA_eql_pn binA_neq_pn binA_gtr binA_lss binA_geq binA_leq binA_add binA_sub binA_eql binA_neq binA_orI binA_andI binA_shl binA_shr binA_mul binA_quo binA_rem binA_agg_eql binA_agg_neq convA_int unA_not fieldAddrA loadA partA pickA_true pickA_false pickA_bb lenA builtinA storeA splice AV.cells AV.isCell sliceA boundA intA callOf indexAddrA newObjA buildA fillA zeroA ofCells buildSliceA indexA fieldA numA_len4 numA_take4 numA_drop4 set_appN get_appN take_appN List.getElem?_cons_zero List.getElem?_cons_succ makeA zeros64

def evenP : Pln := ⟨1, 10, 20, [⟨0, Num.of 5⟩], []⟩
theorem evenOk : evenP.Ok := ⟨by decide, by decide, by decide, by decide, fun x hx => absurd hx (by simp [evenP])⟩
theorem evenRight : rightB evenP = true := by decide
theorem evenVest : vestL evenP 13 = [⟨0, Num.of 1⟩] := by decide
def sixP : Pln := ⟨6, 0, 0, [], []⟩
theorem sixOk : sixP.Ok := ⟨by decide, by decide, by decide, by decide, fun x hx => absurd hx (by simp [sixP])⟩
theorem nilAgg {k : Int} : WkL [.agg [.v (.int .u8 k), .v (.int .u64 0), .v (.int .u64 0), .sl 0 [] 0 .full, .sl 0 [] 0 .full]] [.agg [.v (.int .u8 k), .v (.int .u64 0), .v (.int .u64 0), .sl 5 [] 0 .shut, .sl 2 [] 0 .shut]] :=
  .cons (WkL.agg (.cons (Wk.refl _) (.cons (Wk.refl _) (.cons (Wk.refl _) (.cons (Wk.nil _ _ _) (.cons (Wk.nil _ _ _) .nil)))))) .nil
theorem plrightZ_ok {σ : St} : CallsA Try.prog 18 [.agg [.v (.int .u8 0), .v (.int .u64 0), .v (.int .u64 0), .sl 0 [] 0 .full, .sl 0 [] 0 .full]] σ (fun av σ' => av = .v (.bool true) ∧ σ = σ') := by
  have h := plright_ok (σ := σ) okZero
  rw [show rightB ⟨0, 0, 0, [], []⟩ = true by decide] at h
  exact callsA_wk nilAgg h
theorem plrightS_ok {σ : St} : CallsA Try.prog 18 [.agg [.v (.int .u8 6), .v (.int .u64 0), .v (.int .u64 0), .sl 0 [] 0 .full, .sl 0 [] 0 .full]] σ (fun av σ' => av = .v (.bool false) ∧ σ = σ') := by
  have h := plright_ok (σ := σ) sixOk
  rw [show rightB sixP = false by decide] at h
  exact callsA_wk nilAgg h
theorem evenAgg {tl : Tail} : WkL [.agg [.v (.int .u8 1), .v (.int .u64 10), .v (.int .u64 20), .sl 5 [.v (.int .u8 0), .v (.int .u64 5), .v (.int .u64 0), .v (.int .u64 0), .v (.int .u64 0)] 1 tl, .sl 0 [] 0 .full]] [.agg (plnC evenP)] :=
  .cons (WkL.agg (.cons (Wk.refl _) (.cons (Wk.refl _) (.cons (Wk.refl _) (.cons (Wk.shut _ _ _ _) (.cons (Wk.nil _ _ _) .nil)))))) .nil
theorem plrightE_ok {σ : St} {tl : Tail} : CallsA Try.prog 18 [.agg [.v (.int .u8 1), .v (.int .u64 10), .v (.int .u64 20), .sl 5 [.v (.int .u8 0), .v (.int .u64 5), .v (.int .u64 0), .v (.int .u64 0), .v (.int .u64 0)] 1 tl, .sl 0 [] 0 .full]] σ (fun av σ' => av = .v (.bool true) ∧ σ = σ') := by
  have h := plright_ok (σ := σ) evenOk
  rw [evenRight] at h
  exact callsA_wk evenAgg h
theorem pvestedE_ok {σ : St} {tl : Tail} : CallsA Try.prog 23 [.agg [.v (.int .u8 1), .v (.int .u64 10), .v (.int .u64 20), .sl 5 [.v (.int .u8 0), .v (.int .u64 5), .v (.int .u64 0), .v (.int .u64 0), .v (.int .u64 0)] 1 tl, .sl 0 [] 0 .full], .v (.int .u64 13)] σ (fun av σ' => av = .sl 5 [.v (.int .u8 0), .v (.int .u64 1), .v (.int .u64 0), .v (.int .u64 0), .v (.int .u64 0)] 1 .shut ∧ σ = σ') := by
  have h := pvested_ok (σ := σ) (t := 13) evenOk (by decide) (by decide) (by decide)
  rw [evenVest] at h
  refine callsA_wk (bs := [.agg (plnC evenP), .v (.int .u64 13)]) ?_ h
  exact .cons (WkL.agg (.cons (Wk.refl _) (.cons (Wk.refl _) (.cons (Wk.refl _) (.cons (Wk.shut _ _ _ _) (.cons (Wk.nil _ _ _) .nil)))))) (.cons (Wk.refl _) .nil)

set_option maxHeartbeats 1600000 in
attribute [local simp] undefA List.getElem?_cons_zero List.getElem?_cons_succ in
theorem even_ok {σ : St} : CallsA Try.prog 17 [] σ (fun av σ' => av = .v (.bool true) ∧ σ = σ') := by
  refine callsA_gcS ?_ rfl
  have hdr : ∀ f : Nat → AV, List.drop 5 (List.map f (List.range 5)) = [] := fun _ => rfl
  have heq : cellsEqA [.v (.int .u64 1), .v (.int .u64 0), .v (.int .u64 0), .v (.int .u64 0)] [.v (.int .u64 1), .v (.int .u64 0), .v (.int .u64 0), .v (.int .u64 0)] = true := by decide
  have F := And.intro hdr (And.intro heq (True.intro))
  refine callsA_body Try.func17 rfl rfl rfl ?_
  refine sq fun K1 hK1 => ?_
  refine rg' (h := fun J2 hJ2 => ?_)
  refine hJ2 _ _ ?_
  refine hK1 _ _ ?_
  refine sq fun K3 hK3 => ?_
  refine rg' (h := fun J4 hJ4 => ?_)
  refine hJ4 _ _ ?_
  refine hK3 _ _ ?_
  refine sq fun K5 hK5 => ?_
  refine rg' (h := fun J6 hJ6 => ?_)
  refine ca (c := pvestedE_ok) (k := ?_)
  rintro _ _ ⟨rfl, rfl⟩
  repeat (first | simp [F] | simp (disch := omega) only [wC, if_pos, if_neg])
  refine hJ6 _ _ ?_
  refine hK5 _ _ ?_
  refine sq fun K7 hK7 => ?_
  refine rg' (h := fun J8 hJ8 => ?_)
  refine ca (c := plrightE_ok) (k := ?_)
  rintro _ _ ⟨rfl, rfl⟩
  repeat (first | simp [F] | simp (disch := omega) only [wC, if_pos, if_neg])
  refine gs 11 (fun g3_2 => ?_) (fun g3_2 => ?_)
  · try exact nope g3_2
    all_goals have g3_2p := g3_2
    all_goals try simp [F] at g3_2p
    all_goals
     replace F := And.intro g3_2 F
     try replace F := And.intro g3_2p F
     refine go2 (k := ?_)
     refine go2 (k := ?_)
     refine go2 (k := ?_)
     refine gs 16 (fun g3_7 => ?_) (fun g3_7 => ?_)
     · try exact nope g3_7
       all_goals have g3_7p := g3_7
       all_goals try simp [F] at g3_7p
       all_goals
        replace F := And.intro g3_7 F
        try replace F := And.intro g3_7p F
        refine go2 (k := ?_)
        refine go2 (k := ?_)
        refine go2 (k := ?_)
        refine go2 (k := ?_)
        refine go2 (k := ?_)
        refine go2 (k := ?_)
        refine gs 24 (fun g3_15 => ?_) (fun g3_15 => ?_)
        · try exact nope g3_15
          all_goals have g3_15p := g3_15
          all_goals try simp [F] at g3_15p
          all_goals
           replace F := And.intro g3_15 F
           try replace F := And.intro g3_15p F
           refine go2 (k := ?_)
           refine ca (c := plrightZ_ok) (k := ?_)
           rintro _ _ ⟨rfl, rfl⟩
           repeat (first | simp [F] | simp (disch := omega) only [wC, if_pos, if_neg])
           refine gs 28 (fun g3_19 => ?_) (fun g3_19 => ?_)
           · try exact nope g3_19
             all_goals have g3_19p := g3_19
             all_goals try simp [F] at g3_19p
             all_goals
              replace F := And.intro g3_19 F
              try replace F := And.intro g3_19p F
              refine go2 (k := ?_)
              refine ca (c := plrightS_ok) (k := ?_)
              rintro _ _ ⟨rfl, rfl⟩
              repeat (first | simp [F] | simp (disch := omega) only [wC, if_pos, if_neg])
              refine go2 (k := ?_)
              refine hJ8 _ _ ?_
              refine hK7 _ _ ?_
              refine run_ret ?_
              try simp only [Then, InBlock, NoGoto]
              refine answer_tmp rfl (.inr rfl) ?_
              exact gcr
           try exact nope g3_19
           all_goals have g3_19p := g3_19
           all_goals try simp [F] at g3_19p
           all_goals
            replace F := And.intro g3_19 F
            try replace F := And.intro g3_19p F
            refine no2 (k := ?_)
            refine no2 (k := ?_)
            refine no2 (k := ?_)
            refine hJ8 _ _ ?_
            refine hK7 _ _ ?_
            refine run_ret ?_
            try simp only [Then, InBlock, NoGoto]
            refine answer_tmp rfl (.inr rfl) ?_
            exact gcr
        try exact nope g3_15
        all_goals have g3_15p := g3_15
        all_goals try simp [F] at g3_15p
        all_goals
         replace F := And.intro g3_15 F
         try replace F := And.intro g3_15p F
         refine no2 (k := ?_)
         refine no2 (k := ?_)
         refine no2 (k := ?_)
         refine no2 (k := ?_)
         refine no2 (k := ?_)
         refine hJ8 _ _ ?_
         refine hK7 _ _ ?_
         refine run_ret ?_
         try simp only [Then, InBlock, NoGoto]
         refine answer_tmp rfl (.inr rfl) ?_
         exact gcr
     try exact nope g3_7
     all_goals have g3_7p := g3_7
     all_goals try simp [F] at g3_7p
     all_goals
      replace F := And.intro g3_7 F
      try replace F := And.intro g3_7p F
      refine no2 (k := ?_)
      refine no2 (k := ?_)
      refine no2 (k := ?_)
      refine no2 (k := ?_)
      refine no2 (k := ?_)
      refine no2 (k := ?_)
      refine no2 (k := ?_)
      refine no2 (k := ?_)
      refine no2 (k := ?_)
      refine no2 (k := ?_)
      refine no2 (k := ?_)
      refine hJ8 _ _ ?_
      refine hK7 _ _ ?_
      refine run_ret ?_
      try simp only [Then, InBlock, NoGoto]
      refine answer_tmp rfl (.inr rfl) ?_
      exact gcr
  try exact nope g3_2
  all_goals have g3_2p := g3_2
  all_goals try simp [F] at g3_2p
  all_goals
   replace F := And.intro g3_2 F
   try replace F := And.intro g3_2p F
   refine no2 (k := ?_)
   refine no2 (k := ?_)
   refine no2 (k := ?_)
   refine no2 (k := ?_)
   refine no2 (k := ?_)
   refine no2 (k := ?_)
   refine no2 (k := ?_)
   refine no2 (k := ?_)
   refine no2 (k := ?_)
   refine no2 (k := ?_)
   refine no2 (k := ?_)
   refine no2 (k := ?_)
   refine no2 (k := ?_)
   refine no2 (k := ?_)
   refine hJ8 _ _ ?_
   refine hK7 _ _ ?_
   refine run_ret ?_
   try simp only [Then, InBlock, NoGoto]
   refine answer_tmp rfl (.inr rfl) ?_
   exact gcr

end Go.Proofs.Ytdbaddholggkbaa

/-
  Plans that are made of numbers: they are right.
-/
namespace Go.Vm
set_option linter.unnecessarySimpa false
set_option linter.unusedSimpArgs false
set_option linter.unusedVariables false
open Go

/-- A piece: a length and coins. -/
structure Pc where
  l : Nat
  c : List Coin
/-- What a plan is made of. -/
structure Mad where
  k : UInt8
  s : Nat
  n : Nat
  c : List Coin
  ps : List Pc
def Mad.Ok (m : Mad) : Prop := m.s < 2 ^ 32 ∧ m.n < 2 ^ 16 ∧ ∀ x ∈ m.ps, x.l < 2 ^ 16
/-- A piece's cells, and those of what a plan is made of. -/
def pcC (x : Pc) : List AV := [.v (.int .u16 x.l), .sl 5 (coinsC x.c) x.c.length .shut]
def pcsC (l : List Pc) : List AV := l.flatMap pcC
@[simp] theorem pcsC_nil : pcsC [] = [] := rfl
@[simp] theorem pcsC_len (l : List Pc) : (pcsC l).length = l.length * 2 := flat_length pcC 2 (fun _ => rfl) l
end Go.Vm

/-
  Plans that are made of numbers..
-/
namespace Go.Proofs.Ytdbaddholggkbaa
set_option linter.unnecessarySimpa false
set_option maxRecDepth 100000
open Go Go.Vm
set_option linter.unusedSimpArgs false
set_option linter.unusedVariables false

attribute [local simp] evalL wantedA isCall opA evalA evalAll evalsA evalOpt ofValue ofCell plain binA_eql_pn binA_neq_pn binA_gtr binA_lss binA_geq binA_leq binA_add binA_sub binA_eql binA_neq binA_orI binA_andI binA_shl binA_shr binA_mul binA_quo binA_rem binA_agg_eql binA_agg_neq convA_int unA_not fieldAddrA loadA partA pickA_true pickA_false pickA_bb lenA builtinA storeA splice AV.cells AV.isCell sliceA boundA intA callOf indexAddrA newObjA buildA fillA zeroA ofCells buildSliceA indexA fieldA numA_len4 numA_take4 numA_drop4 set_appN get_appN take_appN List.getElem?_cons_zero List.getElem?_cons_succ makeA zeros64

/-- Coins that are none as yet, or some. -/
def allA (b : Bool) (l : List Coin) : AV := bif b then .sl 5 (coinsC l) l.length .shut else .sl 0 [] 0 .full
@[simp] theorem allA_yes (l : List Coin) : allA true l = .sl 5 (coinsC l) l.length .shut := rfl
@[simp] theorem allA_no (l : List Coin) : allA false l = .sl 0 [] 0 .full := rfl
end Go.Proofs.Ytdbaddholggkbaa

/-
  What right plans give by a time: the plain laws.
-/
namespace Go.Vm
set_option linter.unnecessarySimpa false
set_option linter.unusedSimpArgs false
set_option linter.unusedVariables false
open Go

/-- Parts of a plan, as they may be. -/
def PerOk (x : Per) : Prop := 0 < x.l ∧ x.l ≤ 2 ^ 16 ∧ x.c ≠ [] ∧ Right x.c ∧ ∀ d, d < 8 → amt x.c d < 2 ^ 250
/-- What holds of plans that are made. -/
structure Fine (p : Pln) : Prop where
  ok : p.Ok
  tot : Right p.tot
  kinds : p.k = 0 ∨ p.k = 1 ∨ p.k = 2 ∨ p.k = 3 ∨ p.k = 4 ∨ p.k = 5
  zero : p.k = 0 → p = ⟨0, 0, 0, [], []⟩
  even : p.k = 1 → p.s < p.e
  late : p.k = 2 → p.s = 0
  small : p.s + lenS p.ps ≤ 2 ^ 40
  pers : ∀ x ∈ p.ps, PerOk x
  steps : p.k = 3 ∨ p.k = 5 → p.e = p.s + lenS p.ps ∧ p.tot = sumL p.ps [] ∧ p.ps ≠ [] ∧ p.ps.length ≤ 16

end Go.Vm

/-
  Are two plans alike, by the document..
-/
namespace Go.Proofs.Ytdbaddholggkbaa
set_option linter.unnecessarySimpa false
set_option maxRecDepth 100000
open Go Go.Vm
set_option linter.unusedSimpArgs false
set_option linter.unusedVariables false

attribute [local simp] evalL wantedA isCall opA evalA evalAll evalsA evalOpt ofValue ofCell plain binA_eql_pn binA_neq_pn binA_gtr binA_lss binA_geq binA_leq binA_add binA_sub binA_eql binA_neq binA_orI binA_andI binA_shl binA_shr binA_mul binA_quo binA_rem binA_agg_eql binA_agg_neq convA_int unA_not fieldAddrA loadA partA pickA_true pickA_false pickA_bb lenA builtinA storeA splice AV.cells AV.isCell sliceA boundA intA callOf indexAddrA newObjA buildA fillA zeroA ofCells buildSliceA indexA fieldA numA_len4 numA_take4 numA_drop4 set_appN get_appN take_appN List.getElem?_cons_zero List.getElem?_cons_succ makeA zeros64

set_option maxHeartbeats 1600000 in
attribute [local simp] undefA List.getElem?_cons_zero List.getElem?_cons_succ plnC perC persC_noObj in
theorem rplsame_ok {σ : St} {a b : Pln} (ha : a.Ok) (hb : b.Ok) :
    CallsA Try.prog 31 [.agg (plnC a), .agg (plnC b)] σ (fun av σ' => av = .v (.bool (decide (a = b))) ∧ σ = σ') := by
  refine callsA_gcS ?_ rfl
  obtain ⟨D, hD⟩ : ∃ D, D = decide (a = b) := ⟨_, rfl⟩
  rw [← hD]
  obtain ⟨ak, a1, a2, a3, a4⟩ := a
  obtain ⟨bk, b1, b2, b3, b4⟩ := b
  obtain ⟨ha1, ha2, ha3, ha4, ha5⟩ := ha
  obtain ⟨hb1, hb2, hb3, hb4, hb5⟩ := hb
  simp only [Pln.mk.injEq] at *
  have hno : ¬ (ak = bk ∧ a1 = b1 ∧ a2 = b2 ∧ a3 = b3 ∧ a4 = b4) → D = false := fun h => by rw [hD]; exact decide_eq_false h
  have hyes : ak = bk → a1 = b1 → a2 = b2 → a3 = b3 → a4 = b4 → D = true := fun h1 h2 h3 h4 h5 => by rw [hD]; exact decide_eq_true ⟨h1, h2, h3, h4, h5⟩
  clear hD
  obtain ⟨B, hB⟩ : ∃ B, B = !(decide (ak = bk) && decide (a1 = b1) && decide (a2 = b2) && decide (a3 = b3) && decide (a4.length = b4.length)) := ⟨_, rfl⟩
  have F := True.intro
  refine callsA_body Try.func31 rfl rfl rfl ?_
  refine sq fun K1 hK1 => ?_
  refine rg' (h := fun J2 hJ2 => ?_)
  refine hJ2 _ _ ?_
  refine hK1 _ _ ?_
  refine sq fun K3 hK3 => ?_
  refine sqc (X := Unit) [2, 3, 4] (fun k ρ σ1 => (ρ 41 = .v (.bool B)) ∧ (σ1 = { σ with objs := σ.objs ++ [[.v (.int .u8 ak.toNat), .v (.int .u64 a1), .v (.int .u64 a2), .sl 5 (coinsC a3) a3.length .shut, .sl 2 (persC a4) a4.length .shut], [.v (.int .u8 bk.toNat), .v (.int .u64 b1), .v (.int .u64 b2), .sl 5 (coinsC b3) b3.length .shut, .sl 2 (persC b4) b4.length .shut]] })) ?cy4 ?cx4
  case cy4 =>
   rintro k ρCr1 σ1 hFCr1 ⟨h41, hσ⟩
   obtain rfl := hσ.symm
   have fCr1 := keepL hFCr1
   try simp [KeepL, F] at fCr1
   replace F := And.intro h41 F
   try replace F := And.intro fCr1 F
   refine cs (t := B) (fun c41 => ?_) (fun c41 => ?_)
   · try exact nope c41
     all_goals have c41p := c41
     all_goals try simp [F] at c41p
     all_goals
      replace F := And.intro c41 F
      try replace F := And.intro c41p F
      have h0 : D = false := hno (fun ⟨e1, e2, e3, e4, e5⟩ => by rw [hB, e1, e2, e3, e4, e5] at c41; simp at c41)
      replace F := And.intro h0 F
      refine sq fun K5 hK5 => ?_
      refine rg' (h := fun J6 hJ6 => ?_)
      refine hJ6 _ _ ?_
      refine hK5 _ _ ?_
      refine run_ret ?_
      try simp only [Then, InBlock, NoGoto]
      refine answer_tmp rfl (.inr rfl) ?_
      exact gcr
   try exact nope c41
   all_goals have c41p := c41
   all_goals try simp [F] at c41p
   all_goals
    replace F := And.intro c41 F
    try replace F := And.intro c41p F
    obtain ⟨e1, e2, e3, e4, e5⟩ : ak = bk ∧ a1 = b1 ∧ a2 = b2 ∧ a3 = b3 ∧ a4.length = b4.length := by rw [hB] at c41; simp at c41; obtain ⟨⟨⟨⟨h1, h2⟩, h3⟩, h4⟩, h5⟩ := c41; exact ⟨h1, h2, h3, h4, h5⟩
    refine run_skip ?_
    refine hK3 _ _ ?_
    refine sq fun K7 hK7 => ?_
    refine sq fun K8 hK8 => ?_
    refine rg' (h := fun J9 hJ9 => ?_)
    refine hJ9 _ _ ?_
    refine hK8 _ _ ?_
    refine run_block_k ?_
    refine run_loopF (X := Nat) [2, 3] (fun i ρ σ1 => (i ≤ a4.length) ∧ (a4.take i = b4.take i) ∧ (ρ 5 = .v (.int .i64 i)) ∧ (σ1 = { σ with objs := σ.objs ++ [[.v (.int .u8 ak.toNat), .v (.int .u64 a1), .v (.int .u64 a2), .sl 5 (coinsC a3) a3.length .shut, .sl 2 (persC a4) a4.length .shut], [.v (.int .u8 bk.toNat), .v (.int .u64 b1), .v (.int .u64 b2), .sl 5 (coinsC b3) b3.length .shut, .sl 2 (persC b4) b4.length .shut]] })) (fun i => a4.length - i) (0) ?st1 ?rd1
    case st1 =>
     refine ⟨lp, ?_, lp, ?_⟩
     · rfl
     · rfl
    case rd1 =>
     rintro i ρ1 σ1 hF1 ⟨hi, hE, h5, hσ⟩
     obtain rfl := hσ.symm
     have f1 := keepL hF1
     try simp [KeepL, F] at f1
     replace F := And.intro h5 F
     try replace F := And.intro f1 F
     refine sq fun K10 hK10 => ?_
     refine sq fun K11 hK11 => ?_
     refine rg' (h := fun J12 hJ12 => ?_)
     refine hJ12 _ _ ?_
     refine hK11 _ _ ?_
     refine cs (fun c46 => ?_) (fun c46 => ?_)
     · try exact nope c46
       all_goals have c46p := c46
       all_goals try simp [F] at c46p
       all_goals
        replace F := And.intro c46 F
        try replace F := And.intro c46p F
        refine run_skip ?_
        refine hK10 _ _ ?_
        refine sq fun K13 hK13 => ?_
        refine run_block_k ?_
        refine sq fun K14 hK14 => ?_
        have hlt : i < a4.length := by have h := c46; simp at h; omega
        have hlt2 : i < b4.length := by omega
        have hat := persC_at hlt
        have hat2 := persC_at hlt2
        have hb1 : i * 2 + 2 ≤ a4.length * 2 := by omega
        have hb2 : i * 2 + 2 ≤ b4.length * 2 := by omega
        have hx5 := ha5 _ (List.getElem_mem hlt)
        have hy5 := hb5 _ (List.getElem_mem hlt2)
        have htx : a4.take (i + 1) = a4.take i ++ [a4[i]] := (List.take_append_getElem hlt).symm
        have hty : b4.take (i + 1) = b4.take i ++ [b4[i]] := (List.take_append_getElem hlt2).symm
        have hxy : a4 = b4 → a4[i] = b4[i] := fun e => by subst e; rfl
        obtain ⟨x, hx⟩ : ∃ x, x = a4[i] := ⟨_, rfl⟩
        obtain ⟨y, hy⟩ : ∃ y, y = b4[i] := ⟨_, rfl⟩
        rw [← hx] at hat hx5 htx hxy
        rw [← hy] at hat2 hy5 hty hxy
        obtain ⟨xl, xc⟩ := x
        obtain ⟨yl, yc⟩ := y
        simp only [Per.mk.injEq] at hx5 hy5 hxy
        replace F := And.intro hlt F
        replace F := And.intro hlt2 F
        replace F := And.intro hat F
        replace F := And.intro hat2 F
        replace F := And.intro hb1 F
        replace F := And.intro hb2 F
        refine run_draw (by kernel_rfl) fun J15 hJ15 => ?_
        refine rp2 0 (k := ?_)
        refine rp2 1 (k := ?_)
        refine rp2 2 (k := ?_)
        refine rp2 3 (k := ?_)
        refine rp2 4 (k := ?_)
        refine rp2 5 (k := ?_)
        refine rp2 6 (k := ?_)
        refine rp2 7 (k := ?_)
        refine rp2 8 (k := ?_)
        refine rp2 9 (k := ?_)
        refine rp2 10 (k := ?_)
        refine rp2 11 (k := ?_)
        refine rp2 12 (k := ?_)
        refine rp2 13 (k := ?_)
        refine gd 62 (fun g6_13 => ?_) (fun g6_13 => ?_)
        · try exact nope g6_13
          all_goals have g6_13p := g6_13
          all_goals try simp [F] at g6_13p
          all_goals
           replace F := And.intro g6_13 F
           try replace F := And.intro g6_13p F
           have hm : ¬ xl = yl := by have h := g6_13; simp at h; omega
           have h0 : D = false := hno (fun e => hm (hxy e.2.2.2.2).1)
           replace F := And.intro h0 F
           refine rp2 14 (k := ?_)
           refine rp2 15 (k := ?_)
           refine rp2 16 (k := ?_)
           refine rp2 17 (k := ?_)
           refine rp2 18 (k := ?_)
           refine rp2 19 (k := ?_)
           refine rp2 20 (k := ?_)
           refine rp2 21 (k := ?_)
           refine rp2 22 (k := ?_)
           refine rp2 23 (k := ?_)
           refine rp2 24 (k := ?_)
           refine rp2 25 (k := ?_)
           refine dop 26 rfl ?_
           repeat (first | simp [F] | simp (disch := omega) only [wC, if_pos, if_neg])
           refine rp2 27 (k := ?_)
           refine rp2 28 (k := ?_)
           refine dd ?_
           refine hJ15 _ _ ?_
           refine hK14 _ _ ?_
           refine ct ?_
           refine sq fun K16 hK16 => ?_
           refine rg' (h := fun J17 hJ17 => ?_)
           refine hJ17 _ _ ?_
           refine hK16 _ _ ?_
           refine run_ret ?_
           try simp only [Then, InBlock, NoGoto]
           refine answer_tmp rfl (.inr rfl) ?_
           exact gcr
        try exact nope g6_13
        all_goals have g6_13p := g6_13
        all_goals try simp [F] at g6_13p
        all_goals
         replace F := And.intro g6_13 F
         try replace F := And.intro g6_13p F
         have hm : xl = yl := by have h := g6_13; simp at h; omega
         refine rp2 14 (k := ?_)
         refine rp2 15 (k := ?_)
         refine rp2 16 (k := ?_)
         refine rp2 17 (k := ?_)
         refine rp2 18 (k := ?_)
         refine rp2 19 (k := ?_)
         refine rp2 20 (k := ?_)
         refine rp2 21 (k := ?_)
         refine rp2 22 (k := ?_)
         refine rp2 23 (k := ?_)
         refine rp2 24 (k := ?_)
         refine rp2 25 (k := ?_)
         refine dc 26 rfl (c := rsame_ok hx5.2 hy5.2) (k := ?_)
         rintro _ _ ⟨rfl, rfl⟩
         refine ⟨by first | exact fun _ _ h => h | (refine later_list [24, 23, 22, 21, 20, 18, 17, 16, 15, 14, 12, 11, 10, 9, 8, 7, 6, 5, 4, 3, 2, 1, 0] (by kernel_rfl) (List.forall_mem_cons.2 ⟨fun _ => fact2 rfl rfl ?_, List.forall_mem_cons.2 ⟨fun _ => fact2 rfl rfl ?_, List.forall_mem_cons.2 ⟨fun _ => fact2 rfl rfl ?_, List.forall_mem_cons.2 ⟨fun _ => fact2 rfl rfl ?_, List.forall_mem_cons.2 ⟨fun _ => fact2 rfl rfl ?_, List.forall_mem_cons.2 ⟨fun _ => fact2 rfl rfl ?_, List.forall_mem_cons.2 ⟨fun _ => fact2 rfl rfl ?_, List.forall_mem_cons.2 ⟨fun _ => fact2 rfl rfl ?_, List.forall_mem_cons.2 ⟨fun _ => fact2 rfl rfl ?_, List.forall_mem_cons.2 ⟨fun _ => fact2 rfl rfl ?_, List.forall_mem_cons.2 ⟨fun _ => fact2 rfl rfl ?_, List.forall_mem_cons.2 ⟨fun _ => fact2 rfl rfl ?_, List.forall_mem_cons.2 ⟨fun _ => fact2 rfl rfl ?_, List.forall_mem_cons.2 ⟨fun _ => fact2 rfl rfl ?_, List.forall_mem_cons.2 ⟨fun _ => fact2 rfl rfl ?_, List.forall_mem_cons.2 ⟨fun _ => fact2 rfl rfl ?_, List.forall_mem_cons.2 ⟨fun _ => fact2 rfl rfl ?_, List.forall_mem_cons.2 ⟨fun _ => fact2 rfl rfl ?_, List.forall_mem_cons.2 ⟨fun _ => fact2 rfl rfl ?_, List.forall_mem_cons.2 ⟨fun _ => fact2 rfl rfl ?_, List.forall_mem_cons.2 ⟨fun _ => fact2 rfl rfl ?_, List.forall_mem_cons.2 ⟨fun _ => fact2 rfl rfl ?_, List.forall_mem_cons.2 ⟨fun _ => fact2 rfl rfl ?_, fun _ h => absurd h List.not_mem_nil⟩⟩⟩⟩⟩⟩⟩⟩⟩⟩⟩⟩⟩⟩⟩⟩⟩⟩⟩⟩⟩⟩⟩) <;> constructor <;> first | rfl | (simp [F]; done)), ?_⟩
         repeat (first | simp [F] | simp (disch := omega) only [wC, if_pos, if_neg])
         refine rp2 27 (k := ?_)
         refine rp2 28 (k := ?_)
         refine dd ?_
         refine hJ15 _ _ ?_
         refine hK14 _ _ ?_
         refine cs (fun c77 => ?_) (fun c77 => ?_)
         · try exact nope c77
           all_goals have c77p := c77
           all_goals try simp [F] at c77p
           all_goals
            replace F := And.intro c77 F
            try replace F := And.intro c77p F
            have h0 : D = false := hno (fun e => by have h := c77; simp at h; exact h (hxy e.2.2.2.2).2)
            replace F := And.intro h0 F
            refine sq fun K18 hK18 => ?_
            refine rg' (h := fun J19 hJ19 => ?_)
            refine hJ19 _ _ ?_
            refine hK18 _ _ ?_
            refine run_ret ?_
            try simp only [Then, InBlock, NoGoto]
            refine answer_tmp rfl (.inr rfl) ?_
            exact gcr
         try exact nope c77
         all_goals have c77p := c77
         all_goals try simp [F] at c77p
         all_goals
          replace F := And.intro c77 F
          try replace F := And.intro c77p F
          have hc : xc = yc := by have h := c77; simp at h; exact h
          refine run_skip ?_
          refine hK13 _ _ ?_
          refine rg' (h := fun J20 hJ20 => ?_)
          refine hJ20 _ _ ?_
          refine ⟨(i + 1), ⟨kp, lp, ?_, lp, lp⟩, lp⟩
          · rw [htx, hty, hE, hm, hc]
     try exact nope c46
     all_goals have c46p := c46
     all_goals try simp [F] at c46p
     all_goals
      replace F := And.intro c46 F
      try replace F := And.intro c46p F
      have h0 : D = true := hyes e1 e2 e3 e4 (by rw [List.take_of_length_le (by have h := c46; simp at h; omega), List.take_of_length_le (by have h := c46; simp at h; omega)] at hE; exact hE)
      replace F := And.intro h0 F
      refine run_exit ?_
      refine hK7 _ _ ?_
      refine sq fun K21 hK21 => ?_
      refine rg' (h := fun J22 hJ22 => ?_)
      refine hJ22 _ _ ?_
      refine hK21 _ _ ?_
      refine run_ret ?_
      try simp only [Then, InBlock, NoGoto]
      refine answer_tmp rfl (.inr rfl) ?_
      exact gcr
  case cx4 =>
   intro K4 hK4
   refine rg' (h := fun J23 hJ23 => ?_)
   refine gs 11 (fun g1_5 => ?_) (fun g1_5 => ?_)
   · try exact nope g1_5
     all_goals have g1_5p := g1_5
     all_goals try simp [F] at g1_5p
     all_goals
      replace F := And.intro g1_5 F
      try replace F := And.intro g1_5p F
      have hl1 : ¬ ak = bk := by have h := g1_5; simp at h; intro e; subst e; exact h rfl
      replace F := And.intro hl1 F
      refine no2 (k := ?_)
      refine no2 (k := ?_)
      refine no2 (k := ?_)
      refine no2 (k := ?_)
      refine no2 (k := ?_)
      refine no2 (k := ?_)
      refine no2 (k := ?_)
      refine no2 (k := ?_)
      refine no2 (k := ?_)
      refine no2 (k := ?_)
      refine no2 (k := ?_)
      refine no2 (k := ?_)
      refine no2 (k := ?_)
      refine no2 (k := ?_)
      refine no2 (k := ?_)
      refine no2 (k := ?_)
      refine no2 (k := ?_)
      refine no2 (k := ?_)
      refine no2 (k := ?_)
      refine no2 (k := ?_)
      refine no2 (k := ?_)
      refine no2 (k := ?_)
      refine no2 (k := ?_)
      refine hJ23 _ _ ?_
      refine hK4 (()) _ _ ⟨kp, ?_, lp⟩
      · rw [hB]
        simp [F]
        try (rw [Bool.eq_iff_iff]; simp; omega)
   try exact nope g1_5
   all_goals have g1_5p := g1_5
   all_goals try simp [F] at g1_5p
   all_goals
    replace F := And.intro g1_5 F
    try replace F := And.intro g1_5p F
    have hl1 : ak = bk := by have h := g1_5; simp at h; exact UInt8.toNat_inj.1 (by omega)
    replace F := And.intro hl1 F
    refine go2 (k := ?_)
    refine go2 (k := ?_)
    refine go2 (k := ?_)
    refine go2 (k := ?_)
    refine go2 (k := ?_)
    refine gs 18 (fun g1_12 => ?_) (fun g1_12 => ?_)
    · try exact nope g1_12
      all_goals have g1_12p := g1_12
      all_goals try simp [F] at g1_12p
      all_goals
       replace F := And.intro g1_12 F
       try replace F := And.intro g1_12p F
       have hl2 : ¬ a1 = b1 := by have h := g1_12; simp at h; omega
       replace F := And.intro hl2 F
       refine no2 (k := ?_)
       refine no2 (k := ?_)
       refine no2 (k := ?_)
       refine no2 (k := ?_)
       refine no2 (k := ?_)
       refine no2 (k := ?_)
       refine no2 (k := ?_)
       refine no2 (k := ?_)
       refine no2 (k := ?_)
       refine no2 (k := ?_)
       refine no2 (k := ?_)
       refine no2 (k := ?_)
       refine no2 (k := ?_)
       refine no2 (k := ?_)
       refine no2 (k := ?_)
       refine no2 (k := ?_)
       refine no2 (k := ?_)
       refine no2 (k := ?_)
       refine hJ23 _ _ ?_
       refine hK4 (()) _ _ ⟨kp, ?_, lp⟩
       · rw [hB]
         simp [F]
         try (rw [Bool.eq_iff_iff]; simp; omega)
    try exact nope g1_12
    all_goals have g1_12p := g1_12
    all_goals try simp [F] at g1_12p
    all_goals
     replace F := And.intro g1_12 F
     try replace F := And.intro g1_12p F
     have hl2 : a1 = b1 := by have h := g1_12; simp at h; omega
     replace F := And.intro hl2 F
     refine go2 (k := ?_)
     refine go2 (k := ?_)
     refine go2 (k := ?_)
     refine go2 (k := ?_)
     refine go2 (k := ?_)
     refine gs 25 (fun g1_19 => ?_) (fun g1_19 => ?_)
     · try exact nope g1_19
       all_goals have g1_19p := g1_19
       all_goals try simp [F] at g1_19p
       all_goals
        replace F := And.intro g1_19 F
        try replace F := And.intro g1_19p F
        have hl3 : ¬ a2 = b2 := by have h := g1_19; simp at h; omega
        replace F := And.intro hl3 F
        refine no2 (k := ?_)
        refine no2 (k := ?_)
        refine no2 (k := ?_)
        refine no2 (k := ?_)
        refine no2 (k := ?_)
        refine no2 (k := ?_)
        refine no2 (k := ?_)
        refine no2 (k := ?_)
        refine no2 (k := ?_)
        refine no2 (k := ?_)
        refine no2 (k := ?_)
        refine no2 (k := ?_)
        refine no2 (k := ?_)
        refine hJ23 _ _ ?_
        refine hK4 (()) _ _ ⟨kp, ?_, lp⟩
        · rw [hB]
          simp [F]
          try (rw [Bool.eq_iff_iff]; simp; omega)
     try exact nope g1_19
     all_goals have g1_19p := g1_19
     all_goals try simp [F] at g1_19p
     all_goals
      replace F := And.intro g1_19 F
      try replace F := And.intro g1_19p F
      have hl3 : a2 = b2 := by have h := g1_19; simp at h; omega
      replace F := And.intro hl3 F
      refine go2 (k := ?_)
      refine go2 (k := ?_)
      refine go2 (k := ?_)
      refine go2 (k := ?_)
      refine ca (c := rsame_ok ha3 hb3) (k := ?_)
      rintro _ _ ⟨rfl, rfl⟩
      repeat (first | simp [F] | simp (disch := omega) only [wC, if_pos, if_neg])
      refine go2 (k := ?_)
      refine gs 33 (fun g1_27 => ?_) (fun g1_27 => ?_)
      · try exact nope g1_27
        all_goals have g1_27p := g1_27
        all_goals try simp [F] at g1_27p
        all_goals
         replace F := And.intro g1_27 F
         try replace F := And.intro g1_27p F
         refine no2 (k := ?_)
         refine no2 (k := ?_)
         refine no2 (k := ?_)
         refine no2 (k := ?_)
         refine no2 (k := ?_)
         refine no2 (k := ?_)
         refine no2 (k := ?_)
         refine hJ23 _ _ ?_
         refine hK4 (()) _ _ ⟨kp, ?_, lp⟩
         · rw [hB]
           simp [F]
           try (rw [Bool.eq_iff_iff]; simp; omega)
      try exact nope g1_27
      all_goals have g1_27p := g1_27
      all_goals try simp [F] at g1_27p
      all_goals
       replace F := And.intro g1_27 F
       try replace F := And.intro g1_27p F
       refine go2 (k := ?_)
       refine go2 (k := ?_)
       refine go2 (k := ?_)
       refine go2 (k := ?_)
       refine go2 (k := ?_)
       refine go2 (k := ?_)
       refine go2 (k := ?_)
       refine hJ23 _ _ ?_
       refine hK4 (()) _ _ ⟨kp, ?_, lp⟩
       · rw [hB]
         simp [F]
         try (rw [Bool.eq_iff_iff]; simp; omega)

end Go.Proofs.Ytdbaddholggkbaa

/-
  A plan without what is locked..
-/
namespace Go.Proofs.Ytdbaddholggkbaa
set_option linter.unnecessarySimpa false
set_option maxRecDepth 100000
open Go Go.Vm
set_option linter.unusedSimpArgs false
set_option linter.unusedVariables false

attribute [local simp] evalL wantedA isCall opA evalA evalAll evalsA evalOpt ofValue ofCell plain binA_eql_pn binA_neq_pn binA_gtr binA_lss binA_geq binA_leq binA_add binA_sub binA_eql binA_neq binA_orI binA_andI binA_shl binA_shr binA_mul binA_quo binA_rem binA_agg_eql binA_agg_neq convA_int unA_not fieldAddrA loadA partA pickA_true pickA_false pickA_bb lenA builtinA storeA splice AV.cells AV.isCell sliceA boundA intA callOf indexAddrA newObjA buildA fillA zeroA ofCells buildSliceA indexA fieldA numA_len4 numA_take4 numA_drop4 set_appN get_appN take_appN List.getElem?_cons_zero List.getElem?_cons_succ makeA zeros64

theorem cut_nil {k : UInt8} (h : k = 0) : WkL [.v (.int .u8 k.toNat), .v (.int .u64 0), .v (.int .u64 0), .sl 0 [] 0 .full, .sl 0 [] 0 .full] (plnC ⟨0, 0, 0, [], []⟩) := by
  subst h
  exact .cons (Wk.refl _) (.cons (Wk.refl _) (.cons (Wk.refl _) (.cons (Wk.nil _ _ _) (.cons (Wk.nil _ _ _) .nil))))

end Go.Proofs.Ytdbaddholggkbaa

/-
  The document's reader.
-/
namespace Go.Proofs.Ytdbaddholggkbaa
set_option linter.unnecessarySimpa false
set_option maxRecDepth 100000
open Go Go.Vm
set_option linter.unusedSimpArgs false
set_option linter.unusedVariables false

attribute [local simp] evalL wantedA isCall opA evalA evalAll evalsA evalOpt ofValue ofCell plain binA_eql_pn binA_neq_pn binA_gtr binA_lss binA_geq binA_leq binA_add binA_sub binA_eql binA_neq binA_or binA_shl binA_shr binA_mul binA_quo binA_rem convA_int unA_not fieldAddrA loadA partA pickA_true pickA_false pickA_bb lenA builtinA storeA splice AV.cells AV.isCell sliceA boundA intA callOf indexAddrA newObjA buildA fillA zeroA ofCells buildSliceA

def inC (p : List UInt8) (tl : Tail) (k : Nat) (bad : Bool) : List AV := [.sl 1 (bytesA p) p.length tl, .v (.int .i64 k), .v (.bool bad)]

theorem inByte_yes {σ : St} {id k : Nat} {p : List UInt8} {tl : Tail} (h : σ.objs[id]? = some (inC p tl k false)) (hp : p.length ≤ 1000000) (hk : k < p.length) :
    CallsA Try.prog 84 [.ptr id 0] σ (fun av σ' => av = .v (.int .u8 p[k].toNat) ∧ σ' = { σ with objs := σ.objs.set id (inC p tl (k + 1) false) }) := by
  have hs := set_self_of h
  have hki : ¬ (p.length : Int) ≤ k := by omega
  have hkl : ¬ p.length ≤ k := by omega
  have hw : IntKind.i64.wrap ((k : Int) + 1) = ((k + 1 : Nat) : Int) := wrap_i64 _ (by omega) (by omega)
  have hw2 : IntKind.i64.wrap (((k + 1 : Nat) : Int) - 1) = (k : Int) := by rw [wrap_i64 _ (by omega) (by omega)]; omega
  have hw3 : IntKind.i64.wrap (k : Int) = (k : Int) := wrap_i64 _ (by omega) (by omega)
  have hk2 : (k : Int) < p.length := by omega
  unfold inC at h hs
  refine callsA_body Try.func84 rfl rfl rfl ?_
  refine run_seq_k fun K1 hK1 => ?_
  refine run_region_k rfl fun J2 hJ2 => ?_
  try simp [h, hs, hki, hkl, hw, hw2, hw3, hk, hk2, inC]
  refine hJ2 _ _ ?_
  refine hK1 _ _ ?_
  refine run_seq_k fun K3 hK3 => ?_
  refine run_seq_k fun K4 hK4 => ?_
  refine run_draw (by kernel_rfl) fun J5 hJ5 => ?_
  refine runD_pure' 0 (by kernel_rfl) rfl rfl (by kernel_rfl) (by kernel_rfl) (by kernel_rfl) (by kernel_rfl) ?_
  try simp [h, hs, hki, hkl, hw, hw2, hw3, hk, hk2, inC]
  refine runD_pure' 1 (by kernel_rfl) rfl rfl (by kernel_rfl) (by kernel_rfl) (by kernel_rfl) (by kernel_rfl) ?_
  try simp [h, hs, hki, hkl, hw, hw2, hw3, hk, hk2, inC]
  refine runD_pure' 2 (by kernel_rfl) rfl rfl (by kernel_rfl) (by kernel_rfl) (by kernel_rfl) (by kernel_rfl) ?_
  try simp [h, hs, hki, hkl, hw, hw2, hw3, hk, hk2, inC]
  refine runD_pure' 3 (by kernel_rfl) rfl rfl (by kernel_rfl) (by kernel_rfl) (by kernel_rfl) (by kernel_rfl) ?_
  try simp [h, hs, hki, hkl, hw, hw2, hw3, hk, hk2, inC]
  refine runD_pure' 4 (by kernel_rfl) rfl rfl (by kernel_rfl) (by kernel_rfl) (by kernel_rfl) (by kernel_rfl) ?_
  try simp [h, hs, hki, hkl, hw, hw2, hw3, hk, hk2, inC]
  refine runD_pure' 5 (by kernel_rfl) rfl rfl (by kernel_rfl) (by kernel_rfl) (by kernel_rfl) (by kernel_rfl) ?_
  try simp [h, hs, hki, hkl, hw, hw2, hw3, hk, hk2, inC]
  refine runD_pure' 6 (by kernel_rfl) rfl rfl (by kernel_rfl) (by kernel_rfl) (by kernel_rfl) (by kernel_rfl) ?_
  try simp [h, hs, hki, hkl, hw, hw2, hw3, hk, hk2, inC]
  refine runD_pure' 7 (by kernel_rfl) rfl rfl (by kernel_rfl) (by kernel_rfl) (by kernel_rfl) (by kernel_rfl) ?_
  try simp [h, hs, hki, hkl, hw, hw2, hw3, hk, hk2, inC]
  refine runD_pure' 8 (by kernel_rfl) rfl rfl (by kernel_rfl) (by kernel_rfl) (by kernel_rfl) (by kernel_rfl) ?_
  try simp [h, hs, hki, hkl, hw, hw2, hw3, hk, hk2, inC]
  refine runD_pure' 9 (by kernel_rfl) rfl rfl (by kernel_rfl) (by kernel_rfl) (by kernel_rfl) (by kernel_rfl) ?_
  try simp [h, hs, hki, hkl, hw, hw2, hw3, hk, hk2, inC]
  refine runD_pure' 10 (by kernel_rfl) rfl rfl (by kernel_rfl) (by kernel_rfl) (by kernel_rfl) (by kernel_rfl) ?_
  try simp [h, hs, hki, hkl, hw, hw2, hw3, hk, hk2, inC]
  refine runD_pure' 11 (by kernel_rfl) rfl rfl (by kernel_rfl) (by kernel_rfl) (by kernel_rfl) (by kernel_rfl) ?_
  try simp [h, hs, hki, hkl, hw, hw2, hw3, hk, hk2, inC]
  refine runD_pure' 12 (by kernel_rfl) rfl rfl (by kernel_rfl) (by kernel_rfl) (by kernel_rfl) (by kernel_rfl) ?_
  try simp [h, hs, hki, hkl, hw, hw2, hw3, hk, hk2, inC]
  refine runD_pure' 13 (by kernel_rfl) rfl rfl (by kernel_rfl) (by kernel_rfl) (by kernel_rfl) (by kernel_rfl) ?_
  try simp [h, hs, hki, hkl, hw, hw2, hw3, hk, hk2, inC]
  refine runD_pure' 14 (by kernel_rfl) rfl rfl (by kernel_rfl) (by kernel_rfl) (by kernel_rfl) (by kernel_rfl) ?_
  try simp [h, hs, hki, hkl, hw, hw2, hw3, hk, hk2, inC]
  refine runD_pure' 15 (by kernel_rfl) rfl rfl (by kernel_rfl) (by kernel_rfl) (by kernel_rfl) (by kernel_rfl) ?_
  try simp [h, hs, hki, hkl, hw, hw2, hw3, hk, hk2, inC]
  refine runD_done (by kernel_rfl) (by kernel_rfl) (by kernel_rfl) ?_
  refine hJ5 _ _ ?_
  refine hK4 _ _ ?_
  refine run_cond_false (by first | rfl | (simp [h, hs, hki, hkl, hw, hw2, hw3, hk, hk2, inC, evalA]; done)) ?_
  refine run_skip ?_
  refine hK3 _ _ ?_
  refine run_seq_k fun K6 hK6 => ?_
  refine run_region_k rfl fun J7 hJ7 => ?_
  try simp [h, hs, hki, hkl, hw, hw2, hw3, hk, hk2, inC]
  refine hJ7 _ _ ?_
  refine hK6 _ _ ?_
  refine run_seq_k fun K8 hK8 => ?_
  refine run_draw (by kernel_rfl) fun J9 hJ9 => ?_
  refine runD_pure' 0 (by kernel_rfl) rfl rfl (by kernel_rfl) (by kernel_rfl) (by kernel_rfl) (by kernel_rfl) ?_
  try simp [h, hs, hki, hkl, hw, hw2, hw3, hk, hk2, inC]
  refine runD_pure' 1 (by kernel_rfl) rfl rfl (by kernel_rfl) (by kernel_rfl) (by kernel_rfl) (by kernel_rfl) ?_
  try simp [h, hs, hki, hkl, hw, hw2, hw3, hk, hk2, inC]
  refine runD_pure' 2 (by kernel_rfl) rfl rfl (by kernel_rfl) (by kernel_rfl) (by kernel_rfl) (by kernel_rfl) ?_
  try simp [h, hs, hki, hkl, hw, hw2, hw3, hk, hk2, inC]
  refine runD_pure' 3 (by kernel_rfl) rfl rfl (by kernel_rfl) (by kernel_rfl) (by kernel_rfl) (by kernel_rfl) ?_
  try simp [h, hs, hki, hkl, hw, hw2, hw3, hk, hk2, inC]
  refine runD_pure' 4 (by kernel_rfl) rfl rfl (by kernel_rfl) (by kernel_rfl) (by kernel_rfl) (by kernel_rfl) ?_
  try simp [h, hs, hki, hkl, hw, hw2, hw3, hk, hk2, inC]
  refine runD_pure' 5 (by kernel_rfl) rfl rfl (by kernel_rfl) (by kernel_rfl) (by kernel_rfl) (by kernel_rfl) ?_
  try simp [h, hs, hki, hkl, hw, hw2, hw3, hk, hk2, inC]
  refine runD_pure' 6 (by kernel_rfl) rfl rfl (by kernel_rfl) (by kernel_rfl) (by kernel_rfl) (by kernel_rfl) ?_
  try simp [h, hs, hki, hkl, hw, hw2, hw3, hk, hk2, inC]
  refine runD_pure' 7 (by kernel_rfl) rfl rfl (by kernel_rfl) (by kernel_rfl) (by kernel_rfl) (by kernel_rfl) ?_
  try simp [h, hs, hki, hkl, hw, hw2, hw3, hk, hk2, inC]
  refine runD_pure' 8 (by kernel_rfl) rfl rfl (by kernel_rfl) (by kernel_rfl) (by kernel_rfl) (by kernel_rfl) ?_
  try simp [h, hs, hki, hkl, hw, hw2, hw3, hk, hk2, inC]
  refine runD_pure' 9 (by kernel_rfl) rfl rfl (by kernel_rfl) (by kernel_rfl) (by kernel_rfl) (by kernel_rfl) ?_
  try simp [h, hs, hki, hkl, hw, hw2, hw3, hk, hk2, inC]
  refine runD_pure' 10 (by kernel_rfl) rfl rfl (by kernel_rfl) (by kernel_rfl) (by kernel_rfl) (by kernel_rfl) ?_
  try simp [h, hs, hki, hkl, hw, hw2, hw3, hk, hk2, inC]
  refine runD_pure' 11 (by kernel_rfl) rfl rfl (by kernel_rfl) (by kernel_rfl) (by kernel_rfl) (by kernel_rfl) ?_
  try simp [h, hs, hki, hkl, hw, hw2, hw3, hk, hk2, inC]
  refine runD_done (by kernel_rfl) (by kernel_rfl) (by kernel_rfl) ?_
  refine hJ9 _ _ ?_
  refine hK8 _ _ ?_
  refine run_ret ?_
  try simp only [Then, InBlock, NoGoto]
  refine answer_tmp rfl (.inr rfl) ?_
  simp [h, hs, hki, hkl, hw, hw2, hw3, hk, hk2, inC]

theorem inByte_end {σ : St} {id k : Nat} {p : List UInt8} {tl : Tail} (h : σ.objs[id]? = some (inC p tl k false)) (hk : p.length ≤ k) :
    CallsA Try.prog 84 [.ptr id 0] σ (fun av σ' => av = .v (.int .u8 0) ∧ σ' = { σ with objs := σ.objs.set id (inC p tl k true) }) := by
  have hs := set_self_of h
  have hki : (p.length : Int) ≤ k := by omega
  unfold inC at h hs
  refine callsA_body Try.func84 rfl rfl rfl ?_
  refine run_seq_k fun K1 hK1 => ?_
  refine run_region_k rfl fun J2 hJ2 => ?_
  try simp [h, hs, hki, hk, inC]
  refine hJ2 _ _ ?_
  refine hK1 _ _ ?_
  refine run_seq_k fun K3 hK3 => ?_
  refine run_seq_k fun K4 hK4 => ?_
  refine run_draw (by kernel_rfl) fun J5 hJ5 => ?_
  refine runD_pure' 0 (by kernel_rfl) rfl rfl (by kernel_rfl) (by kernel_rfl) (by kernel_rfl) (by kernel_rfl) ?_
  try simp [h, hs, hki, hk, inC]
  refine runD_pure' 1 (by kernel_rfl) rfl rfl (by kernel_rfl) (by kernel_rfl) (by kernel_rfl) (by kernel_rfl) ?_
  try simp [h, hs, hki, hk, inC]
  refine runD_pure' 2 (by kernel_rfl) rfl rfl (by kernel_rfl) (by kernel_rfl) (by kernel_rfl) (by kernel_rfl) ?_
  try simp [h, hs, hki, hk, inC]
  refine runD_pure' 3 (by kernel_rfl) rfl rfl (by kernel_rfl) (by kernel_rfl) (by kernel_rfl) (by kernel_rfl) ?_
  try simp [h, hs, hki, hk, inC]
  refine runD_pure' 4 (by kernel_rfl) rfl rfl (by kernel_rfl) (by kernel_rfl) (by kernel_rfl) (by kernel_rfl) ?_
  try simp [h, hs, hki, hk, inC]
  refine runD_pure' 5 (by kernel_rfl) rfl rfl (by kernel_rfl) (by kernel_rfl) (by kernel_rfl) (by kernel_rfl) ?_
  try simp [h, hs, hki, hk, inC]
  refine runD_pure' 6 (by kernel_rfl) rfl rfl (by kernel_rfl) (by kernel_rfl) (by kernel_rfl) (by kernel_rfl) ?_
  try simp [h, hs, hki, hk, inC]
  refine runD_pure' 7 (by kernel_rfl) rfl rfl (by kernel_rfl) (by kernel_rfl) (by kernel_rfl) (by kernel_rfl) ?_
  try simp [h, hs, hki, hk, inC]
  refine runD_pure' 8 (by kernel_rfl) rfl rfl (by kernel_rfl) (by kernel_rfl) (by kernel_rfl) (by kernel_rfl) ?_
  try simp [h, hs, hki, hk, inC]
  refine runD_pure' 9 (by kernel_rfl) rfl rfl (by kernel_rfl) (by kernel_rfl) (by kernel_rfl) (by kernel_rfl) ?_
  try simp [h, hs, hki, hk, inC]
  refine runD_pure' 10 (by kernel_rfl) rfl rfl (by kernel_rfl) (by kernel_rfl) (by kernel_rfl) (by kernel_rfl) ?_
  try simp [h, hs, hki, hk, inC]
  refine runD_pure' 11 (by kernel_rfl) rfl rfl (by kernel_rfl) (by kernel_rfl) (by kernel_rfl) (by kernel_rfl) ?_
  try simp [h, hs, hki, hk, inC]
  refine runD_pure' 12 (by kernel_rfl) rfl rfl (by kernel_rfl) (by kernel_rfl) (by kernel_rfl) (by kernel_rfl) ?_
  try simp [h, hs, hki, hk, inC]
  refine runD_pure' 13 (by kernel_rfl) rfl rfl (by kernel_rfl) (by kernel_rfl) (by kernel_rfl) (by kernel_rfl) ?_
  try simp [h, hs, hki, hk, inC]
  refine runD_pure' 14 (by kernel_rfl) rfl rfl (by kernel_rfl) (by kernel_rfl) (by kernel_rfl) (by kernel_rfl) ?_
  try simp [h, hs, hki, hk, inC]
  refine runD_pure' 15 (by kernel_rfl) rfl rfl (by kernel_rfl) (by kernel_rfl) (by kernel_rfl) (by kernel_rfl) ?_
  try simp [h, hs, hki, hk, inC]
  refine runD_done (by kernel_rfl) (by kernel_rfl) (by kernel_rfl) ?_
  refine hJ5 _ _ ?_
  refine hK4 _ _ ?_
  refine run_cond_true (by first | rfl | (simp [h, hs, hki, hk, inC, evalA]; done)) ?_
  refine run_seq_k fun K6 hK6 => ?_
  refine run_region_k rfl fun J7 hJ7 => ?_
  try simp [h, hs, hki, hk, inC]
  refine hJ7 _ _ ?_
  refine hK6 _ _ ?_
  refine run_seq_k fun K8 hK8 => ?_
  refine run_region_k rfl fun J9 hJ9 => ?_
  try simp [h, hs, hki, hk, inC]
  refine hJ9 _ _ ?_
  refine hK8 _ _ ?_
  refine run_ret ?_
  try simp only [Then, InBlock, NoGoto]
  refine answer_tmp rfl (.inr rfl) ?_
  simp [h, hs, hki, hk, inC]

/-- Where a reader of the document stands, told by what is left. -/
def At (p : List UInt8) (k : Nat) (s : Option (List UInt8)) : Prop := k ≤ p.length ∧ (s = none ∨ s = some (p.drop k))

theorem inByte_ok {σ : St} {id k : Nat} {p : List UInt8} {tl : Tail} {s : Option (List UInt8)} (h : σ.objs[id]? = some (inC p tl k s.isNone)) (hp : p.length ≤ 1000000) (hs : At p k s) :
    CallsA Try.prog 84 [.ptr id 0] σ (fun av σ' => av = .v (.int .u8 (be (takeB 1 s) : Nat)) ∧ ∃ k', At p k' (takeS 1 s) ∧ σ' = { σ with objs := σ.objs.set id (inC p tl k' (takeS 1 s).isNone) }) := by
  obtain ⟨hk, rfl | rfl⟩ := hs
  · refine callsA_mono (inByte_bad (x := .sl 1 (bytesA p) p.length tl) (y := .v (.int .i64 k)) h) (fun av σ' ⟨h1, h2⟩ => ⟨h1, k, ⟨hk, .inl rfl⟩, ?_⟩)
    rw [← h2]
    exact (St.set_same h).symm
  · by_cases hlt : k < p.length
    · have hl1 : 1 ≤ (p.drop k).length := by simp; omega
      have e1 : takeB 1 (some (p.drop k)) = [p[k]] := by
        show (if 1 ≤ (p.drop k).length then (p.drop k).take 1 else []) = _
        rw [if_pos hl1, List.drop_eq_getElem_cons hlt]; rfl
      have e2 : takeS 1 (some (p.drop k)) = some (p.drop (k + 1)) := by
        show (if 1 ≤ (p.drop k).length then some ((p.drop k).drop 1) else none) = _
        rw [if_pos hl1, List.drop_drop]
      refine callsA_mono (inByte_yes h hp hlt) (fun av σ' ⟨h1, h2⟩ => ⟨?_, k + 1, ⟨by omega, .inr e2⟩, ?_⟩)
      · rw [h1, e1]; simp [be]
      · rw [h2, e2]; rfl
    · have e0 : p.drop k = [] := List.drop_of_length_le (by omega)
      refine callsA_mono (inByte_end h (by omega)) (fun av σ' ⟨h1, h2⟩ => ⟨?_, k, ⟨hk, .inl ?_⟩, ?_⟩)
      · rw [h1, e0]; rfl
      · rw [e0]; rfl
      · rw [h2, e0]; rfl

theorem inLeft_some {σ : St} {id k : Nat} {p : List UInt8} {tl : Tail} (h : σ.objs[id]? = some (inC p tl k false)) (hp : p.length ≤ 1000000) (hk : k ≤ p.length) :
    CallsA Try.prog 38 [.ptr id 0] σ (fun av σ' => av = .v (.int .i64 (p.length - k : Nat)) ∧ σ = σ') := by
  have hw : IntKind.i64.wrap ((p.length : Int) - k) = ((p.length - k : Nat) : Int) := by rw [wrap_i64 _ (by omega) (by omega)]; omega
  unfold inC at h
  refine callsA_body Try.func38 rfl rfl rfl ?_
  refine run_seq_k fun K1 hK1 => ?_
  refine run_region_k rfl fun J2 hJ2 => ?_
  try simp [h, hw]
  refine hJ2 _ _ ?_
  refine hK1 _ _ ?_
  refine run_seq_k fun K3 hK3 => ?_
  refine run_seq_k fun K4 hK4 => ?_
  refine run_region_k rfl fun J5 hJ5 => ?_
  try simp [h, hw]
  refine hJ5 _ _ ?_
  refine hK4 _ _ ?_
  refine run_cond_false (by first | rfl | (simp [h, hw, evalA]; done)) ?_
  refine run_skip ?_
  refine hK3 _ _ ?_
  refine run_seq_k fun K6 hK6 => ?_
  refine run_draw (by kernel_rfl) fun J7 hJ7 => ?_
  refine runD_pure' 0 (by kernel_rfl) rfl rfl (by kernel_rfl) (by kernel_rfl) (by kernel_rfl) (by kernel_rfl) ?_
  try simp [h, hw]
  refine runD_pure' 1 (by kernel_rfl) rfl rfl (by kernel_rfl) (by kernel_rfl) (by kernel_rfl) (by kernel_rfl) ?_
  try simp [h, hw]
  refine runD_pure' 2 (by kernel_rfl) rfl rfl (by kernel_rfl) (by kernel_rfl) (by kernel_rfl) (by kernel_rfl) ?_
  try simp [h, hw]
  refine runD_pure' 3 (by kernel_rfl) rfl rfl (by kernel_rfl) (by kernel_rfl) (by kernel_rfl) (by kernel_rfl) ?_
  try simp [h, hw]
  refine runD_pure' 4 (by kernel_rfl) rfl rfl (by kernel_rfl) (by kernel_rfl) (by kernel_rfl) (by kernel_rfl) ?_
  try simp [h, hw]
  refine runD_pure' 5 (by kernel_rfl) rfl rfl (by kernel_rfl) (by kernel_rfl) (by kernel_rfl) (by kernel_rfl) ?_
  try simp [h, hw]
  refine runD_pure' 6 (by kernel_rfl) rfl rfl (by kernel_rfl) (by kernel_rfl) (by kernel_rfl) (by kernel_rfl) ?_
  try simp [h, hw]
  refine runD_pure' 7 (by kernel_rfl) rfl rfl (by kernel_rfl) (by kernel_rfl) (by kernel_rfl) (by kernel_rfl) ?_
  try simp [h, hw]
  refine runD_pure' 8 (by kernel_rfl) rfl rfl (by kernel_rfl) (by kernel_rfl) (by kernel_rfl) (by kernel_rfl) ?_
  try simp [h, hw]
  refine runD_pure' 9 (by kernel_rfl) rfl rfl (by kernel_rfl) (by kernel_rfl) (by kernel_rfl) (by kernel_rfl) ?_
  try simp [h, hw]
  refine runD_pure' 10 (by kernel_rfl) rfl rfl (by kernel_rfl) (by kernel_rfl) (by kernel_rfl) (by kernel_rfl) ?_
  try simp [h, hw]
  refine runD_done (by kernel_rfl) (by kernel_rfl) (by kernel_rfl) ?_
  refine hJ7 _ _ ?_
  refine hK6 _ _ ?_
  refine run_ret ?_
  try simp only [Then, InBlock, NoGoto]
  refine answer_tmp rfl (.inr rfl) ?_
  simp [h, hw]

theorem inLeft_ok {σ : St} {id k : Nat} {p : List UInt8} {tl : Tail} {s : Option (List UInt8)} (h : σ.objs[id]? = some (inC p tl k s.isNone)) (hp : p.length ≤ 1000000) (hs : At p k s) :
    CallsA Try.prog 38 [.ptr id 0] σ (fun av σ' => av = .v (.int .i64 (leftN s : Nat)) ∧ σ = σ') := by
  obtain ⟨hk, rfl | rfl⟩ := hs
  · exact inLeft_bad (x := .sl 1 (bytesA p) p.length tl) (y := .v (.int .i64 k)) h
  · have e : leftN (some (p.drop k)) = p.length - k := by simp [leftN]
    rw [e]; exact inLeft_some h hp hk

theorem takeS_none_be {s : Option (List UInt8)} (h : takeS 1 s = none) : be (takeB 1 s) = 0 := by
  cases s with
  | none => rfl
  | some p =>
    cases p with
    | nil => rfl
    | cons b l => simp [takeS] at h

end Go.Proofs.Ytdbaddholggkbaa

/-
  The document's reader: truths, long numbers.
-/
namespace Go.Proofs.Ytdbaddholggkbaa
set_option linter.unnecessarySimpa false
open Go Go.Vm
set_option linter.unusedSimpArgs false
set_option linter.unusedVariables false
set_option maxRecDepth 100000

attribute [local simp] evalL wantedA isCall opA evalA evalAll evalsA evalOpt ofValue ofCell plain binA_eql_pn binA_neq_pn binA_gtr binA_lss binA_geq binA_leq binA_add binA_sub binA_eql binA_neq binA_or binA_shl binA_shr binA_mul binA_quo binA_rem binA_agg_eql binA_agg_neq convA_int unA_not fieldAddrA loadA partA pickA_true pickA_false pickA_bb lenA builtinA storeA splice AV.cells AV.isCell sliceA boundA intA callOf indexAddrA newObjA buildA fillA zeroA ofCells buildSliceA indexA fieldA coinsC_at coinC inC

set_option maxHeartbeats 1600000 in
attribute [local simp] undefA List.getElem?_cons_zero List.getElem?_cons_succ in
theorem inFlag_ok {σ : St} {id k : Nat} {p : List UInt8} {tl : Tail} {s : Option (List UInt8)} (h : σ.objs[id]? = some (inC p tl k s.isNone)) (hp : p.length ≤ 1000000) (hk : At p k s) :
    CallsA Try.prog 112 [.ptr id 0] σ (fun av σ' => av = .v (.bool (be (takeB 1 s) == 1)) ∧ ∃ k', At p k' (flagS s) ∧ σ' = { σ with objs := σ.objs.set id (inC p tl k' (flagS s).isNone) }) := by
  have hs := set_self_of h
  have F := And.intro hs (True.intro)
  refine callsA_body Try.func112 rfl rfl rfl ?_
  refine sq fun K1 hK1 => ?_
  refine rg' (h := fun J2 hJ2 => ?_)
  refine hJ2 _ _ ?_
  refine hK1 _ _ ?_
  refine sq fun K3 hK3 => ?_
  refine rg' (h := fun J4 hJ4 => ?_)
  refine ca (c := inByte_ok (st) (st) (st)) (k := ?_)
  rintro _ _ ⟨rfl, k1, hk1, rfl⟩
  repeat (first | simp [F] | simp (disch := omega) only [wC, if_pos, if_neg])
  refine hJ4 _ _ ?_
  refine hK3 _ _ ?_
  refine sq fun K5 hK5 => ?_
  refine rg' (h := fun J6 hJ6 => ?_)
  refine gs 11 (fun g2_5 => ?_) (fun g2_5 => ?_)
  · try exact nope g2_5
    all_goals have g2_5p := g2_5
    all_goals try simp [F] at g2_5p
    all_goals
     replace F := And.intro g2_5 F
     try replace F := And.intro g2_5p F
     refine no2 (k := ?_)
     refine no2 (k := ?_)
     refine hJ6 _ _ ?_
     refine hK5 _ _ ?_
     refine sq fun K7 hK7 => ?_
     refine rg' (h := fun J8 hJ8 => ?_)
     refine gs 22 (fun g3_5 => ?_) (fun g3_5 => ?_)
     · try exact nope g3_5
       all_goals have g3_5p := g3_5
       all_goals try simp [F] at g3_5p
       all_goals
        replace F := And.intro g3_5 F
        try replace F := And.intro g3_5p F
        refine go2 (k := ?_)
        refine go2 (k := ?_)
        refine hJ8 _ _ ?_
        refine hK7 _ _ ?_
        refine run_ret ?_
        try simp only [Then, InBlock, NoGoto]
        refine answer_tmp rfl (.inr rfl) ?_
        exact rt
     try exact nope g3_5
     all_goals have g3_5p := g3_5
     all_goals try simp [F] at g3_5p
     all_goals
      replace F := And.intro g3_5 F
      try replace F := And.intro g3_5p F
      refine no2 (k := ?_)
      refine no2 (k := ?_)
      refine hJ8 _ _ ?_
      refine hK7 _ _ ?_
      refine run_ret ?_
      try simp only [Then, InBlock, NoGoto]
      refine answer_tmp rfl (.inr rfl) ?_
      have hb0 := takeS_none_be g2_5p
      have hf : flagS s = none := (by simp [flagS, hb0, g2_5p])
      refine ⟨by simp [hb0], k1, ⟨hk1.1, .inl hf⟩, by simp [hf, g2_5p]⟩
  try exact nope g2_5
  all_goals have g2_5p := g2_5
  all_goals try simp [F] at g2_5p
  all_goals
   replace F := And.intro g2_5 F
   try replace F := And.intro g2_5p F
   refine go2 (k := ?_)
   refine go2 (k := ?_)
   refine hJ6 _ _ ?_
   refine hK5 _ _ ?_
   refine sq fun K9 hK9 => ?_
   refine rg' (h := fun J10 hJ10 => ?_)
   refine gs 22 (fun g3_5 => ?_) (fun g3_5 => ?_)
   · try exact nope g3_5
     all_goals have g3_5p := g3_5
     all_goals try simp [F] at g3_5p
     all_goals
      replace F := And.intro g3_5 F
      try replace F := And.intro g3_5p F
      refine go2 (k := ?_)
      refine go2 (k := ?_)
      refine hJ10 _ _ ?_
      refine hK9 _ _ ?_
      refine run_ret ?_
      try simp only [Then, InBlock, NoGoto]
      refine answer_tmp rfl (.inr rfl) ?_
      have hf : flagS s = takeS 1 s := if_neg (by omega)
      rw [hf]
      have hd : decide ((1 : Int) < (be (takeB 1 s) : Nat)) = false := (by simp; omega)
      refine ⟨?_, k1, hk1, by simp [hd, F]⟩
      simp
      rw [Bool.eq_iff_iff]
      simp
      omega
   try exact nope g3_5
   all_goals have g3_5p := g3_5
   all_goals try simp [F] at g3_5p
   all_goals
    replace F := And.intro g3_5 F
    try replace F := And.intro g3_5p F
    refine no2 (k := ?_)
    refine no2 (k := ?_)
    refine hJ10 _ _ ?_
    refine hK9 _ _ ?_
    refine run_ret ?_
    try simp only [Then, InBlock, NoGoto]
    refine answer_tmp rfl (.inr rfl) ?_
    have hf : flagS s = none := if_pos (by omega)
    refine ⟨?_, k1, ⟨hk1.1, .inl hf⟩, by simp [hf, F]⟩
    simp
    omega

theorem takeB_succ {p : List UInt8} {k i : Nat} (h : k + i < p.length) : be (takeB (i + 1) (some (p.drop k))) = be (takeB i (some (p.drop k))) * 256 + p[k + i].toNat := by
  have h1 : i + 1 ≤ (p.drop k).length := by simp; omega
  have h2 : i ≤ (p.drop k).length := by omega
  simp only [takeB, h1, h2, if_true]
  have h4 : i < (p.drop k).length := by omega
  rw [take_snoc h4, be_snoc, List.getElem_drop]

theorem takeS_some {p : List UInt8} {k n : Nat} (h : k + n ≤ p.length) : takeS n (some (p.drop k)) = some (p.drop (k + n)) := by
  have h1 : n ≤ (p.drop k).length := by simp; omega
  show (if n ≤ (p.drop k).length then some ((p.drop k).drop n) else none) = _
  rw [if_pos h1, List.drop_drop]
theorem takeS_no {p : List UInt8} {k n : Nat} (hk : k ≤ p.length) (h : p.length < k + n) : takeS n (some (p.drop k)) = none := by
  show (if n ≤ (p.drop k).length then some ((p.drop k).drop n) else none) = _
  rw [if_neg (by simp; omega)]
theorem takeB_no {p : List UInt8} {k n : Nat} (hk : k ≤ p.length) (h : p.length < k + n) : takeB n (some (p.drop k)) = [] := by
  show (if n ≤ (p.drop k).length then (p.drop k).take n else []) = _
  rw [if_neg (by simp; omega)]

set_option maxHeartbeats 1600000 in
attribute [local simp] undefA List.getElem?_cons_zero List.getElem?_cons_succ in
theorem inLong_some {σ : St} {id k n : Nat} {p : List UInt8} {tl : Tail} (h : σ.objs[id]? = some (inC p tl k false)) (hp : p.length ≤ 1000000) (hk : k ≤ p.length) (hn : n ≤ 8) :
    CallsA Try.prog 85 [.ptr id 0, .v (.int .i64 n)] σ (fun av σ' => av = .v (.int .u64 (be (takeB n (some (p.drop k))) : Nat)) ∧ ∃ k', At p k' (takeS n (some (p.drop k))) ∧ σ' = { σ with objs := σ.objs.set id (inC p tl k' (takeS n (some (p.drop k))).isNone) }) := by
  have hs := set_self_of h
  have hs0 := St.set_same h
  have F := And.intro h (And.intro hs (True.intro))
  refine callsA_body Try.func85 rfl rfl rfl ?_
  refine sq fun K1 hK1 => ?_
  refine rg' (h := fun J2 hJ2 => ?_)
  refine hJ2 _ _ ?_
  refine hK1 _ _ ?_
  refine sq fun K3 hK3 => ?_
  refine sq fun K4 hK4 => ?_
  refine run_draw (by kernel_rfl) fun J5 hJ5 => ?_
  refine rp2 0 (k := ?_)
  refine rp2 1 (k := ?_)
  refine rp2 2 (k := ?_)
  refine rp2 3 (k := ?_)
  refine rp2 4 (k := ?_)
  refine gd 11 (fun g1_4 => ?_) (fun g1_4 => ?_)
  · try exact nope g1_4
    all_goals have g1_4p := g1_4
    all_goals try simp [F] at g1_4p
    all_goals
     replace F := And.intro g1_4 F
     try replace F := And.intro g1_4p F
     refine rp2 5 (k := ?_)
     refine rp2 6 (k := ?_)
     refine rp2 7 (k := ?_)
     refine rp2 8 (k := ?_)
     refine rp2 9 (k := ?_)
     refine rp2 10 (k := ?_)
     refine rp2 11 (k := ?_)
     refine rp2 12 (k := ?_)
     refine rp2 13 (k := ?_)
     refine rp2 14 (k := ?_)
     refine rp2 15 (k := ?_)
     refine rp2 16 (k := ?_)
     refine rp2 17 (k := ?_)
     refine dd ?_
     refine hJ5 _ _ ?_
     refine hK4 _ _ ?_
     refine ct ?_
     refine sq fun K6 hK6 => ?_
     refine rg' (h := fun J7 hJ7 => ?_)
     refine hJ7 _ _ ?_
     refine hK6 _ _ ?_
     refine sq fun K8 hK8 => ?_
     refine rg' (h := fun J9 hJ9 => ?_)
     refine hJ9 _ _ ?_
     refine hK8 _ _ ?_
     refine run_ret ?_
     try simp only [Then, InBlock, NoGoto]
     refine answer_tmp rfl (.inr rfl) ?_
     exact rt
  try exact nope g1_4
  all_goals have g1_4p := g1_4
  all_goals try simp [F] at g1_4p
  all_goals
   replace F := And.intro g1_4 F
   try replace F := And.intro g1_4p F
   refine rp2 5 (k := ?_)
   refine rp2 6 (k := ?_)
   refine rp2 7 (k := ?_)
   refine rp2 8 (k := ?_)
   refine rp2 9 (k := ?_)
   refine rp2 10 (k := ?_)
   refine rp2 11 (k := ?_)
   refine rp2 12 (k := ?_)
   refine rp2 13 (k := ?_)
   refine rp2 14 (k := ?_)
   refine rp2 15 (k := ?_)
   refine rp2 16 (k := ?_)
   refine rp2 17 (k := ?_)
   refine dd ?_
   refine hJ5 _ _ ?_
   refine hK4 _ _ ?_
   refine cs (fun c24 => ?_) (fun c24 => ?_)
   · try exact nope c24
     all_goals have c24p := c24
     all_goals try simp [F] at c24p
     all_goals
      replace F := And.intro c24 F
      try replace F := And.intro c24p F
      refine sq fun K10 hK10 => ?_
      refine rg' (h := fun J11 hJ11 => ?_)
      refine hJ11 _ _ ?_
      refine hK10 _ _ ?_
      refine sq fun K12 hK12 => ?_
      refine rg' (h := fun J13 hJ13 => ?_)
      refine hJ13 _ _ ?_
      refine hK12 _ _ ?_
      refine run_ret ?_
      try simp only [Then, InBlock, NoGoto]
      refine answer_tmp rfl (.inr rfl) ?_
      have h1 := takeS_no hk (show p.length < k + n by omega)
      have h2 := takeB_no hk (show p.length < k + n by omega)
      rw [h1, h2]
      exact ⟨by simp, k, ⟨hk, .inl rfl⟩, by simp [F]⟩
   try exact nope c24
   all_goals have c24p := c24
   all_goals try simp [F] at c24p
   all_goals
    replace F := And.intro c24 F
    try replace F := And.intro c24p F
    refine run_skip ?_
    refine hK3 _ _ ?_
    refine sq fun K14 hK14 => ?_
    refine rg' (h := fun J15 hJ15 => ?_)
    refine hJ15 _ _ ?_
    refine hK14 _ _ ?_
    refine sq fun K16 hK16 => ?_
    refine sq fun K17 hK17 => ?_
    refine rg' (h := fun J18 hJ18 => ?_)
    refine hJ18 _ _ ?_
    refine hK17 _ _ ?_
    refine run_block_k ?_
    refine run_loopF (X := Nat) [0, 1, 4] (fun i ρ σ1 => (i ≤ n) ∧ (ρ 5 = .v (.int .u64 (be (takeB i (some (p.drop k))) : Nat))) ∧ (ρ 6 = .v (.int .i64 i)) ∧ (σ1 = { σ with objs := σ.objs.set id (inC p tl (k + i) false) })) (fun i => n - i) (0) ?st1 ?rd1
    case st1 =>
     refine ⟨lp, ?_, lp, ?_⟩
     · simp [takeB]
     · exact hs0.symm
    case rd1 =>
     rintro i ρ1 σ1 hF1 ⟨hi, h5, h6, hσ⟩
     obtain rfl := hσ.symm
     have f1 := keepL hF1
     try simp [KeepL, F] at f1
     replace F := And.intro h5 F
     replace F := And.intro h6 F
     try replace F := And.intro f1 F
     refine sq fun K19 hK19 => ?_
     refine sq fun K20 hK20 => ?_
     refine rg' (h := fun J21 hJ21 => ?_)
     refine hJ21 _ _ ?_
     refine hK20 _ _ ?_
     refine cs (fun c30 => ?_) (fun c30 => ?_)
     · try exact nope c30
       all_goals have c30p := c30
       all_goals try simp [F] at c30p
       all_goals
        replace F := And.intro c30 F
        try replace F := And.intro c30p F
        refine run_skip ?_
        refine hK19 _ _ ?_
        refine sq fun K22 hK22 => ?_
        refine run_block_k ?_
        refine rg' (h := fun J23 hJ23 => ?_)
        refine ca (c := inByte_yes (k := k + i) (p := p) (tl := tl) (st) hp (by omega)) (k := ?_)
        rintro _ _ ⟨rfl, rfl⟩
        repeat (first | simp [F] | simp (disch := omega) only [wC, if_pos, if_neg])
        refine hJ23 _ _ ?_
        refine hK22 _ _ ?_
        refine rg' (h := fun J24 hJ24 => ?_)
        refine hJ24 _ _ ?_
        have hlt : k + i < p.length := by omega
        have hb := be_lt7 (takeB i (some (p.drop k))) (by have := takeB_len i (some (p.drop k)); omega)
        have he := takeB_succ hlt
        have hbb := p[k + i].toNat_lt
        generalize be (takeB i (some (p.drop k))) = y at *
        refine ⟨(i + 1), ⟨kp, lp, ?_, lp, ?_⟩, lp⟩
        · simp [he]
          simp (disch := omega) only [wC, if_pos, if_neg]
          omega
        · simp [Int.add_assoc]
     try exact nope c30
     all_goals have c30p := c30
     all_goals try simp [F] at c30p
     all_goals
      replace F := And.intro c30 F
      try replace F := And.intro c30p F
      refine run_exit ?_
      refine hK16 _ _ ?_
      refine sq fun K25 hK25 => ?_
      refine rg' (h := fun J26 hJ26 => ?_)
      refine hJ26 _ _ ?_
      refine hK25 _ _ ?_
      refine run_ret ?_
      try simp only [Then, InBlock, NoGoto]
      refine answer_tmp rfl (.inr rfl) ?_
      have h1 := takeS_some (show k + n ≤ p.length by omega)
      rw [h1]
      obtain rfl : i = n := by omega
      exact ⟨by simp, k + i, ⟨by omega, .inr rfl⟩, by simp [F]⟩

theorem inLong_ok {σ : St} {id k n : Nat} {p : List UInt8} {tl : Tail} {s : Option (List UInt8)} (h : σ.objs[id]? = some (inC p tl k s.isNone)) (hp : p.length ≤ 1000000) (hk : At p k s) (hn : n ≤ 8) :
    CallsA Try.prog 85 [.ptr id 0, .v (.int .i64 n)] σ (fun av σ' => av = .v (.int .u64 (be (takeB n s) : Nat)) ∧ ∃ k', At p k' (takeS n s) ∧ σ' = { σ with objs := σ.objs.set id (inC p tl k' (takeS n s).isNone) }) := by
  obtain ⟨hk, rfl | rfl⟩ := hk
  · refine callsA_mono (inLong_bad (x := .sl 1 (bytesA p) p.length tl) (y := .v (.int .i64 k)) h) (fun av σ' ⟨h1, h2⟩ => ⟨h1, k, ⟨hk, .inl rfl⟩, ?_⟩)
    rw [← h2]
    exact (St.set_same h).symm
  · exact inLong_some h hp hk hn

end Go.Proofs.Ytdbaddholggkbaa

/-
  The document's reader: numbers.
-/
namespace Go.Proofs.Ytdbaddholggkbaa
set_option linter.unnecessarySimpa false
open Go Go.Vm
set_option linter.unusedSimpArgs false
set_option linter.unusedVariables false
set_option maxRecDepth 100000

attribute [local simp] evalL wantedA isCall opA evalA evalAll evalsA evalOpt ofValue ofCell plain binA_eql_pn binA_neq_pn binA_gtr binA_lss binA_geq binA_leq binA_add binA_sub binA_eql binA_neq binA_or binA_shl binA_shr binA_mul binA_quo binA_rem binA_agg_eql binA_agg_neq convA_int unA_not fieldAddrA loadA partA pickA_true pickA_false pickA_bb lenA builtinA storeA splice AV.cells AV.isCell sliceA boundA intA callOf indexAddrA newObjA buildA fillA zeroA ofCells buildSliceA indexA fieldA coinsC_at coinC inC

/-- A byte that is added where only noughts stand below and at it. -/
theorem limb_plus {x b k q r : Nat} (hb : b < 256) (hr : r < 8) (hk : 8 * q + r = k) (hx : x % 256 ^ (k + 1) = 0) : limb x q ||| b <<< (8 * r) = limb x q + b * 2 ^ (8 * r) ∧ x ||| b <<< (8 * k) = x + b * 256 ^ k ∧ limb x q + b * 2 ^ (8 * r) < 18446744073709551616 := by
  have e256 : ∀ n, (256 : Nat) ^ n = 2 ^ (8 * n) := fun n => by rw [Nat.pow_mul]
  obtain ⟨y, hy⟩ : ∃ y, x = 256 ^ (k + 1) * y := ⟨x / 256 ^ (k + 1), by have := Nat.div_add_mod x (256 ^ (k + 1)); omega⟩
  have h1 : x ||| b <<< (8 * k) = x + b * 256 ^ k := by
    have hlt : b <<< (8 * k) < 2 ^ (8 * (k + 1)) := by
      rw [Nat.shiftLeft_eq, show 8 * (k + 1) = 8 + 8 * k by omega, Nat.pow_add]
      exact Nat.mul_lt_mul_of_pos_right hb (Nat.pow_pos (by omega))
    have := Nat.shiftLeft_add_eq_or_of_lt hlt y
    rw [Nat.shiftLeft_eq, ← e256, Nat.mul_comm, ← hy] at this
    rw [← this, Nat.shiftLeft_eq, e256]
  obtain ⟨z, hz, hz2⟩ : ∃ z, limb x q = z * 2 ^ (8 * r + 8) ∧ z * 2 ^ (8 * r + 8) < 2 ^ 64 := by
    have e1 : x = 2 ^ (64 * q) * (2 ^ (8 * r + 8) * y) := by
      rw [hy, e256, ← Nat.mul_assoc, ← Nat.pow_add]
      congr 2; omega
    have e2 : x / 2 ^ (64 * q) = 2 ^ (8 * r + 8) * y := by
      rw [e1, Nat.mul_div_cancel_left _ (Nat.pow_pos (by omega))]
    have e3 : limb x q = 2 ^ (8 * r + 8) * (y % 2 ^ (64 - (8 * r + 8))) := by
      unfold limb
      rw [e2]
      conv => lhs; rw [show (2 : Nat) ^ 64 = 2 ^ (8 * r + 8) * 2 ^ (64 - (8 * r + 8)) by rw [← Nat.pow_add]; congr 1; omega]
      rw [Nat.mul_mod_mul_left]
    refine ⟨y % 2 ^ (64 - (8 * r + 8)), by rw [e3, Nat.mul_comm], ?_⟩
    rw [Nat.mul_comm, ← e3]
    exact limb_lt x q
  have hlt : b <<< (8 * r) < 2 ^ (8 * r + 8) := by
    rw [Nat.shiftLeft_eq, show 8 * r + 8 = 8 + 8 * r by omega, Nat.pow_add]
    exact Nat.mul_lt_mul_of_pos_right hb (Nat.pow_pos (by omega))
  have h2 : limb x q ||| b <<< (8 * r) = limb x q + b * 2 ^ (8 * r) := by
    have := Nat.shiftLeft_add_eq_or_of_lt hlt z
    rw [Nat.shiftLeft_eq, ← hz] at this
    rw [← this, Nat.shiftLeft_eq]
  refine ⟨h2, h1, ?_⟩
  rw [← h2]
  have hs : b <<< (8 * r) < 2 ^ 64 := Nat.lt_of_lt_of_le hlt (Nat.pow_le_pow_right (by omega) (by omega))
  exact Nat.or_lt_two_pow (n := 64) (limb_lt x q) hs

theorem numA_plus {x b k q r : Nat} (hb : b < 256) (hq : q < 4) (hr : r < 8) (hk : 8 * q + r = k) (hx : x % 256 ^ (k + 1) = 0) :
    (numA x).take q ++ .v (.int .u64 ((limb x q + b * 2 ^ (8 * r) : Nat) : Int)) :: (numA x).drop (q + 1) = numA (x + b * 256 ^ k) := by
  obtain ⟨h1, h2, _⟩ := limb_plus hb hr hk hx
  have := numA_put (x := x) hb hq hr hk
  rw [h1, h2] at this
  exact this

theorem be_take_step {p : List UInt8} {i : Nat} (h : i < p.length) : be (p.take (i + 1)) * 256 ^ (p.length - (i + 1)) = be (p.take i) * 256 ^ (p.length - i) + p[i].toNat * 256 ^ (p.length - 1 - i) := by
  rw [take_snoc h, be_snoc, Nat.add_mul, show p.length - i = (p.length - (i + 1)) + 1 by omega, Nat.pow_succ, show p.length - 1 - i = p.length - (i + 1) by omega, Nat.mul_assoc, Nat.mul_comm 256]

theorem num_long {p : List UInt8} (h : 32 < p.length) : numOk p = false := by simp [numOk]; intro; omega
theorem num_zero {p : List UInt8} (h : 0 < p.length) (h0 : p[0].toNat = 0) : numOk p = false := by
  cases p with
  | nil => simp at h
  | cons b l =>
    have : b = 0 := UInt8.toNat_inj.1 h0
    simp [numOk, this]
theorem num_fine {p : List UInt8} (hl : p.length ≤ 32) (h : 0 < p.length) (h0 : ¬ p[0].toNat = 0) : numOk p = true := by
  cases p with
  | nil => simp at h
  | cons b l =>
    have : ¬ b = 0 := fun e => h0 (by simp [e])
    simp [numOk, this]
    simpa using hl

set_option maxHeartbeats 1600000 in
attribute [local simp] undefA List.getElem?_cons_zero List.getElem?_cons_succ in
theorem rread_ok {σ : St} {p : List UInt8} {tl : Tail} (hl : p.length ≤ 1000000) :
    CallsA Try.prog 137 [.sl 1 (bytesA p) p.length tl] σ (fun av σ' => av = .tup [.agg (numA (numOf p)), .v (.bool (numOk p))] ∧ σ = σ') := by
  refine callsA_gcS ?_ rfl
  have F := True.intro
  refine callsA_body Try.func137 rfl rfl rfl ?_
  refine sq fun K1 hK1 => ?_
  refine rg' (h := fun J2 hJ2 => ?_)
  refine hJ2 _ _ ?_
  refine hK1 _ _ ?_
  refine sq fun K3 hK3 => ?_
  refine sq fun K4 hK4 => ?_
  refine rg' (h := fun J5 hJ5 => ?_)
  refine gs 10 (fun g1_3 => ?_) (fun g1_3 => ?_)
  · try exact nope g1_3
    all_goals have g1_3p := g1_3
    all_goals try simp [F] at g1_3p
    all_goals
     replace F := And.intro g1_3 F
     try replace F := And.intro g1_3p F
     refine no2 (k := ?_)
     refine no2 (k := ?_)
     refine no2 (k := ?_)
     refine no2 (k := ?_)
     refine no2 (k := ?_)
     refine no2 (k := ?_)
     refine no2 (k := ?_)
     refine no2 (k := ?_)
     refine no2 (k := ?_)
     refine hJ5 _ _ ?_
     refine hK4 _ _ ?_
     refine ct ?_
     refine sq fun K6 hK6 => ?_
     refine rg' (h := fun J7 hJ7 => ?_)
     refine hJ7 _ _ ?_
     refine hK6 _ _ ?_
     refine run_ret ?_
     try simp only [Then, InBlock, NoGoto]
     refine answer_cell_tmp rfl (.inr rfl) ?_
     have e : numOk p = false := num_long (by omega)
     simp [F]
     simp only [numOf, e]
     rw [← numA_zero]
     exact Wk.refl _
  try exact nope g1_3
  all_goals have g1_3p := g1_3
  all_goals try simp [F] at g1_3p
  all_goals
   replace F := And.intro g1_3 F
   try replace F := And.intro g1_3p F
   refine go2 (k := ?_)
   refine go2 (k := ?_)
   refine go2 (k := ?_)
   refine go2 (k := ?_)
   refine gs 14 (fun g1_7 => ?_) (fun g1_7 => ?_)
   · try exact nope g1_7
     all_goals have g1_7p := g1_7
     all_goals try simp [F] at g1_7p
     all_goals
      replace F := And.intro g1_7 F
      try replace F := And.intro g1_7p F
      refine go2 (k := ?_)
      refine go2 (k := ?_)
      refine go2 (k := ?_)
      refine go2 (k := ?_)
      refine go2 (k := ?_)
      refine hJ5 _ _ ?_
      refine hK4 _ _ ?_
      refine cs (fun c20 => ?_) (fun c20 => ?_)
      · try exact nope c20
        all_goals have c20p := c20
        all_goals try simp [F] at c20p
        all_goals
         replace F := And.intro c20 F
         try replace F := And.intro c20p F
         refine sq fun K8 hK8 => ?_
         refine rg' (h := fun J9 hJ9 => ?_)
         refine hJ9 _ _ ?_
         refine hK8 _ _ ?_
         refine run_ret ?_
         try simp only [Then, InBlock, NoGoto]
         refine answer_cell_tmp rfl (.inr rfl) ?_
         have e : numOk p = false := num_zero (by omega) (by assumption)
         simp [F]
         simp only [numOf, e]
         rw [← numA_zero]
         exact Wk.refl _
      try exact nope c20
      all_goals have c20p := c20
      all_goals try simp [F] at c20p
      all_goals
       replace F := And.intro c20 F
       try replace F := And.intro c20p F
       have h : p.length ≤ 32 := by omega
       refine run_skip ?_
       refine hK3 _ _ ?_
       refine sq fun K10 hK10 => ?_
       refine rg' (h := fun J11 hJ11 => ?_)
       refine hJ11 _ _ ?_
       refine hK10 _ _ ?_
       refine sq fun K12 hK12 => ?_
       refine sq fun K13 hK13 => ?_
       refine rg' (h := fun J14 hJ14 => ?_)
       refine hJ14 _ _ ?_
       refine hK13 _ _ ?_
       refine run_block_k ?_
       refine run_loopF (X := Nat) [0, 2, 3, 4] (fun i ρ σ1 => (i ≤ p.length) ∧ (ρ 5 = .v (.int .i64 i)) ∧ (σ1 = { σ with objs := σ.objs ++ [numA 0, numA (be (p.take i) * 256 ^ (p.length - i))] })) (fun i => p.length - i) (0) ?st1 ?rd1
       case st1 =>
        refine ⟨lp, lp, ?_⟩
        · simp [numA_zero]
       case rd1 =>
        rintro i ρ1 σ1 hF1 ⟨hi, h5, hσ⟩
        obtain rfl := hσ.symm
        have f1 := keepL hF1
        try simp [KeepL, F] at f1
        replace F := And.intro h5 F
        try replace F := And.intro f1 F
        refine sq fun K15 hK15 => ?_
        refine sq fun K16 hK16 => ?_
        refine rg' (h := fun J17 hJ17 => ?_)
        refine hJ17 _ _ ?_
        refine hK16 _ _ ?_
        refine cs (fun c25 => ?_) (fun c25 => ?_)
        · try exact nope c25
          all_goals have c25p := c25
          all_goals try simp [F] at c25p
          all_goals
           replace F := And.intro c25 F
           try replace F := And.intro c25p F
           refine run_skip ?_
           refine hK15 _ _ ?_
           refine sq fun K18 hK18 => ?_
           refine run_block_k ?_
           refine sq fun K19 hK19 => ?_
           obtain ⟨k, hk⟩ : ∃ k, k = p.length - 1 - i := ⟨_, rfl⟩
           have hk2 : k < 32 := by omega
           have hw : IntKind.i64.wrap (IntKind.i64.wrap ((p.length : Int) - 1) - i) = (k : Int) := by rw [wrap_i64 ((p.length : Int) - 1) (by omega) (by omega), wrap_i64 _ (by omega) (by omega)]; omega
           obtain ⟨q, hq⟩ : ∃ q, q = k / 8 := ⟨_, rfl⟩
           obtain ⟨r, hr⟩ : ∃ r, r = k % 8 := ⟨_, rfl⟩
           have hqr : 8 * q + r = k := by omega
           have hq4 : q < 4 := by omega
           have hr8 : r < 8 := by omega
           have hb := p[i].toNat_lt
           have hqq : IntKind.i64.wrap ((k : Int).tdiv 8) = (q : Int) := by rw [Int.tdiv_eq_ediv_of_nonneg (by omega), wrap_i64 _ (by omega) (by omega)]; omega
           have hrr : (k : Int).tmod 8 = (r : Int) := by rw [Int.tmod_eq_emod_of_nonneg (by omega)]; omega
           have hm8 : IntKind.i64.wrap (8 * (r : Int)) = 8 * (r : Int) := wrap_i64 _ (by omega) (by omega)
           have hq2 : IntKind.i64.wrap ((k : Int) / 8) = (q : Int) := by rw [wrap_i64 _ (by omega) (by omega)]; omega
           have hr2 : (k : Int) % 8 = (r : Int) := by omega
           have hnn : ¬ 8 * (r : Int) < 0 := by omega
           have hsl : p[i].toNat * 2 ^ (8 * r) < 18446744073709551616 := by have := shl_byte hb hr8; rwa [Nat.shiftLeft_eq] at this
           have hsh : IntKind.u64.wrap ((p[i].toNat : Int) * 2 ^ (min (8 * (r : Int)).toNat 64)) = ((p[i].toNat * 2 ^ (8 * r) : Nat) : Int) := by rw [show min (8 * (r : Int)).toNat 64 = 8 * r by omega, show ((p[i].toNat : Int) * 2 ^ (8 * r)) = ((p[i].toNat * 2 ^ (8 * r) : Nat) : Int) by simp, wrap_u64, Nat.mod_eq_of_lt hsl]
           have hx : (be (p.take i) * 256 ^ (p.length - i)) % 256 ^ (k + 1) = 0 := by rw [show p.length - i = k + 1 by omega, Nat.mul_mod_left]
           have hstep := be_take_step c25p
           rw [← hk] at hstep
           generalize be (p.take i) * 256 ^ (p.length - i) = x at *
           have hpl := numA_plus hb hq4 hr8 hqr hx
           obtain ⟨_, _, hlp⟩ := limb_plus hb hr8 hqr hx
           have hget := numA_get x hq4
           have hq5 : (q : Int) < 4 := by omega
           have hq6 : q + 1 ≤ 4 := hq4
           generalize p[i].toNat * 2 ^ (8 * r) = s at *
           have hws : IntKind.u64.wrap ((limb x q : Int) + s) = ((limb x q + s : Nat) : Int) := by rw [← Int.natCast_add, wrap_u64, Nat.mod_eq_of_lt hlp]
           replace F := And.intro hw F
           replace F := And.intro hqq F
           replace F := And.intro hrr F
           replace F := And.intro hq2 F
           replace F := And.intro hr2 F
           replace F := And.intro hm8 F
           replace F := And.intro hnn F
           replace F := And.intro hsh F
           replace F := And.intro hget F
           replace F := And.intro hq4 F
           replace F := And.intro hq5 F
           replace F := And.intro hq6 F
           replace F := And.intro hws F
           refine rg' (h := fun J20 hJ20 => ?_)
           refine hJ20 _ _ ?_
           refine hK19 _ _ ?_
           refine run_draw (by kernel_rfl) fun J21 hJ21 => ?_
           refine rp2 0 (k := ?_)
           refine rp2 1 (k := ?_)
           refine rp2 2 (k := ?_)
           refine rp2 3 (k := ?_)
           refine rp2 4 (k := ?_)
           refine rp2 5 (k := ?_)
           refine rp2 6 (k := ?_)
           refine rp2 7 (k := ?_)
           refine rp2 8 (k := ?_)
           refine rp2 9 (k := ?_)
           refine rp2 10 (k := ?_)
           refine rp2 11 (k := ?_)
           refine rp2 12 (k := ?_)
           refine rp2 13 (k := ?_)
           refine rp2 14 (k := ?_)
           refine dop 15 rfl ?_
           repeat (first | simp [F] | simp (disch := omega) only [wC, if_pos, if_neg])
           refine ⟨ln, ?_⟩
           refine dd ?_
           refine hJ21 _ _ ?_
           refine hK18 _ _ ?_
           refine rg' (h := fun J22 hJ22 => ?_)
           refine hJ22 _ _ ?_
           refine ⟨(i + 1), ⟨kp, lp, lp, ?_⟩, lp⟩
           · simp only [Int.natCast_add] at hpl
             rw [hpl, hstep]
        try exact nope c25
        all_goals have c25p := c25
        all_goals try simp [F] at c25p
        all_goals
         replace F := And.intro c25 F
         try replace F := And.intro c25p F
         refine run_exit ?_
         refine hK12 _ _ ?_
         refine sq fun K23 hK23 => ?_
         refine rg' (h := fun J24 hJ24 => ?_)
         refine hJ24 _ _ ?_
         refine hK23 _ _ ?_
         refine run_ret ?_
         try simp only [Then, InBlock, NoGoto]
         refine answer_cell_tmp rfl (.inr rfl) ?_
         have e : numOk p = true := num_fine (by omega) (by omega) (by assumption)
         simp [F]
         simp only [numOf, e, if_true]
         rw [List.take_of_length_le (by omega)]
         exact Wk.refl _
   try exact nope g1_7
   all_goals have g1_7p := g1_7
   all_goals try simp [F] at g1_7p
   all_goals
    replace F := And.intro g1_7 F
    try replace F := And.intro g1_7p F
    refine no2 (k := ?_)
    refine no2 (k := ?_)
    refine no2 (k := ?_)
    refine no2 (k := ?_)
    refine go2 (k := ?_)
    refine hJ5 _ _ ?_
    refine hK4 _ _ ?_
    refine cf ?_
    refine run_skip ?_
    refine hK3 _ _ ?_
    refine sq fun K25 hK25 => ?_
    refine rg' (h := fun J26 hJ26 => ?_)
    refine hJ26 _ _ ?_
    refine hK25 _ _ ?_
    refine sq fun K27 hK27 => ?_
    refine sq fun K28 hK28 => ?_
    refine rg' (h := fun J29 hJ29 => ?_)
    refine hJ29 _ _ ?_
    refine hK28 _ _ ?_
    refine run_block_k ?_
    refine run_loopF (X := Nat) [0, 2, 3, 4] (fun i ρ σ1 => (i ≤ p.length) ∧ (ρ 5 = .v (.int .i64 i)) ∧ (σ1 = { σ with objs := σ.objs ++ [numA 0, numA (be (p.take i) * 256 ^ (p.length - i))] })) (fun i => p.length - i) (0) ?st1 ?rd1
    case st1 =>
     refine ⟨lp, lp, ?_⟩
     · simp [numA_zero]
    case rd1 =>
     rintro i ρ1 σ1 hF1 ⟨hi, h5, hσ⟩
     obtain rfl := hσ.symm
     have f1 := keepL hF1
     try simp [KeepL, F] at f1
     replace F := And.intro h5 F
     try replace F := And.intro f1 F
     refine sq fun K30 hK30 => ?_
     refine sq fun K31 hK31 => ?_
     refine rg' (h := fun J32 hJ32 => ?_)
     refine hJ32 _ _ ?_
     refine hK31 _ _ ?_
     refine cs (fun c25 => ?_) (fun c25 => ?_)
     · try exact nope c25
       all_goals have c25p := c25
       all_goals try simp [F] at c25p
       all_goals
        replace F := And.intro c25 F
        try replace F := And.intro c25p F
        refine run_skip ?_
        refine hK30 _ _ ?_
        refine sq fun K33 hK33 => ?_
        refine run_block_k ?_
        refine sq fun K34 hK34 => ?_
        obtain ⟨k, hk⟩ : ∃ k, k = p.length - 1 - i := ⟨_, rfl⟩
        have hk2 : k < 32 := by omega
        have hw : IntKind.i64.wrap (IntKind.i64.wrap ((p.length : Int) - 1) - i) = (k : Int) := by rw [wrap_i64 ((p.length : Int) - 1) (by omega) (by omega), wrap_i64 _ (by omega) (by omega)]; omega
        obtain ⟨q, hq⟩ : ∃ q, q = k / 8 := ⟨_, rfl⟩
        obtain ⟨r, hr⟩ : ∃ r, r = k % 8 := ⟨_, rfl⟩
        have hqr : 8 * q + r = k := by omega
        have hq4 : q < 4 := by omega
        have hr8 : r < 8 := by omega
        have hb := p[i].toNat_lt
        have hqq : IntKind.i64.wrap ((k : Int).tdiv 8) = (q : Int) := by rw [Int.tdiv_eq_ediv_of_nonneg (by omega), wrap_i64 _ (by omega) (by omega)]; omega
        have hrr : (k : Int).tmod 8 = (r : Int) := by rw [Int.tmod_eq_emod_of_nonneg (by omega)]; omega
        have hm8 : IntKind.i64.wrap (8 * (r : Int)) = 8 * (r : Int) := wrap_i64 _ (by omega) (by omega)
        have hq2 : IntKind.i64.wrap ((k : Int) / 8) = (q : Int) := by rw [wrap_i64 _ (by omega) (by omega)]; omega
        have hr2 : (k : Int) % 8 = (r : Int) := by omega
        have hnn : ¬ 8 * (r : Int) < 0 := by omega
        have hsl : p[i].toNat * 2 ^ (8 * r) < 18446744073709551616 := by have := shl_byte hb hr8; rwa [Nat.shiftLeft_eq] at this
        have hsh : IntKind.u64.wrap ((p[i].toNat : Int) * 2 ^ (min (8 * (r : Int)).toNat 64)) = ((p[i].toNat * 2 ^ (8 * r) : Nat) : Int) := by rw [show min (8 * (r : Int)).toNat 64 = 8 * r by omega, show ((p[i].toNat : Int) * 2 ^ (8 * r)) = ((p[i].toNat * 2 ^ (8 * r) : Nat) : Int) by simp, wrap_u64, Nat.mod_eq_of_lt hsl]
        have hx : (be (p.take i) * 256 ^ (p.length - i)) % 256 ^ (k + 1) = 0 := by rw [show p.length - i = k + 1 by omega, Nat.mul_mod_left]
        have hstep := be_take_step c25p
        rw [← hk] at hstep
        generalize be (p.take i) * 256 ^ (p.length - i) = x at *
        have hpl := numA_plus hb hq4 hr8 hqr hx
        obtain ⟨_, _, hlp⟩ := limb_plus hb hr8 hqr hx
        have hget := numA_get x hq4
        have hq5 : (q : Int) < 4 := by omega
        have hq6 : q + 1 ≤ 4 := hq4
        generalize p[i].toNat * 2 ^ (8 * r) = s at *
        have hws : IntKind.u64.wrap ((limb x q : Int) + s) = ((limb x q + s : Nat) : Int) := by rw [← Int.natCast_add, wrap_u64, Nat.mod_eq_of_lt hlp]
        replace F := And.intro hw F
        replace F := And.intro hqq F
        replace F := And.intro hrr F
        replace F := And.intro hq2 F
        replace F := And.intro hr2 F
        replace F := And.intro hm8 F
        replace F := And.intro hnn F
        replace F := And.intro hsh F
        replace F := And.intro hget F
        replace F := And.intro hq4 F
        replace F := And.intro hq5 F
        replace F := And.intro hq6 F
        replace F := And.intro hws F
        refine rg' (h := fun J35 hJ35 => ?_)
        refine hJ35 _ _ ?_
        refine hK34 _ _ ?_
        refine run_draw (by kernel_rfl) fun J36 hJ36 => ?_
        refine rp2 0 (k := ?_)
        refine rp2 1 (k := ?_)
        refine rp2 2 (k := ?_)
        refine rp2 3 (k := ?_)
        refine rp2 4 (k := ?_)
        refine rp2 5 (k := ?_)
        refine rp2 6 (k := ?_)
        refine rp2 7 (k := ?_)
        refine rp2 8 (k := ?_)
        refine rp2 9 (k := ?_)
        refine rp2 10 (k := ?_)
        refine rp2 11 (k := ?_)
        refine rp2 12 (k := ?_)
        refine rp2 13 (k := ?_)
        refine rp2 14 (k := ?_)
        refine dop 15 rfl ?_
        repeat (first | simp [F] | simp (disch := omega) only [wC, if_pos, if_neg])
        refine ⟨ln, ?_⟩
        refine dd ?_
        refine hJ36 _ _ ?_
        refine hK33 _ _ ?_
        refine rg' (h := fun J37 hJ37 => ?_)
        refine hJ37 _ _ ?_
        refine ⟨(i + 1), ⟨kp, lp, lp, ?_⟩, lp⟩
        · simp only [Int.natCast_add] at hpl
          rw [hpl, hstep]
     try exact nope c25
     all_goals have c25p := c25
     all_goals try simp [F] at c25p
     all_goals
      replace F := And.intro c25 F
      try replace F := And.intro c25p F
      refine run_exit ?_
      refine hK27 _ _ ?_
      refine sq fun K38 hK38 => ?_
      refine rg' (h := fun J39 hJ39 => ?_)
      refine hJ39 _ _ ?_
      refine hK38 _ _ ?_
      refine run_ret ?_
      try simp only [Then, InBlock, NoGoto]
      refine answer_cell_tmp rfl (.inr rfl) ?_
      simp [F]
      exact Wk.refl _

theorem rread_at {σ : St} {p : List UInt8} {n : Nat} {tl : Tail} (h : p.length = n) (hl : p.length ≤ 1000000) :
    CallsA Try.prog 137 [.sl 1 (bytesA p) n tl] σ (fun av σ' => av = .tup [.agg (numA (numOf p)), .v (.bool (numOk p))] ∧ σ = σ') := by
  subst h; exact rread_ok hl

end Go.Proofs.Ytdbaddholggkbaa

/-
  The document's reader: numbers and coins.
-/
namespace Go.Proofs.Ytdbaddholggkbaa
set_option linter.unnecessarySimpa false
open Go Go.Vm
set_option linter.unusedSimpArgs false
set_option linter.unusedVariables false
set_option maxRecDepth 100000

attribute [local simp] evalL wantedA isCall opA evalA evalAll evalsA evalOpt ofValue ofCell plain binA_eql_pn binA_neq_pn binA_gtr binA_lss binA_geq binA_leq binA_add binA_sub binA_eql binA_neq binA_or binA_shl binA_shr binA_mul binA_quo binA_rem binA_agg_eql binA_agg_neq convA_int unA_not fieldAddrA loadA partA pickA_true pickA_false pickA_bb lenA builtinA storeA splice AV.cells AV.isCell sliceA boundA intA callOf indexAddrA newObjA buildA fillA zeroA ofCells buildSliceA indexA fieldA coinsC_at coinC inC

theorem callsA_gcI {σ : St} {P : Program} {f : FuncId} {args : List AV} {A : AV} {ι : Type} {Pi : ι → Prop} {x : ι → List AV} {id : Nat} (k : CallsA P f args σ (fun av σ' => ∃ i, Pi i ∧ Wk av A ∧ ∃ l m r, σ' = { σ with objs := σ.objs.set id (x i) ++ l, toks := σ.toks ++ m, rows := σ.rows ++ r }))
    (hA : A.under σ.bd = true) (hx : ∀ i, underL σ.bd (x i) = true) : CallsA P f args σ (fun av σ' => av = A ∧ ∃ i, Pi i ∧ σ' = { σ with objs := σ.objs.set id (x i) }) := by
  refine callsA_gc k (fun av σ0 ⟨i, hi, hw, l, m, r, h⟩ => ?_)
  subst h
  refine ⟨A, hw, hA, by simp, by simp, by simp, rfl, fun id' cs hid hc => ?_, fun j r0 hj hr => ?_, rfl, i, hi, ?_⟩
  · simp only at hc
    rw [List.getElem?_append_left (by simpa using hid)] at hc
    by_cases e : id = id'
    · subst e
      rw [List.getElem?_set_self hid] at hc
      cases hc; exact .inr (hx i)
    · rw [List.getElem?_set_ne e] at hc; exact .inl hc
  · simp only at hr
    rw [List.getElem?_append_left hj] at hr
    exact .inl ⟨r0, hr, rfl⟩
  · simp [St.trim]

theorem inC_under (B : Bd) (p : List UInt8) (k : Nat) (b : Bool) : underL B (inC p .shut k b) = true := by simp [inC, underL, AV.under]

theorem takeB_yes {p : List UInt8} {k n : Nat} (h : k + n ≤ p.length) : takeB n (some (p.drop k)) = (p.drop k).take n := by
  have h1 : n ≤ (p.drop k).length := by simp; omega
  show (if n ≤ (p.drop k).length then (p.drop k).take n else []) = _
  rw [if_pos h1]

set_option maxHeartbeats 1600000 in
attribute [local simp] undefA List.getElem?_cons_zero List.getElem?_cons_succ in
theorem inNum_ok {σ : St} {id k : Nat} {p : List UInt8} {s : Option (List UInt8)} (h : σ.objs[id]? = some (inC p .shut k s.isNone)) (hp : p.length ≤ 1000000) (hk : At p k s) :
    CallsA Try.prog 111 [.ptr id 0] σ (fun av σ' => av = .agg (numA (numOf (numB s))) ∧ ∃ k', At p k' (numS s) ∧ σ' = { σ with objs := σ.objs.set id (inC p .shut k' (numS s).isNone) }) := by
  refine callsA_gcI (x := fun k' => inC p .shut k' (numS s).isNone) ?_ rfl (fun _ => inC_under _ _ _ _)
  have hs := set_self_of h
  have hlt := lt_of_get h
  have hm := be_lt1 (takeB_len 1 s)
  have hw : IntKind.i64.wrap ((be (takeB 1 s) : Nat) : Int) = (be (takeB 1 s) : Nat) := wrap_i64 _ (by omega) (by omega)
  have ho1 : ∀ r, (σ.objs ++ r)[id]? = some (inC p .shut k s.isNone) := fun r => by rw [List.getElem?_append_left hlt]; exact h
  have ho2 : ∀ x r, (σ.objs.set id x ++ r)[id]? = some x := fun x r => by rw [List.getElem?_append_left (by simpa using hlt)]; exact hs x
  have ho3 : ∀ x r, (σ.objs ++ r).set id x = σ.objs.set id x ++ r := fun x r => List.set_append_left _ _ hlt
  have ho4 : ∀ x y r, (σ.objs.set id y ++ r).set id x = σ.objs.set id x ++ r := fun x y r => by rw [List.set_append_left _ _ (by simpa using hlt), List.set_set]
  have F := And.intro h (And.intro hs (And.intro hw (And.intro ho1 (And.intro ho2 (And.intro ho3 (And.intro ho4 (True.intro)))))))
  refine callsA_body Try.func111 rfl rfl rfl ?_
  refine sq fun K1 hK1 => ?_
  refine rg' (h := fun J2 hJ2 => ?_)
  refine hJ2 _ _ ?_
  refine hK1 _ _ ?_
  refine sq fun K3 hK3 => ?_
  refine rg' (h := fun J4 hJ4 => ?_)
  refine ca (c := inByte_ok (ho1 _) hp hk) (k := ?_)
  rintro _ _ ⟨rfl, k1, hk1, rfl⟩
  repeat (first | simp [F] | simp (disch := omega) only [wC, if_pos, if_neg])
  refine hJ4 _ _ ?_
  refine hK3 _ _ ?_
  refine sq fun K5 hK5 => ?_
  refine sq fun K6 hK6 => ?_
  have hk1' : k1 ≤ p.length := hk1.1
  have hw2 : IntKind.i64.wrap ((p.length : Int) - k1) = ((p.length - k1 : Nat) : Int) := by rw [wrap_i64 _ (by omega) (by omega)]; omega
  replace F := And.intro hw2 F
  refine run_draw (by kernel_rfl) fun J7 hJ7 => ?_
  refine rp2 0 (k := ?_)
  refine rp2 1 (k := ?_)
  refine rp2 2 (k := ?_)
  refine rp2 3 (k := ?_)
  refine rp2 4 (k := ?_)
  refine gd 13 (fun g2_4 => ?_) (fun g2_4 => ?_)
  · try exact nope g2_4
    all_goals have g2_4p := g2_4
    all_goals try simp [F] at g2_4p
    all_goals
     replace F := And.intro g2_4 F
     try replace F := And.intro g2_4p F
     refine rp2 5 (k := ?_)
     refine rp2 6 (k := ?_)
     refine rp2 7 (k := ?_)
     refine rp2 8 (k := ?_)
     refine rp2 9 (k := ?_)
     refine rp2 10 (k := ?_)
     refine rp2 11 (k := ?_)
     refine rp2 12 (k := ?_)
     refine rp2 13 (k := ?_)
     refine rp2 14 (k := ?_)
     refine rp2 15 (k := ?_)
     refine rp2 16 (k := ?_)
     refine rp2 17 (k := ?_)
     refine dd ?_
     refine hJ7 _ _ ?_
     refine hK6 _ _ ?_
     refine ct ?_
     refine sq fun K8 hK8 => ?_
     refine rg' (h := fun J9 hJ9 => ?_)
     refine hJ9 _ _ ?_
     refine hK8 _ _ ?_
     refine sq fun K10 hK10 => ?_
     refine rg' (h := fun J11 hJ11 => ?_)
     refine hJ11 _ _ ?_
     refine hK10 _ _ ?_
     refine run_ret ?_
     try simp only [Then, InBlock, NoGoto]
     refine answer_cell rfl (.inr rfl) ?_
     have h0 : takeS 1 s = none := g2_4p
     have e1 : numB s = [] := (by simp [numB, h0, takeB])
     have e2 : numS s = none := (by rw [numS, h0]; simp [takeS])
     simp [F]
     refine ⟨k1, ⟨hk1.1, .inl e2⟩, ?_⟩
     rw [e1, e2]
     exact ⟨Wk.refl _, _, rfl⟩
  try exact nope g2_4
  all_goals have g2_4p := g2_4
  all_goals try simp [F] at g2_4p
  all_goals
   replace F := And.intro g2_4 F
   try replace F := And.intro g2_4p F
   refine rp2 5 (k := ?_)
   refine rp2 6 (k := ?_)
   refine rp2 7 (k := ?_)
   refine rp2 8 (k := ?_)
   refine rp2 9 (k := ?_)
   refine rp2 10 (k := ?_)
   refine rp2 11 (k := ?_)
   refine rp2 12 (k := ?_)
   refine rp2 13 (k := ?_)
   refine rp2 14 (k := ?_)
   refine rp2 15 (k := ?_)
   refine rp2 16 (k := ?_)
   refine rp2 17 (k := ?_)
   refine dd ?_
   refine hJ7 _ _ ?_
   refine hK6 _ _ ?_
   refine cs (fun c26 => ?_) (fun c26 => ?_)
   · try exact nope c26
     all_goals have c26p := c26
     all_goals try simp [F] at c26p
     all_goals
      replace F := And.intro c26 F
      try replace F := And.intro c26p F
      refine sq fun K12 hK12 => ?_
      refine rg' (h := fun J13 hJ13 => ?_)
      refine hJ13 _ _ ?_
      refine hK12 _ _ ?_
      refine sq fun K14 hK14 => ?_
      refine rg' (h := fun J15 hJ15 => ?_)
      refine hJ15 _ _ ?_
      refine hK14 _ _ ?_
      refine run_ret ?_
      try simp only [Then, InBlock, NoGoto]
      refine answer_cell rfl (.inr rfl) ?_
      have h0 : takeS 1 s = some (p.drop k1) := hk1.2.resolve_left (by intro e; simp [e] at g2_4p)
      have e1 : numB s = [] := (by rw [numB, h0]; exact takeB_no hk1' (by omega))
      have e2 : numS s = none := (by rw [numS, e1, h0]; exact takeS_no hk1' (by omega))
      simp [F]
      refine ⟨k1, ⟨hk1.1, .inl e2⟩, ?_⟩
      rw [e1, e2]
      exact ⟨Wk.refl _, _, rfl⟩
   try exact nope c26
   all_goals have c26p := c26
   all_goals try simp [F] at c26p
   all_goals
    replace F := And.intro c26 F
    try replace F := And.intro c26p F
    refine run_skip ?_
    refine hK5 _ _ ?_
    refine sq fun K16 hK16 => ?_
    have hn1 : ((k1 : Int) + (be (takeB 1 s) : Nat)).toNat - k1 = be (takeB 1 s) := by omega
    replace F := And.intro hn1 F
    replace F := And.intro bytesA_drop F
    replace F := And.intro bytesA_take F
    refine run_draw (by kernel_rfl) fun J17 hJ17 => ?_
    refine rp2 0 (k := ?_)
    refine rp2 1 (k := ?_)
    refine rp2 2 (k := ?_)
    refine rp2 3 (k := ?_)
    refine rp2 4 (k := ?_)
    refine rp2 5 (k := ?_)
    refine rp2 6 (k := ?_)
    refine rp2 7 (k := ?_)
    refine rp2 8 (k := ?_)
    refine rp2 9 (k := ?_)
    refine rp2 10 (k := ?_)
    refine rp2 11 (k := ?_)
    refine rp2 12 (k := ?_)
    refine rp2 13 (k := ?_)
    refine rp2 14 (k := ?_)
    refine d2 15 19 ?_ ?_
    · refine ac 15 rfl (c := rread_at (p := (p.drop k1).take (be (takeB 1 s))) (n := be (takeB 1 s)) (tl := .shut) (by simp; omega) (by simp; omega)) (k := ?_)
      rintro _ _ ⟨rfl, rfl⟩
      refine ⟨by first | exact fun _ _ h => h | (refine later_list [13, 12, 11, 10, 9, 8, 7, 6, 5, 4, 3, 2, 1, 0] (by kernel_rfl) (List.forall_mem_cons.2 ⟨fun _ => fact2 rfl rfl ?_, List.forall_mem_cons.2 ⟨fun _ => fact2 rfl rfl ?_, List.forall_mem_cons.2 ⟨fun _ => fact2 rfl rfl ?_, List.forall_mem_cons.2 ⟨fun _ => fact2 rfl rfl ?_, List.forall_mem_cons.2 ⟨fun _ => fact2 rfl rfl ?_, List.forall_mem_cons.2 ⟨fun _ => fact2 rfl rfl ?_, List.forall_mem_cons.2 ⟨fun _ => fact2 rfl rfl ?_, List.forall_mem_cons.2 ⟨fun _ => fact2 rfl rfl ?_, List.forall_mem_cons.2 ⟨fun _ => fact2 rfl rfl ?_, List.forall_mem_cons.2 ⟨fun _ => fact2 rfl rfl ?_, List.forall_mem_cons.2 ⟨fun _ => fact2 rfl rfl ?_, List.forall_mem_cons.2 ⟨fun _ => fact2 rfl rfl ?_, List.forall_mem_cons.2 ⟨fun _ => fact2 rfl rfl ?_, List.forall_mem_cons.2 ⟨fun _ => fact2 rfl rfl ?_, fun _ h => absurd h List.not_mem_nil⟩⟩⟩⟩⟩⟩⟩⟩⟩⟩⟩⟩⟩⟩) <;> constructor <;> first | rfl | (simp [F]; done)), ?_⟩
      repeat (first | simp [F] | simp (disch := omega) only [wC, if_pos, if_neg])
      refine rp2 16 (k := ?_)
      refine rp2 17 (k := ?_)
      refine rp2 18 (k := ?_)
      refine dop 19 rfl ?_
      repeat (first | simp [F] | simp (disch := omega) only [wC, if_pos, if_neg])
      refine ⟨by first | exact later_more _ (by kernel_rfl) | exact later_more2 (by kernel_rfl) rfl, ?_⟩
      refine dop 20 rfl ?_
      repeat (first | simp [F] | simp (disch := omega) only [wC, if_pos, if_neg])
      refine ⟨later_tmp (by kernel_rfl), ?_⟩
      refine rp2 21 (k := ?_)
      refine dd ?_
      refine hJ17 _ _ ?_
      refine hK16 _ _ ?_
      refine sq fun K18 hK18 => ?_
      refine rg' (h := fun J19 hJ19 => ?_)
      refine hJ19 _ _ ?_
      refine hK18 _ _ ?_
      refine sq fun K20 hK20 => ?_
      refine rg' (h := fun J21 hJ21 => ?_)
      refine hJ21 _ _ ?_
      refine hK20 _ _ ?_
      refine sq fun K22 hK22 => ?_
      refine rg' (h := fun J23 hJ23 => ?_)
      refine hJ23 _ _ ?_
      refine hK22 _ _ ?_
      refine run_ret ?_
      try simp only [Then, InBlock, NoGoto]
      refine answer_cell rfl (.inr rfl) ?_
      have h0 : takeS 1 s = some (p.drop k1) := hk1.2.resolve_left (by intro e; simp [e] at g2_4p)
      have e1 : numB s = (p.drop k1).take (be (takeB 1 s)) := (by rw [numB, h0]; exact takeB_yes (by omega))
      have e2 : numS s = if numOk (numB s) then some (p.drop (k1 + be (takeB 1 s))) else none := (by rw [numS, h0, takeS_some (by omega)])
      rw [← e1]
      simp [F]
      refine ⟨k1 + be (takeB 1 s), ⟨by omega, ?_⟩, Wk.refl _, ?_⟩
      · rw [e2]; cases numOk (numB s) <;> simp
      · rw [e2]; cases numOk (numB s) <;> simp
    · refine ao 19 rfl ?_
      repeat (first | simp [F] | simp (disch := omega) only [wC, if_pos, if_neg])
      refine ⟨by first | exact later_more _ (by kernel_rfl) | exact later_more2 (by kernel_rfl) rfl, ?_⟩
      refine dc 15 rfl (c := rread_at (p := (p.drop k1).take (be (takeB 1 s))) (n := be (takeB 1 s)) (tl := .shut) (by simp; omega) (by simp; omega)) (k := ?_)
      rintro _ _ ⟨rfl, rfl⟩
      refine ⟨by first | exact fun _ _ h => h | (refine later_list [13, 12, 11, 10, 9, 8, 7, 6, 5, 4, 3, 2, 1, 0] (by kernel_rfl) (List.forall_mem_cons.2 ⟨fun _ => fact2 rfl rfl ?_, List.forall_mem_cons.2 ⟨fun _ => fact2 rfl rfl ?_, List.forall_mem_cons.2 ⟨fun _ => fact2 rfl rfl ?_, List.forall_mem_cons.2 ⟨fun _ => fact2 rfl rfl ?_, List.forall_mem_cons.2 ⟨fun _ => fact2 rfl rfl ?_, List.forall_mem_cons.2 ⟨fun _ => fact2 rfl rfl ?_, List.forall_mem_cons.2 ⟨fun _ => fact2 rfl rfl ?_, List.forall_mem_cons.2 ⟨fun _ => fact2 rfl rfl ?_, List.forall_mem_cons.2 ⟨fun _ => fact2 rfl rfl ?_, List.forall_mem_cons.2 ⟨fun _ => fact2 rfl rfl ?_, List.forall_mem_cons.2 ⟨fun _ => fact2 rfl rfl ?_, List.forall_mem_cons.2 ⟨fun _ => fact2 rfl rfl ?_, List.forall_mem_cons.2 ⟨fun _ => fact2 rfl rfl ?_, List.forall_mem_cons.2 ⟨fun _ => fact2 rfl rfl ?_, fun _ h => absurd h List.not_mem_nil⟩⟩⟩⟩⟩⟩⟩⟩⟩⟩⟩⟩⟩⟩) <;> constructor <;> first | rfl | (simp [F]; done)), ?_⟩
      repeat (first | simp [F] | simp (disch := omega) only [wC, if_pos, if_neg])
      refine rp2 16 (k := ?_)
      refine rp2 17 (k := ?_)
      refine rp2 18 (k := ?_)
      refine dop 20 rfl ?_
      repeat (first | simp [F] | simp (disch := omega) only [wC, if_pos, if_neg])
      refine ⟨later_tmp (by kernel_rfl), ?_⟩
      refine rp2 21 (k := ?_)
      refine dd ?_
      refine hJ17 _ _ ?_
      refine hK16 _ _ ?_
      refine sq fun K24 hK24 => ?_
      refine rg' (h := fun J25 hJ25 => ?_)
      refine hJ25 _ _ ?_
      refine hK24 _ _ ?_
      refine sq fun K26 hK26 => ?_
      refine rg' (h := fun J27 hJ27 => ?_)
      refine hJ27 _ _ ?_
      refine hK26 _ _ ?_
      refine sq fun K28 hK28 => ?_
      refine rg' (h := fun J29 hJ29 => ?_)
      refine hJ29 _ _ ?_
      refine hK28 _ _ ?_
      refine run_ret ?_
      try simp only [Then, InBlock, NoGoto]
      refine answer_cell rfl (.inr rfl) ?_
      have h0 : takeS 1 s = some (p.drop k1) := hk1.2.resolve_left (by intro e; simp [e] at g2_4p)
      have e1 : numB s = (p.drop k1).take (be (takeB 1 s)) := (by rw [numB, h0]; exact takeB_yes (by omega))
      have e2 : numS s = if numOk (numB s) then some (p.drop (k1 + be (takeB 1 s))) else none := (by rw [numS, h0, takeS_some (by omega)])
      rw [← e1]
      simp [F]
      refine ⟨k1 + be (takeB 1 s), ⟨by omega, ?_⟩, Wk.refl _, ?_⟩
      · rw [e2]; cases numOk (numB s) <;> simp
      · rw [e2]; cases numOk (numB s) <;> simp

end Go.Proofs.Ytdbaddholggkbaa

/-
  Lists of coins: what both readers make of a list's bytes.
-/
namespace Go.Proofs.Ytdbaddholggkbaa
set_option linter.unnecessarySimpa false
open Go Go.Vm
set_option linter.unusedSimpArgs false
set_option linter.unusedVariables false
set_option maxRecDepth 100000

attribute [local simp] evalL wantedA isCall opA evalA evalAll evalsA evalOpt ofValue ofCell plain binA_eql_pn binA_neq_pn binA_gtr binA_lss binA_geq binA_leq binA_add binA_sub binA_eql binA_neq binA_or binA_shl binA_shr binA_mul binA_quo binA_rem binA_agg_eql binA_agg_neq convA_int unA_not fieldAddrA loadA partA pickA_true pickA_false pickA_bb lenA builtinA storeA splice AV.cells AV.isCell sliceA boundA intA callOf indexAddrA newObjA buildA fillA zeroA ofCells indexA fieldA coinsC_at

def byteS (s : Option (List UInt8)) : UInt8 := (takeB 1 s).headD 0
theorem be_byteS (s : Option (List UInt8)) : be (takeB 1 s) = (byteS s).toNat := by
  have h := takeB_len 1 s
  unfold byteS
  match takeB 1 s, h with
  | [], _ => rfl
  | [b], _ => simp [be]
  | _ :: _ :: _, h => simp at h

theorem numOf_lt (p : List UInt8) : numOf p < 2 ^ 256 := by
  unfold numOf
  split
  · rename_i h
    simp only [numOk, Bool.and_eq_true, decide_eq_true_eq] at h
    exact Nat.lt_of_lt_of_le (be_lt p) (Nat.le_trans (Nat.pow_le_pow_right (by omega) h.1) (by decide))
  · decide

def numN (s : Option (List UInt8)) : Num := ⟨numOf (numB s), numOf_lt _⟩
def coinS (s : Option (List UInt8)) : Coin := ⟨byteS s, numN (takeS 1 s)⟩

/-- What is read of m coins more, where l have been read. -/
def coinsGo : Nat → Option (List UInt8) → List Coin → List Coin × Option (List UInt8)
  | 0, s, l => (l, s)
  | _ + 1, none, l => (l, none)
  | m + 1, some p, l => coinsGo m (numS (takeS 1 (some p))) (l ++ [coinS (some p)])

theorem coinsGo_more {m : Nat} {s : Option (List UInt8)} {l : List Coin} (hm : 0 < m) (hs : ¬ s = none) : coinsGo m s l = coinsGo (m - 1) (numS (takeS 1 s)) (l ++ [coinS s]) := by
  match m, s, hm, hs with
  | m + 1, some p, _, _ => rfl
theorem coinsGo_stop {m : Nat} {s : Option (List UInt8)} {l : List Coin} (h : m = 0 ∨ s = none) : coinsGo m s l = (l, s) := by
  match m, s, h with
  | 0, _, _ => rfl
  | m + 1, none, _ => rfl

def coinsR (s : Option (List UInt8)) : List Coin × Option (List UInt8) := coinsGo (be (takeB 1 s)) (takeS 1 s) []
def coinsS (s : Option (List UInt8)) : Option (List UInt8) := if Right (coinsR s).1 then (coinsR s).2 else none
def coinsL (s : Option (List UInt8)) : List Coin := if coinsS s = none then [] else (coinsR s).1

/-- A list that is being made: the nil list, or one that may be appended to. -/
def slA (k : Nat) (l : List Coin) : AV := if l = [] then .sl 0 [] 0 .full else .sl 5 (coinsC l) l.length (.own k)
def tkA (l : List Coin) : List Nat := if l = [] then [] else [l.length]

theorem wk_slA (k : Nat) (l : List Coin) : Wk (slA k l) (.sl 5 (coinsC l) l.length .shut) := by
  unfold slA
  split
  · rename_i h; subst h; exact Wk.nil _ _ _
  · exact Wk.shut _ _ _ _

@[simp] theorem slA_nil (k : Nat) : slA k [] = .sl 0 [] 0 .full := rfl
@[simp] theorem tkA_nil : tkA [] = [] := rfl

theorem right_slA {σ : St} {k : Nat} {l : List Coin} (hl : l.length ≤ 1000000) : CallsA Try.prog 97 [slA k l] σ (fun av σ' => av = .v (.bool (decide (Right l))) ∧ σ = σ') :=
  callsA_wk (.cons (wk_slA k l) .nil) (right_ok (by omega))
theorem rright_slA {σ : St} {k : Nat} {l : List Coin} (hl : l.length ≤ 1000000) : CallsA Try.prog 29 [slA k l] σ (fun av σ' => av = .v (.bool (decide (Right l))) ∧ σ = σ') :=
  callsA_wk (.cons (wk_slA k l) .nil) (rright_ok (by omega))

theorem right_nilA {σ : St} : CallsA Try.prog 97 [.sl 0 [] 0 .full] σ (fun av σ' => av = .v (.bool true) ∧ σ = σ') := by
  have := right_slA (σ := σ) (k := 0) (l := []) (by simp)
  have e : decide (Right []) = true := by decide
  rw [e] at this
  exact this
theorem coinS_cells (s : Option (List UInt8)) : AV.v (.int .u8 (be (takeB 1 s) : Nat)) :: numA (numOf (numB (takeS 1 s))) = coinC (coinS s) := by
  rw [be_byteS]; rfl
theorem build_coin (c : Coin) : buildSliceA Try.prog 23 1 [(0, .agg (coinC c))] = some (.sl 5 (coinC c) 1 .full) := by kernel_rfl
class Small (l : List Coin) : Prop where
  h : l.length ≤ 1000

theorem append_slA {l : List Coin} [hsm : Small l] {c : Coin} {objs : List (List AV)} {tk : List Nat} {gl : Nat → Option (List AV)} {rows : List RowSt} :
    appendA Try.prog 23 (slA tk.length l) (.sl 5 (coinC c) 1 .full) ⟨objs, tk ++ tkA l, gl, rows⟩ = some (slA tk.length (l ++ [c]), ⟨objs, tk ++ tkA (l ++ [c]), gl, rows⟩) := by
  have hl := hsm.h
  by_cases h : l = []
  · subst h
    simp [slA, tkA, appendA, readA, roomA, maxLen, coinsC]
    rfl
  · have h1 : (l.length + 1) * 40 ≤ 140737488355328 := by omega
    have h2 : l.length + 1 ≤ 9223372036854775807 := by omega
    simp [slA, tkA, h, appendA, readA, roomA, maxLen, h1, h2, coinsC_snoc]
    rfl
theorem append_nilA {c : Coin} {σ : St} : appendA Try.prog 23 (.sl 0 [] 0 .full) (.sl 5 (coinC c) 1 .full) σ = some (slA σ.toks.length [c], { σ with toks := σ.toks ++ tkA [c] }) := by
  have : Small [] := ⟨by simp⟩
  have := append_slA (l := []) (c := c) (objs := σ.objs) (tk := σ.toks) (gl := σ.gl) (rows := σ.rows)
  simpa using this

structure CSt where
  m : Nat
  s : Option (List UInt8)
  l : List Coin

theorem coinsR_none {s : Option (List UInt8)} {L : List Coin} {S : Option (List UInt8)} (h : coinsR s = (L, S)) (h2 : ¬ Right L ∨ S = none) : coinsL s = [] ∧ coinsS s = none := by
  have e : coinsS s = none := by
    unfold coinsS
    rw [h]
    rcases h2 with h2 | h2
    · rw [if_neg h2]
    · simp [h2]
  exact ⟨by simp [coinsL, e], e⟩
theorem coinsR_some {s : Option (List UInt8)} {L : List Coin} {S : Option (List UInt8)} (h : coinsR s = (L, S)) (h1 : Right L) (h2 : ¬ S = none) : coinsL s = L ∧ coinsS s = S := by
  have e : coinsS s = S := by
    unfold coinsS
    rw [h, if_pos h1]
  exact ⟨by rw [coinsL, e, if_neg h2, h], e⟩

set_option maxHeartbeats 1600000 in
attribute [local simp] undefA List.getElem?_cons_zero List.getElem?_cons_succ coinS_cells build_coin append_nilA append_slA in
theorem rcoins_raw {σ : St} {id : Nat} {s : Option (List UInt8)} (h : σ.objs[id]? = some (rd s)) :
    CallsA Try.prog 82 [.ptr id 0] σ (fun av σ' => av = .sl 5 (coinsC (coinsL s)) (coinsL s).length .shut ∧ σ' = { σ with objs := σ.objs.set id (rd (coinsS s)) }) := by
  refine callsA_gc_obj (Q := fun av σ' => Wk av (.sl 5 (coinsC (coinsL s)) (coinsL s).length .shut) ∧ ∃ l m r, σ' = { σ with objs := σ.objs.set id (rd (coinsS s)) ++ l, toks := σ.toks ++ m, rows := σ.rows ++ r }) ?_ (fun av σ' h => h) (by simp [AV.under]) (rd_under _ _)
  have hs := set_self_of h
  have hm := be_lt1 (takeB_len 1 s)
  have F := And.intro h (And.intro hs (True.intro))
  refine callsA_body Try.func82 rfl rfl rfl ?_
  refine sq fun K1 hK1 => ?_
  refine rg' (h := fun J2 hJ2 => ?_)
  refine hJ2 _ _ ?_
  refine hK1 _ _ ?_
  refine run_scope_jumpsF 0 (X := CSt) [0] (fun q ρ σ1 => (q.m + q.l.length ≤ 255) ∧ (coinsGo q.m q.s q.l = coinsR s) ∧ (ρ 4 = .v (.int .u8 q.m)) ∧ (ρ 3 = slA σ.toks.length q.l) ∧ (σ1 = { σ with objs := σ.objs.set id (rd q.s), toks := σ.toks ++ tkA q.l })) (fun q => q.m) rfl ?first ?pass
  case first =>
   refine sq fun K3 hK3 => ?_
   refine rg' (h := fun J4 hJ4 => ?_)
   refine hJ4 _ _ ?_
   refine hK3 _ _ ?_
   refine sq fun K5 hK5 => ?_
   refine rg' (h := fun J6 hJ6 => ?_)
   refine ca (c := byte_ok (by first | exact h | exact hs _)) (k := ?_)
   rintro _ _ ⟨rfl, rfl⟩
   repeat (first | simp [F] | simp (disch := omega) only [wC, if_pos, if_neg])
   refine hJ6 _ _ ?_
   refine hK5 _ _ ?_
   refine sq fun K7 hK7 => ?_
   refine run_label ?_
   refine hK7 _ _ ?_
   refine sq fun K8 hK8 => ?_
   refine sq fun K9 hK9 => ?_
   refine rg' (h := fun J10 hJ10 => ?_)
   refine gs 10 (fun g3_2 => ?_) (fun g3_2 => ?_)
   · try exact nope g3_2
     all_goals have g3_2p := g3_2
     all_goals try simp [F] at g3_2p
     all_goals
      replace F := And.intro g3_2 F
      try replace F := And.intro g3_2p F
      refine go2 (k := ?_)
      refine ca (c := bad_ok (hs _)) (k := ?_)
      rintro _ _ ⟨rfl, rfl⟩
      repeat (first | simp [F] | simp (disch := omega) only [wC, if_pos, if_neg])
      refine go2 (k := ?_)
      refine hJ10 _ _ ?_
      refine hK9 _ _ ?_
      refine cs (fun c14 => ?_) (fun c14 => ?_)
      · try exact nope c14
        all_goals have c14p := c14
        all_goals try simp [F] at c14p
        all_goals
         replace F := And.intro c14 F
         try replace F := And.intro c14p F
         refine sq fun K11 hK11 => ?_
         refine rg' (h := fun J12 hJ12 => ?_)
         refine ca (c := byte_ok (by first | exact h | exact hs _)) (k := ?_)
         rintro _ _ ⟨rfl, rfl⟩
         repeat (first | simp [F] | simp (disch := omega) only [wC, if_pos, if_neg])
         refine hJ12 _ _ ?_
         refine hK11 _ _ ?_
         refine sq fun K13 hK13 => ?_
         try have : Small q.l := ⟨by omega⟩
         refine rg' (h := fun J14 hJ14 => ?_)
         refine ca (c := num_ok (hs _)) (k := ?_)
         rintro _ _ ⟨rfl, rfl⟩
         repeat (first | simp [F] | simp (disch := omega) only [wC, if_pos, if_neg])
         refine hJ14 _ _ ?_
         refine hK13 _ _ ?_
         refine sq fun K15 hK15 => ?_
         refine rg' (h := fun J16 hJ16 => ?_)
         refine hJ16 _ _ ?_
         refine hK15 _ _ ?_
         refine run_goto ?_
         refine ⟨rfl, (⟨be (takeB 1 s) - 1, numS (takeS 1 (takeS 1 s)), [coinS (takeS 1 s)]⟩), ⟨kp, lp, ?_, lp, lp, lp⟩⟩
         · exact (coinsGo_more (l := []) g3_2p (by intro e; simp [e] at c14p)).symm
      try exact nope c14
      all_goals have c14p := c14
      all_goals try simp [F] at c14p
      all_goals
       replace F := And.intro c14 F
       try replace F := And.intro c14p F
       refine run_skip ?_
       refine hK8 _ _ ?_
       refine sq fun K17 hK17 => ?_
       refine sq fun K18 hK18 => ?_
       refine rg' (h := fun J19 hJ19 => ?_)
       refine ca (c := (by first | exact right_nilA | exact right_slA (by omega))) (k := ?_)
       rintro _ _ ⟨rfl, rfl⟩
       repeat (first | simp [F] | simp (disch := omega) only [wC, if_pos, if_neg])
       refine hJ19 _ _ ?_
       refine hK18 _ _ ?_
       refine cs (fun c28 => ?_) (fun c28 => ?_)
       · try exact nope c28
         all_goals have c28p := c28
         all_goals try simp [F] at c28p
         all_goals
          replace F := And.intro c28 F
          try replace F := And.intro c28p F
          refine rg' (h := fun J20 hJ20 => ?_)
          refine ca (c := fail_ok (hs _)) (k := ?_)
          rintro _ _ ⟨rfl, rfl⟩
          repeat (first | simp [F] | simp (disch := omega) only [wC, if_pos, if_neg])
          refine hJ20 _ _ ?_
          refine hK17 _ _ ?_
          refine sq fun K21 hK21 => ?_
          refine sq fun K22 hK22 => ?_
          refine rg' (h := fun J23 hJ23 => ?_)
          refine ca (c := bad_ok (hs _)) (k := ?_)
          rintro _ _ ⟨rfl, rfl⟩
          repeat (first | simp [F] | simp (disch := omega) only [wC, if_pos, if_neg])
          refine hJ23 _ _ ?_
          refine hK22 _ _ ?_
          refine cs (fun c32 => ?_) (fun c32 => ?_)
          · try exact nope c32
            all_goals have c32p := c32
            all_goals try simp [F] at c32p
            all_goals
             replace F := And.intro c32 F
             try replace F := And.intro c32p F
             refine sq fun K24 hK24 => ?_
             refine rg' (h := fun J25 hJ25 => ?_)
             refine hJ25 _ _ ?_
             refine hK24 _ _ ?_
             refine run_ret ?_
             try simp only [Then, InBlock, NoGoto]
             refine answer_tmp rfl (.inr rfl) ?_
             have e : coinsR s = (q.l, q.s) := by rw [← hg]; exact coinsGo_stop (by first | (left; simp at g3_2; omega) | (right; simpa using c14))
             obtain ⟨e1, e2⟩ := coinsR_none e (.inl (by simpa using c28))
             rw [e1, e2]
             exact ⟨Wk.nil _ _ _, [], tkA q.l, [], by simp⟩
          try exact nope c32
          all_goals have c32p := c32
          all_goals try simp [F] at c32p
          all_goals
           replace F := And.intro c32 F
           try replace F := And.intro c32p F
           refine run_skip ?_
           refine hK21 _ _ ?_
           refine sq fun K26 hK26 => ?_
           refine rg' (h := fun J27 hJ27 => ?_)
           refine hJ27 _ _ ?_
           refine hK26 _ _ ?_
           refine run_ret ?_
           try simp only [Then, InBlock, NoGoto]
           refine answer_tmp rfl (.inr rfl) ?_
           have e : coinsR s = (q.l, q.s) := by rw [← hg]; exact coinsGo_stop (by first | (left; simp at g3_2; omega) | (right; simpa using c14))
           obtain ⟨e1, e2⟩ := coinsR_none e (.inl (by simpa using c28))
           rw [e1, e2]
           exact ⟨Wk.nil _ _ _, [], tkA q.l, [], by simp⟩
       try exact nope c28
       all_goals have c28p := c28
       all_goals try simp [F] at c28p
       all_goals
        replace F := And.intro c28 F
        try replace F := And.intro c28p F
        refine run_skip ?_
        refine hK17 _ _ ?_
        refine sq fun K28 hK28 => ?_
        refine sq fun K29 hK29 => ?_
        refine rg' (h := fun J30 hJ30 => ?_)
        refine ca (c := bad_ok (hs _)) (k := ?_)
        rintro _ _ ⟨rfl, rfl⟩
        repeat (first | simp [F] | simp (disch := omega) only [wC, if_pos, if_neg])
        refine hJ30 _ _ ?_
        refine hK29 _ _ ?_
        refine cs (fun c32 => ?_) (fun c32 => ?_)
        · try exact nope c32
          all_goals have c32p := c32
          all_goals try simp [F] at c32p
          all_goals
           replace F := And.intro c32 F
           try replace F := And.intro c32p F
           refine sq fun K31 hK31 => ?_
           refine rg' (h := fun J32 hJ32 => ?_)
           refine hJ32 _ _ ?_
           refine hK31 _ _ ?_
           refine run_ret ?_
           try simp only [Then, InBlock, NoGoto]
           refine answer_tmp rfl (.inr rfl) ?_
           first | (obtain ⟨e1, e2⟩ := coinsR_none (L := q.l) (S := q.s) (by rw [← hg]; exact coinsGo_stop (.inr (by simpa using c14))) (.inr (by simpa using c14)); rw [e1, e2]; exact ⟨Wk.nil _ _ _, [], tkA q.l, [], by simp⟩) | (have h0 : takeS 1 s = none := (by simpa using c14); obtain ⟨e1, e2⟩ := coinsR_none (by rw [coinsR, coinsGo_stop (.inr h0)]) (.inr h0); rw [e1, e2]; exact ⟨Wk.nil _ _ _, [], [], [], by simp⟩)
        try exact nope c32
        all_goals have c32p := c32
        all_goals try simp [F] at c32p
        all_goals
         replace F := And.intro c32 F
         try replace F := And.intro c32p F
         refine run_skip ?_
         refine hK28 _ _ ?_
         refine sq fun K33 hK33 => ?_
         refine rg' (h := fun J34 hJ34 => ?_)
         refine hJ34 _ _ ?_
         refine hK33 _ _ ?_
         refine run_ret ?_
         try simp only [Then, InBlock, NoGoto]
         refine answer_tmp rfl (.inr rfl) ?_
         first | (obtain ⟨e1, e2⟩ := coinsR_none (L := q.l) (S := q.s) (by rw [← hg]; exact coinsGo_stop (.inr (by simpa using c14))) (.inr (by simpa using c14)); rw [e1, e2]; exact ⟨Wk.nil _ _ _, [], tkA q.l, [], by simp⟩) | (have h0 : takeS 1 s = none := (by simpa using c14); obtain ⟨e1, e2⟩ := coinsR_none (by rw [coinsR, coinsGo_stop (.inr h0)]) (.inr h0); rw [e1, e2]; exact ⟨Wk.nil _ _ _, [], [], [], by simp⟩)
   try exact nope g3_2
   all_goals have g3_2p := g3_2
   all_goals try simp [F] at g3_2p
   all_goals
    replace F := And.intro g3_2 F
    try replace F := And.intro g3_2p F
    refine no2 (k := ?_)
    refine no2 (k := ?_)
    refine no2 (k := ?_)
    refine hJ10 _ _ ?_
    refine hK9 _ _ ?_
    refine cf ?_
    refine run_skip ?_
    refine hK8 _ _ ?_
    refine sq fun K35 hK35 => ?_
    refine sq fun K36 hK36 => ?_
    refine rg' (h := fun J37 hJ37 => ?_)
    refine ca (c := (by first | exact right_nilA | exact right_slA (by omega))) (k := ?_)
    rintro _ _ ⟨rfl, rfl⟩
    repeat (first | simp [F] | simp (disch := omega) only [wC, if_pos, if_neg])
    refine hJ37 _ _ ?_
    refine hK36 _ _ ?_
    refine cs (fun c28 => ?_) (fun c28 => ?_)
    · try exact nope c28
      all_goals have c28p := c28
      all_goals try simp [F] at c28p
      all_goals
       replace F := And.intro c28 F
       try replace F := And.intro c28p F
       refine rg' (h := fun J38 hJ38 => ?_)
       refine ca (c := fail_ok (hs _)) (k := ?_)
       rintro _ _ ⟨rfl, rfl⟩
       repeat (first | simp [F] | simp (disch := omega) only [wC, if_pos, if_neg])
       refine hJ38 _ _ ?_
       refine hK35 _ _ ?_
       refine sq fun K39 hK39 => ?_
       refine sq fun K40 hK40 => ?_
       refine rg' (h := fun J41 hJ41 => ?_)
       refine ca (c := bad_ok (hs _)) (k := ?_)
       rintro _ _ ⟨rfl, rfl⟩
       repeat (first | simp [F] | simp (disch := omega) only [wC, if_pos, if_neg])
       refine hJ41 _ _ ?_
       refine hK40 _ _ ?_
       refine cs (fun c32 => ?_) (fun c32 => ?_)
       · try exact nope c32
         all_goals have c32p := c32
         all_goals try simp [F] at c32p
         all_goals
          replace F := And.intro c32 F
          try replace F := And.intro c32p F
          refine sq fun K42 hK42 => ?_
          refine rg' (h := fun J43 hJ43 => ?_)
          refine hJ43 _ _ ?_
          refine hK42 _ _ ?_
          refine run_ret ?_
          try simp only [Then, InBlock, NoGoto]
          refine answer_tmp rfl (.inr rfl) ?_
          have e : coinsR s = (q.l, q.s) := by rw [← hg]; exact coinsGo_stop (by first | (left; simp at g3_2; omega) | (right; simpa using c14))
          obtain ⟨e1, e2⟩ := coinsR_none e (.inl (by simpa using c28))
          rw [e1, e2]
          exact ⟨Wk.nil _ _ _, [], tkA q.l, [], by simp⟩
       try exact nope c32
       all_goals have c32p := c32
       all_goals try simp [F] at c32p
       all_goals
        replace F := And.intro c32 F
        try replace F := And.intro c32p F
        refine run_skip ?_
        refine hK39 _ _ ?_
        refine sq fun K44 hK44 => ?_
        refine rg' (h := fun J45 hJ45 => ?_)
        refine hJ45 _ _ ?_
        refine hK44 _ _ ?_
        refine run_ret ?_
        try simp only [Then, InBlock, NoGoto]
        refine answer_tmp rfl (.inr rfl) ?_
        have e : coinsR s = (q.l, q.s) := by rw [← hg]; exact coinsGo_stop (by first | (left; simp at g3_2; omega) | (right; simpa using c14))
        obtain ⟨e1, e2⟩ := coinsR_none e (.inl (by simpa using c28))
        rw [e1, e2]
        exact ⟨Wk.nil _ _ _, [], tkA q.l, [], by simp⟩
    try exact nope c28
    all_goals have c28p := c28
    all_goals try simp [F] at c28p
    all_goals
     replace F := And.intro c28 F
     try replace F := And.intro c28p F
     refine run_skip ?_
     refine hK35 _ _ ?_
     refine sq fun K46 hK46 => ?_
     refine sq fun K47 hK47 => ?_
     refine rg' (h := fun J48 hJ48 => ?_)
     refine ca (c := bad_ok (hs _)) (k := ?_)
     rintro _ _ ⟨rfl, rfl⟩
     repeat (first | simp [F] | simp (disch := omega) only [wC, if_pos, if_neg])
     refine hJ48 _ _ ?_
     refine hK47 _ _ ?_
     refine cs (fun c32 => ?_) (fun c32 => ?_)
     · try exact nope c32
       all_goals have c32p := c32
       all_goals try simp [F] at c32p
       all_goals
        replace F := And.intro c32 F
        try replace F := And.intro c32p F
        refine sq fun K49 hK49 => ?_
        refine rg' (h := fun J50 hJ50 => ?_)
        refine hJ50 _ _ ?_
        refine hK49 _ _ ?_
        refine run_ret ?_
        try simp only [Then, InBlock, NoGoto]
        refine answer_tmp rfl (.inr rfl) ?_
        first | (obtain ⟨e1, e2⟩ := coinsR_none (L := q.l) (S := q.s) (by rw [← hg]; exact coinsGo_stop (.inr (by simpa using c32))) (.inr (by simpa using c32)); rw [e1, e2]; exact ⟨Wk.nil _ _ _, [], tkA q.l, [], by simp⟩) | (have h0 : takeS 1 s = none := (by simpa using c32); obtain ⟨e1, e2⟩ := coinsR_none (by rw [coinsR, coinsGo_stop (.inr h0)]) (.inr h0); rw [e1, e2]; exact ⟨Wk.nil _ _ _, [], [], [], by simp⟩)
     try exact nope c32
     all_goals have c32p := c32
     all_goals try simp [F] at c32p
     all_goals
      replace F := And.intro c32 F
      try replace F := And.intro c32p F
      refine run_skip ?_
      refine hK46 _ _ ?_
      refine sq fun K51 hK51 => ?_
      refine rg' (h := fun J52 hJ52 => ?_)
      refine hJ52 _ _ ?_
      refine hK51 _ _ ?_
      refine run_ret ?_
      try simp only [Then, InBlock, NoGoto]
      refine answer_tmp rfl (.inr rfl) ?_
      first | (obtain ⟨e1, e2⟩ := coinsR_some (L := q.l) (S := q.s) (by rw [← hg]; exact coinsGo_stop (.inl (by simp at g3_2; omega))) (by simpa using c28) (by intro e; simp [e] at c32); rw [e1, e2]; exact ⟨wk_slA _ _, [], tkA q.l, [], by simp⟩) | (have h0 : be (takeB 1 s) = 0 := (by simp at g3_2; omega); obtain ⟨e1, e2⟩ := coinsR_some (by rw [coinsR, coinsGo_stop (.inl h0)]) (by decide) (by intro e; simp [e] at c32); rw [e1, e2]; exact ⟨Wk.nil _ _ _, [], [], [], by simp⟩)
  case pass =>
   rintro q ρgoto σ1 hFgoto ⟨hm, hg, h4, h3, hσ⟩
   obtain rfl := hσ.symm
   have fgoto := keepL hFgoto
   try simp [KeepL, F] at fgoto
   replace F := And.intro h4 F
   replace F := And.intro h3 F
   try replace F := And.intro fgoto F
   refine sq fun K53 hK53 => ?_
   refine run_skip ?_
   refine hK53 _ _ ?_
   refine sq fun K54 hK54 => ?_
   refine sq fun K55 hK55 => ?_
   refine rg' (h := fun J56 hJ56 => ?_)
   refine gs 10 (fun g3_2 => ?_) (fun g3_2 => ?_)
   · try exact nope g3_2
     all_goals have g3_2p := g3_2
     all_goals try simp [F] at g3_2p
     all_goals
      replace F := And.intro g3_2 F
      try replace F := And.intro g3_2p F
      refine go2 (k := ?_)
      refine ca (c := bad_ok (hs _)) (k := ?_)
      rintro _ _ ⟨rfl, rfl⟩
      repeat (first | simp [F] | simp (disch := omega) only [wC, if_pos, if_neg])
      refine go2 (k := ?_)
      refine hJ56 _ _ ?_
      refine hK55 _ _ ?_
      refine cs (fun c14 => ?_) (fun c14 => ?_)
      · try exact nope c14
        all_goals have c14p := c14
        all_goals try simp [F] at c14p
        all_goals
         replace F := And.intro c14 F
         try replace F := And.intro c14p F
         refine sq fun K57 hK57 => ?_
         refine rg' (h := fun J58 hJ58 => ?_)
         refine ca (c := byte_ok (by first | exact h | exact hs _)) (k := ?_)
         rintro _ _ ⟨rfl, rfl⟩
         repeat (first | simp [F] | simp (disch := omega) only [wC, if_pos, if_neg])
         refine hJ58 _ _ ?_
         refine hK57 _ _ ?_
         refine sq fun K59 hK59 => ?_
         try have : Small q.l := ⟨by omega⟩
         refine rg' (h := fun J60 hJ60 => ?_)
         refine ca (c := num_ok (hs _)) (k := ?_)
         rintro _ _ ⟨rfl, rfl⟩
         repeat (first | simp [F] | simp (disch := omega) only [wC, if_pos, if_neg])
         refine hJ60 _ _ ?_
         refine hK59 _ _ ?_
         refine sq fun K61 hK61 => ?_
         refine rg' (h := fun J62 hJ62 => ?_)
         refine hJ62 _ _ ?_
         refine hK61 _ _ ?_
         refine run_goto ?_
         refine ⟨rfl, (⟨q.m - 1, numS (takeS 1 q.s), q.l ++ [coinS q.s]⟩), ⟨kp, ?_, ?_, lp, lp, ?_⟩, ?_⟩
         · simp
           omega
         · rw [← hg]
           exact (coinsGo_more g3_2p (by intro e; simp [e] at c14p)).symm
         · rfl
         · simp
           omega
      try exact nope c14
      all_goals have c14p := c14
      all_goals try simp [F] at c14p
      all_goals
       replace F := And.intro c14 F
       try replace F := And.intro c14p F
       refine run_skip ?_
       refine hK54 _ _ ?_
       refine sq fun K63 hK63 => ?_
       refine sq fun K64 hK64 => ?_
       refine rg' (h := fun J65 hJ65 => ?_)
       refine ca (c := (by first | exact right_nilA | exact right_slA (by omega))) (k := ?_)
       rintro _ _ ⟨rfl, rfl⟩
       repeat (first | simp [F] | simp (disch := omega) only [wC, if_pos, if_neg])
       refine hJ65 _ _ ?_
       refine hK64 _ _ ?_
       refine cs (fun c28 => ?_) (fun c28 => ?_)
       · try exact nope c28
         all_goals have c28p := c28
         all_goals try simp [F] at c28p
         all_goals
          replace F := And.intro c28 F
          try replace F := And.intro c28p F
          refine rg' (h := fun J66 hJ66 => ?_)
          refine ca (c := fail_ok (hs _)) (k := ?_)
          rintro _ _ ⟨rfl, rfl⟩
          repeat (first | simp [F] | simp (disch := omega) only [wC, if_pos, if_neg])
          refine hJ66 _ _ ?_
          refine hK63 _ _ ?_
          refine sq fun K67 hK67 => ?_
          refine sq fun K68 hK68 => ?_
          refine rg' (h := fun J69 hJ69 => ?_)
          refine ca (c := bad_ok (hs _)) (k := ?_)
          rintro _ _ ⟨rfl, rfl⟩
          repeat (first | simp [F] | simp (disch := omega) only [wC, if_pos, if_neg])
          refine hJ69 _ _ ?_
          refine hK68 _ _ ?_
          refine cs (fun c32 => ?_) (fun c32 => ?_)
          · try exact nope c32
            all_goals have c32p := c32
            all_goals try simp [F] at c32p
            all_goals
             replace F := And.intro c32 F
             try replace F := And.intro c32p F
             refine sq fun K70 hK70 => ?_
             refine rg' (h := fun J71 hJ71 => ?_)
             refine hJ71 _ _ ?_
             refine hK70 _ _ ?_
             refine run_ret ?_
             try simp only [Then, InBlock, NoGoto]
             refine answer_tmp rfl (.inr rfl) ?_
             have e : coinsR s = (q.l, q.s) := by rw [← hg]; exact coinsGo_stop (by first | (left; simp at g3_2; omega) | (right; simpa using c14))
             obtain ⟨e1, e2⟩ := coinsR_none e (.inl (by simpa using c28))
             rw [e1, e2]
             exact ⟨Wk.nil _ _ _, [], tkA q.l, [], by simp⟩
          try exact nope c32
          all_goals have c32p := c32
          all_goals try simp [F] at c32p
          all_goals
           replace F := And.intro c32 F
           try replace F := And.intro c32p F
           refine run_skip ?_
           refine hK67 _ _ ?_
           refine sq fun K72 hK72 => ?_
           refine rg' (h := fun J73 hJ73 => ?_)
           refine hJ73 _ _ ?_
           refine hK72 _ _ ?_
           refine run_ret ?_
           try simp only [Then, InBlock, NoGoto]
           refine answer_tmp rfl (.inr rfl) ?_
           have e : coinsR s = (q.l, q.s) := by rw [← hg]; exact coinsGo_stop (by first | (left; simp at g3_2; omega) | (right; simpa using c14))
           obtain ⟨e1, e2⟩ := coinsR_none e (.inl (by simpa using c28))
           rw [e1, e2]
           exact ⟨Wk.nil _ _ _, [], tkA q.l, [], by simp⟩
       try exact nope c28
       all_goals have c28p := c28
       all_goals try simp [F] at c28p
       all_goals
        replace F := And.intro c28 F
        try replace F := And.intro c28p F
        refine run_skip ?_
        refine hK63 _ _ ?_
        refine sq fun K74 hK74 => ?_
        refine sq fun K75 hK75 => ?_
        refine rg' (h := fun J76 hJ76 => ?_)
        refine ca (c := bad_ok (hs _)) (k := ?_)
        rintro _ _ ⟨rfl, rfl⟩
        repeat (first | simp [F] | simp (disch := omega) only [wC, if_pos, if_neg])
        refine hJ76 _ _ ?_
        refine hK75 _ _ ?_
        refine cs (fun c32 => ?_) (fun c32 => ?_)
        · try exact nope c32
          all_goals have c32p := c32
          all_goals try simp [F] at c32p
          all_goals
           replace F := And.intro c32 F
           try replace F := And.intro c32p F
           refine sq fun K77 hK77 => ?_
           refine rg' (h := fun J78 hJ78 => ?_)
           refine hJ78 _ _ ?_
           refine hK77 _ _ ?_
           refine run_ret ?_
           try simp only [Then, InBlock, NoGoto]
           refine answer_tmp rfl (.inr rfl) ?_
           first | (obtain ⟨e1, e2⟩ := coinsR_none (L := q.l) (S := q.s) (by rw [← hg]; exact coinsGo_stop (.inr (by simpa using c14))) (.inr (by simpa using c14)); rw [e1, e2]; exact ⟨Wk.nil _ _ _, [], tkA q.l, [], by simp⟩) | (have h0 : takeS 1 s = none := (by simpa using c14); obtain ⟨e1, e2⟩ := coinsR_none (by rw [coinsR, coinsGo_stop (.inr h0)]) (.inr h0); rw [e1, e2]; exact ⟨Wk.nil _ _ _, [], [], [], by simp⟩)
        try exact nope c32
        all_goals have c32p := c32
        all_goals try simp [F] at c32p
        all_goals
         replace F := And.intro c32 F
         try replace F := And.intro c32p F
         refine run_skip ?_
         refine hK74 _ _ ?_
         refine sq fun K79 hK79 => ?_
         refine rg' (h := fun J80 hJ80 => ?_)
         refine hJ80 _ _ ?_
         refine hK79 _ _ ?_
         refine run_ret ?_
         try simp only [Then, InBlock, NoGoto]
         refine answer_tmp rfl (.inr rfl) ?_
         first | (obtain ⟨e1, e2⟩ := coinsR_none (L := q.l) (S := q.s) (by rw [← hg]; exact coinsGo_stop (.inr (by simpa using c14))) (.inr (by simpa using c14)); rw [e1, e2]; exact ⟨Wk.nil _ _ _, [], tkA q.l, [], by simp⟩) | (have h0 : takeS 1 s = none := (by simpa using c14); obtain ⟨e1, e2⟩ := coinsR_none (by rw [coinsR, coinsGo_stop (.inr h0)]) (.inr h0); rw [e1, e2]; exact ⟨Wk.nil _ _ _, [], [], [], by simp⟩)
   try exact nope g3_2
   all_goals have g3_2p := g3_2
   all_goals try simp [F] at g3_2p
   all_goals
    replace F := And.intro g3_2 F
    try replace F := And.intro g3_2p F
    refine no2 (k := ?_)
    refine no2 (k := ?_)
    refine no2 (k := ?_)
    refine hJ56 _ _ ?_
    refine hK55 _ _ ?_
    refine cf ?_
    refine run_skip ?_
    refine hK54 _ _ ?_
    refine sq fun K81 hK81 => ?_
    refine sq fun K82 hK82 => ?_
    refine rg' (h := fun J83 hJ83 => ?_)
    refine ca (c := (by first | exact right_nilA | exact right_slA (by omega))) (k := ?_)
    rintro _ _ ⟨rfl, rfl⟩
    repeat (first | simp [F] | simp (disch := omega) only [wC, if_pos, if_neg])
    refine hJ83 _ _ ?_
    refine hK82 _ _ ?_
    refine cs (fun c28 => ?_) (fun c28 => ?_)
    · try exact nope c28
      all_goals have c28p := c28
      all_goals try simp [F] at c28p
      all_goals
       replace F := And.intro c28 F
       try replace F := And.intro c28p F
       refine rg' (h := fun J84 hJ84 => ?_)
       refine ca (c := fail_ok (hs _)) (k := ?_)
       rintro _ _ ⟨rfl, rfl⟩
       repeat (first | simp [F] | simp (disch := omega) only [wC, if_pos, if_neg])
       refine hJ84 _ _ ?_
       refine hK81 _ _ ?_
       refine sq fun K85 hK85 => ?_
       refine sq fun K86 hK86 => ?_
       refine rg' (h := fun J87 hJ87 => ?_)
       refine ca (c := bad_ok (hs _)) (k := ?_)
       rintro _ _ ⟨rfl, rfl⟩
       repeat (first | simp [F] | simp (disch := omega) only [wC, if_pos, if_neg])
       refine hJ87 _ _ ?_
       refine hK86 _ _ ?_
       refine cs (fun c32 => ?_) (fun c32 => ?_)
       · try exact nope c32
         all_goals have c32p := c32
         all_goals try simp [F] at c32p
         all_goals
          replace F := And.intro c32 F
          try replace F := And.intro c32p F
          refine sq fun K88 hK88 => ?_
          refine rg' (h := fun J89 hJ89 => ?_)
          refine hJ89 _ _ ?_
          refine hK88 _ _ ?_
          refine run_ret ?_
          try simp only [Then, InBlock, NoGoto]
          refine answer_tmp rfl (.inr rfl) ?_
          have e : coinsR s = (q.l, q.s) := by rw [← hg]; exact coinsGo_stop (by first | (left; simp at g3_2; omega) | (right; simpa using c14))
          obtain ⟨e1, e2⟩ := coinsR_none e (.inl (by simpa using c28))
          rw [e1, e2]
          exact ⟨Wk.nil _ _ _, [], tkA q.l, [], by simp⟩
       try exact nope c32
       all_goals have c32p := c32
       all_goals try simp [F] at c32p
       all_goals
        replace F := And.intro c32 F
        try replace F := And.intro c32p F
        refine run_skip ?_
        refine hK85 _ _ ?_
        refine sq fun K90 hK90 => ?_
        refine rg' (h := fun J91 hJ91 => ?_)
        refine hJ91 _ _ ?_
        refine hK90 _ _ ?_
        refine run_ret ?_
        try simp only [Then, InBlock, NoGoto]
        refine answer_tmp rfl (.inr rfl) ?_
        have e : coinsR s = (q.l, q.s) := by rw [← hg]; exact coinsGo_stop (by first | (left; simp at g3_2; omega) | (right; simpa using c14))
        obtain ⟨e1, e2⟩ := coinsR_none e (.inl (by simpa using c28))
        rw [e1, e2]
        exact ⟨Wk.nil _ _ _, [], tkA q.l, [], by simp⟩
    try exact nope c28
    all_goals have c28p := c28
    all_goals try simp [F] at c28p
    all_goals
     replace F := And.intro c28 F
     try replace F := And.intro c28p F
     refine run_skip ?_
     refine hK81 _ _ ?_
     refine sq fun K92 hK92 => ?_
     refine sq fun K93 hK93 => ?_
     refine rg' (h := fun J94 hJ94 => ?_)
     refine ca (c := bad_ok (hs _)) (k := ?_)
     rintro _ _ ⟨rfl, rfl⟩
     repeat (first | simp [F] | simp (disch := omega) only [wC, if_pos, if_neg])
     refine hJ94 _ _ ?_
     refine hK93 _ _ ?_
     refine cs (fun c32 => ?_) (fun c32 => ?_)
     · try exact nope c32
       all_goals have c32p := c32
       all_goals try simp [F] at c32p
       all_goals
        replace F := And.intro c32 F
        try replace F := And.intro c32p F
        refine sq fun K95 hK95 => ?_
        refine rg' (h := fun J96 hJ96 => ?_)
        refine hJ96 _ _ ?_
        refine hK95 _ _ ?_
        refine run_ret ?_
        try simp only [Then, InBlock, NoGoto]
        refine answer_tmp rfl (.inr rfl) ?_
        first | (obtain ⟨e1, e2⟩ := coinsR_none (L := q.l) (S := q.s) (by rw [← hg]; exact coinsGo_stop (.inr (by simpa using c32))) (.inr (by simpa using c32)); rw [e1, e2]; exact ⟨Wk.nil _ _ _, [], tkA q.l, [], by simp⟩) | (have h0 : takeS 1 s = none := (by simpa using c32); obtain ⟨e1, e2⟩ := coinsR_none (by rw [coinsR, coinsGo_stop (.inr h0)]) (.inr h0); rw [e1, e2]; exact ⟨Wk.nil _ _ _, [], [], [], by simp⟩)
     try exact nope c32
     all_goals have c32p := c32
     all_goals try simp [F] at c32p
     all_goals
      replace F := And.intro c32 F
      try replace F := And.intro c32p F
      refine run_skip ?_
      refine hK92 _ _ ?_
      refine sq fun K97 hK97 => ?_
      refine rg' (h := fun J98 hJ98 => ?_)
      refine hJ98 _ _ ?_
      refine hK97 _ _ ?_
      refine run_ret ?_
      try simp only [Then, InBlock, NoGoto]
      refine answer_tmp rfl (.inr rfl) ?_
      first | (obtain ⟨e1, e2⟩ := coinsR_some (L := q.l) (S := q.s) (by rw [← hg]; exact coinsGo_stop (.inl (by simp at g3_2; omega))) (by simpa using c28) (by intro e; simp [e] at c32); rw [e1, e2]; exact ⟨wk_slA _ _, [], tkA q.l, [], by simp⟩) | (have h0 : be (takeB 1 s) = 0 := (by simp at g3_2; omega); obtain ⟨e1, e2⟩ := coinsR_some (by rw [coinsR, coinsGo_stop (.inl h0)]) (by decide) (by intro e; simp [e] at c32); rw [e1, e2]; exact ⟨Wk.nil _ _ _, [], [], [], by simp⟩)

theorem coinsGo_len : ∀ (m : Nat) (s : Option (List UInt8)) (l : List Coin), (coinsGo m s l).1.length ≤ m + l.length
  | 0, _, _ => by simp [coinsGo]
  | m + 1, none, l => by simp [coinsGo]
  | m + 1, some p, l => by
    have := coinsGo_len m (numS (takeS 1 (some p))) (l ++ [coinS (some p)])
    simp only [coinsGo, List.length_append, List.length_cons, List.length_nil] at this ⊢
    omega
theorem coinsL_le (s : Option (List UInt8)) : (coinsL s).length ≤ 255 := by
  unfold coinsL
  split
  · simp
  · have := coinsGo_len (be (takeB 1 s)) (takeS 1 s) []
    have hm := be_lt1 (takeB_len 1 s)
    simp only [List.length_nil] at this
    unfold coinsR
    omega

end Go.Proofs.Ytdbaddholggkbaa

/-
  Lists of coins: what both readers make of a list's bytes.
-/
namespace Go.Proofs.Ytdbaddholggkbaa
set_option linter.unnecessarySimpa false
open Go Go.Vm
set_option linter.unusedSimpArgs false
set_option linter.unusedVariables false
set_option maxRecDepth 100000

attribute [local simp] evalL wantedA isCall opA evalA evalAll evalsA evalOpt ofValue ofCell plain binA_eql_pn binA_neq_pn binA_gtr binA_lss binA_geq binA_leq binA_add binA_sub binA_eql binA_neq binA_or binA_shl binA_shr binA_mul binA_quo binA_rem binA_agg_eql binA_agg_neq convA_int unA_not fieldAddrA loadA partA pickA_true pickA_false pickA_bb lenA builtinA storeA splice AV.cells AV.isCell sliceA boundA intA callOf indexAddrA newObjA buildA fillA zeroA ofCells indexA fieldA coinsC_at

theorem noObjL_inC (n : Nat) (p : List UInt8) (k : Nat) (b : Bool) : noObjL n (inC p .shut k b) = true := by simp [inC, noObjL, AV.noObj]

theorem gcO_slA (n k : Nat) (l : List Coin) : AV.gcO n (slA k l) = slA k l := by
  unfold slA
  split <;> simp [AV.gcO, noObjL]

structure CSk where
  m : Nat
  s : Option (List UInt8)
  l : List Coin
  k : Nat

set_option maxHeartbeats 1600000 in
attribute [local simp] undefA List.getElem?_cons_zero List.getElem?_cons_succ coinS_cells build_coin append_slA noObjL_inC gcO_slA in
theorem inCoins_ok {σ : St} {id k : Nat} {p : List UInt8} {s : Option (List UInt8)} (h : σ.objs[id]? = some (inC p .shut k s.isNone)) (hp : p.length ≤ 1000000) (hk : At p k s) :
    CallsA Try.prog 86 [.ptr id 0] σ (fun av σ' => av = .sl 5 (coinsC (coinsL s)) (coinsL s).length .shut ∧ ∃ k', At p k' (coinsS s) ∧ σ' = { σ with objs := σ.objs.set id (inC p .shut k' (coinsS s).isNone) }) := by
  refine callsA_gcI (x := fun k' => inC p .shut k' (coinsS s).isNone) ?_ (by simp [AV.under]) (fun _ => inC_under _ _ _ _)
  have hs := set_self_of h
  have hlt := lt_of_get h
  have ho2 : ∀ x r, (σ.objs.set id x ++ r)[id]? = some x := fun x r => by rw [List.getElem?_append_left (by simpa using hlt)]; exact hs x
  have ho3 : ∀ x r, (σ.objs ++ r).set id x = σ.objs.set id x ++ r := fun x r => List.set_append_left _ _ hlt
  have ho4 : ∀ x y r, (σ.objs.set id y ++ r).set id x = σ.objs.set id x ++ r := fun x y r => by rw [List.set_append_left _ _ (by simpa using hlt), List.set_set]
  have hm := be_lt1 (takeB_len 1 s)
  have F := And.intro h (And.intro hs (And.intro ho2 (And.intro ho3 (And.intro ho4 (And.intro hlt (True.intro))))))
  refine callsA_body Try.func86 rfl rfl rfl ?_
  refine sq fun K1 hK1 => ?_
  refine rg' (h := fun J2 hJ2 => ?_)
  refine hJ2 _ _ ?_
  refine hK1 _ _ ?_
  refine sq fun K3 hK3 => ?_
  refine rg' (h := fun J4 hJ4 => ?_)
  refine hJ4 _ _ ?_
  refine hK3 _ _ ?_
  refine sq fun K5 hK5 => ?_
  refine rg' (h := fun J6 hJ6 => ?_)
  refine ca (c := inByte_ok h hp hk) (k := ?_)
  rintro _ _ ⟨rfl, k0, hk0, rfl⟩
  repeat (first | simp [F] | simp (disch := omega) only [wC, if_pos, if_neg])
  refine hJ6 _ _ ?_
  refine hK5 _ _ ?_
  refine sq fun K7 hK7 => ?_
  refine sq fun K8 hK8 => ?_
  refine rg' (h := fun J9 hJ9 => ?_)
  refine hJ9 _ _ ?_
  refine hK8 _ _ ?_
  refine run_block_k ?_
  refine run_loopG (X := CSk) [0, 2, 4] (fun q ρ σ1 => (q.m ≤ be (takeB 1 s)) ∧ (q.m + q.l.length ≤ 255) ∧ (coinsGo q.m q.s q.l = coinsR s) ∧ (At p q.k q.s) ∧ (ρ 5 = .v (.int .i64 (be (takeB 1 s) - q.m : Nat))) ∧ (ρ 3 = slA σ.toks.length q.l) ∧ (σ1 = { σ with objs := σ.objs.set id (inC p .shut q.k q.s.isNone), toks := σ.toks ++ tkA q.l })) (fun q => q.m) (⟨be (takeB 1 s), takeS 1 s, [], k0⟩) ?st1 ?rd1
  case st1 =>
   refine ⟨lp, ?_, lp, lp, lp, lp, lp⟩
   · simp
     omega
  case rd1 =>
   rintro q ρ1 σ1 hF1 ⟨hm, hml, hg, hq, hi, h3, hσ⟩
   obtain rfl := hσ.symm
   have f1 := keepL hF1
   try simp [KeepL, F] at f1
   replace F := And.intro hi F
   replace F := And.intro h3 F
   try replace F := And.intro f1 F
   refine sq fun K10 hK10 => ?_
   refine sq fun K11 hK11 => ?_
   refine rg' (h := fun J12 hJ12 => ?_)
   refine gs 14 (fun g4_3 => ?_) (fun g4_3 => ?_)
   · try exact nope g4_3
     all_goals have g4_3p := g4_3
     all_goals try simp [F] at g4_3p
     all_goals
      replace F := And.intro g4_3 F
      try replace F := And.intro g4_3p F
      refine go2 (k := ?_)
      refine go2 (k := ?_)
      refine go2 (k := ?_)
      refine go2 (k := ?_)
      refine go2 (k := ?_)
      refine hJ12 _ _ ?_
      refine hK11 _ _ ?_
      refine cs (fun c20 => ?_) (fun c20 => ?_)
      · try exact nope c20
        all_goals have c20p := c20
        all_goals try simp [F] at c20p
        all_goals
         replace F := And.intro c20 F
         try replace F := And.intro c20p F
         refine run_skip ?_
         refine hK10 _ _ ?_
         refine sq fun K13 hK13 => ?_
         refine run_block_k ?_
         refine sq fun K14 hK14 => ?_
         refine rg' (h := fun J15 hJ15 => ?_)
         refine ca (c := inByte_ok (hs _) hp hq) (k := ?_)
         rintro _ _ ⟨rfl, k1, hk1, rfl⟩
         repeat (first | simp [F] | simp (disch := omega) only [wC, if_pos, if_neg])
         refine hJ15 _ _ ?_
         refine hK14 _ _ ?_
         refine sq fun K16 hK16 => ?_
         refine rg' (h := fun J17 hJ17 => ?_)
         refine ca (c := inNum_ok (hs _) hp hk1) (k := ?_)
         rintro _ _ ⟨rfl, k2, hk2, rfl⟩
         repeat (first | simp [F] | simp (disch := omega) only [wC, if_pos, if_neg])
         refine hJ17 _ _ ?_
         refine hK16 _ _ ?_
         have : Small q.l := ⟨by omega⟩
         refine rg' (h := fun J18 hJ18 => ?_)
         refine hJ18 _ _ ?_
         refine hK13 _ _ ?_
         refine rg' (h := fun J19 hJ19 => ?_)
         refine hJ19 _ _ ?_
         refine ⟨gk, (⟨q.m - 1, numS (takeS 1 q.s), q.l ++ [coinS q.s], k2⟩), ⟨kpG, ?_, ?_, ?_, ?_, ?_, lpG, lpG⟩, ?_⟩
         · simp
           omega
         · simp
           omega
         · rw [← hg]
           exact (coinsGo_more (by simp at g4_3; omega) (by intro e; simp [e] at c20p)).symm
         · exact hk2
         · simp [AV.gcO]
           omega
         · simp
           omega
      try exact nope c20
      all_goals have c20p := c20
      all_goals try simp [F] at c20p
      all_goals
       replace F := And.intro c20 F
       try replace F := And.intro c20p F
       refine run_exit ?_
       refine hK7 _ _ ?_
       refine sq fun K20 hK20 => ?_
       refine sq fun K21 hK21 => ?_
       refine rg' (h := fun J22 hJ22 => ?_)
       refine gs 37 (fun g9_4 => ?_) (fun g9_4 => ?_)
       · try exact nope g9_4
         all_goals have g9_4p := g9_4
         all_goals try simp [F] at g9_4p
         all_goals
          replace F := And.intro g9_4 F
          try replace F := And.intro g9_4p F
          refine no2 (k := ?_)
          refine no2 (k := ?_)
          refine no2 (k := ?_)
          refine hJ22 _ _ ?_
          refine hK21 _ _ ?_
          refine ct ?_
          refine sq fun K23 hK23 => ?_
          refine rg' (h := fun J24 hJ24 => ?_)
          refine hJ24 _ _ ?_
          refine hK23 _ _ ?_
          refine sq fun K25 hK25 => ?_
          refine rg' (h := fun J26 hJ26 => ?_)
          refine hJ26 _ _ ?_
          refine hK25 _ _ ?_
          refine run_ret ?_
          try simp only [Then, InBlock, NoGoto]
          refine answer_tmp rfl (.inr rfl) ?_
          have h0 : q.s = none := (by simpa using c20)
          obtain ⟨e1, e2⟩ := coinsR_none (L := q.l) (S := q.s) (by rw [← hg]; exact coinsGo_stop (.inr h0)) (.inr h0)
          rw [e1, e2]
          exact ⟨q.k, ⟨hq.1, .inl rfl⟩, Wk.nil _ _ _, [], tkA q.l, [], by simp [inC]⟩
       try exact nope g9_4
       all_goals have g9_4p := g9_4
       all_goals try simp [F] at g9_4p
       all_goals
        replace F := And.intro g9_4 F
        try replace F := And.intro g9_4p F
        refine go2 (k := ?_)
        refine ca (c := rright_slA (by omega)) (k := ?_)
        rintro _ _ ⟨rfl, rfl⟩
        repeat (first | simp [F] | simp (disch := omega) only [wC, if_pos, if_neg])
        refine go2 (k := ?_)
        refine hJ22 _ _ ?_
        refine hK21 _ _ ?_
        refine cs (fun c41 => ?_) (fun c41 => ?_)
        · try exact nope c41
          all_goals have c41p := c41
          all_goals try simp [F] at c41p
          all_goals
           replace F := And.intro c41 F
           try replace F := And.intro c41p F
           refine sq fun K27 hK27 => ?_
           refine rg' (h := fun J28 hJ28 => ?_)
           refine hJ28 _ _ ?_
           refine hK27 _ _ ?_
           refine sq fun K29 hK29 => ?_
           refine rg' (h := fun J30 hJ30 => ?_)
           refine hJ30 _ _ ?_
           refine hK29 _ _ ?_
           refine run_ret ?_
           try simp only [Then, InBlock, NoGoto]
           refine answer_tmp rfl (.inr rfl) ?_
           obtain ⟨e1, e2⟩ := coinsR_none (L := q.l) (S := q.s) (by rw [← hg]; exact coinsGo_stop (.inl (by simp at g4_3; omega))) (.inl (by simpa using c41))
           rw [e1, e2]
           exact ⟨q.k, ⟨hq.1, .inl rfl⟩, Wk.nil _ _ _, [], tkA q.l, [], by simp [inC]⟩
        try exact nope c41
        all_goals have c41p := c41
        all_goals try simp [F] at c41p
        all_goals
         replace F := And.intro c41 F
         try replace F := And.intro c41p F
         refine run_skip ?_
         refine hK20 _ _ ?_
         refine sq fun K31 hK31 => ?_
         refine rg' (h := fun J32 hJ32 => ?_)
         refine hJ32 _ _ ?_
         refine hK31 _ _ ?_
         refine run_ret ?_
         try simp only [Then, InBlock, NoGoto]
         refine answer_tmp rfl (.inr rfl) ?_
         obtain ⟨e1, e2⟩ := coinsR_some (L := q.l) (S := q.s) (by rw [← hg]; exact coinsGo_stop (.inl (by simp at g4_3; omega))) (by simpa using c41) (by intro e; simp [e] at g9_4)
         rw [e1, e2]
         exact ⟨q.k, hq, wk_slA _ _, [], tkA q.l, [], by rw [g9_4]; simp⟩
   try exact nope g4_3
   all_goals have g4_3p := g4_3
   all_goals try simp [F] at g4_3p
   all_goals
    replace F := And.intro g4_3 F
    try replace F := And.intro g4_3p F
    refine no2 (k := ?_)
    refine no2 (k := ?_)
    refine no2 (k := ?_)
    refine no2 (k := ?_)
    refine no2 (k := ?_)
    refine hJ12 _ _ ?_
    refine hK11 _ _ ?_
    refine cf ?_
    refine run_exit ?_
    refine hK7 _ _ ?_
    refine sq fun K33 hK33 => ?_
    refine sq fun K34 hK34 => ?_
    refine rg' (h := fun J35 hJ35 => ?_)
    refine gs 37 (fun g9_4 => ?_) (fun g9_4 => ?_)
    · try exact nope g9_4
      all_goals have g9_4p := g9_4
      all_goals try simp [F] at g9_4p
      all_goals
       replace F := And.intro g9_4 F
       try replace F := And.intro g9_4p F
       refine no2 (k := ?_)
       refine no2 (k := ?_)
       refine no2 (k := ?_)
       refine hJ35 _ _ ?_
       refine hK34 _ _ ?_
       refine ct ?_
       refine sq fun K36 hK36 => ?_
       refine rg' (h := fun J37 hJ37 => ?_)
       refine hJ37 _ _ ?_
       refine hK36 _ _ ?_
       refine sq fun K38 hK38 => ?_
       refine rg' (h := fun J39 hJ39 => ?_)
       refine hJ39 _ _ ?_
       refine hK38 _ _ ?_
       refine run_ret ?_
       try simp only [Then, InBlock, NoGoto]
       refine answer_tmp rfl (.inr rfl) ?_
       have h0 : q.s = none := (by simpa using g9_4)
       obtain ⟨e1, e2⟩ := coinsR_none (L := q.l) (S := q.s) (by rw [← hg]; exact coinsGo_stop (.inr h0)) (.inr h0)
       rw [e1, e2]
       exact ⟨q.k, ⟨hq.1, .inl rfl⟩, Wk.nil _ _ _, [], tkA q.l, [], by simp [inC]⟩
    try exact nope g9_4
    all_goals have g9_4p := g9_4
    all_goals try simp [F] at g9_4p
    all_goals
     replace F := And.intro g9_4 F
     try replace F := And.intro g9_4p F
     refine go2 (k := ?_)
     refine ca (c := rright_slA (by omega)) (k := ?_)
     rintro _ _ ⟨rfl, rfl⟩
     repeat (first | simp [F] | simp (disch := omega) only [wC, if_pos, if_neg])
     refine go2 (k := ?_)
     refine hJ35 _ _ ?_
     refine hK34 _ _ ?_
     refine cs (fun c41 => ?_) (fun c41 => ?_)
     · try exact nope c41
       all_goals have c41p := c41
       all_goals try simp [F] at c41p
       all_goals
        replace F := And.intro c41 F
        try replace F := And.intro c41p F
        refine sq fun K40 hK40 => ?_
        refine rg' (h := fun J41 hJ41 => ?_)
        refine hJ41 _ _ ?_
        refine hK40 _ _ ?_
        refine sq fun K42 hK42 => ?_
        refine rg' (h := fun J43 hJ43 => ?_)
        refine hJ43 _ _ ?_
        refine hK42 _ _ ?_
        refine run_ret ?_
        try simp only [Then, InBlock, NoGoto]
        refine answer_tmp rfl (.inr rfl) ?_
        obtain ⟨e1, e2⟩ := coinsR_none (L := q.l) (S := q.s) (by rw [← hg]; exact coinsGo_stop (.inl (by simp at g4_3; omega))) (.inl (by simpa using c41))
        rw [e1, e2]
        exact ⟨q.k, ⟨hq.1, .inl rfl⟩, Wk.nil _ _ _, [], tkA q.l, [], by simp [inC]⟩
     try exact nope c41
     all_goals have c41p := c41
     all_goals try simp [F] at c41p
     all_goals
      replace F := And.intro c41 F
      try replace F := And.intro c41p F
      refine run_skip ?_
      refine hK33 _ _ ?_
      refine sq fun K44 hK44 => ?_
      refine rg' (h := fun J45 hJ45 => ?_)
      refine hJ45 _ _ ?_
      refine hK44 _ _ ?_
      refine run_ret ?_
      try simp only [Then, InBlock, NoGoto]
      refine answer_tmp rfl (.inr rfl) ?_
      obtain ⟨e1, e2⟩ := coinsR_some (L := q.l) (S := q.s) (by rw [← hg]; exact coinsGo_stop (.inl (by simp at g4_3; omega))) (by simpa using c41) (by intro e; simp [e] at g9_4)
      rw [e1, e2]
      exact ⟨q.k, hq, wk_slA _ _, [], tkA q.l, [], by rw [g9_4]; simp⟩

end Go.Proofs.Ytdbaddholggkbaa

/-
  A plan, read of any bytes..
-/
namespace Go.Proofs.Ytdbaddholggkbaa
set_option linter.unnecessarySimpa false
set_option maxRecDepth 100000
open Go Go.Vm
set_option linter.unusedSimpArgs false
set_option linter.unusedVariables false

attribute [local simp] evalL wantedA isCall opA evalA evalAll evalsA evalOpt ofValue ofCell plain binA_eql_pn binA_neq_pn binA_gtr binA_lss binA_geq binA_leq binA_add binA_sub binA_eql binA_neq binA_orI binA_andI binA_shl binA_shr binA_mul binA_quo binA_rem binA_agg_eql binA_agg_neq convA_int unA_not fieldAddrA loadA partA pickA_true pickA_false pickA_bb lenA builtinA storeA splice AV.cells AV.isCell sliceA boundA intA callOf indexAddrA newObjA buildA fillA zeroA ofCells buildSliceA indexA fieldA numA_len4 numA_take4 numA_drop4 set_appN get_appN take_appN List.getElem?_cons_zero List.getElem?_cons_succ makeA zeros64

/-- A part of a plan, as it is read. -/
def perS (s : Option (List UInt8)) : Per := ⟨be (takeB 8 s), coinsL (takeS 8 s)⟩
def perT (s : Option (List UInt8)) : Option (List UInt8) := coinsS (takeS 8 s)
/-- What is read of m parts more, where l have been read. -/
def persGo : Nat → Option (List UInt8) → List Per → List Per × Option (List UInt8)
  | 0, s, l => (l, s)
  | _ + 1, none, l => (l, none)
  | m + 1, some p, l => persGo m (perT (some p)) (l ++ [perS (some p)])
theorem persGo_more {m : Nat} {s : Option (List UInt8)} {l : List Per} (hm : 0 < m) (hs : ¬ s = none) : persGo m s l = persGo (m - 1) (perT s) (l ++ [perS s]) := by
  match m, s, hm, hs with
  | m + 1, some p, _, _ => rfl
theorem persGo_stop {m : Nat} {s : Option (List UInt8)} {l : List Per} (h : m = 0 ∨ s = none) : persGo m s l = (l, s) := by
  match m, s, h with
  | 0, _, _ => rfl
  | m + 1, none, _ => rfl
def s4S (s : Option (List UInt8)) : Option (List UInt8) := coinsS (takeS 8 (takeS 8 (takeS 1 s)))
/-- What is read of a plan, before it is judged. -/
def planR (s : Option (List UInt8)) : List Per × Option (List UInt8) := persGo (be (takeB 1 (s4S s))) (takeS 1 (s4S s)) []
def planP (s : Option (List UInt8)) (L : List Per) : Pln := ⟨byteS s, be (takeB 8 (takeS 1 s)), be (takeB 8 (takeS 8 (takeS 1 s))), coinsL (takeS 8 (takeS 8 (takeS 1 s))), L⟩
def takeT (s : Option (List UInt8)) : Option (List UInt8) := if rightB (planP s (planR s).1) = true then (planR s).2 else none
def takeP (s : Option (List UInt8)) : Pln := if takeT s = none then ⟨0, 0, 0, [], []⟩ else planP s (planR s).1
theorem take_none {s S : Option (List UInt8)} {L : List Per} (h : planR s = (L, S)) (h2 : rightB (planP s L) = false ∨ S = none) : takeP s = ⟨0, 0, 0, [], []⟩ ∧ takeT s = none := by
  have e : takeT s = none := by
    unfold takeT
    rw [h]
    rcases h2 with h2 | h2
    · simp [h2]
    · simp [h2]
  exact ⟨by simp [takeP, e], e⟩
theorem take_some {s S : Option (List UInt8)} {L : List Per} (h : planR s = (L, S)) (h1 : rightB (planP s L) = true) (h2 : ¬ S = none) : takeP s = planP s L ∧ takeT s = S := by
  have e : takeT s = S := by
    unfold takeT
    rw [h, if_pos h1]
  exact ⟨by rw [takeP, e, if_neg h2, h], e⟩
theorem planP_ok {s : Option (List UInt8)} {L : List Per} (hl : L.length ≤ 255) (hx : ∀ x ∈ L, x.l < 2 ^ 64 ∧ x.c.length ≤ 255) : (planP s L).Ok := by
  refine ⟨be_lt8 _ (takeB_len 8 _), be_lt8 _ (takeB_len 8 _), ?_, ?_, fun x h => ⟨(hx x h).1, ?_⟩⟩
  · have := coinsL_le (takeS 8 (takeS 8 (takeS 1 s))); simp only [planP]; omega
  · simp only [planP]; omega
  · have := (hx x h).2; omega
theorem perS_ok (s : Option (List UInt8)) : (perS s).l < 2 ^ 64 ∧ (perS s).c.length ≤ 255 := ⟨be_lt8 _ (takeB_len 8 _), coinsL_le _⟩

structure TSt where
  m : Nat
  s : Option (List UInt8)
  l : List Per

theorem nil0 {L : List Per} (h : posB L.length = false) : persC L = [] ∧ L.length = 0 := by
  have h0 := posB_no h
  have : L = [] := List.length_eq_zero_iff.1 h0
  subst this
  exact ⟨rfl, rfl⟩
theorem take_wk {s : Option (List UInt8)} {L : List Per} {k : Nat} : WkL [.v (.int .u8 (be (takeB 1 s))), .v (.int .u64 (be (takeB 8 (takeS 1 s)))), .v (.int .u64 (be (takeB 8 (takeS 8 (takeS 1 s))))), .sl 5 (coinsC (coinsL (takeS 8 (takeS 8 (takeS 1 s))))) (coinsL (takeS 8 (takeS 8 (takeS 1 s)))).length .shut, grA k 2 (posB L.length) (persC L) L.length] (plnC (planP s L)) :=
  .cons (by rw [be_byteS]; exact Wk.refl _) (.cons (Wk.refl _) (.cons (Wk.refl _) (.cons (Wk.refl _) (.cons (wk_grA nil0) .nil))))

set_option maxHeartbeats 1600000 in
attribute [local simp] undefA List.getElem?_cons_zero List.getElem?_cons_succ perC persC_noObj in
theorem ptake_ok {σ : St} {id : Nat} {s : Option (List UInt8)} (h : σ.objs[id]? = some (rd s)) :
    CallsA Try.prog 34 [.ptr id 0] σ (fun av σ' => av = .agg (plnC (takeP s)) ∧ σ' = { σ with objs := σ.objs.set id (rd (takeT s)) }) := by
  refine callsA_gc_obj (Q := fun av σ' => Wk av (.agg (plnC (takeP s))) ∧ ∃ l m r, σ' = { σ with objs := σ.objs.set id (rd (takeT s)) ++ l, toks := σ.toks ++ m, rows := σ.rows ++ r }) ?_ (fun av σ' h => h) (by simp [AV.under, underL, plnC, persC_under]) (rd_under _ _)
  have hs := set_self_of h
  have hlt := lt_of_get h
  have ho1 : ∀ r, (σ.objs ++ r)[id]? = some (rd s) := fun r => by rw [List.getElem?_append_left hlt]; exact h
  have ho2 : ∀ x r, (σ.objs.set id x ++ r)[id]? = some x := fun x r => by rw [List.getElem?_append_left (by simpa using hlt)]; exact hs x
  have ho3 : ∀ x r, (σ.objs ++ r).set id x = σ.objs.set id x ++ r := fun x r => List.set_append_left _ _ hlt
  have ho4 : ∀ x y r, (σ.objs.set id y ++ r).set id x = σ.objs.set id x ++ r := fun x y r => by rw [List.set_append_left _ _ (by simpa using hlt), List.set_set]
  have hm := be_lt1 (takeB_len 1 (s4S s))
  have hgc : ∀ (k : Nat) (b : Bool) (cs : List AV) (n : Nat), (grA k 2 b cs n).isCell = true := fun k b cs n => by cases b <;> rfl
  simp only [AV.isCell] at hgc
  have hdr : ∀ f : Nat → AV, List.drop 2 (List.map f (List.range 2)) = [] := fun _ => rfl
  have hdr5 : ∀ f : Nat → AV, List.drop 5 (List.map f (List.range 5)) = [] := fun _ => rfl
  have hR : ∀ (L : List Per) (k : Nat) (τ : St), L.length ≤ 255 → (∀ x ∈ L, x.l < 2 ^ 64 ∧ x.c.length ≤ 255) → CallsA Try.prog 18 [.agg [.v (.int .u8 (be (takeB 1 s))), .v (.int .u64 (be (takeB 8 (takeS 1 s)))), .v (.int .u64 (be (takeB 8 (takeS 8 (takeS 1 s))))), .sl 5 (coinsC (coinsL (takeS 8 (takeS 8 (takeS 1 s))))) (coinsL (takeS 8 (takeS 8 (takeS 1 s)))).length .shut, grA k 2 (posB L.length) (persC L) L.length]] τ (fun av σ' => av = .v (.bool (rightB (planP s L))) ∧ τ = σ') :=
    fun L k τ hl hx => callsA_wk (.cons (WkL.agg take_wk) .nil) (plright_ok (planP_ok hl hx))
  have F := And.intro ho1 (And.intro ho2 (And.intro ho3 (And.intro ho4 (And.intro hlt (And.intro hdr (And.intro hdr5 (And.intro hgc (True.intro))))))))
  refine callsA_body Try.func34 rfl rfl rfl ?_
  refine sq fun K1 hK1 => ?_
  refine rg' (h := fun J2 hJ2 => ?_)
  refine hJ2 _ _ ?_
  refine hK1 _ _ ?_
  refine sq fun K3 hK3 => ?_
  refine rg' (h := fun J4 hJ4 => ?_)
  refine ca (c := byte_ok (ho1 _)) (k := ?_)
  rintro _ _ ⟨rfl, rfl⟩
  repeat (first | simp [F] | simp (disch := omega) only [wC, if_pos, if_neg])
  refine ca (c := long_ok (ho2 _ _)) (k := ?_)
  rintro _ _ ⟨rfl, rfl⟩
  repeat (first | simp [F] | simp (disch := omega) only [wC, if_pos, if_neg])
  refine ca (c := long_ok (ho2 _ _)) (k := ?_)
  rintro _ _ ⟨rfl, rfl⟩
  repeat (first | simp [F] | simp (disch := omega) only [wC, if_pos, if_neg])
  refine ca (c := rcoins_raw (ho2 _ _)) (k := ?_)
  rintro _ _ ⟨rfl, rfl⟩
  repeat (first | simp [F] | simp (disch := omega) only [wC, if_pos, if_neg])
  refine hJ4 _ _ ?_
  refine hK3 _ _ ?_
  refine sq fun K5 hK5 => ?_
  refine sq fun K6 hK6 => ?_
  refine rg' (h := fun J7 hJ7 => ?_)
  refine ca (c := byte_ok (ho2 _ _)) (k := ?_)
  rintro _ _ ⟨rfl, rfl⟩
  repeat (first | simp [F] | simp (disch := omega) only [wC, if_pos, if_neg])
  refine hJ7 _ _ ?_
  refine hK6 _ _ ?_
  refine run_block_k ?_
  refine run_loopF (X := TSt) [0, 2, 3] (fun q ρ σ1 => (q.m + q.l.length ≤ 255) ∧ (∀ x ∈ q.l, x.l < 2 ^ 64 ∧ x.c.length ≤ 255) ∧ (persGo q.m q.s q.l = planR s) ∧ (ρ 4 = .v (.int .u8 q.m)) ∧ (σ1 = { σ with objs := σ.objs.set id (rd q.s) ++ [[.v (.int .u8 0), .v (.int .u64 0), .v (.int .u64 0), .sl 0 [] 0 .full, .sl 0 [] 0 .full], [.v (.int .u8 (be (takeB 1 s))), .v (.int .u64 (be (takeB 8 (takeS 1 s)))), .v (.int .u64 (be (takeB 8 (takeS 8 (takeS 1 s))))), .sl 5 (coinsC (coinsL (takeS 8 (takeS 8 (takeS 1 s))))) (coinsL (takeS 8 (takeS 8 (takeS 1 s)))).length .shut, grA σ.toks.length 2 (posB q.l.length) (persC q.l) q.l.length]], toks := σ.toks ++ grT (posB q.l.length) q.l.length })) (fun q => q.m) (⟨be (takeB 1 (s4S s)), takeS 1 (s4S s), []⟩) ?st1 ?rd1
  case st1 =>
   refine ⟨?_, ?_, ?_, lp, ?_⟩
   · simp
     omega
   · simp
   · rfl
   · simp [F, s4S]
  case rd1 =>
   rintro q ρ1 σ1 hF1 ⟨hm, hx, hg, h4, hσ⟩
   obtain rfl := hσ.symm
   have f1 := keepL hF1
   try simp [KeepL, F] at f1
   replace F := And.intro h4 F
   try replace F := And.intro f1 F
   refine sq fun K8 hK8 => ?_
   refine sqc (X := Unit) [0, 2, 3, 4] (fun k ρ σ1 => (ρ 22 = .v (.bool (decide (0 < q.m) && !q.s.isNone))) ∧ (σ1 = { σ with objs := σ.objs.set id (rd q.s) ++ [[.v (.int .u8 0), .v (.int .u64 0), .v (.int .u64 0), .sl 0 [] 0 .full, .sl 0 [] 0 .full], [.v (.int .u8 (be (takeB 1 s))), .v (.int .u64 (be (takeB 8 (takeS 1 s)))), .v (.int .u64 (be (takeB 8 (takeS 8 (takeS 1 s))))), .sl 5 (coinsC (coinsL (takeS 8 (takeS 8 (takeS 1 s))))) (coinsL (takeS 8 (takeS 8 (takeS 1 s)))).length .shut, grA σ.toks.length 2 (posB q.l.length) (persC q.l) q.l.length]], toks := σ.toks ++ grT (posB q.l.length) q.l.length })) ?cy9 ?cx9
   case cy9 =>
    rintro k ρCr3 σ1 hFCr3 ⟨h22, hσ⟩
    obtain rfl := hσ.symm
    have fCr3 := keepL hFCr3
    try simp [KeepL, F] at fCr3
    replace F := And.intro h22 F
    try replace F := And.intro fCr3 F
    refine cs (t := (decide (0 < q.m) && !q.s.isNone)) (fun c22 => ?_) (fun c22 => ?_)
    · try exact nope c22
      all_goals have c22p := c22
      all_goals try simp [F] at c22p
      all_goals
       replace F := And.intro c22 F
       try replace F := And.intro c22p F
       refine run_skip ?_
       refine hK8 _ _ ?_
       refine sq fun K10 hK10 => ?_
       refine run_block_k ?_
       obtain ⟨m, S, L⟩ := q
       simp only at hm hx hg h4
       have hmS : 0 < m ∧ ¬ S = none := by have h := c22; simp at h; exact ⟨h.1, by intro e; rw [e] at h; simp at h⟩
       have hnx := persGo_more (l := L) hmS.1 hmS.2
       have hP : persC (L ++ [perS S]) = persC L ++ [.v (.int .u64 (be (takeB 8 S))), .sl 5 (coinsC (coinsL (takeS 8 S))) (coinsL (takeS 8 S)).length .shut] := by rw [← persC_append]; rfl
       have hLl : L.length ≤ 254 := by omega
       have happ : ∀ objs, appendA Try.prog 24 (grA σ.toks.length 2 (posB L.length) (persC L) L.length) (.sl 2 [.v (.int .u64 (be (takeB 8 S))), .sl 5 (coinsC (coinsL (takeS 8 S))) (coinsL (takeS 8 S)).length .shut] 1 .full) ⟨objs, σ.toks ++ grT (posB L.length) L.length, σ.gl, σ.rows⟩ = some (grA σ.toks.length 2 true (persC L ++ [.v (.int .u64 (be (takeB 8 S))), .sl 5 (coinsC (coinsL (takeS 8 S))) (coinsL (takeS 8 S)).length .shut]) (L.length + 1), ⟨objs, σ.toks ++ grT true (L.length + 1), σ.gl, σ.rows⟩) := fun objs => append_gr elemT_24 ti_88 (by decide) rfl nil0 (.inl rfl) (by simp [roomA]; omega) (by simp [maxLen]; omega)
       have hwm : IntKind.u8.wrap ((m : Int) - 1) = ((m - 1 : Nat) : Int) := by rw [wrap_u8c (by omega)]; omega
       replace F := And.intro happ F
       refine run_draw (by kernel_rfl) fun J11 hJ11 => ?_
       refine rp2 0 (k := ?_)
       refine rp2 1 (k := ?_)
       refine rp2 2 (k := ?_)
       refine rp2 4 (k := ?_)
       refine dc 3 rfl (c := long_ok (ho2 _ _)) (k := ?_)
       rintro _ _ ⟨rfl, rfl⟩
       refine ⟨by first | exact fun _ _ h => h | (refine later_list [4, 1, 0] (by kernel_rfl) (List.forall_mem_cons.2 ⟨fun _ => fact2 rfl rfl ?_, List.forall_mem_cons.2 ⟨fun _ => fact2 rfl rfl ?_, List.forall_mem_cons.2 ⟨fun _ => fact2 rfl rfl ?_, fun _ h => absurd h List.not_mem_nil⟩⟩⟩) <;> constructor <;> first | rfl | (simp [F]; done)), ?_⟩
       repeat (first | simp [F] | simp (disch := omega) only [wC, if_pos, if_neg])
       refine dc 5 rfl (c := rcoins_raw (ho2 _ _)) (k := ?_)
       rintro _ _ ⟨rfl, rfl⟩
       refine ⟨by first | exact fun _ _ h => h | (refine later_list [1, 0] (by kernel_rfl) (List.forall_mem_cons.2 ⟨fun _ => fact2 rfl rfl ?_, List.forall_mem_cons.2 ⟨fun _ => fact2 rfl rfl ?_, fun _ h => absurd h List.not_mem_nil⟩⟩) <;> constructor <;> first | rfl | (simp [F]; done)), ?_⟩
       repeat (first | simp [F] | simp (disch := omega) only [wC, if_pos, if_neg])
       refine rp2 6 (k := ?_)
       refine rp2 7 (k := ?_)
       refine dop 8 rfl ?_
       repeat (first | simp [F] | simp (disch := omega) only [wC, if_pos, if_neg])
       refine ⟨by first | exact fun _ _ h => h | (refine later_list [6, 0] (by kernel_rfl) (List.forall_mem_cons.2 ⟨fun _ => fact2 rfl rfl ?_, List.forall_mem_cons.2 ⟨fun _ => fact2 rfl rfl ?_, fun _ h => absurd h List.not_mem_nil⟩⟩) <;> constructor <;> first | rfl | (simp [F]; done)), ?_⟩
       refine rp2 9 (k := ?_)
       refine dop 10 rfl ?_
       repeat (first | simp [F] | simp (disch := omega) only [wC, if_pos, if_neg])
       refine ⟨ln, ?_⟩
       refine dd ?_
       refine hJ11 _ _ ?_
       refine hK10 _ _ ?_
       replace F := And.intro hwm F
       refine rg' (h := fun J12 hJ12 => ?_)
       refine hJ12 _ _ ?_
       refine ⟨(⟨m - 1, perT S, L ++ [perS S]⟩), ⟨kp, ?_, ?_, ?_, lp, ?_⟩, ?_⟩
       · simp
         omega
       · intro x hxm
         rcases List.mem_append.1 hxm with h | h
         · exact hx x h
         · simp at h; subst h; exact perS_ok S
       · rw [← hg]
         exact hnx.symm
       · simp [F, hP, perT]
       · simp
         omega
    try exact nope c22
    all_goals have c22p := c22
    all_goals try simp [F] at c22p
    all_goals
     replace F := And.intro c22 F
     try replace F := And.intro c22p F
     have he : planR s = (q.l, q.s) := by rw [← hg]; exact persGo_stop (by have h := c22; simp at h; by_cases h0 : q.m = 0; exact .inl h0; exact .inr (h (by omega)))
     have hql : q.l.length ≤ 255 := by omega
     refine run_exit ?_
     refine hK5 _ _ ?_
     refine sq fun K13 hK13 => ?_
     refine sq fun K14 hK14 => ?_
     refine rg' (h := fun J15 hJ15 => ?_)
     refine ca (c := hR q.l _ _ hql hx) (k := ?_)
     rintro _ _ ⟨rfl, rfl⟩
     repeat (first | simp [F] | simp (disch := omega) only [wC, if_pos, if_neg])
     refine hJ15 _ _ ?_
     refine hK14 _ _ ?_
     refine cs (fun c37 => ?_) (fun c37 => ?_)
     · try exact nope c37
       all_goals have c37p := c37
       all_goals try simp [F] at c37p
       all_goals
        replace F := And.intro c37 F
        try replace F := And.intro c37p F
        refine rg' (h := fun J16 hJ16 => ?_)
        refine ca (c := fail_ok (ho2 _ _)) (k := ?_)
        rintro _ _ ⟨rfl, rfl⟩
        repeat (first | simp [F] | simp (disch := omega) only [wC, if_pos, if_neg])
        refine hJ16 _ _ ?_
        refine hK13 _ _ ?_
        refine sq fun K17 hK17 => ?_
        refine sq fun K18 hK18 => ?_
        refine rg' (h := fun J19 hJ19 => ?_)
        refine ca (c := bad_ok (ho2 _ _)) (k := ?_)
        rintro _ _ ⟨rfl, rfl⟩
        repeat (first | simp [F] | simp (disch := omega) only [wC, if_pos, if_neg])
        refine hJ19 _ _ ?_
        refine hK18 _ _ ?_
        refine cs (fun c41 => ?_) (fun c41 => ?_)
        · try exact nope c41
          all_goals have c41p := c41
          all_goals try simp [F] at c41p
          all_goals
           replace F := And.intro c41 F
           try replace F := And.intro c41p F
           refine sq fun K20 hK20 => ?_
           refine rg' (h := fun J21 hJ21 => ?_)
           refine hJ21 _ _ ?_
           refine hK20 _ _ ?_
           refine run_ret ?_
           try simp only [Then, InBlock, NoGoto]
           refine acell (h := ?_)
           obtain ⟨e1, e2⟩ := take_none he (.inl (by simpa using c37))
           rw [e1, e2]
           refine gcr (τ := { σ with objs := σ.objs.set id (rd none) }) (hA := ?_)
           exact WkL.agg (cut_nil rfl)
        try exact nope c41
        all_goals have c41p := c41
        all_goals try simp [F] at c41p
        all_goals
         replace F := And.intro c41 F
         try replace F := And.intro c41p F
         refine run_skip ?_
         refine hK17 _ _ ?_
         refine sq fun K22 hK22 => ?_
         refine rg' (h := fun J23 hJ23 => ?_)
         refine hJ23 _ _ ?_
         refine hK22 _ _ ?_
         refine run_ret ?_
         try simp only [Then, InBlock, NoGoto]
         refine acell (h := ?_)
         obtain ⟨e1, e2⟩ := take_none he (.inl (by simpa using c37))
         rw [e1, e2]
         refine gcr (τ := { σ with objs := σ.objs.set id (rd none) }) (hA := ?_)
         exact WkL.agg (cut_nil rfl)
     try exact nope c37
     all_goals have c37p := c37
     all_goals try simp [F] at c37p
     all_goals
      replace F := And.intro c37 F
      try replace F := And.intro c37p F
      refine run_skip ?_
      refine hK13 _ _ ?_
      refine sq fun K24 hK24 => ?_
      refine sq fun K25 hK25 => ?_
      refine rg' (h := fun J26 hJ26 => ?_)
      refine ca (c := bad_ok (ho2 _ _)) (k := ?_)
      rintro _ _ ⟨rfl, rfl⟩
      repeat (first | simp [F] | simp (disch := omega) only [wC, if_pos, if_neg])
      refine hJ26 _ _ ?_
      refine hK25 _ _ ?_
      refine cs (fun c41 => ?_) (fun c41 => ?_)
      · try exact nope c41
        all_goals have c41p := c41
        all_goals try simp [F] at c41p
        all_goals
         replace F := And.intro c41 F
         try replace F := And.intro c41p F
         refine sq fun K27 hK27 => ?_
         refine rg' (h := fun J28 hJ28 => ?_)
         refine hJ28 _ _ ?_
         refine hK27 _ _ ?_
         refine run_ret ?_
         try simp only [Then, InBlock, NoGoto]
         refine acell (h := ?_)
         obtain ⟨e1, e2⟩ := take_none he (.inr (by simpa using c41))
         rw [e1, e2]
         refine gcr (τ := { σ with objs := σ.objs.set id (rd none) }) (hA := ?_)
         exact WkL.agg (cut_nil rfl)
      try exact nope c41
      all_goals have c41p := c41
      all_goals try simp [F] at c41p
      all_goals
       replace F := And.intro c41 F
       try replace F := And.intro c41p F
       refine run_skip ?_
       refine hK24 _ _ ?_
       refine sq fun K29 hK29 => ?_
       refine rg' (h := fun J30 hJ30 => ?_)
       refine hJ30 _ _ ?_
       refine hK29 _ _ ?_
       refine run_ret ?_
       try simp only [Then, InBlock, NoGoto]
       refine acell (h := ?_)
       obtain ⟨e1, e2⟩ := take_some he (by simpa using c37) (by intro e; rw [e] at c41; simp at c41)
       rw [e1, e2]
       refine gcr (τ := { σ with objs := σ.objs.set id (rd q.s) }) (hA := ?_)
       exact WkL.agg take_wk
   case cx9 =>
    intro K9 hK9
    refine rg' (h := fun J31 hJ31 => ?_)
    refine gs 18 (fun g3_2 => ?_) (fun g3_2 => ?_)
    · try exact nope g3_2
      all_goals have g3_2p := g3_2
      all_goals try simp [F] at g3_2p
      all_goals
       replace F := And.intro g3_2 F
       try replace F := And.intro g3_2p F
       refine go2 (k := ?_)
       refine ca (c := bad_ok (ho2 _ _)) (k := ?_)
       rintro _ _ ⟨rfl, rfl⟩
       repeat (first | simp [F] | simp (disch := omega) only [wC, if_pos, if_neg])
       refine go2 (k := ?_)
       refine hJ31 _ _ ?_
       refine hK9 (()) _ _ ⟨kp, ?_, lp⟩
       · have h := g3_2
         simp at h
         simp [F, h]
    try exact nope g3_2
    all_goals have g3_2p := g3_2
    all_goals try simp [F] at g3_2p
    all_goals
     replace F := And.intro g3_2 F
     try replace F := And.intro g3_2p F
     refine no2 (k := ?_)
     refine no2 (k := ?_)
     refine no2 (k := ?_)
     refine hJ31 _ _ ?_
     refine hK9 (()) _ _ ⟨kp, ?_, lp⟩
     · have h := g3_2
       simp at h
       simp [F, h]

end Go.Proofs.Ytdbaddholggkbaa

/-
  A plan, read of any bytes by the document..
-/
namespace Go.Proofs.Ytdbaddholggkbaa
set_option linter.unnecessarySimpa false
set_option maxRecDepth 100000
open Go Go.Vm
set_option linter.unusedSimpArgs false
set_option linter.unusedVariables false

attribute [local simp] evalL wantedA isCall opA evalA evalAll evalsA evalOpt ofValue ofCell plain binA_eql_pn binA_neq_pn binA_gtr binA_lss binA_geq binA_leq binA_add binA_sub binA_eql binA_neq binA_orI binA_andI binA_shl binA_shr binA_mul binA_quo binA_rem binA_agg_eql binA_agg_neq convA_int unA_not fieldAddrA loadA partA pickA_true pickA_false pickA_bb lenA builtinA storeA splice AV.cells AV.isCell sliceA boundA intA callOf indexAddrA newObjA buildA fillA zeroA ofCells buildSliceA indexA fieldA numA_len4 numA_take4 numA_drop4 set_appN get_appN take_appN List.getElem?_cons_zero List.getElem?_cons_succ makeA zeros64

structure TSk where
  m : Nat
  s : Option (List UInt8)
  l : List Per
  k : Nat

theorem gcO_grA (n k : Nat) (b : Bool) (L : List Per) (m : Nat) : AV.gcO n (grA k 2 b (persC L) m) = grA k 2 b (persC L) m := by
  cases b <;> simp [AV.gcO, noObjL, persC_noObj]
theorem noObj_grA (n k : Nat) (b : Bool) (L : List Per) (m : Nat) : AV.noObj n (grA k 2 b (persC L) m) = true := by
  cases b <;> simp [AV.noObj, noObjL, persC_noObj]

set_option maxHeartbeats 1600000 in
attribute [local simp] undefA List.getElem?_cons_zero List.getElem?_cons_succ perC persC_noObj noObjL_inC gcO_grA noObj_grA in
theorem rtake_ok {σ : St} {id k : Nat} {p : List UInt8} {s : Option (List UInt8)} (h : σ.objs[id]? = some (inC p .shut k s.isNone)) (hp : p.length ≤ 1000000) (hk : At p k s) :
    CallsA Try.prog 35 [.ptr id 0] σ (fun av σ' => av = .agg (plnC (takeP s)) ∧ ∃ k', At p k' (takeT s) ∧ σ' = { σ with objs := σ.objs.set id (inC p .shut k' (takeT s).isNone) }) := by
  refine callsA_gcI (x := fun k' => inC p .shut k' (takeT s).isNone) ?_ (by simp [AV.under, underL, plnC, persC_under]) (fun _ => inC_under _ _ _ _)
  have hs := set_self_of h
  have hlt := lt_of_get h
  have ho1 : ∀ r, (σ.objs ++ r)[id]? = some (inC p .shut k s.isNone) := fun r => by rw [List.getElem?_append_left hlt]; exact h
  have ho2 : ∀ x r, (σ.objs.set id x ++ r)[id]? = some x := fun x r => by rw [List.getElem?_append_left (by simpa using hlt)]; exact hs x
  have ho3 : ∀ x r, (σ.objs ++ r).set id x = σ.objs.set id x ++ r := fun x r => List.set_append_left _ _ hlt
  have ho4 : ∀ x y r, (σ.objs.set id y ++ r).set id x = σ.objs.set id x ++ r := fun x y r => by rw [List.set_append_left _ _ (by simpa using hlt), List.set_set]
  have hgc : ∀ (k : Nat) (b : Bool) (cs : List AV) (n : Nat), (grA k 2 b cs n).isCell = true := fun k b cs n => by cases b <;> rfl
  simp only [AV.isCell] at hgc
  have hdr : ∀ f : Nat → AV, List.drop 2 (List.map f (List.range 2)) = [] := fun _ => rfl
  have hdr5 : ∀ f : Nat → AV, List.drop 5 (List.map f (List.range 5)) = [] := fun _ => rfl
  have hR : ∀ (L : List Per) (k : Nat) (τ : St), L.length ≤ 255 → (∀ x ∈ L, x.l < 2 ^ 64 ∧ x.c.length ≤ 255) → CallsA Try.prog 19 [.agg [.v (.int .u8 (be (takeB 1 s))), .v (.int .u64 (be (takeB 8 (takeS 1 s)))), .v (.int .u64 (be (takeB 8 (takeS 8 (takeS 1 s))))), .sl 5 (coinsC (coinsL (takeS 8 (takeS 8 (takeS 1 s))))) (coinsL (takeS 8 (takeS 8 (takeS 1 s)))).length .shut, grA k 2 (posB L.length) (persC L) L.length]] τ (fun av σ' => av = .v (.bool (rightB (planP s L))) ∧ τ = σ') :=
    fun L k τ hl hx => callsA_wk (.cons (WkL.agg take_wk) .nil) (rpright_ok (planP_ok hl hx))
  obtain ⟨c, hc⟩ : ∃ c, c = be (takeB 1 (s4S s)) := ⟨_, rfl⟩
  have hm := be_lt1 (takeB_len 1 (s4S s))
  rw [← hc] at hm
  have hlt2 : id < σ.objs.length + 2 := by omega
  have htk : ∀ (x a b e : List AV), List.take (σ.objs.length + 2) (σ.objs.set id x ++ [a, b, e]) = σ.objs.set id x ++ [a, b] := fun x a b e => by
    have := List.take_length_add_append (l₁ := σ.objs.set id x) (l₂ := [a, b, e]) 2
    rw [List.length_set] at this
    exact this
  have F := And.intro ho1 (And.intro ho2 (And.intro ho3 (And.intro ho4 (And.intro hlt (And.intro hdr (And.intro hdr5 (And.intro hgc (And.intro hlt2 (And.intro htk (True.intro))))))))))
  refine callsA_body Try.func35 rfl rfl rfl ?_
  refine sq fun K1 hK1 => ?_
  refine rg' (h := fun J2 hJ2 => ?_)
  refine hJ2 _ _ ?_
  refine hK1 _ _ ?_
  refine sq fun K3 hK3 => ?_
  refine rg' (h := fun J4 hJ4 => ?_)
  refine hJ4 _ _ ?_
  refine hK3 _ _ ?_
  refine sq fun K5 hK5 => ?_
  refine rg' (h := fun J6 hJ6 => ?_)
  refine ca (c := inByte_ok (ho1 _) hp hk) (k := ?_)
  rintro _ _ ⟨rfl, k0, hk0, rfl⟩
  repeat (first | simp [F] | simp (disch := omega) only [wC, if_pos, if_neg])
  refine hJ6 _ _ ?_
  refine hK5 _ _ ?_
  refine sq fun K7 hK7 => ?_
  refine rg' (h := fun J8 hJ8 => ?_)
  refine ca (c := inLong_ok (n := 8) (ho2 _ _) hp hk0 (by omega)) (k := ?_)
  rintro _ _ ⟨rfl, k1, hk1, rfl⟩
  repeat (first | simp [F] | simp (disch := omega) only [wC, if_pos, if_neg])
  refine hJ8 _ _ ?_
  refine hK7 _ _ ?_
  refine sq fun K9 hK9 => ?_
  refine rg' (h := fun J10 hJ10 => ?_)
  refine ca (c := inLong_ok (n := 8) (ho2 _ _) hp hk1 (by omega)) (k := ?_)
  rintro _ _ ⟨rfl, k2, hk2, rfl⟩
  repeat (first | simp [F] | simp (disch := omega) only [wC, if_pos, if_neg])
  refine hJ10 _ _ ?_
  refine hK9 _ _ ?_
  refine sq fun K11 hK11 => ?_
  refine rg' (h := fun J12 hJ12 => ?_)
  refine ca (c := inCoins_ok (ho2 _ _) hp hk2) (k := ?_)
  rintro _ _ ⟨rfl, k3, hk3, rfl⟩
  repeat (first | simp [F] | simp (disch := omega) only [wC, if_pos, if_neg])
  refine hJ12 _ _ ?_
  refine hK11 _ _ ?_
  refine sq fun K13 hK13 => ?_
  have hc2 : be (takeB 1 (coinsS (takeS 8 (takeS 8 (takeS 1 s))))) = c := hc.symm
  replace F := And.intro hc2 F
  refine rg' (h := fun J14 hJ14 => ?_)
  refine ca (c := inByte_ok (ho2 _ _) hp hk3) (k := ?_)
  rintro _ _ ⟨rfl, k4, hk4, rfl⟩
  repeat (first | simp [F] | simp (disch := omega) only [wC, if_pos, if_neg])
  refine hJ14 _ _ ?_
  refine hK13 _ _ ?_
  refine sq fun K15 hK15 => ?_
  refine sq fun K16 hK16 => ?_
  refine rg' (h := fun J17 hJ17 => ?_)
  refine hJ17 _ _ ?_
  refine hK16 _ _ ?_
  refine run_block_k ?_
  refine run_loopG (X := TSk) [0, 2, 3, 4] (fun q ρ σ1 => (q.m ≤ c) ∧ (q.m + q.l.length ≤ 255) ∧ (∀ x ∈ q.l, x.l < 2 ^ 64 ∧ x.c.length ≤ 255) ∧ (persGo q.m q.s q.l = planR s) ∧ (At p q.k q.s) ∧ (ρ 5 = .v (.int .i64 (c - q.m : Nat))) ∧ (σ1 = { σ with objs := σ.objs.set id (inC p .shut q.k q.s.isNone) ++ [[.v (.int .u8 0), .v (.int .u64 0), .v (.int .u64 0), .sl 0 [] 0 .full, .sl 0 [] 0 .full], [.v (.int .u8 (be (takeB 1 s))), .v (.int .u64 (be (takeB 8 (takeS 1 s)))), .v (.int .u64 (be (takeB 8 (takeS 8 (takeS 1 s))))), .sl 5 (coinsC (coinsL (takeS 8 (takeS 8 (takeS 1 s))))) (coinsL (takeS 8 (takeS 8 (takeS 1 s)))).length .shut, grA σ.toks.length 2 (posB q.l.length) (persC q.l) q.l.length]], toks := σ.toks ++ grT (posB q.l.length) q.l.length })) (fun q => q.m) (⟨c, takeS 1 (s4S s), [], k4⟩) ?st1 ?rd1
  case st1 =>
   refine ⟨lp, ?_, ?_, ?_, ?_, lp, ?_⟩
   · simp
     omega
   · simp
   · rw [hc]
     rfl
   · exact hk4
   · simp [F, s4S]
  case rd1 =>
   rintro q ρ1 σ1 hF1 ⟨hmc, hml, hx, hg, hq, hi, hσ⟩
   obtain rfl := hσ.symm
   have f1 := keepL hF1
   try simp [KeepL, F] at f1
   replace F := And.intro hi F
   try replace F := And.intro f1 F
   refine sq fun K18 hK18 => ?_
   refine sqc (X := Unit) [0, 2, 3, 4, 5] (fun k ρ σ1 => (ρ 31 = .v (.bool (decide (0 < q.m) && !q.s.isNone))) ∧ (σ1 = { σ with objs := σ.objs.set id (inC p .shut q.k q.s.isNone) ++ [[.v (.int .u8 0), .v (.int .u64 0), .v (.int .u64 0), .sl 0 [] 0 .full, .sl 0 [] 0 .full], [.v (.int .u8 (be (takeB 1 s))), .v (.int .u64 (be (takeB 8 (takeS 1 s)))), .v (.int .u64 (be (takeB 8 (takeS 8 (takeS 1 s))))), .sl 5 (coinsC (coinsL (takeS 8 (takeS 8 (takeS 1 s))))) (coinsL (takeS 8 (takeS 8 (takeS 1 s)))).length .shut, grA σ.toks.length 2 (posB q.l.length) (persC q.l) q.l.length]], toks := σ.toks ++ grT (posB q.l.length) q.l.length })) ?cy19 ?cx19
   case cy19 =>
    rintro k ρCr8 σ1 hFCr8 ⟨h31, hσ⟩
    obtain rfl := hσ.symm
    have fCr8 := keepL hFCr8
    try simp [KeepL, F] at fCr8
    replace F := And.intro h31 F
    try replace F := And.intro fCr8 F
    refine cs (t := (decide (0 < q.m) && !q.s.isNone)) (fun c31 => ?_) (fun c31 => ?_)
    · try exact nope c31
      all_goals have c31p := c31
      all_goals try simp [F] at c31p
      all_goals
       replace F := And.intro c31 F
       try replace F := And.intro c31p F
       refine run_skip ?_
       refine hK18 _ _ ?_
       refine sq fun K20 hK20 => ?_
       refine run_block_k ?_
       refine sq fun K21 hK21 => ?_
       obtain ⟨m, S, L, j⟩ := q
       simp only at hmc hml hx hg hq hi
       have hmS : 0 < m ∧ ¬ S = none := by have h := c31; simp at h; exact ⟨h.1, by intro e; rw [e] at h; simp at h⟩
       have hnx := persGo_more (l := L) hmS.1 hmS.2
       have hP : persC (L ++ [perS S]) = persC L ++ [.v (.int .u64 (be (takeB 8 S))), .sl 5 (coinsC (coinsL (takeS 8 S))) (coinsL (takeS 8 S)).length .shut] := by rw [← persC_append]; rfl
       have hLl : L.length ≤ 254 := by omega
       have happ : ∀ objs, appendA Try.prog 24 (grA σ.toks.length 2 (posB L.length) (persC L) L.length) (.sl 2 [.v (.int .u64 (be (takeB 8 S))), .sl 5 (coinsC (coinsL (takeS 8 S))) (coinsL (takeS 8 S)).length .shut] 1 .full) ⟨objs, σ.toks ++ grT (posB L.length) L.length, σ.gl, σ.rows⟩ = some (grA σ.toks.length 2 true (persC L ++ [.v (.int .u64 (be (takeB 8 S))), .sl 5 (coinsC (coinsL (takeS 8 S))) (coinsL (takeS 8 S)).length .shut]) (L.length + 1), ⟨objs, σ.toks ++ grT true (L.length + 1), σ.gl, σ.rows⟩) := fun objs => append_gr elemT_24 ti_88 (by decide) rfl nil0 (.inl rfl) (by simp [roomA]; omega) (by simp [maxLen]; omega)
       replace F := And.intro hP.symm F
       refine rg' (h := fun J22 hJ22 => ?_)
       refine hJ22 _ _ ?_
       refine hK21 _ _ ?_
       refine sq fun K23 hK23 => ?_
       refine rg' (h := fun J24 hJ24 => ?_)
       refine ca (c := inLong_ok (n := 8) (ho2 _ _) hp hq (by omega)) (k := ?_)
       rintro _ _ ⟨rfl, k5, hk5, rfl⟩
       repeat (first | simp [F] | simp (disch := omega) only [wC, if_pos, if_neg])
       refine hJ24 _ _ ?_
       refine hK23 _ _ ?_
       refine sq fun K25 hK25 => ?_
       refine rg' (h := fun J26 hJ26 => ?_)
       refine ca (c := inCoins_ok (ho2 _ _) hp hk5) (k := ?_)
       rintro _ _ ⟨rfl, k6, hk6, rfl⟩
       repeat (first | simp [F] | simp (disch := omega) only [wC, if_pos, if_neg])
       refine hJ26 _ _ ?_
       refine hK25 _ _ ?_
       replace F := And.intro happ F
       refine rg' (h := fun J27 hJ27 => ?_)
       refine hJ27 _ _ ?_
       refine hK20 _ _ ?_
       refine rg' (h := fun J28 hJ28 => ?_)
       refine hJ28 _ _ ?_
       refine ⟨gk, (⟨m - 1, perT S, L ++ [perS S], k6⟩), ⟨kpG, ?_, ?_, ?_, ?_, ?_, ?_, ?_⟩, ?_⟩
       · simp
         omega
       · simp
         omega
       · intro x hxm
         rcases List.mem_append.1 hxm with h | h
         · exact hx x h
         · simp at h; subst h; exact perS_ok S
       · rw [← hg]
         exact hnx.symm
       · exact hk6
       · simp [F, AV.gcO]
         omega
       · simp [F, perT, St.trimO]
       · simp
         omega
    try exact nope c31
    all_goals have c31p := c31
    all_goals try simp [F] at c31p
    all_goals
     replace F := And.intro c31 F
     try replace F := And.intro c31p F
     have he : planR s = (q.l, q.s) := by rw [← hg]; exact persGo_stop (by have h := c31; simp at h; by_cases h0 : q.m = 0; exact .inl h0; exact .inr (h (by omega)))
     have hql : q.l.length ≤ 255 := by omega
     refine run_exit ?_
     refine hK15 _ _ ?_
     refine sq fun K29 hK29 => ?_
     refine sq fun K30 hK30 => ?_
     refine rg' (h := fun J31 hJ31 => ?_)
     refine gs 50 (fun g14_4 => ?_) (fun g14_4 => ?_)
     · try exact nope g14_4
       all_goals have g14_4p := g14_4
       all_goals try simp [F] at g14_4p
       all_goals
        replace F := And.intro g14_4 F
        try replace F := And.intro g14_4p F
        refine no2 (k := ?_)
        refine no2 (k := ?_)
        refine no2 (k := ?_)
        refine hJ31 _ _ ?_
        refine hK30 _ _ ?_
        refine ct ?_
        refine sq fun K32 hK32 => ?_
        refine rg' (h := fun J33 hJ33 => ?_)
        refine hJ33 _ _ ?_
        refine hK32 _ _ ?_
        refine sq fun K34 hK34 => ?_
        refine rg' (h := fun J35 hJ35 => ?_)
        refine hJ35 _ _ ?_
        refine hK34 _ _ ?_
        refine run_ret ?_
        try simp only [Then, InBlock, NoGoto]
        refine acell (h := ?_)
        obtain ⟨e1, e2⟩ := take_none he (.inr (by simpa using g14_4))
        rw [e1, e2]
        exact ⟨q.k, ⟨hq.1, .inl rfl⟩, gcr (τ := { σ with objs := σ.objs.set id (inC p .shut q.k true) }) (hA := WkL.agg (cut_nil rfl))⟩
     try exact nope g14_4
     all_goals have g14_4p := g14_4
     all_goals try simp [F] at g14_4p
     all_goals
      replace F := And.intro g14_4 F
      try replace F := And.intro g14_4p F
      refine go2 (k := ?_)
      refine ca (c := hR q.l _ _ hql hx) (k := ?_)
      rintro _ _ ⟨rfl, rfl⟩
      repeat (first | simp [F] | simp (disch := omega) only [wC, if_pos, if_neg])
      refine go2 (k := ?_)
      refine hJ31 _ _ ?_
      refine hK30 _ _ ?_
      refine cs (fun c54 => ?_) (fun c54 => ?_)
      · try exact nope c54
        all_goals have c54p := c54
        all_goals try simp [F] at c54p
        all_goals
         replace F := And.intro c54 F
         try replace F := And.intro c54p F
         refine sq fun K36 hK36 => ?_
         refine rg' (h := fun J37 hJ37 => ?_)
         refine hJ37 _ _ ?_
         refine hK36 _ _ ?_
         refine sq fun K38 hK38 => ?_
         refine rg' (h := fun J39 hJ39 => ?_)
         refine hJ39 _ _ ?_
         refine hK38 _ _ ?_
         refine run_ret ?_
         try simp only [Then, InBlock, NoGoto]
         refine acell (h := ?_)
         obtain ⟨e1, e2⟩ := take_none he (.inl (by simpa using c54))
         rw [e1, e2]
         exact ⟨q.k, ⟨hq.1, .inl rfl⟩, gcr (τ := { σ with objs := σ.objs.set id (inC p .shut q.k true) }) (hA := WkL.agg (cut_nil rfl))⟩
      try exact nope c54
      all_goals have c54p := c54
      all_goals try simp [F] at c54p
      all_goals
       replace F := And.intro c54 F
       try replace F := And.intro c54p F
       refine run_skip ?_
       refine hK29 _ _ ?_
       refine sq fun K40 hK40 => ?_
       refine rg' (h := fun J41 hJ41 => ?_)
       refine hJ41 _ _ ?_
       refine hK40 _ _ ?_
       refine run_ret ?_
       try simp only [Then, InBlock, NoGoto]
       refine acell (h := ?_)
       obtain ⟨e1, e2⟩ := take_some he (by simpa using c54) (by intro e; simp [e] at g14_4)
       rw [e1, e2]
       exact ⟨q.k, hq, gcr (τ := { σ with objs := σ.objs.set id (inC p .shut q.k q.s.isNone) }) (hA := WkL.agg take_wk)⟩
   case cx19 =>
    intro K19 hK19
    refine rg' (h := fun J42 hJ42 => ?_)
    refine gs 25 (fun g8_3 => ?_) (fun g8_3 => ?_)
    · try exact nope g8_3
      all_goals have g8_3p := g8_3
      all_goals try simp [F] at g8_3p
      all_goals
       replace F := And.intro g8_3 F
       try replace F := And.intro g8_3p F
       refine go2 (k := ?_)
       refine go2 (k := ?_)
       refine go2 (k := ?_)
       refine go2 (k := ?_)
       refine go2 (k := ?_)
       refine hJ42 _ _ ?_
       refine hK19 (()) _ _ ⟨kp, ?_, lp⟩
       · have h := g8_3
         simp at h
         simp [F]
         try omega
    try exact nope g8_3
    all_goals have g8_3p := g8_3
    all_goals try simp [F] at g8_3p
    all_goals
     replace F := And.intro g8_3 F
     try replace F := And.intro g8_3p F
     refine no2 (k := ?_)
     refine no2 (k := ?_)
     refine no2 (k := ?_)
     refine no2 (k := ?_)
     refine no2 (k := ?_)
     refine hJ42 _ _ ?_
     refine hK19 (()) _ _ ⟨kp, ?_, lp⟩
     · have h := g8_3
       simp at h
       simp [F]
       try omega

end Go.Proofs.Ytdbaddholggkbaa

/-
  Arguments: numbers, lists of coins, plans.
-/
namespace Go.Vm
set_option linter.unnecessarySimpa false
set_option linter.unusedVariables false
open Go

theorem leavesF_mono {go go' : TypeId → Option (List TypeId)} (h : ∀ t l, go t = some l → go' t = some l) : ∀ (fs : List Field) (acc ls : List TypeId), leavesF go fs acc = some ls → leavesF go' fs acc = some ls
  | [], acc, ls, e => e
  | f :: fs, acc, ls, e => by
    simp only [leavesF] at e ⊢
    split at e
    · rename_i hf
      rw [if_pos hf]
      cases hg : go f.type with
      | none => rw [hg] at e; cases e
      | some l =>
        rw [hg] at e
        rw [h _ _ hg]
        exact leavesF_mono h fs _ ls e
    · cases e

theorem leaves_succ {P : Program} : ∀ (n : Nat) (t : TypeId) (l : List TypeId), leaves P n t = some l → leaves P (n + 1) t = some l
  | 0, t, l, h => by simp [leaves] at h
  | n + 1, t, l, h => by
    have ih := leaves_succ (P := P) n
    rw [leaves] at h ⊢
    split at h
    · exact h
    · exact h
    · exact h
    · rename_i e hu
      cases hg : leaves P n e with
      | none => rw [hg] at h; cases h
      | some l' => rw [hg] at h; simp only [ih _ _ hg]; exact h
    · rename_i fs hu
      cases hg : leavesF (leaves P n) fs.toList [] with
      | none => rw [hg] at h; cases h
      | some l' => rw [hg] at h; simp only [leavesF_mono ih _ _ _ hg]; exact h
    · rename_i k e hu
      cases hg : leaves P n e with
      | none => rw [hg] at h; cases h
      | some l' => rw [hg] at h; simp only [ih _ _ hg]; exact h
    · cases h

theorem leaves_add {P : Program} {n : Nat} {t : TypeId} {l : List TypeId} (h : leaves P n t = some l) : ∀ k, leaves P (n + k) t = some l
  | 0 => h
  | k + 1 => leaves_succ _ _ _ (leaves_add h k)
theorem leaves_one {P : Program} {n m : Nat} {t : TypeId} {l l' : List TypeId} (h : leaves P n t = some l) (h' : leaves P m t = some l') : l = l' := by
  have h1 := leaves_add h m
  have h2 := leaves_add h' n
  rw [Nat.add_comm] at h2
  rw [h1] at h2
  exact Option.some.inj h2

theorem u8_of {P : Program} {u : TypeId} {a : AV} (hu : P.underlying u = some (.int .u8)) (w : WC P u a) : ∃ b : UInt8, a = .v (.int .u8 b.toNat) := by
  cases w with
  | bool h => rw [hu] at h; cases h
  | string h _ => rw [hu] at h; cases h
  | slice h _ _ _ _ => rw [hu] at h; cases h
  | int h hw =>
    rename_i k n
    rw [hu] at h
    cases h
    have m1 : IntKind.u8.min = 0 := rfl
    have m2 : IntKind.u8.max = 255 := rfl
    simp [Lit.wf, m1, m2] at hw
    refine ⟨UInt8.ofNat n.toNat, ?_⟩
    have e : (UInt8.ofNat n.toNat).toNat = n.toNat := toNat_u8 (by omega)
    rw [e]
    congr 2; omega

theorem wc_len {P : Program} {t : TypeId} {sz n : Nat} {cs : List AV} {tl : Tail} (w : WC P t (.sl sz cs n tl)) : n ≤ 9223372036854775807 := by
  generalize hx : AV.sl sz cs n tl = x at w
  cases w with
  | bool h => cases hx
  | string h _ => cases hx
  | int h _ => cases hx
  | slice h hls hl hn hc => cases hx; exact hn

end Go.Vm

/-
  PlanTakes..
-/
namespace Go.Proofs.Ytdbaddholggkbaa
set_option linter.unnecessarySimpa false
set_option maxRecDepth 100000
open Go Go.Vm
set_option linter.unusedSimpArgs false
set_option linter.unusedVariables false

attribute [local simp] evalL wantedA isCall opA evalA evalAll evalsA evalOpt ofValue ofCell plain binA_eql_pn binA_neq_pn binA_gtr binA_lss binA_geq binA_leq binA_add binA_sub binA_eql binA_neq binA_orI binA_andI binA_shl binA_shr binA_mul binA_quo binA_rem binA_agg_eql binA_agg_neq convA_int unA_not fieldAddrA loadA partA pickA_true pickA_false pickA_bb lenA builtinA storeA splice AV.cells AV.isCell sliceA boundA intA callOf indexAddrA newObjA buildA fillA zeroA ofCells buildSliceA indexA fieldA numA_len4 numA_take4 numA_drop4 set_appN get_appN take_appN List.getElem?_cons_zero List.getElem?_cons_succ makeA zeros64

theorem persGo_all : ∀ (m : Nat) (s : Option (List UInt8)) (l : List Per), (∀ x ∈ l, x.l < 2 ^ 64 ∧ x.c.length ≤ 255) → m + l.length ≤ 255 → (persGo m s l).1.length ≤ 255 ∧ ∀ x ∈ (persGo m s l).1, x.l < 2 ^ 64 ∧ x.c.length ≤ 255
  | 0, s, l, hx, hl => ⟨by simp only [persGo]; omega, hx⟩
  | m + 1, none, l, hx, hl => ⟨by simp only [persGo]; omega, hx⟩
  | m + 1, some p, l, hx, hl => by
    rw [persGo]
    refine persGo_all m _ _ (fun x h => ?_) (by simp; omega)
    rcases List.mem_append.1 h with h | h
    · exact hx x h
    · simp at h; subst h; exact perS_ok _
theorem takeP_ok (s : Option (List UInt8)) : (takeP s).Ok := by
  unfold takeP
  split
  · simp [Pln.Ok]
  · have hm := be_lt1 (takeB_len 1 (s4S s))
    have h := persGo_all (be (takeB 1 (s4S s))) (takeS 1 (s4S s)) [] (by simp) (by simp; omega)
    exact planP_ok h.1 h.2

set_option maxHeartbeats 1600000 in
attribute [local simp] undefA List.getElem?_cons_zero List.getElem?_cons_succ plnC in
theorem planTakes_ok {σ : St} {p : List UInt8} (hp : p.length ≤ 9223372036854775807) :
    CallsA Try.prog 9 [.sl 1 (bytesA p) p.length .shut] σ (fun av σ' => av = .v (.bool true) ∧ σ = σ') := by
  refine callsA_gcS ?_ rfl
  have hbb : ∀ (xo yo : Operand) (a b : Bool), binA Try.prog .eql 4 xo yo (.v (.bool a)) (.v (.bool b)) = some (.v (.bool (a == b))) := by intro xo yo a b; cases a <;> cases b <;> rfl
  have hi2 : ∀ p k b, (inC p .shut k b)[2]? = some (.v (.bool b)) := fun _ _ _ => rfl
  have hon := takeP_ok (some p)
  obtain ⟨X, hX⟩ : ∃ X, X = takeP (some p) := ⟨_, rfl⟩
  obtain ⟨T, hT⟩ : ∃ T, T = takeT (some p) := ⟨_, rfl⟩
  rw [← hX] at hon
  have c1 : ∀ {τ : St} {id : Nat}, τ.objs[id]? = some (rd (some p)) → CallsA Try.prog 34 [.ptr id 0] τ (fun av σ' => av = .agg (plnC X) ∧ σ' = { τ with objs := τ.objs.set id (rd T) }) := fun h => by rw [hX, hT]; exact ptake_ok h
  have c2 : ∀ {τ : St} {id : Nat}, p.length ≤ 1000000 → τ.objs[id]? = some (inC p .shut 0 false) → CallsA Try.prog 35 [.ptr id 0] τ (fun av σ' => av = .agg (plnC X) ∧ ∃ k', At p k' T ∧ σ' = { τ with objs := τ.objs.set id (inC p .shut k' T.isNone) }) := fun h1 h => by
    rw [hX, hT]; exact rtake_ok (s := some p) h h1 ⟨Nat.zero_le _, .inr (by simp)⟩
  have c3 := fun σ => rplsame_ok (σ := σ) hon hon
  simp only [decide_true] at c3
  clear hX hT
  obtain ⟨xk, xs, xe, xt, xp⟩ := X
  have F := And.intro hbb (And.intro hi2 (True.intro))
  refine callsA_body Try.func9 rfl rfl rfl ?_
  refine sq fun K1 hK1 => ?_
  refine rg' (h := fun J2 hJ2 => ?_)
  refine hJ2 _ _ ?_
  refine hK1 _ _ ?_
  refine sq fun K3 hK3 => ?_
  refine sq fun K4 hK4 => ?_
  refine rg' (h := fun J5 hJ5 => ?_)
  refine ca (c := even_ok) (k := ?_)
  rintro _ _ ⟨rfl, rfl⟩
  repeat (first | simp [F] | simp (disch := omega) only [wC, if_pos, if_neg])
  refine gs 9 (fun g1_2 => ?_) (fun g1_2 => ?_)
  · try exact nope g1_2
    all_goals have g1_2p := g1_2
    all_goals try simp [F] at g1_2p
    all_goals
     replace F := And.intro g1_2 F
     try replace F := And.intro g1_2p F
     refine no2 (k := ?_)
     refine no2 (k := ?_)
     refine no2 (k := ?_)
     refine hJ5 _ _ ?_
     refine hK4 _ _ ?_
     refine ct ?_
     refine sq fun K6 hK6 => ?_
     refine rg' (h := fun J7 hJ7 => ?_)
     refine ca (c := even_ok) (k := ?_)
     rintro _ _ ⟨rfl, rfl⟩
     repeat (first | simp [F] | simp (disch := omega) only [wC, if_pos, if_neg])
     refine hJ7 _ _ ?_
     refine hK6 _ _ ?_
     refine run_ret ?_
     try simp only [Then, InBlock, NoGoto]
     refine answer_tmp rfl (.inr rfl) ?_
     exact gcr
  try exact nope g1_2
  all_goals have g1_2p := g1_2
  all_goals try simp [F] at g1_2p
  all_goals
   replace F := And.intro g1_2 F
   try replace F := And.intro g1_2p F
   refine go2 (k := ?_)
   refine go2 (k := ?_)
   refine go2 (k := ?_)
   refine hJ5 _ _ ?_
   refine hK4 _ _ ?_
   refine cs (fun c13 => ?_) (fun c13 => ?_)
   · try exact nope c13
     all_goals have c13p := c13
     all_goals try simp [F] at c13p
     all_goals
      replace F := And.intro c13 F
      try replace F := And.intro c13p F
      refine sq fun K8 hK8 => ?_
      refine rg' (h := fun J9 hJ9 => ?_)
      refine ca (c := even_ok) (k := ?_)
      rintro _ _ ⟨rfl, rfl⟩
      repeat (first | simp [F] | simp (disch := omega) only [wC, if_pos, if_neg])
      refine hJ9 _ _ ?_
      refine hK8 _ _ ?_
      refine run_ret ?_
      try simp only [Then, InBlock, NoGoto]
      refine answer_tmp rfl (.inr rfl) ?_
      exact gcr
   try exact nope c13
   all_goals have c13p := c13
   all_goals try simp [F] at c13p
   all_goals
    replace F := And.intro c13 F
    try replace F := And.intro c13p F
    refine run_skip ?_
    refine hK3 _ _ ?_
    refine sq fun K10 hK10 => ?_
    refine rg' (h := fun J11 hJ11 => ?_)
    refine ca (c := new_ok (by have h := c13; simp at h; omega)) (k := ?_)
    rintro _ _ ⟨rfl, rfl⟩
    repeat (first | simp [F] | simp (disch := omega) only [wC, if_pos, if_neg])
    refine hJ11 _ _ ?_
    refine hK10 _ _ ?_
    refine sq fun K12 hK12 => ?_
    refine rg' (h := fun J13 hJ13 => ?_)
    refine ca (c := c1 (by simp [F])) (k := ?_)
    rintro _ _ ⟨rfl, rfl⟩
    repeat (first | simp [F] | simp (disch := omega) only [wC, if_pos, if_neg])
    refine ca (c := c2 (by have h := c13; simp at h; omega) (by simp [F, inC])) (k := ?_)
    rintro _ _ ⟨rfl, k1, hk1, rfl⟩
    repeat (first | simp [F] | simp (disch := omega) only [wC, if_pos, if_neg])
    refine hJ13 _ _ ?_
    refine hK12 _ _ ?_
    refine sq fun K14 hK14 => ?_
    refine run_draw (by kernel_rfl) fun J15 hJ15 => ?_
    refine rp2 0 (k := ?_)
    refine rp2 2 (k := ?_)
    refine rp2 3 (k := ?_)
    refine rp2 4 (k := ?_)
    refine rp2 5 (k := ?_)
    refine dc 1 rfl (c := bad_ok (s := T) (by simp [F])) (k := ?_)
    rintro _ _ ⟨rfl, rfl⟩
    refine ⟨by first | exact fun _ _ h => h | (refine later_list [5, 4, 3, 2] (by kernel_rfl) (List.forall_mem_cons.2 ⟨fun _ => fact2 rfl rfl ?_, List.forall_mem_cons.2 ⟨fun _ => fact2 rfl rfl ?_, List.forall_mem_cons.2 ⟨fun _ => fact2 rfl rfl ?_, List.forall_mem_cons.2 ⟨fun _ => fact2 rfl rfl ?_, fun _ h => absurd h List.not_mem_nil⟩⟩⟩⟩) <;> constructor <;> first | rfl | (simp [F]; done)), ?_⟩
    repeat (first | simp [F] | simp (disch := omega) only [wC, if_pos, if_neg])
    refine rp2 6 (k := ?_)
    refine rp2 7 (k := ?_)
    refine gd 31 (fun g5_7 => ?_) (fun g5_7 => ?_)
    · try exact nope g5_7
      all_goals have g5_7p := g5_7
      all_goals try simp [F] at g5_7p
      all_goals
       replace F := And.intro g5_7 F
       try replace F := And.intro g5_7p F
       refine rp2 8 (k := ?_)
       refine rp2 10 (k := ?_)
       refine dc 9 rfl (c := left_ok (s := T) (by simp [F])) (k := ?_)
       rintro _ _ ⟨rfl, rfl⟩
       refine ⟨by first | exact fun _ _ h => h | (refine later_list [10, 6, 5, 4, 3, 2] (by kernel_rfl) (List.forall_mem_cons.2 ⟨fun _ => fact2 rfl rfl ?_, List.forall_mem_cons.2 ⟨fun _ => fact2 rfl rfl ?_, List.forall_mem_cons.2 ⟨fun _ => fact2 rfl rfl ?_, List.forall_mem_cons.2 ⟨fun _ => fact2 rfl rfl ?_, List.forall_mem_cons.2 ⟨fun _ => fact2 rfl rfl ?_, List.forall_mem_cons.2 ⟨fun _ => fact2 rfl rfl ?_, fun _ h => absurd h List.not_mem_nil⟩⟩⟩⟩⟩⟩) <;> constructor <;> first | rfl | (simp [F]; done)), ?_⟩
       repeat (first | simp [F] | simp (disch := omega) only [wC, if_pos, if_neg])
       refine dc 11 rfl (c := inLeft_ok (s := T) (tl := .shut) (p := p) (k := k1) (by simp [F]) (by have h := c13; simp at h; omega) hk1) (k := ?_)
       rintro _ _ ⟨rfl, rfl⟩
       refine ⟨by first | exact fun _ _ h => h | (refine later_list [6, 5, 4, 3, 2] (by kernel_rfl) (List.forall_mem_cons.2 ⟨fun _ => fact2 rfl rfl ?_, List.forall_mem_cons.2 ⟨fun _ => fact2 rfl rfl ?_, List.forall_mem_cons.2 ⟨fun _ => fact2 rfl rfl ?_, List.forall_mem_cons.2 ⟨fun _ => fact2 rfl rfl ?_, List.forall_mem_cons.2 ⟨fun _ => fact2 rfl rfl ?_, fun _ h => absurd h List.not_mem_nil⟩⟩⟩⟩⟩) <;> constructor <;> first | rfl | (simp [F]; done)), ?_⟩
       repeat (first | simp [F] | simp (disch := omega) only [wC, if_pos, if_neg])
       refine rp2 12 (k := ?_)
       refine rp2 13 (k := ?_)
       refine rp2 14 (k := ?_)
       refine gd 38 (fun g5_14 => ?_) (fun g5_14 => ?_)
       · try exact nope g5_14
         all_goals have g5_14p := g5_14
         all_goals try simp [F] at g5_14p
         all_goals
          replace F := And.intro g5_14 F
          try replace F := And.intro g5_14p F
          refine rp2 15 (k := ?_)
          refine rp2 16 (k := ?_)
          refine dc 17 rfl (c := c3 _) (k := ?_)
          rintro _ _ ⟨rfl, rfl⟩
          refine ⟨by first | exact fun _ _ h => h | (refine later_list [13, 12, 6, 5, 4, 3, 2] (by kernel_rfl) (List.forall_mem_cons.2 ⟨fun _ => fact2 rfl rfl ?_, List.forall_mem_cons.2 ⟨fun _ => fact2 rfl rfl ?_, List.forall_mem_cons.2 ⟨fun _ => fact2 rfl rfl ?_, List.forall_mem_cons.2 ⟨fun _ => fact2 rfl rfl ?_, List.forall_mem_cons.2 ⟨fun _ => fact2 rfl rfl ?_, List.forall_mem_cons.2 ⟨fun _ => fact2 rfl rfl ?_, List.forall_mem_cons.2 ⟨fun _ => fact2 rfl rfl ?_, fun _ h => absurd h List.not_mem_nil⟩⟩⟩⟩⟩⟩⟩) <;> constructor <;> first | rfl | (simp [F]; done)), ?_⟩
          repeat (first | simp [F] | simp (disch := omega) only [wC, if_pos, if_neg])
          refine rp2 18 (k := ?_)
          refine rp2 19 (k := ?_)
          refine dd ?_
          refine hJ15 _ _ ?_
          refine hK14 _ _ ?_
          refine run_ret ?_
          try simp only [Then, InBlock, NoGoto]
          refine answer_tmp rfl (.inr rfl) ?_
          exact gcr
       try exact nope g5_14
       all_goals have g5_14p := g5_14
       all_goals try simp [F] at g5_14p
       all_goals
        replace F := And.intro g5_14 F
        try replace F := And.intro g5_14p F
        refine rp2 15 (k := ?_)
        refine rp2 16 (k := ?_)
        refine dop 17 rfl ?_
        repeat (first | simp [F] | simp (disch := omega) only [wC, if_pos, if_neg])
        refine rp2 18 (k := ?_)
        refine rp2 19 (k := ?_)
        refine dd ?_
        refine hJ15 _ _ ?_
        refine hK14 _ _ ?_
        refine run_ret ?_
        try simp only [Then, InBlock, NoGoto]
        refine answer_tmp rfl (.inr rfl) ?_
        exact gcr
    try exact nope g5_7
    all_goals have g5_7p := g5_7
    all_goals try simp [F] at g5_7p
    all_goals
     replace F := And.intro g5_7 F
     try replace F := And.intro g5_7p F
     refine rp2 8 (k := ?_)
     refine rp2 10 (k := ?_)
     refine dop 9 rfl ?_
     repeat (first | simp [F] | simp (disch := omega) only [wC, if_pos, if_neg])
     refine dop 11 rfl ?_
     repeat (first | simp [F] | simp (disch := omega) only [wC, if_pos, if_neg])
     refine rp2 12 (k := ?_)
     refine rp2 13 (k := ?_)
     refine rp2 14 (k := ?_)
     refine rp2 15 (k := ?_)
     refine rp2 16 (k := ?_)
     refine dop 17 rfl ?_
     repeat (first | simp [F] | simp (disch := omega) only [wC, if_pos, if_neg])
     refine rp2 18 (k := ?_)
     refine rp2 19 (k := ?_)
     refine dd ?_
     refine hJ15 _ _ ?_
     refine hK14 _ _ ?_
     refine run_ret ?_
     try simp only [Then, InBlock, NoGoto]
     refine answer_tmp rfl (.inr rfl) ?_
     exact gcr

end Go.Proofs.Ytdbaddholggkbaa
