import Derived.Test.YtdbaddholggkbaaZ7
import Derived.Test.YtdbaddholggkbaaZ13
import Derived.Test.YtdbaddholggkbaaZ12
/-
  A plan at hand..
-/
namespace Go.Proofs.Ytdbaddholggkbaa
set_option linter.unnecessarySimpa false
set_option maxRecDepth 100000
open Go Go.Vm
set_option linter.unusedSimpArgs false
set_option linter.unusedVariables false

attribute [local simp] evalL wantedA isCall opA evalA evalAll evalsA evalOpt ofValue ofCell plain binA_eql_pn binA_neq_pn binA_gtr binA_lss binA_geq binA_leq binA_add binA_sub binA_eql binA_neq binA_orI binA_andI binA_shl binA_shr binA_mul binA_quo binA_rem binA_agg_eql binA_agg_neq convA_int unA_not fieldAddrA loadA partA pickA_true pickA_false pickA_bb lenA builtinA storeA splice AV.cells AV.isCell sliceA boundA intA callOf indexAddrA newObjA buildA fillA zeroA ofCells buildSliceA indexA fieldA numA_len4 numA_take4 numA_drop4 set_appN get_appN take_appN List.getElem?_cons_zero List.getElem?_cons_succ makeA zeros64

def evenP : Pln := ⟨1, 10, 20, [⟨0, Num.of 5⟩], []⟩
theorem evenOk : evenP.Ok := ⟨by decide, by decide, by decide, by decide, fun x hx => absurd hx (by simp [evenP])⟩
theorem evenRight : rightB evenP = true := by decide
theorem evenVest : vestL evenP 13 = [⟨0, Num.of 1⟩] := by decide
def sixP : Pln := ⟨6, 0, 0, [], []⟩
theorem sixOk : sixP.Ok := ⟨by decide, by decide, by decide, by decide, fun x hx => absurd hx (by simp [sixP])⟩
theorem nilAgg {k : Int} : WkL [.agg [.v (.int .u8 k), .v (.int .u64 0), .v (.int .u64 0), .sl 0 [] 0 .full, .sl 0 [] 0 .full]] [.agg [.v (.int .u8 k), .v (.int .u64 0), .v (.int .u64 0), .sl 5 [] 0 .shut, .sl 2 [] 0 .shut]] :=
  .cons (WkL.agg (.cons (Wk.refl _) (.cons (Wk.refl _) (.cons (Wk.refl _) (.cons (Wk.nil _ _ _) (.cons (Wk.nil _ _ _) .nil)))))) .nil
theorem plrightZ_ok {σ : St} : CallsA Try.prog 18 [.agg [.v (.int .u8 0), .v (.int .u64 0), .v (.int .u64 0), .sl 0 [] 0 .full, .sl 0 [] 0 .full]] σ (fun av σ' => av = .v (.bool true) ∧ σ = σ') := by
  have h := plright_ok (σ := σ) okZero
  rw [show rightB ⟨0, 0, 0, [], []⟩ = true by decide] at h
  exact callsA_wk nilAgg h
theorem plrightS_ok {σ : St} : CallsA Try.prog 18 [.agg [.v (.int .u8 6), .v (.int .u64 0), .v (.int .u64 0), .sl 0 [] 0 .full, .sl 0 [] 0 .full]] σ (fun av σ' => av = .v (.bool false) ∧ σ = σ') := by
  have h := plright_ok (σ := σ) sixOk
  rw [show rightB sixP = false by decide] at h
  exact callsA_wk nilAgg h
theorem evenAgg {tl : Tail} : WkL [.agg [.v (.int .u8 1), .v (.int .u64 10), .v (.int .u64 20), .sl 5 [.v (.int .u8 0), .v (.int .u64 5), .v (.int .u64 0), .v (.int .u64 0), .v (.int .u64 0)] 1 tl, .sl 0 [] 0 .full]] [.agg (plnC evenP)] :=
  .cons (WkL.agg (.cons (Wk.refl _) (.cons (Wk.refl _) (.cons (Wk.refl _) (.cons (Wk.shut _ _ _ _) (.cons (Wk.nil _ _ _) .nil)))))) .nil
theorem plrightE_ok {σ : St} {tl : Tail} : CallsA Try.prog 18 [.agg [.v (.int .u8 1), .v (.int .u64 10), .v (.int .u64 20), .sl 5 [.v (.int .u8 0), .v (.int .u64 5), .v (.int .u64 0), .v (.int .u64 0), .v (.int .u64 0)] 1 tl, .sl 0 [] 0 .full]] σ (fun av σ' => av = .v (.bool true) ∧ σ = σ') := by
  have h := plright_ok (σ := σ) evenOk
  rw [evenRight] at h
  exact callsA_wk evenAgg h
theorem pvestedE_ok {σ : St} {tl : Tail} : CallsA Try.prog 23 [.agg [.v (.int .u8 1), .v (.int .u64 10), .v (.int .u64 20), .sl 5 [.v (.int .u8 0), .v (.int .u64 5), .v (.int .u64 0), .v (.int .u64 0), .v (.int .u64 0)] 1 tl, .sl 0 [] 0 .full], .v (.int .u64 13)] σ (fun av σ' => av = .sl 5 [.v (.int .u8 0), .v (.int .u64 1), .v (.int .u64 0), .v (.int .u64 0), .v (.int .u64 0)] 1 .shut ∧ σ = σ') := by
  have h := pvested_ok (σ := σ) (t := 13) evenOk (by decide) (by decide) (by decide)
  rw [evenVest] at h
  refine callsA_wk (bs := [.agg (plnC evenP), .v (.int .u64 13)]) ?_ h
  exact .cons (WkL.agg (.cons (Wk.refl _) (.cons (Wk.refl _) (.cons (Wk.refl _) (.cons (Wk.shut _ _ _ _) (.cons (Wk.nil _ _ _) .nil)))))) (.cons (Wk.refl _) .nil)

set_option maxHeartbeats 1600000 in
attribute [local simp] undefA List.getElem?_cons_zero List.getElem?_cons_succ in
theorem even_ok {σ : St} : CallsA Try.prog 17 [] σ (fun av σ' => av = .v (.bool true) ∧ σ = σ') := by
  refine callsA_gcS ?_ rfl
  have hdr : ∀ f : Nat → AV, List.drop 5 (List.map f (List.range 5)) = [] := fun _ => rfl
  have heq : cellsEqA [.v (.int .u64 1), .v (.int .u64 0), .v (.int .u64 0), .v (.int .u64 0)] [.v (.int .u64 1), .v (.int .u64 0), .v (.int .u64 0), .v (.int .u64 0)] = true := by decide
  have F := And.intro hdr (And.intro heq (True.intro))
  refine callsA_body Try.func17 rfl rfl rfl ?_
  refine sq fun K1 hK1 => ?_
  refine rg' (h := fun J2 hJ2 => ?_)
  refine hJ2 _ _ ?_
  refine hK1 _ _ ?_
  refine sq fun K3 hK3 => ?_
  refine rg' (h := fun J4 hJ4 => ?_)
  refine hJ4 _ _ ?_
  refine hK3 _ _ ?_
  refine sq fun K5 hK5 => ?_
  refine rg' (h := fun J6 hJ6 => ?_)
  refine ca (c := pvestedE_ok) (k := ?_)
  rintro _ _ ⟨rfl, rfl⟩
  repeat (first | simp [F] | simp (disch := omega) only [wC, if_pos, if_neg])
  refine hJ6 _ _ ?_
  refine hK5 _ _ ?_
  refine sq fun K7 hK7 => ?_
  refine rg' (h := fun J8 hJ8 => ?_)
  refine ca (c := plrightE_ok) (k := ?_)
  rintro _ _ ⟨rfl, rfl⟩
  repeat (first | simp [F] | simp (disch := omega) only [wC, if_pos, if_neg])
  refine gs 11 (fun g3_2 => ?_) (fun g3_2 => ?_)
  · try exact nope g3_2
    all_goals have g3_2p := g3_2
    all_goals try simp [F] at g3_2p
    all_goals
     replace F := And.intro g3_2 F
     try replace F := And.intro g3_2p F
     refine go2 (k := ?_)
     refine go2 (k := ?_)
     refine go2 (k := ?_)
     refine gs 16 (fun g3_7 => ?_) (fun g3_7 => ?_)
     · try exact nope g3_7
       all_goals have g3_7p := g3_7
       all_goals try simp [F] at g3_7p
       all_goals
        replace F := And.intro g3_7 F
        try replace F := And.intro g3_7p F
        refine go2 (k := ?_)
        refine go2 (k := ?_)
        refine go2 (k := ?_)
        refine go2 (k := ?_)
        refine go2 (k := ?_)
        refine go2 (k := ?_)
        refine gs 24 (fun g3_15 => ?_) (fun g3_15 => ?_)
        · try exact nope g3_15
          all_goals have g3_15p := g3_15
          all_goals try simp [F] at g3_15p
          all_goals
           replace F := And.intro g3_15 F
           try replace F := And.intro g3_15p F
           refine go2 (k := ?_)
           refine ca (c := plrightZ_ok) (k := ?_)
           rintro _ _ ⟨rfl, rfl⟩
           repeat (first | simp [F] | simp (disch := omega) only [wC, if_pos, if_neg])
           refine gs 28 (fun g3_19 => ?_) (fun g3_19 => ?_)
           · try exact nope g3_19
             all_goals have g3_19p := g3_19
             all_goals try simp [F] at g3_19p
             all_goals
              replace F := And.intro g3_19 F
              try replace F := And.intro g3_19p F
              refine go2 (k := ?_)
              refine ca (c := plrightS_ok) (k := ?_)
              rintro _ _ ⟨rfl, rfl⟩
              repeat (first | simp [F] | simp (disch := omega) only [wC, if_pos, if_neg])
              refine go2 (k := ?_)
              refine hJ8 _ _ ?_
              refine hK7 _ _ ?_
              refine run_ret ?_
              try simp only [Then, InBlock, NoGoto]
              refine answer_tmp rfl (.inr rfl) ?_
              exact gcr
           try exact nope g3_19
           all_goals have g3_19p := g3_19
           all_goals try simp [F] at g3_19p
           all_goals
            replace F := And.intro g3_19 F
            try replace F := And.intro g3_19p F
            refine no2 (k := ?_)
            refine no2 (k := ?_)
            refine no2 (k := ?_)
            refine hJ8 _ _ ?_
            refine hK7 _ _ ?_
            refine run_ret ?_
            try simp only [Then, InBlock, NoGoto]
            refine answer_tmp rfl (.inr rfl) ?_
            exact gcr
        try exact nope g3_15
        all_goals have g3_15p := g3_15
        all_goals try simp [F] at g3_15p
        all_goals
         replace F := And.intro g3_15 F
         try replace F := And.intro g3_15p F
         refine no2 (k := ?_)
         refine no2 (k := ?_)
         refine no2 (k := ?_)
         refine no2 (k := ?_)
         refine no2 (k := ?_)
         refine hJ8 _ _ ?_
         refine hK7 _ _ ?_
         refine run_ret ?_
         try simp only [Then, InBlock, NoGoto]
         refine answer_tmp rfl (.inr rfl) ?_
         exact gcr
     try exact nope g3_7
     all_goals have g3_7p := g3_7
     all_goals try simp [F] at g3_7p
     all_goals
      replace F := And.intro g3_7 F
      try replace F := And.intro g3_7p F
      refine no2 (k := ?_)
      refine no2 (k := ?_)
      refine no2 (k := ?_)
      refine no2 (k := ?_)
      refine no2 (k := ?_)
      refine no2 (k := ?_)
      refine no2 (k := ?_)
      refine no2 (k := ?_)
      refine no2 (k := ?_)
      refine no2 (k := ?_)
      refine no2 (k := ?_)
      refine hJ8 _ _ ?_
      refine hK7 _ _ ?_
      refine run_ret ?_
      try simp only [Then, InBlock, NoGoto]
      refine answer_tmp rfl (.inr rfl) ?_
      exact gcr
  try exact nope g3_2
  all_goals have g3_2p := g3_2
  all_goals try simp [F] at g3_2p
  all_goals
   replace F := And.intro g3_2 F
   try replace F := And.intro g3_2p F
   refine no2 (k := ?_)
   refine no2 (k := ?_)
   refine no2 (k := ?_)
   refine no2 (k := ?_)
   refine no2 (k := ?_)
   refine no2 (k := ?_)
   refine no2 (k := ?_)
   refine no2 (k := ?_)
   refine no2 (k := ?_)
   refine no2 (k := ?_)
   refine no2 (k := ?_)
   refine no2 (k := ?_)
   refine no2 (k := ?_)
   refine no2 (k := ?_)
   refine hJ8 _ _ ?_
   refine hK7 _ _ ?_
   refine run_ret ?_
   try simp only [Then, InBlock, NoGoto]
   refine answer_tmp rfl (.inr rfl) ?_
   exact gcr

end Go.Proofs.Ytdbaddholggkbaa

/-
  Plans that are made of numbers: they are right.
-/
namespace Go.Vm
set_option linter.unnecessarySimpa false
set_option linter.unusedSimpArgs false
set_option linter.unusedVariables false
open Go

/-- What the list's coins put into a purse, the last of a kind counting. -/
def ofF : List Coin → Nat → Nat
  | [], _ => 0
  | c :: l, j => if ∃ b ∈ l, b.d.toNat % 8 = j then ofF l j else if c.d.toNat % 8 = j then c.n.v % 2 ^ 250 else 0
theorem ofF_lt : ∀ (l : List Coin) (j : Nat), ofF l j < 2 ^ 250
  | [], _ => by simp [ofF]
  | c :: l, j => by
    unfold ofF
    split
    · exact ofF_lt l j
    · split
      · exact Nat.mod_lt _ (by decide)
      · decide
theorem ofF_snoc : ∀ (l : List Coin) (c : Coin) (j : Nat), ofF (l ++ [c]) j = if j = c.d.toNat % 8 then c.n.v % 2 ^ 250 else ofF l j
  | [], c, j => by
    simp only [List.nil_append, ofF]
    by_cases h : j = c.d.toNat % 8
    · rw [if_pos h, if_neg (by simp), if_pos h.symm]
    · rw [if_neg h, if_neg (by simp), if_neg (fun e => h e.symm)]
  | x :: l, c, j => by
    have ih := ofF_snoc l c j
    rw [List.cons_append]
    unfold ofF
    rw [ih]
    by_cases h : j = c.d.toNat % 8
    · rw [if_pos h, if_pos h, if_pos ⟨c, by simp, h.symm⟩]
    · rw [if_neg h, if_neg h]
      have : (∃ b ∈ l ++ [c], b.d.toNat % 8 = j) ↔ ∃ b ∈ l, b.d.toNat % 8 = j := by
        constructor
        · rintro ⟨b, hb, e⟩
          rcases List.mem_append.1 hb with hb | hb
          · exact ⟨b, hb, e⟩
          · simp at hb; subst hb; exact absurd e.symm h
        · rintro ⟨b, hb, e⟩; exact ⟨b, by simp [hb], e⟩
      by_cases h2 : ∃ b ∈ l, b.d.toNat % 8 = j
      · rw [if_pos (this.2 h2), if_pos h2]
      · rw [if_neg (fun h3 => h2 (this.1 h3)), if_neg h2]
def oneC : List Coin := [⟨0, Num.of 1⟩]
def ofL (l : List Coin) : List Coin := if lstF (ofF l) 8 = [] then oneC else lstF (ofF l) 8
theorem right_ofL (l : List Coin) : Right (ofL l) := by
  unfold ofL
  split
  · unfold oneC; simp [Right]
  · exact right_lstF (fun d _ => Nat.lt_trans (ofF_lt l d) (by decide)) 8 (by omega)
theorem ofL_ne (l : List Coin) : ofL l ≠ [] := by
  unfold ofL
  split
  · simp [oneC]
  · assumption
theorem ofL_lt (l : List Coin) {d : Nat} (hd : d < 8) : amt (ofL l) d < 2 ^ 250 := by
  unfold ofL
  split
  · unfold oneC; simp only [amt]; split
    · rw [Num.of_v (by decide)]; decide
    · decide
  · rw [amt_lstF (fun d _ => Nat.lt_trans (ofF_lt l d) (by decide)) (by omega) hd]; exact ofF_lt l d

/-- A piece: a length and coins. -/
structure Pc where
  l : Nat
  c : List Coin
/-- What a plan is made of. -/
structure Mad where
  k : UInt8
  s : Nat
  n : Nat
  c : List Coin
  ps : List Pc
def Mad.Ok (m : Mad) : Prop := m.s < 2 ^ 32 ∧ m.n < 2 ^ 16 ∧ ∀ x ∈ m.ps, x.l < 2 ^ 16
def persL (m : Mad) : List Per := if m.ps = [] then [⟨m.n + 1, ofL []⟩] else (m.ps.take 16).map (fun x => ⟨x.l + 1, ofL x.c⟩)
def kindM (m : Mad) : UInt8 := m.k % 6
def plansL (m : Mad) : Pln :=
  if kindM m = 0 then ⟨0, 0, 0, [], []⟩
  else if kindM m = 1 then ⟨1, m.s, m.s + (m.n + 1), ofL m.c, []⟩
  else if kindM m = 2 then ⟨2, 0, m.s, ofL m.c, []⟩
  else if kindM m = 3 ∨ kindM m = 5 then ⟨kindM m, m.s, m.s + lenS (persL m), sumL (persL m) [], persL m⟩
  else ⟨kindM m, 0, 0, ofL m.c, []⟩

/-- Parts that are right, and few enough, add up. -/
theorem perOk_ok : ∀ (l : List Per) (E n : Nat) (a : List Coin), E + lenS l ≤ 2 ^ 40 → (∀ x ∈ l, 0 < x.l ∧ x.l ≤ 2 ^ 16 ∧ x.c ≠ [] ∧ Right x.c ∧ ∀ d, d < 8 → amt x.c d < 2 ^ 250) → n + l.length ≤ 32 → (∀ d, d < 8 → amt a d ≤ n * 2 ^ 250) →
    perOk l E a = some (E + lenS l, sumL l a)
  | [], E, n, a, _, _, _, _ => rfl
  | x :: l, E, n, a, hE, hx, hn, ha => by
    obtain ⟨h1, h2, h3, h4, h5⟩ := hx x (by simp)
    simp only [lenS, List.length_cons] at hE hn
    have hz : cAddE a x.c = 0 := cAddE_zero.2 (fun d hd => by
      have := ha d hd; have := h5 d hd
      have : n * 2 ^ 250 ≤ 31 * 2 ^ 250 := Nat.mul_le_mul_right _ (by omega)
      omega)
    simp only [perOk, sumL, lenS]
    rw [if_neg (by rintro (h | h | h | h); omega; omega; omega; exact h ⟨h3, h4⟩), if_pos hz]
    rw [perOk_ok l (E + x.l) (n + 1) (cAddL a x.c) (by omega) (fun y hy => hx y (by simp [hy])) (by omega) (fun d hd => by
      rw [amt_cAdd hz hd]
      have := ha d hd; have := h5 d hd
      rw [Nat.add_mul]; omega)]
    rw [Nat.add_assoc]

theorem persL_mem {m : Mad} (hm : m.Ok) : ∀ x ∈ persL m, 0 < x.l ∧ x.l ≤ 2 ^ 16 ∧ x.c ≠ [] ∧ Right x.c ∧ ∀ d, d < 8 → amt x.c d < 2 ^ 250 := by
  intro x hx
  unfold persL at hx
  split at hx
  · simp at hx; subst hx
    have h16 := hm.2.1
    generalize hq : ofL [] = q at *
    have hq1 := ofL_ne []; have hq2 := right_ofL []; have hq3 := @ofL_lt []
    rw [hq] at hq1 hq2 hq3
    exact ⟨Nat.succ_pos _, Nat.succ_le_of_lt h16, hq1, hq2, fun d hd => hq3 hd⟩
  · obtain ⟨y, hy, rfl⟩ := List.mem_map.1 hx
    have := hm.2.2 y (List.mem_of_mem_take hy)
    have hq1 := ofL_ne y.c; have hq2 := right_ofL y.c; have hq3 := @ofL_lt y.c
    exact ⟨Nat.succ_pos _, Nat.succ_le_of_lt this, hq1, hq2, fun d hd => hq3 hd⟩
theorem persL_len (m : Mad) : (persL m).length ≤ 16 := by
  unfold persL; split
  · simp
  · simp; omega
theorem persL_ne (m : Mad) : persL m ≠ [] := by
  unfold persL; split
  · simp
  · rename_i h
    cases hq : m.ps with
    | nil => exact absurd hq h
    | cons x l => simp
theorem lenS_le : ∀ (l : List Per), (∀ x ∈ l, x.l ≤ 2 ^ 16) → lenS l ≤ l.length * 2 ^ 16
  | [], _ => by simp [lenS]
  | x :: l, h => by
    have h1 := h x (by simp)
    have h2 := lenS_le l (fun y hy => h y (by simp [hy]))
    simp only [lenS, List.length_cons, Nat.add_mul]
    omega
theorem lenS_persL {m : Mad} (hm : m.Ok) : lenS (persL m) ≤ 2 ^ 20 := by
  have := lenS_le (persL m) (fun x hx => (persL_mem hm x hx).2.1)
  have := persL_len m
  have : (persL m).length * 2 ^ 16 ≤ 16 * 2 ^ 16 := Nat.mul_le_mul_right _ this
  omega
theorem perOk_persL {m : Mad} (hm : m.Ok) : perOk (persL m) m.s [] = some (m.s + lenS (persL m), sumL (persL m) []) :=
  perOk_ok (persL m) m.s 0 [] (by have := lenS_persL hm; have := hm.1; omega) (persL_mem hm) (by have := persL_len m; omega) (fun d _ => by simp [amt])
theorem amt_ne {l : List Coin} (h : Right l) (hn : l ≠ []) : ∃ d, d < 8 ∧ amt l d ≠ 0 := by
  cases l with
  | nil => exact absurd rfl hn
  | cons c l =>
    have h1 := h.1 c (by simp)
    refine ⟨c.d.toNat, h1.1, ?_⟩
    rw [amt_mem h.2 (by simp)]
    exact h1.2
theorem sumL_le : ∀ (l : List Per) (n : Nat) (a : List Coin), (∀ x ∈ l, 0 < x.l ∧ x.l ≤ 2 ^ 16 ∧ x.c ≠ [] ∧ Right x.c ∧ ∀ d, d < 8 → amt x.c d < 2 ^ 250) → n + l.length ≤ 32 → (∀ d, d < 8 → amt a d ≤ n * 2 ^ 250) → ∀ d, d < 8 → amt a d ≤ amt (sumL l a) d
  | [], _, _, _, _, _, _, _ => Nat.le_refl _
  | x :: l, n, a, hx, hn, ha, d, hd => by
    obtain ⟨h1, h2, h3, h4, h5⟩ := hx x (by simp)
    simp only [List.length_cons] at hn
    have hz : cAddE a x.c = 0 := cAddE_zero.2 (fun d hd => by
      have := ha d hd; have := h5 d hd
      have : n * 2 ^ 250 ≤ 31 * 2 ^ 250 := Nat.mul_le_mul_right _ (by omega)
      omega)
    have := sumL_le l (n + 1) (cAddL a x.c) (fun y hy => hx y (by simp [hy])) (by omega) (fun d hd => by
      rw [amt_cAdd hz hd]
      have := ha d hd; have := h5 d hd
      rw [Nat.add_mul]; omega) d hd
    rw [amt_cAdd hz hd] at this
    simp only [sumL]; omega
theorem sumL_ne {m : Mad} (hm : m.Ok) : sumL (persL m) [] ≠ [] := by
  intro h0
  have hx := persL_mem hm
  have hl := persL_len m
  cases hq : persL m with
  | nil => exact persL_ne m hq
  | cons x l =>
    rw [hq] at hx hl h0
    obtain ⟨h1, h2, h3, h4, h5⟩ := hx x (by simp)
    obtain ⟨d, hd, hz⟩ := amt_ne h4 h3
    have hz0 : cAddE [] x.c = 0 := cAddE_zero.2 (fun d hd => by have := h5 d hd; simp only [amt]; omega)
    have hle := sumL_le l 1 (cAddL [] x.c) (fun y hy => hx y (by simp [hy])) (by simp at hl; omega) (fun d hd => by rw [amt_cAdd hz0 hd]; have := h5 d hd; simp only [amt]; omega) d hd
    simp only [sumL] at h0
    rw [h0, amt_cAdd hz0 hd] at hle
    simp only [amt] at hle
    omega

theorem right_plansL {m : Mad} (hm : m.Ok) : rightB (plansL m) = true := by
  have h3 := lenS_persL hm
  have h4 := perOk_persL hm
  have h5 := persL_len m
  have h6 : kindM m < 6 := by
    unfold kindM; exact UInt8.mod_lt _ (by decide)
  unfold plansL
  by_cases k0 : kindM m = 0
  · rw [if_pos k0]; decide
  rw [if_neg k0]
  by_cases k1 : kindM m = 1
  · rw [if_pos k1]; simp [rightB, ofL_ne, right_ofL]; have := hm.1; have := hm.2.1; omega
  rw [if_neg k1]
  by_cases k2 : kindM m = 2
  · rw [if_pos k2]; simp [rightB, ofL_ne, right_ofL]; have := hm.1; omega
  rw [if_neg k2]
  by_cases k3 : kindM m = 3 ∨ kindM m = 5
  · rw [if_pos k3]
    have e1 : ¬ 2 ^ 40 < m.s + lenS (persL m) := by have := hm.1; omega
    have hr : Right (sumL (persL m) []) := right_sumL _ _ right_nil
    rw [rightB, if_neg k0, if_neg (by rintro (h | h); exact h ⟨sumL_ne hm, hr⟩; exact e1 h), if_neg k1, if_neg k2, if_neg (by rcases k3 with h | h <;> simp only [h] <;> decide), if_pos k3]
    simp [perB, h4, h5]
  · rw [if_neg k3]
    have k4 : kindM m = 4 := by
      have a0 : ∀ n : UInt8, kindM m = n ↔ (kindM m).toNat = n.toNat := fun n => ⟨fun e => by rw [e], fun e => UInt8.toNat_inj.1 e⟩
      simp only [a0] at k0 k1 k2 k3 ⊢
      have : (kindM m).toNat < 6 := h6
      simp at k0 k1 k2 k3 ⊢
      omega
    rw [k4]; simp [rightB, ofL_ne, right_ofL]

/-- A piece's cells, and those of what a plan is made of. -/
def pcC (x : Pc) : List AV := [.v (.int .u16 x.l), .sl 5 (coinsC x.c) x.c.length .shut]
def pcsC (l : List Pc) : List AV := l.flatMap pcC
def madC (m : Mad) : List AV := [.v (.int .u8 m.k.toNat), .v (.int .u32 m.s), .v (.int .u16 m.n), .sl 5 (coinsC m.c) m.c.length .shut, .sl 2 (pcsC m.ps) m.ps.length .shut]
@[simp] theorem pcsC_nil : pcsC [] = [] := rfl
@[simp] theorem pcsC_len (l : List Pc) : (pcsC l).length = l.length * 2 := flat_length pcC 2 (fun _ => rfl) l
theorem pcsC_at {l : List Pc} {i : Nat} (h : i < l.length) : (pcsC l).drop (i * 2) = pcC l[i] ++ restC pcC l i := flat_at pcC 2 (fun _ => rfl) l i h
theorem pcsC_noObj (n : Nat) : ∀ l : List Pc, noObjL n (pcsC l) = true := noObjL_flat (fun p => by simp [pcC, noObjL, AV.noObj, coinsC, noObjL_flat, coinC, numA])
def fewP (m : Mad) : Prop := m.c.length ≤ 20 ∧ m.ps.length ≤ 20 ∧ ∀ x ∈ m.ps, x.c.length ≤ 20
instance (m : Mad) : Decidable (fewP m) := inferInstanceAs (Decidable (_ ∧ _ ∧ _))

end Go.Vm

/-
  What plans are made of..
-/
namespace Go.Proofs.Ytdbaddholggkbaa
set_option linter.unnecessarySimpa false
set_option maxRecDepth 100000
open Go Go.Vm
set_option linter.unusedSimpArgs false
set_option linter.unusedVariables false

attribute [local simp] evalL wantedA isCall opA evalA evalAll evalsA evalOpt ofValue ofCell plain binA_eql_pn binA_neq_pn binA_gtr binA_lss binA_geq binA_leq binA_add binA_sub binA_eql binA_neq binA_orI binA_andI binA_shl binA_shr binA_mul binA_quo binA_rem binA_agg_eql binA_agg_neq convA_int unA_not fieldAddrA loadA partA pickA_true pickA_false pickA_bb lenA builtinA storeA splice AV.cells AV.isCell sliceA boundA intA callOf indexAddrA newObjA buildA fillA zeroA ofCells buildSliceA indexA fieldA numA_len4 numA_take4 numA_drop4 set_appN get_appN take_appN List.getElem?_cons_zero List.getElem?_cons_succ makeA zeros64

set_option maxHeartbeats 1600000 in
attribute [local simp] undefA List.getElem?_cons_zero List.getElem?_cons_succ madC pcC pcsC_noObj in
theorem few_ok {σ : St} {m : Mad} (h1 : m.c.length ≤ 9223372036854775807) (h2 : m.ps.length ≤ 9223372036854775807) (h3 : ∀ x ∈ m.ps, x.c.length ≤ 9223372036854775807) :
    CallsA Try.prog 20 [.agg (madC m)] σ (fun av σ' => av = .v (.bool (decide (fewP m))) ∧ σ = σ') := by
  refine callsA_gcS ?_ rfl
  obtain ⟨mk, ms, mn, mc, mp⟩ := m
  simp only at h1 h2 h3
  have F := True.intro
  refine callsA_body Try.func20 rfl rfl rfl ?_
  refine sq fun K1 hK1 => ?_
  refine rg' (h := fun J2 hJ2 => ?_)
  refine hJ2 _ _ ?_
  refine hK1 _ _ ?_
  refine sq fun K3 hK3 => ?_
  refine sq fun K4 hK4 => ?_
  refine rg' (h := fun J5 hJ5 => ?_)
  refine gs 8 (fun g1_4 => ?_) (fun g1_4 => ?_)
  · try exact nope g1_4
    all_goals have g1_4p := g1_4
    all_goals try simp [F] at g1_4p
    all_goals
     replace F := And.intro g1_4 F
     try replace F := And.intro g1_4p F
     have hn : ¬ fewP ⟨mk, ms, mn, mc, mp⟩ := fun h => by have h0 := h.1; have h := g1_4; simp at h; simp only at h0; omega
     replace F := And.intro hn F
     refine no2 (k := ?_)
     refine no2 (k := ?_)
     refine no2 (k := ?_)
     refine no2 (k := ?_)
     refine hJ5 _ _ ?_
     refine hK4 _ _ ?_
     refine ct ?_
     refine sq fun K6 hK6 => ?_
     refine rg' (h := fun J7 hJ7 => ?_)
     refine hJ7 _ _ ?_
     refine hK6 _ _ ?_
     refine run_ret ?_
     try simp only [Then, InBlock, NoGoto]
     refine answer_tmp rfl (.inr rfl) ?_
     exact gcr
  try exact nope g1_4
  all_goals have g1_4p := g1_4
  all_goals try simp [F] at g1_4p
  all_goals
   replace F := And.intro g1_4 F
   try replace F := And.intro g1_4p F
   refine go2 (k := ?_)
   refine go2 (k := ?_)
   refine go2 (k := ?_)
   refine go2 (k := ?_)
   refine hJ5 _ _ ?_
   refine hK4 _ _ ?_
   refine cs (fun c13 => ?_) (fun c13 => ?_)
   · try exact nope c13
     all_goals have c13p := c13
     all_goals try simp [F] at c13p
     all_goals
      replace F := And.intro c13 F
      try replace F := And.intro c13p F
      have hn : ¬ fewP ⟨mk, ms, mn, mc, mp⟩ := fun h => by have h0 := h.2.1; have h := c13; simp at h; simp only at h0; omega
      replace F := And.intro hn F
      refine sq fun K8 hK8 => ?_
      refine rg' (h := fun J9 hJ9 => ?_)
      refine hJ9 _ _ ?_
      refine hK8 _ _ ?_
      refine run_ret ?_
      try simp only [Then, InBlock, NoGoto]
      refine answer_tmp rfl (.inr rfl) ?_
      exact gcr
   try exact nope c13
   all_goals have c13p := c13
   all_goals try simp [F] at c13p
   all_goals
    replace F := And.intro c13 F
    try replace F := And.intro c13p F
    refine run_skip ?_
    refine hK3 _ _ ?_
    refine sq fun K10 hK10 => ?_
    refine sq fun K11 hK11 => ?_
    refine rg' (h := fun J12 hJ12 => ?_)
    refine hJ12 _ _ ?_
    refine hK11 _ _ ?_
    refine run_block_k ?_
    refine run_loopF (X := Nat) [1] (fun i ρ σ1 => (i ≤ mp.length) ∧ (∀ x ∈ mp.take i, x.c.length ≤ 20) ∧ (ρ 3 = .v (.int .i64 i)) ∧ (σ1 = { σ with objs := σ.objs ++ [[.v (.int .u8 mk.toNat), .v (.int .u32 ms), .v (.int .u16 mn), .sl 5 (coinsC mc) mc.length .shut, .sl 2 (pcsC mp) mp.length .shut]] })) (fun i => mp.length - i) (0) ?st1 ?rd1
    case st1 =>
     refine ⟨lp, ?_, lp, ?_⟩
     · intro x hx
       simp at hx
     · rfl
    case rd1 =>
     rintro i ρ1 σ1 hF1 ⟨hi, hE, h4, hσ⟩
     obtain rfl := hσ.symm
     have f1 := keepL hF1
     try simp [KeepL, F] at f1
     replace F := And.intro h4 F
     try replace F := And.intro f1 F
     refine sq fun K13 hK13 => ?_
     refine sq fun K14 hK14 => ?_
     refine rg' (h := fun J15 hJ15 => ?_)
     refine hJ15 _ _ ?_
     refine hK14 _ _ ?_
     refine cs (fun c18 => ?_) (fun c18 => ?_)
     · try exact nope c18
       all_goals have c18p := c18
       all_goals try simp [F] at c18p
       all_goals
        replace F := And.intro c18 F
        try replace F := And.intro c18p F
        refine run_skip ?_
        refine hK13 _ _ ?_
        refine sq fun K16 hK16 => ?_
        refine run_block_k ?_
        refine sq fun K17 hK17 => ?_
        have hlt : i < mp.length := by simp at c18; omega
        have hat := pcsC_at hlt
        have hb1 : i * 2 + 2 ≤ mp.length * 2 := by omega
        have hx3 := h3 _ (List.getElem_mem hlt)
        obtain ⟨x, hx⟩ : ∃ x, x = mp[i] := ⟨_, rfl⟩
        rw [← hx] at hat hx3
        have hta : mp.take (i + 1) = mp.take i ++ [x] := by rw [hx]; exact (List.take_append_getElem hlt).symm
        replace F := And.intro hlt F
        replace F := And.intro hat F
        replace F := And.intro hb1 F
        refine rg' (h := fun J18 hJ18 => ?_)
        refine hJ18 _ _ ?_
        refine hK17 _ _ ?_
        refine cs (fun c28 => ?_) (fun c28 => ?_)
        · try exact nope c28
          all_goals have c28p := c28
          all_goals try simp [F] at c28p
          all_goals
           replace F := And.intro c28 F
           try replace F := And.intro c28p F
           have hn : ¬ fewP ⟨mk, ms, mn, mc, mp⟩ := fun h => by have h0 := h.2.2 x (by rw [hx]; exact List.getElem_mem _); have h := c28; simp at h; omega
           replace F := And.intro hn F
           refine sq fun K19 hK19 => ?_
           refine rg' (h := fun J20 hJ20 => ?_)
           refine hJ20 _ _ ?_
           refine hK19 _ _ ?_
           refine run_ret ?_
           try simp only [Then, InBlock, NoGoto]
           refine answer_tmp rfl (.inr rfl) ?_
           exact gcr
        try exact nope c28
        all_goals have c28p := c28
        all_goals try simp [F] at c28p
        all_goals
         replace F := And.intro c28 F
         try replace F := And.intro c28p F
         have hxs : x.c.length ≤ 20 := by have h := c28; simp at h; omega
         refine run_skip ?_
         refine hK16 _ _ ?_
         refine rg' (h := fun J21 hJ21 => ?_)
         refine hJ21 _ _ ?_
         refine ⟨(i + 1), ⟨kp, lp, ?_, lp, lp⟩, lp⟩
         · rw [hta]
           intro y hy
           rcases List.mem_append.1 hy with h | h
           · exact hE y h
           · simp at h; subst h; exact hxs
     try exact nope c18
     all_goals have c18p := c18
     all_goals try simp [F] at c18p
     all_goals
      replace F := And.intro c18 F
      try replace F := And.intro c18p F
      have hy : fewP ⟨mk, ms, mn, mc, mp⟩ := by
        refine ⟨?_, ?_, ?_⟩
        · show mc.length ≤ 20; have h := g1_4; simp at h; omega
        · show mp.length ≤ 20; have h := c13; simp at h; omega
        · rw [List.take_of_length_le (by have h := c18; simp at h; omega)] at hE; exact hE
      replace F := And.intro hy F
      refine run_exit ?_
      refine hK10 _ _ ?_
      refine sq fun K22 hK22 => ?_
      refine rg' (h := fun J23 hJ23 => ?_)
      refine hJ23 _ _ ?_
      refine hK22 _ _ ?_
      refine run_ret ?_
      try simp only [Then, InBlock, NoGoto]
      refine answer_tmp rfl (.inr rfl) ?_
      exact gcr

end Go.Proofs.Ytdbaddholggkbaa

/-
  Right coins of any..
-/
namespace Go.Proofs.Ytdbaddholggkbaa
set_option linter.unnecessarySimpa false
set_option maxRecDepth 100000
open Go Go.Vm
set_option linter.unusedSimpArgs false
set_option linter.unusedVariables false

attribute [local simp] evalL wantedA isCall opA evalA evalAll evalsA evalOpt ofValue ofCell plain binA_eql_pn binA_neq_pn binA_gtr binA_lss binA_geq binA_leq binA_add binA_sub binA_eql binA_neq binA_orI binA_andI binA_shl binA_shr binA_mul binA_quo binA_rem binA_agg_eql binA_agg_neq convA_int unA_not fieldAddrA loadA partA pickA_true pickA_false pickA_bb lenA builtinA storeA splice AV.cells AV.isCell sliceA boundA intA callOf indexAddrA newObjA buildA fillA zeroA ofCells buildSliceA indexA fieldA numA_len4 numA_take4 numA_drop4 set_appN get_appN take_appN List.getElem?_cons_zero List.getElem?_cons_succ makeA zeros64

theorem num250 (n : Nat) : [AV.v (.int .u64 (limb n 0)), AV.v (.int .u64 (limb n 1)), AV.v (.int .u64 (limb n 2)), AV.v (.int .u64 ((limb n 3 % 288230376151711744 : Nat) : Int))] = numA (n % 2 ^ 250) := by
  have e0 : limb (n % 2 ^ 250) 0 = limb n 0 := by simp only [limb]; omega
  have e1 : limb (n % 2 ^ 250) 1 = limb n 1 := by simp only [limb]; omega
  have e2 : limb (n % 2 ^ 250) 2 = limb n 2 := by simp only [limb]; omega
  have e3 : limb (n % 2 ^ 250) 3 = limb n 3 % 288230376151711744 := by simp only [limb]; omega
  simp only [numA, e0, e1, e2, e3]

set_option maxHeartbeats 1600000 in
attribute [local simp] undefA List.getElem?_cons_zero List.getElem?_cons_succ in
theorem of_ok {σ : St} {l : List Coin} {tl : Tail} (hl : l.length ≤ 1000000) :
    CallsA Try.prog 62 [.sl 5 (coinsC l) l.length tl] σ (fun av σ' => av = .sl 5 (coinsC (ofL l)) (ofL l).length .shut ∧ σ = σ') := by
  refine callsA_gcS ?_ (by simp [AV.under])
  have hPl := pur_len
  have hPt := pur_take
  have hPd := pur_drop
  have hPn : ∀ n g, noObjL n (purA (purF g)) = true := fun n g => purA_noObj n _
  have hPc := pur_all
  simp only [AV.isCell] at hPc
  have hdr : ∀ f : Nat → AV, List.drop 5 (List.map f (List.range 5)) = [] := fun _ => rfl
  have hone : [AV.v (.int .u8 0), AV.v (.int .u64 1), AV.v (.int .u64 0), AV.v (.int .u64 0), AV.v (.int .u64 0)] = coinsC oneC := by simp [coinsC, coinC, oneC, numA, limb, Num.of]
  have hlt8 : ∀ d, d < 8 → ofF l d < 2 ^ 256 := fun d _ => Nat.lt_trans (ofF_lt l d) (by decide)
  obtain ⟨R, hR⟩ : ∃ R, R = lstF (ofF l) 8 := ⟨_, rfl⟩
  have F := And.intro hPl (And.intro hPt (And.intro hPd (And.intro hPc (And.intro hPn (And.intro hdr (True.intro))))))
  refine callsA_body Try.func62 rfl rfl rfl ?_
  refine sq fun K1 hK1 => ?_
  refine rg' (h := fun J2 hJ2 => ?_)
  refine hJ2 _ _ ?_
  refine hK1 _ _ ?_
  refine sq fun K3 hK3 => ?_
  refine rg' (h := fun J4 hJ4 => ?_)
  refine hJ4 _ _ ?_
  refine hK3 _ _ ?_
  refine sq fun K5 hK5 => ?_
  refine sq fun K6 hK6 => ?_
  refine rg' (h := fun J7 hJ7 => ?_)
  refine hJ7 _ _ ?_
  refine hK6 _ _ ?_
  refine run_block_k ?_
  refine run_loopF (X := Nat) [0, 2, 3] (fun i ρ σ1 => (i ≤ l.length) ∧ (ρ 4 = .v (.int .i64 i)) ∧ (σ1 = { σ with objs := σ.objs ++ [purA (purF (ofF (l.take i)))] })) (fun i => l.length - i) (0) ?st1 ?rd1
  case st1 =>
   refine ⟨lp, lp, ?_⟩
   · simp only [List.take_zero, show ofF [] = fun _ => 0 from rfl, purA_zero]
  case rd1 =>
   rintro i ρ1 σ1 hF1 ⟨hi, h4, hσ⟩
   obtain rfl := hσ.symm
   have f1 := keepL hF1
   try simp [KeepL, F] at f1
   replace F := And.intro h4 F
   try replace F := And.intro f1 F
   refine sq fun K8 hK8 => ?_
   refine sq fun K9 hK9 => ?_
   refine rg' (h := fun J10 hJ10 => ?_)
   refine hJ10 _ _ ?_
   refine hK9 _ _ ?_
   refine cs (fun c9 => ?_) (fun c9 => ?_)
   · try exact nope c9
     all_goals have c9p := c9
     all_goals try simp [F] at c9p
     all_goals
      replace F := And.intro c9 F
      try replace F := And.intro c9p F
      refine run_skip ?_
      refine hK8 _ _ ?_
      refine sq fun K11 hK11 => ?_
      refine run_block_k ?_
      have hlt : i < l.length := by simp at c9; omega
      have hat := coinsC_at hlt
      have hb1 : i * 5 + 5 ≤ l.length * 5 := by omega
      obtain ⟨c, hc⟩ : ∃ c, c = l[i] := ⟨_, rfl⟩
      rw [← hc] at hat
      simp only [coinC, numA, List.cons_append, List.nil_append] at hat
      have htk : l.take (i + 1) = l.take i ++ [c] := by rw [hc]; exact (List.take_append_getElem hlt).symm
      obtain ⟨D, hD⟩ : ∃ D, D = c.d.toNat := ⟨_, rfl⟩
      rw [← hD] at hat
      obtain ⟨e, he⟩ : ∃ e, e = D % 8 := ⟨_, rfl⟩
      have he8 : e < 8 := by omega
      have he5 : (e : Int) < 8 := by omega
      have hb2 : e * 4 + 4 ≤ 32 := by omega
      have hm1 : (D : Int) % 8 = (e : Int) := by omega
      have hm2 : (D : Int).tmod 8 = (e : Int) := by rw [Int.tmod_eq_emod_of_nonneg (by omega)]; exact hm1
      obtain ⟨V, hV⟩ : ∃ V, V = limb c.n.v 3 % 288230376151711744 := ⟨_, rfl⟩
      have hv1 : (limb c.n.v 3 : Int) % 288230376151711744 = (V : Int) := by omega
      have hv2 : (limb c.n.v 3 : Int).tmod 288230376151711744 = (V : Int) := by rw [Int.tmod_eq_emod_of_nonneg (by omega)]; exact hv1
      have hset := purA_set (P := purF (ofF (l.take i))) (d := e) (by simpa using he8) (c.n.v % 2 ^ 250)
      rw [purF_set] at hset
      have hnx : purF (fun j => if j = e then c.n.v % 2 ^ 250 else ofF (l.take i) j) = purF (ofF (l.take (i + 1))) := purF_congr (fun j _ => by rw [htk, ofF_snoc, ← hD, ← he])
      rw [hnx, ← num250, ← hV] at hset
      simp only [List.cons_append, List.nil_append] at hset
      replace F := And.intro hat F
      replace F := And.intro hb1 F
      replace F := And.intro hset F
      replace F := And.intro he8 F
      replace F := And.intro he5 F
      replace F := And.intro hb2 F
      replace F := And.intro hm1 F
      replace F := And.intro hm2 F
      replace F := And.intro hv1 F
      replace F := And.intro hv2 F
      refine run_draw (by kernel_rfl) fun J12 hJ12 => ?_
      refine rp2 0 (k := ?_)
      refine rp2 1 (k := ?_)
      refine rp2 2 (k := ?_)
      refine rp2 3 (k := ?_)
      refine rp2 4 (k := ?_)
      refine rp2 5 (k := ?_)
      refine rp2 6 (k := ?_)
      refine rp2 7 (k := ?_)
      refine rp2 8 (k := ?_)
      refine rp2 9 (k := ?_)
      refine rp2 10 (k := ?_)
      refine rp2 11 (k := ?_)
      refine rp2 12 (k := ?_)
      refine rp2 13 (k := ?_)
      refine rp2 14 (k := ?_)
      refine rp2 15 (k := ?_)
      refine rp2 16 (k := ?_)
      refine rp2 17 (k := ?_)
      refine rp2 18 (k := ?_)
      refine rp2 19 (k := ?_)
      refine rp2 20 (k := ?_)
      refine rp2 21 (k := ?_)
      refine rp2 22 (k := ?_)
      refine rp2 23 (k := ?_)
      refine rp2 24 (k := ?_)
      refine rp2 25 (k := ?_)
      refine rp2 26 (k := ?_)
      refine rp2 27 (k := ?_)
      refine rp2 28 (k := ?_)
      refine rp2 29 (k := ?_)
      refine rp2 30 (k := ?_)
      refine rp2 31 (k := ?_)
      refine rp2 32 (k := ?_)
      refine dop 33 rfl ?_
      repeat (first | simp [F] | simp (disch := omega) only [wC, if_pos, if_neg])
      refine ⟨ln, ?_⟩
      refine dd ?_
      refine hJ12 _ _ ?_
      refine hK11 _ _ ?_
      refine rg' (h := fun J13 hJ13 => ?_)
      refine hJ13 _ _ ?_
      refine ⟨(i + 1), ⟨kp, lp, lp, lp⟩, lp⟩
   try exact nope c9
   all_goals have c9p := c9
   all_goals try simp [F] at c9p
   all_goals
    replace F := And.intro c9 F
    try replace F := And.intro c9p F
    have hend : l.take i = l := List.take_of_length_le (by simp at c9; omega)
    rw [hend]
    refine run_exit ?_
    refine hK5 _ _ ?_
    refine sq fun K14 hK14 => ?_
    refine rg' (h := fun J15 hJ15 => ?_)
    refine ca (c := (hR ▸ rlist_ok hlt8)) (k := ?_)
    rintro _ _ ⟨rfl, rfl⟩
    repeat (first | simp [F] | simp (disch := omega) only [wC, if_pos, if_neg])
    refine hJ15 _ _ ?_
    refine hK14 _ _ ?_
    refine sq fun K16 hK16 => ?_
    refine sq fun K17 hK17 => ?_
    refine rg' (h := fun J18 hJ18 => ?_)
    refine hJ18 _ _ ?_
    refine hK17 _ _ ?_
    refine cs (fun c49 => ?_) (fun c49 => ?_)
    · try exact nope c49
      all_goals have c49p := c49
      all_goals try simp [F] at c49p
      all_goals
       replace F := And.intro c49 F
       try replace F := And.intro c49p F
       have h0 : R = [] := by simpa using c49
       have hof : ofL l = oneC := by rw [ofL, if_pos (by rw [← hR]; exact h0)]
       refine sq fun K19 hK19 => ?_
       refine rg' (h := fun J20 hJ20 => ?_)
       refine hJ20 _ _ ?_
       refine hK19 _ _ ?_
       refine run_ret ?_
       try simp only [Then, InBlock, NoGoto]
       refine answer_tmp rfl (.inr rfl) ?_
       rw [hof, ← hone]
       exact gcr (hA := by simp only [putA_get]; simp [F]; exact Wk.shut _ _ _ _)
    try exact nope c49
    all_goals have c49p := c49
    all_goals try simp [F] at c49p
    all_goals
     replace F := And.intro c49 F
     try replace F := And.intro c49p F
     have h0 : ¬ R = [] := fun e => by have h := c49; rw [e] at h; simp at h
     have hof : ofL l = R := by rw [ofL, if_neg (by rw [← hR]; exact h0), hR]
     replace F := And.intro hof F
     refine run_skip ?_
     refine hK16 _ _ ?_
     refine sq fun K21 hK21 => ?_
     refine rg' (h := fun J22 hJ22 => ?_)
     refine hJ22 _ _ ?_
     refine hK21 _ _ ?_
     refine run_ret ?_
     try simp only [Then, InBlock, NoGoto]
     refine answer_tmp rfl (.inr rfl) ?_
     exact gcr

end Go.Proofs.Ytdbaddholggkbaa

/-
  Plans that are made of numbers..
-/
namespace Go.Proofs.Ytdbaddholggkbaa
set_option linter.unnecessarySimpa false
set_option maxRecDepth 100000
open Go Go.Vm
set_option linter.unusedSimpArgs false
set_option linter.unusedVariables false

attribute [local simp] evalL wantedA isCall opA evalA evalAll evalsA evalOpt ofValue ofCell plain binA_eql_pn binA_neq_pn binA_gtr binA_lss binA_geq binA_leq binA_add binA_sub binA_eql binA_neq binA_orI binA_andI binA_shl binA_shr binA_mul binA_quo binA_rem binA_agg_eql binA_agg_neq convA_int unA_not fieldAddrA loadA partA pickA_true pickA_false pickA_bb lenA builtinA storeA splice AV.cells AV.isCell sliceA boundA intA callOf indexAddrA newObjA buildA fillA zeroA ofCells buildSliceA indexA fieldA numA_len4 numA_take4 numA_drop4 set_appN get_appN take_appN List.getElem?_cons_zero List.getElem?_cons_succ makeA zeros64

/-- Coins that are none as yet, or some. -/
def allA (b : Bool) (l : List Coin) : AV := bif b then .sl 5 (coinsC l) l.length .shut else .sl 0 [] 0 .full
@[simp] theorem allA_yes (l : List Coin) : allA true l = .sl 5 (coinsC l) l.length .shut := rfl
@[simp] theorem allA_no (l : List Coin) : allA false l = .sl 0 [] 0 .full := rfl
theorem wk_allA {b : Bool} {l : List Coin} (h : b = false → l = []) : Wk (allA b l) (.sl 5 (coinsC l) l.length .shut) := by
  cases b with
  | true => exact Wk.refl _
  | false => rw [h rfl]; exact Wk.nil _ _ _
theorem ofNil_ok {σ : St} : CallsA Try.prog 62 [.sl 0 [] 0 .full] σ (fun av σ' => av = .sl 5 (coinsC (ofL [])) (ofL []).length .shut ∧ σ = σ') :=
  callsA_wk (.cons (Wk.nil _ _ _) .nil) (of_ok (l := []) (tl := .shut) (by simp))

set_option maxHeartbeats 1600000 in
attribute [local simp] undefA List.getElem?_cons_zero List.getElem?_cons_succ madC pcC pcsC_noObj perC persC_noObj in
theorem plans_ok {σ : St} {m : Mad} (hm : m.Ok) (hf : fewP m) :
    CallsA Try.prog 21 [.agg (madC m)] σ (fun av σ' => av = .agg (plnC (plansL m)) ∧ σ = σ') := by
  refine callsA_gcS ?_ (by simp [AV.under, underL, plnC, persC_under])
  obtain ⟨K, hK⟩ : ∃ K, K = kindM m := ⟨_, rfl⟩
  obtain ⟨T, hT⟩ : ∃ T, T = persL m := ⟨_, rfl⟩
  have hTl := persL_len m
  rw [← hT] at hTl
  have hTS := lenS_persL hm
  rw [← hT] at hTS
  have hTm := persL_mem hm
  rw [← hT] at hTm
  have hK6 : K.toNat < 6 := by rw [hK]; unfold kindM; exact UInt8.mod_lt _ (by decide)
  have hkn : ∀ n : UInt8, K = n ↔ (K.toNat : Int) = (n.toNat : Int) := fun n => ⟨fun e => by rw [e], fun e => UInt8.toNat_inj.1 (Int.ofNat_inj.1 e)⟩
  obtain ⟨O, hO⟩ : ∃ O, O = ofL [] := ⟨_, rfl⟩
  obtain ⟨Q, hQ⟩ : ∃ Q, Q = ofL m.c := ⟨_, rfl⟩
  have hPl : plansL m = if K = 0 then ⟨0, 0, 0, [], []⟩
    else if K = 1 then ⟨1, m.s, m.s + (m.n + 1), Q, []⟩
    else if K = 2 then ⟨2, 0, m.s, Q, []⟩
    else if K = 3 ∨ K = 5 then ⟨K, m.s, m.s + lenS T, sumL T [], T⟩
    else ⟨K, 0, 0, Q, []⟩ := by rw [hK, hT, hQ]; rfl
  rw [hPl]
  have hTc : T.length = max 1 (min m.ps.length 16) := by
    rw [hT]; unfold persL; split
    · rename_i h; rw [h]; rfl
    · rename_i h; have : m.ps.length ≠ 0 := fun e => h (List.length_eq_zero_iff.1 e); simp; omega
  have hTat : ∀ i (h : i < T.length), T[i] = if h : i < m.ps.length then ⟨m.ps[i].l + 1, ofL m.ps[i].c⟩ else ⟨m.n + 1, O⟩ := by
    intro i h
    rw [hO]
    subst hT
    by_cases hp : m.ps = []
    · have : i = 0 := by rw [hTc, hp] at h; simp at h; omega
      subst this
      simp [persL, hp]
    · have h2 : i < m.ps.length := by have : m.ps.length ≠ 0 := fun e => hp (List.length_eq_zero_iff.1 e); omega
      rw [dif_pos h2]
      simp [persL, hp]
  have hQl : m.c.length ≤ 1000000 := by have := hf.1; omega
  have hof : ∀ σ, CallsA Try.prog 62 [.sl 5 (coinsC m.c) m.c.length .shut] σ (fun av σ' => av = .sl 5 (coinsC Q) Q.length .shut ∧ σ = σ') := fun σ => by rw [hQ]; exact of_ok hQl
  have hno : ∀ σ, CallsA Try.prog 62 [.sl 0 [] 0 .full] σ (fun av σ' => av = .sl 5 (coinsC O) O.length .shut ∧ σ = σ') := fun σ => by rw [hO]; exact ofNil_ok
  obtain ⟨mk, ms, mn, mc, mp⟩ := m
  obtain ⟨k1, k2, k3⟩ := hm
  obtain ⟨f1, f2, f3⟩ := hf
  simp only at k1 k2 k3 f1 f2 f3 hTc hTat hof
  have hk1 : (mk.toNat : Int) % 6 = (K.toNat : Int) := by rw [hK]; unfold kindM; simp [UInt8.toNat_mod]
  have hk2 : (mk.toNat : Int).tmod 6 = (K.toNat : Int) := by rw [Int.tmod_eq_emod_of_nonneg (by omega)]; exact hk1
  have hw1 : IntKind.u64.wrap (ms : Int) = (ms : Int) := wrap_u64c (by omega)
  have hw2 : IntKind.u64.wrap (mn : Int) = (mn : Int) := wrap_u64c (by omega)
  obtain ⟨L1, hL1⟩ : ∃ L1, L1 = mn + 1 := ⟨_, rfl⟩
  have hw3 : IntKind.u64.wrap ((mn : Int) + 1) = (L1 : Int) := by rw [wrap_u64c (by omega)]; omega
  have hw4 : IntKind.u64.wrap ((ms : Int) + (L1 : Int)) = ((ms + L1 : Nat) : Int) := by rw [wrap_u64c (by omega)]; omega
  simp only [← hL1] at hTat
  obtain ⟨B, hB⟩ : ∃ B, B = decide ((K.toNat : Int) = 3 ∨ (K.toNat : Int) = 5) := ⟨_, rfl⟩
  have hdr : ∀ f : Nat → AV, List.drop 2 (List.map f (List.range 2)) = [] := fun _ => rfl
  have F := And.intro hdr (True.intro)
  refine callsA_body Try.func21 rfl rfl rfl ?_
  refine sq fun K1 hK1 => ?_
  refine rg' (h := fun J2 hJ2 => ?_)
  refine hJ2 _ _ ?_
  refine hK1 _ _ ?_
  refine sq fun K3 hK3 => ?_
  replace F := And.intro hk1 F
  replace F := And.intro hk2 F
  refine rg' (h := fun J4 hJ4 => ?_)
  refine hJ4 _ _ ?_
  refine hK3 _ _ ?_
  refine sq fun K5 hK5 => ?_
  replace F := And.intro hw1 F
  replace F := And.intro hw2 F
  replace F := And.intro hw3 F
  refine run_draw (by kernel_rfl) fun J6 hJ6 => ?_
  refine rp2 0 (k := ?_)
  refine rp2 1 (k := ?_)
  refine rp2 2 (k := ?_)
  refine rp2 3 (k := ?_)
  refine rp2 4 (k := ?_)
  refine rp2 5 (k := ?_)
  refine rp2 6 (k := ?_)
  refine rp2 7 (k := ?_)
  refine rp2 8 (k := ?_)
  refine dd ?_
  refine hJ6 _ _ ?_
  refine hK5 _ _ ?_
  refine sq fun K7 hK7 => ?_
  refine sq fun K8 hK8 => ?_
  refine rg' (h := fun J9 hJ9 => ?_)
  refine hJ9 _ _ ?_
  refine hK8 _ _ ?_
  refine run_block_k ?_
  refine sq fun K10 hK10 => ?_
  refine rg' (h := fun J11 hJ11 => ?_)
  refine hJ11 _ _ ?_
  refine hK10 _ _ ?_
  refine cs (fun c21 => ?_) (fun c21 => ?_)
  · try exact nope c21
    all_goals have c21p := c21
    all_goals try simp [F] at c21p
    all_goals
     replace F := And.intro c21 F
     try replace F := And.intro c21p F
     refine sq fun K12 hK12 => ?_
     refine rg' (h := fun J13 hJ13 => ?_)
     refine hJ13 _ _ ?_
     refine hK12 _ _ ?_
     refine run_ret ?_
     try simp only [Then, InBlock, NoGoto]
     refine acell (h := ?_)
     rw [if_pos (by simpa [hkn] using c21)]
     show Wk _ _ ∧ _
     refine gcr (hA := ?_)
     exact WkL.agg (.cons (Wk.refl _) (.cons (Wk.refl _) (.cons (Wk.refl _) (.cons (Wk.nil _ _ _) (.cons (Wk.nil _ _ _) .nil)))))
  try exact nope c21
  all_goals have c21p := c21
  all_goals try simp [F] at c21p
  all_goals
   replace F := And.intro c21 F
   try replace F := And.intro c21p F
   refine sq fun K14 hK14 => ?_
   refine rg' (h := fun J15 hJ15 => ?_)
   refine hJ15 _ _ ?_
   refine hK14 _ _ ?_
   refine cs (fun c24 => ?_) (fun c24 => ?_)
   · try exact nope c24
     all_goals have c24p := c24
     all_goals try simp [F] at c24p
     all_goals
      replace F := And.intro c24 F
      try replace F := And.intro c24p F
      replace F := And.intro hw4 F
      refine rg' (h := fun J16 hJ16 => ?_)
      refine hJ16 _ _ ?_
      refine hK7 _ _ ?_
      refine sq fun K17 hK17 => ?_
      refine rg' (h := fun J18 hJ18 => ?_)
      refine ca (c := hof _) (k := ?_)
      rintro _ _ ⟨rfl, rfl⟩
      repeat (first | simp [F] | simp (disch := omega) only [wC, if_pos, if_neg])
      refine hJ18 _ _ ?_
      refine hK17 _ _ ?_
      refine sq fun K19 hK19 => ?_
      refine rg' (h := fun J20 hJ20 => ?_)
      refine hJ20 _ _ ?_
      refine hK19 _ _ ?_
      refine run_ret ?_
      try simp only [Then, InBlock, NoGoto]
      refine acell (h := ?_)
      show Wk _ _ ∧ _
      refine gcr (hA := ?_)
      simp [hkn, F, plnC, hL1]
      exact WkL.agg (.cons (Wk.refl _) (.cons (Wk.refl _) (.cons (Wk.refl _) (.cons (Wk.refl _) (.cons (Wk.nil _ _ _) .nil)))))
   try exact nope c24
   all_goals have c24p := c24
   all_goals try simp [F] at c24p
   all_goals
    replace F := And.intro c24 F
    try replace F := And.intro c24p F
    refine sq fun K21 hK21 => ?_
    refine rg' (h := fun J22 hJ22 => ?_)
    refine hJ22 _ _ ?_
    refine hK21 _ _ ?_
    refine cs (fun c32 => ?_) (fun c32 => ?_)
    · try exact nope c32
      all_goals have c32p := c32
      all_goals try simp [F] at c32p
      all_goals
       replace F := And.intro c32 F
       try replace F := And.intro c32p F
       refine rg' (h := fun J23 hJ23 => ?_)
       refine hJ23 _ _ ?_
       refine hK7 _ _ ?_
       refine sq fun K24 hK24 => ?_
       refine rg' (h := fun J25 hJ25 => ?_)
       refine ca (c := hof _) (k := ?_)
       rintro _ _ ⟨rfl, rfl⟩
       repeat (first | simp [F] | simp (disch := omega) only [wC, if_pos, if_neg])
       refine hJ25 _ _ ?_
       refine hK24 _ _ ?_
       refine sq fun K26 hK26 => ?_
       refine rg' (h := fun J27 hJ27 => ?_)
       refine hJ27 _ _ ?_
       refine hK26 _ _ ?_
       refine run_ret ?_
       try simp only [Then, InBlock, NoGoto]
       refine acell (h := ?_)
       show Wk _ _ ∧ _
       refine gcr (hA := ?_)
       simp [hkn, F, plnC, hL1]
       exact WkL.agg (.cons (Wk.refl _) (.cons (Wk.refl _) (.cons (Wk.refl _) (.cons (Wk.refl _) (.cons (Wk.nil _ _ _) .nil)))))
    try exact nope c32
    all_goals have c32p := c32
    all_goals try simp [F] at c32p
    all_goals
     replace F := And.intro c32 F
     try replace F := And.intro c32p F
     refine sqc (X := Unit) [1, 2, 3, 4, 5] (fun k ρ σ1 => (ρ 36 = .v (.bool B)) ∧ (σ1 = { σ with objs := σ.objs ++ [[.v (.int .u8 mk.toNat), .v (.int .u32 ms), .v (.int .u16 mn), .sl 5 (coinsC mc) mc.length .shut, .sl 2 (pcsC mp) mp.length .shut], [.v (.int .u8 0), .v (.int .u64 0), .v (.int .u64 0), .sl 0 [] 0 .full, .sl 0 [] 0 .full], [.v (.int .u8 K.toNat), .v (.int .u64 0), .v (.int .u64 0), .sl 0 [] 0 .full, .sl 0 [] 0 .full]] })) ?cy28 ?cx28
     case cy28 =>
      rintro k ρCc36 σ1 hFCc36 ⟨h36, hσ⟩
      obtain rfl := hσ.symm
      have fCc36 := keepL hFCc36
      try simp [KeepL, F] at fCc36
      replace F := And.intro h36 F
      try replace F := And.intro fCc36 F
      refine cs (t := B) (fun c36 => ?_) (fun c36 => ?_)
      · try exact nope c36
        all_goals have c36p := c36
        all_goals try simp [F] at c36p
        all_goals
         replace F := And.intro c36 F
         try replace F := And.intro c36p F
         refine sq fun K29 hK29 => ?_
         have h35 : (K.toNat : Int) = 3 ∨ (K.toNat : Int) = 5 := by rw [hB] at c36; simpa using c36
         refine rg' (h := fun J30 hJ30 => ?_)
         refine hJ30 _ _ ?_
         refine hK29 _ _ ?_
         refine sq fun K31 hK31 => ?_
         refine sq fun K32 hK32 => ?_
         refine rg' (h := fun J33 hJ33 => ?_)
         refine hJ33 _ _ ?_
         refine hK32 _ _ ?_
         refine run_block_k ?_
         refine run_loopG (X := PerQ) [1, 2, 3, 5] (fun q ρ σ1 => (q.i ≤ T.length) ∧ (ms + lenS T = q.e + lenS (T.drop q.i)) ∧ (sumL T [] = sumL (T.drop q.i) q.a) ∧ (Right q.a) ∧ (posB q.i = false → q.a = []) ∧ (ρ 6 = .v (.int .i64 q.i)) ∧ (σ1 = { σ with objs := σ.objs ++ [[.v (.int .u8 mk.toNat), .v (.int .u32 ms), .v (.int .u16 mn), .sl 5 (coinsC mc) mc.length .shut, .sl 2 (pcsC mp) mp.length .shut], [.v (.int .u8 0), .v (.int .u64 0), .v (.int .u64 0), .sl 0 [] 0 .full, .sl 0 [] 0 .full], [.v (.int .u8 K.toNat), .v (.int .u64 ms), .v (.int .u64 q.e), allA (posB q.i) q.a, grA σ.toks.length 2 (posB q.i) (persC (T.take q.i)) q.i]], toks := σ.toks ++ grT (posB q.i) q.i })) (fun q => T.length - q.i) (⟨0, ms, []⟩) ?st1 ?rd1
         case st1 =>
          refine ⟨lp, ?_, ?_, ?_, ?_, lp, ?_⟩
          · rfl
          · rfl
          · exact Go.Vm.right_nil
          · intro _; rfl
          · simp [F]
         case rd1 =>
          rintro q ρ1 σ1 hF1 ⟨hi, hE, hA, hqr, ha0, h6, hσ⟩
          obtain rfl := hσ.symm
          have f1 := keepL hF1
          try simp [KeepL, F] at f1
          replace F := And.intro h6 F
          try replace F := And.intro f1 F
          refine sq fun K34 hK34 => ?_
          refine sqc (X := Unit) [1, 2, 3, 5, 6] (fun k ρ σ1 => (ρ 55 = .v (.bool (decide (q.i < T.length)))) ∧ (σ1 = { σ with objs := σ.objs ++ [[.v (.int .u8 mk.toNat), .v (.int .u32 ms), .v (.int .u16 mn), .sl 5 (coinsC mc) mc.length .shut, .sl 2 (pcsC mp) mp.length .shut], [.v (.int .u8 0), .v (.int .u64 0), .v (.int .u64 0), .sl 0 [] 0 .full, .sl 0 [] 0 .full], [.v (.int .u8 K.toNat), .v (.int .u64 ms), .v (.int .u64 q.e), allA (posB q.i) q.a, grA σ.toks.length 2 (posB q.i) (persC (T.take q.i)) q.i]], toks := σ.toks ++ grT (posB q.i) q.i })) ?cy35 ?cx35
          case cy35 =>
           rintro k ρCr14 σ1 hFCr14 ⟨h55, hσ⟩
           obtain rfl := hσ.symm
           have fCr14 := keepL hFCr14
           try simp [KeepL, F] at fCr14
           replace F := And.intro h55 F
           try replace F := And.intro fCr14 F
           refine cs (t := (decide (q.i < T.length))) (fun c55 => ?_) (fun c55 => ?_)
           · try exact nope c55
             all_goals have c55p := c55
             all_goals try simp [F] at c55p
             all_goals
              replace F := And.intro c55 F
              try replace F := And.intro c55p F
              refine run_skip ?_
              refine hK34 _ _ ?_
              refine sq fun K36 hK36 => ?_
              refine run_block_k ?_
              refine sq fun K37 hK37 => ?_
              obtain ⟨i, E, S⟩ := q
              simp only at hi hE hA hqr ha0 h6
              have hlt : i < T.length := by simpa using c55
              have hTi := hTat i hlt
              have hcons : T.drop i = T[i] :: T.drop (i + 1) := List.drop_eq_getElem_cons hlt
              have htk : T.take (i + 1) = T.take i ++ [T[i]] := (List.take_append_getElem hlt).symm
              have hym := hTm _ (List.getElem_mem hlt)
              obtain ⟨y, hy⟩ : ∃ y, y = T[i] := ⟨_, rfl⟩
              rw [← hy] at hTi hcons htk hym
              rw [hcons] at hE hA
              obtain ⟨yl, yc⟩ := y
              simp only [sumL, lenS] at hE hA hym
              obtain ⟨S2, hS2⟩ : ∃ S2, S2 = cAddL S yc := ⟨_, rfl⟩
              have hS2r : Right S2 := by rw [hS2]; exact right_cAdd _ _
              rw [← hS2] at hA
              have hadd : ∀ σ, ∃ b, CallsA Try.prog 27 [allA (posB i) S, .sl 5 (coinsC yc) yc.length .shut] σ (fun av σ' => av = .tup [.sl 5 (coinsC S2) S2.length .shut, .v (.bool b)] ∧ σ = σ') := fun σ => ⟨_, hS2 ▸ callsA_wk (.cons (wk_allA ha0) (.cons (Wk.refl _) .nil)) (rpadd_ok hqr hym.2.2.2.1)⟩
              have hwe : IntKind.u64.wrap ((E : Int) + yl) = ((E + yl : Nat) : Int) := by rw [wrap_u64c (by omega)]; omega
              have hP : persC (T.take (i + 1)) = persC (T.take i) ++ [.v (.int .u64 yl), .sl 5 (coinsC yc) yc.length .shut] := by rw [htk, ← persC_append]; rfl
              replace F := And.intro hP.symm F
              have hb0 : posB i = false → persC (T.take i) = [] ∧ i = 0 := fun h => by have h0 := posB_no h; subst h0; simp
              have happ : ∀ objs, appendA Try.prog 24 (grA σ.toks.length 2 (posB i) (persC (T.take i)) i) (.sl 2 [.v (.int .u64 yl), .sl 5 (coinsC yc) yc.length .shut] 1 .full) ⟨objs, σ.toks ++ grT (posB i) i, σ.gl, σ.rows⟩ = some (grA σ.toks.length 2 true (persC (T.take i) ++ [.v (.int .u64 yl), .sl 5 (coinsC yc) yc.length .shut]) (i + 1), ⟨objs, σ.toks ++ grT true (i + 1), σ.gl, σ.rows⟩) := fun objs => append_gr elemT_24 ti_88 (by decide) rfl hb0 (.inl rfl) (by simp [roomA]; omega) (by simp [maxLen]; omega)
              refine rg' (h := fun J38 hJ38 => ?_)
              refine ca (c := hno _) (k := ?_)
              rintro _ _ ⟨rfl, rfl⟩
              repeat (first | simp [F] | simp (disch := omega) only [wC, if_pos, if_neg])
              refine hJ38 _ _ ?_
              refine hK37 _ _ ?_
              refine sqc (X := Unit) [1, 2, 3, 5, 6, 7, 43, 44, 45, 46, 47, 48, 49, 50, 51, 52, 53, 54, 55, 58, 59, 60] (fun k ρ σ1 => (σ1 = { σ with objs := σ.objs ++ [[.v (.int .u8 mk.toNat), .v (.int .u32 ms), .v (.int .u16 mn), .sl 5 (coinsC mc) mc.length .shut, .sl 2 (pcsC mp) mp.length .shut], [.v (.int .u8 0), .v (.int .u64 0), .v (.int .u64 0), .sl 0 [] 0 .full, .sl 0 [] 0 .full], [.v (.int .u8 K.toNat), .v (.int .u64 ms), .v (.int .u64 E), allA (posB i) S, grA σ.toks.length 2 (posB i) (persC (T.take i)) i], [.v (.int .u64 yl), .sl 5 (coinsC yc) yc.length .shut]], toks := σ.toks ++ grT (posB i) i })) ?cy39 ?cx39
              case cy39 =>
               rintro k ρCc65 σ1 hFCc65 hσ
               obtain rfl := hσ.symm
               have fCc65 := keepL hFCc65
               try simp [KeepL, F] at fCc65
               try replace F := And.intro fCc65 F
               refine sq fun K40 hK40 => ?_
               replace F := And.intro happ F
               refine rg' (h := fun J41 hJ41 => ?_)
               refine hJ41 _ _ ?_
               refine hK40 _ _ ?_
               refine sq fun K42 hK42 => ?_
               replace F := And.intro hwe F
               refine rg' (h := fun J43 hJ43 => ?_)
               refine hJ43 _ _ ?_
               refine hK42 _ _ ?_
               refine rg' (h := fun J44 hJ44 => ?_)
               refine ca (c := (hadd _).choose_spec) (k := ?_)
               rintro _ _ ⟨rfl, rfl⟩
               repeat (first | simp [F] | simp (disch := omega) only [wC, if_pos, if_neg])
               refine hJ44 _ _ ?_
               refine hK36 _ _ ?_
               refine rg' (h := fun J45 hJ45 => ?_)
               refine hJ45 _ _ ?_
               refine ⟨gk, (⟨i + 1, E + yl, S2⟩), ⟨kpG, lpG, lpG, lpG, lpG, lpG, lpG, lpG⟩, lpG⟩
              case cx39 =>
               intro K39 hK39
               refine sq fun K46 hK46 => ?_
               refine rg' (h := fun J47 hJ47 => ?_)
               refine hJ47 _ _ ?_
               refine hK46 _ _ ?_
               refine cs (fun c65 => ?_) (fun c65 => ?_)
               · try exact nope c65
                 all_goals have c65p := c65
                 all_goals try simp [F] at c65p
                 all_goals
                  replace F := And.intro c65 F
                  try replace F := And.intro c65p F
                  have hip : i < mp.length := by simp at c65; omega
                  have hat := pcsC_at hip
                  have hb1 : i * 2 + 2 ≤ mp.length * 2 := by omega
                  have hxf := f3 _ (List.getElem_mem hip)
                  have hxk := k3 _ (List.getElem_mem hip)
                  rw [dif_pos hip] at hTi
                  obtain ⟨x, hx⟩ : ∃ x, x = mp[i] := ⟨_, rfl⟩
                  rw [← hx] at hat hTi hxf hxk
                  obtain ⟨xl, xc⟩ := x
                  simp only at hTi hxf hxk
                  have hyl : yl = xl + 1 := congrArg Per.l hTi
                  have hyc : yc = ofL xc := congrArg Per.c hTi
                  have hwx : IntKind.u64.wrap (xl : Int) = (xl : Int) := wrap_u64c (by omega)
                  have hwx1 : IntKind.u64.wrap ((xl : Int) + 1) = (yl : Int) := by rw [wrap_u64c (by omega)]; omega
                  replace F := And.intro hip F
                  replace F := And.intro hat F
                  replace F := And.intro hb1 F
                  replace F := And.intro hwx F
                  replace F := And.intro hwx1 F
                  refine run_draw (by kernel_rfl) fun J48 hJ48 => ?_
                  refine rp2 0 (k := ?_)
                  refine rp2 1 (k := ?_)
                  refine rp2 2 (k := ?_)
                  refine rp2 3 (k := ?_)
                  refine rp2 4 (k := ?_)
                  refine rp2 5 (k := ?_)
                  refine rp2 6 (k := ?_)
                  refine rp2 7 (k := ?_)
                  refine rp2 8 (k := ?_)
                  refine rp2 9 (k := ?_)
                  refine rp2 10 (k := ?_)
                  refine rp2 11 (k := ?_)
                  refine rp2 12 (k := ?_)
                  refine rp2 13 (k := ?_)
                  refine dc 14 rfl (c := (hyc ▸ of_ok (l := xc) (by omega))) (k := ?_)
                  rintro _ _ ⟨rfl, rfl⟩
                  refine ⟨by first | exact fun _ _ h => h | (refine later_list [12, 11, 10, 9, 8, 7, 6, 5, 4, 3, 2, 1, 0] (by kernel_rfl) (List.forall_mem_cons.2 ⟨fun _ => fact2 rfl rfl ?_, List.forall_mem_cons.2 ⟨fun _ => fact2 rfl rfl ?_, List.forall_mem_cons.2 ⟨fun _ => fact2 rfl rfl ?_, List.forall_mem_cons.2 ⟨fun _ => fact2 rfl rfl ?_, List.forall_mem_cons.2 ⟨fun _ => fact2 rfl rfl ?_, List.forall_mem_cons.2 ⟨fun _ => fact2 rfl rfl ?_, List.forall_mem_cons.2 ⟨fun _ => fact2 rfl rfl ?_, List.forall_mem_cons.2 ⟨fun _ => fact2 rfl rfl ?_, List.forall_mem_cons.2 ⟨fun _ => fact2 rfl rfl ?_, List.forall_mem_cons.2 ⟨fun _ => fact2 rfl rfl ?_, List.forall_mem_cons.2 ⟨fun _ => fact2 rfl rfl ?_, List.forall_mem_cons.2 ⟨fun _ => fact2 rfl rfl ?_, List.forall_mem_cons.2 ⟨fun _ => fact2 rfl rfl ?_, fun _ h => absurd h List.not_mem_nil⟩⟩⟩⟩⟩⟩⟩⟩⟩⟩⟩⟩⟩) <;> constructor <;> first | rfl | (simp [F]; done)), ?_⟩
                  repeat (first | simp [F] | simp (disch := omega) only [wC, if_pos, if_neg])
                  refine rp2 15 (k := ?_)
                  refine dop 16 rfl ?_
                  repeat (first | simp [F] | simp (disch := omega) only [wC, if_pos, if_neg])
                  refine ⟨ln, ?_⟩
                  refine dd ?_
                  refine hJ48 _ _ ?_
                  refine hK39 (()) _ _ ⟨kp, lp⟩
               try exact nope c65
               all_goals have c65p := c65
               all_goals try simp [F] at c65p
               all_goals
                replace F := And.intro c65 F
                try replace F := And.intro c65p F
                rw [dif_neg (by simp at c65; omega)] at hTi
                have hyl : yl = L1 := congrArg Per.l hTi
                have hyc : yc = O := congrArg Per.c hTi
                subst hyl hyc
                refine run_skip ?_
                refine hK39 (()) _ _ ⟨kp, lp⟩
           try exact nope c55
           all_goals have c55p := c55
           all_goals try simp [F] at c55p
           all_goals
            replace F := And.intro c55 F
            try replace F := And.intro c55p F
            have hii : q.i = T.length := by simp at c55; omega
            have hTE : T.drop q.i = [] := List.drop_of_length_le (by omega)
            rw [hTE] at hE hA
            simp only [lenS, sumL, Nat.add_zero] at hE hA
            have hTT : T.take q.i = T := List.take_of_length_le (by omega)
            have hpb : posB q.i = true := by simp [posB]; omega
            replace F := And.intro hTT (And.intro hpb F)
            refine run_exit ?_
            refine hK31 _ _ ?_
            refine sq fun K49 hK49 => ?_
            refine rg' (h := fun J50 hJ50 => ?_)
            refine hJ50 _ _ ?_
            refine hK49 _ _ ?_
            refine run_ret ?_
            try simp only [Then, InBlock, NoGoto]
            refine acell (h := ?_)
            show Wk _ _ ∧ _
            refine gcr (hA := ?_)
            rw [hE, hA, hii]
            rcases h35 with h | h
            all_goals simp [hkn, h, plnC]
            all_goals exact WkL.agg (.cons (Wk.refl _) (.cons (Wk.refl _) (.cons (Wk.refl _) (.cons (Wk.refl _) (.cons (Wk.shut _ _ _ _) .nil)))))
          case cx35 =>
           intro K35 hK35
           refine rg' (h := fun J51 hJ51 => ?_)
           refine gs 48 (fun g14_5 => ?_) (fun g14_5 => ?_)
           · try exact nope g14_5
             all_goals have g14_5p := g14_5
             all_goals try simp [F] at g14_5p
             all_goals
              replace F := And.intro g14_5 F
              try replace F := And.intro g14_5p F
              refine go2 (k := ?_)
              refine go2 (k := ?_)
              refine gs 52 (fun g14_9 => ?_) (fun g14_9 => ?_)
              · try exact nope g14_9
                all_goals have g14_9p := g14_9
                all_goals try simp [F] at g14_9p
                all_goals
                 replace F := And.intro g14_9 F
                 try replace F := And.intro g14_9p F
                 refine no2 (k := ?_)
                 refine no2 (k := ?_)
                 refine hJ51 _ _ ?_
                 refine hK35 (()) _ _ ⟨kp, ?_, lp⟩
                 · simp [hTc]
                   try rw [Bool.eq_iff_iff]
                   try simp
                   try simp at g14_5
                   try simp at g14_9
                   try omega
              try exact nope g14_9
              all_goals have g14_9p := g14_9
              all_goals try simp [F] at g14_9p
              all_goals
               replace F := And.intro g14_9 F
               try replace F := And.intro g14_9p F
               refine go2 (k := ?_)
               refine go2 (k := ?_)
               refine hJ51 _ _ ?_
               refine hK35 (()) _ _ ⟨kp, ?_, lp⟩
               · simp [hTc]
                 try rw [Bool.eq_iff_iff]
                 try simp
                 try simp at g14_5
                 try simp at g14_9
                 try omega
           try exact nope g14_5
           all_goals have g14_5p := g14_5
           all_goals try simp [F] at g14_5p
           all_goals
            replace F := And.intro g14_5 F
            try replace F := And.intro g14_5p F
            refine no2 (k := ?_)
            refine no2 (k := ?_)
            refine go2 (k := ?_)
            refine go2 (k := ?_)
            refine hJ51 _ _ ?_
            refine hK35 (()) _ _ ⟨kp, ?_, lp⟩
            · simp [hTc]
              try rw [Bool.eq_iff_iff]
              try simp
              try simp at g14_5
              try simp at g14_9
              try omega
      try exact nope c36
      all_goals have c36p := c36
      all_goals try simp [F] at c36p
      all_goals
       replace F := And.intro c36 F
       try replace F := And.intro c36p F
       refine run_skip ?_
       refine hK7 _ _ ?_
       refine sq fun K52 hK52 => ?_
       refine rg' (h := fun J53 hJ53 => ?_)
       refine ca (c := hof _) (k := ?_)
       rintro _ _ ⟨rfl, rfl⟩
       repeat (first | simp [F] | simp (disch := omega) only [wC, if_pos, if_neg])
       refine hJ53 _ _ ?_
       refine hK52 _ _ ?_
       refine sq fun K54 hK54 => ?_
       refine rg' (h := fun J55 hJ55 => ?_)
       refine hJ55 _ _ ?_
       refine hK54 _ _ ?_
       refine run_ret ?_
       try simp only [Then, InBlock, NoGoto]
       refine acell (h := ?_)
       have h35 := of_decide_eq_false (hB ▸ c36)
       show Wk _ _ ∧ _
       refine gcr (hA := ?_)
       simp [hkn, F, plnC, h35]
       exact WkL.agg (.cons (Wk.refl _) (.cons (Wk.refl _) (.cons (Wk.refl _) (.cons (Wk.refl _) (.cons (Wk.nil _ _ _) .nil)))))
     case cx28 =>
      intro K28 hK28
      refine sq fun K56 hK56 => ?_
      refine rg' (h := fun J57 hJ57 => ?_)
      refine hJ57 _ _ ?_
      refine hK56 _ _ ?_
      refine cs (fun c36 => ?_) (fun c36 => ?_)
      · try exact nope c36
        all_goals have c36p := c36
        all_goals try simp [F] at c36p
        all_goals
         replace F := And.intro c36 F
         try replace F := And.intro c36p F
         refine run_skip ?_
         refine hK28 (()) _ _ ⟨kp, ?_, lp⟩
         · rw [hB]
           have h := c36
           simp at h
           simp [h]
           try rfl
      try exact nope c36
      all_goals have c36p := c36
      all_goals try simp [F] at c36p
      all_goals
       replace F := And.intro c36 F
       try replace F := And.intro c36p F
       refine rg' (h := fun J58 hJ58 => ?_)
       refine hJ58 _ _ ?_
       refine hK28 (()) _ _ ⟨kp, ?_, lp⟩
       · rw [hB]
         have h := c36
         simp at h
         simp [h]
         try rfl

end Go.Proofs.Ytdbaddholggkbaa

/-
  What right plans give by a time: the plain laws.
-/
namespace Go.Vm
set_option linter.unnecessarySimpa false
set_option linter.unusedSimpArgs false
set_option linter.unusedVariables false
open Go

/-- Lists of what a plan is made of are within their bound. -/
def Mad.Len (m : Mad) : Prop := m.c.length ≤ 9223372036854775807 ∧ m.ps.length ≤ 9223372036854775807 ∧ ∀ x ∈ m.ps, x.c.length ≤ 9223372036854775807
/-- Parts of a plan, as they may be. -/
def PerOk (x : Per) : Prop := 0 < x.l ∧ x.l ≤ 2 ^ 16 ∧ x.c ≠ [] ∧ Right x.c ∧ ∀ d, d < 8 → amt x.c d < 2 ^ 250
/-- What holds of plans that are made. -/
structure Fine (p : Pln) : Prop where
  ok : p.Ok
  tot : Right p.tot
  kinds : p.k = 0 ∨ p.k = 1 ∨ p.k = 2 ∨ p.k = 3 ∨ p.k = 4 ∨ p.k = 5
  zero : p.k = 0 → p = ⟨0, 0, 0, [], []⟩
  even : p.k = 1 → p.s < p.e
  late : p.k = 2 → p.s = 0
  small : p.s + lenS p.ps ≤ 2 ^ 40
  pers : ∀ x ∈ p.ps, PerOk x
  steps : p.k = 3 ∨ p.k = 5 → p.e = p.s + lenS p.ps ∧ p.tot = sumL p.ps [] ∧ p.ps ≠ [] ∧ p.ps.length ≤ 16

theorem kindM_cases (m : Mad) : kindM m = 0 ∨ kindM m = 1 ∨ kindM m = 2 ∨ kindM m = 3 ∨ kindM m = 4 ∨ kindM m = 5 := by
  have h : (kindM m).toNat < 6 := by unfold kindM; exact UInt8.mod_lt _ (by decide)
  have a0 : ∀ n : UInt8, kindM m = n ↔ (kindM m).toNat = n.toNat := fun n => ⟨fun e => by rw [e], fun e => UInt8.toNat_inj.1 e⟩
  simp only [a0]
  simp
  omega

theorem plansL_good {m : Mad} (hm : m.Ok) : Fine (plansL m) := by
  have h3 := lenS_persL hm
  have h5 := persL_len m
  have hp := persL_mem hm
  have hs := hm.1
  have hn := hm.2.1
  have hq := right_ofL m.c
  have hql := right_len hq
  have hsum : Right (sumL (persL m) []) := right_sumL _ _ right_nil
  have hsl := right_len hsum
  have hk := kindM_cases m
  have hne := persL_ne m
  have hx : ∀ x ∈ persL m, x.l < 2 ^ 64 ∧ x.c.length ≤ 9223372036854775807 := fun x hx => by
    obtain ⟨a1, a2, a3, a4, a5⟩ := hp x hx
    have := right_len a4
    exact ⟨by omega, by omega⟩
  generalize hT : persL m = T at *
  generalize hQ : ofL m.c = Q at *
  generalize hS : sumL T [] = S at *
  generalize hK : kindM m = K at *
  unfold plansL
  rw [hT, hQ, hS, hK]
  rcases hk with h | h | h | h | h | h <;> subst h <;> simp only [show ¬ ((1 : UInt8) = 0) by decide, show ¬ ((2 : UInt8) = 0) by decide, show ¬ ((2 : UInt8) = 1) by decide, show ¬ ((3 : UInt8) = 0) by decide, show ¬ ((3 : UInt8) = 1) by decide, show ¬ ((3 : UInt8) = 2) by decide, show ¬ ((4 : UInt8) = 0) by decide, show ¬ ((4 : UInt8) = 1) by decide, show ¬ ((4 : UInt8) = 2) by decide, show ¬ ((4 : UInt8) = 3) by decide, show ¬ ((4 : UInt8) = 5) by decide, show ¬ ((5 : UInt8) = 0) by decide, show ¬ ((5 : UInt8) = 1) by decide, show ¬ ((5 : UInt8) = 2) by decide, show ¬ ((5 : UInt8) = 3) by decide, if_true, if_false, or_true, true_or, or_false, false_or]
  · exact ⟨by simp [Pln.Ok], right_nil, by simp, by simp, by simp, by simp, by simp [lenS], by simp, by simp⟩
  · exact ⟨⟨by simp only; omega, by simp only; omega, by simp only; omega, by simp, by simp⟩, hq, by simp, by simp, fun _ => by simp only; omega, by simp, by simp only [lenS]; omega, by simp, by simp⟩
  · exact ⟨⟨by simp, by simp only; omega, by simp only; omega, by simp, by simp⟩, hq, by simp, by simp, by simp, by simp, by simp only [lenS]; omega, by simp, by simp⟩
  · exact ⟨⟨by simp only; omega, by simp only; omega, by simp only; omega, by simp only; omega, hx⟩, hsum, by simp, by simp, by simp, by simp, by simp only; omega, hp, fun _ => ⟨rfl, hS.symm, hne, h5⟩⟩
  · exact ⟨⟨by simp, by simp, by simp only; omega, by simp, by simp⟩, hq, by simp, by simp, by simp, by simp, by simp only [lenS]; omega, by simp, by simp⟩
  · exact ⟨⟨by simp only; omega, by simp only; omega, by simp only; omega, by simp only; omega, hx⟩, hsum, by simp, by simp, by simp, by simp, by simp only; omega, hp, fun _ => ⟨rfl, hS.symm, hne, h5⟩⟩

end Go.Vm

/-
  Arguments: numbers, lists of coins, plans.
-/
namespace Go.Vm
set_option linter.unnecessarySimpa false
set_option linter.unusedVariables false
open Go

theorem leavesF_mono {go go' : TypeId → Option (List TypeId)} (h : ∀ t l, go t = some l → go' t = some l) : ∀ (fs : List Field) (acc ls : List TypeId), leavesF go fs acc = some ls → leavesF go' fs acc = some ls
  | [], acc, ls, e => e
  | f :: fs, acc, ls, e => by
    simp only [leavesF] at e ⊢
    split at e
    · rename_i hf
      rw [if_pos hf]
      cases hg : go f.type with
      | none => rw [hg] at e; cases e
      | some l =>
        rw [hg] at e
        rw [h _ _ hg]
        exact leavesF_mono h fs _ ls e
    · cases e

theorem leaves_succ {P : Program} : ∀ (n : Nat) (t : TypeId) (l : List TypeId), leaves P n t = some l → leaves P (n + 1) t = some l
  | 0, t, l, h => by simp [leaves] at h
  | n + 1, t, l, h => by
    have ih := leaves_succ (P := P) n
    rw [leaves] at h ⊢
    split at h
    · exact h
    · exact h
    · exact h
    · rename_i e hu
      cases hg : leaves P n e with
      | none => rw [hg] at h; cases h
      | some l' => rw [hg] at h; simp only [ih _ _ hg]; exact h
    · rename_i fs hu
      cases hg : leavesF (leaves P n) fs.toList [] with
      | none => rw [hg] at h; cases h
      | some l' => rw [hg] at h; simp only [leavesF_mono ih _ _ _ hg]; exact h
    · rename_i k e hu
      cases hg : leaves P n e with
      | none => rw [hg] at h; cases h
      | some l' => rw [hg] at h; simp only [ih _ _ hg]; exact h
    · cases h

theorem leaves_add {P : Program} {n : Nat} {t : TypeId} {l : List TypeId} (h : leaves P n t = some l) : ∀ k, leaves P (n + k) t = some l
  | 0 => h
  | k + 1 => leaves_succ _ _ _ (leaves_add h k)
theorem leaves_one {P : Program} {n m : Nat} {t : TypeId} {l l' : List TypeId} (h : leaves P n t = some l) (h' : leaves P m t = some l') : l = l' := by
  have h1 := leaves_add h m
  have h2 := leaves_add h' n
  rw [Nat.add_comm] at h2
  rw [h1] at h2
  exact Option.some.inj h2

theorem join4' {a b c d : Nat} (ha : a < 2 ^ 64) (hb : b < 2 ^ 64) (hc : c < 2 ^ 64) (hd : d < 2 ^ 64) : ∃ x, x < 2 ^ 256 ∧ limb x 0 = a ∧ limb x 1 = b ∧ limb x 2 = c ∧ limb x 3 = d := by
  refine ⟨a + 2 ^ 64 * (b + 2 ^ 64 * (c + 2 ^ 64 * d)), ?_, ?_, ?_, ?_, ?_⟩ <;> (try simp only [limb, Nat.reduceMul, Nat.reducePow]) <;> omega

theorem u64_of' {P : Program} {u : TypeId} {a : AV} (hu : P.underlying u = some (.int .u64)) (w : WC P u a) : ∃ n : Nat, n < 2 ^ 64 ∧ a = .v (.int .u64 n) := by
  cases w with
  | bool h => rw [hu] at h; cases h
  | string h _ => rw [hu] at h; cases h
  | slice h _ _ _ _ => rw [hu] at h; cases h
  | int h hw =>
    rename_i k n
    rw [hu] at h
    cases h
    have m1 : IntKind.u64.min = 0 := rfl
    have m2 : IntKind.u64.max = 18446744073709551615 := rfl
    simp [Lit.wf, m1, m2] at hw
    exact ⟨n.toNat, by omega, by congr 2; omega⟩
theorem u8_of {P : Program} {u : TypeId} {a : AV} (hu : P.underlying u = some (.int .u8)) (w : WC P u a) : ∃ b : UInt8, a = .v (.int .u8 b.toNat) := by
  cases w with
  | bool h => rw [hu] at h; cases h
  | string h _ => rw [hu] at h; cases h
  | slice h _ _ _ _ => rw [hu] at h; cases h
  | int h hw =>
    rename_i k n
    rw [hu] at h
    cases h
    have m1 : IntKind.u8.min = 0 := rfl
    have m2 : IntKind.u8.max = 255 := rfl
    simp [Lit.wf, m1, m2] at hw
    refine ⟨UInt8.ofNat n.toNat, ?_⟩
    have e : (UInt8.ofNat n.toNat).toNat = n.toNat := toNat_u8 (by omega)
    rw [e]
    congr 2; omega

theorem num_of {P : Program} {u : TypeId} {a b c d : AV} (hu : P.underlying u = some (.int .u64)) (ha : WC P u a) (hb : WC P u b) (hc : WC P u c) (hd : WC P u d) : ∃ x : Num, [a, b, c, d] = numA x.v := by
  obtain ⟨na, ga, rfl⟩ := u64_of' hu ha
  obtain ⟨nb, gb, rfl⟩ := u64_of' hu hb
  obtain ⟨nc, gc, rfl⟩ := u64_of' hu hc
  obtain ⟨nd, gd, rfl⟩ := u64_of' hu hd
  obtain ⟨x, hx, x0, x1, x2, x3⟩ := join4' ga gb gc gd
  exact ⟨⟨x, hx⟩, by simp [numA, x0, x1, x2, x3]⟩

/-- Cells that come in groups of one kind. -/
theorem groups {P : Program} {α : Type} {f : α → List AV} {ls : List TypeId} (hl : 0 < ls.length) (hf : ∀ a, (f a).length = ls.length)
    (one : ∀ cs : List AV, cs.length = ls.length → (∀ (j : Nat) a u, cs[j]? = some a → ls[j]? = some u → WC P u a) → ∃ x, cs = f x) :
    ∀ (n : Nat) (cs : List AV), cs.length = n * ls.length → (∀ (j : Nat) a u, cs[j]? = some a → ls[j % ls.length]? = some u → WC P u a) → ∃ l : List α, l.length = n ∧ cs = l.flatMap f
  | 0, cs, h, _ => ⟨[], rfl, by simpa using h⟩
  | n + 1, cs, h, hc => by
    have hle : ls.length ≤ cs.length := by rw [h, Nat.add_mul]; omega
    obtain ⟨x, hx⟩ := one (cs.take ls.length) (by simp; omega) (fun j a u ha hu => by
      have hj : j < ls.length := (List.getElem?_eq_some_iff.1 hu).1
      rw [List.getElem?_take, if_pos hj] at ha
      exact hc j a u ha (by rw [Nat.mod_eq_of_lt hj]; exact hu))
    obtain ⟨l, hln, hl2⟩ := groups hl hf one n (cs.drop ls.length) (by rw [List.length_drop, h, Nat.add_mul]; omega) (fun j a u ha hu => by
      rw [List.getElem?_drop] at ha
      exact hc (ls.length + j) a u ha (by rw [Nat.add_mod_left]; exact hu))
    exact ⟨x :: l, by simp [hln], by rw [List.flatMap_cons, ← hx, ← hl2, List.take_append_drop]⟩

theorem coins_of {P : Program} {t e tb u : TypeId} {k : Nat} {a : AV} (ht : P.underlying t = some (.slice e)) (hle : leaves P k e = some [tb, u, u, u, u]) (hb : P.underlying tb = some (.int .u8)) (hu : P.underlying u = some (.int .u64)) (w : WC P t a) : ∃ L : List Coin, a = .sl 5 (coinsC L) L.length .shut := by
  cases w with
  | bool h => rw [ht] at h; cases h
  | string h _ => rw [ht] at h; cases h
  | int h _ => rw [ht] at h; cases h
  | slice h hls hl hn hc =>
    rw [ht] at h
    cases h
    rename_i fuel ls cs n
    obtain rfl := leaves_one hle hls
    obtain ⟨L, hL, rfl⟩ := groups (f := coinC) (ls := [tb, u, u, u, u]) (by simp) (fun _ => rfl) (fun cs h1 h2 => by
      obtain ⟨a0, a1, a2, a3, a4, rfl⟩ : ∃ a0 a1 a2 a3 a4, cs = [a0, a1, a2, a3, a4] := by
        match cs, h1 with
        | [a0, a1, a2, a3, a4], _ => exact ⟨a0, a1, a2, a3, a4, rfl⟩
      obtain ⟨b, hb⟩ := u8_of hb (h2 0 a0 tb rfl rfl)
      obtain ⟨x, hx⟩ := num_of hu (h2 1 a1 u rfl rfl) (h2 2 a2 u rfl rfl) (h2 3 a3 u rfl rfl) (h2 4 a4 u rfl rfl)
      exact ⟨⟨b, x⟩, by rw [hb, hx]; rfl⟩) n cs hl hc
    exact ⟨L, by rw [← hL]; rfl⟩

theorem wc_len {P : Program} {t : TypeId} {sz n : Nat} {cs : List AV} {tl : Tail} (w : WC P t (.sl sz cs n tl)) : n ≤ 9223372036854775807 := by
  generalize hx : AV.sl sz cs n tl = x at w
  cases w with
  | bool h => cases hx
  | string h _ => cases hx
  | int h _ => cases hx
  | slice h hls hl hn hc => cases hx; exact hn

end Go.Vm

/-
  Arguments: what a plan is made of.
-/
namespace Go.Vm
set_option linter.unnecessarySimpa false
set_option linter.unusedVariables false
open Go

theorem u32_of {P : Program} {u : TypeId} {a : AV} (hu : P.underlying u = some (.int .u32)) (w : WC P u a) : ∃ n : Nat, n < 2 ^ 32 ∧ a = .v (.int .u32 n) := by
  cases w with
  | bool h => rw [hu] at h; cases h
  | string h _ => rw [hu] at h; cases h
  | slice h _ _ _ _ => rw [hu] at h; cases h
  | int h hw =>
    rename_i k n
    rw [hu] at h
    cases h
    have m1 : IntKind.u32.min = 0 := rfl
    have m2 : IntKind.u32.max = 4294967295 := rfl
    simp [Lit.wf, m1, m2] at hw
    exact ⟨n.toNat, by omega, by congr 2; omega⟩
theorem u16_of {P : Program} {u : TypeId} {a : AV} (hu : P.underlying u = some (.int .u16)) (w : WC P u a) : ∃ n : Nat, n < 2 ^ 16 ∧ a = .v (.int .u16 n) := by
  cases w with
  | bool h => rw [hu] at h; cases h
  | string h _ => rw [hu] at h; cases h
  | slice h _ _ _ _ => rw [hu] at h; cases h
  | int h hw =>
    rename_i k n
    rw [hu] at h
    cases h
    have m1 : IntKind.u16.min = 0 := rfl
    have m2 : IntKind.u16.max = 65535 := rfl
    simp [Lit.wf, m1, m2] at hw
    exact ⟨n.toNat, by omega, by congr 2; omega⟩
theorem pcs_of {P : Program} {t e u tc ec tb : TypeId} {k k2 : Nat} {a : AV} (ht : P.underlying t = some (.slice e)) (hle : leaves P k e = some [u, tc]) (hu : P.underlying u = some (.int .u16)) (hb : P.underlying tb = some (.int .u8)) {un : TypeId} (hun : P.underlying un = some (.int .u64))
    (htc : P.underlying tc = some (.slice ec)) (hlc : leaves P k2 ec = some [tb, un, un, un, un]) (w : WC P t a) : ∃ L : List Pc, a = .sl 2 (pcsC L) L.length .shut ∧ L.length ≤ 9223372036854775807 ∧ ∀ x ∈ L, x.l < 2 ^ 16 ∧ x.c.length ≤ 9223372036854775807 := by
  have w0 := w
  cases w with
  | bool h => rw [ht] at h; cases h
  | string h _ => rw [ht] at h; cases h
  | int h _ => rw [ht] at h; cases h
  | slice h hls hl hn hc =>
    rw [ht] at h
    cases h
    rename_i fuel ls cs n
    obtain rfl := leaves_one hle hls
    obtain ⟨L, hL, rfl⟩ := groups (α := { x : Pc // x.l < 2 ^ 16 ∧ x.c.length ≤ 9223372036854775807 }) (f := fun x => pcC x.1) (ls := [u, tc]) (by simp) (fun _ => rfl) (fun cs h1 h2 => by
      obtain ⟨a0, a1, rfl⟩ : ∃ a0 a1, cs = [a0, a1] := by
        match cs, h1 with
        | [a0, a1], _ => exact ⟨a0, a1, rfl⟩
      obtain ⟨m, hm, e0⟩ := u16_of hu (h2 0 a0 u rfl rfl)
      have w1 := h2 1 a1 tc rfl rfl
      obtain ⟨M, hM⟩ := coins_of htc hlc hb hun w1
      subst hM
      exact ⟨⟨⟨m, M⟩, hm, wc_len w1⟩, by rw [e0]; rfl⟩) n cs hl hc
    refine ⟨L.map Subtype.val, ?_, by rw [List.length_map, hL]; exact hn, fun x hx => ?_⟩
    · rw [List.length_map, hL]
      show AV.sl 2 _ n .shut = _
      congr 1
      simp [pcsC]
    · obtain ⟨y, _, rfl⟩ := List.mem_map.1 hx
      exact y.2

theorem mad_of {P : Program} {tk u32 u16 tc tp e ec tb un : TypeId} {k k2 : Nat} {l : List AV} (h1 : l.length = [tk, u32, u16, tc, tp].length) (h2 : ∀ (j : Nat) a v, l[j]? = some a → [tk, u32, u16, tc, tp][j]? = some v → WC P v a) (hk : P.underlying tk = some (.int .u8)) (h32 : P.underlying u32 = some (.int .u32)) (h16 : P.underlying u16 = some (.int .u16)) (hb : P.underlying tb = some (.int .u8)) (hun : P.underlying un = some (.int .u64))
    (htc : P.underlying tc = some (.slice ec)) (hlc : leaves P k2 ec = some [tb, un, un, un, un]) (htp : P.underlying tp = some (.slice e)) (hle : leaves P k e = some [u16, tc]) : ∃ m : Mad, l = madC m ∧ m.Ok ∧ m.Len := by
  obtain ⟨a0, a1, a2, a3, a4, rfl⟩ : ∃ a0 a1 a2 a3 a4, l = [a0, a1, a2, a3, a4] := by
    match l, h1 with
    | [a0, a1, a2, a3, a4], _ => exact ⟨a0, a1, a2, a3, a4, rfl⟩
  obtain ⟨b, e0⟩ := u8_of hk (h2 0 a0 _ rfl rfl)
  obtain ⟨s, hs, e1⟩ := u32_of h32 (h2 1 a1 _ rfl rfl)
  obtain ⟨n, hn, e2⟩ := u16_of h16 (h2 2 a2 _ rfl rfl)
  have w3 := h2 3 a3 _ rfl rfl
  obtain ⟨M, e3⟩ := coins_of htc hlc hb hun w3
  subst e3
  obtain ⟨L, e4, hL, h5⟩ := pcs_of htp hle h16 hb hun htc hlc (h2 4 a4 _ rfl rfl)
  exact ⟨⟨b, s, n, M, L⟩, by rw [e0, e1, e2, e4]; rfl, ⟨hs, hn, fun x hx => (h5 x hx).1⟩, wc_len w3, hL, fun x hx => (h5 x hx).2⟩

theorem mad_arg {n k k2 : Nat} {P : Program} {t tk u32 u16 tc tp e ec tb un : TypeId} {H : Type} {enc : TypeId × Value → H} {W : World} {spare : Nat → Bool} {cs : Array Value} {d : DataW H} {ps : List MemPlace} (hl : leaves P n t = some [tk, u32, u16, tc, tp]) (hk : P.underlying tk = some (.int .u8)) (h32 : P.underlying u32 = some (.int .u32)) (h16 : P.underlying u16 = some (.int .u16)) (hb : P.underlying tb = some (.int .u8)) (hun : P.underlying un = some (.int .u64))
    (htc : P.underlying tc = some (.slice ec)) (hlc : leaves P k2 ec = some [tb, un, un, un, un]) (htp : P.underlying tp = some (.slice e)) (hle : leaves P k e = some [u16, tc])
    (h : DataW.Trod enc P W 0 spare true t (.agg cs) d ps) : ∃ m : Mad, m.Ok ∧ m.Len ∧ AVR (atFirst W) W (.agg cs) (.agg (madC m)) := by
  obtain ⟨l, h1, h2, h3, h4⟩ := open_arg hl h
  have hc : Value.cells (.agg cs) = cs := rfl
  rw [hc] at h2 h3
  obtain ⟨m, rfl, hm⟩ := mad_of h1 h4 hk h32 h16 hb hun htc hlc htp hle
  exact ⟨m, hm.1, hm.2, .agg h2 h3⟩

end Go.Vm

/-
  The law that plans that are made may be..
-/
namespace Go.Proofs.Ytdbaddholggkbaa
set_option linter.unnecessarySimpa false
set_option maxRecDepth 100000
open Go Go.Vm
set_option linter.unusedSimpArgs false
set_option linter.unusedVariables false

attribute [local simp] evalL wantedA isCall opA evalA evalAll evalsA evalOpt ofValue ofCell plain binA_eql_pn binA_neq_pn binA_gtr binA_lss binA_geq binA_leq binA_add binA_sub binA_eql binA_neq binA_orI binA_andI binA_shl binA_shr binA_mul binA_quo binA_rem binA_agg_eql binA_agg_neq convA_int unA_not fieldAddrA loadA partA pickA_true pickA_false pickA_bb lenA builtinA storeA splice AV.cells AV.isCell sliceA boundA intA callOf indexAddrA newObjA buildA fillA zeroA ofCells buildSliceA indexA fieldA numA_len4 numA_take4 numA_drop4 set_appN get_appN take_appN List.getElem?_cons_zero List.getElem?_cons_succ makeA zeros64

/-- With no list of all. -/
theorem nilTot {a b c e : AV} : WkL [.agg [a, b, c, .sl 0 [] 0 .full, e]] [.agg [a, b, c, .sl 5 [] 0 .shut, e]] :=
  .cons (WkL.agg (.cons (Wk.refl _) (.cons (Wk.refl _) (.cons (Wk.refl _) (.cons (Wk.nil _ _ _) (.cons (Wk.refl _) .nil)))))) .nil

theorem wrap_u64_range (x : Int) : 0 ≤ IntKind.u64.wrap x ∧ IntKind.u64.wrap x < 18446744073709551616 := by
  simp [IntKind.wrap, IntKind.bits, IntKind.signed]
  omega

set_option maxHeartbeats 1600000 in
attribute [local simp] undefA List.getElem?_cons_zero List.getElem?_cons_succ madC plnC persC_noObj pcsC_noObj in
theorem planMade_ok {σ : St} {m : Mad} (hm : m.Ok) (hl : m.Len) {kd : UInt8} {n : Int} {b : Bool} (h1 : -128 ≤ n) (h2 : n ≤ 127) :
    CallsA Try.prog 4 [.agg (madC m), .v (.int .u8 kd.toNat), .v (.int .i8 n), .v (.bool b)] σ (fun av σ' => av = .v (.bool true) ∧ σ = σ') := by
  refine callsA_gcS ?_ rfl
  obtain ⟨l1, l2, l3⟩ := hl
  obtain ⟨p, hpp⟩ : ∃ p, p = plansL m := ⟨_, rfl⟩
  have g : Fine p := hpp ▸ plansL_good hm
  have cf : ∀ σ, CallsA Try.prog 20 [.agg (madC m)] σ (fun av σ' => av = .v (.bool (decide (fewP m))) ∧ σ = σ') := fun σ => few_ok l1 l2 l3
  have cp : ∀ σ, fewP m → CallsA Try.prog 21 [.agg (madC m)] σ (fun av σ' => av = .agg (plnC p) ∧ σ = σ') := fun σ hf => hpp ▸ plans_ok hm hf
  have hr := right_plansL hm
  rw [← hpp] at hr
  have q1 := fun σ => plright_ok (σ := σ) g.ok
  have q2 := fun σ => rpright_ok (σ := σ) g.ok
  rw [hr] at q1 q2
  obtain ⟨o1, o2, o3, o4, o5⟩ := g.ok
  clear hpp hm g hr
  obtain ⟨mk, ms, mn, mc, mp⟩ := m
  obtain ⟨pk, ps, pe, pt, pp⟩ := p
  simp only at o1 o2 o3 o4 o5
  obtain ⟨E, hE0, hE⟩ : ∃ E : Nat, E < 2 ^ 64 ∧ IntKind.u64.wrap ((pe : Int) + IntKind.u64.wrap (IntKind.i64.wrap n)) = (E : Int) := by
    refine ⟨(IntKind.u64.wrap ((pe : Int) + IntKind.u64.wrap (IntKind.i64.wrap n))).toNat, ?_, ?_⟩
    · have := wrap_u64_range ((pe : Int) + IntKind.u64.wrap (IntKind.i64.wrap n)); omega
    · have := wrap_u64_range ((pe : Int) + IntKind.u64.wrap (IntKind.i64.wrap n)); omega
  have oA : Pln.Ok ⟨kd, ps, E, pt, pp⟩ := ⟨o1, hE0, o3, o4, o5⟩
  have oB : Pln.Ok ⟨kd, ps, E, [], pp⟩ := ⟨o1, hE0, by simp, o4, o5⟩
  obtain ⟨bA, hbA⟩ : ∃ b, b = rightB ⟨kd, ps, E, pt, pp⟩ := ⟨_, rfl⟩
  obtain ⟨bB, hbB⟩ : ∃ b, b = rightB ⟨kd, ps, E, [], pp⟩ := ⟨_, rfl⟩
  have a1 := fun σ => plright_ok (σ := σ) oA
  have a2 := fun σ => rpright_ok (σ := σ) oA
  have b1 := fun σ => callsA_wk nilTot (plright_ok (σ := σ) oB)
  have b2 := fun σ => callsA_wk nilTot (rpright_ok (σ := σ) oB)
  rw [← hbA] at a1 a2
  rw [← hbB] at b1 b2
  clear hbA hbB oA oB
  have F := True.intro
  refine callsA_body Try.func4 rfl rfl rfl ?_
  refine sq fun K1 hK1 => ?_
  refine rg' (h := fun J2 hJ2 => ?_)
  refine hJ2 _ _ ?_
  refine hK1 _ _ ?_
  refine sq fun K3 hK3 => ?_
  refine sq fun K4 hK4 => ?_
  refine rg' (h := fun J5 hJ5 => ?_)
  refine ca (c := even_ok) (k := ?_)
  rintro _ _ ⟨rfl, rfl⟩
  repeat (first | simp [F] | simp (disch := omega) only [wC, if_pos, if_neg])
  refine gs 12 (fun g1_2 => ?_) (fun g1_2 => ?_)
  · try exact nope g1_2
    all_goals have g1_2p := g1_2
    all_goals try simp [F] at g1_2p
    all_goals
     replace F := And.intro g1_2 F
     try replace F := And.intro g1_2p F
     refine no2 (k := ?_)
     refine no2 (k := ?_)
     refine no2 (k := ?_)
     refine hJ5 _ _ ?_
     refine hK4 _ _ ?_
     refine ct ?_
     refine sq fun K6 hK6 => ?_
     refine rg' (h := fun J7 hJ7 => ?_)
     refine ca (c := even_ok) (k := ?_)
     rintro _ _ ⟨rfl, rfl⟩
     repeat (first | simp [F] | simp (disch := omega) only [wC, if_pos, if_neg])
     refine hJ7 _ _ ?_
     refine hK6 _ _ ?_
     refine run_ret ?_
     try simp only [Then, InBlock, NoGoto]
     refine answer_tmp rfl (.inr rfl) ?_
     exact gcr
  try exact nope g1_2
  all_goals have g1_2p := g1_2
  all_goals try simp [F] at g1_2p
  all_goals
   replace F := And.intro g1_2 F
   try replace F := And.intro g1_2p F
   refine go2 (k := ?_)
   refine ca (c := cf _) (k := ?_)
   rintro _ _ ⟨rfl, rfl⟩
   repeat (first | simp [F] | simp (disch := omega) only [wC, if_pos, if_neg])
   refine go2 (k := ?_)
   refine hJ5 _ _ ?_
   refine hK4 _ _ ?_
   refine cs (fun c16 => ?_) (fun c16 => ?_)
   · try exact nope c16
     all_goals have c16p := c16
     all_goals try simp [F] at c16p
     all_goals
      replace F := And.intro c16 F
      try replace F := And.intro c16p F
      refine sq fun K8 hK8 => ?_
      refine rg' (h := fun J9 hJ9 => ?_)
      refine ca (c := even_ok) (k := ?_)
      rintro _ _ ⟨rfl, rfl⟩
      repeat (first | simp [F] | simp (disch := omega) only [wC, if_pos, if_neg])
      refine hJ9 _ _ ?_
      refine hK8 _ _ ?_
      refine run_ret ?_
      try simp only [Then, InBlock, NoGoto]
      refine answer_tmp rfl (.inr rfl) ?_
      exact gcr
   try exact nope c16
   all_goals have c16p := c16
   all_goals try simp [F] at c16p
   all_goals
    replace F := And.intro c16 F
    try replace F := And.intro c16p F
    refine run_skip ?_
    refine hK3 _ _ ?_
    refine sq fun K10 hK10 => ?_
    refine rg' (h := fun J11 hJ11 => ?_)
    refine ca (c := cp _ (by simpa using c16)) (k := ?_)
    rintro _ _ ⟨rfl, rfl⟩
    repeat (first | simp [F] | simp (disch := omega) only [wC, if_pos, if_neg])
    refine hJ11 _ _ ?_
    refine hK10 _ _ ?_
    refine sq fun K12 hK12 => ?_
    refine sq fun K13 hK13 => ?_
    refine rg' (h := fun J14 hJ14 => ?_)
    refine ca (c := q1 _) (k := ?_)
    rintro _ _ ⟨rfl, rfl⟩
    repeat (first | simp [F] | simp (disch := omega) only [wC, if_pos, if_neg])
    refine gs 23 (fun g4_3 => ?_) (fun g4_3 => ?_)
    · try exact nope g4_3
      all_goals have g4_3p := g4_3
      all_goals try simp [F] at g4_3p
      all_goals
       replace F := And.intro g4_3 F
       try replace F := And.intro g4_3p F
       refine no2 (k := ?_)
       refine no2 (k := ?_)
       refine no2 (k := ?_)
       refine hJ14 _ _ ?_
       refine hK13 _ _ ?_
       refine ct ?_
       refine sq fun K15 hK15 => ?_
       refine rg' (h := fun J16 hJ16 => ?_)
       refine hJ16 _ _ ?_
       refine hK15 _ _ ?_
       refine run_ret ?_
       try simp only [Then, InBlock, NoGoto]
       refine answer_tmp rfl (.inr rfl) ?_
       exact gcr
    try exact nope g4_3
    all_goals have g4_3p := g4_3
    all_goals try simp [F] at g4_3p
    all_goals
     replace F := And.intro g4_3 F
     try replace F := And.intro g4_3p F
     refine go2 (k := ?_)
     refine ca (c := q2 _) (k := ?_)
     rintro _ _ ⟨rfl, rfl⟩
     repeat (first | simp [F] | simp (disch := omega) only [wC, if_pos, if_neg])
     refine go2 (k := ?_)
     refine hJ14 _ _ ?_
     refine hK13 _ _ ?_
     refine cs (fun c27 => ?_) (fun c27 => ?_)
     · try exact nope c27
       all_goals have c27p := c27
       all_goals try simp [F] at c27p
       all_goals
        replace F := And.intro c27 F
        try replace F := And.intro c27p F
        refine sq fun K17 hK17 => ?_
        refine rg' (h := fun J18 hJ18 => ?_)
        refine hJ18 _ _ ?_
        refine hK17 _ _ ?_
        refine run_ret ?_
        try simp only [Then, InBlock, NoGoto]
        refine answer_tmp rfl (.inr rfl) ?_
        exact gcr
     try exact nope c27
     all_goals have c27p := c27
     all_goals try simp [F] at c27p
     all_goals
      replace F := And.intro c27 F
      try replace F := And.intro c27p F
      refine run_skip ?_
      refine hK12 _ _ ?_
      refine sq fun K19 hK19 => ?_
      refine rg' (h := fun J20 hJ20 => ?_)
      refine hJ20 _ _ ?_
      refine hK19 _ _ ?_
      refine sq fun K21 hK21 => ?_
      replace F := And.intro hE F
      refine rg' (h := fun J22 hJ22 => ?_)
      refine hJ22 _ _ ?_
      refine hK21 _ _ ?_
      refine sq fun K23 hK23 => ?_
      refine sq fun K24 hK24 => ?_
      refine rg' (h := fun J25 hJ25 => ?_)
      refine hJ25 _ _ ?_
      refine hK24 _ _ ?_
      refine cs (t := b) (fun c37 => ?_) (fun c37 => ?_)
      · try exact nope c37
        all_goals have c37p := c37
        all_goals try simp [F] at c37p
        all_goals
         replace F := And.intro c37 F
         try replace F := And.intro c37p F
         refine rg' (h := fun J26 hJ26 => ?_)
         refine hJ26 _ _ ?_
         refine hK23 _ _ ?_
         refine sq fun K27 hK27 => ?_
         refine run_draw (by kernel_rfl) fun J28 hJ28 => ?_
         refine rp2 0 (k := ?_)
         refine rp2 2 (k := ?_)
         refine dc 1 rfl (c := b1 _) (k := ?_)
         rintro _ _ ⟨rfl, rfl⟩
         refine ⟨by first | exact fun _ _ h => h | (refine later_list [2] (by kernel_rfl) (List.forall_mem_cons.2 ⟨fun _ => fact2 rfl rfl ?_, fun _ h => absurd h List.not_mem_nil⟩) <;> constructor <;> first | rfl | (simp [F]; done)), ?_⟩
         repeat (first | simp [F] | simp (disch := omega) only [wC, if_pos, if_neg])
         refine dc 3 rfl (c := b2 _) (k := ?_)
         rintro _ _ ⟨rfl, rfl⟩
         refine ⟨ln, ?_⟩
         repeat (first | simp [F] | simp (disch := omega) only [wC, if_pos, if_neg])
         refine rp2 4 (k := ?_)
         refine rp2 5 (k := ?_)
         refine dd ?_
         refine hJ28 _ _ ?_
         refine hK27 _ _ ?_
         refine run_ret ?_
         try simp only [Then, InBlock, NoGoto]
         refine answer_tmp rfl (.inr rfl) ?_
         exact gcr
      try exact nope c37
      all_goals have c37p := c37
      all_goals try simp [F] at c37p
      all_goals
       replace F := And.intro c37 F
       try replace F := And.intro c37p F
       refine run_skip ?_
       refine hK23 _ _ ?_
       refine sq fun K29 hK29 => ?_
       refine run_draw (by kernel_rfl) fun J30 hJ30 => ?_
       refine rp2 0 (k := ?_)
       refine rp2 2 (k := ?_)
       refine dc 1 rfl (c := a1 _) (k := ?_)
       rintro _ _ ⟨rfl, rfl⟩
       refine ⟨by first | exact fun _ _ h => h | (refine later_list [2] (by kernel_rfl) (List.forall_mem_cons.2 ⟨fun _ => fact2 rfl rfl ?_, fun _ h => absurd h List.not_mem_nil⟩) <;> constructor <;> first | rfl | (simp [F]; done)), ?_⟩
       repeat (first | simp [F] | simp (disch := omega) only [wC, if_pos, if_neg])
       refine dc 3 rfl (c := a2 _) (k := ?_)
       rintro _ _ ⟨rfl, rfl⟩
       refine ⟨ln, ?_⟩
       repeat (first | simp [F] | simp (disch := omega) only [wC, if_pos, if_neg])
       refine rp2 4 (k := ?_)
       refine rp2 5 (k := ?_)
       refine dd ?_
       refine hJ30 _ _ ?_
       refine hK29 _ _ ?_
       refine run_ret ?_
       try simp only [Then, InBlock, NoGoto]
       refine answer_tmp rfl (.inr rfl) ?_
       exact gcr

end Go.Proofs.Ytdbaddholggkbaa
