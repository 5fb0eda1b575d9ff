import Derived.Test.YtdbaddholggkbaaVmU
import Derived.Test.YtdbaddholggkbaaC6
import Derived.Test.YtdbaddholggkbaaVmT
/-
  Lists of coins: may they be? are they alike?
-/
namespace Go.Proofs.Ytdbaddholggkbaa
set_option linter.unnecessarySimpa false
set_option maxRecDepth 100000
open Go Go.Vm
set_option linter.unusedSimpArgs false
set_option linter.unusedVariables false

attribute [local simp] evalL wantedA isCall opA evalA evalAll evalsA evalOpt ofValue ofCell plain binA_eql_pn binA_neq_pn binA_gtr binA_lss binA_geq binA_leq binA_add binA_sub binA_eql binA_neq binA_or binA_shl binA_shr binA_mul binA_quo binA_rem binA_agg_eql binA_agg_neq convA_int unA_not fieldAddrA loadA partA pickA_true pickA_false pickA_bb lenA builtinA storeA splice AV.cells AV.isCell sliceA boundA intA callOf indexAddrA newObjA buildA fillA zeroA ofCells buildSliceA indexA fieldA coinsC_at coinC List.getElem?_cons_zero List.getElem?_cons_succ

set_option maxHeartbeats 1600000 in
attribute [local simp] undefA List.getElem?_cons_zero List.getElem?_cons_succ numA in
theorem zero_ok {σ : St} {x : Num} : CallsA Try.prog 79 [.agg (numA x.v)] σ (fun av σ' => av = .v (.bool (decide (x.v = 0))) ∧ σ = σ') := by
  have hz : decide (x.v = 0) = (((limb x.v 0 : Int) == 0) && ((limb x.v 1 : Int) == 0) && ((limb x.v 2 : Int) == 0) && ((limb x.v 3 : Int) == 0)) := by
    rw [← cellsEq_num0]
    simp [numA, cellsEqA, Bool.and_assoc]
  rw [hz]
  refine callsA_gcS ?_ rfl
  have F := True.intro
  refine callsA_body Try.func79 rfl rfl rfl ?_
  refine sq fun K1 hK1 => ?_
  refine rg' (h := fun J2 hJ2 => ?_)
  refine hJ2 _ _ ?_
  refine hK1 _ _ ?_
  refine sq fun K3 hK3 => ?_
  refine rg' (h := fun J4 hJ4 => ?_)
  refine gs 6 (fun g1_3 => ?_) (fun g1_3 => ?_)
  · try exact nope g1_3
    all_goals have g1_3p := g1_3
    all_goals try simp [F] at g1_3p
    all_goals
     replace F := And.intro g1_3 F
     try replace F := And.intro g1_3p F
     refine go2 (k := ?_)
     refine go2 (k := ?_)
     refine go2 (k := ?_)
     refine gs 11 (fun g1_8 => ?_) (fun g1_8 => ?_)
     · try exact nope g1_8
       all_goals have g1_8p := g1_8
       all_goals try simp [F] at g1_8p
       all_goals
        replace F := And.intro g1_8 F
        try replace F := And.intro g1_8p F
        refine go2 (k := ?_)
        refine go2 (k := ?_)
        refine go2 (k := ?_)
        refine gs 16 (fun g1_13 => ?_) (fun g1_13 => ?_)
        · try exact nope g1_13
          all_goals have g1_13p := g1_13
          all_goals try simp [F] at g1_13p
          all_goals
           replace F := And.intro g1_13 F
           try replace F := And.intro g1_13p F
           refine go2 (k := ?_)
           refine go2 (k := ?_)
           refine go2 (k := ?_)
           refine hJ4 _ _ ?_
           refine hK3 _ _ ?_
           refine run_ret ?_
           try simp only [Then, InBlock, NoGoto]
           refine answer_tmp rfl (.inr rfl) ?_
           exact gcr
        try exact nope g1_13
        all_goals have g1_13p := g1_13
        all_goals try simp [F] at g1_13p
        all_goals
         replace F := And.intro g1_13 F
         try replace F := And.intro g1_13p F
         refine no2 (k := ?_)
         refine no2 (k := ?_)
         refine no2 (k := ?_)
         refine hJ4 _ _ ?_
         refine hK3 _ _ ?_
         refine run_ret ?_
         try simp only [Then, InBlock, NoGoto]
         refine answer_tmp rfl (.inr rfl) ?_
         exact gcr
     try exact nope g1_8
     all_goals have g1_8p := g1_8
     all_goals try simp [F] at g1_8p
     all_goals
      replace F := And.intro g1_8 F
      try replace F := And.intro g1_8p F
      refine no2 (k := ?_)
      refine no2 (k := ?_)
      refine no2 (k := ?_)
      refine no2 (k := ?_)
      refine no2 (k := ?_)
      refine no2 (k := ?_)
      refine hJ4 _ _ ?_
      refine hK3 _ _ ?_
      refine run_ret ?_
      try simp only [Then, InBlock, NoGoto]
      refine answer_tmp rfl (.inr rfl) ?_
      exact gcr
  try exact nope g1_3
  all_goals have g1_3p := g1_3
  all_goals try simp [F] at g1_3p
  all_goals
   replace F := And.intro g1_3 F
   try replace F := And.intro g1_3p F
   refine no2 (k := ?_)
   refine no2 (k := ?_)
   refine no2 (k := ?_)
   refine no2 (k := ?_)
   refine no2 (k := ?_)
   refine no2 (k := ?_)
   refine no2 (k := ?_)
   refine no2 (k := ?_)
   refine no2 (k := ?_)
   refine hJ4 _ _ ?_
   refine hK3 _ _ ?_
   refine run_ret ?_
   try simp only [Then, InBlock, NoGoto]
   refine answer_tmp rfl (.inr rfl) ?_
   exact gcr

theorem right_no {l : List Coin} {k : Nat} (h : k < l.length) (hn : 8 ≤ l[k].d.toNat ∨ l[k].n.v = 0 ∨ ∃ j, ∃ e : k = j + 1, l[k].d.toNat ≤ (l[j]'(by omega)).d.toNat) : ¬ Right l := by
  intro hr
  have h1 := hr.1 l[k] (List.getElem_mem h)
  rcases hn with hn | hn | ⟨j, rfl, hn⟩
  · omega
  · exact h1.2 hn
  · have := List.pairwise_iff_getElem.1 hr.2 j (j + 1) (by omega) h (by omega)
    omega
theorem right_next {l : List Coin} {j : Nat} (h : j + 1 < l.length) (h1 : l[j + 1].d.toNat < 8) (h2 : ¬ l[j + 1].n.v = 0) (h3 : (l[j]'(by omega)).d.toNat < l[j + 1].d.toNat) (hR : Right (l.take (j + 1))) : Right (l.take (j + 1 + 1)) := by
  rw [take_snoc h, right_snoc]
  refine ⟨hR, ⟨h1, h2⟩, right_last hR ?_ h3⟩
  rw [take_snoc (by omega : j < l.length), List.getLast?_append]; rfl
theorem right_first {l : List Coin} (h : 0 < l.length) (h1 : l[0].d.toNat < 8) (h2 : ¬ l[0].n.v = 0) : Right (l.take 1) := by
  have := take_snoc h
  rw [Nat.zero_add] at this
  rw [this, right_snoc]
  exact ⟨by simpa using Go.Vm.right_nil, ⟨h1, h2⟩, by simp⟩

set_option maxHeartbeats 1600000 in
attribute [local simp] undefA List.getElem?_cons_zero List.getElem?_cons_succ in
theorem right_ok {σ : St} {l : List Coin} {tl : Tail} (hl : l.length ≤ 9223372036854775807) : CallsA Try.prog 97 [.sl 5 (coinsC l) l.length tl] σ (fun av σ' => av = .v (.bool (decide (Right l))) ∧ σ = σ') := by
  refine callsA_gcS ?_ rfl
  have F := True.intro
  refine callsA_body Try.func97 rfl rfl rfl ?_
  refine sq fun K1 hK1 => ?_
  refine rg' (h := fun J2 hJ2 => ?_)
  refine hJ2 _ _ ?_
  refine hK1 _ _ ?_
  refine sq fun K3 hK3 => ?_
  refine sq fun K4 hK4 => ?_
  refine rg' (h := fun J5 hJ5 => ?_)
  refine hJ5 _ _ ?_
  refine hK4 _ _ ?_
  refine run_block_k ?_
  refine run_loopG (X := Nat) [0, 5, 6] (fun k ρ σ1 => (k ≤ l.length) ∧ (Right (l.take k)) ∧ (ρ 7 = .v (.int .i64 k)) ∧ (σ1 = σ)) (fun k => l.length - k) (0) ?st1 ?rd1
  case st1 =>
   refine ⟨lp, ?_, lp, lp⟩
   · simpa using Go.Vm.right_nil
  case rd1 =>
   rintro k ρ1 σ1 hF1 ⟨hk, hR, h7, hs⟩
   obtain rfl := hs.symm
   have f1 := keepL hF1
   try simp [KeepL, F] at f1
   replace F := And.intro h7 F
   try replace F := And.intro f1 F
   refine sq fun K6 hK6 => ?_
   refine rg' (h := fun J7 hJ7 => ?_)
   refine hJ7 _ _ ?_
   refine hK6 _ _ ?_
   refine sq fun K8 hK8 => ?_
   refine cs (fun c8 => ?_) (fun c8 => ?_)
   · try exact nope c8
     all_goals have c8p := c8
     all_goals try simp [F] at c8p
     all_goals
      replace F := And.intro c8 F
      try replace F := And.intro c8p F
      refine run_skip ?_
      refine hK8 _ _ ?_
      refine sq fun K9 hK9 => ?_
      refine run_block_k ?_
      refine sq fun K10 hK10 => ?_
      refine rg' (h := fun J11 hJ11 => ?_)
      refine hJ11 _ _ ?_
      refine hK10 _ _ ?_
      refine sq fun K12 hK12 => ?_
      refine run_draw (by kernel_rfl) fun J13 hJ13 => ?_
      refine rp2 0 (k := ?_)
      refine rp2 1 (k := ?_)
      refine rp2 2 (k := ?_)
      refine rp2 3 (k := ?_)
      refine gd 15 (fun g4_3 => ?_) (fun g4_3 => ?_)
      · try exact nope g4_3
        all_goals have g4_3p := g4_3
        all_goals try simp [F] at g4_3p
        all_goals
         replace F := And.intro g4_3 F
         try replace F := And.intro g4_3p F
         refine rp2 4 (k := ?_)
         refine rp2 5 (k := ?_)
         refine rp2 6 (k := ?_)
         refine rp2 7 (k := ?_)
         refine rp2 8 (k := ?_)
         refine rp2 9 (k := ?_)
         refine rp2 10 (k := ?_)
         refine rp2 11 (k := ?_)
         refine rp2 12 (k := ?_)
         refine rp2 13 (k := ?_)
         refine rp2 14 (k := ?_)
         refine rp2 15 (k := ?_)
         refine rp2 16 (k := ?_)
         refine rp2 17 (k := ?_)
         refine rp2 18 (k := ?_)
         refine rp2 19 (k := ?_)
         refine rp2 20 (k := ?_)
         refine rp2 21 (k := ?_)
         refine rp2 22 (k := ?_)
         refine rp2 23 (k := ?_)
         refine dd ?_
         refine hJ13 _ _ ?_
         refine hK12 _ _ ?_
         refine ct ?_
         refine sq fun K14 hK14 => ?_
         refine rg' (h := fun J15 hJ15 => ?_)
         refine hJ15 _ _ ?_
         refine hK14 _ _ ?_
         refine run_ret ?_
         try simp only [Then, InBlock, NoGoto]
         refine answer_tmp rfl (.inr rfl) ?_
         have hn : ¬ Right l := right_no c8p (.inl (by omega))
         exact gcr
      try exact nope g4_3
      all_goals have g4_3p := g4_3
      all_goals try simp [F] at g4_3p
      all_goals
       replace F := And.intro g4_3 F
       try replace F := And.intro g4_3p F
       refine rp2 4 (k := ?_)
       refine rp2 5 (k := ?_)
       refine rp2 6 (k := ?_)
       refine rp2 7 (k := ?_)
       refine rp2 8 (k := ?_)
       refine rp2 9 (k := ?_)
       refine gd 21 (fun g4_9 => ?_) (fun g4_9 => ?_)
       · try exact nope g4_9
         all_goals have g4_9p := g4_9
         all_goals try simp [F] at g4_9p
         all_goals
          replace F := And.intro g4_9 F
          try replace F := And.intro g4_9p F
          refine rp2 10 (k := ?_)
          refine rp2 11 (k := ?_)
          refine rp2 12 (k := ?_)
          refine rp2 13 (k := ?_)
          refine rp2 14 (k := ?_)
          refine rp2 15 (k := ?_)
          refine rp2 16 (k := ?_)
          refine rp2 17 (k := ?_)
          refine rp2 18 (k := ?_)
          refine rp2 19 (k := ?_)
          refine rp2 20 (k := ?_)
          refine rp2 21 (k := ?_)
          refine rp2 22 (k := ?_)
          refine rp2 23 (k := ?_)
          refine dd ?_
          refine hJ13 _ _ ?_
          refine hK12 _ _ ?_
          refine ct ?_
          refine sq fun K16 hK16 => ?_
          refine rg' (h := fun J17 hJ17 => ?_)
          refine hJ17 _ _ ?_
          refine hK16 _ _ ?_
          refine run_ret ?_
          try simp only [Then, InBlock, NoGoto]
          refine answer_tmp rfl (.inr rfl) ?_
          have hn : ¬ Right l := right_no c8p (.inr (.inl g4_9p))
          exact gcr
       try exact nope g4_9
       all_goals have g4_9p := g4_9
       all_goals try simp [F] at g4_9p
       all_goals
        replace F := And.intro g4_9 F
        try replace F := And.intro g4_9p F
        refine rp2 10 (k := ?_)
        refine rp2 11 (k := ?_)
        refine rp2 12 (k := ?_)
        refine gd 24 (fun g4_12 => ?_) (fun g4_12 => ?_)
        · try exact nope g4_12
          all_goals have g4_12p := g4_12
          all_goals try simp [F] at g4_12p
          all_goals
           replace F := And.intro g4_12 F
           try replace F := And.intro g4_12p F
           obtain ⟨j, rfl⟩ : ∃ j, k = j + 1 := ⟨k - 1, by omega⟩
           refine rp2 13 (k := ?_)
           refine rp2 14 (k := ?_)
           refine rp2 15 (k := ?_)
           refine rp2 16 (k := ?_)
           refine rp2 17 (k := ?_)
           refine rp2 18 (k := ?_)
           refine rp2 19 (k := ?_)
           refine rp2 20 (k := ?_)
           refine rp2 21 (k := ?_)
           refine rp2 22 (k := ?_)
           refine rp2 23 (k := ?_)
           refine dd ?_
           refine hJ13 _ _ ?_
           refine hK12 _ _ ?_
           refine cs (fun c35 => ?_) (fun c35 => ?_)
           · try exact nope c35
             all_goals have c35p := c35
             all_goals try simp [F] at c35p
             all_goals
              replace F := And.intro c35 F
              try replace F := And.intro c35p F
              refine sq fun K18 hK18 => ?_
              refine rg' (h := fun J19 hJ19 => ?_)
              refine hJ19 _ _ ?_
              refine hK18 _ _ ?_
              refine run_ret ?_
              try simp only [Then, InBlock, NoGoto]
              refine answer_tmp rfl (.inr rfl) ?_
              have hn : ¬ Right l := right_no c8p (.inr (.inr ⟨j, rfl, c35p⟩))
              exact gcr
           try exact nope c35
           all_goals have c35p := c35
           all_goals try simp [F] at c35p
           all_goals
            replace F := And.intro c35 F
            try replace F := And.intro c35p F
            refine run_skip ?_
            refine hK9 _ _ ?_
            refine rg' (h := fun J20 hJ20 => ?_)
            refine hJ20 _ _ ?_
            refine ⟨gk, (j + 1 + 1), ⟨kpG, lpG, ?_, lpG, lpG⟩, lpG⟩
            · exact right_next c8p (by omega) g4_9p c35p hR
        try exact nope g4_12
        all_goals have g4_12p := g4_12
        all_goals try simp [F] at g4_12p
        all_goals
         replace F := And.intro g4_12 F
         try replace F := And.intro g4_12p F
         obtain rfl : k = 0 := by omega
         refine rp2 13 (k := ?_)
         refine rp2 14 (k := ?_)
         refine rp2 15 (k := ?_)
         refine rp2 16 (k := ?_)
         refine rp2 17 (k := ?_)
         refine rp2 18 (k := ?_)
         refine rp2 19 (k := ?_)
         refine rp2 20 (k := ?_)
         refine rp2 21 (k := ?_)
         refine rp2 22 (k := ?_)
         refine rp2 23 (k := ?_)
         refine dd ?_
         refine hJ13 _ _ ?_
         refine hK12 _ _ ?_
         refine cf ?_
         refine run_skip ?_
         refine hK9 _ _ ?_
         refine rg' (h := fun J21 hJ21 => ?_)
         refine hJ21 _ _ ?_
         refine ⟨gk, (1), ⟨kpG, lpG, ?_, lpG, lpG⟩, lpG⟩
         · exact right_first c8p (by omega) g4_9p
   try exact nope c8
   all_goals have c8p := c8
   all_goals try simp [F] at c8p
   all_goals
    replace F := And.intro c8 F
    try replace F := And.intro c8p F
    refine run_exit ?_
    refine hK3 _ _ ?_
    refine sq fun K22 hK22 => ?_
    refine rg' (h := fun J23 hJ23 => ?_)
    refine hJ23 _ _ ?_
    refine hK22 _ _ ?_
    refine run_ret ?_
    try simp only [Then, InBlock, NoGoto]
    refine answer_tmp rfl (.inr rfl) ?_
    have hn : Right l := by rw [List.take_of_length_le c8p] at hR; exact hR
    exact gcr

set_option maxHeartbeats 1600000 in
attribute [local simp] undefA List.getElem?_cons_zero List.getElem?_cons_succ in
theorem rright_ok {σ : St} {l : List Coin} {tl : Tail} (hl : l.length ≤ 9223372036854775807) : CallsA Try.prog 29 [.sl 5 (coinsC l) l.length tl] σ (fun av σ' => av = .v (.bool (decide (Right l))) ∧ σ = σ') := by
  have F := True.intro
  refine callsA_body Try.func29 rfl rfl rfl ?_
  refine sq fun K1 hK1 => ?_
  refine rg' (h := fun J2 hJ2 => ?_)
  refine hJ2 _ _ ?_
  refine hK1 _ _ ?_
  refine sq fun K3 hK3 => ?_
  refine sq fun K4 hK4 => ?_
  refine rg' (h := fun J5 hJ5 => ?_)
  refine hJ5 _ _ ?_
  refine hK4 _ _ ?_
  refine run_block_k ?_
  refine run_loopF (X := Nat) [0] (fun i ρ σ1 => (i ≤ l.length) ∧ (Right (l.take i)) ∧ (ρ 3 = .v (.int .i64 i)) ∧ (σ1 = σ)) (fun i => l.length - i) (0) ?st1 ?rd1
  case st1 =>
   refine ⟨lp, ?_, lp, lp⟩
   · simpa using Go.Vm.right_nil
  case rd1 =>
   rintro i ρ1 σ1 hF1 ⟨hi, hR, h3, hs⟩
   obtain rfl := hs.symm
   have f1 := keepL hF1
   try simp [KeepL, F] at f1
   replace F := And.intro h3 F
   try replace F := And.intro f1 F
   refine sq fun K6 hK6 => ?_
   refine sq fun K7 hK7 => ?_
   refine rg' (h := fun J8 hJ8 => ?_)
   refine hJ8 _ _ ?_
   refine hK7 _ _ ?_
   refine cs (fun c8 => ?_) (fun c8 => ?_)
   · try exact nope c8
     all_goals have c8p := c8
     all_goals try simp [F] at c8p
     all_goals
      replace F := And.intro c8 F
      try replace F := And.intro c8p F
      refine run_skip ?_
      refine hK6 _ _ ?_
      refine sq fun K9 hK9 => ?_
      refine run_block_k ?_
      refine sq fun K10 hK10 => ?_
      refine sq fun K11 hK11 => ?_
      refine rg' (h := fun J12 hJ12 => ?_)
      refine gs 17 (fun g4_6 => ?_) (fun g4_6 => ?_)
      · try exact nope g4_6
        all_goals have g4_6p := g4_6
        all_goals try simp [F] at g4_6p
        all_goals
         replace F := And.intro g4_6 F
         try replace F := And.intro g4_6p F
         refine no2 (k := ?_)
         refine no2 (k := ?_)
         refine no2 (k := ?_)
         refine no2 (k := ?_)
         refine no2 (k := ?_)
         refine no2 (k := ?_)
         refine hJ12 _ _ ?_
         refine hK11 _ _ ?_
         refine ct ?_
         refine sq fun K13 hK13 => ?_
         refine rg' (h := fun J14 hJ14 => ?_)
         refine hJ14 _ _ ?_
         refine hK13 _ _ ?_
         refine run_ret ?_
         try simp only [Then, InBlock, NoGoto]
         refine answer_tmp rfl (.inr rfl) ?_
         have hn : ¬ Right l := right_no c8p (.inl (by omega))
         exact rt
      try exact nope g4_6
      all_goals have g4_6p := g4_6
      all_goals try simp [F] at g4_6p
      all_goals
       replace F := And.intro g4_6 F
       try replace F := And.intro g4_6p F
       refine go2 (k := ?_)
       refine go2 (k := ?_)
       refine go2 (k := ?_)
       refine go2 (k := ?_)
       refine go2 (k := ?_)
       refine ca (c := zero_ok) (k := ?_)
       rintro _ _ ⟨rfl, rfl⟩
       repeat (first | simp [F] | simp (disch := omega) only [wC, if_pos, if_neg])
       refine hJ12 _ _ ?_
       refine hK11 _ _ ?_
       refine cs (fun c24 => ?_) (fun c24 => ?_)
       · try exact nope c24
         all_goals have c24p := c24
         all_goals try simp [F] at c24p
         all_goals
          replace F := And.intro c24 F
          try replace F := And.intro c24p F
          refine sq fun K15 hK15 => ?_
          refine rg' (h := fun J16 hJ16 => ?_)
          refine hJ16 _ _ ?_
          refine hK15 _ _ ?_
          refine run_ret ?_
          try simp only [Then, InBlock, NoGoto]
          refine answer_tmp rfl (.inr rfl) ?_
          have hn : ¬ Right l := right_no c8p (.inr (.inl c24p))
          exact rt
       try exact nope c24
       all_goals have c24p := c24
       all_goals try simp [F] at c24p
       all_goals
        replace F := And.intro c24 F
        try replace F := And.intro c24p F
        refine run_skip ?_
        refine hK10 _ _ ?_
        refine sq fun K17 hK17 => ?_
        refine rg' (h := fun J18 hJ18 => ?_)
        refine hJ18 _ _ ?_
        refine hK17 _ _ ?_
        refine run_block_k ?_
        refine run_loopF (X := Nat) [0, 3, 5, 6, 7, 8, 11, 12, 13, 14, 15, 16, 17, 18, 19, 20, 21, 22, 23, 24] (fun k ρ σ1 => (k ≤ i) ∧ (∀ b ∈ l.take k, b.d.toNat < l[i].d.toNat) ∧ (ρ 4 = .v (.int .i64 k)) ∧ (σ1 = σ)) (fun k => i - k) (0) ?st2 ?rd2
        case st2 =>
         refine ⟨lp, lp, lp, lp⟩
        case rd2 =>
         rintro k ρ2 σ1 hF2 ⟨hk, hB, h4, hs⟩
         obtain rfl := hs.symm
         have f2 := keepL hF2
         try simp [KeepL, F] at f2
         replace F := And.intro h4 F
         try replace F := And.intro f2 F
         refine sq fun K19 hK19 => ?_
         refine sq fun K20 hK20 => ?_
         refine rg' (h := fun J21 hJ21 => ?_)
         refine hJ21 _ _ ?_
         refine hK20 _ _ ?_
         refine cs (fun c27 => ?_) (fun c27 => ?_)
         · try exact nope c27
           all_goals have c27p := c27
           all_goals try simp [F] at c27p
           all_goals
            replace F := And.intro c27 F
            try replace F := And.intro c27p F
            refine run_skip ?_
            refine hK19 _ _ ?_
            refine sq fun K22 hK22 => ?_
            refine run_block_k ?_
            refine sq fun K23 hK23 => ?_
            refine run_draw (by kernel_rfl) fun J24 hJ24 => ?_
            refine rp2 0 (k := ?_)
            refine rp2 1 (k := ?_)
            refine rp2 2 (k := ?_)
            refine rp2 3 (k := ?_)
            refine rp2 4 (k := ?_)
            refine rp2 5 (k := ?_)
            refine rp2 6 (k := ?_)
            refine rp2 7 (k := ?_)
            refine rp2 8 (k := ?_)
            refine rp2 9 (k := ?_)
            refine rp2 10 (k := ?_)
            refine dd ?_
            refine hJ24 _ _ ?_
            refine hK23 _ _ ?_
            refine cs (fun c40 => ?_) (fun c40 => ?_)
            · try exact nope c40
              all_goals have c40p := c40
              all_goals try simp [F] at c40p
              all_goals
               replace F := And.intro c40 F
               try replace F := And.intro c40p F
               refine sq fun K25 hK25 => ?_
               refine rg' (h := fun J26 hJ26 => ?_)
               refine hJ26 _ _ ?_
               refine hK25 _ _ ?_
               refine run_ret ?_
               try simp only [Then, InBlock, NoGoto]
               refine answer_tmp rfl (.inr rfl) ?_
               have hn : ¬ Right l := fun hr => by have := List.pairwise_iff_getElem.1 hr.2 k i (by omega) c8p c27p; omega
               exact rt
            try exact nope c40
            all_goals have c40p := c40
            all_goals try simp [F] at c40p
            all_goals
             replace F := And.intro c40 F
             try replace F := And.intro c40p F
             refine run_skip ?_
             refine hK22 _ _ ?_
             refine rg' (h := fun J27 hJ27 => ?_)
             refine hJ27 _ _ ?_
             refine ⟨(k + 1), ⟨kp, lp, ?_, lp, lp⟩, lp⟩
             · rw [take_snoc (by omega : k < l.length)]
               intro b hb
               rcases List.mem_append.1 hb with h | h
               · exact hB b h
               · simp at h; subst h; exact c40p
         try exact nope c27
         all_goals have c27p := c27
         all_goals try simp [F] at c27p
         all_goals
          replace F := And.intro c27 F
          try replace F := And.intro c27p F
          refine run_exit ?_
          refine hK9 _ _ ?_
          refine rg' (h := fun J28 hJ28 => ?_)
          refine hJ28 _ _ ?_
          refine ⟨(i + 1), ⟨kp, lp, ?_, lp, lp⟩, lp⟩
          · rw [take_snoc c8p, right_snoc]
            exact ⟨hR, ⟨by omega, c24p⟩, by rwa [show k = i by omega] at hB⟩
   try exact nope c8
   all_goals have c8p := c8
   all_goals try simp [F] at c8p
   all_goals
    replace F := And.intro c8 F
    try replace F := And.intro c8p F
    refine run_exit ?_
    refine hK3 _ _ ?_
    refine sq fun K29 hK29 => ?_
    refine rg' (h := fun J30 hJ30 => ?_)
    refine hJ30 _ _ ?_
    refine hK29 _ _ ?_
    refine run_ret ?_
    try simp only [Then, InBlock, NoGoto]
    refine answer_tmp rfl (.inr rfl) ?_
    have hn : Right l := by rw [List.take_of_length_le c8p] at hR; exact hR
    exact rt

set_option maxHeartbeats 1600000 in
attribute [local simp] undefA List.getElem?_cons_zero List.getElem?_cons_succ in
theorem rsame_ok {σ : St} {l m : List Coin} {t1 t2 : Tail} (hl : l.length ≤ 9223372036854775807) (hm : m.length ≤ 9223372036854775807) : CallsA Try.prog 22 [.sl 5 (coinsC l) l.length t1, .sl 5 (coinsC m) m.length t2] σ (fun av σ' => av = .v (.bool (decide (l = m))) ∧ σ = σ') := by
  have F := True.intro
  refine callsA_body Try.func22 rfl rfl rfl ?_
  refine sq fun K1 hK1 => ?_
  refine rg' (h := fun J2 hJ2 => ?_)
  refine hJ2 _ _ ?_
  refine hK1 _ _ ?_
  refine sq fun K3 hK3 => ?_
  refine sq fun K4 hK4 => ?_
  refine rg' (h := fun J5 hJ5 => ?_)
  refine hJ5 _ _ ?_
  refine hK4 _ _ ?_
  refine cs (fun c10 => ?_) (fun c10 => ?_)
  · try exact nope c10
    all_goals have c10p := c10
    all_goals try simp [F] at c10p
    all_goals
     replace F := And.intro c10 F
     try replace F := And.intro c10p F
     refine sq fun K6 hK6 => ?_
     refine rg' (h := fun J7 hJ7 => ?_)
     refine hJ7 _ _ ?_
     refine hK6 _ _ ?_
     refine run_ret ?_
     try simp only [Then, InBlock, NoGoto]
     refine answer_tmp rfl (.inr rfl) ?_
     have hn : ¬ l = m := by rintro rfl; omega
     exact rt
  try exact nope c10
  all_goals have c10p := c10
  all_goals try simp [F] at c10p
  all_goals
   replace F := And.intro c10 F
   try replace F := And.intro c10p F
   refine run_skip ?_
   refine hK3 _ _ ?_
   refine sq fun K8 hK8 => ?_
   refine sq fun K9 hK9 => ?_
   refine rg' (h := fun J10 hJ10 => ?_)
   refine hJ10 _ _ ?_
   refine hK9 _ _ ?_
   refine run_block_k ?_
   refine run_loopF (X := Nat) [0, 1] (fun i ρ σ1 => (i ≤ l.length) ∧ (l.take i = m.take i) ∧ (ρ 5 = .v (.int .i64 i)) ∧ (σ1 = σ)) (fun i => l.length - i) (0) ?st1 ?rd1
   case st1 =>
    refine ⟨lp, lp, lp, lp⟩
   case rd1 =>
    rintro i ρ1 σ1 hF1 ⟨hi, hE, h5, hs⟩
    obtain rfl := hs.symm
    have f1 := keepL hF1
    try simp [KeepL, F] at f1
    replace F := And.intro h5 F
    try replace F := And.intro f1 F
    refine sq fun K11 hK11 => ?_
    refine sq fun K12 hK12 => ?_
    refine rg' (h := fun J13 hJ13 => ?_)
    refine hJ13 _ _ ?_
    refine hK12 _ _ ?_
    refine cs (fun c14 => ?_) (fun c14 => ?_)
    · try exact nope c14
      all_goals have c14p := c14
      all_goals try simp [F] at c14p
      all_goals
       replace F := And.intro c14 F
       try replace F := And.intro c14p F
       refine run_skip ?_
       refine hK11 _ _ ?_
       refine sq fun K14 hK14 => ?_
       refine run_block_k ?_
       refine sq fun K15 hK15 => ?_
       refine run_draw (by kernel_rfl) fun J16 hJ16 => ?_
       refine rp2 0 (k := ?_)
       refine rp2 1 (k := ?_)
       refine rp2 2 (k := ?_)
       refine rp2 3 (k := ?_)
       refine rp2 4 (k := ?_)
       refine rp2 5 (k := ?_)
       refine rp2 6 (k := ?_)
       refine rp2 7 (k := ?_)
       refine rp2 8 (k := ?_)
       refine dd ?_
       refine hJ16 _ _ ?_
       refine hK15 _ _ ?_
       refine cs (fun c25 => ?_) (fun c25 => ?_)
       · try exact nope c25
         all_goals have c25p := c25
         all_goals try simp [F] at c25p
         all_goals
          replace F := And.intro c25 F
          try replace F := And.intro c25p F
          refine sq fun K17 hK17 => ?_
          refine rg' (h := fun J18 hJ18 => ?_)
          refine hJ18 _ _ ?_
          refine hK17 _ _ ?_
          refine run_ret ?_
          try simp only [Then, InBlock, NoGoto]
          refine answer_tmp rfl (.inr rfl) ?_
          have hn : ¬ l = m := by rintro rfl; simp at c25p
          exact rt
       try exact nope c25
       all_goals have c25p := c25
       all_goals try simp [F] at c25p
       all_goals
        replace F := And.intro c25 F
        try replace F := And.intro c25p F
        refine run_skip ?_
        refine hK14 _ _ ?_
        refine rg' (h := fun J19 hJ19 => ?_)
        refine hJ19 _ _ ?_
        refine ⟨(i + 1), ⟨kp, lp, ?_, lp, lp⟩, lp⟩
        · rw [take_snoc (by omega : i < l.length), take_snoc (by omega : i < m.length), hE, c25p]
    try exact nope c14
    all_goals have c14p := c14
    all_goals try simp [F] at c14p
    all_goals
     replace F := And.intro c14 F
     try replace F := And.intro c14p F
     refine run_exit ?_
     refine hK8 _ _ ?_
     refine sq fun K20 hK20 => ?_
     refine rg' (h := fun J21 hJ21 => ?_)
     refine hJ21 _ _ ?_
     refine hK20 _ _ ?_
     refine run_ret ?_
     try simp only [Then, InBlock, NoGoto]
     refine answer_tmp rfl (.inr rfl) ?_
     have hn : l = m := by rw [← List.take_of_length_le (l := l) (i := i) (by omega), ← List.take_of_length_le (l := m) (i := i) (by omega), hE]
     exact rt

end Go.Proofs.Ytdbaddholggkbaa
