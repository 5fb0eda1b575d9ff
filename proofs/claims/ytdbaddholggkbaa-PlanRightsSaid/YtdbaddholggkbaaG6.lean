import Derived.Test.YtdbaddholggkbaaVmU
import Derived.Test.YtdbaddholggkbaaG5
/-
  Numbers: a product by a number; coins.
-/
namespace Go.Proofs.Ytdbaddholggkbaa
set_option linter.unnecessarySimpa false
set_option maxRecDepth 100000
set_option exponentiation.threshold 600
open Go Go.Vm
set_option linter.unusedSimpArgs false
set_option linter.unusedVariables false

attribute [local simp] evalL wantedA isCall opA evalA evalAll evalsA evalOpt ofValue ofCell plain binA_eql_pn binA_neq_pn binA_gtr binA_lss binA_geq binA_leq binA_add binA_sub binA_eql binA_neq binA_orI binA_andI binA_shl binA_shr binA_mul binA_quo binA_rem binA_agg_eql binA_agg_neq convA_int unA_not fieldAddrA loadA partA pickA_true pickA_false pickA_bb lenA builtinA storeA splice AV.cells AV.isCell sliceA boundA intA callOf indexAddrA newObjA buildA fillA zeroA ofCells buildSliceA indexA fieldA numA_len4 numA_take4 numA_drop4 set_appN get_appN List.getElem?_cons_zero List.getElem?_cons_succ

/-- A product by a number, rounded down or up. -/
def mdQ (a b c : Nat) (up : Bool) : Nat := a * b / c + (if up = true ∧ a * b % c ≠ 0 then 1 else 0)
def mdN (a b c : Nat) (up : Bool) : Nat := if c = 0 then 0 else if mdQ a b c up < 2 ^ 256 then mdQ a b c up else 0
def mdE (a b c : Nat) (up : Bool) : Nat := if c = 0 then 1 else if mdQ a b c up < 2 ^ 256 then 0 else 2

theorem mdN_lt (a b c : Nat) (up : Bool) : mdN a b c up < 2 ^ 256 := by
  unfold mdN; split
  · decide
  · split
    · assumption
    · decide

theorem prod_lt {a b : Nat} (ha : a < 2 ^ 256) (hb : b < 2 ^ 256) : a * b < 2 ^ 512 := by
  have : a * b < 2 ^ 256 * 2 ^ 256 := Nat.mul_lt_mul'' ha hb
  rwa [← Nat.pow_add] at this

theorem md_over {a b c : Nat} {up : Bool} (h0 : ¬ c = 0) (hq : ¬ a * b / c < 2 ^ 256) : mdN a b c up = 0 ∧ mdE a b c up = 2 := by
  have : ¬ mdQ a b c up < 2 ^ 256 := by unfold mdQ; omega
  simp only [mdN, mdE, if_neg h0, if_neg this, and_self]
theorem md_add {a b c : Nat} (h0 : ¬ c = 0) (hr : ¬ a * b % c = 0) : mdN a b c true = addN (a * b / c) 1 ∧ mdE a b c true = addE (a * b / c) 1 := by
  have : mdQ a b c true = a * b / c + 1 := by unfold mdQ; rw [if_pos ⟨rfl, hr⟩]
  simp only [mdN, mdE, if_neg h0, this, addN, addE, and_self]
theorem md_plain {a b c : Nat} {up : Bool} (h0 : ¬ c = 0) (hq : a * b / c < 2 ^ 256) (h : up = false ∨ a * b % c = 0) : mdN a b c up = a * b / c ∧ mdE a b c up = 0 := by
  have : mdQ a b c up = a * b / c := by
    unfold mdQ; rw [if_neg]; omega
    rintro ⟨h1, h2⟩; rcases h with h | h
    · rw [h] at h1; cases h1
    · exact h2 h
  simp only [mdN, mdE, if_neg h0, this, if_pos hq, and_self]

set_option maxHeartbeats 1600000 in
attribute [local simp] undefA List.getElem?_cons_zero List.getElem?_cons_succ prodA_take8 prodA_drop8 prodA_len fitsK prodA_zero numA_zero4 in
theorem muldiv_ok {σ : St} {a b c : Nat} {up : Bool} (ha : a < 2 ^ 256) (hb : b < 2 ^ 256) (hc : c < 2 ^ 256) :
    CallsA Try.prog 66 [.agg (numA a), .agg (numA b), .agg (numA c), .v (.bool up)] σ (fun av σ' => av = .tup [.agg (numA (mdN a b c up)), .v (.int .i64 (mdE a b c up : Nat))] ∧ σ = σ') := by
  refine callsA_gcS ?_ (by simp [AV.under, underL, numA])
  have hcq : cellsEqA (numA c) [.v (.int .u64 0), .v (.int .u64 0), .v (.int .u64 0), .v (.int .u64 0)] = decide (c = 0) := cellsEq_num0 (x := ⟨c, hc⟩)
  have hfn : ∀ x, fitsK [some .u64, some .u64, some .u64, some .u64] (numA x) = true := fun x => rfl
  have hP := prod_lt ha hb
  have hz0 : cellsEqA (numA 0) (numA 0) = true := rfl
  rw [numA_zero4] at hz0
  have hqP : a * b / c < 2 ^ 512 := Nat.lt_of_le_of_lt (Nat.div_le_self _ _) hP
  have F := And.intro hz0 (And.intro hcq (And.intro hfn (True.intro)))
  refine callsA_body Try.func66 rfl rfl rfl ?_
  refine sq fun K1 hK1 => ?_
  refine rg' (h := fun J2 hJ2 => ?_)
  refine hJ2 _ _ ?_
  refine hK1 _ _ ?_
  refine sq fun K3 hK3 => ?_
  refine sq fun K4 hK4 => ?_
  refine rg' (h := fun J5 hJ5 => ?_)
  refine hJ5 _ _ ?_
  refine hK4 _ _ ?_
  refine cs (fun c16 => ?_) (fun c16 => ?_)
  · try exact nope c16
    all_goals have c16p := c16
    all_goals try simp [F] at c16p
    all_goals
     replace F := And.intro c16 F
     try replace F := And.intro c16p F
     have h0 : c = 0 := by simpa using c16
     subst h0
     have e1 : mdN a b 0 up = 0 := by simp [mdN]
     have e2 : mdE a b 0 up = 1 := by simp [mdE]
     replace F := And.intro e1 (And.intro e2 F)
     refine sq fun K6 hK6 => ?_
     refine rg' (h := fun J7 hJ7 => ?_)
     refine hJ7 _ _ ?_
     refine hK6 _ _ ?_
     refine run_ret ?_
     try simp only [Then, InBlock, NoGoto]
     refine acell2 (h := ?_)
     exact gcr
  try exact nope c16
  all_goals have c16p := c16
  all_goals try simp [F] at c16p
  all_goals
   replace F := And.intro c16 F
   try replace F := And.intro c16p F
   have h0 : ¬ c = 0 := by simpa using c16
   refine run_skip ?_
   refine hK3 _ _ ?_
   refine sqc (X := Bool) [3, 8, 9] (fun k ρ σ1 => (ρ 10 = .ptr (σ.objs.length + bif k then 4 else 5) 0) ∧ (ρ 11 = .ptr (σ.objs.length + bif k then 5 else 4) 0) ∧ (σ1 = { σ with objs := σ.objs ++ [numA a, numA b, numA c, numA 0] ++ (bif k then [prodA (a * b / c), numA (a * b % c)] else [numA (a * b % c), prodA (a * b / c)]) })) ?cy8 ?cx8
   case cy8 =>
    rintro k ρCr3 σ1 hFCr3 ⟨h10, h11, hσ⟩
    obtain rfl := hσ.symm
    have fCr3 := keepL hFCr3
    try simp [KeepL, F] at fCr3
    replace F := And.intro h10 F
    replace F := And.intro h11 F
    try replace F := And.intro fCr3 F
    have hov := md_over (a := a) (b := b) (up := up) h0
    have had : up = true → ¬ a * b % c = 0 → mdN a b c up = addN (a * b / c) 1 ∧ mdE a b c up = addE (a * b / c) 1 := fun e hr => by subst e; exact md_add h0 hr
    have hpl := md_plain (a := a) (b := b) (up := up) h0
    by_cases hq : a * b / c < 2 ^ 256 <;> by_cases hr : a * b % c = 0 <;> cases up <;> cases k
    all_goals simp at h10 h11 F
    all_goals simp
    all_goals try replace F := And.intro (hov hq) F
    all_goals try replace F := And.intro (had rfl hr) F
    all_goals try replace F := And.intro (hpl hq (by first | exact .inl rfl | exact .inr hr)) F
    all_goals have hcr : cellsEqA (numA (a * b % c)) [.v (.int .u64 0), .v (.int .u64 0), .v (.int .u64 0), .v (.int .u64 0)] = decide (a * b % c = 0) := cellsEq_num0 (x := ⟨a * b % c, Nat.lt_of_lt_of_le (Nat.mod_lt _ (by omega)) (Nat.le_of_lt hc)⟩)
    all_goals replace F := And.intro hq (And.intro hr (And.intro hcr F))
    all_goals
     refine sq fun K9 hK9 => ?_
     refine rg' (h := fun J10 hJ10 => ?_)
     refine ca (c := low_ok hqP) (k := ?_)
     rintro _ _ ⟨rfl, rfl⟩
     repeat (first | simp [F] | simp (disch := omega) only [wC, if_pos, if_neg])
     refine hJ10 _ _ ?_
     refine hK9 _ _ ?_
     refine sq fun K11 hK11 => ?_
     refine sq fun K12 hK12 => ?_
     refine rg' (h := fun J13 hJ13 => ?_)
     refine gs 33 (fun g5_2 => ?_) (fun g5_2 => ?_)
     · try exact nope g5_2
       all_goals have g5_2p := g5_2
       all_goals try simp [F] at g5_2p
       all_goals
        replace F := And.intro g5_2 F
        try replace F := And.intro g5_2p F
        refine go2 (k := ?_)
        refine gs 36 (fun g5_5 => ?_) (fun g5_5 => ?_)
        · try exact nope g5_5
          all_goals have g5_5p := g5_5
          all_goals try simp [F] at g5_5p
          all_goals
           replace F := And.intro g5_5 F
           try replace F := And.intro g5_5p F
           refine go2 (k := ?_)
           refine go2 (k := ?_)
           refine go2 (k := ?_)
           refine hJ13 _ _ ?_
           refine hK12 _ _ ?_
           refine cs (fun c40 => ?_) (fun c40 => ?_)
           · try exact nope c40
             all_goals have c40p := c40
             all_goals try simp [F] at c40p
             all_goals
              replace F := And.intro c40 F
              try replace F := And.intro c40p F
              refine sq fun K14 hK14 => ?_
              refine run_draw (by kernel_rfl) fun J15 hJ15 => ?_
              refine rp2 0 (k := ?_)
              refine dc 1 rfl (c := nOf_ok (n := 1) (by decide)) (k := ?_)
              rintro _ _ ⟨rfl, rfl⟩
              refine ⟨by first | exact fun _ _ h => h | (refine later_list [0] (by kernel_rfl) (List.forall_mem_cons.2 ⟨fun _ => fact2 rfl rfl ?_, fun _ h => absurd h List.not_mem_nil⟩) <;> constructor <;> first | rfl | (simp [F]; done)), ?_⟩
              repeat (first | simp [F] | simp (disch := omega) only [wC, if_pos, if_neg])
              refine dc 2 rfl (c := nadd_ok (x := a * b / c) (y := 1) hq (by decide)) (k := ?_)
              rintro _ _ ⟨rfl, rfl⟩
              refine ⟨ln, ?_⟩
              repeat (first | simp [F] | simp (disch := omega) only [wC, if_pos, if_neg])
              refine rp2 3 (k := ?_)
              refine rp2 4 (k := ?_)
              refine dop 5 rfl ?_
              repeat (first | simp [F] | simp (disch := omega) only [wC, if_pos, if_neg])
              refine ⟨ln, ?_⟩
              refine rp2 6 (k := ?_)
              refine dd ?_
              refine hJ15 _ _ ?_
              refine hK14 _ _ ?_
              refine run_ret ?_
              try simp only [Then, InBlock, NoGoto]
              refine acell2 (h := ?_)
              exact gcr
           try exact nope c40
           all_goals have c40p := c40
           all_goals try simp [F] at c40p
           all_goals
            replace F := And.intro c40 F
            try replace F := And.intro c40p F
            refine run_skip ?_
            refine hK11 _ _ ?_
            refine sq fun K16 hK16 => ?_
            refine rg' (h := fun J17 hJ17 => ?_)
            refine hJ17 _ _ ?_
            refine hK16 _ _ ?_
            refine run_ret ?_
            try simp only [Then, InBlock, NoGoto]
            refine acell2 (h := ?_)
            exact gcr
        try exact nope g5_5
        all_goals have g5_5p := g5_5
        all_goals try simp [F] at g5_5p
        all_goals
         replace F := And.intro g5_5 F
         try replace F := And.intro g5_5p F
         refine no2 (k := ?_)
         refine no2 (k := ?_)
         refine no2 (k := ?_)
         refine hJ13 _ _ ?_
         refine hK12 _ _ ?_
         refine cf ?_
         refine run_skip ?_
         refine hK11 _ _ ?_
         refine sq fun K18 hK18 => ?_
         refine rg' (h := fun J19 hJ19 => ?_)
         refine hJ19 _ _ ?_
         refine hK18 _ _ ?_
         refine run_ret ?_
         try simp only [Then, InBlock, NoGoto]
         refine acell2 (h := ?_)
         exact gcr
     try exact nope g5_2
     all_goals have g5_2p := g5_2
     all_goals try simp [F] at g5_2p
     all_goals
      replace F := And.intro g5_2 F
      try replace F := And.intro g5_2p F
      refine no2 (k := ?_)
      refine no2 (k := ?_)
      refine no2 (k := ?_)
      refine no2 (k := ?_)
      refine hJ13 _ _ ?_
      refine hK12 _ _ ?_
      refine cf ?_
      refine run_skip ?_
      refine hK11 _ _ ?_
      refine sq fun K20 hK20 => ?_
      refine rg' (h := fun J21 hJ21 => ?_)
      refine hJ21 _ _ ?_
      refine hK20 _ _ ?_
      refine run_ret ?_
      try simp only [Then, InBlock, NoGoto]
      refine acell2 (h := ?_)
      exact gcr
   case cx8 =>
    intro K8 hK8
    refine run_draw (by kernel_rfl) fun J22 hJ22 => ?_
    refine rp2 0 (k := ?_)
    refine rp2 1 (k := ?_)
    refine rp2 3 (k := ?_)
    refine d3 2 8 9 ?_ ?_ ?_
    · refine ac 2 rfl (c := times_ok ha hb) (k := ?_)
      rintro _ _ ⟨rfl, rfl⟩
      refine ⟨by first | exact fun _ _ h => h | (refine later_list [3] (by kernel_rfl) (List.forall_mem_cons.2 ⟨fun _ => fact2 rfl rfl ?_, fun _ h => absurd h List.not_mem_nil⟩) <;> constructor <;> first | rfl | (simp [F]; done)), ?_⟩
      repeat (first | simp [F] | simp (disch := omega) only [wC, if_pos, if_neg])
      refine d3 4 8 9 ?_ ?_ ?_
      · refine ac 4 rfl (c := by_ok hP hc (by omega)) (k := ?_)
        rintro _ _ ⟨rfl, rfl⟩
        refine ⟨ln, ?_⟩
        repeat (first | simp [F] | simp (disch := omega) only [wC, if_pos, if_neg])
        refine rp2 5 (k := ?_)
        refine rp2 6 (k := ?_)
        refine rp2 7 (k := ?_)
        refine d2 8 9 ?_ ?_
        · refine ao 8 rfl ?_
          repeat (first | simp [F] | simp (disch := omega) only [wC, if_pos, if_neg])
          refine ⟨later_tmp (by kernel_rfl), ?_⟩
          refine dop 9 rfl ?_
          repeat (first | simp [F] | simp (disch := omega) only [wC, if_pos, if_neg])
          refine ⟨later_tmp (by kernel_rfl), ?_⟩
          refine dop 10 rfl ?_
          repeat (first | simp [F] | simp (disch := omega) only [wC, if_pos, if_neg])
          refine ⟨later_tmp (by kernel_rfl), ?_⟩
          refine dop 11 rfl ?_
          repeat (first | simp [F] | simp (disch := omega) only [wC, if_pos, if_neg])
          refine ⟨ln, ?_⟩
          refine dd ?_
          refine hJ22 _ _ ?_
          first | refine hK8 (true) _ _ ⟨kp, lp, lp, lp⟩ | refine hK8 (false) _ _ ⟨kp, lp, lp, lp⟩
        · refine ao 9 rfl ?_
          repeat (first | simp [F] | simp (disch := omega) only [wC, if_pos, if_neg])
          refine ⟨later_tmp (by kernel_rfl), ?_⟩
          refine dop 8 rfl ?_
          repeat (first | simp [F] | simp (disch := omega) only [wC, if_pos, if_neg])
          refine ⟨later_tmp (by kernel_rfl), ?_⟩
          refine dop 10 rfl ?_
          repeat (first | simp [F] | simp (disch := omega) only [wC, if_pos, if_neg])
          refine ⟨later_tmp (by kernel_rfl), ?_⟩
          refine dop 11 rfl ?_
          repeat (first | simp [F] | simp (disch := omega) only [wC, if_pos, if_neg])
          refine ⟨ln, ?_⟩
          refine dd ?_
          refine hJ22 _ _ ?_
          first | refine hK8 (true) _ _ ⟨kp, lp, lp, lp⟩ | refine hK8 (false) _ _ ⟨kp, lp, lp, lp⟩
      · refine ao 8 rfl ?_
        repeat (first | simp [F] | simp (disch := omega) only [wC, if_pos, if_neg])
        refine ⟨by first | exact later_more _ (by kernel_rfl) | exact later_more2 (by kernel_rfl) rfl, ?_⟩
        refine d2 4 9 ?_ ?_
        · refine ac 4 rfl (c := by_ok hP hc (by omega)) (k := ?_)
          rintro _ _ ⟨rfl, rfl⟩
          refine ⟨ln, ?_⟩
          repeat (first | simp [F] | simp (disch := omega) only [wC, if_pos, if_neg])
          refine rp2 5 (k := ?_)
          refine rp2 6 (k := ?_)
          refine rp2 7 (k := ?_)
          refine dop 9 rfl ?_
          repeat (first | simp [F] | simp (disch := omega) only [wC, if_pos, if_neg])
          refine ⟨later_tmp (by kernel_rfl), ?_⟩
          refine dop 10 rfl ?_
          repeat (first | simp [F] | simp (disch := omega) only [wC, if_pos, if_neg])
          refine ⟨later_tmp (by kernel_rfl), ?_⟩
          refine dop 11 rfl ?_
          repeat (first | simp [F] | simp (disch := omega) only [wC, if_pos, if_neg])
          refine ⟨ln, ?_⟩
          refine dd ?_
          refine hJ22 _ _ ?_
          first | refine hK8 (true) _ _ ⟨kp, lp, lp, lp⟩ | refine hK8 (false) _ _ ⟨kp, lp, lp, lp⟩
        · refine ao 9 rfl ?_
          repeat (first | simp [F] | simp (disch := omega) only [wC, if_pos, if_neg])
          refine ⟨by first | exact later_more _ (by kernel_rfl) | exact later_more2 (by kernel_rfl) rfl, ?_⟩
          refine dc 4 rfl (c := by_ok hP hc (by omega)) (k := ?_)
          rintro _ _ ⟨rfl, rfl⟩
          refine ⟨ln, ?_⟩
          repeat (first | simp [F] | simp (disch := omega) only [wC, if_pos, if_neg])
          refine rp2 5 (k := ?_)
          refine rp2 6 (k := ?_)
          refine rp2 7 (k := ?_)
          refine dop 10 rfl ?_
          repeat (first | simp [F] | simp (disch := omega) only [wC, if_pos, if_neg])
          refine ⟨later_tmp (by kernel_rfl), ?_⟩
          refine dop 11 rfl ?_
          repeat (first | simp [F] | simp (disch := omega) only [wC, if_pos, if_neg])
          refine ⟨ln, ?_⟩
          refine dd ?_
          refine hJ22 _ _ ?_
          first | refine hK8 (true) _ _ ⟨kp, lp, lp, lp⟩ | refine hK8 (false) _ _ ⟨kp, lp, lp, lp⟩
      · refine ao 9 rfl ?_
        repeat (first | simp [F] | simp (disch := omega) only [wC, if_pos, if_neg])
        refine ⟨by first | exact later_more _ (by kernel_rfl) | exact later_more2 (by kernel_rfl) rfl, ?_⟩
        refine d2 4 8 ?_ ?_
        · refine ac 4 rfl (c := by_ok hP hc (by omega)) (k := ?_)
          rintro _ _ ⟨rfl, rfl⟩
          refine ⟨ln, ?_⟩
          repeat (first | simp [F] | simp (disch := omega) only [wC, if_pos, if_neg])
          refine rp2 5 (k := ?_)
          refine rp2 6 (k := ?_)
          refine rp2 7 (k := ?_)
          refine dop 8 rfl ?_
          repeat (first | simp [F] | simp (disch := omega) only [wC, if_pos, if_neg])
          refine ⟨later_tmp (by kernel_rfl), ?_⟩
          refine dop 10 rfl ?_
          repeat (first | simp [F] | simp (disch := omega) only [wC, if_pos, if_neg])
          refine ⟨later_tmp (by kernel_rfl), ?_⟩
          refine dop 11 rfl ?_
          repeat (first | simp [F] | simp (disch := omega) only [wC, if_pos, if_neg])
          refine ⟨ln, ?_⟩
          refine dd ?_
          refine hJ22 _ _ ?_
          first | refine hK8 (true) _ _ ⟨kp, lp, lp, lp⟩ | refine hK8 (false) _ _ ⟨kp, lp, lp, lp⟩
        · refine ao 8 rfl ?_
          repeat (first | simp [F] | simp (disch := omega) only [wC, if_pos, if_neg])
          refine ⟨by first | exact later_more _ (by kernel_rfl) | exact later_more2 (by kernel_rfl) rfl, ?_⟩
          refine dc 4 rfl (c := by_ok hP hc (by omega)) (k := ?_)
          rintro _ _ ⟨rfl, rfl⟩
          refine ⟨ln, ?_⟩
          repeat (first | simp [F] | simp (disch := omega) only [wC, if_pos, if_neg])
          refine rp2 5 (k := ?_)
          refine rp2 6 (k := ?_)
          refine rp2 7 (k := ?_)
          refine dop 10 rfl ?_
          repeat (first | simp [F] | simp (disch := omega) only [wC, if_pos, if_neg])
          refine ⟨later_tmp (by kernel_rfl), ?_⟩
          refine dop 11 rfl ?_
          repeat (first | simp [F] | simp (disch := omega) only [wC, if_pos, if_neg])
          refine ⟨ln, ?_⟩
          refine dd ?_
          refine hJ22 _ _ ?_
          first | refine hK8 (true) _ _ ⟨kp, lp, lp, lp⟩ | refine hK8 (false) _ _ ⟨kp, lp, lp, lp⟩
    · refine ao 8 rfl ?_
      repeat (first | simp [F] | simp (disch := omega) only [wC, if_pos, if_neg])
      refine ⟨by first | exact later_more _ (by kernel_rfl) | exact later_more2 (by kernel_rfl) rfl, ?_⟩
      refine d2 2 9 ?_ ?_
      · refine ac 2 rfl (c := times_ok ha hb) (k := ?_)
        rintro _ _ ⟨rfl, rfl⟩
        refine ⟨by first | exact fun _ _ h => h | (refine later_list [3] (by kernel_rfl) (List.forall_mem_cons.2 ⟨fun _ => fact2 rfl rfl ?_, fun _ h => absurd h List.not_mem_nil⟩) <;> constructor <;> first | rfl | (simp [F]; done)), ?_⟩
        repeat (first | simp [F] | simp (disch := omega) only [wC, if_pos, if_neg])
        refine d2 4 9 ?_ ?_
        · refine ac 4 rfl (c := by_ok hP hc (by omega)) (k := ?_)
          rintro _ _ ⟨rfl, rfl⟩
          refine ⟨ln, ?_⟩
          repeat (first | simp [F] | simp (disch := omega) only [wC, if_pos, if_neg])
          refine rp2 5 (k := ?_)
          refine rp2 6 (k := ?_)
          refine rp2 7 (k := ?_)
          refine dop 9 rfl ?_
          repeat (first | simp [F] | simp (disch := omega) only [wC, if_pos, if_neg])
          refine ⟨later_tmp (by kernel_rfl), ?_⟩
          refine dop 10 rfl ?_
          repeat (first | simp [F] | simp (disch := omega) only [wC, if_pos, if_neg])
          refine ⟨later_tmp (by kernel_rfl), ?_⟩
          refine dop 11 rfl ?_
          repeat (first | simp [F] | simp (disch := omega) only [wC, if_pos, if_neg])
          refine ⟨ln, ?_⟩
          refine dd ?_
          refine hJ22 _ _ ?_
          first | refine hK8 (true) _ _ ⟨kp, lp, lp, lp⟩ | refine hK8 (false) _ _ ⟨kp, lp, lp, lp⟩
        · refine ao 9 rfl ?_
          repeat (first | simp [F] | simp (disch := omega) only [wC, if_pos, if_neg])
          refine ⟨by first | exact later_more _ (by kernel_rfl) | exact later_more2 (by kernel_rfl) rfl, ?_⟩
          refine dc 4 rfl (c := by_ok hP hc (by omega)) (k := ?_)
          rintro _ _ ⟨rfl, rfl⟩
          refine ⟨ln, ?_⟩
          repeat (first | simp [F] | simp (disch := omega) only [wC, if_pos, if_neg])
          refine rp2 5 (k := ?_)
          refine rp2 6 (k := ?_)
          refine rp2 7 (k := ?_)
          refine dop 10 rfl ?_
          repeat (first | simp [F] | simp (disch := omega) only [wC, if_pos, if_neg])
          refine ⟨later_tmp (by kernel_rfl), ?_⟩
          refine dop 11 rfl ?_
          repeat (first | simp [F] | simp (disch := omega) only [wC, if_pos, if_neg])
          refine ⟨ln, ?_⟩
          refine dd ?_
          refine hJ22 _ _ ?_
          first | refine hK8 (true) _ _ ⟨kp, lp, lp, lp⟩ | refine hK8 (false) _ _ ⟨kp, lp, lp, lp⟩
      · refine ao 9 rfl ?_
        repeat (first | simp [F] | simp (disch := omega) only [wC, if_pos, if_neg])
        refine ⟨by first | exact later_more _ (by kernel_rfl) | exact later_more2 (by kernel_rfl) rfl, ?_⟩
        refine dc 2 rfl (c := times_ok ha hb) (k := ?_)
        rintro _ _ ⟨rfl, rfl⟩
        refine ⟨by first | exact fun _ _ h => h | (refine later_list [3] (by kernel_rfl) (List.forall_mem_cons.2 ⟨fun _ => fact2 rfl rfl ?_, fun _ h => absurd h List.not_mem_nil⟩) <;> constructor <;> first | rfl | (simp [F]; done)), ?_⟩
        repeat (first | simp [F] | simp (disch := omega) only [wC, if_pos, if_neg])
        refine dc 4 rfl (c := by_ok hP hc (by omega)) (k := ?_)
        rintro _ _ ⟨rfl, rfl⟩
        refine ⟨ln, ?_⟩
        repeat (first | simp [F] | simp (disch := omega) only [wC, if_pos, if_neg])
        refine rp2 5 (k := ?_)
        refine rp2 6 (k := ?_)
        refine rp2 7 (k := ?_)
        refine dop 10 rfl ?_
        repeat (first | simp [F] | simp (disch := omega) only [wC, if_pos, if_neg])
        refine ⟨later_tmp (by kernel_rfl), ?_⟩
        refine dop 11 rfl ?_
        repeat (first | simp [F] | simp (disch := omega) only [wC, if_pos, if_neg])
        refine ⟨ln, ?_⟩
        refine dd ?_
        refine hJ22 _ _ ?_
        first | refine hK8 (true) _ _ ⟨kp, lp, lp, lp⟩ | refine hK8 (false) _ _ ⟨kp, lp, lp, lp⟩
    · refine ao 9 rfl ?_
      repeat (first | simp [F] | simp (disch := omega) only [wC, if_pos, if_neg])
      refine ⟨by first | exact later_more _ (by kernel_rfl) | exact later_more2 (by kernel_rfl) rfl, ?_⟩
      refine d2 2 8 ?_ ?_
      · refine ac 2 rfl (c := times_ok ha hb) (k := ?_)
        rintro _ _ ⟨rfl, rfl⟩
        refine ⟨by first | exact fun _ _ h => h | (refine later_list [3] (by kernel_rfl) (List.forall_mem_cons.2 ⟨fun _ => fact2 rfl rfl ?_, fun _ h => absurd h List.not_mem_nil⟩) <;> constructor <;> first | rfl | (simp [F]; done)), ?_⟩
        repeat (first | simp [F] | simp (disch := omega) only [wC, if_pos, if_neg])
        refine d2 4 8 ?_ ?_
        · refine ac 4 rfl (c := by_ok hP hc (by omega)) (k := ?_)
          rintro _ _ ⟨rfl, rfl⟩
          refine ⟨ln, ?_⟩
          repeat (first | simp [F] | simp (disch := omega) only [wC, if_pos, if_neg])
          refine rp2 5 (k := ?_)
          refine rp2 6 (k := ?_)
          refine rp2 7 (k := ?_)
          refine dop 8 rfl ?_
          repeat (first | simp [F] | simp (disch := omega) only [wC, if_pos, if_neg])
          refine ⟨later_tmp (by kernel_rfl), ?_⟩
          refine dop 10 rfl ?_
          repeat (first | simp [F] | simp (disch := omega) only [wC, if_pos, if_neg])
          refine ⟨later_tmp (by kernel_rfl), ?_⟩
          refine dop 11 rfl ?_
          repeat (first | simp [F] | simp (disch := omega) only [wC, if_pos, if_neg])
          refine ⟨ln, ?_⟩
          refine dd ?_
          refine hJ22 _ _ ?_
          first | refine hK8 (true) _ _ ⟨kp, lp, lp, lp⟩ | refine hK8 (false) _ _ ⟨kp, lp, lp, lp⟩
        · refine ao 8 rfl ?_
          repeat (first | simp [F] | simp (disch := omega) only [wC, if_pos, if_neg])
          refine ⟨by first | exact later_more _ (by kernel_rfl) | exact later_more2 (by kernel_rfl) rfl, ?_⟩
          refine dc 4 rfl (c := by_ok hP hc (by omega)) (k := ?_)
          rintro _ _ ⟨rfl, rfl⟩
          refine ⟨ln, ?_⟩
          repeat (first | simp [F] | simp (disch := omega) only [wC, if_pos, if_neg])
          refine rp2 5 (k := ?_)
          refine rp2 6 (k := ?_)
          refine rp2 7 (k := ?_)
          refine dop 10 rfl ?_
          repeat (first | simp [F] | simp (disch := omega) only [wC, if_pos, if_neg])
          refine ⟨later_tmp (by kernel_rfl), ?_⟩
          refine dop 11 rfl ?_
          repeat (first | simp [F] | simp (disch := omega) only [wC, if_pos, if_neg])
          refine ⟨ln, ?_⟩
          refine dd ?_
          refine hJ22 _ _ ?_
          first | refine hK8 (true) _ _ ⟨kp, lp, lp, lp⟩ | refine hK8 (false) _ _ ⟨kp, lp, lp, lp⟩
      · refine ao 8 rfl ?_
        repeat (first | simp [F] | simp (disch := omega) only [wC, if_pos, if_neg])
        refine ⟨by first | exact later_more _ (by kernel_rfl) | exact later_more2 (by kernel_rfl) rfl, ?_⟩
        refine dc 2 rfl (c := times_ok ha hb) (k := ?_)
        rintro _ _ ⟨rfl, rfl⟩
        refine ⟨by first | exact fun _ _ h => h | (refine later_list [3] (by kernel_rfl) (List.forall_mem_cons.2 ⟨fun _ => fact2 rfl rfl ?_, fun _ h => absurd h List.not_mem_nil⟩) <;> constructor <;> first | rfl | (simp [F]; done)), ?_⟩
        repeat (first | simp [F] | simp (disch := omega) only [wC, if_pos, if_neg])
        refine dc 4 rfl (c := by_ok hP hc (by omega)) (k := ?_)
        rintro _ _ ⟨rfl, rfl⟩
        refine ⟨ln, ?_⟩
        repeat (first | simp [F] | simp (disch := omega) only [wC, if_pos, if_neg])
        refine rp2 5 (k := ?_)
        refine rp2 6 (k := ?_)
        refine rp2 7 (k := ?_)
        refine dop 10 rfl ?_
        repeat (first | simp [F] | simp (disch := omega) only [wC, if_pos, if_neg])
        refine ⟨later_tmp (by kernel_rfl), ?_⟩
        refine dop 11 rfl ?_
        repeat (first | simp [F] | simp (disch := omega) only [wC, if_pos, if_neg])
        refine ⟨ln, ?_⟩
        refine dd ?_
        refine hJ22 _ _ ?_
        first | refine hK8 (true) _ _ ⟨kp, lp, lp, lp⟩ | refine hK8 (false) _ _ ⟨kp, lp, lp, lp⟩

end Go.Proofs.Ytdbaddholggkbaa
