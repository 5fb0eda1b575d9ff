import Derived.Test.YtdbaddholggkbaaVmU
import Derived.Test.YtdbaddholggkbaaG2
import Derived.Test.YtdbaddholggkbaaB2
import Derived.Test.YtdbaddholggkbaaVmMS
/-
  Numbers: what is left of a division.
-/
namespace Go.Proofs.Ytdbaddholggkbaa
set_option linter.unnecessarySimpa false
set_option maxRecDepth 100000
open Go Go.Vm
set_option linter.unusedSimpArgs false
set_option linter.unusedVariables false

attribute [local simp] evalL wantedA isCall opA evalA evalAll evalsA evalOpt ofValue ofCell plain binA_eql_pn binA_neq_pn binA_gtr binA_lss binA_geq binA_leq binA_add binA_sub binA_eql binA_neq binA_or binA_and binA_shl binA_shr binA_mul binA_quo binA_rem binA_agg_eql binA_agg_neq convA_int unA_not fieldAddrA loadA partA pickA_true pickA_false pickA_bb lenA builtinA storeA splice AV.cells AV.isCell sliceA boundA intA callOf indexAddrA newObjA buildA fillA zeroA ofCells buildSliceA indexA fieldA numA_len4 numA_take4 numA_drop4 List.getElem?_cons_zero List.getElem?_cons_succ

set_option maxHeartbeats 1600000 in
attribute [local simp] undefA List.getElem?_cons_zero List.getElem?_cons_succ in
theorem shift_ok {σ : St} {id x e : Nat} (h : σ.objs[id]? = some (numA x)) (hx : x < 2 ^ 256) (he : e ≤ 1) :
    CallsA Try.prog 140 [.ptr id 0, .v (.int .u64 e)] σ (fun av σ' => av = .v (.int .u64 ((2 * x + e) / 2 ^ 256 : Nat)) ∧ σ' = { σ with objs := σ.objs.set id (numA (2 * x + e)) }) := by
  have hx4 : x < 18446744073709551616 ^ 4 := hx
  have hs := set_self_of h
  have hlt := lt_of_get h
  rw [numA_digs] at h
  have F := And.intro h (And.intro hs (True.intro))
  refine callsA_body Try.func140 rfl rfl rfl ?_
  refine sq fun K1 hK1 => ?_
  refine rg' (h := fun J2 hJ2 => ?_)
  refine hJ2 _ _ ?_
  refine hK1 _ _ ?_
  refine sq fun K3 hK3 => ?_
  refine sq fun K4 hK4 => ?_
  refine rg' (h := fun J5 hJ5 => ?_)
  refine hJ5 _ _ ?_
  refine hK4 _ _ ?_
  refine run_block_k ?_
  refine run_loopF (X := Nat) [0, 4, 7] (fun i ρ σ1 => (i ≤ 4) ∧ (ρ 1 = .v (.int .u64 (shc 18446744073709551616 x e i : Nat))) ∧ (ρ 8 = .v (.int .i64 i)) ∧ (σ1 = { σ with objs := σ.objs.set id (u64s (mix 18446744073709551616 4 i (2 * x + e) x)) })) (fun i => 4 - i) (0) ?st1 ?rd1
  case st1 =>
   refine ⟨lp, ?_, lp, ?_⟩
   · simp [shc_zero]
   · rw [mix_zero, Ytdbaddholggkbaa.set_same h]
  case rd1 =>
   rintro i ρ1 σ1 hF1 ⟨hi, h6, h8, hσ⟩
   obtain rfl := hσ.symm
   have f1 := keepL hF1
   try simp [KeepL, F] at f1
   replace F := And.intro h6 F
   replace F := And.intro h8 F
   try replace F := And.intro f1 F
   refine sq fun K6 hK6 => ?_
   refine rg' (h := fun J7 hJ7 => ?_)
   refine hJ7 _ _ ?_
   refine hK6 _ _ ?_
   refine sq fun K8 hK8 => ?_
   refine cs (fun c9 => ?_) (fun c9 => ?_)
   · try exact nope c9
     all_goals have c9p := c9
     all_goals try simp [F] at c9p
     all_goals
      replace F := And.intro c9 F
      try replace F := And.intro c9p F
      refine run_skip ?_
      refine hK8 _ _ ?_
      refine sq fun K9 hK9 => ?_
      refine run_block_k ?_
      refine sq fun K10 hK10 => ?_
      have hi4 : i < 4 := by simp at c9; omega
      have hgx := mixU_get (b := 18446744073709551616) (s := 2 * x + e) (x := x) hi4
      have hst := mixU_set (b := 18446744073709551616) (s := 2 * x + e) (x := x) hi4
      have hml := mix_len (b := 18446744073709551616) (s := 2 * x + e) (x := x) (Nat.le_of_lt hi4)
      generalize hX : x / 18446744073709551616 ^ i % 18446744073709551616 = X at hgx
      have hi5 : (i : Int) < 4 := by omega
      obtain ⟨_, hgx2⟩ := List.getElem?_eq_some_iff.1 hgx
      have hc1 := shc_le (b := 18446744073709551616) (x := x) (i := i) (by decide) he
      have hnx : shc 18446744073709551616 x e (i + 1) = (2 * X + shc 18446744073709551616 x e i) / 18446744073709551616 := by rw [← hX]; exact (shc_next (by decide)).symm
      have hXl : X < 18446744073709551616 := by rw [← hX]; exact Nat.mod_lt _ (by decide)
      have hfd : (X : Int).fdiv 9223372036854775808 = ((shc 18446744073709551616 x e (i + 1) : Nat) : Int) := by rw [hnx]; exact (fdiv_nat X 9223372036854775808).trans (by congr 1; omega)
      replace F := And.intro hfd F
      replace F := And.intro hgx F
      replace F := And.intro hgx2 F
      replace F := And.intro hml F
      replace F := And.intro hi4 F
      replace F := And.intro hi5 F
      refine run_draw (by kernel_rfl) fun J11 hJ11 => ?_
      refine rp2 0 (k := ?_)
      refine rp2 1 (k := ?_)
      refine rp2 2 (k := ?_)
      refine rp2 3 (k := ?_)
      refine rp2 4 (k := ?_)
      refine rp2 5 (k := ?_)
      refine dd ?_
      refine hJ11 _ _ ?_
      refine hK10 _ _ ?_
      refine rg' (h := fun J12 hJ12 => ?_)
      refine hJ12 _ _ ?_
      refine hK9 _ _ ?_
      refine rg' (h := fun J13 hJ13 => ?_)
      refine hJ13 _ _ ?_
      refine ⟨(i + 1), ⟨kp, lp, lp, lp, ?_⟩, lp⟩
      · have hor := or_shift hXl hc1
        have hdg : (2 * X + shc 18446744073709551616 x e i) % 18446744073709551616 = (2 * x + e) / 18446744073709551616 ^ i % 18446744073709551616 := by rw [← hX]; exact shc_dig (by decide)
        rw [hdg] at hor
        rw [← hor] at hst
        simp [F]
        exact congrArg (σ.objs.set id) hst
   try exact nope c9
   all_goals have c9p := c9
   all_goals try simp [F] at c9p
   all_goals
    replace F := And.intro c9 F
    try replace F := And.intro c9p F
    obtain rfl : i = 4 := by simp at c9; omega
    rw [shc_last hx4] at h6 F
    rw [mix_all, ← numA_digs]
    refine run_exit ?_
    refine hK3 _ _ ?_
    refine sq fun K14 hK14 => ?_
    refine rg' (h := fun J15 hJ15 => ?_)
    refine hJ15 _ _ ?_
    refine hK14 _ _ ?_
    refine run_ret ?_
    try simp only [Then, InBlock, NoGoto]
    refine answer_tmp rfl (.inr rfl) ?_
    refine ⟨?_, rfl⟩
    simp only [putA_get]
    simp [F]

set_option maxHeartbeats 1600000 in
attribute [local simp] undefA List.getElem?_cons_zero List.getElem?_cons_succ in
theorem isnan_ok {σ : St} {x : Nat} : CallsA Try.prog 153 [.v (.int .u64 x)] σ (fun av σ' => av = .v (.bool false) ∧ σ = σ') := by
  have F := True.intro
  refine callsA_body Try.func153 rfl rfl rfl ?_
  refine sq fun K1 hK1 => ?_
  refine rg' (h := fun J2 hJ2 => ?_)
  refine hJ2 _ _ ?_
  refine hK1 _ _ ?_
  refine sq fun K3 hK3 => ?_
  refine rg' (h := fun J4 hJ4 => ?_)
  refine hJ4 _ _ ?_
  refine hK3 _ _ ?_
  refine run_ret ?_
  try simp only [Then, InBlock, NoGoto]
  refine answer_tmp rfl (.inr rfl) ?_
  exact rt

set_option maxHeartbeats 1600000 in
attribute [local simp] undefA List.getElem?_cons_zero List.getElem?_cons_succ in
theorem compare_ok {σ : St} {x y : Nat} : CallsA Try.prog 149 [.v (.int .u64 x), .v (.int .u64 y)] σ (fun av σ' => av = .v (.int .i64 (if x < y then -1 else if y < x then 1 else 0)) ∧ σ = σ') := by
  have F := True.intro
  refine callsA_body Try.func149 rfl rfl rfl ?_
  refine sq fun K1 hK1 => ?_
  refine rg' (h := fun J2 hJ2 => ?_)
  refine hJ2 _ _ ?_
  refine hK1 _ _ ?_
  refine sq fun K3 hK3 => ?_
  refine rg' (h := fun J4 hJ4 => ?_)
  refine ca (c := isnan_ok) (k := ?_)
  rintro _ _ ⟨rfl, rfl⟩
  repeat (first | simp [F] | simp (disch := omega) only [wC, if_pos, if_neg])
  refine hJ4 _ _ ?_
  refine hK3 _ _ ?_
  refine sq fun K5 hK5 => ?_
  refine rg' (h := fun J6 hJ6 => ?_)
  refine ca (c := isnan_ok) (k := ?_)
  rintro _ _ ⟨rfl, rfl⟩
  repeat (first | simp [F] | simp (disch := omega) only [wC, if_pos, if_neg])
  refine hJ6 _ _ ?_
  refine hK5 _ _ ?_
  refine sq fun K7 hK7 => ?_
  refine sq fun K8 hK8 => ?_
  refine rg' (h := fun J9 hJ9 => ?_)
  refine hJ9 _ _ ?_
  refine hK8 _ _ ?_
  refine cs (fun c11 => ?_) (fun c11 => ?_)
  · try exact nope c11
    all_goals have c11p := c11
    all_goals try simp [F] at c11p
    all_goals
     replace F := And.intro c11 F
     try replace F := And.intro c11p F
     refine sq fun K10 hK10 => ?_
     refine sq fun K11 hK11 => ?_
     refine rg' (h := fun J12 hJ12 => ?_)
     refine hJ12 _ _ ?_
     refine hK11 _ _ ?_
     refine cs (fun c12 => ?_) (fun c12 => ?_)
     · try exact nope c12
       all_goals have c12p := c12
       all_goals try simp [F] at c12p
       all_goals
        replace F := And.intro c12 F
        try replace F := And.intro c12p F
        refine sq fun K13 hK13 => ?_
        refine rg' (h := fun J14 hJ14 => ?_)
        refine hJ14 _ _ ?_
        refine hK13 _ _ ?_
        refine run_ret ?_
        try simp only [Then, InBlock, NoGoto]
        refine answer_tmp rfl (.inr rfl) ?_
        exact rt
     try exact nope c12
     all_goals have c12p := c12
     all_goals try simp [F] at c12p
     all_goals
      replace F := And.intro c12 F
      try replace F := And.intro c12p F
      refine run_skip ?_
      refine hK10 _ _ ?_
      refine sq fun K15 hK15 => ?_
      refine rg' (h := fun J16 hJ16 => ?_)
      refine hJ16 _ _ ?_
      refine hK15 _ _ ?_
      refine run_ret ?_
      try simp only [Then, InBlock, NoGoto]
      refine answer_tmp rfl (.inr rfl) ?_
      exact rt
  try exact nope c11
  all_goals have c11p := c11
  all_goals try simp [F] at c11p
  all_goals
   replace F := And.intro c11 F
   try replace F := And.intro c11p F
   refine run_skip ?_
   refine hK7 _ _ ?_
   refine sq fun K17 hK17 => ?_
   refine sq fun K18 hK18 => ?_
   refine rg' (h := fun J19 hJ19 => ?_)
   refine hJ19 _ _ ?_
   refine hK18 _ _ ?_
   refine cs (fun c13 => ?_) (fun c13 => ?_)
   · try exact nope c13
     all_goals have c13p := c13
     all_goals try simp [F] at c13p
     all_goals
      replace F := And.intro c13 F
      try replace F := And.intro c13p F
      refine sq fun K20 hK20 => ?_
      refine rg' (h := fun J21 hJ21 => ?_)
      refine hJ21 _ _ ?_
      refine hK20 _ _ ?_
      refine run_ret ?_
      try simp only [Then, InBlock, NoGoto]
      refine answer_tmp rfl (.inr rfl) ?_
      exact rt
   try exact nope c13
   all_goals have c13p := c13
   all_goals try simp [F] at c13p
   all_goals
    replace F := And.intro c13 F
    try replace F := And.intro c13p F
    refine run_skip ?_
    refine hK17 _ _ ?_
    refine sq fun K22 hK22 => ?_
    refine sq fun K23 hK23 => ?_
    refine rg' (h := fun J24 hJ24 => ?_)
    refine hJ24 _ _ ?_
    refine hK23 _ _ ?_
    refine cs (fun c16 => ?_) (fun c16 => ?_)
    · try exact nope c16
      all_goals have c16p := c16
      all_goals try simp [F] at c16p
      all_goals
       replace F := And.intro c16 F
       try replace F := And.intro c16p F
       refine sq fun K25 hK25 => ?_
       refine rg' (h := fun J26 hJ26 => ?_)
       refine hJ26 _ _ ?_
       refine hK25 _ _ ?_
       refine run_ret ?_
       try simp only [Then, InBlock, NoGoto]
       refine answer_tmp rfl (.inr rfl) ?_
       exact rt
    try exact nope c16
    all_goals have c16p := c16
    all_goals try simp [F] at c16p
    all_goals
     replace F := And.intro c16 F
     try replace F := And.intro c16p F
     have hn1 : ¬ x < y := by simpa using c16
     replace F := And.intro hn1 F
     refine run_skip ?_
     refine hK22 _ _ ?_
     refine sq fun K27 hK27 => ?_
     refine sq fun K28 hK28 => ?_
     refine rg' (h := fun J29 hJ29 => ?_)
     refine hJ29 _ _ ?_
     refine hK28 _ _ ?_
     refine cs (fun c19 => ?_) (fun c19 => ?_)
     · try exact nope c19
       all_goals have c19p := c19
       all_goals try simp [F] at c19p
       all_goals
        replace F := And.intro c19 F
        try replace F := And.intro c19p F
        refine sq fun K30 hK30 => ?_
        refine rg' (h := fun J31 hJ31 => ?_)
        refine hJ31 _ _ ?_
        refine hK30 _ _ ?_
        refine run_ret ?_
        try simp only [Then, InBlock, NoGoto]
        refine answer_tmp rfl (.inr rfl) ?_
        exact rt
     try exact nope c19
     all_goals have c19p := c19
     all_goals try simp [F] at c19p
     all_goals
      replace F := And.intro c19 F
      try replace F := And.intro c19p F
      have hn2 : ¬ y < x := by simpa using c19
      replace F := And.intro hn2 F
      refine run_skip ?_
      refine hK27 _ _ ?_
      refine sq fun K32 hK32 => ?_
      refine rg' (h := fun J33 hJ33 => ?_)
      refine hJ33 _ _ ?_
      refine hK32 _ _ ?_
      refine run_ret ?_
      try simp only [Then, InBlock, NoGoto]
      refine answer_tmp rfl (.inr rfl) ?_
      exact rt

set_option maxHeartbeats 1600000 in
attribute [local simp] undefA List.getElem?_cons_zero List.getElem?_cons_succ in
theorem backward64_raw {σ : St} {id sz m : Nat} :
    CallsA Try.prog 148 [.bs id 0 sz m] σ (fun av σ' => av = .fn 152 [.ptr σ.objs.length 0] ∧ σ' = { σ with objs := σ.objs ++ [[.bs id 0 sz m]] }) := by
  have F := True.intro
  refine callsA_body Try.func148 rfl rfl rfl ?_
  refine sq fun K1 hK1 => ?_
  refine rg' (h := fun J2 hJ2 => ?_)
  refine hJ2 _ _ ?_
  refine hK1 _ _ ?_
  refine sq fun K3 hK3 => ?_
  refine rg' (h := fun J4 hJ4 => ?_)
  refine hJ4 _ _ ?_
  refine hK3 _ _ ?_
  refine run_ret ?_
  try simp only [Then, InBlock, NoGoto]
  refine answer_tmp rfl (.inr rfl) ?_
  exact rt

theorem backward64_ok {σ : St} {id sz m : Nat} :
    CallsA Try.prog 148 [.bs id 0 sz m] σ (fun av σ' => av = .fn 152 [.ep [.bs id 0 sz m]] ∧ σ = σ') :=
  callsA_freeze backward64_raw (by simp) rfl

def cmpI (x y : Nat) : Int := if x < y then -1 else if y < x then 1 else 0

theorem cmpI_dig {n x y i : Nat} (hx : x < 18446744073709551616 ^ n) (hy : y < 18446744073709551616 ^ n) (hi : i < n) (h : ∀ j, i < j → j < n → x / 18446744073709551616 ^ j % 18446744073709551616 = y / 18446744073709551616 ^ j % 18446744073709551616)
    (hne : x / 18446744073709551616 ^ i % 18446744073709551616 ≠ y / 18446744073709551616 ^ i % 18446744073709551616) : cmpI x y = (if x / 18446744073709551616 ^ i % 18446744073709551616 < y / 18446744073709551616 ^ i % 18446744073709551616 then -1 else 1) := by
  unfold cmpI
  by_cases hl : x / 18446744073709551616 ^ i % 18446744073709551616 < y / 18446744073709551616 ^ i % 18446744073709551616
  · rw [if_pos hl, if_pos (cmp_lt (by decide) hx hy hi h hl)]
  · have hg : y / 18446744073709551616 ^ i % 18446744073709551616 < x / 18446744073709551616 ^ i % 18446744073709551616 := by omega
    have := cmp_lt (by decide) hy hx hi (fun j h1 h2 => (h j h1 h2).symm) hg
    rw [if_neg hl, if_neg (by omega), if_pos this]

set_option maxHeartbeats 1600000 in
attribute [local simp] undefA List.getElem?_cons_zero List.getElem?_cons_succ in
theorem cmp_ok {σ : St} {x y : Nat} (hx : x < 2 ^ 256) (hy : y < 2 ^ 256) :
    CallsA Try.prog 141 [.agg (numA x), .agg (numA y)] σ (fun av σ' => av = .v (.int .i64 (cmpI x y)) ∧ σ = σ') := by
  refine callsA_gcS ?_ rfl
  have hx4 : x < 18446744073709551616 ^ 4 := hx
  have hy4 : y < 18446744073709551616 ^ 4 := hy
  rw [numA_digs x, numA_digs y]
  have F := True.intro
  refine callsA_body Try.func141 rfl rfl rfl ?_
  refine sq fun K1 hK1 => ?_
  refine rg' (h := fun J2 hJ2 => ?_)
  refine hJ2 _ _ ?_
  refine hK1 _ _ ?_
  refine sq fun K3 hK3 => ?_
  refine sq fun K4 hK4 => ?_
  refine rg' (h := fun J5 hJ5 => ?_)
  refine ca (c := backward64_ok) (k := ?_)
  rintro _ _ ⟨rfl, rfl⟩
  repeat (first | simp [F] | simp (disch := omega) only [wC, if_pos, if_neg])
  refine hJ5 _ _ ?_
  refine hK4 _ _ ?_
  refine run_block_k ?_
  refine run_backwardO backs64 ?rm1 (by first | rfl | (simp; done)) rfl rfl rfl rfl rfl rfl rfl rfl (vs := u64v (digs 18446744073709551616 4 x)) (fun pre σ1 => (∀ j ∈ pre, x / 18446744073709551616 ^ j % 18446744073709551616 = y / 18446744073709551616 ^ j % 18446744073709551616) ∧ σ1 = { σ with objs := σ.objs ++ [u64s (digs 18446744073709551616 4 x), u64s (digs 18446744073709551616 4 y), [.v (.int .i64 0)]] }) (by first | rfl | (simp [F]; done)) ?ml1 (by first | exact u64v_plain _ | rfl) ?hI1 (fun c pre σ1 => c = .ret ∧ ∃ pre0 i X Y, pre = pre0 ++ [i] ∧ (∀ j ∈ pre0, x / 18446744073709551616 ^ j % 18446744073709551616 = y / 18446744073709551616 ^ j % 18446744073709551616) ∧ x / 18446744073709551616 ^ i % 18446744073709551616 = X ∧ y / 18446744073709551616 ^ i % 18446744073709551616 = Y ∧ X ≠ Y ∧ σ1 = { σ with objs := σ.objs ++ [u64s (digs 18446744073709551616 4 x), u64s (digs 18446744073709551616 4 y), [.v (.int .i64 (if X < Y then -1 else 1))]] }) ?rs1 ?rr1 ?rd1 ?rx1
  case ml1 =>
   first | rfl | (simp [u64v]; done)
  case hI1 =>
   intro pre σ1 hI; rw [hI.2]; simp [u64v_map]
  case rm1 =>
   omega
  case rs1 =>
   exact ⟨by simp, by simp⟩
  case rr1 =>
   rintro z pre i v σ1 hi hv ⟨hI, rfl⟩
   obtain ⟨X, hX, rfl⟩ := u64v_get hv
   rw [digs_get? hi] at hX
   injection hX with hX
   have hgy := digU_get (b := 18446744073709551616) (x := y) hi
   have hi5 : (i : Int) < 4 := by omega
   obtain ⟨_, hgy2⟩ := List.getElem?_eq_some_iff.1 hgy
   generalize hY : y / 18446744073709551616 ^ i % 18446744073709551616 = Y at hgy hgy2
   replace F := And.intro hgy F
   replace F := And.intro hgy2 F
   replace F := And.intro hi F
   replace F := And.intro hi5 F
   refine run_block_k ?_
   refine sq fun K6 hK6 => ?_
   refine rg' (h := fun J7 hJ7 => ?_)
   refine ca (c := compare_ok) (k := ?_)
   rintro _ _ ⟨rfl, rfl⟩
   repeat (first | simp [F] | simp (disch := omega) only [wC, if_pos, if_neg])
   refine hJ7 _ _ ?_
   refine hK6 _ _ ?_
   refine sq fun K8 hK8 => ?_
   refine rg' (h := fun J9 hJ9 => ?_)
   refine hJ9 _ _ ?_
   refine hK8 _ _ ?_
   refine cs (fun c18 => ?_) (fun c18 => ?_)
   · try exact nope c18
     all_goals have c18p := c18
     all_goals try simp [F] at c18p
     all_goals
      replace F := And.intro c18 F
      try replace F := And.intro c18p F
      have hne : X ≠ Y := by rintro rfl; simp at c18
      refine sq fun K10 hK10 => ?_
      refine rg' (h := fun J11 hJ11 => ?_)
      refine hJ11 _ _ ?_
      refine hK10 _ _ ?_
      refine run_ret ?_
      try simp only [Then, InBlock, NoGoto]
      exact ⟨by first | trivial | rfl, pre, i, X, Y, rfl, hI, hX, hY, hne, by simp [F]⟩
   try exact nope c18
   all_goals have c18p := c18
   all_goals try simp [F] at c18p
   all_goals
    replace F := And.intro c18 F
    try replace F := And.intro c18p F
    have heq : X = Y := by have := c18; simp at this; split at this <;> first | (simp at this; done) | (split at this <;> first | (simp at this; done) | omega)
    refine run_skip ?_
    refine ⟨?_, by simp [F]⟩
    intro j hj
    rcases List.mem_append.1 hj with h | h
    · exact hI j h
    · simp at h; subst h; rw [hX, hY, heq]
  case rd1 =>
   rintro σ1 ⟨hI, rfl⟩
   have hxy : x = y := by have := high_eq' (b := 18446744073709551616) (n := 4) (i := 0) (by decide) hx4 hy4 (by omega) (fun j _ hj => hI j (by simp; omega)); simpa using this
   have hcI : cmpI x y = 0 := by subst hxy; simp [cmpI]
   replace F := And.intro hcI F
   refine hK3 _ _ ?_
   refine sq fun K12 hK12 => ?_
   refine rg' (h := fun J13 hJ13 => ?_)
   refine hJ13 _ _ ?_
   refine hK12 _ _ ?_
   refine run_ret ?_
   try simp only [Then, InBlock, NoGoto]
   refine acell (h := ?_)
   exact gcr
  case rx1 =>
   rintro c pre σ1 hpre ⟨rfl, pre0, i, X, Y, rfl, hI, rfl, rfl, hne, rfl⟩
   obtain ⟨hi4, hall⟩ := pre_rev hpre
   have hcI : cmpI x y = (if x / 18446744073709551616 ^ i % 18446744073709551616 < y / 18446744073709551616 ^ i % 18446744073709551616 then -1 else 1) := cmpI_dig hx4 hy4 hi4 (fun j h1 h2 => hI j (hall j h1 h2)) hne
   replace F := And.intro hcI F
   refine run_ret ?_
   try simp only [Then, InBlock, NoGoto]
   refine acell (h := ?_)
   exact gcr

end Go.Proofs.Ytdbaddholggkbaa
