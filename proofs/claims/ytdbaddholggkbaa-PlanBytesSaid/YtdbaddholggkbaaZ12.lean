import Derived.Test.YtdbaddholggkbaaZ7
import Derived.Test.YtdbaddholggkbaaZ10
import Derived.Test.YtdbaddholggkbaaZ11
import Derived.Test.YtdbaddholggkbaaZ9
import Derived.RangeFuncKeeps
import Derived.RangeFuncLeaves
import Derived.Shelf.Abstract
import Derived.WalkKit
import Derived.OwnWalkIn
import Derived.TacticsInMore
import Derived.LoopNIn
import Derived.LoopIn
/-
  Numbers: sums and differences, limb by limb.
-/
namespace Go.Proofs.Ytdbaddholggkbaa
set_option linter.unnecessarySimpa false
set_option maxRecDepth 100000
open Go Go.Vm
set_option linter.unusedSimpArgs false
set_option linter.unusedVariables false

attribute [local simp] evalL wantedA isCall opA evalA evalAll evalsA evalOpt ofValue ofCell plain binA_eql_pn binA_neq_pn binA_gtr binA_lss binA_geq binA_leq binA_add binA_sub binA_eql binA_neq binA_or binA_and binA_shl binA_shr binA_mul binA_quo binA_rem binA_agg_eql binA_agg_neq convA_int unA_not fieldAddrA loadA partA pickA_true pickA_false pickA_bb lenA builtinA storeA splice AV.cells AV.isCell sliceA boundA intA callOf indexAddrA newObjA buildA fillA zeroA ofCells buildSliceA indexA fieldA numA_len4 numA_take4 numA_drop4 List.getElem?_cons_zero List.getElem?_cons_succ

theorem add64_ok {σ : St} {x y c : Nat} (hc : c ≤ 1) : ExtA Try.prog 139 [.v (.int .u64 x), .v (.int .u64 y), .v (.int .u64 c)] σ (fun av _ => ∃ s c' : Nat, s = (x + y + c) % 18446744073709551616 ∧ c' = (x + y + c) / 18446744073709551616 ∧ av = .tup [.v (.int .u64 s), .v (.int .u64 c')]) :=
  add64_ext Try.func139 (by kernel_rfl) (by kernel_rfl) (by kernel_rfl) (by kernel_rfl) hc
theorem sub64_ok {σ : St} {x y c : Nat} (hc : c ≤ 1) : ExtA Try.prog 150 [.v (.int .u64 x), .v (.int .u64 y), .v (.int .u64 c)] σ (fun av _ => ∃ s c' : Nat, s = (x + 18446744073709551616 - y - c) % 18446744073709551616 ∧ c' = (if x < y + c then 1 else 0) ∧ av = .tup [.v (.int .u64 s), .v (.int .u64 c')]) :=
  sub64_ext Try.func150 (by kernel_rfl) (by kernel_rfl) (by kernel_rfl) (by kernel_rfl) hc

set_option maxHeartbeats 1600000 in
attribute [local simp] undefA List.getElem?_cons_zero List.getElem?_cons_succ in
theorem nadd_ok {σ : St} {x y : Nat} (hx : x < 2 ^ 256) (hy : y < 2 ^ 256) :
    CallsA Try.prog 118 [.agg (numA x), .agg (numA y)] σ (fun av σ' => av = .tup [.agg (numA (addN x y)), .v (.int .i64 (addE x y : Nat))] ∧ σ = σ') := by
  refine callsA_gcS ?_ (by simp [AV.under, underL, numA])
  have hx4 : x < 18446744073709551616 ^ 4 := hx
  have hy4 : y < 18446744073709551616 ^ 4 := hy
  rw [numA_digs x, numA_digs y]
  have F := True.intro
  refine callsA_body Try.func118 rfl rfl rfl ?_
  refine sq fun K1 hK1 => ?_
  refine rg' (h := fun J2 hJ2 => ?_)
  refine hJ2 _ _ ?_
  refine hK1 _ _ ?_
  refine sq fun K3 hK3 => ?_
  refine rg' (h := fun J4 hJ4 => ?_)
  refine hJ4 _ _ ?_
  refine hK3 _ _ ?_
  refine sq fun K5 hK5 => ?_
  refine sq fun K6 hK6 => ?_
  refine rg' (h := fun J7 hJ7 => ?_)
  refine hJ7 _ _ ?_
  refine hK6 _ _ ?_
  refine run_block_k ?_
  refine run_loopF (X := Nat) [2, 3, 4, 5] (fun i ρ σ1 => (i ≤ 4) ∧ (ρ 6 = .v (.int .u64 (addc 18446744073709551616 x y i : Nat))) ∧ (ρ 8 = .v (.int .i64 i)) ∧ (σ1 = { σ with objs := σ.objs ++ [u64s (mix 18446744073709551616 4 i (x + y) x), u64s (digs 18446744073709551616 4 y), numA 0] })) (fun i => 4 - i) (0) ?st1 ?rd1
  case st1 =>
   refine ⟨lp, ?_, lp, ?_⟩
   · simp [addc_zero]
   · simp [mix_zero, numA_zero4]
  case rd1 =>
   rintro i ρ1 σ1 hF1 ⟨hi, h6, h8, hσ⟩
   obtain rfl := hσ.symm
   have f1 := keepL hF1
   try simp [KeepL, F] at f1
   replace F := And.intro h6 F
   replace F := And.intro h8 F
   try replace F := And.intro f1 F
   refine sq fun K8 hK8 => ?_
   refine rg' (h := fun J9 hJ9 => ?_)
   refine hJ9 _ _ ?_
   refine hK8 _ _ ?_
   refine sq fun K10 hK10 => ?_
   refine cs (fun c9 => ?_) (fun c9 => ?_)
   · try exact nope c9
     all_goals have c9p := c9
     all_goals try simp [F] at c9p
     all_goals
      replace F := And.intro c9 F
      try replace F := And.intro c9p F
      refine run_skip ?_
      refine hK10 _ _ ?_
      refine sq fun K11 hK11 => ?_
      refine run_block_k ?_
      refine sq fun K12 hK12 => ?_
      refine rg' (h := fun J13 hJ13 => ?_)
      refine hJ13 _ _ ?_
      refine hK12 _ _ ?_
      have hi4 : i < 4 := by simp at c9; omega
      have hgx := mixU_get (b := 18446744073709551616) (s := x + y) (x := x) hi4
      have hgy := digU_get (b := 18446744073709551616) (x := y) hi4
      have hst := mixU_set (b := 18446744073709551616) (s := x + y) (x := x) hi4
      have hml := mix_len (b := 18446744073709551616) (s := x + y) (x := x) (Nat.le_of_lt hi4)
      generalize hX : x / 18446744073709551616 ^ i % 18446744073709551616 = X at hgx
      generalize hY : y / 18446744073709551616 ^ i % 18446744073709551616 = Y at hgy
      have hi5 : (i : Int) < 4 := by omega
      obtain ⟨_, hgx2⟩ := List.getElem?_eq_some_iff.1 hgx
      obtain ⟨_, hgy2⟩ := List.getElem?_eq_some_iff.1 hgy
      replace F := And.intro hgx F
      replace F := And.intro hgy F
      replace F := And.intro hgx2 F
      replace F := And.intro hgy2 F
      replace F := And.intro hml F
      replace F := And.intro hi4 F
      replace F := And.intro hi5 F
      refine run_draw (by kernel_rfl) fun J14 hJ14 => ?_
      refine rp2 0 (k := ?_)
      refine rp2 1 (k := ?_)
      refine rp2 2 (k := ?_)
      refine rp2 3 (k := ?_)
      refine rp2 4 (k := ?_)
      refine rp2 5 (k := ?_)
      refine rp2 6 (k := ?_)
      refine rp2 7 (k := ?_)
      refine de 8 rfl (c := add64_ok (x := X) (y := Y) (c := addc 18446744073709551616 x y i) (addc_le (by decide))) (k := ?_)
      rintro _ _ ⟨s, c1, hs, hc1, rfl⟩ rfl
      obtain rfl : c1 = addc 18446744073709551616 x y (i + 1) := by rw [hc1, ← hX, ← hY]; exact addc_next (by decide)
      have hs2 : s = (x + y) / 18446744073709551616 ^ i % 18446744073709551616 := by rw [hs, ← hX, ← hY]; exact addc_dig (by decide)
      rw [← hs2] at hst
      repeat (first | simp [F] | simp (disch := omega) only [wC, if_pos, if_neg])
      refine rp2 9 (k := ?_)
      refine rp2 10 (k := ?_)
      refine rp2 11 (k := ?_)
      refine rp2 12 (k := ?_)
      refine dop 13 rfl ?_
      repeat (first | simp [F] | simp (disch := omega) only [wC, if_pos, if_neg])
      refine ⟨later_tmp (by kernel_rfl), ?_⟩
      refine dop 14 rfl ?_
      repeat (first | simp [F] | simp (disch := omega) only [wC, if_pos, if_neg])
      try refine ⟨ln, ?_⟩
      refine dd ?_
      refine hJ14 _ _ ?_
      refine hK11 _ _ ?_
      refine rg' (h := fun J15 hJ15 => ?_)
      refine hJ15 _ _ ?_
      refine ⟨(i + 1), ⟨kp, lp, lp, lp, ?_⟩, lp⟩
      · simp [hst]
   try exact nope c9
   all_goals have c9p := c9
   all_goals try simp [F] at c9p
   all_goals
    replace F := And.intro c9 F
    try replace F := And.intro c9p F
    obtain rfl : i = 4 := by simp at c9; omega
    have hma := mix_all 18446744073709551616 4 (x + y) x
    rw [hma]
    rw [addc_last hx4 hy4] at h6 F
    rw [← numA_digs]
    have hnl : (numA (x + y)).length = 4 := rfl
    have hnt : (numA (x + y)).take 4 = numA (x + y) := rfl
    replace F := And.intro hnl (And.intro hnt F)
    refine run_exit ?_
    refine hK5 _ _ ?_
    refine sq fun K16 hK16 => ?_
    refine sq fun K17 hK17 => ?_
    refine rg' (h := fun J18 hJ18 => ?_)
    refine hJ18 _ _ ?_
    refine hK17 _ _ ?_
    refine cs (fun c26 => ?_) (fun c26 => ?_)
    · try exact nope c26
      all_goals have c26p := c26
      all_goals try simp [F] at c26p
      all_goals
       replace F := And.intro c26 F
       try replace F := And.intro c26p F
       have hbig : ¬ x + y < 2 ^ 256 := by first | (intro h; apply c26p; omega) | omega
       have hN : addN x y = 0 := if_neg hbig
       have hE : addE x y = 2 := if_neg hbig
       replace F := And.intro hN (And.intro hE (And.intro numA_zero4 F))
       refine sq fun K19 hK19 => ?_
       refine rg' (h := fun J20 hJ20 => ?_)
       refine hJ20 _ _ ?_
       refine hK19 _ _ ?_
       refine run_ret ?_
       try simp only [Then, InBlock, NoGoto]
       refine acell2 (h := ?_)
       exact gcr
    try exact nope c26
    all_goals have c26p := c26
    all_goals try simp [F] at c26p
    all_goals
     replace F := And.intro c26 F
     try replace F := And.intro c26p F
     have hbig : x + y < 2 ^ 256 := by first | omega | (simp at c26p; omega)
     have hN : addN x y = x + y := if_pos hbig
     have hE : addE x y = 0 := if_pos hbig
     replace F := And.intro hN (And.intro hE F)
     refine run_skip ?_
     refine hK16 _ _ ?_
     refine sq fun K21 hK21 => ?_
     refine rg' (h := fun J22 hJ22 => ?_)
     refine hJ22 _ _ ?_
     refine hK21 _ _ ?_
     refine run_ret ?_
     try simp only [Then, InBlock, NoGoto]
     refine acell2 (h := ?_)
     exact gcr

/-- num.sub's answer. -/
def subN (x y : Nat) : Nat := (x + 2 ^ 256 - y) % 2 ^ 256

set_option maxHeartbeats 1600000 in
attribute [local simp] undefA List.getElem?_cons_zero List.getElem?_cons_succ in
theorem nsub_ok {σ : St} {x y : Nat} (hx : x < 2 ^ 256) (hy : y < 2 ^ 256) :
    CallsA Try.prog 142 [.agg (numA x), .agg (numA y)] σ (fun av σ' => av = .tup [.agg (numA (subN x y)), .v (.bool (decide (x < y)))] ∧ σ = σ') := by
  refine callsA_gcS ?_ (by simp [AV.under, underL, numA])
  have hx4 : x < 18446744073709551616 ^ 4 := hx
  have hy4 : y < 18446744073709551616 ^ 4 := hy
  rw [numA_digs x, numA_digs y]
  obtain ⟨s4, hs4⟩ : ∃ s4, s4 = x + 18446744073709551616 ^ 4 - y := ⟨_, rfl⟩
  have F := True.intro
  refine callsA_body Try.func142 rfl rfl rfl ?_
  refine sq fun K1 hK1 => ?_
  refine rg' (h := fun J2 hJ2 => ?_)
  refine hJ2 _ _ ?_
  refine hK1 _ _ ?_
  refine sq fun K3 hK3 => ?_
  refine rg' (h := fun J4 hJ4 => ?_)
  refine hJ4 _ _ ?_
  refine hK3 _ _ ?_
  refine sq fun K5 hK5 => ?_
  refine sq fun K6 hK6 => ?_
  refine rg' (h := fun J7 hJ7 => ?_)
  refine hJ7 _ _ ?_
  refine hK6 _ _ ?_
  refine run_block_k ?_
  refine run_loopF (X := Nat) [2, 3, 4, 5] (fun i ρ σ1 => (i ≤ 4) ∧ (ρ 6 = .v (.int .u64 (subb 18446744073709551616 x y i : Nat))) ∧ (ρ 8 = .v (.int .i64 i)) ∧ (σ1 = { σ with objs := σ.objs ++ [u64s (mix 18446744073709551616 4 i s4 x), u64s (digs 18446744073709551616 4 y), numA 0] })) (fun i => 4 - i) (0) ?st1 ?rd1
  case st1 =>
   refine ⟨lp, ?_, lp, ?_⟩
   · simp [subb_zero]
   · simp [mix_zero, numA_zero4]
  case rd1 =>
   rintro i ρ1 σ1 hF1 ⟨hi, h6, h8, hσ⟩
   obtain rfl := hσ.symm
   have f1 := keepL hF1
   try simp [KeepL, F] at f1
   replace F := And.intro h6 F
   replace F := And.intro h8 F
   try replace F := And.intro f1 F
   refine sq fun K8 hK8 => ?_
   refine rg' (h := fun J9 hJ9 => ?_)
   refine hJ9 _ _ ?_
   refine hK8 _ _ ?_
   refine sq fun K10 hK10 => ?_
   refine cs (fun c9 => ?_) (fun c9 => ?_)
   · try exact nope c9
     all_goals have c9p := c9
     all_goals try simp [F] at c9p
     all_goals
      replace F := And.intro c9 F
      try replace F := And.intro c9p F
      refine run_skip ?_
      refine hK10 _ _ ?_
      refine sq fun K11 hK11 => ?_
      refine run_block_k ?_
      refine sq fun K12 hK12 => ?_
      refine rg' (h := fun J13 hJ13 => ?_)
      refine hJ13 _ _ ?_
      refine hK12 _ _ ?_
      have hi4 : i < 4 := by simp at c9; omega
      have hgx := mixU_get (b := 18446744073709551616) (s := s4) (x := x) hi4
      have hgy := digU_get (b := 18446744073709551616) (x := y) hi4
      have hst := mixU_set (b := 18446744073709551616) (s := s4) (x := x) hi4
      have hml := mix_len (b := 18446744073709551616) (s := s4) (x := x) (Nat.le_of_lt hi4)
      generalize hX : x / 18446744073709551616 ^ i % 18446744073709551616 = X at hgx
      generalize hY : y / 18446744073709551616 ^ i % 18446744073709551616 = Y at hgy
      have hi5 : (i : Int) < 4 := by omega
      obtain ⟨_, hgx2⟩ := List.getElem?_eq_some_iff.1 hgx
      obtain ⟨_, hgy2⟩ := List.getElem?_eq_some_iff.1 hgy
      replace F := And.intro hgx F
      replace F := And.intro hgy F
      replace F := And.intro hgx2 F
      replace F := And.intro hgy2 F
      replace F := And.intro hml F
      replace F := And.intro hi4 F
      replace F := And.intro hi5 F
      refine run_draw (by kernel_rfl) fun J14 hJ14 => ?_
      refine rp2 0 (k := ?_)
      refine rp2 1 (k := ?_)
      refine rp2 2 (k := ?_)
      refine rp2 3 (k := ?_)
      refine rp2 4 (k := ?_)
      refine rp2 5 (k := ?_)
      refine rp2 6 (k := ?_)
      refine rp2 7 (k := ?_)
      refine de 8 rfl (c := sub64_ok (x := X) (y := Y) (c := subb 18446744073709551616 x y i) (subb_le _ _ _ _)) (k := ?_)
      rintro _ _ ⟨s, c1, hs, hc1, rfl⟩ rfl
      obtain rfl : c1 = subb 18446744073709551616 x y (i + 1) := by rw [hc1, ← hX, ← hY]; exact subb_next (by decide)
      have hs2 : s = s4 / 18446744073709551616 ^ i % 18446744073709551616 := by rw [hs, hs4, ← hX, ← hY]; exact subb_dig (by decide) hi4 hx4 hy4
      rw [← hs2] at hst
      repeat (first | simp [F] | simp (disch := omega) only [wC, if_pos, if_neg])
      refine rp2 9 (k := ?_)
      refine rp2 10 (k := ?_)
      refine rp2 11 (k := ?_)
      refine rp2 12 (k := ?_)
      refine dop 13 rfl ?_
      repeat (first | simp [F] | simp (disch := omega) only [wC, if_pos, if_neg])
      refine ⟨later_tmp (by kernel_rfl), ?_⟩
      refine dop 14 rfl ?_
      repeat (first | simp [F] | simp (disch := omega) only [wC, if_pos, if_neg])
      try refine ⟨ln, ?_⟩
      refine dd ?_
      refine hJ14 _ _ ?_
      refine hK11 _ _ ?_
      refine rg' (h := fun J15 hJ15 => ?_)
      refine hJ15 _ _ ?_
      refine ⟨(i + 1), ⟨kp, lp, lp, lp, ?_⟩, lp⟩
      · simp [hst]
   try exact nope c9
   all_goals have c9p := c9
   all_goals try simp [F] at c9p
   all_goals
    replace F := And.intro c9 F
    try replace F := And.intro c9p F
    obtain rfl : i = 4 := by simp at c9; omega
    have hma := mix_all 18446744073709551616 4 s4 x
    rw [hma]
    rw [subb_last hx4 hy4] at h6 F
    have hnn : u64s (digs 18446744073709551616 4 s4) = numA (subN x y) := by rw [numA_digs]; congr 1; exact (digs_of (by decide) (digs_lt (by decide)) (by simp) (by rw [valD_digs, hs4]; rfl))
    rw [hnn]
    have hnl : (numA (subN x y)).length = 4 := rfl
    have hnt : (numA (subN x y)).take 4 = numA (subN x y) := rfl
    have hb2 : (((if x < y then 1 else 0 : Nat) : Int) != 0) = decide (x < y) := by split <;> simp [*]
    replace F := And.intro hnl (And.intro hnt (And.intro hb2 F))
    refine run_exit ?_
    refine hK5 _ _ ?_
    refine sq fun K16 hK16 => ?_
    refine rg' (h := fun J17 hJ17 => ?_)
    refine hJ17 _ _ ?_
    refine hK16 _ _ ?_
    refine run_ret ?_
    try simp only [Then, InBlock, NoGoto]
    refine acell2 (h := ?_)
    exact gcr

theorem nsub_mod {σ : St} {x y : Nat} (hy : y < 2 ^ 256) :
    CallsA Try.prog 142 [.agg (numA x), .agg (numA y)] σ (fun av σ' => av = .tup [.agg (numA (subN (x % 2 ^ 256) y)), .v (.bool (decide (x % 2 ^ 256 < y)))] ∧ σ = σ') := by
  have h := nsub_ok (σ := σ) (x := x % 2 ^ 256) (Nat.mod_lt _ (by decide)) hy
  rwa [numA_mod] at h

set_option maxHeartbeats 1600000 in
attribute [local simp] undefA List.getElem?_cons_zero List.getElem?_cons_succ in
theorem nOf_ok {σ : St} {n : Nat} (hn : n < 2 ^ 64) : CallsA Try.prog 67 [.v (.int .u64 n)] σ (fun av σ' => av = .agg (numA n) ∧ σ = σ') := by
  refine callsA_gcS ?_ (by simp [AV.under, underL, numA])
  have F := True.intro
  refine callsA_body Try.func67 rfl rfl rfl ?_
  refine sq fun K1 hK1 => ?_
  refine rg' (h := fun J2 hJ2 => ?_)
  refine hJ2 _ _ ?_
  refine hK1 _ _ ?_
  refine sq fun K3 hK3 => ?_
  have h0 := numA_small hn
  replace F := And.intro h0 F
  refine rg' (h := fun J4 hJ4 => ?_)
  refine hJ4 _ _ ?_
  refine hK3 _ _ ?_
  refine run_ret ?_
  try simp only [Then, InBlock, NoGoto]
  refine acell (h := ?_)
  exact gcr

end Go.Proofs.Ytdbaddholggkbaa

/-
  Numbers: products.
-/
namespace Go.Proofs.Ytdbaddholggkbaa
set_option linter.unnecessarySimpa false
set_option maxRecDepth 100000
open Go Go.Vm
set_option linter.unusedSimpArgs false
set_option linter.unusedVariables false

attribute [local simp] evalL wantedA isCall opA evalA evalAll evalsA evalOpt ofValue ofCell plain binA_eql_pn binA_neq_pn binA_gtr binA_lss binA_geq binA_leq binA_add binA_sub binA_eql binA_neq binA_or binA_and binA_shl binA_shr binA_mul binA_quo binA_rem binA_agg_eql binA_agg_neq convA_int unA_not fieldAddrA loadA partA pickA_true pickA_false pickA_bb lenA builtinA storeA splice AV.cells AV.isCell sliceA boundA intA callOf indexAddrA newObjA buildA fillA zeroA ofCells buildSliceA indexA fieldA numA_len4 numA_take4 numA_drop4 List.getElem?_cons_zero List.getElem?_cons_succ

set_option maxHeartbeats 1600000 in
attribute [local simp] undefA List.getElem?_cons_zero List.getElem?_cons_succ in
theorem mul64_ok {σ : St} {x y : Nat} (hx : x < 2 ^ 64) (hy : y < 2 ^ 64) :
    CallsA Try.prog 138 [.v (.int .u64 x), .v (.int .u64 y)] σ (fun av σ' => (∃ h l : Nat, h = x * y / 2 ^ 64 ∧ l = x * y % 2 ^ 64 ∧ av = .tup [.v (.int .u64 h), .v (.int .u64 l)]) ∧ σ = σ') := by
  have F := True.intro
  refine callsA_body Try.func138 rfl rfl rfl ?_
  refine sq fun K1 hK1 => ?_
  refine rg' (h := fun J2 hJ2 => ?_)
  refine hJ2 _ _ ?_
  refine hK1 _ _ ?_
  refine sq fun K3 hK3 => ?_
  refine rg' (h := fun J4 hJ4 => ?_)
  refine hJ4 _ _ ?_
  refine hK3 _ _ ?_
  refine sq fun K5 hK5 => ?_
  refine rg' (h := fun J6 hJ6 => ?_)
  refine hJ6 _ _ ?_
  refine hK5 _ _ ?_
  refine sq fun K7 hK7 => ?_
  refine rg' (h := fun J8 hJ8 => ?_)
  refine hJ8 _ _ ?_
  refine hK7 _ _ ?_
  refine sq fun K9 hK9 => ?_
  refine rg' (h := fun J10 hJ10 => ?_)
  refine hJ10 _ _ ?_
  refine hK9 _ _ ?_
  refine sq fun K11 hK11 => ?_
  refine rg' (h := fun J12 hJ12 => ?_)
  refine hJ12 _ _ ?_
  refine hK11 _ _ ?_
  refine sq fun K13 hK13 => ?_
  refine rg' (h := fun J14 hJ14 => ?_)
  refine hJ14 _ _ ?_
  refine hK13 _ _ ?_
  refine sq fun K15 hK15 => ?_
  refine rg' (h := fun J16 hJ16 => ?_)
  refine hJ16 _ _ ?_
  refine hK15 _ _ ?_
  refine sq fun K17 hK17 => ?_
  refine rg' (h := fun J18 hJ18 => ?_)
  refine hJ18 _ _ ?_
  refine hK17 _ _ ?_
  refine sq fun K19 hK19 => ?_
  refine rg' (h := fun J20 hJ20 => ?_)
  refine hJ20 _ _ ?_
  refine hK19 _ _ ?_
  refine sq fun K21 hK21 => ?_
  refine rg' (h := fun J22 hJ22 => ?_)
  refine hJ22 _ _ ?_
  refine hK21 _ _ ?_
  refine sq fun K23 hK23 => ?_
  refine rg' (h := fun J24 hJ24 => ?_)
  refine hJ24 _ _ ?_
  refine hK23 _ _ ?_
  refine run_ret ?_
  try simp only [Then, InBlock, NoGoto]
  refine answer_tmp2 rfl (.inr rfl) ?_
  refine ⟨⟨x * y / 2 ^ 64, x * y % 2 ^ 64, rfl, rfl, ?_⟩, rfl⟩
  simp only [putA_get]
  simp
  exact ⟨mul64_hi hx hy, wrapM x y⟩

set_option maxHeartbeats 1600000 in
attribute [local simp] undefA List.getElem?_cons_zero List.getElem?_cons_succ prodA_len prodA_take fitsK in
theorem low_ok {σ : St} {n : Nat} (hn : n < 2 ^ 512) :
    CallsA Try.prog 117 [.agg (prodA n)] σ (fun av σ' => av = .tup [.agg (numA (if n < 2 ^ 256 then n else 0)), .v (.int .i64 (if n < 2 ^ 256 then 0 else 2 : Nat))] ∧ σ = σ') := by
  refine callsA_gcS ?_ (by simp [AV.under, underL, numA])
  have hcq : cellsEqA (numA (n / 2 ^ 256)) [.v (.int .u64 0), .v (.int .u64 0), .v (.int .u64 0), .v (.int .u64 0)] = decide (n / 2 ^ 256 = 0) := cellsEq_num0 (x := ⟨n / 2 ^ 256, by omega⟩)
  have hdt : ((prodA n).drop 4).take 4 = numA (n / 2 ^ 256) := by rw [prodA_drop]; rfl
  have hfn : ∀ x, fitsK [some .u64, some .u64, some .u64, some .u64] (numA x) = true := fun x => rfl
  have F := And.intro hcq (And.intro hdt (And.intro hfn (True.intro)))
  refine callsA_body Try.func117 rfl rfl rfl ?_
  refine sq fun K1 hK1 => ?_
  refine rg' (h := fun J2 hJ2 => ?_)
  refine hJ2 _ _ ?_
  refine hK1 _ _ ?_
  refine sq fun K3 hK3 => ?_
  refine sq fun K4 hK4 => ?_
  refine rg' (h := fun J5 hJ5 => ?_)
  refine hJ5 _ _ ?_
  refine hK4 _ _ ?_
  refine cs (fun c8 => ?_) (fun c8 => ?_)
  · try exact nope c8
    all_goals have c8p := c8
    all_goals try simp [F] at c8p
    all_goals
     replace F := And.intro c8 F
     try replace F := And.intro c8p F
     have hbig : ¬ n < 2 ^ 256 := by first | (simp at c8p; omega) | omega
     replace F := And.intro hbig (And.intro (if_neg hbig : (if n < 2 ^ 256 then n else 0) = 0) (And.intro numA_zero4 F))
     refine sq fun K6 hK6 => ?_
     refine rg' (h := fun J7 hJ7 => ?_)
     refine hJ7 _ _ ?_
     refine hK6 _ _ ?_
     refine run_ret ?_
     try simp only [Then, InBlock, NoGoto]
     refine acell2 (h := ?_)
     exact gcr
  try exact nope c8
  all_goals have c8p := c8
  all_goals try simp [F] at c8p
  all_goals
   replace F := And.intro c8 F
   try replace F := And.intro c8p F
   have hbig : n < 2 ^ 256 := by first | (simp at c8p; omega) | omega
   replace F := And.intro hbig F
   refine run_skip ?_
   refine hK3 _ _ ?_
   refine sq fun K8 hK8 => ?_
   refine rg' (h := fun J9 hJ9 => ?_)
   refine hJ9 _ _ ?_
   refine hK8 _ _ ?_
   refine run_ret ?_
   try simp only [Then, InBlock, NoGoto]
   refine acell2 (h := ?_)
   exact gcr

end Go.Proofs.Ytdbaddholggkbaa

/-
  The library's iterator over a slice, the last one first.
-/
namespace Go.Proofs.Ytdbaddholggkbaa
set_option linter.unnecessarySimpa false
set_option maxRecDepth 100000
open Go Go.Vm Go.RowKit Go.Shelf

attribute [local go_sem] Oper.semAt_some

set_option maxRecDepth 100000 in
set_option maxHeartbeats 2000000 in
theorem back64_in (n : Nat) (hn : 1 ≤ n) (l Bn Bo m c : Nat) (ad : Option Addr) (xs : List Value) (Good : Nat → Nat → Prop) (J Jx : List (Fin m) → World → Prop) (hm : m < 4611686018427387904) (hl : xs.length = m)
    (hx : ∀ (j : Nat) x, xs[j]? = some x → ∃ b o, ad = some ⟨b, o, none⟩ ∧ Good b (o + j))
    (hY : ∀ pre (i : Fin m) W, J pre W → pre.length < m → YieldAt Fence.wide (n - 1) Try.prog l #[.int .i64 i.val, xs[i.val]'(by omega)] W fun e W' =>
      (e = .returned (.bool true) ∧ J (pre ++ [i]) W' ∧ KeepsAt Good W W') ∨ (e = .returned (.bool false) ∧ Jx (pre ++ [i]) W'))
    (W : World) (hc : W.cell? ⟨Bn, Bo, none⟩ = some (.slice ad m c)) (hB : Good Bn Bo) (hxc : ∀ (j : Nat) x, xs[j]? = some x → ∀ b o, ad = some ⟨b, o, none⟩ → W.cell? ⟨b, o + j, none⟩ = some x) (h0 : J [] W) :
    CallsIn Fence.wide n Try.prog 152 #[.func (.yield l) #[] #[], .pointer (some ⟨Bn, Bo, none⟩)] W fun e W' => (∃ v, e = .returned v) ∧
      ((∃ ys : List (Fin m), ys.map Fin.val = (List.range m).reverse ∧ J ys W') ∨ (∃ pre : List (Fin m), pre.map Fin.val <+: (List.range m).reverse ∧ Jx pre W')) := by
  have hw1 : ∀ k : Nat, k ≤ m → IntKind.i64.wrap ((k : Int) - 1) = (k : Int) - 1 := fun k hk => wrap_i64 _ (by omega) (by omega)
  refine callsIn_of_wp Try.func152 rfl trivial ?_ rfl
  simp only [Try.ntmps152, List.size_toArray, List.length_cons, List.length_nil, Nat.reduceAdd, Nat.reduceSub, Array.replicate_succ, Array.replicate_zero, List.push_toArray, List.append_toArray, List.nil_append, List.cons_append]
  gi_wp2
  gi_loopw [3] (fun v wr => ∃ (k : Nat) (pre : List (Fin m)), k ≤ m ∧ v = .int .i64 ((k : Int) - 1) ∧ pre.map Fin.val = (List.range m).reverse.take (m - k) ∧ J pre wr ∧ wr.cell? ⟨Bn, Bo, none⟩ = some (.slice ad m c) ∧ (∀ (j : Nat) x, xs[j]? = some x → ∀ b o, ad = some ⟨b, o, none⟩ → wr.cell? ⟨b, o + j, none⟩ = some x))
    (fun v wr => left v)
  case atStart =>
    exact ⟨m, [], Nat.le_refl _, rfl, by simp, h0, hc, hxc⟩
  case round =>
    obtain ⟨k, pre, hk, rfl, hp, hJ, hc', hxc'⟩ := hrel
    cases k with
    | zero =>
      have e : ((0 : Nat) : Int) - 1 = -1 := by omega
      rw [e]
      gi_wp2
      go_end0
      exact ⟨⟨_, rfl⟩, .inl ⟨pre, by rw [hp]; exact List.take_of_length_le (by simp), hJ⟩⟩
    | succ k =>
      have hkl : k < xs.length := by omega
      have hxk : xs[k]? = some xs[k] := List.getElem?_eq_getElem hkl
      obtain ⟨b, o, rfl, hgood⟩ := hx k _ hxk
      have hcell := hxc' k _ hxk b o rfl
      have hlen : pre.length = m - (k + 1) := by
        have := congrArg List.length hp
        simpa using this
      obtain ⟨fn, tmps, assign, body, hy, hR⟩ := hY pre ⟨k, by omega⟩ wr hJ (by omega)
      have e : ((k + 1 : Nat) : Int) - 1 = (k : Int) := by omega
      rw [e]
      have hk0 : ¬ (k : Int) < 0 := by omega
      have hkm : (k : Int) < m := by omega
      gi_wp2
      refine hR.mono ?_
      have hsnoc : (pre ++ [(⟨k, by omega⟩ : Fin m)]).map Fin.val = (List.range m).reverse.take (m - k) := by
        have hlt : m - (k + 1) < ((List.range m).reverse).length := by simp; omega
        have e1 : m - k = m - (k + 1) + 1 := by omega
        rw [e1, List.take_succ_eq_append_getElem hlt, List.map_append, hp]
        congr 1
        simp
        omega
      rintro e3 W3 (⟨rfl, hJ3, hk3⟩ | ⟨rfl, hJx3⟩)
      · have hc3 : W3.cell? ⟨Bn, Bo, none⟩ = some (.slice (some ⟨b, o, none⟩) m c) := hk3 _ _ _ hB hc'
        have hx3 : ∀ (j : Nat) x, xs[j]? = some x → ∀ b' o', some (⟨b, o, none⟩ : Addr) = some ⟨b', o', none⟩ → W3.cell? ⟨b', o' + j, none⟩ = some x := by
          intro j x hj b' o' hb'
          cases hb'
          obtain ⟨b2, o2, h2, h3⟩ := hx j x hj
          cases h2
          exact hk3 _ _ _ h3 (hxc' j x hj _ _ rfl)
        gi_wp2
        go_roundw
        case rel => exact ⟨k, pre ++ [⟨k, by omega⟩], by omega, rfl, hsnoc, hJ3, hc3, hx3⟩
        case measure => simp [left]
      · gi_wp2
        refine bodyPost_ret (results_none rfl _ _ _) rfl ?_
        exact ⟨⟨_, rfl⟩, .inr ⟨pre ++ [⟨k, by omega⟩], by rw [hsnoc]; exact List.take_prefix _ _, hJx3⟩⟩

theorem backs64 : Backs Try.prog 152 (fun m => m < 4611686018427387904) := by
  intro n w Bn Bo m c ad xs Good hn hm hc hB hl hx l J Jx W hW _ _ hY h0
  have hin : ∀ {b o : Nat} {x : Value}, w.cell? ⟨b, o, none⟩ = some x → W.cell? ⟨b, o, none⟩ = some x := by
    intro b o x h
    obtain ⟨cs, e, fr, hb, _⟩ := cell_heap h
    have := hW.block b (Array.getElem?_eq_some_iff.1 hb).1
    obtain ⟨cs', e', fr', hb', hx'⟩ := cell_heap h
    rw [heap_cell (this.trans hb'), hx']
  exact back64_in n hn l Bn Bo m c ad xs Good J Jx hm hl (fun j x hj => let ⟨b, o, h1, h2, _⟩ := hx j x hj; ⟨b, o, h1, h2⟩) hY W (hin hc) hB (fun j x hj b o hb => by
    obtain ⟨b2, o2, h1, h2, h3⟩ := hx j x hj
    rw [h1] at hb; cases hb
    exact hin h3) h0

end Go.Proofs.Ytdbaddholggkbaa

/-
  A loop over a function value that yields an array's cells, the last one first: an array of the call's own, which no round writes.
-/
namespace Go.Vm
set_option linter.unnecessarySimpa false
set_option linter.unusedSimpArgs false
set_option linter.unusedVariables false
open Go Go.RowKit

section
variable {P : Program} {N : Nat} {ρ : Nat → AV} {σ : St}

theorem run_backwardO {g p1 p2 q1 q2 : Tmp} {o1 o2 : Oper} {i1 i2 : Nat} {body : Code} {gf : FuncId} {ob : Nat → Prop} {vs : List Value} {m id : Nat} {Q : Exit → (Nat → AV) → St → Prop} (hback : Backs P gf ob) (hm : ob m) (hcb : callable P gf = true)
    (hN : (decide (p1 < N) && decide (p2 < N) && decide (q1 < N) && decide (q2 < N)) = true) (ho1 : o1.op = .assign (.tmp p1)) (ho2 : o2.op = .assign (.tmp p2)) (hg1 : o1.guard = none) (hg2 : o2.guard = none) (hd1 : o1.dst = some q1) (hd2 : o2.dst = some q2)
    (hne : (p1 != p2 && p1 != q1 && p2 != q1) = true)
    (I : List Nat → St → Prop) (hg : ρ g = .fn gf [.ep [.bs id 0 1 m]]) (hml : m = vs.length) (hplain : vs.all (fun x => plain x && x.oneCell') = true) (hI : ∀ pre σ', I pre σ' → σ'.objs[id]? = some (vs.map .v))
    (Ix : Code → List Nat → St → Prop) (h0 : I [] σ)
    (round : ∀ z pre i x σ', i < m → vs[i]? = some x → I pre σ' → Run z P N body (putA (putA (putA (putA ρ (some p1) (.v (.int .i64 (i : Nat)))) (some p2) (.v x)) (some q1) (.v (.int .i64 (i : Nat)))) (some q2) (.v x)) σ' (fun e _ σ'' => match e with
      | .normal => I (pre ++ [i]) σ''
      | .ret => Ix .ret (pre ++ [i]) σ''
      | .exit j => Ix (.exit j) (pre ++ [i]) σ''
      | .goto j => Ix (.goto j) (pre ++ [i]) σ''
      | _ => False))
    (done : ∀ σ', I (List.range m).reverse σ' → Q .normal ρ σ')
    (stop : ∀ c pre σ', pre <+: (List.range m).reverse → Ix c pre σ' → Run ⟨none, 3⟩ P N c ρ σ' Q) :
    Run ⟨none, 3⟩ P N (.rangeFunc (.tmp g) #[p1, p2] (.seq (.region i1 #[o1] false) (.region i2 #[o2] false)) body) ρ σ Q := by
  intro G w a R hR hK
  simp only [Bool.and_eq_true, decide_eq_true_eq, bne_iff_ne, ne_eq] at hN hne
  obtain ⟨⟨⟨n1, n2⟩, n3⟩, n4⟩ := hN
  obtain ⟨⟨e1, e2⟩, e3⟩ := hne
  have hgv := hR.env g
  rw [hg] at hgv
  -- the iterator, and what it holds
  obtain ⟨cs, hcs, hcl, hcr⟩ : ∃ cs : Array Value, a.tmps.getD g undef = .func (.func gf) #[] cs ∧ cs.size = 1 ∧ ∀ x, cs[0]? = some x → AVR G w x (.ep [.bs id 0 1 m]) := by
    generalize a.tmps.getD g undef = v at hgv
    cases hgv with
    | fn hl h => exact ⟨_, rfl, hl, fun x hx => h 0 x _ hx rfl⟩
  obtain ⟨Bn, Bo, hcap, hBg, v, hv, hva⟩ : ∃ Bn Bo, cs = #[.pointer (some ⟨Bn, Bo, none⟩)] ∧ G.tag Bn Bo = .fixd ∧ ∃ v, w.cell? ⟨Bn, Bo, none⟩ = some v ∧ AVR G w v (.bs id 0 1 m) := by
    have h1 := hcr cs[0] (Array.getElem?_eq_getElem (by omega))
    generalize hx : cs[0] = x at h1
    cases h1 with
    | ep xs hl hs hxs h =>
      rename_i b o
      have hlt : 0 < xs.length := by rw [hl]; simp
      obtain ⟨c1, _⟩ := hxs 0 xs[0] (List.getElem?_eq_getElem hlt)
      refine ⟨b, o, ?_, by simpa using hs 0 (by simp), xs[0], by simpa using c1, h 0 _ _ (List.getElem?_eq_getElem hlt) rfl⟩
      apply Array.ext
      · simpa using hcl
      · intro i hi1 hi2
        have : i = 0 := by omega
        subst this
        simpa using hx
  obtain ⟨b0, c, hb0, rfl⟩ : ∃ b0 c, G.pl id = some b0 ∧ v = .slice (some ⟨b0, 0, none⟩) m c := by
    cases hva with
    | bs h hc => exact ⟨_, _, h, rfl⟩
  have hpl : ∀ (j : Nat) x, vs[j]? = some x → plain x = true := fun j x hj => by
    have := List.all_eq_true.1 hplain x (List.mem_of_getElem? hj)
    simp only [Bool.and_eq_true] at this
    exact this.1
  have hcells : ∀ G' W σ', Ext G w G' W → RelS G' W σ' → σ'.objs[id]? = some (vs.map .v) → ∀ (j : Nat) x, vs[j]? = some x → W.cell? ⟨b0, j, none⟩ = some x := by
    intro G' W σ' hE hS ho j x hj
    obtain ⟨cc, e, cs', h1, h2, h3, _, h5⟩ := hS.obj id b0 (hE.pl _ _ hb0)
    rw [ho] at h1; cases h1
    have hjl : j < cc.size := by rw [h3]; simpa using (List.getElem?_eq_some_iff.1 hj).1
    have h6 := h5 j cc[j] (.v x) (Array.getElem?_eq_getElem hjl) (by simp [hj])
    rw [heap_cell h2, Array.getElem?_eq_getElem hjl, h6.v_eq]
  let Good : Nat → Nat → Prop := fun b o => G.tag b o = .fixd ∨ (b = b0 ∧ o < m)
  have hxs0 := hcells G w σ (.refl _ _) hR.s (hI _ _ h0)
  have hx : ∀ (j : Nat) x, vs[j]? = some x → ∃ b o, some (⟨b0, 0, none⟩ : Addr) = some ⟨b, o, none⟩ ∧ Good b (o + j) ∧ w.cell? ⟨b, o + j, none⟩ = some x := fun j x hj =>
    ⟨b0, 0, rfl, .inr ⟨rfl, by have := (List.getElem?_eq_some_iff.1 hj).1; omega⟩, by rw [Nat.zero_add]; exact hxs0 j x hj⟩
  have hseq := hback 2 w Bn Bo m c (some ⟨b0, 0, none⟩) vs Good (by omega) hm hv (.inl hBg) hml.symm hx
  have hdf : ∀ D, w.heap.size ≤ D → ({ target := .collected D, args := #[] } : Deferred) ∉ a.defers := by
    intro D hD hmem
    obtain ⟨D', h1, _, h3⟩ := hR.defers.1 _ hmem
    have : D = D' := by injection h1 with h1; injection h1
    subst this
    have := (Array.getElem?_eq_some_iff.1 h3).1
    omega
  have hRel : ∀ (D : Nat) G' W σ', w.heap.size ≤ D → Ext G w G' W → RelS G' W σ' → W.heap[D]? = some (.deferred (some [])) → Rel N G' W ρ σ' { a with defers := { target := .collected D, args := #[] } :: a.defers } := by
    intro D G' W σ' hD hE hS hk
    refine ⟨hS, ⟨fun d hd => ?_, List.nodup_cons.2 ⟨hdf D hD, hR.defers.2.1⟩, by rw [hE.base]; exact Nat.le_trans hR.defers.2.2 hE.size⟩, hR.size, fun i => (hR.env i).mono hE⟩
    rcases List.mem_cons.1 hd with rfl | hd
    · refine ⟨D, rfl, ?_, hk⟩
      rw [hE.base]
      exact Nat.le_trans hR.defers.2.2 hD
    · exact (hR.defers.1.mono hE) d hd
  have hown : ∀ {β : Type} (J : β → St → Prop), OwnFrom w.heap.size (fun (s : β) W => ∃ G' σ', Ext G w G' W ∧ RelS G' W σ' ∧ J s σ') := by
    rintro β J s W W' row ⟨G', σ', hE, hS, hJ⟩ hgr hrow
    have hst : Still W W' := still_grown hgr (fun r e => (hrow r e).2)
    refine ⟨G', σ', hE.still hst hgr.os hgr.tape hgr.output (fun b hb => hgr.block b (Nat.lt_of_lt_of_le hb hE.size) (fun e => ?_)), hS.still hst, hJ⟩
    have := (hrow b e.symm).1
    omega
  let a0 : Fin m → Act := fun i => { tmps := ((#[p1, p2] : Array Tmp).zip #[.int .i64 i.val, vs[i.val]'(by omega)]).foldl (fun t (p, v) => t.setIfInBounds p v) a.tmps, defers := [] }
  let a1 : Fin m → Act := fun i => (a0 i).put (some q1) ((a0 i).eval (.tmp p1))
  let a2 : Fin m → Act := fun i => (a1 i).put (some q2) ((a1 i).eval (.tmp p2))
  have hF : ∀ l f, ((Fence.wide).inRound l).fn f := fun _ _ => trivial
  have post : ∀ (pre : List (Fin m)) (i : Fin m) (W : World) (e : Exit) (ρ' : Nat → AV) (σ'' : St) (G2 : Gh) (a' : Act) (W' : World) (G' : Gh) (σ1 : St), Ext G w G' W → RelS G' W σ1 → I (pre.map Fin.val) σ1 → (match e with
      | .normal => I (pre.map Fin.val ++ [i.val]) σ''
      | .ret => Ix .ret (pre.map Fin.val ++ [i.val]) σ''
      | .exit j => Ix (.exit j) (pre.map Fin.val ++ [i.val]) σ''
      | .goto j => Ix (.goto j) (pre.map Fin.val ++ [i.val]) σ''
      | _ => False) → Ext G' W G2 W' → Rel N G2 W' ρ' σ'' a' →
      ownPostK (KeepsAt Good) (fun (s : List (Fin m)) W => ∃ G' σ', Ext G w G' W ∧ RelS G' W σ' ∧ I (s.map Fin.val) σ') (fun c (s : List (Fin m)) W => ∃ G' σ', Ext G w G' W ∧ RelS G' W σ' ∧ Ix c (s.map Fin.val) σ') (pre ++ [i]) W e a' W' := by
    intro pre i W e ρ' σ'' G2 a' W' G' σ1 hE hS1 hI1 hq hE2 hR2
    cases e with
    | normal =>
      have hkp : KeepsAt Good W W' := by
        rintro b o x (hb | ⟨rfl, hb⟩) hx
        · exact hE2.cell (hE.sealed b o hb) hx
        · have hj : vs[o]? = some vs[o] := List.getElem?_eq_getElem (by omega)
          have e1 := hcells G' W σ1 hE hS1 (hI _ _ hI1) o _ hj
          rw [e1] at hx; cases hx
          exact hcells G2 W' σ'' (hE.trans hE2) hR2.s (hI _ _ hq) o _ hj
      exact ⟨hE2.others, hkp, G2, σ'', hE.trans hE2, hR2.s, by simpa using hq⟩
    | ret => exact ⟨hE2.others, G2, σ'', hE.trans hE2, hR2.s, by simpa using hq⟩
    | exit j => exact ⟨hE2.others, G2, σ'', hE.trans hE2, hR2.s, by simpa using hq⟩
    | goto j => exact ⟨hE2.others, G2, σ'', hE.trans hE2, hR2.s, by simpa using hq⟩
    | panic ch => exact hq.elim
    | outgrown => exact hq.elim
  refine wpIn_rangeFunc_ownF (F := Fence.wide) rfl (by show 1 ≤ 3; omega) (gf := gf) (lb := #[.pointer (some ⟨Bn, Bo, none⟩)]) (by rw [← hcap]; exact hcs) trivial (fun args w => run_callFunc hcb) hseq
    (fun h k b o x hb hx => k b o x hb (h b o x hb hx)) (fun W l o o' _ hl ho _ b off x _ hx => ?keep) (Below.refl _ _) (fun _ => rfl)
    (fun s W => ∃ G' σ', Ext G w G' W ∧ RelS G' W σ' ∧ I (s.map Fin.val) σ') (fun c s W => ∃ G' σ', Ext G w G' W ∧ RelS G' W σ' ∧ Ix c (s.map Fin.val) σ')
    (hown _) (fun c => hown _) ⟨G, σ, .refl _ _, hR.s, h0⟩ a2 ?assign ?body ?done ?stop
  case keep => exact (still_put hl ho).cell hx
  case assign =>
    intro l x W K hK'
    refine wpIn_seq ?_
    refine wpIn_assign1 (hF l) ho1 hg1 ?_
    show Code.wpIn _ _ _ _ _ _ _
    refine wpIn_assign1 (hF l) ho2 hg2 ?_
    rw [hd1, hd2]
    exact hK'
  case body =>
    rintro l pre i W ⟨G', σ', hE, hS, hI1⟩ hlt
    have hi : i.val < vs.length := by omega
    have hxi : AVR G w vs[i.val] (.v vs[i.val]) := .v (hpl i.val _ (List.getElem?_eq_getElem hi))
    refine round ⟨some l, 1⟩ (pre.map Fin.val) i.val vs[i.val] σ' i.isLt (List.getElem?_eq_getElem hi) hI1 G' W (a2 i) _ ?_ (fun e ρ' σ'' G2 a' W' hq hE2 hR2 => post pre i W e ρ' σ'' G2 a' W' G' σ' hE hS hI1 hq hE2 hR2)
    have hb : a0 i = (({ a with defers := [] } : Act).put (some p1) (.int .i64 i.val)).put (some p2) (vs[i.val]'hi) := by simp [a0, Act.put]
    have r0 : Rel N G' W ρ σ' { a with defers := [] } := ⟨hS, ⟨Marks.nil _ _, List.nodup_nil, by rw [hE.base]; exact Nat.le_trans hR.defers.2.2 hE.size⟩, hR.size, fun i => (hR.env i).mono hE⟩
    have r1 := r0.put (.refl _ _) hS (d := some p1) (by simpa [inN] using n1) (v := .int .i64 i.val) (x := .v (.int .i64 i.val)) (.v rfl)
    have r2 := r1.put (.refl _ _) hS (d := some p2) (by simpa [inN] using n2) (hxi.mono hE)
    rw [← hb] at r2
    have v1 : AVR G' W ((a0 i).eval (.tmp p1)) (.v (.int .i64 i.val)) := by
      have h := r2.env p1
      have e : putA (putA ρ (some p1) (.v (.int .i64 i.val))) (some p2) (.v vs[i.val]) p1 = .v (.int .i64 i.val) := by simp [putA, e1]
      rw [e] at h
      exact h
    have r3 := r2.put (.refl _ _) hS (d := some q1) (by simpa [inN] using n3) v1
    have v2 : AVR G' W ((a1 i).eval (.tmp p2)) (.v vs[i.val]) := by
      have h := r3.env p2
      have e : putA (putA (putA ρ (some p1) (.v (.int .i64 i.val))) (some p2) (.v vs[i.val])) (some q1) (.v (.int .i64 i.val)) p2 = .v vs[i.val] := by simp [putA, e3]
      rw [e] at h
      exact h
    exact r3.put (.refl _ _) hS (d := some q2) (by simpa [inN] using n4) v2
  case done =>
    rintro D ys W hD hys ⟨G', σ', hE, hS, hI1⟩ hk
    rw [hys] at hI1
    exact hK .normal ρ σ' G' _ W (done σ' hI1) hE (hRel D G' W σ' hD hE hS hk)
  case stop =>
    rintro D c pre W hD hpre ⟨G', σ', hE, hS, hI1⟩ hk
    exact stop c _ σ' hpre hI1 G' W _ R (hRel D G' W σ' hD hE hS hk) (fun e ρ' σ2 G2 a2 w2 hq hE2 hR2 => hK e ρ' σ2 G2 a2 w2 hq (hE.trans hE2) hR2)

end
end Go.Vm

/-
  Numbers: what is left of a division.
-/
namespace Go.Proofs.Ytdbaddholggkbaa
set_option linter.unnecessarySimpa false
set_option maxRecDepth 100000
open Go Go.Vm
set_option linter.unusedSimpArgs false
set_option linter.unusedVariables false

attribute [local simp] evalL wantedA isCall opA evalA evalAll evalsA evalOpt ofValue ofCell plain binA_eql_pn binA_neq_pn binA_gtr binA_lss binA_geq binA_leq binA_add binA_sub binA_eql binA_neq binA_or binA_and binA_shl binA_shr binA_mul binA_quo binA_rem binA_agg_eql binA_agg_neq convA_int unA_not fieldAddrA loadA partA pickA_true pickA_false pickA_bb lenA builtinA storeA splice AV.cells AV.isCell sliceA boundA intA callOf indexAddrA newObjA buildA fillA zeroA ofCells buildSliceA indexA fieldA numA_len4 numA_take4 numA_drop4 List.getElem?_cons_zero List.getElem?_cons_succ

set_option maxHeartbeats 1600000 in
attribute [local simp] undefA List.getElem?_cons_zero List.getElem?_cons_succ in
theorem shift_ok {σ : St} {id x e : Nat} (h : σ.objs[id]? = some (numA x)) (hx : x < 2 ^ 256) (he : e ≤ 1) :
    CallsA Try.prog 140 [.ptr id 0, .v (.int .u64 e)] σ (fun av σ' => av = .v (.int .u64 ((2 * x + e) / 2 ^ 256 : Nat)) ∧ σ' = { σ with objs := σ.objs.set id (numA (2 * x + e)) }) := by
  have hx4 : x < 18446744073709551616 ^ 4 := hx
  have hs := set_self_of h
  have hlt := lt_of_get h
  rw [numA_digs] at h
  have F := And.intro h (And.intro hs (True.intro))
  refine callsA_body Try.func140 rfl rfl rfl ?_
  refine sq fun K1 hK1 => ?_
  refine rg' (h := fun J2 hJ2 => ?_)
  refine hJ2 _ _ ?_
  refine hK1 _ _ ?_
  refine sq fun K3 hK3 => ?_
  refine sq fun K4 hK4 => ?_
  refine rg' (h := fun J5 hJ5 => ?_)
  refine hJ5 _ _ ?_
  refine hK4 _ _ ?_
  refine run_block_k ?_
  refine run_loopF (X := Nat) [0, 4, 7] (fun i ρ σ1 => (i ≤ 4) ∧ (ρ 1 = .v (.int .u64 (shc 18446744073709551616 x e i : Nat))) ∧ (ρ 8 = .v (.int .i64 i)) ∧ (σ1 = { σ with objs := σ.objs.set id (u64s (mix 18446744073709551616 4 i (2 * x + e) x)) })) (fun i => 4 - i) (0) ?st1 ?rd1
  case st1 =>
   refine ⟨lp, ?_, lp, ?_⟩
   · simp [shc_zero]
   · rw [mix_zero, Ytdbaddholggkbaa.set_same h]
  case rd1 =>
   rintro i ρ1 σ1 hF1 ⟨hi, h6, h8, hσ⟩
   obtain rfl := hσ.symm
   have f1 := keepL hF1
   try simp [KeepL, F] at f1
   replace F := And.intro h6 F
   replace F := And.intro h8 F
   try replace F := And.intro f1 F
   refine sq fun K6 hK6 => ?_
   refine rg' (h := fun J7 hJ7 => ?_)
   refine hJ7 _ _ ?_
   refine hK6 _ _ ?_
   refine sq fun K8 hK8 => ?_
   refine cs (fun c9 => ?_) (fun c9 => ?_)
   · try exact nope c9
     all_goals have c9p := c9
     all_goals try simp [F] at c9p
     all_goals
      replace F := And.intro c9 F
      try replace F := And.intro c9p F
      refine run_skip ?_
      refine hK8 _ _ ?_
      refine sq fun K9 hK9 => ?_
      refine run_block_k ?_
      refine sq fun K10 hK10 => ?_
      have hi4 : i < 4 := by simp at c9; omega
      have hgx := mixU_get (b := 18446744073709551616) (s := 2 * x + e) (x := x) hi4
      have hst := mixU_set (b := 18446744073709551616) (s := 2 * x + e) (x := x) hi4
      have hml := mix_len (b := 18446744073709551616) (s := 2 * x + e) (x := x) (Nat.le_of_lt hi4)
      generalize hX : x / 18446744073709551616 ^ i % 18446744073709551616 = X at hgx
      have hi5 : (i : Int) < 4 := by omega
      obtain ⟨_, hgx2⟩ := List.getElem?_eq_some_iff.1 hgx
      have hc1 := shc_le (b := 18446744073709551616) (x := x) (i := i) (by decide) he
      have hnx : shc 18446744073709551616 x e (i + 1) = (2 * X + shc 18446744073709551616 x e i) / 18446744073709551616 := by rw [← hX]; exact (shc_next (by decide)).symm
      have hXl : X < 18446744073709551616 := by rw [← hX]; exact Nat.mod_lt _ (by decide)
      have hfd : (X : Int).fdiv 9223372036854775808 = ((shc 18446744073709551616 x e (i + 1) : Nat) : Int) := by rw [hnx]; exact (fdiv_nat X 9223372036854775808).trans (by congr 1; omega)
      replace F := And.intro hfd F
      replace F := And.intro hgx F
      replace F := And.intro hgx2 F
      replace F := And.intro hml F
      replace F := And.intro hi4 F
      replace F := And.intro hi5 F
      refine run_draw (by kernel_rfl) fun J11 hJ11 => ?_
      refine rp2 0 (k := ?_)
      refine rp2 1 (k := ?_)
      refine rp2 2 (k := ?_)
      refine rp2 3 (k := ?_)
      refine rp2 4 (k := ?_)
      refine rp2 5 (k := ?_)
      refine dd ?_
      refine hJ11 _ _ ?_
      refine hK10 _ _ ?_
      refine rg' (h := fun J12 hJ12 => ?_)
      refine hJ12 _ _ ?_
      refine hK9 _ _ ?_
      refine rg' (h := fun J13 hJ13 => ?_)
      refine hJ13 _ _ ?_
      refine ⟨(i + 1), ⟨kp, lp, lp, lp, ?_⟩, lp⟩
      · have hor := or_shift hXl hc1
        have hdg : (2 * X + shc 18446744073709551616 x e i) % 18446744073709551616 = (2 * x + e) / 18446744073709551616 ^ i % 18446744073709551616 := by rw [← hX]; exact shc_dig (by decide)
        rw [hdg] at hor
        rw [← hor] at hst
        simp [F]
        exact congrArg (σ.objs.set id) hst
   try exact nope c9
   all_goals have c9p := c9
   all_goals try simp [F] at c9p
   all_goals
    replace F := And.intro c9 F
    try replace F := And.intro c9p F
    obtain rfl : i = 4 := by simp at c9; omega
    rw [shc_last hx4] at h6 F
    rw [mix_all, ← numA_digs]
    refine run_exit ?_
    refine hK3 _ _ ?_
    refine sq fun K14 hK14 => ?_
    refine rg' (h := fun J15 hJ15 => ?_)
    refine hJ15 _ _ ?_
    refine hK14 _ _ ?_
    refine run_ret ?_
    try simp only [Then, InBlock, NoGoto]
    refine answer_tmp rfl (.inr rfl) ?_
    refine ⟨?_, rfl⟩
    simp only [putA_get]
    simp [F]

set_option maxHeartbeats 1600000 in
attribute [local simp] undefA List.getElem?_cons_zero List.getElem?_cons_succ in
theorem isnan_ok {σ : St} {x : Nat} : CallsA Try.prog 153 [.v (.int .u64 x)] σ (fun av σ' => av = .v (.bool false) ∧ σ = σ') := by
  have F := True.intro
  refine callsA_body Try.func153 rfl rfl rfl ?_
  refine sq fun K1 hK1 => ?_
  refine rg' (h := fun J2 hJ2 => ?_)
  refine hJ2 _ _ ?_
  refine hK1 _ _ ?_
  refine sq fun K3 hK3 => ?_
  refine rg' (h := fun J4 hJ4 => ?_)
  refine hJ4 _ _ ?_
  refine hK3 _ _ ?_
  refine run_ret ?_
  try simp only [Then, InBlock, NoGoto]
  refine answer_tmp rfl (.inr rfl) ?_
  exact rt

set_option maxHeartbeats 1600000 in
attribute [local simp] undefA List.getElem?_cons_zero List.getElem?_cons_succ in
theorem compare_ok {σ : St} {x y : Nat} : CallsA Try.prog 149 [.v (.int .u64 x), .v (.int .u64 y)] σ (fun av σ' => av = .v (.int .i64 (if x < y then -1 else if y < x then 1 else 0)) ∧ σ = σ') := by
  have F := True.intro
  refine callsA_body Try.func149 rfl rfl rfl ?_
  refine sq fun K1 hK1 => ?_
  refine rg' (h := fun J2 hJ2 => ?_)
  refine hJ2 _ _ ?_
  refine hK1 _ _ ?_
  refine sq fun K3 hK3 => ?_
  refine rg' (h := fun J4 hJ4 => ?_)
  refine ca (c := isnan_ok) (k := ?_)
  rintro _ _ ⟨rfl, rfl⟩
  repeat (first | simp [F] | simp (disch := omega) only [wC, if_pos, if_neg])
  refine hJ4 _ _ ?_
  refine hK3 _ _ ?_
  refine sq fun K5 hK5 => ?_
  refine rg' (h := fun J6 hJ6 => ?_)
  refine ca (c := isnan_ok) (k := ?_)
  rintro _ _ ⟨rfl, rfl⟩
  repeat (first | simp [F] | simp (disch := omega) only [wC, if_pos, if_neg])
  refine hJ6 _ _ ?_
  refine hK5 _ _ ?_
  refine sq fun K7 hK7 => ?_
  refine sq fun K8 hK8 => ?_
  refine rg' (h := fun J9 hJ9 => ?_)
  refine hJ9 _ _ ?_
  refine hK8 _ _ ?_
  refine cs (fun c11 => ?_) (fun c11 => ?_)
  · try exact nope c11
    all_goals have c11p := c11
    all_goals try simp [F] at c11p
    all_goals
     replace F := And.intro c11 F
     try replace F := And.intro c11p F
     refine sq fun K10 hK10 => ?_
     refine sq fun K11 hK11 => ?_
     refine rg' (h := fun J12 hJ12 => ?_)
     refine hJ12 _ _ ?_
     refine hK11 _ _ ?_
     refine cs (fun c12 => ?_) (fun c12 => ?_)
     · try exact nope c12
       all_goals have c12p := c12
       all_goals try simp [F] at c12p
       all_goals
        replace F := And.intro c12 F
        try replace F := And.intro c12p F
        refine sq fun K13 hK13 => ?_
        refine rg' (h := fun J14 hJ14 => ?_)
        refine hJ14 _ _ ?_
        refine hK13 _ _ ?_
        refine run_ret ?_
        try simp only [Then, InBlock, NoGoto]
        refine answer_tmp rfl (.inr rfl) ?_
        exact rt
     try exact nope c12
     all_goals have c12p := c12
     all_goals try simp [F] at c12p
     all_goals
      replace F := And.intro c12 F
      try replace F := And.intro c12p F
      refine run_skip ?_
      refine hK10 _ _ ?_
      refine sq fun K15 hK15 => ?_
      refine rg' (h := fun J16 hJ16 => ?_)
      refine hJ16 _ _ ?_
      refine hK15 _ _ ?_
      refine run_ret ?_
      try simp only [Then, InBlock, NoGoto]
      refine answer_tmp rfl (.inr rfl) ?_
      exact rt
  try exact nope c11
  all_goals have c11p := c11
  all_goals try simp [F] at c11p
  all_goals
   replace F := And.intro c11 F
   try replace F := And.intro c11p F
   refine run_skip ?_
   refine hK7 _ _ ?_
   refine sq fun K17 hK17 => ?_
   refine sq fun K18 hK18 => ?_
   refine rg' (h := fun J19 hJ19 => ?_)
   refine hJ19 _ _ ?_
   refine hK18 _ _ ?_
   refine cs (fun c13 => ?_) (fun c13 => ?_)
   · try exact nope c13
     all_goals have c13p := c13
     all_goals try simp [F] at c13p
     all_goals
      replace F := And.intro c13 F
      try replace F := And.intro c13p F
      refine sq fun K20 hK20 => ?_
      refine rg' (h := fun J21 hJ21 => ?_)
      refine hJ21 _ _ ?_
      refine hK20 _ _ ?_
      refine run_ret ?_
      try simp only [Then, InBlock, NoGoto]
      refine answer_tmp rfl (.inr rfl) ?_
      exact rt
   try exact nope c13
   all_goals have c13p := c13
   all_goals try simp [F] at c13p
   all_goals
    replace F := And.intro c13 F
    try replace F := And.intro c13p F
    refine run_skip ?_
    refine hK17 _ _ ?_
    refine sq fun K22 hK22 => ?_
    refine sq fun K23 hK23 => ?_
    refine rg' (h := fun J24 hJ24 => ?_)
    refine hJ24 _ _ ?_
    refine hK23 _ _ ?_
    refine cs (fun c16 => ?_) (fun c16 => ?_)
    · try exact nope c16
      all_goals have c16p := c16
      all_goals try simp [F] at c16p
      all_goals
       replace F := And.intro c16 F
       try replace F := And.intro c16p F
       refine sq fun K25 hK25 => ?_
       refine rg' (h := fun J26 hJ26 => ?_)
       refine hJ26 _ _ ?_
       refine hK25 _ _ ?_
       refine run_ret ?_
       try simp only [Then, InBlock, NoGoto]
       refine answer_tmp rfl (.inr rfl) ?_
       exact rt
    try exact nope c16
    all_goals have c16p := c16
    all_goals try simp [F] at c16p
    all_goals
     replace F := And.intro c16 F
     try replace F := And.intro c16p F
     have hn1 : ¬ x < y := by simpa using c16
     replace F := And.intro hn1 F
     refine run_skip ?_
     refine hK22 _ _ ?_
     refine sq fun K27 hK27 => ?_
     refine sq fun K28 hK28 => ?_
     refine rg' (h := fun J29 hJ29 => ?_)
     refine hJ29 _ _ ?_
     refine hK28 _ _ ?_
     refine cs (fun c19 => ?_) (fun c19 => ?_)
     · try exact nope c19
       all_goals have c19p := c19
       all_goals try simp [F] at c19p
       all_goals
        replace F := And.intro c19 F
        try replace F := And.intro c19p F
        refine sq fun K30 hK30 => ?_
        refine rg' (h := fun J31 hJ31 => ?_)
        refine hJ31 _ _ ?_
        refine hK30 _ _ ?_
        refine run_ret ?_
        try simp only [Then, InBlock, NoGoto]
        refine answer_tmp rfl (.inr rfl) ?_
        exact rt
     try exact nope c19
     all_goals have c19p := c19
     all_goals try simp [F] at c19p
     all_goals
      replace F := And.intro c19 F
      try replace F := And.intro c19p F
      have hn2 : ¬ y < x := by simpa using c19
      replace F := And.intro hn2 F
      refine run_skip ?_
      refine hK27 _ _ ?_
      refine sq fun K32 hK32 => ?_
      refine rg' (h := fun J33 hJ33 => ?_)
      refine hJ33 _ _ ?_
      refine hK32 _ _ ?_
      refine run_ret ?_
      try simp only [Then, InBlock, NoGoto]
      refine answer_tmp rfl (.inr rfl) ?_
      exact rt

set_option maxHeartbeats 1600000 in
attribute [local simp] undefA List.getElem?_cons_zero List.getElem?_cons_succ in
theorem backward64_raw {σ : St} {id sz m : Nat} :
    CallsA Try.prog 148 [.bs id 0 sz m] σ (fun av σ' => av = .fn 152 [.ptr σ.objs.length 0] ∧ σ' = { σ with objs := σ.objs ++ [[.bs id 0 sz m]] }) := by
  have F := True.intro
  refine callsA_body Try.func148 rfl rfl rfl ?_
  refine sq fun K1 hK1 => ?_
  refine rg' (h := fun J2 hJ2 => ?_)
  refine hJ2 _ _ ?_
  refine hK1 _ _ ?_
  refine sq fun K3 hK3 => ?_
  refine rg' (h := fun J4 hJ4 => ?_)
  refine hJ4 _ _ ?_
  refine hK3 _ _ ?_
  refine run_ret ?_
  try simp only [Then, InBlock, NoGoto]
  refine answer_tmp rfl (.inr rfl) ?_
  exact rt

theorem backward64_ok {σ : St} {id sz m : Nat} :
    CallsA Try.prog 148 [.bs id 0 sz m] σ (fun av σ' => av = .fn 152 [.ep [.bs id 0 sz m]] ∧ σ = σ') :=
  callsA_freeze backward64_raw (by simp) rfl

def cmpI (x y : Nat) : Int := if x < y then -1 else if y < x then 1 else 0

theorem cmpI_dig {n x y i : Nat} (hx : x < 18446744073709551616 ^ n) (hy : y < 18446744073709551616 ^ n) (hi : i < n) (h : ∀ j, i < j → j < n → x / 18446744073709551616 ^ j % 18446744073709551616 = y / 18446744073709551616 ^ j % 18446744073709551616)
    (hne : x / 18446744073709551616 ^ i % 18446744073709551616 ≠ y / 18446744073709551616 ^ i % 18446744073709551616) : cmpI x y = (if x / 18446744073709551616 ^ i % 18446744073709551616 < y / 18446744073709551616 ^ i % 18446744073709551616 then -1 else 1) := by
  unfold cmpI
  by_cases hl : x / 18446744073709551616 ^ i % 18446744073709551616 < y / 18446744073709551616 ^ i % 18446744073709551616
  · rw [if_pos hl, if_pos (cmp_lt (by decide) hx hy hi h hl)]
  · have hg : y / 18446744073709551616 ^ i % 18446744073709551616 < x / 18446744073709551616 ^ i % 18446744073709551616 := by omega
    have := cmp_lt (by decide) hy hx hi (fun j h1 h2 => (h j h1 h2).symm) hg
    rw [if_neg hl, if_neg (by omega), if_pos this]

set_option maxHeartbeats 1600000 in
attribute [local simp] undefA List.getElem?_cons_zero List.getElem?_cons_succ in
theorem cmp_ok {σ : St} {x y : Nat} (hx : x < 2 ^ 256) (hy : y < 2 ^ 256) :
    CallsA Try.prog 141 [.agg (numA x), .agg (numA y)] σ (fun av σ' => av = .v (.int .i64 (cmpI x y)) ∧ σ = σ') := by
  refine callsA_gcS ?_ rfl
  have hx4 : x < 18446744073709551616 ^ 4 := hx
  have hy4 : y < 18446744073709551616 ^ 4 := hy
  rw [numA_digs x, numA_digs y]
  have F := True.intro
  refine callsA_body Try.func141 rfl rfl rfl ?_
  refine sq fun K1 hK1 => ?_
  refine rg' (h := fun J2 hJ2 => ?_)
  refine hJ2 _ _ ?_
  refine hK1 _ _ ?_
  refine sq fun K3 hK3 => ?_
  refine sq fun K4 hK4 => ?_
  refine rg' (h := fun J5 hJ5 => ?_)
  refine ca (c := backward64_ok) (k := ?_)
  rintro _ _ ⟨rfl, rfl⟩
  repeat (first | simp [F] | simp (disch := omega) only [wC, if_pos, if_neg])
  refine hJ5 _ _ ?_
  refine hK4 _ _ ?_
  refine run_block_k ?_
  refine run_backwardO backs64 ?rm1 (by first | rfl | (simp; done)) rfl rfl rfl rfl rfl rfl rfl rfl (vs := u64v (digs 18446744073709551616 4 x)) (fun pre σ1 => (∀ j ∈ pre, x / 18446744073709551616 ^ j % 18446744073709551616 = y / 18446744073709551616 ^ j % 18446744073709551616) ∧ σ1 = { σ with objs := σ.objs ++ [u64s (digs 18446744073709551616 4 x), u64s (digs 18446744073709551616 4 y), [.v (.int .i64 0)]] }) (by first | rfl | (simp [F]; done)) ?ml1 (by first | exact u64v_plain _ | rfl) ?hI1 (fun c pre σ1 => c = .ret ∧ ∃ pre0 i X Y, pre = pre0 ++ [i] ∧ (∀ j ∈ pre0, x / 18446744073709551616 ^ j % 18446744073709551616 = y / 18446744073709551616 ^ j % 18446744073709551616) ∧ x / 18446744073709551616 ^ i % 18446744073709551616 = X ∧ y / 18446744073709551616 ^ i % 18446744073709551616 = Y ∧ X ≠ Y ∧ σ1 = { σ with objs := σ.objs ++ [u64s (digs 18446744073709551616 4 x), u64s (digs 18446744073709551616 4 y), [.v (.int .i64 (if X < Y then -1 else 1))]] }) ?rs1 ?rr1 ?rd1 ?rx1
  case ml1 =>
   first | rfl | (simp [u64v]; done)
  case hI1 =>
   intro pre σ1 hI; rw [hI.2]; simp [u64v_map]
  case rm1 =>
   omega
  case rs1 =>
   exact ⟨by simp, by simp⟩
  case rr1 =>
   rintro z pre i v σ1 hi hv ⟨hI, rfl⟩
   obtain ⟨X, hX, rfl⟩ := u64v_get hv
   rw [digs_get? hi] at hX
   injection hX with hX
   have hgy := digU_get (b := 18446744073709551616) (x := y) hi
   have hi5 : (i : Int) < 4 := by omega
   obtain ⟨_, hgy2⟩ := List.getElem?_eq_some_iff.1 hgy
   generalize hY : y / 18446744073709551616 ^ i % 18446744073709551616 = Y at hgy hgy2
   replace F := And.intro hgy F
   replace F := And.intro hgy2 F
   replace F := And.intro hi F
   replace F := And.intro hi5 F
   refine run_block_k ?_
   refine sq fun K6 hK6 => ?_
   refine rg' (h := fun J7 hJ7 => ?_)
   refine ca (c := compare_ok) (k := ?_)
   rintro _ _ ⟨rfl, rfl⟩
   repeat (first | simp [F] | simp (disch := omega) only [wC, if_pos, if_neg])
   refine hJ7 _ _ ?_
   refine hK6 _ _ ?_
   refine sq fun K8 hK8 => ?_
   refine rg' (h := fun J9 hJ9 => ?_)
   refine hJ9 _ _ ?_
   refine hK8 _ _ ?_
   refine cs (fun c18 => ?_) (fun c18 => ?_)
   · try exact nope c18
     all_goals have c18p := c18
     all_goals try simp [F] at c18p
     all_goals
      replace F := And.intro c18 F
      try replace F := And.intro c18p F
      have hne : X ≠ Y := by rintro rfl; simp at c18
      refine sq fun K10 hK10 => ?_
      refine rg' (h := fun J11 hJ11 => ?_)
      refine hJ11 _ _ ?_
      refine hK10 _ _ ?_
      refine run_ret ?_
      try simp only [Then, InBlock, NoGoto]
      exact ⟨by first | trivial | rfl, pre, i, X, Y, rfl, hI, hX, hY, hne, by simp [F]⟩
   try exact nope c18
   all_goals have c18p := c18
   all_goals try simp [F] at c18p
   all_goals
    replace F := And.intro c18 F
    try replace F := And.intro c18p F
    have heq : X = Y := by have := c18; simp at this; split at this <;> first | (simp at this; done) | (split at this <;> first | (simp at this; done) | omega)
    refine run_skip ?_
    refine ⟨?_, by simp [F]⟩
    intro j hj
    rcases List.mem_append.1 hj with h | h
    · exact hI j h
    · simp at h; subst h; rw [hX, hY, heq]
  case rd1 =>
   rintro σ1 ⟨hI, rfl⟩
   have hxy : x = y := by have := high_eq' (b := 18446744073709551616) (n := 4) (i := 0) (by decide) hx4 hy4 (by omega) (fun j _ hj => hI j (by simp; omega)); simpa using this
   have hcI : cmpI x y = 0 := by subst hxy; simp [cmpI]
   replace F := And.intro hcI F
   refine hK3 _ _ ?_
   refine sq fun K12 hK12 => ?_
   refine rg' (h := fun J13 hJ13 => ?_)
   refine hJ13 _ _ ?_
   refine hK12 _ _ ?_
   refine run_ret ?_
   try simp only [Then, InBlock, NoGoto]
   refine acell (h := ?_)
   exact gcr
  case rx1 =>
   rintro c pre σ1 hpre ⟨rfl, pre0, i, X, Y, rfl, hI, rfl, rfl, hne, rfl⟩
   obtain ⟨hi4, hall⟩ := pre_rev hpre
   have hcI : cmpI x y = (if x / 18446744073709551616 ^ i % 18446744073709551616 < y / 18446744073709551616 ^ i % 18446744073709551616 then -1 else 1) := cmpI_dig hx4 hy4 hi4 (fun j h1 h2 => hI j (hall j h1 h2)) hne
   replace F := And.intro hcI F
   refine run_ret ?_
   try simp only [Then, InBlock, NoGoto]
   refine acell (h := ?_)
   exact gcr

end Go.Proofs.Ytdbaddholggkbaa

/-
  Numbers: whole products.
-/
namespace Go.Proofs.Ytdbaddholggkbaa
set_option linter.unnecessarySimpa false
set_option maxRecDepth 100000
open Go Go.Vm
set_option linter.unusedSimpArgs false
set_option linter.unusedVariables false

attribute [local simp] evalL wantedA isCall opA evalA evalAll evalsA evalOpt ofValue ofCell plain binA_eql_pn binA_neq_pn binA_gtr binA_lss binA_geq binA_leq binA_add binA_sub binA_eql binA_neq binA_or binA_and binA_shl binA_shr binA_mul binA_quo binA_rem binA_agg_eql binA_agg_neq convA_int unA_not fieldAddrA loadA partA pickA_true pickA_false pickA_bb lenA builtinA storeA splice AV.cells AV.isCell sliceA boundA intA callOf indexAddrA newObjA buildA fillA zeroA ofCells buildSliceA indexA fieldA numA_len4 numA_take4 numA_drop4 List.getElem?_cons_zero List.getElem?_cons_succ

structure TS where
  k : Nat
  P : List Nat
  c : Nat

set_option maxHeartbeats 1600000 in
attribute [local simp] undefA List.getElem?_cons_zero List.getElem?_cons_succ prodA_take8 prodA_drop8 prodA_len in
theorem times_ok {σ : St} {x y : Nat} (hx : x < 2 ^ 256) (hy : y < 2 ^ 256) :
    CallsA Try.prog 115 [.agg (numA x), .agg (numA y)] σ (fun av σ' => av = .agg (prodA (x * y)) ∧ σ = σ') := by
  refine callsA_gcS ?_ (by simp [AV.under, underL, prodA, u64s_under])
  have hx4 : x < 18446744073709551616 ^ 4 := hx
  have hy4 : y < 18446744073709551616 ^ 4 := hy
  have F := True.intro
  refine callsA_body Try.func115 rfl rfl rfl ?_
  refine sq fun K1 hK1 => ?_
  refine rg' (h := fun J2 hJ2 => ?_)
  refine hJ2 _ _ ?_
  refine hK1 _ _ ?_
  refine sq fun K3 hK3 => ?_
  refine rg' (h := fun J4 hJ4 => ?_)
  refine hJ4 _ _ ?_
  refine hK3 _ _ ?_
  refine sq fun K5 hK5 => ?_
  refine sq fun K6 hK6 => ?_
  refine rg' (h := fun J7 hJ7 => ?_)
  refine hJ7 _ _ ?_
  refine hK6 _ _ ?_
  refine run_block_k ?_
  refine run_loopF (X := Nat) [3, 4, 5, 14] (fun i ρ σ1 => (i ≤ 4) ∧ (ρ 15 = .v (.int .i64 i)) ∧ (σ1 = { σ with objs := σ.objs ++ [numA x, numA y, prodA 0, prodA ((x % 18446744073709551616 ^ i) * y)] })) (fun i => 4 - i) (0) ?st1 ?rd1
  case st1 =>
   refine ⟨lp, lp, ?_⟩
   · simp [Nat.mod_one, prodA_zero]
  case rd1 =>
   rintro i ρ1 σ1 hF1 ⟨hi, h15, hσ⟩
   obtain rfl := hσ.symm
   have f1 := keepL hF1
   try simp [KeepL, F] at f1
   replace F := And.intro h15 F
   try replace F := And.intro f1 F
   refine sq fun K8 hK8 => ?_
   refine rg' (h := fun J9 hJ9 => ?_)
   refine hJ9 _ _ ?_
   refine hK8 _ _ ?_
   refine sq fun K10 hK10 => ?_
   refine cs (fun c16 => ?_) (fun c16 => ?_)
   · try exact nope c16
     all_goals have c16p := c16
     all_goals try simp [F] at c16p
     all_goals
      replace F := And.intro c16 F
      try replace F := And.intro c16p F
      refine run_skip ?_
      refine hK10 _ _ ?_
      refine sq fun K11 hK11 => ?_
      refine run_block_k ?_
      refine sq fun K12 hK12 => ?_
      have hi4 : i < 4 := by simp at c16; omega
      have hgx : (numA x)[i]? = some (.v (.int .u64 (x / 18446744073709551616 ^ i % 18446744073709551616 : Nat))) := by rw [numA_digs]; exact digU_get hi4
      generalize hX : x / 18446744073709551616 ^ i % 18446744073709551616 = X at hgx
      obtain ⟨_, hgx2⟩ := List.getElem?_eq_some_iff.1 hgx
      have hi5 : (i : Int) < 4 := by omega
      have hXl : X < 18446744073709551616 := by rw [← hX]; exact Nat.mod_lt _ (by decide)
      replace F := And.intro hgx F
      replace F := And.intro hgx2 F
      replace F := And.intro hi4 F
      replace F := And.intro hi5 F
      refine rg' (h := fun J13 hJ13 => ?_)
      refine hJ13 _ _ ?_
      refine hK12 _ _ ?_
      refine sq fun K14 hK14 => ?_
      refine rg' (h := fun J15 hJ15 => ?_)
      refine hJ15 _ _ ?_
      refine hK14 _ _ ?_
      refine sq fun K16 hK16 => ?_
      refine sq fun K17 hK17 => ?_
      refine rg' (h := fun J18 hJ18 => ?_)
      refine hJ18 _ _ ?_
      refine hK17 _ _ ?_
      refine run_block_k ?_
      refine run_loopF (X := TS) [3, 4, 5, 6, 7, 14, 15, 16, 17, 18, 19] (fun q ρ σ1 => (q.k ≤ 4) ∧ (TimesInv x y i X q.k q.P q.c) ∧ (ρ 8 = .v (.int .u64 q.c)) ∧ (ρ 20 = .v (.int .i64 q.k)) ∧ (σ1 = { σ with objs := σ.objs ++ [numA x, numA y, prodA 0, u64s q.P] })) (fun q => 4 - q.k) (⟨0, digs 18446744073709551616 8 ((x % 18446744073709551616 ^ i) * y), 0⟩) ?st2 ?rd2
      case st2 =>
       refine ⟨lp, ?_, lp, lp, ?_⟩
       · exact times_first hi hy4
       · rfl
      case rd2 =>
       rintro q ρ2 σ1 hF2 ⟨hk, hT, h8, h20, hσ2⟩
       obtain rfl := hσ2.symm
       have f2 := keepL hF2
       try simp [KeepL, F] at f2
       replace F := And.intro h8 F
       replace F := And.intro h20 F
       try replace F := And.intro f2 F
       refine sq fun K19 hK19 => ?_
       refine rg' (h := fun J20 hJ20 => ?_)
       refine hJ20 _ _ ?_
       refine hK19 _ _ ?_
       refine sq fun K21 hK21 => ?_
       refine cs (fun c21 => ?_) (fun c21 => ?_)
       · try exact nope c21
         all_goals have c21p := c21
         all_goals try simp [F] at c21p
         all_goals
          replace F := And.intro c21 F
          try replace F := And.intro c21p F
          refine run_skip ?_
          refine hK21 _ _ ?_
          refine sq fun K22 hK22 => ?_
          refine run_block_k ?_
          refine sq fun K23 hK23 => ?_
          have hk4 : q.k < 4 := by simp at c21; omega
          have hgy : (numA y)[q.k]? = some (.v (.int .u64 (y / 18446744073709551616 ^ q.k % 18446744073709551616 : Nat))) := by rw [numA_digs]; exact digU_get hk4
          generalize hY : y / 18446744073709551616 ^ q.k % 18446744073709551616 = Y at hgy
          obtain ⟨_, hgy2⟩ := List.getElem?_eq_some_iff.1 hgy
          have hk5 : (q.k : Int) < 4 := by omega
          have hYl : Y < 18446744073709551616 := by rw [← hY]; exact Nat.mod_lt _ (by decide)
          have hPl := hT.1
          obtain ⟨p, hp⟩ : ∃ p, q.P[i + q.k]? = some p := ⟨_, List.getElem?_eq_getElem (by omega)⟩
          have hp2 := (List.getElem?_eq_some_iff.1 hp).2
          have hgp : (u64s q.P)[i + q.k]? = some (.v (.int .u64 p)) := by simp [u64s, hp]
          obtain ⟨_, hgp2⟩ := List.getElem?_eq_some_iff.1 hgp
          have hpl : p < 18446744073709551616 := hT.2.1 p (List.mem_of_getElem? hp)
          have hcl := hT.2.2.1
          have htn : ((i : Int) + (q.k : Int)).toNat = i + q.k := by omega
          have hXY := Nat.mul_le_mul (show X ≤ 18446744073709551615 by omega) (show Y ≤ 18446744073709551615 by omega)
          have hib : (i : Int) + q.k < 8 := by omega
          have hib2 : (0 : Int) ≤ (i : Int) + q.k := by omega
          have hib3 : i + q.k < 8 := by omega
          replace F := And.intro hgy F
          replace F := And.intro hgy2 F
          replace F := And.intro hk4 F
          replace F := And.intro hk5 F
          replace F := And.intro hgp F
          replace F := And.intro hgp2 F
          replace F := And.intro htn F
          replace F := And.intro hPl F
          replace F := And.intro hib F
          replace F := And.intro hib2 F
          replace F := And.intro hib3 F
          refine rg' (h := fun J24 hJ24 => ?_)
          refine hJ24 _ _ ?_
          refine hK23 _ _ ?_
          refine sq fun K25 hK25 => ?_
          refine rg' (h := fun J26 hJ26 => ?_)
          refine ca (c := mul64_ok (x := X) (y := Y) st st) (k := ?_)
          rintro _ _ ⟨⟨hh, ll, hh1, hl1, rfl⟩, rfl⟩
          repeat (first | simp [F] | simp (disch := omega) only [wC, if_pos, if_neg])
          refine hJ26 _ _ ?_
          refine hK25 _ _ ?_
          refine sq fun K27 hK27 => ?_
          refine rg' (h := fun J28 hJ28 => ?_)
          refine hJ28 _ _ ?_
          refine hK27 _ _ ?_
          refine sq fun K29 hK29 => ?_
          refine rg' (h := fun J30 hJ30 => ?_)
          refine ce (c := add64_ok (x := ll) (y := p) (c := 0) (by omega)) (k := ?_)
          rintro _ _ ⟨s1, c1, hs1, hc1, rfl⟩ rfl
          repeat (first | simp [F] | simp (disch := omega) only [wC, if_pos, if_neg])
          refine hJ30 _ _ ?_
          refine hK29 _ _ ?_
          refine sq fun K31 hK31 => ?_
          refine rg' (h := fun J32 hJ32 => ?_)
          refine hJ32 _ _ ?_
          refine hK31 _ _ ?_
          refine sq fun K33 hK33 => ?_
          refine rg' (h := fun J34 hJ34 => ?_)
          refine ce (c := add64_ok (x := s1) (y := q.c) (c := 0) (by omega)) (k := ?_)
          rintro _ _ ⟨s2, c2, hs2, hc2, rfl⟩ rfl
          repeat (first | simp [F] | simp (disch := omega) only [wC, if_pos, if_neg])
          refine hJ34 _ _ ?_
          refine hK33 _ _ ?_
          refine rg' (h := fun J35 hJ35 => ?_)
          refine hJ35 _ _ ?_
          refine hK22 _ _ ?_
          refine rg' (h := fun J36 hJ36 => ?_)
          refine hJ36 _ _ ?_
          refine ⟨(⟨q.k + 1, q.P.set (i + q.k) s2, hh + c1 + c2⟩), ⟨kp, lp, ?_, lp, lp, ?_⟩, lp⟩
          · exact times_next (s := s2) (c' := hh + c1 + c2) hT hi4 hk4 hXl hp hY (by omega) (by omega)
          · have hset := u64s_set q.P (i + q.k) s2 (by omega)
            simp [F]
            exact hset
       try exact nope c21
       all_goals have c21p := c21
       all_goals try simp [F] at c21p
       all_goals
        replace F := And.intro c21 F
        try replace F := And.intro c21p F
        have hk4 : q.k = 4 := by simp at c21; omega
        rw [hk4] at hT
        have hlast := times_last hT hi4 hX hy4
        have hPl := hT.1
        have hset := u64s_set q.P (i + 4) q.c (by omega)
        have hib : (i : Int) + 4 < 8 := by omega
        have hib3 : i + 4 < 8 := by omega
        have htn : ((i : Int) + 4).toNat = i + 4 := by omega
        have hib2 : (0 : Int) ≤ (i : Int) + 4 := by omega
        rw [hlast] at hset
        replace F := And.intro hib (And.intro hib3 (And.intro htn (And.intro hib2 (And.intro hPl F))))
        refine run_exit ?_
        refine hK16 _ _ ?_
        refine rg' (h := fun J37 hJ37 => ?_)
        refine hJ37 _ _ ?_
        refine hK11 _ _ ?_
        refine rg' (h := fun J38 hJ38 => ?_)
        refine hJ38 _ _ ?_
        refine ⟨(i + 1), ⟨kp, lp, lp, ?_⟩, lp⟩
        · simp [F]
          exact hset
   try exact nope c16
   all_goals have c16p := c16
   all_goals try simp [F] at c16p
   all_goals
    replace F := And.intro c16 F
    try replace F := And.intro c16p F
    obtain rfl : i = 4 := by simp at c16; omega
    have hxm : x % 18446744073709551616 ^ 4 = x := Nat.mod_eq_of_lt hx4
    rw [hxm]
    refine run_exit ?_
    refine hK5 _ _ ?_
    refine sq fun K39 hK39 => ?_
    refine rg' (h := fun J40 hJ40 => ?_)
    refine hJ40 _ _ ?_
    refine hK39 _ _ ?_
    refine run_ret ?_
    try simp only [Then, InBlock, NoGoto]
    refine acell (h := ?_)
    exact gcr

end Go.Proofs.Ytdbaddholggkbaa

/-
  Numbers: the long division.
-/
namespace Go.Proofs.Ytdbaddholggkbaa
set_option linter.unnecessarySimpa false
set_option maxRecDepth 100000
set_option exponentiation.threshold 600
open Go Go.Vm
set_option linter.unusedSimpArgs false
set_option linter.unusedVariables false

attribute [local simp] evalL wantedA isCall opA evalA evalAll evalsA evalOpt ofValue ofCell plain binA_eql_pn binA_neq_pn binA_gtr binA_lss binA_geq binA_leq binA_add binA_sub binA_eql binA_neq binA_orI binA_andI binA_shl binA_shr binA_mul binA_quo binA_rem binA_agg_eql binA_agg_neq convA_int unA_not fieldAddrA loadA partA pickA_true pickA_false pickA_bb lenA builtinA storeA splice AV.cells AV.isCell sliceA boundA intA callOf indexAddrA newObjA buildA fillA zeroA ofCells buildSliceA indexA fieldA numA_len4 numA_take4 numA_drop4 set_appN get_appN List.getElem?_cons_zero List.getElem?_cons_succ

theorem cmpI_ge {T c : Nat} (h : 0 ≤ cmpI T c) : c ≤ T := by
  unfold cmpI at h; split at h <;> omega
theorem cmpI_lt {T c : Nat} (h : ¬ 0 ≤ cmpI T c) : T < c := by
  unfold cmpI at h
  split at h
  · assumption
  · split at h <;> omega

set_option maxHeartbeats 1600000 in
attribute [local simp] undefA List.getElem?_cons_zero List.getElem?_cons_succ prodA_take8 prodA_drop8 prodA_len in
theorem by_ok {σ : St} {x c : Nat} (hx : x < 2 ^ 512) (hc : c < 2 ^ 256) (hc0 : 0 < c) :
    CallsA Try.prog 116 [.agg (prodA x), .agg (numA c)] σ (fun av σ' => av = .tup [.agg (prodA (x / c)), .agg (numA (x % c))] ∧ σ = σ') := by
  refine callsA_gcS ?_ (by simp [AV.under, underL, prodA, u64s_under, numA])
  have F := True.intro
  refine callsA_body Try.func116 rfl rfl rfl ?_
  refine sq fun K1 hK1 => ?_
  refine rg' (h := fun J2 hJ2 => ?_)
  refine hJ2 _ _ ?_
  refine hK1 _ _ ?_
  refine sq fun K3 hK3 => ?_
  refine rg' (h := fun J4 hJ4 => ?_)
  refine hJ4 _ _ ?_
  refine hK3 _ _ ?_
  refine sq fun K5 hK5 => ?_
  refine rg' (h := fun J6 hJ6 => ?_)
  refine hJ6 _ _ ?_
  refine hK5 _ _ ?_
  refine sq fun K7 hK7 => ?_
  refine sq fun K8 hK8 => ?_
  refine rg' (h := fun J9 hJ9 => ?_)
  refine hJ9 _ _ ?_
  refine hK8 _ _ ?_
  refine run_block_k ?_
  refine run_loopF (X := Nat) [2, 3, 4, 5, 6, 7] (fun n ρ σ1 => (n ≤ 512) ∧ (ρ 8 = .v (.int .i64 ((n : Int) - 1))) ∧ (σ1 = { σ with objs := σ.objs ++ [prodA x, numA c, prodA 0, numA 0, prodA (x / 2 ^ n / c * 2 ^ n), numA (x / 2 ^ n % c)] })) (fun n => n) (512) ?st1 ?rd1
  case st1 =>
   refine ⟨lp, lp, ?_⟩
   · rw [Nat.div_eq_of_lt hx]
     simp [prodA_zero, numA_zero4]
  case rd1 =>
   rintro n ρ1 σ1 hF1 ⟨hn, h8, hσ⟩
   obtain rfl := hσ.symm
   have f1 := keepL hF1
   try simp [KeepL, F] at f1
   replace F := And.intro h8 F
   try replace F := And.intro f1 F
   refine sq fun K10 hK10 => ?_
   refine sq fun K11 hK11 => ?_
   refine rg' (h := fun J12 hJ12 => ?_)
   refine hJ12 _ _ ?_
   refine hK11 _ _ ?_
   refine cs (fun c11 => ?_) (fun c11 => ?_)
   · try exact nope c11
     all_goals have c11p := c11
     all_goals try simp [F] at c11p
     all_goals
      replace F := And.intro c11 F
      try replace F := And.intro c11p F
      refine run_skip ?_
      refine hK10 _ _ ?_
      refine sq fun K13 hK13 => ?_
      refine run_block_k ?_
      refine sq fun K14 hK14 => ?_
      obtain ⟨j, rfl⟩ : ∃ j, n = j + 1 := ⟨n - 1, by simp at c11; omega⟩
      have hj : ((j + 1 : Nat) : Int) - 1 = (j : Int) := by omega
      rw [hj] at h8 F
      obtain ⟨q, hq⟩ : ∃ q, q = j / 64 := ⟨_, rfl⟩
      obtain ⟨r, hr⟩ : ∃ r, r = j % 64 := ⟨_, rfl⟩
      have e1 : (j : Int) / 64 = (q : Int) := by omega
      have e2 : (j : Int) % 64 = (r : Int) := by omega
      have hq8 : q < 8 := by omega
      have hq8i : (q : Int) < 8 := by omega
      have hr64 : r < 64 := by omega
      have e3 : (j : Int).tdiv 64 = (q : Int) := by rw [Int.tdiv_eq_ediv_of_nonneg (by omega)]; exact e1
      have e4 : (j : Int).tmod 64 = (r : Int) := by rw [Int.tmod_eq_emod_of_nonneg (by omega)]; exact e2
      obtain ⟨L, hL⟩ : ∃ L, L = x / 18446744073709551616 ^ q % 18446744073709551616 := ⟨_, rfl⟩
      have hgx : (prodA x)[q]? = some (.v (.int .u64 L)) := by rw [hL]; exact digU_get hq8
      obtain ⟨_, hgx2⟩ := List.getElem?_eq_some_iff.1 hgx
      replace F := And.intro e1 F
      replace F := And.intro e2 F
      replace F := And.intro e3 F
      replace F := And.intro e4 F
      replace F := And.intro hq8 F
      replace F := And.intro hq8i F
      replace F := And.intro hr64 F
      replace F := And.intro hgx F
      replace F := And.intro hgx2 F
      refine rg' (h := fun J15 hJ15 => ?_)
      obtain ⟨B, hB⟩ : ∃ B, B = x / 2 ^ j % 2 := ⟨_, rfl⟩
      have hbit := andI_bit hL hr64 (show j = 64 * q + r by omega)
      rw [← hB] at hbit
      obtain ⟨R, hR⟩ : ∃ R, R = x / 2 ^ (j + 1) % c := ⟨_, rfl⟩
      have hRl : R < c := by rw [hR]; exact Nat.mod_lt _ hc0
      obtain ⟨hd1, hd2, hd3⟩ := div_round (x := x) (c := c) (j := j) hc0
      rw [← hR, ← hB] at hd1 hd2 hd3
      obtain ⟨Q, hQ⟩ : ∃ Q, Q = x / 2 ^ (j + 1) / c * 2 ^ (j + 1) := ⟨_, rfl⟩
      rw [← hQ, ← hR]
      obtain ⟨T, hT⟩ : ∃ T, T = 2 * R + B := ⟨_, rfl⟩
      rw [← hT] at hd1 hd2 hd3
      replace F := And.intro hbit F
      refine ca (c := shift_ok (id := σ.objs.length + 5) (x := R) (e := B) (by simp [get_appN]) (by omega) (by omega)) (k := ?_)
      rintro _ _ ⟨rfl, rfl⟩
      rw [← hT]
      repeat (first | simp [F] | simp (disch := omega) only [wC, if_pos, if_neg])
      refine hJ15 _ _ ?_
      refine hK14 _ _ ?_
      refine sq fun K16 hK16 => ?_
      refine rg' (h := fun J17 hJ17 => ?_)
      refine gs 25 (fun g7_2 => ?_) (fun g7_2 => ?_)
      · try exact nope g7_2
        all_goals have g7_2p := g7_2
        all_goals try simp [F] at g7_2p
        all_goals
         replace F := And.intro g7_2 F
         try replace F := And.intro g7_2p F
         have hcT : c ≤ T := by have h := g7_2; simp only [bne_iff_ne, ne_eq] at h; omega
         have hsn : subN (T % 2 ^ 256) c = T - c := by unfold subN; omega
         obtain ⟨hd4, hd5⟩ := hd2 hcT
         refine no2 (k := ?_)
         refine no2 (k := ?_)
         refine no2 (k := ?_)
         refine no2 (k := ?_)
         refine hJ17 _ _ ?_
         refine hK16 _ _ ?_
         refine ct ?_
         refine sq fun K18 hK18 => ?_
         refine rg' (h := fun J19 hJ19 => ?_)
         refine ca (c := nsub_mod (x := T) (y := c) hc) (k := ?_)
         rintro _ _ ⟨rfl, rfl⟩
         repeat (first | simp [F] | simp (disch := omega) only [wC, if_pos, if_neg])
         refine hJ19 _ _ ?_
         refine hK18 _ _ ?_
         rw [hsn]
         obtain ⟨M, hM⟩ : ∃ M, M = Q / 18446744073709551616 ^ q % 18446744073709551616 := ⟨_, rfl⟩
         have hgM : (prodA Q)[q]? = some (.v (.int .u64 M)) := by rw [hM]; exact digU_get hq8
         obtain ⟨_, hgM2⟩ := List.getElem?_eq_some_iff.1 hgM
         have hQ0 : Q / 2 ^ j % 2 = 0 := by rw [hQ, Nat.pow_succ, show x / (2 ^ j * 2) / c * (2 ^ j * 2) = 2 ^ j * (x / (2 ^ j * 2) / c * 2) by grind, Nat.mul_div_cancel_left _ (Nat.two_pow_pos j)]; omega
         have hQ2 : x / 2 ^ j / c * 2 ^ j = Q + 2 ^ j := by rw [hd4, hQ, Nat.pow_succ]; grind
         have hQl : Q + 2 ^ j < 2 ^ 512 := by rw [← hQ2]; exact Nat.lt_of_le_of_lt (Nat.le_trans (Nat.mul_le_mul_right _ (Nat.div_le_self _ _)) (Nat.div_mul_le_self _ _)) hx
         obtain ⟨hb1, hb2, hb3⟩ := digs_bit hM hr64 (show j = 64 * q + r by omega) hq8 hQ0 hQl
         have hsl := shl_bit' hr64
         obtain ⟨E, hE⟩ : ∃ E, E = 2 ^ r := ⟨_, rfl⟩
         rw [← hE] at hb1 hb2 hb3 hsl
         have hoM := orI_nat (a := M) (b := E) (by omega) (by omega)
         rw [hb2] at hoM
         obtain ⟨M2, hM2⟩ : ∃ M2, M2 = M + E := ⟨_, rfl⟩
         rw [← hM2] at hoM hb3
         have hset := u64s_set (digs 18446744073709551616 8 Q) q M2 (by simpa using hq8)
         rw [hb3] at hset
         replace F := And.intro hgM F
         replace F := And.intro hgM2 F
         replace F := And.intro hsl F
         replace F := And.intro hoM F
         replace F := And.intro hd5 F
         replace F := And.intro hQ2 F
         refine run_draw (by kernel_rfl) fun J20 hJ20 => ?_
         refine rp2 0 (k := ?_)
         refine rp2 1 (k := ?_)
         refine rp2 2 (k := ?_)
         refine rp2 3 (k := ?_)
         refine rp2 4 (k := ?_)
         refine rp2 5 (k := ?_)
         refine rp2 6 (k := ?_)
         refine rp2 7 (k := ?_)
         refine rp2 8 (k := ?_)
         refine dop 9 rfl ?_
         repeat (first | simp [F] | simp (disch := omega) only [wC, if_pos, if_neg])
         refine ⟨ln, ?_⟩
         refine dd ?_
         refine hJ20 _ _ ?_
         refine hK13 _ _ ?_
         refine rg' (h := fun J21 hJ21 => ?_)
         refine hJ21 _ _ ?_
         refine ⟨(j), ⟨kp, lp, lp, ?_⟩, lp⟩
         · simp [F]
           exact hset
      try exact nope g7_2
      all_goals have g7_2p := g7_2
      all_goals try simp [F] at g7_2p
      all_goals
       replace F := And.intro g7_2 F
       try replace F := And.intro g7_2p F
       have hT0 : T < 2 ^ 256 := by have h := g7_2; simp only [bne_eq_false_iff_eq] at h; omega
       refine go2 (k := ?_)
       refine go2 (k := ?_)
       refine ca (c := cmp_ok (x := T) (y := c) hT0 hc) (k := ?_)
       rintro _ _ ⟨rfl, rfl⟩
       repeat (first | simp [F] | simp (disch := omega) only [wC, if_pos, if_neg])
       refine go2 (k := ?_)
       refine hJ17 _ _ ?_
       refine hK16 _ _ ?_
       refine cs (fun c30 => ?_) (fun c30 => ?_)
       · try exact nope c30
         all_goals have c30p := c30
         all_goals try simp [F] at c30p
         all_goals
          replace F := And.intro c30 F
          try replace F := And.intro c30p F
          have hcT : c ≤ T := by have h := c30; simp only [decide_eq_true_eq] at h; exact cmpI_ge h
          have hsn : subN (T % 2 ^ 256) c = T - c := by unfold subN; omega
          obtain ⟨hd4, hd5⟩ := hd2 hcT
          refine sq fun K22 hK22 => ?_
          refine rg' (h := fun J23 hJ23 => ?_)
          refine ca (c := nsub_mod (x := T) (y := c) hc) (k := ?_)
          rintro _ _ ⟨rfl, rfl⟩
          repeat (first | simp [F] | simp (disch := omega) only [wC, if_pos, if_neg])
          refine hJ23 _ _ ?_
          refine hK22 _ _ ?_
          rw [hsn]
          obtain ⟨M, hM⟩ : ∃ M, M = Q / 18446744073709551616 ^ q % 18446744073709551616 := ⟨_, rfl⟩
          have hgM : (prodA Q)[q]? = some (.v (.int .u64 M)) := by rw [hM]; exact digU_get hq8
          obtain ⟨_, hgM2⟩ := List.getElem?_eq_some_iff.1 hgM
          have hQ0 : Q / 2 ^ j % 2 = 0 := by rw [hQ, Nat.pow_succ, show x / (2 ^ j * 2) / c * (2 ^ j * 2) = 2 ^ j * (x / (2 ^ j * 2) / c * 2) by grind, Nat.mul_div_cancel_left _ (Nat.two_pow_pos j)]; omega
          have hQ2 : x / 2 ^ j / c * 2 ^ j = Q + 2 ^ j := by rw [hd4, hQ, Nat.pow_succ]; grind
          have hQl : Q + 2 ^ j < 2 ^ 512 := by rw [← hQ2]; exact Nat.lt_of_le_of_lt (Nat.le_trans (Nat.mul_le_mul_right _ (Nat.div_le_self _ _)) (Nat.div_mul_le_self _ _)) hx
          obtain ⟨hb1, hb2, hb3⟩ := digs_bit hM hr64 (show j = 64 * q + r by omega) hq8 hQ0 hQl
          have hsl := shl_bit' hr64
          obtain ⟨E, hE⟩ : ∃ E, E = 2 ^ r := ⟨_, rfl⟩
          rw [← hE] at hb1 hb2 hb3 hsl
          have hoM := orI_nat (a := M) (b := E) (by omega) (by omega)
          rw [hb2] at hoM
          obtain ⟨M2, hM2⟩ : ∃ M2, M2 = M + E := ⟨_, rfl⟩
          rw [← hM2] at hoM hb3
          have hset := u64s_set (digs 18446744073709551616 8 Q) q M2 (by simpa using hq8)
          rw [hb3] at hset
          replace F := And.intro hgM F
          replace F := And.intro hgM2 F
          replace F := And.intro hsl F
          replace F := And.intro hoM F
          replace F := And.intro hd5 F
          replace F := And.intro hQ2 F
          refine run_draw (by kernel_rfl) fun J24 hJ24 => ?_
          refine rp2 0 (k := ?_)
          refine rp2 1 (k := ?_)
          refine rp2 2 (k := ?_)
          refine rp2 3 (k := ?_)
          refine rp2 4 (k := ?_)
          refine rp2 5 (k := ?_)
          refine rp2 6 (k := ?_)
          refine rp2 7 (k := ?_)
          refine rp2 8 (k := ?_)
          refine dop 9 rfl ?_
          repeat (first | simp [F] | simp (disch := omega) only [wC, if_pos, if_neg])
          refine ⟨ln, ?_⟩
          refine dd ?_
          refine hJ24 _ _ ?_
          refine hK13 _ _ ?_
          refine rg' (h := fun J25 hJ25 => ?_)
          refine hJ25 _ _ ?_
          refine ⟨(j), ⟨kp, lp, lp, ?_⟩, lp⟩
          · simp [F]
            exact hset
       try exact nope c30
       all_goals have c30p := c30
       all_goals try simp [F] at c30p
       all_goals
        replace F := And.intro c30 F
        try replace F := And.intro c30p F
        have hcT : T < c := by have h := c30; simp only [decide_eq_false_iff_not] at h; exact cmpI_lt h
        obtain ⟨hd4, hd5⟩ := hd1 hcT
        have hQ2 : x / 2 ^ j / c * 2 ^ j = Q := by rw [hd4, hQ, Nat.pow_succ]; grind
        replace F := And.intro hd5 (And.intro hQ2 F)
        refine run_skip ?_
        refine hK13 _ _ ?_
        refine rg' (h := fun J26 hJ26 => ?_)
        refine hJ26 _ _ ?_
        refine ⟨(j), ⟨kp, lp, lp, lp⟩, lp⟩
   try exact nope c11
   all_goals have c11p := c11
   all_goals try simp [F] at c11p
   all_goals
    replace F := And.intro c11 F
    try replace F := And.intro c11p F
    obtain rfl : n = 0 := by simp at c11; omega
    have e0 : x / 2 ^ 0 / c * 2 ^ 0 = x / c := by simp
    have e1 : x / 2 ^ 0 % c = x % c := by simp
    rw [e0, e1]
    refine run_exit ?_
    refine hK7 _ _ ?_
    refine sq fun K27 hK27 => ?_
    refine run_draw (by kernel_rfl) fun J28 hJ28 => ?_
    refine rp2 0 (k := ?_)
    refine rp2 1 (k := ?_)
    refine dop 2 rfl ?_
    repeat (first | simp [F] | simp (disch := omega) only [wC, if_pos, if_neg])
    refine ⟨by first | exact fun _ _ h => h | (refine later_list [1] (by kernel_rfl) (List.forall_mem_cons.2 ⟨fun _ => fact2 rfl rfl ?_, fun _ h => absurd h List.not_mem_nil⟩) <;> constructor <;> first | rfl | (simp [F]; done)), ?_⟩
    refine dop 3 rfl ?_
    repeat (first | simp [F] | simp (disch := omega) only [wC, if_pos, if_neg])
    refine ⟨ln, ?_⟩
    refine dd ?_
    refine hJ28 _ _ ?_
    refine hK27 _ _ ?_
    refine run_ret ?_
    try simp only [Then, InBlock, NoGoto]
    refine acell22 (h := ?_)
    exact gcr

end Go.Proofs.Ytdbaddholggkbaa

/-
  Numbers: a product by a number; coins.
-/
namespace Go.Proofs.Ytdbaddholggkbaa
set_option linter.unnecessarySimpa false
set_option maxRecDepth 100000
set_option exponentiation.threshold 600
open Go Go.Vm
set_option linter.unusedSimpArgs false
set_option linter.unusedVariables false

attribute [local simp] evalL wantedA isCall opA evalA evalAll evalsA evalOpt ofValue ofCell plain binA_eql_pn binA_neq_pn binA_gtr binA_lss binA_geq binA_leq binA_add binA_sub binA_eql binA_neq binA_orI binA_andI binA_shl binA_shr binA_mul binA_quo binA_rem binA_agg_eql binA_agg_neq convA_int unA_not fieldAddrA loadA partA pickA_true pickA_false pickA_bb lenA builtinA storeA splice AV.cells AV.isCell sliceA boundA intA callOf indexAddrA newObjA buildA fillA zeroA ofCells buildSliceA indexA fieldA numA_len4 numA_take4 numA_drop4 set_appN get_appN List.getElem?_cons_zero List.getElem?_cons_succ

/-- A product by a number, rounded down or up. -/
def mdQ (a b c : Nat) (up : Bool) : Nat := a * b / c + (if up = true ∧ a * b % c ≠ 0 then 1 else 0)
def mdN (a b c : Nat) (up : Bool) : Nat := if c = 0 then 0 else if mdQ a b c up < 2 ^ 256 then mdQ a b c up else 0
def mdE (a b c : Nat) (up : Bool) : Nat := if c = 0 then 1 else if mdQ a b c up < 2 ^ 256 then 0 else 2

theorem prod_lt {a b : Nat} (ha : a < 2 ^ 256) (hb : b < 2 ^ 256) : a * b < 2 ^ 512 := by
  have : a * b < 2 ^ 256 * 2 ^ 256 := Nat.mul_lt_mul'' ha hb
  rwa [← Nat.pow_add] at this

theorem md_over {a b c : Nat} {up : Bool} (h0 : ¬ c = 0) (hq : ¬ a * b / c < 2 ^ 256) : mdN a b c up = 0 ∧ mdE a b c up = 2 := by
  have : ¬ mdQ a b c up < 2 ^ 256 := by unfold mdQ; omega
  simp only [mdN, mdE, if_neg h0, if_neg this, and_self]
theorem md_add {a b c : Nat} (h0 : ¬ c = 0) (hr : ¬ a * b % c = 0) : mdN a b c true = addN (a * b / c) 1 ∧ mdE a b c true = addE (a * b / c) 1 := by
  have : mdQ a b c true = a * b / c + 1 := by unfold mdQ; rw [if_pos ⟨rfl, hr⟩]
  simp only [mdN, mdE, if_neg h0, this, addN, addE, and_self]
theorem md_plain {a b c : Nat} {up : Bool} (h0 : ¬ c = 0) (hq : a * b / c < 2 ^ 256) (h : up = false ∨ a * b % c = 0) : mdN a b c up = a * b / c ∧ mdE a b c up = 0 := by
  have : mdQ a b c up = a * b / c := by
    unfold mdQ; rw [if_neg]; omega
    rintro ⟨h1, h2⟩; rcases h with h | h
    · rw [h] at h1; cases h1
    · exact h2 h
  simp only [mdN, mdE, if_neg h0, this, if_pos hq, and_self]

set_option maxHeartbeats 1600000 in
attribute [local simp] undefA List.getElem?_cons_zero List.getElem?_cons_succ prodA_take8 prodA_drop8 prodA_len fitsK prodA_zero numA_zero4 in
theorem muldiv_ok {σ : St} {a b c : Nat} {up : Bool} (ha : a < 2 ^ 256) (hb : b < 2 ^ 256) (hc : c < 2 ^ 256) :
    CallsA Try.prog 66 [.agg (numA a), .agg (numA b), .agg (numA c), .v (.bool up)] σ (fun av σ' => av = .tup [.agg (numA (mdN a b c up)), .v (.int .i64 (mdE a b c up : Nat))] ∧ σ = σ') := by
  refine callsA_gcS ?_ (by simp [AV.under, underL, numA])
  have hcq : cellsEqA (numA c) [.v (.int .u64 0), .v (.int .u64 0), .v (.int .u64 0), .v (.int .u64 0)] = decide (c = 0) := cellsEq_num0 (x := ⟨c, hc⟩)
  have hfn : ∀ x, fitsK [some .u64, some .u64, some .u64, some .u64] (numA x) = true := fun x => rfl
  have hP := prod_lt ha hb
  have hz0 : cellsEqA (numA 0) (numA 0) = true := rfl
  rw [numA_zero4] at hz0
  have hqP : a * b / c < 2 ^ 512 := Nat.lt_of_le_of_lt (Nat.div_le_self _ _) hP
  have F := And.intro hz0 (And.intro hcq (And.intro hfn (True.intro)))
  refine callsA_body Try.func66 rfl rfl rfl ?_
  refine sq fun K1 hK1 => ?_
  refine rg' (h := fun J2 hJ2 => ?_)
  refine hJ2 _ _ ?_
  refine hK1 _ _ ?_
  refine sq fun K3 hK3 => ?_
  refine sq fun K4 hK4 => ?_
  refine rg' (h := fun J5 hJ5 => ?_)
  refine hJ5 _ _ ?_
  refine hK4 _ _ ?_
  refine cs (fun c16 => ?_) (fun c16 => ?_)
  · try exact nope c16
    all_goals have c16p := c16
    all_goals try simp [F] at c16p
    all_goals
     replace F := And.intro c16 F
     try replace F := And.intro c16p F
     have h0 : c = 0 := by simpa using c16
     subst h0
     have e1 : mdN a b 0 up = 0 := by simp [mdN]
     have e2 : mdE a b 0 up = 1 := by simp [mdE]
     replace F := And.intro e1 (And.intro e2 F)
     refine sq fun K6 hK6 => ?_
     refine rg' (h := fun J7 hJ7 => ?_)
     refine hJ7 _ _ ?_
     refine hK6 _ _ ?_
     refine run_ret ?_
     try simp only [Then, InBlock, NoGoto]
     refine acell2 (h := ?_)
     exact gcr
  try exact nope c16
  all_goals have c16p := c16
  all_goals try simp [F] at c16p
  all_goals
   replace F := And.intro c16 F
   try replace F := And.intro c16p F
   have h0 : ¬ c = 0 := by simpa using c16
   refine run_skip ?_
   refine hK3 _ _ ?_
   refine sqc (X := Bool) [3, 8, 9] (fun k ρ σ1 => (ρ 10 = .ptr (σ.objs.length + bif k then 4 else 5) 0) ∧ (ρ 11 = .ptr (σ.objs.length + bif k then 5 else 4) 0) ∧ (σ1 = { σ with objs := σ.objs ++ [numA a, numA b, numA c, numA 0] ++ (bif k then [prodA (a * b / c), numA (a * b % c)] else [numA (a * b % c), prodA (a * b / c)]) })) ?cy8 ?cx8
   case cy8 =>
    rintro k ρCr3 σ1 hFCr3 ⟨h10, h11, hσ⟩
    obtain rfl := hσ.symm
    have fCr3 := keepL hFCr3
    try simp [KeepL, F] at fCr3
    replace F := And.intro h10 F
    replace F := And.intro h11 F
    try replace F := And.intro fCr3 F
    have hov := md_over (a := a) (b := b) (up := up) h0
    have had : up = true → ¬ a * b % c = 0 → mdN a b c up = addN (a * b / c) 1 ∧ mdE a b c up = addE (a * b / c) 1 := fun e hr => by subst e; exact md_add h0 hr
    have hpl := md_plain (a := a) (b := b) (up := up) h0
    by_cases hq : a * b / c < 2 ^ 256 <;> by_cases hr : a * b % c = 0 <;> cases up <;> cases k
    all_goals simp at h10 h11 F
    all_goals simp
    all_goals try replace F := And.intro (hov hq) F
    all_goals try replace F := And.intro (had rfl hr) F
    all_goals try replace F := And.intro (hpl hq (by first | exact .inl rfl | exact .inr hr)) F
    all_goals have hcr : cellsEqA (numA (a * b % c)) [.v (.int .u64 0), .v (.int .u64 0), .v (.int .u64 0), .v (.int .u64 0)] = decide (a * b % c = 0) := cellsEq_num0 (x := ⟨a * b % c, Nat.lt_of_lt_of_le (Nat.mod_lt _ (by omega)) (Nat.le_of_lt hc)⟩)
    all_goals replace F := And.intro hq (And.intro hr (And.intro hcr F))
    all_goals
     refine sq fun K9 hK9 => ?_
     refine rg' (h := fun J10 hJ10 => ?_)
     refine ca (c := low_ok hqP) (k := ?_)
     rintro _ _ ⟨rfl, rfl⟩
     repeat (first | simp [F] | simp (disch := omega) only [wC, if_pos, if_neg])
     refine hJ10 _ _ ?_
     refine hK9 _ _ ?_
     refine sq fun K11 hK11 => ?_
     refine sq fun K12 hK12 => ?_
     refine rg' (h := fun J13 hJ13 => ?_)
     refine gs 33 (fun g5_2 => ?_) (fun g5_2 => ?_)
     · try exact nope g5_2
       all_goals have g5_2p := g5_2
       all_goals try simp [F] at g5_2p
       all_goals
        replace F := And.intro g5_2 F
        try replace F := And.intro g5_2p F
        refine go2 (k := ?_)
        refine gs 36 (fun g5_5 => ?_) (fun g5_5 => ?_)
        · try exact nope g5_5
          all_goals have g5_5p := g5_5
          all_goals try simp [F] at g5_5p
          all_goals
           replace F := And.intro g5_5 F
           try replace F := And.intro g5_5p F
           refine go2 (k := ?_)
           refine go2 (k := ?_)
           refine go2 (k := ?_)
           refine hJ13 _ _ ?_
           refine hK12 _ _ ?_
           refine cs (fun c40 => ?_) (fun c40 => ?_)
           · try exact nope c40
             all_goals have c40p := c40
             all_goals try simp [F] at c40p
             all_goals
              replace F := And.intro c40 F
              try replace F := And.intro c40p F
              refine sq fun K14 hK14 => ?_
              refine run_draw (by kernel_rfl) fun J15 hJ15 => ?_
              refine rp2 0 (k := ?_)
              refine dc 1 rfl (c := nOf_ok (n := 1) (by decide)) (k := ?_)
              rintro _ _ ⟨rfl, rfl⟩
              refine ⟨by first | exact fun _ _ h => h | (refine later_list [0] (by kernel_rfl) (List.forall_mem_cons.2 ⟨fun _ => fact2 rfl rfl ?_, fun _ h => absurd h List.not_mem_nil⟩) <;> constructor <;> first | rfl | (simp [F]; done)), ?_⟩
              repeat (first | simp [F] | simp (disch := omega) only [wC, if_pos, if_neg])
              refine dc 2 rfl (c := nadd_ok (x := a * b / c) (y := 1) hq (by decide)) (k := ?_)
              rintro _ _ ⟨rfl, rfl⟩
              refine ⟨ln, ?_⟩
              repeat (first | simp [F] | simp (disch := omega) only [wC, if_pos, if_neg])
              refine rp2 3 (k := ?_)
              refine rp2 4 (k := ?_)
              refine dop 5 rfl ?_
              repeat (first | simp [F] | simp (disch := omega) only [wC, if_pos, if_neg])
              refine ⟨ln, ?_⟩
              refine rp2 6 (k := ?_)
              refine dd ?_
              refine hJ15 _ _ ?_
              refine hK14 _ _ ?_
              refine run_ret ?_
              try simp only [Then, InBlock, NoGoto]
              refine acell2 (h := ?_)
              exact gcr
           try exact nope c40
           all_goals have c40p := c40
           all_goals try simp [F] at c40p
           all_goals
            replace F := And.intro c40 F
            try replace F := And.intro c40p F
            refine run_skip ?_
            refine hK11 _ _ ?_
            refine sq fun K16 hK16 => ?_
            refine rg' (h := fun J17 hJ17 => ?_)
            refine hJ17 _ _ ?_
            refine hK16 _ _ ?_
            refine run_ret ?_
            try simp only [Then, InBlock, NoGoto]
            refine acell2 (h := ?_)
            exact gcr
        try exact nope g5_5
        all_goals have g5_5p := g5_5
        all_goals try simp [F] at g5_5p
        all_goals
         replace F := And.intro g5_5 F
         try replace F := And.intro g5_5p F
         refine no2 (k := ?_)
         refine no2 (k := ?_)
         refine no2 (k := ?_)
         refine hJ13 _ _ ?_
         refine hK12 _ _ ?_
         refine cf ?_
         refine run_skip ?_
         refine hK11 _ _ ?_
         refine sq fun K18 hK18 => ?_
         refine rg' (h := fun J19 hJ19 => ?_)
         refine hJ19 _ _ ?_
         refine hK18 _ _ ?_
         refine run_ret ?_
         try simp only [Then, InBlock, NoGoto]
         refine acell2 (h := ?_)
         exact gcr
     try exact nope g5_2
     all_goals have g5_2p := g5_2
     all_goals try simp [F] at g5_2p
     all_goals
      replace F := And.intro g5_2 F
      try replace F := And.intro g5_2p F
      refine no2 (k := ?_)
      refine no2 (k := ?_)
      refine no2 (k := ?_)
      refine no2 (k := ?_)
      refine hJ13 _ _ ?_
      refine hK12 _ _ ?_
      refine cf ?_
      refine run_skip ?_
      refine hK11 _ _ ?_
      refine sq fun K20 hK20 => ?_
      refine rg' (h := fun J21 hJ21 => ?_)
      refine hJ21 _ _ ?_
      refine hK20 _ _ ?_
      refine run_ret ?_
      try simp only [Then, InBlock, NoGoto]
      refine acell2 (h := ?_)
      exact gcr
   case cx8 =>
    intro K8 hK8
    refine run_draw (by kernel_rfl) fun J22 hJ22 => ?_
    refine rp2 0 (k := ?_)
    refine rp2 1 (k := ?_)
    refine rp2 3 (k := ?_)
    refine d3 2 8 9 ?_ ?_ ?_
    · refine ac 2 rfl (c := times_ok ha hb) (k := ?_)
      rintro _ _ ⟨rfl, rfl⟩
      refine ⟨by first | exact fun _ _ h => h | (refine later_list [3] (by kernel_rfl) (List.forall_mem_cons.2 ⟨fun _ => fact2 rfl rfl ?_, fun _ h => absurd h List.not_mem_nil⟩) <;> constructor <;> first | rfl | (simp [F]; done)), ?_⟩
      repeat (first | simp [F] | simp (disch := omega) only [wC, if_pos, if_neg])
      refine d3 4 8 9 ?_ ?_ ?_
      · refine ac 4 rfl (c := by_ok hP hc (by omega)) (k := ?_)
        rintro _ _ ⟨rfl, rfl⟩
        refine ⟨ln, ?_⟩
        repeat (first | simp [F] | simp (disch := omega) only [wC, if_pos, if_neg])
        refine rp2 5 (k := ?_)
        refine rp2 6 (k := ?_)
        refine rp2 7 (k := ?_)
        refine d2 8 9 ?_ ?_
        · refine ao 8 rfl ?_
          repeat (first | simp [F] | simp (disch := omega) only [wC, if_pos, if_neg])
          refine ⟨later_tmp (by kernel_rfl), ?_⟩
          refine dop 9 rfl ?_
          repeat (first | simp [F] | simp (disch := omega) only [wC, if_pos, if_neg])
          refine ⟨later_tmp (by kernel_rfl), ?_⟩
          refine dop 10 rfl ?_
          repeat (first | simp [F] | simp (disch := omega) only [wC, if_pos, if_neg])
          refine ⟨later_tmp (by kernel_rfl), ?_⟩
          refine dop 11 rfl ?_
          repeat (first | simp [F] | simp (disch := omega) only [wC, if_pos, if_neg])
          refine ⟨ln, ?_⟩
          refine dd ?_
          refine hJ22 _ _ ?_
          first | refine hK8 (true) _ _ ⟨kp, lp, lp, lp⟩ | refine hK8 (false) _ _ ⟨kp, lp, lp, lp⟩
        · refine ao 9 rfl ?_
          repeat (first | simp [F] | simp (disch := omega) only [wC, if_pos, if_neg])
          refine ⟨later_tmp (by kernel_rfl), ?_⟩
          refine dop 8 rfl ?_
          repeat (first | simp [F] | simp (disch := omega) only [wC, if_pos, if_neg])
          refine ⟨later_tmp (by kernel_rfl), ?_⟩
          refine dop 10 rfl ?_
          repeat (first | simp [F] | simp (disch := omega) only [wC, if_pos, if_neg])
          refine ⟨later_tmp (by kernel_rfl), ?_⟩
          refine dop 11 rfl ?_
          repeat (first | simp [F] | simp (disch := omega) only [wC, if_pos, if_neg])
          refine ⟨ln, ?_⟩
          refine dd ?_
          refine hJ22 _ _ ?_
          first | refine hK8 (true) _ _ ⟨kp, lp, lp, lp⟩ | refine hK8 (false) _ _ ⟨kp, lp, lp, lp⟩
      · refine ao 8 rfl ?_
        repeat (first | simp [F] | simp (disch := omega) only [wC, if_pos, if_neg])
        refine ⟨by first | exact later_more _ (by kernel_rfl) | exact later_more2 (by kernel_rfl) rfl, ?_⟩
        refine d2 4 9 ?_ ?_
        · refine ac 4 rfl (c := by_ok hP hc (by omega)) (k := ?_)
          rintro _ _ ⟨rfl, rfl⟩
          refine ⟨ln, ?_⟩
          repeat (first | simp [F] | simp (disch := omega) only [wC, if_pos, if_neg])
          refine rp2 5 (k := ?_)
          refine rp2 6 (k := ?_)
          refine rp2 7 (k := ?_)
          refine dop 9 rfl ?_
          repeat (first | simp [F] | simp (disch := omega) only [wC, if_pos, if_neg])
          refine ⟨later_tmp (by kernel_rfl), ?_⟩
          refine dop 10 rfl ?_
          repeat (first | simp [F] | simp (disch := omega) only [wC, if_pos, if_neg])
          refine ⟨later_tmp (by kernel_rfl), ?_⟩
          refine dop 11 rfl ?_
          repeat (first | simp [F] | simp (disch := omega) only [wC, if_pos, if_neg])
          refine ⟨ln, ?_⟩
          refine dd ?_
          refine hJ22 _ _ ?_
          first | refine hK8 (true) _ _ ⟨kp, lp, lp, lp⟩ | refine hK8 (false) _ _ ⟨kp, lp, lp, lp⟩
        · refine ao 9 rfl ?_
          repeat (first | simp [F] | simp (disch := omega) only [wC, if_pos, if_neg])
          refine ⟨by first | exact later_more _ (by kernel_rfl) | exact later_more2 (by kernel_rfl) rfl, ?_⟩
          refine dc 4 rfl (c := by_ok hP hc (by omega)) (k := ?_)
          rintro _ _ ⟨rfl, rfl⟩
          refine ⟨ln, ?_⟩
          repeat (first | simp [F] | simp (disch := omega) only [wC, if_pos, if_neg])
          refine rp2 5 (k := ?_)
          refine rp2 6 (k := ?_)
          refine rp2 7 (k := ?_)
          refine dop 10 rfl ?_
          repeat (first | simp [F] | simp (disch := omega) only [wC, if_pos, if_neg])
          refine ⟨later_tmp (by kernel_rfl), ?_⟩
          refine dop 11 rfl ?_
          repeat (first | simp [F] | simp (disch := omega) only [wC, if_pos, if_neg])
          refine ⟨ln, ?_⟩
          refine dd ?_
          refine hJ22 _ _ ?_
          first | refine hK8 (true) _ _ ⟨kp, lp, lp, lp⟩ | refine hK8 (false) _ _ ⟨kp, lp, lp, lp⟩
      · refine ao 9 rfl ?_
        repeat (first | simp [F] | simp (disch := omega) only [wC, if_pos, if_neg])
        refine ⟨by first | exact later_more _ (by kernel_rfl) | exact later_more2 (by kernel_rfl) rfl, ?_⟩
        refine d2 4 8 ?_ ?_
        · refine ac 4 rfl (c := by_ok hP hc (by omega)) (k := ?_)
          rintro _ _ ⟨rfl, rfl⟩
          refine ⟨ln, ?_⟩
          repeat (first | simp [F] | simp (disch := omega) only [wC, if_pos, if_neg])
          refine rp2 5 (k := ?_)
          refine rp2 6 (k := ?_)
          refine rp2 7 (k := ?_)
          refine dop 8 rfl ?_
          repeat (first | simp [F] | simp (disch := omega) only [wC, if_pos, if_neg])
          refine ⟨later_tmp (by kernel_rfl), ?_⟩
          refine dop 10 rfl ?_
          repeat (first | simp [F] | simp (disch := omega) only [wC, if_pos, if_neg])
          refine ⟨later_tmp (by kernel_rfl), ?_⟩
          refine dop 11 rfl ?_
          repeat (first | simp [F] | simp (disch := omega) only [wC, if_pos, if_neg])
          refine ⟨ln, ?_⟩
          refine dd ?_
          refine hJ22 _ _ ?_
          first | refine hK8 (true) _ _ ⟨kp, lp, lp, lp⟩ | refine hK8 (false) _ _ ⟨kp, lp, lp, lp⟩
        · refine ao 8 rfl ?_
          repeat (first | simp [F] | simp (disch := omega) only [wC, if_pos, if_neg])
          refine ⟨by first | exact later_more _ (by kernel_rfl) | exact later_more2 (by kernel_rfl) rfl, ?_⟩
          refine dc 4 rfl (c := by_ok hP hc (by omega)) (k := ?_)
          rintro _ _ ⟨rfl, rfl⟩
          refine ⟨ln, ?_⟩
          repeat (first | simp [F] | simp (disch := omega) only [wC, if_pos, if_neg])
          refine rp2 5 (k := ?_)
          refine rp2 6 (k := ?_)
          refine rp2 7 (k := ?_)
          refine dop 10 rfl ?_
          repeat (first | simp [F] | simp (disch := omega) only [wC, if_pos, if_neg])
          refine ⟨later_tmp (by kernel_rfl), ?_⟩
          refine dop 11 rfl ?_
          repeat (first | simp [F] | simp (disch := omega) only [wC, if_pos, if_neg])
          refine ⟨ln, ?_⟩
          refine dd ?_
          refine hJ22 _ _ ?_
          first | refine hK8 (true) _ _ ⟨kp, lp, lp, lp⟩ | refine hK8 (false) _ _ ⟨kp, lp, lp, lp⟩
    · refine ao 8 rfl ?_
      repeat (first | simp [F] | simp (disch := omega) only [wC, if_pos, if_neg])
      refine ⟨by first | exact later_more _ (by kernel_rfl) | exact later_more2 (by kernel_rfl) rfl, ?_⟩
      refine d2 2 9 ?_ ?_
      · refine ac 2 rfl (c := times_ok ha hb) (k := ?_)
        rintro _ _ ⟨rfl, rfl⟩
        refine ⟨by first | exact fun _ _ h => h | (refine later_list [3] (by kernel_rfl) (List.forall_mem_cons.2 ⟨fun _ => fact2 rfl rfl ?_, fun _ h => absurd h List.not_mem_nil⟩) <;> constructor <;> first | rfl | (simp [F]; done)), ?_⟩
        repeat (first | simp [F] | simp (disch := omega) only [wC, if_pos, if_neg])
        refine d2 4 9 ?_ ?_
        · refine ac 4 rfl (c := by_ok hP hc (by omega)) (k := ?_)
          rintro _ _ ⟨rfl, rfl⟩
          refine ⟨ln, ?_⟩
          repeat (first | simp [F] | simp (disch := omega) only [wC, if_pos, if_neg])
          refine rp2 5 (k := ?_)
          refine rp2 6 (k := ?_)
          refine rp2 7 (k := ?_)
          refine dop 9 rfl ?_
          repeat (first | simp [F] | simp (disch := omega) only [wC, if_pos, if_neg])
          refine ⟨later_tmp (by kernel_rfl), ?_⟩
          refine dop 10 rfl ?_
          repeat (first | simp [F] | simp (disch := omega) only [wC, if_pos, if_neg])
          refine ⟨later_tmp (by kernel_rfl), ?_⟩
          refine dop 11 rfl ?_
          repeat (first | simp [F] | simp (disch := omega) only [wC, if_pos, if_neg])
          refine ⟨ln, ?_⟩
          refine dd ?_
          refine hJ22 _ _ ?_
          first | refine hK8 (true) _ _ ⟨kp, lp, lp, lp⟩ | refine hK8 (false) _ _ ⟨kp, lp, lp, lp⟩
        · refine ao 9 rfl ?_
          repeat (first | simp [F] | simp (disch := omega) only [wC, if_pos, if_neg])
          refine ⟨by first | exact later_more _ (by kernel_rfl) | exact later_more2 (by kernel_rfl) rfl, ?_⟩
          refine dc 4 rfl (c := by_ok hP hc (by omega)) (k := ?_)
          rintro _ _ ⟨rfl, rfl⟩
          refine ⟨ln, ?_⟩
          repeat (first | simp [F] | simp (disch := omega) only [wC, if_pos, if_neg])
          refine rp2 5 (k := ?_)
          refine rp2 6 (k := ?_)
          refine rp2 7 (k := ?_)
          refine dop 10 rfl ?_
          repeat (first | simp [F] | simp (disch := omega) only [wC, if_pos, if_neg])
          refine ⟨later_tmp (by kernel_rfl), ?_⟩
          refine dop 11 rfl ?_
          repeat (first | simp [F] | simp (disch := omega) only [wC, if_pos, if_neg])
          refine ⟨ln, ?_⟩
          refine dd ?_
          refine hJ22 _ _ ?_
          first | refine hK8 (true) _ _ ⟨kp, lp, lp, lp⟩ | refine hK8 (false) _ _ ⟨kp, lp, lp, lp⟩
      · refine ao 9 rfl ?_
        repeat (first | simp [F] | simp (disch := omega) only [wC, if_pos, if_neg])
        refine ⟨by first | exact later_more _ (by kernel_rfl) | exact later_more2 (by kernel_rfl) rfl, ?_⟩
        refine dc 2 rfl (c := times_ok ha hb) (k := ?_)
        rintro _ _ ⟨rfl, rfl⟩
        refine ⟨by first | exact fun _ _ h => h | (refine later_list [3] (by kernel_rfl) (List.forall_mem_cons.2 ⟨fun _ => fact2 rfl rfl ?_, fun _ h => absurd h List.not_mem_nil⟩) <;> constructor <;> first | rfl | (simp [F]; done)), ?_⟩
        repeat (first | simp [F] | simp (disch := omega) only [wC, if_pos, if_neg])
        refine dc 4 rfl (c := by_ok hP hc (by omega)) (k := ?_)
        rintro _ _ ⟨rfl, rfl⟩
        refine ⟨ln, ?_⟩
        repeat (first | simp [F] | simp (disch := omega) only [wC, if_pos, if_neg])
        refine rp2 5 (k := ?_)
        refine rp2 6 (k := ?_)
        refine rp2 7 (k := ?_)
        refine dop 10 rfl ?_
        repeat (first | simp [F] | simp (disch := omega) only [wC, if_pos, if_neg])
        refine ⟨later_tmp (by kernel_rfl), ?_⟩
        refine dop 11 rfl ?_
        repeat (first | simp [F] | simp (disch := omega) only [wC, if_pos, if_neg])
        refine ⟨ln, ?_⟩
        refine dd ?_
        refine hJ22 _ _ ?_
        first | refine hK8 (true) _ _ ⟨kp, lp, lp, lp⟩ | refine hK8 (false) _ _ ⟨kp, lp, lp, lp⟩
    · refine ao 9 rfl ?_
      repeat (first | simp [F] | simp (disch := omega) only [wC, if_pos, if_neg])
      refine ⟨by first | exact later_more _ (by kernel_rfl) | exact later_more2 (by kernel_rfl) rfl, ?_⟩
      refine d2 2 8 ?_ ?_
      · refine ac 2 rfl (c := times_ok ha hb) (k := ?_)
        rintro _ _ ⟨rfl, rfl⟩
        refine ⟨by first | exact fun _ _ h => h | (refine later_list [3] (by kernel_rfl) (List.forall_mem_cons.2 ⟨fun _ => fact2 rfl rfl ?_, fun _ h => absurd h List.not_mem_nil⟩) <;> constructor <;> first | rfl | (simp [F]; done)), ?_⟩
        repeat (first | simp [F] | simp (disch := omega) only [wC, if_pos, if_neg])
        refine d2 4 8 ?_ ?_
        · refine ac 4 rfl (c := by_ok hP hc (by omega)) (k := ?_)
          rintro _ _ ⟨rfl, rfl⟩
          refine ⟨ln, ?_⟩
          repeat (first | simp [F] | simp (disch := omega) only [wC, if_pos, if_neg])
          refine rp2 5 (k := ?_)
          refine rp2 6 (k := ?_)
          refine rp2 7 (k := ?_)
          refine dop 8 rfl ?_
          repeat (first | simp [F] | simp (disch := omega) only [wC, if_pos, if_neg])
          refine ⟨later_tmp (by kernel_rfl), ?_⟩
          refine dop 10 rfl ?_
          repeat (first | simp [F] | simp (disch := omega) only [wC, if_pos, if_neg])
          refine ⟨later_tmp (by kernel_rfl), ?_⟩
          refine dop 11 rfl ?_
          repeat (first | simp [F] | simp (disch := omega) only [wC, if_pos, if_neg])
          refine ⟨ln, ?_⟩
          refine dd ?_
          refine hJ22 _ _ ?_
          first | refine hK8 (true) _ _ ⟨kp, lp, lp, lp⟩ | refine hK8 (false) _ _ ⟨kp, lp, lp, lp⟩
        · refine ao 8 rfl ?_
          repeat (first | simp [F] | simp (disch := omega) only [wC, if_pos, if_neg])
          refine ⟨by first | exact later_more _ (by kernel_rfl) | exact later_more2 (by kernel_rfl) rfl, ?_⟩
          refine dc 4 rfl (c := by_ok hP hc (by omega)) (k := ?_)
          rintro _ _ ⟨rfl, rfl⟩
          refine ⟨ln, ?_⟩
          repeat (first | simp [F] | simp (disch := omega) only [wC, if_pos, if_neg])
          refine rp2 5 (k := ?_)
          refine rp2 6 (k := ?_)
          refine rp2 7 (k := ?_)
          refine dop 10 rfl ?_
          repeat (first | simp [F] | simp (disch := omega) only [wC, if_pos, if_neg])
          refine ⟨later_tmp (by kernel_rfl), ?_⟩
          refine dop 11 rfl ?_
          repeat (first | simp [F] | simp (disch := omega) only [wC, if_pos, if_neg])
          refine ⟨ln, ?_⟩
          refine dd ?_
          refine hJ22 _ _ ?_
          first | refine hK8 (true) _ _ ⟨kp, lp, lp, lp⟩ | refine hK8 (false) _ _ ⟨kp, lp, lp, lp⟩
      · refine ao 8 rfl ?_
        repeat (first | simp [F] | simp (disch := omega) only [wC, if_pos, if_neg])
        refine ⟨by first | exact later_more _ (by kernel_rfl) | exact later_more2 (by kernel_rfl) rfl, ?_⟩
        refine dc 2 rfl (c := times_ok ha hb) (k := ?_)
        rintro _ _ ⟨rfl, rfl⟩
        refine ⟨by first | exact fun _ _ h => h | (refine later_list [3] (by kernel_rfl) (List.forall_mem_cons.2 ⟨fun _ => fact2 rfl rfl ?_, fun _ h => absurd h List.not_mem_nil⟩) <;> constructor <;> first | rfl | (simp [F]; done)), ?_⟩
        repeat (first | simp [F] | simp (disch := omega) only [wC, if_pos, if_neg])
        refine dc 4 rfl (c := by_ok hP hc (by omega)) (k := ?_)
        rintro _ _ ⟨rfl, rfl⟩
        refine ⟨ln, ?_⟩
        repeat (first | simp [F] | simp (disch := omega) only [wC, if_pos, if_neg])
        refine rp2 5 (k := ?_)
        refine rp2 6 (k := ?_)
        refine rp2 7 (k := ?_)
        refine dop 10 rfl ?_
        repeat (first | simp [F] | simp (disch := omega) only [wC, if_pos, if_neg])
        refine ⟨later_tmp (by kernel_rfl), ?_⟩
        refine dop 11 rfl ?_
        repeat (first | simp [F] | simp (disch := omega) only [wC, if_pos, if_neg])
        refine ⟨ln, ?_⟩
        refine dd ?_
        refine hJ22 _ _ ?_
        first | refine hK8 (true) _ _ ⟨kp, lp, lp, lp⟩ | refine hK8 (false) _ _ ⟨kp, lp, lp, lp⟩

end Go.Proofs.Ytdbaddholggkbaa

/-
  Coins: amounts, sums, rests.
-/
namespace Go.Proofs.Ytdbaddholggkbaa
set_option linter.unnecessarySimpa false
set_option maxRecDepth 100000
open Go Go.Vm
set_option linter.unusedSimpArgs false
set_option linter.unusedVariables false

attribute [local simp] evalL wantedA isCall opA evalA evalAll evalsA evalOpt ofValue ofCell plain binA_eql_pn binA_neq_pn binA_gtr binA_lss binA_geq binA_leq binA_add binA_sub binA_eql binA_neq binA_orI binA_andI binA_shl binA_shr binA_mul binA_quo binA_rem binA_agg_eql binA_agg_neq convA_int unA_not fieldAddrA loadA partA pickA_true pickA_false pickA_bb lenA builtinA storeA splice AV.cells AV.isCell sliceA boundA intA callOf indexAddrA newObjA buildA fillA zeroA ofCells buildSliceA indexA fieldA numA_len4 numA_take4 numA_drop4 set_appN get_appN take_appN List.getElem?_cons_zero List.getElem?_cons_succ

set_option maxHeartbeats 1600000 in
attribute [local simp] undefA List.getElem?_cons_zero List.getElem?_cons_succ numA_zero4 coinC in
theorem amount_ok {σ : St} {l : List Coin} {d : UInt8} {tl : Tail} (hl : l.length ≤ 9223372036854775807) :
    CallsA Try.prog 144 [.sl 5 (coinsC l) l.length tl, .v (.int .u8 d.toNat)] σ (fun av σ' => av = .agg (numA (amt l d.toNat)) ∧ σ = σ') := by
  refine callsA_gcS ?_ rfl
  have F := True.intro
  refine callsA_body Try.func144 rfl rfl rfl ?_
  refine sq fun K1 hK1 => ?_
  refine rg' (h := fun J2 hJ2 => ?_)
  refine hJ2 _ _ ?_
  refine hK1 _ _ ?_
  refine sq fun K3 hK3 => ?_
  refine sq fun K4 hK4 => ?_
  refine rg' (h := fun J5 hJ5 => ?_)
  refine hJ5 _ _ ?_
  refine hK4 _ _ ?_
  refine run_block_k ?_
  refine run_loopG (X := Nat) [1, 4, 7, 8] (fun i ρ σ1 => (i ≤ l.length) ∧ (amt l d.toNat = amt (l.drop i) d.toNat) ∧ (ρ 9 = .v (.int .i64 i)) ∧ (σ1 = { σ with objs := σ.objs ++ [numA 0] })) (fun i => l.length - i) (0) ?st1 ?rd1
  case st1 =>
   refine ⟨lp, lp, lp, ?_⟩
   · rfl
  case rd1 =>
   rintro i ρ1 σ1 hF1 ⟨hi, hA, h9, hσ⟩
   obtain rfl := hσ.symm
   have f1 := keepL hF1
   try simp [KeepL, F] at f1
   replace F := And.intro h9 F
   try replace F := And.intro f1 F
   refine sq fun K6 hK6 => ?_
   refine rg' (h := fun J7 hJ7 => ?_)
   refine hJ7 _ _ ?_
   refine hK6 _ _ ?_
   refine sq fun K8 hK8 => ?_
   refine cs (fun c10 => ?_) (fun c10 => ?_)
   · try exact nope c10
     all_goals have c10p := c10
     all_goals try simp [F] at c10p
     all_goals
      replace F := And.intro c10 F
      try replace F := And.intro c10p F
      refine run_skip ?_
      refine hK8 _ _ ?_
      refine sq fun K9 hK9 => ?_
      refine run_block_k ?_
      refine sq fun K10 hK10 => ?_
      have hlt : i < l.length := by simp at c10; omega
      have hat := coinsC_at hlt
      simp only [coinC] at hat
      have hb1 : i * 5 + 5 ≤ l.length * 5 := by omega
      have hcons : l.drop i = l[i] :: l.drop (i + 1) := List.drop_eq_getElem_cons hlt
      replace F := And.intro hat F
      replace F := And.intro hb1 F
      refine rg' (h := fun J11 hJ11 => ?_)
      refine hJ11 _ _ ?_
      refine hK10 _ _ ?_
      refine sq fun K12 hK12 => ?_
      refine rg' (h := fun J13 hJ13 => ?_)
      refine hJ13 _ _ ?_
      refine hK12 _ _ ?_
      refine cs (fun c16 => ?_) (fun c16 => ?_)
      · try exact nope c16
        all_goals have c16p := c16
        all_goals try simp [F] at c16p
        all_goals
         replace F := And.intro c16 F
         try replace F := And.intro c16p F
         have hd : l[i].d.toNat = d.toNat := by have h := c16; simp at h; first | omega | (subst h; rfl) | (rw [h])
         have hA2 : amt l d.toNat = l[i].n.v := by rw [hA, hcons]; unfold amt; rw [if_pos hd]
         replace F := And.intro hA2 F
         refine sq fun K14 hK14 => ?_
         refine rg' (h := fun J15 hJ15 => ?_)
         refine hJ15 _ _ ?_
         refine hK14 _ _ ?_
         refine run_ret ?_
         try simp only [Then, InBlock, NoGoto]
         refine acell (h := ?_)
         exact gcr
      try exact nope c16
      all_goals have c16p := c16
      all_goals try simp [F] at c16p
      all_goals
       replace F := And.intro c16 F
       try replace F := And.intro c16p F
       have hd : ¬ l[i].d.toNat = d.toNat := by have h := c16; simp at h; first | omega | (intro e; exact h (UInt8.toNat_inj.1 e))
       refine run_skip ?_
       refine hK9 _ _ ?_
       refine rg' (h := fun J16 hJ16 => ?_)
       refine hJ16 _ _ ?_
       refine ⟨gk, (i + 1), ⟨kpG, lpG, ?_, lpG, lpG⟩, lpG⟩
       · rw [hA, hcons]
         exact if_neg hd
   try exact nope c10
   all_goals have c10p := c10
   all_goals try simp [F] at c10p
   all_goals
    replace F := And.intro c10 F
    try replace F := And.intro c10p F
    have hend : amt l d.toNat = 0 := by rw [hA, List.drop_of_length_le (by simp at c10; omega)]; rfl
    replace F := And.intro hend F
    refine run_exit ?_
    refine hK3 _ _ ?_
    refine sq fun K17 hK17 => ?_
    refine rg' (h := fun J18 hJ18 => ?_)
    refine hJ18 _ _ ?_
    refine hK17 _ _ ?_
    refine run_ret ?_
    try simp only [Then, InBlock, NoGoto]
    refine acell (h := ?_)
    exact gcr

set_option maxHeartbeats 1600000 in
attribute [local simp] undefA List.getElem?_cons_zero List.getElem?_cons_succ in
theorem one_ok {σ : St} {d : UInt8} {n : Num} :
    CallsA Try.prog 68 [.v (.int .u8 d.toNat), .agg (numA n.v)] σ (fun av σ' => av = .sl 5 (coinsC (oneL d n)) (oneL d n).length .shut ∧ σ = σ') := by
  refine callsA_gcS ?_ (by simp [AV.under])
  have hR : Right [⟨d, n⟩] ↔ d.toNat < 8 ∧ n.v ≠ 0 := by simp [Right]
  have hc : .v (.int .u8 (d.toNat : Int)) :: numA n.v = coinsC [⟨d, n⟩] := by simp [coinsC, coinC]
  have hdr : ∀ f : Nat → AV, List.drop 5 (List.map f (List.range 5)) = [] := fun _ => rfl
  have F := And.intro hc (And.intro hdr (True.intro))
  refine callsA_body Try.func68 rfl rfl rfl ?_
  refine sq fun K1 hK1 => ?_
  refine rg' (h := fun J2 hJ2 => ?_)
  refine hJ2 _ _ ?_
  refine hK1 _ _ ?_
  refine sq fun K3 hK3 => ?_
  refine sq fun K4 hK4 => ?_
  refine rg' (h := fun J5 hJ5 => ?_)
  refine hJ5 _ _ ?_
  refine hK4 _ _ ?_
  refine sq fun K6 hK6 => ?_
  refine rg' (h := fun J7 hJ7 => ?_)
  refine ca (c := right_ok (l := [⟨d, n⟩]) (by simp)) (k := ?_)
  rintro _ _ ⟨rfl, rfl⟩
  repeat (first | simp [F] | simp (disch := omega) only [wC, if_pos, if_neg])
  refine hJ7 _ _ ?_
  refine hK6 _ _ ?_
  refine cs (fun c11 => ?_) (fun c11 => ?_)
  · try exact nope c11
    all_goals have c11p := c11
    all_goals try simp [F] at c11p
    all_goals
     replace F := And.intro c11 F
     try replace F := And.intro c11p F
     have hr : oneL d n = [⟨d, n⟩] := if_pos (hR.1 (by simpa using c11))
     replace F := And.intro hr F
     refine sq fun K8 hK8 => ?_
     refine rg' (h := fun J9 hJ9 => ?_)
     refine hJ9 _ _ ?_
     refine hK8 _ _ ?_
     refine run_ret ?_
     try simp only [Then, InBlock, NoGoto]
     refine answer_tmp rfl (.inr rfl) ?_
     exact gcr
  try exact nope c11
  all_goals have c11p := c11
  all_goals try simp [F] at c11p
  all_goals
   replace F := And.intro c11 F
   try replace F := And.intro c11p F
   have hr : oneL d n = [] := if_neg (fun h => by have := hR.2 h; simp [this] at c11)
   replace F := And.intro hr F
   refine run_skip ?_
   refine hK3 _ _ ?_
   refine sq fun K10 hK10 => ?_
   refine rg' (h := fun J11 hJ11 => ?_)
   refine hJ11 _ _ ?_
   refine hK10 _ _ ?_
   refine run_ret ?_
   try simp only [Then, InBlock, NoGoto]
   refine answer_tmp rfl (.inr rfl) ?_
   exact gcr

/-- What a function of two numbers answers: a number, an error's number. -/
def FnA (fid : FuncId) (caps : List AV) (F : Nat → Nat → Nat × Nat) : Prop :=
  ∀ (σ : St) (x y : Nat), x < 2 ^ 256 → y < 2 ^ 256 → CallsA Try.prog fid ([.agg (numA x), .agg (numA y)] ++ caps) σ (fun av σ' => av = .tup [.agg (numA (F x y).1), .v (.int .i64 ((F x y).2 : Nat))] ∧ σ = σ')

set_option maxHeartbeats 1600000 in
attribute [local simp] undefA List.getElem?_cons_zero List.getElem?_cons_succ in
theorem each_ok {σ : St} {a b : List Coin} {ta tb : Tail} {fid : FuncId} {caps : List AV} {Fn : Nat → Nat → Nat × Nat} (ha : a.length ≤ 9223372036854775807) (hb : b.length ≤ 9223372036854775807) (hcb : callable Try.prog fid = true) (hF : FnA fid caps Fn) (hcp : ∀ n, noObjL n caps = true)
    (hFl : ∀ x y, x < 2 ^ 256 → y < 2 ^ 256 → (Fn x y).1 < 2 ^ 256) :
    CallsA Try.prog 123 [.sl 5 (coinsC a) a.length ta, .sl 5 (coinsC b) b.length tb, .fn fid caps] σ (fun av σ' => av = .tup [.sl 5 (coinsC (eachL Fn a b)) (eachL Fn a b).length .shut, .v (.int .i64 (eachE Fn a b 8 : Nat))] ∧ σ = σ') := by
  refine callsA_gcS ?_ (by simp [AV.under, underL])
  obtain ⟨fl, hfl⟩ : ∃ fl : Nat → Nat, fl = fun d => (Fn (amt a d) (amt b d)).1 := ⟨_, rfl⟩
  have F := And.intro hcp (And.intro hcb (True.intro))
  refine callsA_body Try.func123 rfl rfl rfl ?_
  refine sq fun K1 hK1 => ?_
  refine rg' (h := fun J2 hJ2 => ?_)
  refine hJ2 _ _ ?_
  refine hK1 _ _ ?_
  refine sq fun K3 hK3 => ?_
  refine rg' (h := fun J4 hJ4 => ?_)
  refine hJ4 _ _ ?_
  refine hK3 _ _ ?_
  refine sq fun K5 hK5 => ?_
  refine sq fun K6 hK6 => ?_
  refine rg' (h := fun J7 hJ7 => ?_)
  refine hJ7 _ _ ?_
  refine hK6 _ _ ?_
  refine run_block_k ?_
  refine run_loopG (X := Nat) [0, 1, 2] (fun d ρ σ1 => (d ≤ 8) ∧ (eachE Fn a b d = 0) ∧ (ρ 8 = grA σ.toks.length 5 (posB d) (coinsC (lstF fl d)) (lstF fl d).length) ∧ (ρ 12 = .v (.int .u8 d)) ∧ (σ1 = { σ with toks := σ.toks ++ grT (posB d) (lstF fl d).length })) (fun d => 8 - d) (0) ?st1 ?rd1
  case st1 =>
   refine ⟨lp, ?_, lp, lp, lp⟩
   · rfl
  case rd1 =>
   rintro d ρ1 σ1 hF1 ⟨hd, hE, h8, h12, hσ⟩
   obtain rfl := hσ.symm
   have f1 := keepL hF1
   try simp [KeepL, F] at f1
   replace F := And.intro h8 F
   replace F := And.intro h12 F
   try replace F := And.intro f1 F
   refine sq fun K8 hK8 => ?_
   refine rg' (h := fun J9 hJ9 => ?_)
   refine hJ9 _ _ ?_
   refine hK8 _ _ ?_
   refine sq fun K10 hK10 => ?_
   refine cs (fun c13 => ?_) (fun c13 => ?_)
   · try exact nope c13
     all_goals have c13p := c13
     all_goals try simp [F] at c13p
     all_goals
      replace F := And.intro c13 F
      try replace F := And.intro c13p F
      refine run_skip ?_
      refine hK10 _ _ ?_
      refine sq fun K11 hK11 => ?_
      refine run_block_k ?_
      refine sq fun K12 hK12 => ?_
      have hd8 : d < 8 := by simp at c13; omega
      obtain ⟨D, rfl⟩ : ∃ D : UInt8, d = D.toNat := ⟨UInt8.ofNat d, (toNat_u8 (by omega)).symm⟩
      have hfD : fl D.toNat < 2 ^ 256 := by rw [hfl]; exact hFl _ _ (amt_lt _ _) (amt_lt _ _)
      have hnum : (Fn (amt a D.toNat) (amt b D.toNat)).1 = (Num.of (fl D.toNat)).v := by rw [Num.of_v hfD, hfl]
      obtain ⟨L, hL⟩ : ∃ L, L = lstF fl D.toNat := ⟨_, rfl⟩
      obtain ⟨M, hM⟩ : ∃ M, M = oneL D (Num.of (fl D.toNat)) := ⟨_, rfl⟩
      have hnx : lstF fl (D.toNat + 1) = L ++ M := by rw [hL, hM]; exact lstF_one hd8 hfD
      have hLl : L.length ≤ 8 := by rw [hL]; exact Nat.le_trans (lstF_len _ _) hd
      have hMl : M.length ≤ 1 := by rw [hM]; unfold oneL; split <;> simp
      rw [← hL] at h8 F
      rw [← hL]
      have hb0 : posB D.toNat = false → coinsC L = [] ∧ L.length = 0 := fun h => by rw [hL, posB_no h]; simp [lstF]
      have happ : ∀ objs, appendA Try.prog 23 (grA σ.toks.length 5 (posB D.toNat) (coinsC L) L.length) (.sl 5 (coinsC M) M.length .shut) ⟨objs, σ.toks ++ grT (posB D.toNat) L.length, σ.gl, σ.rows⟩ = some (grA σ.toks.length 5 true (coinsC L ++ coinsC M) (L.length + M.length), ⟨objs, σ.toks ++ grT true (L.length + M.length), σ.gl, σ.rows⟩) := fun objs => append_gr elemT_23 ti_86 (by decide) rfl hb0 (.inl rfl) (by simp [roomA]; omega) (by simp [maxLen]; omega)
      replace F := And.intro hnum (And.intro happ F)
      refine rg' (h := fun J13 hJ13 => ?_)
      refine hJ13 _ _ ?_
      refine hK12 _ _ ?_
      refine sq fun K14 hK14 => ?_
      refine rg' (h := fun J15 hJ15 => ?_)
      refine ca (c := amount_ok (l := a) (d := D) ha) (k := ?_)
      rintro _ _ ⟨rfl, rfl⟩
      repeat (first | simp [F] | simp (disch := omega) only [wC, if_pos, if_neg])
      refine ca (c := amount_ok (l := b) (d := D) hb) (k := ?_)
      rintro _ _ ⟨rfl, rfl⟩
      repeat (first | simp [F] | simp (disch := omega) only [wC, if_pos, if_neg])
      refine ca (c := hF _ _ _ (amt_lt _ _) (amt_lt _ _)) (k := ?_)
      rintro _ _ ⟨rfl, rfl⟩
      repeat (first | simp [F] | simp (disch := omega) only [wC, if_pos, if_neg])
      refine hJ15 _ _ ?_
      refine hK14 _ _ ?_
      refine sq fun K16 hK16 => ?_
      refine sq fun K17 hK17 => ?_
      refine rg' (h := fun J18 hJ18 => ?_)
      refine hJ18 _ _ ?_
      refine hK17 _ _ ?_
      refine cs (fun c27 => ?_) (fun c27 => ?_)
      · try exact nope c27
        all_goals have c27p := c27
        all_goals try simp [F] at c27p
        all_goals
         replace F := And.intro c27 F
         try replace F := And.intro c27p F
         have he0 : ¬ (Fn (amt a D.toNat) (amt b D.toNat)).2 = 0 := by have h := c27; simp at h; omega
         have e1 : eachE Fn a b (D.toNat + 1) = (Fn (amt a D.toNat) (amt b D.toNat)).2 := by simp only [eachE, hE, ne_eq, not_true_eq_false, if_false]
         have e8 : eachE Fn a b 8 = (Fn (amt a D.toNat) (amt b D.toNat)).2 := by have := eachE_stop (F := Fn) (a := a) (b := b) (d := D.toNat + 1) (by rw [e1]; exact he0) (8 - (D.toNat + 1)); rw [show D.toNat + 1 + (8 - (D.toNat + 1)) = 8 by omega] at this; rw [this, e1]
         have eL : eachL Fn a b = [] := by unfold eachL; rw [if_neg (by rw [e8]; exact he0)]
         replace F := And.intro e8 (And.intro eL F)
         refine sq fun K19 hK19 => ?_
         refine rg' (h := fun J20 hJ20 => ?_)
         refine hJ20 _ _ ?_
         refine hK19 _ _ ?_
         refine run_ret ?_
         try simp only [Then, InBlock, NoGoto]
         refine answer_tmp2 rfl (.inr rfl) ?_
         rw [e8, eL]
         exact gcr (hA := WkL.tup (.cons (Wk.nil _ _ _) (.cons (Wk.refl _) .nil)))
      try exact nope c27
      all_goals have c27p := c27
      all_goals try simp [F] at c27p
      all_goals
       replace F := And.intro c27 F
       try replace F := And.intro c27p F
       have he0 : (Fn (amt a D.toNat) (amt b D.toNat)).2 = 0 := by have h := c27; simp at h; omega
       refine run_skip ?_
       refine hK16 _ _ ?_
       refine rg' (h := fun J21 hJ21 => ?_)
       refine ca (c := (hM ▸ one_ok (d := D) (n := Num.of (fl D.toNat)))) (k := ?_)
       rintro _ _ ⟨rfl, rfl⟩
       repeat (first | simp [F] | simp (disch := omega) only [wC, if_pos, if_neg])
       refine hJ21 _ _ ?_
       refine hK11 _ _ ?_
       refine rg' (h := fun J22 hJ22 => ?_)
       refine hJ22 _ _ ?_
       refine ⟨gk, (D.toNat + 1), ⟨kpG, lpG, ?_, ?_, lpG, ?_⟩, lpG⟩
       · simp only [eachE, hE, ne_eq, not_true_eq_false, if_false]
         exact he0
       · rw [hnx, ← coinsC_append]
         simp [F, AV.gcO, noObjL_append]
       · rw [hnx]
         simp [F, St.trimO]
   try exact nope c13
   all_goals have c13p := c13
   all_goals try simp [F] at c13p
   all_goals
    replace F := And.intro c13 F
    try replace F := And.intro c13p F
    obtain rfl : d = 8 := by simp at c13; omega
    have eL : eachL Fn a b = lstF fl 8 := by unfold eachL; rw [if_pos hE, hfl]
    replace F := And.intro hE (And.intro eL F)
    refine run_exit ?_
    refine hK5 _ _ ?_
    refine sq fun K23 hK23 => ?_
    refine rg' (h := fun J24 hJ24 => ?_)
    refine hJ24 _ _ ?_
    refine hK23 _ _ ?_
    refine run_ret ?_
    try simp only [Then, InBlock, NoGoto]
    refine answer_tmp2 rfl (.inr rfl) ?_
    rw [hE, eL]
    exact gcr (hA := WkL.tup (.cons (by simp only [putA_get]; simp [F]; first | exact Wk.shut _ _ _ _ | exact wk_grA (b := true) (fun h => absurd h (by decide))) (.cons (Wk.refl _) .nil)))

theorem addE_fn : FnA 118 [] (fun x y => (addN x y, addE x y)) := fun σ x y hx hy => nadd_ok hx hy

set_option maxHeartbeats 1600000 in
attribute [local simp] undefA List.getElem?_cons_zero List.getElem?_cons_succ in
theorem cadd_ok {σ : St} {a b : List Coin} {ta tb : Tail} (ha : a.length ≤ 9223372036854775807) (hb : b.length ≤ 9223372036854775807) :
    CallsA Try.prog 114 [.sl 5 (coinsC a) a.length ta, .sl 5 (coinsC b) b.length tb] σ (fun av σ' => av = .tup [.sl 5 (coinsC (cAddL a b)) (cAddL a b).length .shut, .v (.int .i64 (cAddE a b : Nat))] ∧ σ = σ') := by
  have F := True.intro
  refine callsA_body Try.func114 rfl rfl rfl ?_
  refine sq fun K1 hK1 => ?_
  refine rg' (h := fun J2 hJ2 => ?_)
  refine hJ2 _ _ ?_
  refine hK1 _ _ ?_
  refine sq fun K3 hK3 => ?_
  refine rg' (h := fun J4 hJ4 => ?_)
  refine ca (c := each_ok ha hb (by simp) addE_fn (fun _ ↦ rfl) (fun x y _ _ ↦ addN_lt x y)) (k := ?_)
  rintro _ _ ⟨rfl, rfl⟩
  repeat (first | simp [F] | simp (disch := omega) only [wC, if_pos, if_neg])
  refine hJ4 _ _ ?_
  refine hK3 _ _ ?_
  refine run_ret ?_
  try simp only [Then, InBlock, NoGoto]
  refine answer_tmp2 rfl (.inr rfl) ?_
  exact ⟨rfl, rfl⟩

end Go.Proofs.Ytdbaddholggkbaa

/-
  Rows on the way: a nil list that may be written; a row that nobody will write again; a call that hands back rows.
-/
namespace Go.Vm
set_option linter.unnecessarySimpa false
set_option linter.unusedSimpArgs false
set_option linter.unusedVariables false
open Go

theorem nilrow_sound {G : Gh} {w : World} {σ : St} (hS : RelS G w σ) : ∃ G', Ext G w G' w ∧ RelS G' w { σ with rows := σ.rows ++ [⟨0, [], none⟩] } ∧ G'.rw σ.rows.length = some (0, 0, 0, 0) := by
  let G' : Gh := { G with rw := fun i' => if i' = σ.rows.length then some (0, 0, 0, 0) else G.rw i' }
  have hE : Ext G w G' w := by
    refine ⟨rfl, rfl, rfl, rfl, Nat.le_refl _, fun _ c _ _ h => ⟨c, h, rfl, fun _ _ => rfl⟩, fun _ _ h _ => h, fun _ _ h => h, fun _ _ _ h => h, fun _ _ h => h, fun _ m r h => ⟨m, r, h, Nat.le_refl _, fun _ => rfl⟩, fun q m r hq => ⟨m, r, ?_, Nat.le_refl _, fun _ => rfl⟩⟩
    show (if q = _ then _ else _) = _
    rw [if_neg (fun e => by subst e; exact rw_fresh hS _ hq)]; exact hq
  refine ⟨G', hE, ⟨?_, hS.inj, hS.tok, hS.fresh, fun g cs2 hg => (hS.gl g cs2 hg).mono hE, hS.tot, hS.totk, ?_, ?_⟩, if_pos rfl⟩
  · intro id b hp
    obtain ⟨c2, e2, cs2, h1, h2, h3, h4, h5⟩ := hS.obj id b hp
    exact ⟨c2, e2, cs2, h1, h2, h3, h4, fun j x a hx ha => (h5 j x a hx ha).mono hE⟩
  · intro q gc b o C hq
    have hq' : (if q = σ.rows.length then some (0, 0, 0, 0) else G.rw q) = some (gc, b, o, C) := hq
    by_cases hql : q = σ.rows.length
    · subst hql
      rw [if_pos rfl] at hq'
      cases hq'
      exact ⟨⟨0, [], none⟩, by simp, rfl, by simp, ⟨fun s e => (by cases e), fun h => (by omega)⟩⟩
    · rw [if_neg hql] at hq'
      obtain ⟨r, h1, h2, h3, h4, h5⟩ := hS.row q gc b o C hq'
      refine ⟨r, by show (σ.rows ++ _)[q]? = _; rw [List.getElem?_append_left (List.getElem?_eq_some_iff.1 h1).1]; exact h1, h2, h3, h4, fun hC => ?_⟩
      obtain ⟨c2, e2, g1, g2, g3, g4, g5⟩ := h5 hC
      exact ⟨c2, e2, g1, g2, g3, g4, fun j x a hx ha => (g5 j x a hx ha).mono hE⟩
  · intro q hq
    show ∃ p, (if q = σ.rows.length then some (0, 0, 0, 0) else G.rw q) = some p
    by_cases hql : q = σ.rows.length
    · rw [if_pos hql]; exact ⟨_, rfl⟩
    · rw [if_neg hql]; exact hS.totr q (by simp at hq; omega)

section
variable {z : Zone} {P : Program} {N : Nat} {ρ : Nat → AV} {σ : St}

theorem Rel.turn {G : Gh} {w : World} {a : Act} (hR : Rel N G w ρ σ a) {G' : Gh} {σ' : St} {ρ' : Nat → AV} (hE : Ext G w G' w) (hS : RelS G' w σ') (he : ∀ i, AVR G' w (a.tmps.getD i undef) (ρ' i)) : Rel N G' w ρ' σ' a :=
  ⟨hS, ⟨hR.defers.1.mono hE, hR.defers.2.1, by rw [hE.base]; exact hR.defers.2.2⟩, hR.size, he⟩

theorem nilrow_rel {G : Gh} {w : World} {a : Act} (hR : Rel N G w ρ σ a) (d sz : Nat) {s : Nat} (h : ρ d = .sl s [] 0 .full) :
    ∃ G', Ext G w G' w ∧ Rel N G' w (putA ρ (some d) (.row σ.rows.length 0 0 sz 0)) { σ with rows := σ.rows ++ [⟨0, [], none⟩] } a := by
  obtain ⟨G', hE, hS, hrw⟩ := nilrow_sound hR.s
  refine ⟨G', hE, hR.turn hE hS (fun i => ?_)⟩
  by_cases hi : i = d
  · subst hi
    have hx := hR.env i
    rw [h] at hx
    obtain ⟨ad, c, e1, e2⟩ := sl_empty_full hx
    subst e2
    rw [e1]
    show AVR G' w _ (if i = i then _ else _)
    rw [if_pos rfl]
    exact .row hrw (Nat.le_refl _) (Nat.le_refl _) (fun h => (h rfl).elim) (fun _ => ⟨by simp, fun h => (h rfl).elim⟩)
  · show AVR G' w _ (if i = d then _ else _)
    rw [if_neg hi]
    exact (hR.env i).mono hE

/-- A nil list is a row of no cells. -/
theorem run_nilrow {c : Code} {Q : Exit → (Nat → AV) → St → Prop} (d sz : Nat) {s : Nat} (h : ρ d = .sl s [] 0 .full := by first | rfl | (simp [F]; done))
    (k : Run z P N c (putA ρ (some d) (.row σ.rows.length 0 0 sz 0)) { σ with rows := σ.rows ++ [⟨0, [], none⟩] } Q) : Run z P N c ρ σ Q := fun G w a R hR hK => by
  obtain ⟨G', hE, hR'⟩ := nilrow_rel hR d sz h
  exact k G' w a R hR' (fun e ρ' σ' G2 a' w' hq hE2 hR2 => hK e ρ' σ' G2 a' w' hq (hE.trans hE2) hR2)
theorem freeze_rel {G : Gh} {w : World} {a : Act} (hR : Rel N G w ρ σ a) (d : Nat) {k g off sz n : Nat} {cells : List AV} {sp : Option Nat} (h : ρ d = .row k g off sz n) (hr : σ.rows[k]? = some ⟨g, cells, sp⟩) (hl : off + n * sz ≤ cells.length) :
    ∃ G', Ext G w G' w ∧ Rel N G' w (putA ρ (some d) (.sl sz ((cells.drop off).take (n * sz)) n .shut)) { σ with rows := σ.rows.set k ⟨g + 1, [], none⟩ } a := by
  obtain ⟨G1, e1, e2, e3⟩ := fr_sound hR.s hr
  refine ⟨G1, e1, hR.turn e1 (e3 σ.objs rfl (fun id cs ds h1 h2 => by rw [h1] at h2; cases h2; exact FrL.refl _)) (fun i => ?_)⟩
  by_cases hi : i = d
  · subst hi
    have hx := hR.env i
    rw [h] at hx
    show AVR G1 w _ (if i = i then _ else _)
    rw [if_pos rfl]
    exact e2 _ _ _ hx (.row hl)
  · show AVR G1 w _ (if i = d then _ else _)
    rw [if_neg hi]
    exact (hR.env i).mono e1

/-- A row that nobody will write again is a list. -/
theorem run_freeze {c : Code} {Q : Exit → (Nat → AV) → St → Prop} (d : Nat) {k g off sz n : Nat} {cells : List AV} {sp : Option Nat} (h : ρ d = .row k g off sz n := by first | rfl | (simp [F]; done) | (simp [F]; exact ⟨rfl, rfl, rfl⟩) | (simp [F]; exact ⟨rfl, rfl, rfl, rfl, rfl⟩)) (hr : σ.rows[k]? = some ⟨g, cells, sp⟩ := by first | rfl | (simp [F]; done) | (simp [F]; rfl) | (simp [F]; exact ⟨rfl, rfl⟩) | (simp [F]; exact ⟨rfl, rfl, rfl⟩)) (hl : off + n * sz ≤ cells.length := by first | (simp [F]; done) | omega | (simp [F]; omega))
    (kk : Run z P N c (putA ρ (some d) (.sl sz ((cells.drop off).take (n * sz)) n .shut)) { σ with rows := σ.rows.set k ⟨g + 1, [], none⟩ } Q) : Run z P N c ρ σ Q := fun G w a R hR hK => by
  obtain ⟨G', hE, hR'⟩ := freeze_rel hR d h hr hl
  exact kk G' w a R hR' (fun e ρ' σ' G2 a' w' hq hE2 hR2 => hK e ρ' σ' G2 a' w' hq (hE.trans hE2) hR2)
theorem runL_freeze {ops : Array Oper} {l : List Oper} {K : (Nat → AV) → St → Prop} (d : Nat) {k g off sz n : Nat} {cells : List AV} {sp : Option Nat} (h : ρ d = .row k g off sz n := by first | rfl | (simp [F]; done) | (simp [F]; exact ⟨rfl, rfl, rfl⟩) | (simp [F]; exact ⟨rfl, rfl, rfl, rfl, rfl⟩)) (hr : σ.rows[k]? = some ⟨g, cells, sp⟩ := by first | rfl | (simp [F]; done) | (simp [F]; rfl) | (simp [F]; exact ⟨rfl, rfl⟩) | (simp [F]; exact ⟨rfl, rfl, rfl⟩)) (hl : off + n * sz ≤ cells.length := by first | (simp [F]; done) | omega | (simp [F]; omega))
    (kk : RunL z P N ops l (putA ρ (some d) (.sl sz ((cells.drop off).take (n * sz)) n .shut)) { σ with rows := σ.rows.set k ⟨g + 1, [], none⟩ } K) : RunL z P N ops l ρ σ K := fun G w a R hR hK => by
  obtain ⟨G', hE, hR'⟩ := freeze_rel hR d h hr hl
  exact kk G' w a R hR' (fun ρ' σ' G2 a' w' hq hE2 hR2 => hK ρ' σ' G2 a' w' hq (hE.trans hE2) hR2)

theorem run_fz {c : Code} {Q : Exit → (Nat → AV) → St → Prop} (d sz : Nat) {q g n : Nat} {cells : List AV} {sp : Option Nat} (h : ρ d = .row q g 0 sz n := by first | rfl | (simp [F]; done) | (simp [F]; exact ⟨rfl, rfl, rfl⟩) | (simp [F]; exact ⟨rfl, rfl, rfl, rfl, rfl⟩)) (hr : σ.rows[q]? = some ⟨g, cells, sp⟩ := by first | rfl | (simp [F]; done) | (simp [F]; rfl) | (simp [F]; exact ⟨rfl, rfl⟩) | (simp [F]; exact ⟨rfl, rfl, rfl⟩)) (hl : cells.length = n * sz := by first | (simp [F]; done) | omega | (simp [F]; omega))
    (k : Run z P N c (putA ρ (some d) (.sl sz cells n .shut)) { σ with rows := σ.rows.set q ⟨g + 1, [], none⟩ } Q) : Run z P N c ρ σ Q :=
  run_freeze d h hr (by omega) (by rw [List.drop_zero, List.take_of_length_le (by omega)]; exact k)
theorem runL_fz {ops : Array Oper} {l : List Oper} {K : (Nat → AV) → St → Prop} (d sz : Nat) {q g n : Nat} {cells : List AV} {sp : Option Nat} (h : ρ d = .row q g 0 sz n := by first | rfl | (simp [F]; done) | (simp [F]; exact ⟨rfl, rfl, rfl⟩) | (simp [F]; exact ⟨rfl, rfl, rfl, rfl, rfl⟩)) (hr : σ.rows[q]? = some ⟨g, cells, sp⟩ := by first | rfl | (simp [F]; done) | (simp [F]; rfl) | (simp [F]; exact ⟨rfl, rfl⟩) | (simp [F]; exact ⟨rfl, rfl, rfl⟩)) (hl : cells.length = n * sz := by first | (simp [F]; done) | omega | (simp [F]; omega))
    (k : RunL z P N ops l (putA ρ (some d) (.sl sz cells n .shut)) { σ with rows := σ.rows.set q ⟨g + 1, [], none⟩ } K) : RunL z P N ops l ρ σ K :=
  runL_freeze d h hr (by omega) (by rw [List.drop_zero, List.take_of_length_le (by omega)]; exact k)

/-- What objects a call made are forgotten; its rows stay. -/
theorem callsA_gcO {f : FuncId} {args : List AV} {A : AV} {τ : St} (k : CallsA P f args σ (fun av σ' => av = A ∧ GoneO σ σ' ∧ σ.trimO σ' = τ)) (hA : A.noObj σ.objs.length = true) : CallsA P f args σ (fun av σ' => av = A ∧ σ' = τ) := by
  intro G w vs R hS hl hr hK
  refine k G w vs R hS hl hr (fun v av σ0 G' w' hq hE hS' hv => ?_)
  obtain ⟨rfl, hg, rfl⟩ := hq
  obtain ⟨h1, h2⟩ := hS.trimO hS' hE hg
  exact hK v _ _ _ w' ⟨rfl, rfl⟩ h1 h2 (hv.forgetO hE hS.tot hA)
end

/-- The end of a call that hands back rows. -/
theorem gco {av A : AV} {σ σ' τ : St} (hA : av = A := by first | rfl | (simp [F]; done)) (hg : GoneO σ σ' := by exact gk) (ht : σ.trimO σ' = τ := by first | rfl | (simp [F, St.trimO]; done)) : av = A ∧ GoneO σ σ' ∧ σ.trimO σ' = τ := ⟨hA, hg, ht⟩

end Go.Vm

/-
  Digits that are made right; numbers of digits.
-/
namespace Go.Vm
set_option linter.unnecessarySimpa false
set_option linter.unusedSimpArgs false
set_option linter.unusedVariables false
set_option exponentiation.threshold 600
open Go

/-- Digits hang on what is left of a number alone. -/
theorem digs_mod {b n x y : Nat} (hb : 0 < b) (h : x % b ^ n = y % b ^ n) : digs b n x = digs b n y := by
  have hy : digs b n (valD b (digs b n y)) = digs b n y := by
    have := digs_valD hb (digs_lt (n := n) (x := y) hb)
    rwa [digs_len] at this
  have hx : digs b n (valD b (digs b n x)) = digs b n x := by
    have := digs_valD hb (digs_lt (n := n) (x := x) hb)
    rwa [digs_len] at this
  rw [← hx, ← hy, valD_digs, valD_digs, h]

theorem valD_take_succ {b : Nat} {L : List Nat} {i : Nat} (h : i < L.length) : valD b (L.take (i + 1)) = valD b (L.take i) + b ^ i * L[i] := by
  rw [take_snoc h, valD_snoc]
  simp [Nat.min_eq_left (Nat.le_of_lt h)]

/-- A list of digits, the first ones made right. -/
def crA (b : Nat) (L : List Nat) (i : Nat) : List Nat := digs b i (valD b (L.take i)) ++ L.drop i
def crO (b : Nat) (L : List Nat) (i : Nat) : Nat := valD b (L.take i) / b ^ i
theorem crA_zero (b : Nat) (L : List Nat) : crA b L 0 = L := by simp [crA, digs]
theorem crO_zero (b : Nat) (L : List Nat) : crO b L 0 = 0 := by simp [crO]
theorem crA_len {b : Nat} {L : List Nat} {i : Nat} (h : i ≤ L.length) : (crA b L i).length = L.length := by simp [crA]; omega
theorem crA_get {b : Nat} {L : List Nat} {i : Nat} (h : i < L.length) : (crA b L i)[i]? = some L[i] := by
  unfold crA
  rw [List.getElem?_append_right (by simp)]
  simp [h]
theorem crO_next {b : Nat} {L : List Nat} {i : Nat} (hb : 0 < b) (h : i < L.length) : (crO b L i + L[i]) / b = crO b L (i + 1) := by
  unfold crO
  rw [valD_take_succ h, Nat.pow_succ, ← Nat.div_div_eq_div_mul, Nat.add_mul_div_left _ _ (Nat.pow_pos hb)]
theorem crA_set {b : Nat} {L : List Nat} {i : Nat} (hb : 0 < b) (h : i < L.length) : (crA b L i).set i ((crO b L i + L[i]) % b) = crA b L (i + 1) := by
  unfold crA crO
  rw [List.set_append_right _ _ (by simp), digs_snoc, valD_take_succ h, Nat.add_mul_div_left _ _ (Nat.pow_pos hb)]
  have e : L.drop i = L[i] :: L.drop (i + 1) := List.drop_eq_getElem_cons h
  simp only [digs_len, Nat.sub_self]
  rw [e, List.set_cons_zero, List.append_assoc]
  rw [digs_mod hb (show (valD b (L.take i) + b ^ i * L[i]) % b ^ i = valD b (L.take i) % b ^ i from Nat.add_mul_mod_self_left ..)]
  rfl
theorem crO_le {b m : Nat} {L : List Nat} (hb : 2 ≤ b) (hL : ∀ d ∈ L, d ≤ m) : ∀ i, i ≤ L.length → crO b L i ≤ m
  | 0, _ => by rw [crO_zero]; omega
  | i + 1, h => by
    have ih := crO_le hb hL i (by omega)
    rw [← crO_next (by omega) (by omega : i < L.length)]
    have hd := hL L[i] (List.getElem_mem _)
    refine Nat.le_trans (Nat.div_le_div_left (c := 2) hb (by omega)) ?_
    omega
theorem crA_all (b : Nat) (L : List Nat) : crA b L L.length ++ [crO b L L.length] = digs b L.length (valD b L) ++ [valD b L / b ^ L.length] := by
  simp [crA, crO]

theorem u64s_get_of {l : List Nat} {i n : Nat} (h : l[i]? = some n) : (u64s l)[i]? = some (.v (.int .u64 n)) := by simp [u64s, h]

/-- Cells of 16 bits, laid into limbs. -/
theorem digs_lay {T i q r d : Nat} (hq : q = i / 4) (hr : r = i % 4) (hi : i < 16) (hT : T < 65536 ^ i) (hd : d < 65536) :
    T / 18446744073709551616 ^ q % 18446744073709551616 + d * 2 ^ (16 * r) < 18446744073709551616 ∧
    (digs 18446744073709551616 4 T).set q (T / 18446744073709551616 ^ q % 18446744073709551616 + d * 2 ^ (16 * r)) = digs 18446744073709551616 4 (T + 65536 ^ i * d) := by
  have hr4 : r < 4 := by omega
  have hq4 : q < 4 := by omega
  have e16 : ∀ n, (65536 : Nat) ^ n = 2 ^ (16 * n) := fun n => by rw [Nat.pow_mul]
  have eW : ∀ n, (18446744073709551616 : Nat) ^ n = 2 ^ (64 * n) := fun n => by rw [Nat.pow_mul]
  have e1 : (65536 : Nat) ^ i = 18446744073709551616 ^ q * 2 ^ (16 * r) := by
    rw [e16, eW, ← Nat.pow_add]; congr 1; omega
  have hM : T / 18446744073709551616 ^ q < 2 ^ (16 * r) := Nat.div_lt_of_lt_mul (by rw [← e1]; exact hT)
  have hp : (2 : Nat) ^ (16 * r) = 1 ∨ (2 : Nat) ^ (16 * r) = 65536 ∨ (2 : Nat) ^ (16 * r) = 4294967296 ∨ (2 : Nat) ^ (16 * r) = 281474976710656 := by
    have : r = 0 ∨ r = 1 ∨ r = 2 ∨ r = 3 := by omega
    rcases this with rfl | rfl | rfl | rfl <;> simp
  have hlt : T / 18446744073709551616 ^ q % 18446744073709551616 + d * 2 ^ (16 * r) < 18446744073709551616 := by
    generalize T / 18446744073709551616 ^ q = M at hM
    rcases hp with h | h | h | h <;> rw [h] at hM ⊢ <;> omega
  refine ⟨hlt, ?_⟩
  have hl1 : q < (digs 18446744073709551616 4 T).length := by simpa using hq4
  have hTl : T < 18446744073709551616 ^ 4 := Nat.lt_of_lt_of_le hT (by rw [e16, eW]; exact Nat.pow_le_pow_right (by omega) (by omega))
  refine digs_of (by decide) (fun x hx => ?_) (by simp) ?_
  · rcases List.mem_or_eq_of_mem_set hx with h | h
    · exact digs_lt (by decide) x h
    · rw [h]; exact hlt
  · have e := valD_set (b := 18446744073709551616) hl1 (T / 18446744073709551616 ^ q % 18446744073709551616 + d * 2 ^ (16 * r))
    rw [digs_get hq4, valD_digs, Nat.mod_eq_of_lt hTl, Nat.mul_add] at e
    have e2 : 18446744073709551616 ^ q * (d * 2 ^ (16 * r)) = 65536 ^ i * d := by rw [e1]; grind
    rw [e2] at e
    omega

/-- Digits behind some: all are nought, or the number is great. -/
theorem valD_small {b : Nat} {L : List Nat} {n : Nat} (hb : 0 < b) (h : valD b L < b ^ n) : ∀ j, n ≤ j → (hj : j < L.length) → L[j] = 0 := by
  intro j hn hj
  have hi : L = L.take j ++ L[j] :: L.drop (j + 1) := by rw [List.getElem_cons_drop, List.take_append_drop]
  have h3 : valD b L = valD b (L.take j) + b ^ j * (L[j] + b * valD b (L.drop (j + 1))) := by
    conv => lhs; rw [hi, valD_append]
    simp [valD, Nat.min_eq_left (Nat.le_of_lt hj)]
  have h4 : b ^ n ≤ b ^ j := Nat.pow_le_pow_right hb hn
  rcases Nat.eq_zero_or_pos L[j] with h0 | h0
  · exact h0
  · have h5 : b ^ j * 1 ≤ b ^ j * (L[j] + b * valD b (L.drop (j + 1))) := Nat.mul_le_mul_left _ (by omega)
    omega
theorem valD_big {b : Nat} {L : List Nat} {j n : Nat} (hb : 0 < b) (hn : n ≤ j) (hj : j < L.length) (h : 0 < L[j]) : ¬ valD b L < b ^ n := fun hlt => by
  have := valD_small hb hlt j hn hj
  omega
theorem valD_zeros {b : Nat} {L : List Nat} {n : Nat} (h : ∀ j, n ≤ j → (hj : j < L.length) → L[j] = 0) : valD b L = valD b (L.take n) := by
  conv => lhs; rw [← List.take_append_drop n L, valD_append]
  have : valD b (L.drop n) = 0 := by
    have e : L.drop n = List.replicate (L.length - n) 0 := by
      apply List.ext_getElem
      · simp
      · intro i h1 h2
        simp at h1 h2 ⊢
        exact h (n + i) (by omega) (by omega)
    rw [e, valD_zero]
  rw [this]; simp

/-- Sums, digit by digit. -/
def addm (L M : List Nat) (i : Nat) : List Nat := (List.zipWith (· + ·) L M).take i ++ L.drop i
theorem addm_zero (L M : List Nat) : addm L M 0 = L := by simp [addm]
theorem addm_len {L M : List Nat} {i : Nat} (h : L.length = M.length) (hi : i ≤ L.length) : (addm L M i).length = L.length := by simp [addm]; omega
theorem addm_get {L M : List Nat} {i : Nat} (h : L.length = M.length) (hi : i < L.length) : (addm L M i)[i]? = some L[i] := by
  unfold addm
  rw [List.getElem?_append_right (by simp; omega)]
  have : i - (List.take i (List.zipWith (· + ·) L M)).length = 0 := by simp; omega
  rw [this]; simp [hi]
theorem addm_set {L M : List Nat} {i : Nat} (h : L.length = M.length) (hi : i < L.length) : (addm L M i).set i (L[i] + M[i]) = addm L M (i + 1) := by
  unfold addm
  have hl : (List.take i (List.zipWith (· + ·) L M)).length = i := by simp; omega
  rw [List.set_append_right _ _ (by omega), hl, Nat.sub_self]
  have e : L.drop i = L[i] :: L.drop (i + 1) := List.drop_eq_getElem_cons hi
  rw [e, List.set_cons_zero, take_snoc (by simp; omega)]
  simp
theorem addm_all {L M : List Nat} (h : L.length = M.length) : addm L M L.length = List.zipWith (· + ·) L M := by
  unfold addm
  rw [List.take_of_length_le (by simp; omega), List.drop_of_length_le (Nat.le_refl _), List.append_nil]
theorem valD_zip (b : Nat) : ∀ L M : List Nat, L.length = M.length → valD b (List.zipWith (· + ·) L M) = valD b L + valD b M
  | [], [], _ => rfl
  | x :: L, y :: M, h => by
    simp only [List.zipWith_cons_cons, valD, valD_zip b L M (by simpa using h), Nat.mul_add]
    omega
theorem zip_le {L M : List Nat} {m : Nat} (hL : ∀ d ∈ L, d < m) (hM : ∀ d ∈ M, d < m) : ∀ d ∈ List.zipWith (· + ·) L M, d ≤ 2 * m := by
  intro d hd
  obtain ⟨i, hi, rfl⟩ := List.getElem_of_mem hd
  simp at hi
  have h1 := hL L[i] (List.getElem_mem _)
  have h2 := hM M[i] (List.getElem_mem _)
  simp; omega

theorem zeros64 {P : Program} {e : TypeId} (h : ti P e = some ⟨false, 1, 8, .int .u64 0⟩) (n : Nat) : zerosA P e n = some (u64s (List.replicate n 0)) := by
  have hz : zeroA P e = some (.v (.int .u64 0)) := by simp [zeroA, h, ofValue, ofCell, plain]
  have hz1 : (Value.int .u64 0).oneCell' = true := rfl
  simp only [zerosA, h, hz, AV.cells]
  simp [AV.isCell]
  apply List.ext_getElem
  · simp [u64s]
  · intro i h1 h2
    simp [u64s, Nat.mod_one]

end Go.Vm

/-
  The document's numbers: digits of 16 bits.
-/
namespace Go.Proofs.Ytdbaddholggkbaa
set_option linter.unnecessarySimpa false
set_option maxRecDepth 100000
open Go Go.Vm
set_option linter.unusedSimpArgs false
set_option linter.unusedVariables false

theorem zc64 : zeroCell ⟨false, 1, 8, .int .u64 0⟩ = true := rfl

attribute [local simp] evalL wantedA isCall opA evalA evalAll evalsA evalOpt ofValue ofCell plain binA_eql_pn binA_neq_pn binA_gtr binA_lss binA_geq binA_leq binA_add binA_sub binA_eql binA_neq binA_orI binA_andI binA_shl binA_shr binA_mul binA_quo binA_rem binA_agg_eql binA_agg_neq convA_int unA_not fieldAddrA loadA partA pickA_true pickA_false pickA_bb lenA builtinA storeA splice readA rowAppA zc64 appendA roomA maxLen AV.cells AV.isCell sliceA boundA intA callOf indexAddrA newObjA buildA fillA zeroA ofCells buildSliceA indexA fieldA numA_len4 numA_take4 numA_drop4 set_appN get_appN take_appN List.getElem?_cons_zero List.getElem?_cons_succ

theorem digit16 {x i : Nat} : x / 18446744073709551616 ^ (i / 4) % 18446744073709551616 / 2 ^ (16 * (i % 4)) % 65536 = x / 65536 ^ i % 65536 := by
  have e : ∀ n, (65536 : Nat) ^ n = 2 ^ (16 * n) := fun n => by rw [Nat.pow_mul]
  have hW : ∀ n, (18446744073709551616 : Nat) ^ n = 2 ^ (64 * n) := fun n => by rw [Nat.pow_mul]
  rw [e, hW]
  have h1 : 16 * i = 64 * (i / 4) + 16 * (i % 4) := by omega
  rw [h1, Nat.pow_add, ← Nat.div_div_eq_div_mul]
  generalize x / 2 ^ (64 * (i / 4)) = y
  have h2 : i % 4 < 4 := Nat.mod_lt _ (by omega)
  obtain ⟨m, hm⟩ : ∃ m, m = i % 4 := ⟨_, rfl⟩
  rw [← hm] at h2 ⊢
  have : m = 0 ∨ m = 1 ∨ m = 2 ∨ m = 3 := by omega
  rcases this with rfl | rfl | rfl | rfl <;> simp <;> omega

set_option maxHeartbeats 1600000 in
attribute [local simp] undefA List.getElem?_cons_zero List.getElem?_cons_succ u64s_noObj in
theorem digits_ok {σ : St} {x : Nat} :
    CallsA Try.prog 127 [.agg (numA x)] σ (fun av σ' => av = .row σ.rows.length 16 0 1 16 ∧ σ' = { σ with rows := σ.rows ++ [⟨16, u64s (digs 65536 16 x), none⟩] }) := by
  refine callsA_gcO ?_ rfl
  have F := True.intro
  refine callsA_body Try.func127 rfl rfl rfl ?_
  refine sq fun K1 hK1 => ?_
  refine rg' (h := fun J2 hJ2 => ?_)
  refine hJ2 _ _ ?_
  refine hK1 _ _ ?_
  refine sq fun K3 hK3 => ?_
  refine rg' (h := fun J4 hJ4 => ?_)
  refine hJ4 _ _ ?_
  refine hK3 _ _ ?_
  refine sq fun K5 hK5 => ?_
  refine sq fun K6 hK6 => ?_
  refine run_nilrow 3 1 (k := ?_)
  refine rg' (h := fun J7 hJ7 => ?_)
  refine hJ7 _ _ ?_
  refine hK6 _ _ ?_
  refine run_block_k ?_
  refine run_loopF (X := Nat) [1, 2] (fun i ρ σ1 => (i ≤ 16) ∧ (ρ 3 = .row σ.rows.length i 0 1 i) ∧ (ρ 4 = .v (.int .i64 i)) ∧ (σ1 = { σ with objs := σ.objs ++ [numA x], rows := σ.rows ++ [⟨i, u64s (digs 65536 i x), none⟩] })) (fun i => 16 - i) (0) ?st1 ?rd1
  case st1 =>
   refine ⟨lp, lp, lp, ?_⟩
   · simp [digs, u64s]
  case rd1 =>
   rintro i ρ1 σ1 hF1 ⟨hi, h3, h4, hσ⟩
   obtain rfl := hσ.symm
   have f1 := keepL hF1
   try simp [KeepL, F] at f1
   replace F := And.intro h3 F
   replace F := And.intro h4 F
   try replace F := And.intro f1 F
   refine sq fun K8 hK8 => ?_
   refine sq fun K9 hK9 => ?_
   refine rg' (h := fun J10 hJ10 => ?_)
   refine hJ10 _ _ ?_
   refine hK9 _ _ ?_
   refine cs (fun c6 => ?_) (fun c6 => ?_)
   · try exact nope c6
     all_goals have c6p := c6
     all_goals try simp [F] at c6p
     all_goals
      replace F := And.intro c6 F
      try replace F := And.intro c6p F
      refine run_skip ?_
      refine hK8 _ _ ?_
      refine sq fun K11 hK11 => ?_
      refine run_block_k ?_
      have hi16 : i < 16 := by simp at c6; omega
      obtain ⟨q, hq⟩ : ∃ q, q = i / 4 := ⟨_, rfl⟩
      obtain ⟨r, hr⟩ : ∃ r, r = i % 4 := ⟨_, rfl⟩
      have e1 : (i : Int) / 4 = (q : Int) := by omega
      have e2 : (i : Int) % 4 = (r : Int) := by omega
      have hq4 : q < 4 := by omega
      have hq4i : (q : Int) < 4 := by omega
      have e3 : (i : Int).tdiv 4 = (q : Int) := by rw [Int.tdiv_eq_ediv_of_nonneg (by omega)]; exact e1
      have e4 : (i : Int).tmod 4 = (r : Int) := by rw [Int.tmod_eq_emod_of_nonneg (by omega)]; exact e2
      obtain ⟨L, hL⟩ : ∃ L, L = x / 18446744073709551616 ^ q % 18446744073709551616 := ⟨_, rfl⟩
      have hgx : (numA x)[q]? = some (.v (.int .u64 L)) := by rw [hL, numA_digs]; exact digU_get hq4
      obtain ⟨_, hgx2⟩ := List.getElem?_eq_some_iff.1 hgx
      have hneg : ¬ (16 * (r : Int) < 0) := by omega
      have htn : (16 * (r : Int)).toNat = 16 * r := by omega
      have hmn : min (16 * r) 64 = 16 * r := by omega
      obtain ⟨V, hV⟩ : ∃ V, V = x / 65536 ^ i % 65536 := ⟨_, rfl⟩
      have hval : ((L : Int).fdiv (2 ^ (16 * r))).tmod 65536 = (V : Int) := by rw [pow2_cast, fdiv_nat, hV, ← digit16, ← hq, ← hr, ← hL, Int.tmod_eq_emod_of_nonneg (Int.natCast_nonneg _)]; rfl
      have hb1 : (i + 1) * 8 ≤ 140737488355328 := by omega
      have hb2 : i ≤ 9223372036854775806 := by omega
      have htk : List.take i (u64s (digs 65536 i x)) = u64s (digs 65536 i x) := List.take_of_length_le (by simp)
      have hsn : u64s (digs 65536 i x) ++ [.v (.int .u64 V)] = u64s (digs 65536 (i + 1) x) := by rw [u64s_snoc, hV, ← digs_snoc]
      replace F := And.intro hneg F
      replace F := And.intro htn F
      replace F := And.intro hmn F
      replace F := And.intro hval F
      replace F := And.intro hb1 F
      replace F := And.intro hb2 F
      replace F := And.intro htk F
      replace F := And.intro hsn F
      replace F := And.intro e1 F
      replace F := And.intro e2 F
      replace F := And.intro e3 F
      replace F := And.intro e4 F
      replace F := And.intro hq4 F
      replace F := And.intro hq4i F
      replace F := And.intro hgx F
      replace F := And.intro hgx2 F
      replace F := And.intro hi16 F
      refine rg' (h := fun J12 hJ12 => ?_)
      refine hJ12 _ _ ?_
      refine hK11 _ _ ?_
      refine rg' (h := fun J13 hJ13 => ?_)
      refine hJ13 _ _ ?_
      refine ⟨(i + 1), ⟨kp, lp, lp, lp, lp⟩, lp⟩
   try exact nope c6
   all_goals have c6p := c6
   all_goals try simp [F] at c6p
   all_goals
    replace F := And.intro c6 F
    try replace F := And.intro c6p F
    obtain rfl : i = 16 := by simp at c6; omega
    refine run_exit ?_
    refine hK5 _ _ ?_
    refine sq fun K14 hK14 => ?_
    refine rg' (h := fun J15 hJ15 => ?_)
    refine hJ15 _ _ ?_
    refine hK14 _ _ ?_
    refine run_ret ?_
    try simp only [Then, InBlock, NoGoto]
    refine answer_tmp rfl (.inr rfl) ?_
    exact gco

theorem digits_sl {σ : St} {x : Nat} :
    CallsA Try.prog 127 [.agg (numA x)] σ (fun av σ' => av = .sl 1 (u64s (digs 65536 16 x)) 16 .shut ∧ σ = σ') :=
  callsA_mono (callsA_freeze_ret (callsA_mono digits_ok (fun av σ' ⟨h1, h2⟩ => ⟨16, none, h1, h2⟩)) (by simp) (u64s_under _ _)) (fun av σ' ⟨h1, h2⟩ => ⟨h1, h2.symm⟩)

set_option maxHeartbeats 1600000 in
attribute [local simp] undefA List.getElem?_cons_zero List.getElem?_cons_succ in
theorem carry_ok {σ : St} {k g n : Nat} {L : List Nat} (hr : σ.rows[k]? = some ⟨g, u64s L, none⟩) (hn : L.length = n) (hn2 : n ≤ 1000) (hL : ∀ d ∈ L, d ≤ 4611686018427387904) :
    CallsA Try.prog 121 [.row k g 0 1 n] σ (fun av σ' => av = .row k (g + 1) 0 1 (n + 1) ∧ σ' = { σ with rows := σ.rows.set k ⟨g + 1, u64s (digs 65536 n (valD 65536 L) ++ [valD 65536 L / 65536 ^ n]), none⟩ }) := by
  subst hn
  have hs := fun x => set_self_of hr x
  have hss : ∀ x y : RowSt, (σ.rows.set k x).set k y = σ.rows.set k y := fun x y => List.set_set _
  have F := And.intro hs (And.intro hss (True.intro))
  refine callsA_body Try.func121 rfl rfl rfl ?_
  refine sq fun K1 hK1 => ?_
  refine rg' (h := fun J2 hJ2 => ?_)
  refine hJ2 _ _ ?_
  refine hK1 _ _ ?_
  refine sq fun K3 hK3 => ?_
  refine rg' (h := fun J4 hJ4 => ?_)
  refine hJ4 _ _ ?_
  refine hK3 _ _ ?_
  refine sq fun K5 hK5 => ?_
  refine sq fun K6 hK6 => ?_
  refine rg' (h := fun J7 hJ7 => ?_)
  refine hJ7 _ _ ?_
  refine hK6 _ _ ?_
  refine run_block_k ?_
  refine run_loopF (X := Nat) [0, 2] (fun i ρ σ1 => (i ≤ L.length) ∧ (ρ 3 = .v (.int .u64 (crO 65536 L i : Nat))) ∧ (ρ 4 = .v (.int .i64 i)) ∧ (σ1 = { σ with rows := σ.rows.set k ⟨g, u64s (crA 65536 L i), none⟩ })) (fun i => L.length - i) (0) ?st1 ?rd1
  case st1 =>
   refine ⟨lp, ?_, lp, ?_⟩
   · simp [crO_zero]
   · rw [crA_zero, Ytdbaddholggkbaa.set_same hr]
  case rd1 =>
   rintro i ρ1 σ1 hF1 ⟨hi, h3, h4, hσ⟩
   obtain rfl := hσ.symm
   have f1 := keepL hF1
   try simp [KeepL, F] at f1
   replace F := And.intro h3 F
   replace F := And.intro h4 F
   try replace F := And.intro f1 F
   refine sq fun K8 hK8 => ?_
   refine sq fun K9 hK9 => ?_
   refine rg' (h := fun J10 hJ10 => ?_)
   refine hJ10 _ _ ?_
   refine hK9 _ _ ?_
   refine cs (fun c8 => ?_) (fun c8 => ?_)
   · try exact nope c8
     all_goals have c8p := c8
     all_goals try simp [F] at c8p
     all_goals
      replace F := And.intro c8 F
      try replace F := And.intro c8p F
      refine run_skip ?_
      refine hK8 _ _ ?_
      refine sq fun K11 hK11 => ?_
      refine run_block_k ?_
      refine sq fun K12 hK12 => ?_
      have hlt : i < L.length := by simp at c8; omega
      obtain ⟨d, hd⟩ : ∃ d, d = L[i] := ⟨_, rfl⟩
      have hgx : (u64s (crA 65536 L i))[i]? = some (.v (.int .u64 d)) := by rw [hd]; exact u64s_get_of (crA_get hlt)
      obtain ⟨_, hgx2⟩ := List.getElem?_eq_some_iff.1 hgx
      have hcl := crA_len (b := 65536) hi
      have hdl : d ≤ 4611686018427387904 := by rw [hd]; exact hL _ (List.getElem_mem _)
      have hcO := crO_le (b := 65536) (by omega) hL i hi
      obtain ⟨c, hc⟩ : ∃ c, c = crO 65536 L i := ⟨_, rfl⟩
      rw [← hc] at h3 F hcO
      have hsum : IntKind.u64.wrap ((c : Int) + d) = ((c + d : Nat) : Int) := by rw [wrap_u64c (by omega)]; push_cast; rfl
      obtain ⟨s, hsd⟩ : ∃ s, s = c + d := ⟨_, rfl⟩
      rw [← hsd] at hsum
      have hs6 : (s : Int).tmod 65536 = ((s % 65536 : Nat) : Int) := by rw [Int.tmod_eq_emod_of_nonneg (by omega)]; rfl
      obtain ⟨m, hm⟩ : ∃ m, m = s % 65536 := ⟨_, rfl⟩
      obtain ⟨v, hv⟩ : ∃ v, v = s / 65536 := ⟨_, rfl⟩
      rw [← hm] at hs6
      have hs7 : (s : Int).tdiv 65536 = (v : Int) := by rw [Int.tdiv_eq_ediv_of_nonneg (by omega), hv]; rfl
      have hs8 : (s : Int) / 65536 = (v : Int) := by omega
      have hs9 : (s : Int) % 65536 = (m : Int) := by omega
      have hlti : (i : Int) < L.length := by omega
      have hset := u64s_set (crA 65536 L i) i m (by rw [hcl]; exact hlt)
      have hcs : (crA 65536 L i).set i m = crA 65536 L (i + 1) := by rw [hm, hsd, hc, hd]; exact crA_set (by omega) hlt
      rw [hcs] at hset
      have hvn : v = crO 65536 L (i + 1) := by rw [hv, hsd, hc, hd]; exact crO_next (by omega) hlt
      replace F := And.intro hgx F
      replace F := And.intro hgx2 F
      replace F := And.intro hcl F
      replace F := And.intro hlt F
      replace F := And.intro hlti F
      replace F := And.intro hsum F
      replace F := And.intro hs6 F
      replace F := And.intro hs7 F
      replace F := And.intro hs8 F
      replace F := And.intro hs9 F
      refine rg' (h := fun J13 hJ13 => ?_)
      refine hJ13 _ _ ?_
      refine hK12 _ _ ?_
      refine sq fun K14 hK14 => ?_
      refine rg' (h := fun J15 hJ15 => ?_)
      refine hJ15 _ _ ?_
      refine hK14 _ _ ?_
      refine rg' (h := fun J16 hJ16 => ?_)
      refine hJ16 _ _ ?_
      refine hK11 _ _ ?_
      refine rg' (h := fun J17 hJ17 => ?_)
      refine hJ17 _ _ ?_
      refine ⟨(i + 1), ⟨kp, lp, ?_, lp, ?_⟩, lp⟩
      · simp [F, hvn]
      · simp [F, hset]
   try exact nope c8
   all_goals have c8p := c8
   all_goals try simp [F] at c8p
   all_goals
    replace F := And.intro c8 F
    try replace F := And.intro c8p F
    obtain rfl : i = L.length := by simp at c8; omega
    have hb1 : (L.length + 1) * 8 ≤ 140737488355328 := by omega
    have hb2 : L.length ≤ 9223372036854775806 := by omega
    have hcl := crA_len (b := 65536) (Nat.le_refl L.length)
    have htk : List.take L.length (u64s (crA 65536 L L.length)) = u64s (crA 65536 L L.length) := List.take_of_length_le (by simp [hcl])
    have hall : u64s (crA 65536 L L.length) ++ [.v (.int .u64 (crO 65536 L L.length : Nat))] = u64s (digs 65536 L.length (valD 65536 L) ++ [valD 65536 L / 65536 ^ L.length]) := by rw [u64s_snoc, crA_all]
    replace F := And.intro hb1 (And.intro hb2 (And.intro hcl (And.intro htk (And.intro hall F))))
    refine run_exit ?_
    refine hK5 _ _ ?_
    refine sq fun K18 hK18 => ?_
    refine rg' (h := fun J19 hJ19 => ?_)
    refine hJ19 _ _ ?_
    refine hK18 _ _ ?_
    refine run_ret ?_
    try simp only [Then, InBlock, NoGoto]
    refine answer_tmp rfl (.inr rfl) ?_
    exact rt

end Go.Proofs.Ytdbaddholggkbaa

/-
  The document's numbers: what digits are; sums.
-/
namespace Go.Proofs.Ytdbaddholggkbaa
set_option linter.unnecessarySimpa false
set_option maxRecDepth 100000
open Go Go.Vm
set_option linter.unusedSimpArgs false
set_option linter.unusedVariables false

attribute [local simp] evalL wantedA isCall opA evalA evalAll evalsA evalOpt ofValue ofCell plain binA_eql_pn binA_neq_pn binA_gtr binA_lss binA_geq binA_leq binA_add binA_sub binA_eql binA_neq binA_orI binA_andI binA_shl binA_shr binA_mul binA_quo binA_rem binA_agg_eql binA_agg_neq convA_int unA_not fieldAddrA loadA partA pickA_true pickA_false pickA_bb lenA builtinA storeA splice readA rowAppA zc64 appendA roomA maxLen AV.cells AV.isCell sliceA boundA intA callOf indexAddrA newObjA buildA fillA zeroA ofCells buildSliceA indexA fieldA numA_len4 numA_take4 numA_drop4 set_appN get_appN take_appN List.getElem?_cons_zero List.getElem?_cons_succ

set_option maxHeartbeats 1600000 in
attribute [local simp] undefA List.getElem?_cons_zero List.getElem?_cons_succ numA_zero4 in
theorem rof_ok {σ : St} {L : List Nat} {n : Nat} {tl : Tail} (hn : L.length = n) (h16 : 16 ≤ n) (hl : n ≤ 1000) (hL : ∀ d ∈ L.take 16, d < 65536) :
    CallsA Try.prog 122 [.sl 1 (u64s L) n tl] σ (fun av σ' => av = .tup [.agg (numA (if valD 65536 L < 2 ^ 256 then valD 65536 L else 0)), .v (.bool (decide (valD 65536 L < 2 ^ 256)))] ∧ σ = σ') := by
  refine callsA_gcS ?_ (by simp [AV.under, underL, numA])
  have e256 : (65536 : Nat) ^ 16 = 2 ^ 256 := by rw [show (65536 : Nat) = 2 ^ 16 from rfl, ← Nat.pow_mul]
  subst hn
  have F := True.intro
  refine callsA_body Try.func122 rfl rfl rfl ?_
  refine sq fun K1 hK1 => ?_
  refine rg' (h := fun J2 hJ2 => ?_)
  refine hJ2 _ _ ?_
  refine hK1 _ _ ?_
  refine sq fun K3 hK3 => ?_
  refine rg' (h := fun J4 hJ4 => ?_)
  refine hJ4 _ _ ?_
  refine hK3 _ _ ?_
  refine sq fun K5 hK5 => ?_
  refine sq fun K6 hK6 => ?_
  refine rg' (h := fun J7 hJ7 => ?_)
  refine hJ7 _ _ ?_
  refine hK6 _ _ ?_
  refine run_block_k ?_
  refine run_loopF (X := Nat) [0, 2, 4] (fun i ρ σ1 => (i ≤ L.length) ∧ (∀ j, 16 ≤ j → j < i → L[j]? = some 0) ∧ (ρ 5 = .v (.int .i64 i)) ∧ (σ1 = { σ with objs := σ.objs ++ [numA 0, numA (valD 65536 (L.take (min i 16)))] })) (fun i => L.length - i) (0) ?st1 ?rd1
  case st1 =>
   refine ⟨lp, ?_, lp, ?_⟩
   · intro j h1 h2
     omega
   · simp [numA_zero4]
  case rd1 =>
   rintro i ρ1 σ1 hF1 ⟨hi, hz, h5, hσ⟩
   obtain rfl := hσ.symm
   have f1 := keepL hF1
   try simp [KeepL, F] at f1
   replace F := And.intro h5 F
   try replace F := And.intro f1 F
   refine sq fun K8 hK8 => ?_
   refine sq fun K9 hK9 => ?_
   refine rg' (h := fun J10 hJ10 => ?_)
   refine hJ10 _ _ ?_
   refine hK9 _ _ ?_
   refine cs (fun c9 => ?_) (fun c9 => ?_)
   · try exact nope c9
     all_goals have c9p := c9
     all_goals try simp [F] at c9p
     all_goals
      replace F := And.intro c9 F
      try replace F := And.intro c9p F
      refine run_skip ?_
      refine hK8 _ _ ?_
      refine sq fun K11 hK11 => ?_
      refine run_block_k ?_
      refine sq fun K12 hK12 => ?_
      refine sq fun K13 hK13 => ?_
      have hlt : i < L.length := by simp at c9; omega
      obtain ⟨d, hd⟩ : ∃ d, d = L[i] := ⟨_, rfl⟩
      have hgd : L[i]? = some d := by rw [hd]; exact List.getElem?_eq_getElem hlt
      have hgx : (u64s L)[i]? = some (.v (.int .u64 d)) := u64s_get_of hgd
      obtain ⟨_, hgx2⟩ := List.getElem?_eq_some_iff.1 hgx
      have hlti : (i : Int) < L.length := by omega
      have hdr : List.drop i (u64s L) = .v (.int .u64 d) :: List.drop (i + 1) (u64s L) := by rw [List.drop_eq_getElem_cons (by simpa using hlt), hgx2]
      replace F := And.intro hgx F
      replace F := And.intro hgx2 F
      replace F := And.intro hlt F
      replace F := And.intro hlti F
      replace F := And.intro hdr F
      refine rg' (h := fun J14 hJ14 => ?_)
      refine gs 14 (fun g5_2 => ?_) (fun g5_2 => ?_)
      · try exact nope g5_2
        all_goals have g5_2p := g5_2
        all_goals try simp [F] at g5_2p
        all_goals
         replace F := And.intro g5_2 F
         try replace F := And.intro g5_2p F
         refine go2 (k := ?_)
         refine go2 (k := ?_)
         refine go2 (k := ?_)
         refine go2 (k := ?_)
         refine go2 (k := ?_)
         refine hJ14 _ _ ?_
         refine hK13 _ _ ?_
         refine cs (fun c20 => ?_) (fun c20 => ?_)
         · try exact nope c20
           all_goals have c20p := c20
           all_goals try simp [F] at c20p
           all_goals
            replace F := And.intro c20 F
            try replace F := And.intro c20p F
            have hbig : ¬ valD 65536 L < 2 ^ 256 := by rw [← e256]; exact valD_big (by omega) (by have h := g5_2; simp at h; omega) hlt (by rw [← hd]; have h := c20; simp at h; omega)
            replace F := And.intro hbig (And.intro (if_neg hbig : (if valD 65536 L < 2 ^ 256 then valD 65536 L else 0) = 0) F)
            refine sq fun K15 hK15 => ?_
            refine rg' (h := fun J16 hJ16 => ?_)
            refine hJ16 _ _ ?_
            refine hK15 _ _ ?_
            refine run_ret ?_
            try simp only [Then, InBlock, NoGoto]
            refine acell2 (h := ?_)
            exact gcr
         try exact nope c20
         all_goals have c20p := c20
         all_goals try simp [F] at c20p
         all_goals
          replace F := And.intro c20 F
          try replace F := And.intro c20p F
          refine run_skip ?_
          refine hK12 _ _ ?_
          refine sq fun K17 hK17 => ?_
          refine rg' (h := fun J18 hJ18 => ?_)
          refine hJ18 _ _ ?_
          refine hK17 _ _ ?_
          refine cs (fun c23 => ?_) (fun c23 => ?_)
          · try exact nope c23
            all_goals have c23p := c23
            all_goals try simp [F] at c23p
            all_goals
             replace F := And.intro c23 F
             try replace F := And.intro c23p F
             have hi16 : i < 16 := by have h := c23; simp at h; omega
             have hm1 : min i 16 = i := by omega
             have hm2 : min (i + 1) 16 = i + 1 := by omega
             obtain ⟨T, hT⟩ : ∃ T, T = valD 65536 (L.take i) := ⟨_, rfl⟩
             have hTl : T < 65536 ^ i := by rw [hT]; have := valD_lt (b := 65536) (l := L.take i) (fun x hx => hL x (by rw [List.mem_take_iff_getElem] at hx ⊢; obtain ⟨k, hk, e⟩ := hx; exact ⟨k, by omega, e⟩)); rwa [List.length_take, Nat.min_eq_left (by omega)] at this
             have hdl : d < 65536 := hL d (by rw [hd, List.mem_take_iff_getElem]; exact ⟨i, by omega, rfl⟩)
             rw [hm1, ← hT]
             obtain ⟨q, hq⟩ : ∃ q, q = i / 4 := ⟨_, rfl⟩
             obtain ⟨r, hr⟩ : ∃ r, r = i % 4 := ⟨_, rfl⟩
             have e1 : (i : Int) / 4 = (q : Int) := by omega
             have e2 : (i : Int) % 4 = (r : Int) := by omega
             have hq4 : q < 4 := by omega
             have hq4i : (q : Int) < 4 := by omega
             have e3 : (i : Int).tdiv 4 = (q : Int) := by rw [Int.tdiv_eq_ediv_of_nonneg (by omega)]; exact e1
             have e4 : (i : Int).tmod 4 = (r : Int) := by rw [Int.tmod_eq_emod_of_nonneg (by omega)]; exact e2
             have hneg : ¬ (16 * (r : Int) < 0) := by omega
             have htn : (16 * (r : Int)).toNat = 16 * r := by omega
             have hmn : min (16 * r) 64 = 16 * r := by omega
             obtain ⟨hy1, hy2⟩ := digs_lay hq hr hi16 hTl hdl
             obtain ⟨M, hM⟩ : ∃ M, M = T / 18446744073709551616 ^ q % 18446744073709551616 := ⟨_, rfl⟩
             rw [← hM] at hy1 hy2
             have hgM : (numA T)[q]? = some (.v (.int .u64 M)) := by rw [hM, numA_digs]; exact digU_get hq4
             obtain ⟨_, hgM2⟩ := List.getElem?_eq_some_iff.1 hgM
             obtain ⟨S, hS⟩ : ∃ S, S = d * 2 ^ (16 * r) := ⟨_, rfl⟩
             rw [← hS] at hy1 hy2
             have hsh : IntKind.u64.wrap ((d : Int) * 2 ^ (16 * r)) = (S : Int) := by rw [pow2_cast, show (d : Int) * ((2 ^ (16 * r) : Nat) : Int) = ((d * 2 ^ (16 * r) : Nat) : Int) by push_cast; rfl, ← hS]; exact wrapN (by omega)
             obtain ⟨A, hA⟩ : ∃ A, A = M + S := ⟨_, rfl⟩
             rw [← hA] at hy1 hy2
             have had : IntKind.u64.wrap ((M : Int) + S) = (A : Int) := by rw [show (M : Int) + S = (A : Int) by omega]; exact wrapN hy1
             have hset := u64s_set (digs 18446744073709551616 4 T) q A (by simpa using hq4)
             rw [hy2, ← numA_digs, ← numA_digs] at hset
             have hnx : valD 65536 (L.take (i + 1)) = T + 65536 ^ i * d := by rw [valD_take_succ hlt, ← hT, hd]
             replace F := And.intro hm2 F
             replace F := And.intro e1 F
             replace F := And.intro e2 F
             replace F := And.intro e3 F
             replace F := And.intro e4 F
             replace F := And.intro hneg F
             replace F := And.intro htn F
             replace F := And.intro hmn F
             replace F := And.intro hq4 F
             replace F := And.intro hq4i F
             replace F := And.intro hgM F
             replace F := And.intro hgM2 F
             replace F := And.intro hsh F
             replace F := And.intro had F
             refine run_draw (by kernel_rfl) fun J19 hJ19 => ?_
             refine rp2 0 (k := ?_)
             refine rp2 1 (k := ?_)
             refine rp2 2 (k := ?_)
             refine rp2 3 (k := ?_)
             refine rp2 4 (k := ?_)
             refine rp2 5 (k := ?_)
             refine rp2 6 (k := ?_)
             refine rp2 7 (k := ?_)
             refine rp2 8 (k := ?_)
             refine rp2 9 (k := ?_)
             refine rp2 10 (k := ?_)
             refine rp2 11 (k := ?_)
             refine rp2 12 (k := ?_)
             refine rp2 13 (k := ?_)
             refine dop 14 rfl ?_
             repeat (first | simp [F] | simp (disch := omega) only [wC, if_pos, if_neg])
             refine ⟨ln, ?_⟩
             refine dd ?_
             refine hJ19 _ _ ?_
             refine hK11 _ _ ?_
             refine rg' (h := fun J20 hJ20 => ?_)
             refine hJ20 _ _ ?_
             refine ⟨(i + 1), ⟨kp, lp, ?_, lp, ?_⟩, lp⟩
             · intro j h1 h2
               by_cases hj : j = i
               · subst hj; first | omega | (rw [hgd, hd0])
               · exact hz j h1 (by omega)
             · simp [F]
               rw [hnx]
               exact hset
          try exact nope c23
          all_goals have c23p := c23
          all_goals try simp [F] at c23p
          all_goals
           replace F := And.intro c23 F
           try replace F := And.intro c23p F
           have hd0 : d = 0 := by have h := c20; simp at h; omega
           have hi16 : 16 ≤ i := by have h := c23; simp at h; omega
           have hm1 : min i 16 = 16 := by omega
           have hm2 : min (i + 1) 16 = 16 := by omega
           replace F := And.intro hm1 (And.intro hm2 F)
           refine run_skip ?_
           refine hK11 _ _ ?_
           refine rg' (h := fun J21 hJ21 => ?_)
           refine hJ21 _ _ ?_
           refine ⟨(i + 1), ⟨kp, lp, ?_, lp, lp⟩, lp⟩
           · intro j h1 h2
             by_cases hj : j = i
             · subst hj; first | omega | (rw [hgd, hd0])
             · exact hz j h1 (by omega)
      try exact nope g5_2
      all_goals have g5_2p := g5_2
      all_goals try simp [F] at g5_2p
      all_goals
       replace F := And.intro g5_2 F
       try replace F := And.intro g5_2p F
       refine no2 (k := ?_)
       refine no2 (k := ?_)
       refine no2 (k := ?_)
       refine no2 (k := ?_)
       refine no2 (k := ?_)
       refine hJ14 _ _ ?_
       refine hK13 _ _ ?_
       refine cf ?_
       refine run_skip ?_
       refine hK12 _ _ ?_
       refine sq fun K22 hK22 => ?_
       refine rg' (h := fun J23 hJ23 => ?_)
       refine hJ23 _ _ ?_
       refine hK22 _ _ ?_
       refine cs (fun c23 => ?_) (fun c23 => ?_)
       · try exact nope c23
         all_goals have c23p := c23
         all_goals try simp [F] at c23p
         all_goals
          replace F := And.intro c23 F
          try replace F := And.intro c23p F
          have hi16 : i < 16 := by have h := c23; simp at h; omega
          have hm1 : min i 16 = i := by omega
          have hm2 : min (i + 1) 16 = i + 1 := by omega
          obtain ⟨T, hT⟩ : ∃ T, T = valD 65536 (L.take i) := ⟨_, rfl⟩
          have hTl : T < 65536 ^ i := by rw [hT]; have := valD_lt (b := 65536) (l := L.take i) (fun x hx => hL x (by rw [List.mem_take_iff_getElem] at hx ⊢; obtain ⟨k, hk, e⟩ := hx; exact ⟨k, by omega, e⟩)); rwa [List.length_take, Nat.min_eq_left (by omega)] at this
          have hdl : d < 65536 := hL d (by rw [hd, List.mem_take_iff_getElem]; exact ⟨i, by omega, rfl⟩)
          rw [hm1, ← hT]
          obtain ⟨q, hq⟩ : ∃ q, q = i / 4 := ⟨_, rfl⟩
          obtain ⟨r, hr⟩ : ∃ r, r = i % 4 := ⟨_, rfl⟩
          have e1 : (i : Int) / 4 = (q : Int) := by omega
          have e2 : (i : Int) % 4 = (r : Int) := by omega
          have hq4 : q < 4 := by omega
          have hq4i : (q : Int) < 4 := by omega
          have e3 : (i : Int).tdiv 4 = (q : Int) := by rw [Int.tdiv_eq_ediv_of_nonneg (by omega)]; exact e1
          have e4 : (i : Int).tmod 4 = (r : Int) := by rw [Int.tmod_eq_emod_of_nonneg (by omega)]; exact e2
          have hneg : ¬ (16 * (r : Int) < 0) := by omega
          have htn : (16 * (r : Int)).toNat = 16 * r := by omega
          have hmn : min (16 * r) 64 = 16 * r := by omega
          obtain ⟨hy1, hy2⟩ := digs_lay hq hr hi16 hTl hdl
          obtain ⟨M, hM⟩ : ∃ M, M = T / 18446744073709551616 ^ q % 18446744073709551616 := ⟨_, rfl⟩
          rw [← hM] at hy1 hy2
          have hgM : (numA T)[q]? = some (.v (.int .u64 M)) := by rw [hM, numA_digs]; exact digU_get hq4
          obtain ⟨_, hgM2⟩ := List.getElem?_eq_some_iff.1 hgM
          obtain ⟨S, hS⟩ : ∃ S, S = d * 2 ^ (16 * r) := ⟨_, rfl⟩
          rw [← hS] at hy1 hy2
          have hsh : IntKind.u64.wrap ((d : Int) * 2 ^ (16 * r)) = (S : Int) := by rw [pow2_cast, show (d : Int) * ((2 ^ (16 * r) : Nat) : Int) = ((d * 2 ^ (16 * r) : Nat) : Int) by push_cast; rfl, ← hS]; exact wrapN (by omega)
          obtain ⟨A, hA⟩ : ∃ A, A = M + S := ⟨_, rfl⟩
          rw [← hA] at hy1 hy2
          have had : IntKind.u64.wrap ((M : Int) + S) = (A : Int) := by rw [show (M : Int) + S = (A : Int) by omega]; exact wrapN hy1
          have hset := u64s_set (digs 18446744073709551616 4 T) q A (by simpa using hq4)
          rw [hy2, ← numA_digs, ← numA_digs] at hset
          have hnx : valD 65536 (L.take (i + 1)) = T + 65536 ^ i * d := by rw [valD_take_succ hlt, ← hT, hd]
          replace F := And.intro hm2 F
          replace F := And.intro e1 F
          replace F := And.intro e2 F
          replace F := And.intro e3 F
          replace F := And.intro e4 F
          replace F := And.intro hneg F
          replace F := And.intro htn F
          replace F := And.intro hmn F
          replace F := And.intro hq4 F
          replace F := And.intro hq4i F
          replace F := And.intro hgM F
          replace F := And.intro hgM2 F
          replace F := And.intro hsh F
          replace F := And.intro had F
          refine run_draw (by kernel_rfl) fun J24 hJ24 => ?_
          refine rp2 0 (k := ?_)
          refine rp2 1 (k := ?_)
          refine rp2 2 (k := ?_)
          refine rp2 3 (k := ?_)
          refine rp2 4 (k := ?_)
          refine rp2 5 (k := ?_)
          refine rp2 6 (k := ?_)
          refine rp2 7 (k := ?_)
          refine rp2 8 (k := ?_)
          refine rp2 9 (k := ?_)
          refine rp2 10 (k := ?_)
          refine rp2 11 (k := ?_)
          refine rp2 12 (k := ?_)
          refine rp2 13 (k := ?_)
          refine dop 14 rfl ?_
          repeat (first | simp [F] | simp (disch := omega) only [wC, if_pos, if_neg])
          refine ⟨ln, ?_⟩
          refine dd ?_
          refine hJ24 _ _ ?_
          refine hK11 _ _ ?_
          refine rg' (h := fun J25 hJ25 => ?_)
          refine hJ25 _ _ ?_
          refine ⟨(i + 1), ⟨kp, lp, ?_, lp, ?_⟩, lp⟩
          · intro j h1 h2
            by_cases hj : j = i
            · subst hj; first | omega | (rw [hgd, hd0])
            · exact hz j h1 (by omega)
          · simp [F]
            rw [hnx]
            exact hset
       try exact nope c23
       all_goals have c23p := c23
       all_goals try simp [F] at c23p
       all_goals
        replace F := And.intro c23 F
        try replace F := And.intro c23p F
        have hd0 : d = 0 := by have h := c20; simp at h; omega
        have hi16 : 16 ≤ i := by have h := c23; simp at h; omega
        have hm1 : min i 16 = 16 := by omega
        have hm2 : min (i + 1) 16 = 16 := by omega
        replace F := And.intro hm1 (And.intro hm2 F)
        refine run_skip ?_
        refine hK11 _ _ ?_
        refine rg' (h := fun J26 hJ26 => ?_)
        refine hJ26 _ _ ?_
        refine ⟨(i + 1), ⟨kp, lp, ?_, lp, lp⟩, lp⟩
        · intro j h1 h2
          by_cases hj : j = i
          · subst hj; first | omega | (rw [hgd, hd0])
          · exact hz j h1 (by omega)
   try exact nope c9
   all_goals have c9p := c9
   all_goals try simp [F] at c9p
   all_goals
    replace F := And.intro c9 F
    try replace F := And.intro c9p F
    obtain rfl : i = L.length := by simp at c9; omega
    have hm1 : min L.length 16 = 16 := by omega
    have hv : valD 65536 L = valD 65536 (L.take 16) := valD_zeros (fun j h1 h2 => by have := hz j h1 h2; rw [List.getElem?_eq_getElem h2] at this; simpa using this)
    have hfit : valD 65536 L < 2 ^ 256 := by rw [hv, ← e256]; have := valD_lt (b := 65536) (l := L.take 16) hL; rwa [List.length_take, Nat.min_eq_left h16] at this
    rw [hm1, ← hv]
    replace F := And.intro hfit (And.intro hm1 F)
    refine run_exit ?_
    refine hK5 _ _ ?_
    refine sq fun K27 hK27 => ?_
    refine rg' (h := fun J28 hJ28 => ?_)
    refine hJ28 _ _ ?_
    refine hK27 _ _ ?_
    refine run_ret ?_
    try simp only [Then, InBlock, NoGoto]
    refine acell2 (h := ?_)
    exact gcr

end Go.Proofs.Ytdbaddholggkbaa

/-
  The document's numbers: sums, rests.
-/
namespace Go.Proofs.Ytdbaddholggkbaa
set_option linter.unnecessarySimpa false
set_option maxRecDepth 100000
open Go Go.Vm
set_option linter.unusedSimpArgs false
set_option linter.unusedVariables false

attribute [local simp] evalL wantedA isCall opA evalA evalAll evalsA evalOpt ofValue ofCell plain binA_eql_pn binA_neq_pn binA_gtr binA_lss binA_geq binA_leq binA_add binA_sub binA_eql binA_neq binA_orI binA_andI binA_shl binA_shr binA_mul binA_quo binA_rem binA_agg_eql binA_agg_neq convA_int unA_not fieldAddrA loadA partA pickA_true pickA_false pickA_bb lenA builtinA storeA splice readA rowAppA zc64 appendA roomA maxLen AV.cells AV.isCell sliceA boundA intA callOf indexAddrA newObjA buildA fillA zeroA ofCells buildSliceA indexA fieldA numA_len4 numA_take4 numA_drop4 set_appN get_appN take_appN List.getElem?_cons_zero List.getElem?_cons_succ

theorem valD_whole (b n V : Nat) : valD b (digs b n V ++ [V / b ^ n]) = V := by
  rw [valD_snoc, valD_digs, digs_len, Nat.mod_add_div]

set_option maxHeartbeats 1600000 in
attribute [local simp] undefA List.getElem?_cons_zero List.getElem?_cons_succ u64s_noObj in
theorem radd_ok {σ : St} {x y : Nat} (hx : x < 2 ^ 256) (hy : y < 2 ^ 256) :
    CallsA Try.prog 77 [.agg (numA x), .agg (numA y)] σ (fun av σ' => av = .tup [.agg (numA (addN x y)), .v (.bool (decide (x + y < 2 ^ 256)))] ∧ σ = σ') := by
  refine callsA_gcS ?_ (by simp [AV.under, underL, numA])
  have e256 : (65536 : Nat) ^ 16 = 2 ^ 256 := by rw [show (65536 : Nat) = 2 ^ 16 from rfl, ← Nat.pow_mul]
  have hx4 : x < 65536 ^ 16 := by rw [e256]; exact hx
  have hy4 : y < 65536 ^ 16 := by rw [e256]; exact hy
  obtain ⟨X, hX⟩ : ∃ X, X = digs 65536 16 x := ⟨_, rfl⟩
  obtain ⟨Y, hY⟩ : ∃ Y, Y = digs 65536 16 y := ⟨_, rfl⟩
  have hXl : X.length = 16 := by rw [hX]; simp
  have hYl : Y.length = 16 := by rw [hY]; simp
  have hXm : ∀ d ∈ X, d < 65536 := by rw [hX]; exact digs_lt (by decide)
  have hYm : ∀ d ∈ Y, d < 65536 := by rw [hY]; exact digs_lt (by decide)
  have hXY : X.length = Y.length := by omega
  have hvs : valD 65536 (addm X Y 16) = x + y := by
    rw [show 16 = X.length by omega, addm_all hXY, valD_zip _ _ _ hXY, hX, hY, valD_digs, valD_digs, Nat.mod_eq_of_lt hx4, Nat.mod_eq_of_lt hy4]
  have F := True.intro
  refine callsA_body Try.func77 rfl rfl rfl ?_
  refine sq fun K1 hK1 => ?_
  refine rg' (h := fun J2 hJ2 => ?_)
  refine hJ2 _ _ ?_
  refine hK1 _ _ ?_
  refine sq fun K3 hK3 => ?_
  refine run_draw (by kernel_rfl) fun J4 hJ4 => ?_
  refine rp2 0 (k := ?_)
  refine rp2 2 (k := ?_)
  refine dc 1 rfl (c := digits_ok (x := x)) (k := ?_)
  rintro _ _ ⟨rfl, rfl⟩
  refine ⟨by first | exact fun _ _ h => h | (refine later_list [2] (by kernel_rfl) (List.forall_mem_cons.2 ⟨fun _ => fact2 rfl rfl ?_, fun _ h => absurd h List.not_mem_nil⟩) <;> constructor <;> first | rfl | (simp [F]; done)), ?_⟩
  repeat (first | simp [F] | simp (disch := omega) only [wC, if_pos, if_neg])
  refine dc 3 rfl (c := digits_sl (x := y)) (k := ?_)
  rintro _ _ ⟨rfl, rfl⟩
  refine ⟨ln, ?_⟩
  repeat (first | simp [F] | simp (disch := omega) only [wC, if_pos, if_neg])
  refine rp2 4 (k := ?_)
  refine rp2 5 (k := ?_)
  refine dd ?_
  refine hJ4 _ _ ?_
  refine hK3 _ _ ?_
  refine sq fun K5 hK5 => ?_
  refine sq fun K6 hK6 => ?_
  refine rg' (h := fun J7 hJ7 => ?_)
  refine hJ7 _ _ ?_
  refine hK6 _ _ ?_
  refine run_block_k ?_
  refine run_loopF (X := Nat) [4, 5, 6, 7] (fun i ρ σ1 => (i ≤ 16) ∧ (ρ 8 = .v (.int .i64 i)) ∧ (σ1 = { σ with objs := σ.objs ++ [numA x, numA y, numA 0], rows := σ.rows ++ [⟨16, u64s (addm X Y i), none⟩] })) (fun i => 16 - i) (0) ?st1 ?rd1
  case st1 =>
   refine ⟨lp, lp, ?_⟩
   · rw [addm_zero, hX]; simp [numA_zero4]
  case rd1 =>
   rintro i ρ1 σ1 hF1 ⟨hi, h8, hσ⟩
   obtain rfl := hσ.symm
   have f1 := keepL hF1
   try simp [KeepL, F] at f1
   replace F := And.intro h8 F
   try replace F := And.intro f1 F
   refine sq fun K8 hK8 => ?_
   refine sq fun K9 hK9 => ?_
   refine rg' (h := fun J10 hJ10 => ?_)
   refine hJ10 _ _ ?_
   refine hK9 _ _ ?_
   refine cs (fun c14 => ?_) (fun c14 => ?_)
   · try exact nope c14
     all_goals have c14p := c14
     all_goals try simp [F] at c14p
     all_goals
      replace F := And.intro c14 F
      try replace F := And.intro c14p F
      refine run_skip ?_
      refine hK8 _ _ ?_
      refine sq fun K11 hK11 => ?_
      refine run_block_k ?_
      have hi16 : i < 16 := by simp at c14; omega
      obtain ⟨p, hp⟩ : ∃ p, p = X[i] := ⟨_, rfl⟩
      obtain ⟨q, hq⟩ : ∃ q, q = Y[i] := ⟨_, rfl⟩
      have hgx : (u64s (addm X Y i))[i]? = some (.v (.int .u64 p)) := by rw [hp]; exact u64s_get_of (addm_get hXY (by omega))
      have hgy : (u64s (digs 65536 16 y))[i]? = some (.v (.int .u64 q)) := by rw [← hY, hq]; exact u64s_get_of (List.getElem?_eq_getElem (by omega))
      obtain ⟨_, hgx2⟩ := List.getElem?_eq_some_iff.1 hgx
      obtain ⟨_, hgy2⟩ := List.getElem?_eq_some_iff.1 hgy
      have hdy : List.drop i (u64s (digs 65536 16 y)) = .v (.int .u64 q) :: List.drop (i + 1) (u64s (digs 65536 16 y)) := by rw [List.drop_eq_getElem_cons (by simpa using hi16), hgy2]
      have hpl : p < 65536 := by rw [hp]; exact hXm _ (List.getElem_mem _)
      have hql : q < 65536 := by rw [hq]; exact hYm _ (List.getElem_mem _)
      have hal := addm_len hXY (show i ≤ X.length by omega)
      rw [hXl] at hal
      obtain ⟨s, hs⟩ : ∃ s, s = p + q := ⟨_, rfl⟩
      have hsw : IntKind.u64.wrap ((p : Int) + q) = (s : Int) := by rw [show (p : Int) + q = (s : Int) by omega]; exact wrapN (by omega)
      have hset := u64s_set (addm X Y i) i s (by omega)
      rw [hs, hp, hq, addm_set hXY (by omega), ← hp, ← hq, ← hs] at hset
      have hii : (i : Int) < 16 := by omega
      replace F := And.intro hgx F
      replace F := And.intro hgy F
      replace F := And.intro hgx2 F
      replace F := And.intro hgy2 F
      replace F := And.intro hdy F
      replace F := And.intro hal F
      replace F := And.intro hsw F
      replace F := And.intro hi16 F
      replace F := And.intro hii F
      refine run_draw (by kernel_rfl) fun J12 hJ12 => ?_
      refine rp2 0 (k := ?_)
      refine rp2 1 (k := ?_)
      refine rp2 2 (k := ?_)
      refine rp2 3 (k := ?_)
      refine rp2 4 (k := ?_)
      refine rp2 5 (k := ?_)
      refine rp2 6 (k := ?_)
      refine rp2 7 (k := ?_)
      refine rp2 8 (k := ?_)
      refine rp2 9 (k := ?_)
      refine dop 10 rfl ?_
      repeat (first | simp [F] | simp (disch := omega) only [wC, if_pos, if_neg])
      refine ⟨ln, ?_⟩
      refine dd ?_
      refine hJ12 _ _ ?_
      refine hK11 _ _ ?_
      refine rg' (h := fun J13 hJ13 => ?_)
      refine hJ13 _ _ ?_
      refine ⟨(i + 1), ⟨kp, lp, lp, ?_⟩, lp⟩
      · simp [F, hset]
   try exact nope c14
   all_goals have c14p := c14
   all_goals try simp [F] at c14p
   all_goals
    replace F := And.intro c14 F
    try replace F := And.intro c14p F
    obtain rfl : i = 16 := by simp at c14; omega
    have hal := addm_len hXY (show 16 ≤ X.length by omega)
    rw [hXl] at hal
    have hsm : ∀ d ∈ addm X Y 16, d ≤ 4611686018427387904 := by rw [show addm X Y 16 = List.zipWith (· + ·) X Y by rw [← addm_all hXY, hXl]]; intro d hd; have := zip_le hXm hYm d hd; omega
    refine run_exit ?_
    refine hK5 _ _ ?_
    refine sq fun K14 hK14 => ?_
    refine rg' (h := fun J15 hJ15 => ?_)
    refine ca (c := carry_ok (k := σ.rows.length) (g := 16) (n := 16) (L := addm X Y 16) (by simp) hal (by omega) hsm) (k := ?_)
    rintro _ _ ⟨rfl, rfl⟩
    rw [hvs]
    repeat (first | simp [F] | simp (disch := omega) only [wC, if_pos, if_neg])
    refine runL_fz 28 1 (k := ?_)
    refine ca (c := rof_ok (L := digs 65536 16 (x + y) ++ [(x + y) / 65536 ^ 16]) (n := 17) (by simp) (by omega) (by omega) (by rw [List.take_append_of_le_length (by simp), List.take_of_length_le (by simp)]; exact digs_lt (by decide))) (k := ?_)
    rintro _ _ ⟨rfl, rfl⟩
    rw [valD_whole]
    have hN : (if x + y < 2 ^ 256 then x + y else 0) = addN x y := rfl
    rw [hN]
    repeat (first | simp [F] | simp (disch := omega) only [wC, if_pos, if_neg])
    refine hJ15 _ _ ?_
    refine hK14 _ _ ?_
    refine run_ret ?_
    try simp only [Then, InBlock, NoGoto]
    refine acell2 (h := ?_)
    exact gcr

end Go.Proofs.Ytdbaddholggkbaa

/-
  The document's coins.
-/
namespace Go.Proofs.Ytdbaddholggkbaa
set_option linter.unnecessarySimpa false
set_option maxRecDepth 100000
open Go Go.Vm
set_option linter.unusedSimpArgs false
set_option linter.unusedVariables false

attribute [local simp] evalL wantedA isCall opA evalA evalAll evalsA evalOpt ofValue ofCell plain binA_eql_pn binA_neq_pn binA_gtr binA_lss binA_geq binA_leq binA_add binA_sub binA_eql binA_neq binA_orI binA_andI binA_shl binA_shr binA_mul binA_quo binA_rem binA_agg_eql binA_agg_neq convA_int unA_not fieldAddrA loadA partA pickA_true pickA_false pickA_bb lenA builtinA storeA splice AV.cells AV.isCell sliceA boundA intA callOf indexAddrA newObjA buildA fillA zeroA ofCells buildSliceA indexA fieldA numA_len4 numA_take4 numA_drop4 set_appN get_appN take_appN List.getElem?_cons_zero List.getElem?_cons_succ makeA zeros64

set_option maxHeartbeats 1600000 in
attribute [local simp] undefA List.getElem?_cons_zero List.getElem?_cons_succ in
theorem rlist_ok {σ : St} {f : Nat → Nat} (hf : ∀ d, d < 8 → f d < 2 ^ 256) :
    CallsA Try.prog 71 [.agg (purA (purF f))] σ (fun av σ' => av = .sl 5 (coinsC (lstF f 8)) (lstF f 8).length .shut ∧ σ = σ') := by
  refine callsA_gcS ?_ (by simp [AV.under])
  have hpl : (purA (purF f)).length = 32 := by rw [purA_len]; simp
  have F := And.intro hpl (True.intro)
  refine callsA_body Try.func71 rfl rfl rfl ?_
  refine sq fun K1 hK1 => ?_
  refine rg' (h := fun J2 hJ2 => ?_)
  refine hJ2 _ _ ?_
  refine hK1 _ _ ?_
  refine sq fun K3 hK3 => ?_
  refine rg' (h := fun J4 hJ4 => ?_)
  refine hJ4 _ _ ?_
  refine hK3 _ _ ?_
  refine sq fun K5 hK5 => ?_
  refine sq fun K6 hK6 => ?_
  refine rg' (h := fun J7 hJ7 => ?_)
  refine hJ7 _ _ ?_
  refine hK6 _ _ ?_
  refine run_block_k ?_
  refine run_loopF (X := Nat) [1, 2] (fun d ρ σ1 => (d ≤ 8) ∧ (ρ 3 = grA σ.toks.length 5 (neB (lstF f d)) (coinsC (lstF f d)) (lstF f d).length) ∧ (ρ 4 = .v (.int .i64 d)) ∧ (σ1 = { σ with objs := σ.objs ++ [purA (purF f)], toks := σ.toks ++ grT (neB (lstF f d)) (lstF f d).length })) (fun d => 8 - d) (0) ?st1 ?rd1
  case st1 =>
   refine ⟨lp, ?_, lp, ?_⟩
   · rfl
   · simp [lstF]
  case rd1 =>
   rintro d ρ1 σ1 hF1 ⟨hj, h3, h4, hσ⟩
   obtain rfl := hσ.symm
   have f1 := keepL hF1
   try simp [KeepL, F] at f1
   replace F := And.intro h3 F
   replace F := And.intro h4 F
   try replace F := And.intro f1 F
   refine sq fun K8 hK8 => ?_
   refine sq fun K9 hK9 => ?_
   refine rg' (h := fun J10 hJ10 => ?_)
   refine hJ10 _ _ ?_
   refine hK9 _ _ ?_
   refine cs (fun c6 => ?_) (fun c6 => ?_)
   · try exact nope c6
     all_goals have c6p := c6
     all_goals try simp [F] at c6p
     all_goals
      replace F := And.intro c6 F
      try replace F := And.intro c6p F
      refine run_skip ?_
      refine hK8 _ _ ?_
      refine sq fun K11 hK11 => ?_
      refine run_block_k ?_
      refine sq fun K12 hK12 => ?_
      have hd8 : d < 8 := by simp at c6; omega
      have hat := purA_at (P := purF f) (d := d) (by simpa using hd8)
      rw [purF_get hd8] at hat
      have hb1 : d * 4 + 4 ≤ 32 := by omega
      have hd5 : (d : Int) < 8 := by omega
      have hw8 : IntKind.u8.wrap (d : Int) = (d : Int) := wrap_u8c ⟨by omega, by omega⟩
      obtain ⟨c, hc⟩ : ∃ c : Coin, c = ⟨UInt8.ofNat d, Num.of (f d)⟩ := ⟨_, rfl⟩
      have hcn : c.n.v = f d := by rw [hc]; exact Num.of_v (hf d hd8)
      have hcd : (c.d.toNat : Int) = (d : Int) := by rw [hc]; simp only [toNat_u8 (show d < 256 by omega)]
      have hcoin : AV.v (.int .u8 (d : Int)) :: numA (f d) = coinC c := by rw [coinC, hcd, hcn]
      obtain ⟨L, hL⟩ : ∃ L, L = lstF f d := ⟨_, rfl⟩
      have hLl : L.length ≤ 8 := by rw [hL]; exact Nat.le_trans (lstF_len _ _) hj
      rw [← hL] at h3 F
      rw [← hL]
      have hb0 : neB L = false → coinsC L = [] ∧ L.length = 0 := fun h => by rw [neB_no h]; simp
      have happ : ∀ objs, appendA Try.prog 23 (grA σ.toks.length 5 (neB L) (coinsC L) L.length) (.sl 5 (coinC c) 1 .full) ⟨objs, σ.toks ++ grT (neB L) L.length, σ.gl, σ.rows⟩ = some (grA σ.toks.length 5 true (coinsC L ++ coinC c) (L.length + 1), ⟨objs, σ.toks ++ grT true (L.length + 1), σ.gl, σ.rows⟩) := fun objs => append_gr elemT_23 ti_86 (by decide) rfl hb0 (.inl rfl) (by simp [roomA]; omega) (by simp [maxLen]; omega)
      have hcl : (coinC c).length = 5 := rfl
      have hca : (coinC c).all AV.isCell = true := rfl
      have hdr : ∀ f : Nat → AV, List.drop 5 (List.map f (List.range 5)) = [] := fun _ => rfl
      replace F := And.intro hcl F
      replace F := And.intro hca F
      replace F := And.intro hdr F
      replace F := And.intro hat F
      replace F := And.intro hb1 F
      replace F := And.intro hd5 F
      replace F := And.intro hd8 F
      replace F := And.intro hw8 F
      replace F := And.intro hcoin F
      replace F := And.intro happ F
      refine rg' (h := fun J13 hJ13 => ?_)
      refine ca (c := zero_ok (x := ⟨f d, hf d hd8⟩)) (k := ?_)
      rintro _ _ ⟨rfl, rfl⟩
      repeat (first | simp [F] | simp (disch := omega) only [wC, if_pos, if_neg])
      refine hJ13 _ _ ?_
      refine hK12 _ _ ?_
      refine cs (fun c13 => ?_) (fun c13 => ?_)
      · try exact nope c13
        all_goals have c13p := c13
        all_goals try simp [F] at c13p
        all_goals
         replace F := And.intro c13 F
         try replace F := And.intro c13p F
         have hnx : lstF f (d + 1) = L ++ [c] := by rw [hL, hc]; simp only [lstF]; rw [if_neg (by simpa using c13)]
         refine rg' (h := fun J14 hJ14 => ?_)
         refine hJ14 _ _ ?_
         refine hK11 _ _ ?_
         refine rg' (h := fun J15 hJ15 => ?_)
         refine hJ15 _ _ ?_
         refine ⟨(d + 1), ⟨kp, lp, ?_, lp, ?_⟩, lp⟩
         · rw [hnx, ← coinsC_snoc]
           simp [F]
         · rw [hnx]
           simp [F]
      try exact nope c13
      all_goals have c13p := c13
      all_goals try simp [F] at c13p
      all_goals
       replace F := And.intro c13 F
       try replace F := And.intro c13p F
       have hnx : lstF f (d + 1) = L := by rw [hL]; simp only [lstF]; rw [if_pos (by simpa using c13), List.append_nil]
       refine run_skip ?_
       refine hK11 _ _ ?_
       refine rg' (h := fun J16 hJ16 => ?_)
       refine hJ16 _ _ ?_
       refine ⟨(d + 1), ⟨kp, lp, ?_, lp, ?_⟩, lp⟩
       · rw [hnx]
         simp [F]
       · rw [hnx]
   try exact nope c6
   all_goals have c6p := c6
   all_goals try simp [F] at c6p
   all_goals
    replace F := And.intro c6 F
    try replace F := And.intro c6p F
    obtain rfl : d = 8 := by simp at c6; omega
    refine run_exit ?_
    refine hK5 _ _ ?_
    refine sq fun K17 hK17 => ?_
    refine rg' (h := fun J18 hJ18 => ?_)
    refine hJ18 _ _ ?_
    refine hK17 _ _ ?_
    refine run_ret ?_
    try simp only [Then, InBlock, NoGoto]
    refine answer_tmp rfl (.inr rfl) ?_
    refine gcr (hA := by simp only [putA_get]; simp [F]; exact wk_grA (fun h => by rw [neB_no h]; simp))

end Go.Proofs.Ytdbaddholggkbaa

/-
  The document's coins: sums, rests.
-/
namespace Go.Proofs.Ytdbaddholggkbaa
set_option linter.unnecessarySimpa false
set_option maxRecDepth 100000
open Go Go.Vm
set_option linter.unusedSimpArgs false
set_option linter.unusedVariables false

attribute [local simp] evalL wantedA isCall opA evalA evalAll evalsA evalOpt ofValue ofCell plain binA_eql_pn binA_neq_pn binA_gtr binA_lss binA_geq binA_leq binA_add binA_sub binA_eql binA_neq binA_orI binA_andI binA_shl binA_shr binA_mul binA_quo binA_rem binA_agg_eql binA_agg_neq convA_int unA_not fieldAddrA loadA partA pickA_true pickA_false pickA_bb lenA builtinA storeA splice AV.cells AV.isCell sliceA boundA intA callOf indexAddrA newObjA buildA fillA zeroA ofCells buildSliceA indexA fieldA numA_len4 numA_take4 numA_drop4 set_appN get_appN take_appN List.getElem?_cons_zero List.getElem?_cons_succ makeA zeros64

theorem pur_len (g : Nat → Nat) : (purA (purF g)).length = 32 := by rw [purA_len]; simp
theorem pur_take (g : Nat → Nat) : (purA (purF g)).take 32 = purA (purF g) := List.take_of_length_le (by rw [pur_len]; decide)
theorem pur_drop (g : Nat → Nat) : (purA (purF g)).drop 32 = [] := List.drop_of_length_le (by rw [pur_len]; decide)
theorem pur_cell (g : Nat → Nat) : ∀ x ∈ purA (purF g), x.isCell = true := by simpa using purA_isCell (purF g)

theorem pur_all (g : Nat → Nat) : (∀ x, x ∈ purA (purF g) → x.isCell = true) = True := eq_true (pur_cell g)

set_option maxHeartbeats 1600000 in
attribute [local simp] undefA List.getElem?_cons_zero List.getElem?_cons_succ in
theorem rpof_ok {σ : St} {l : List Coin} {tl : Tail} (hl : Right l) :
    CallsA Try.prog 76 [.sl 5 (coinsC l) l.length tl] σ (fun av σ' => av = .agg (purA (purF (amt l))) ∧ σ = σ') := by
  refine callsA_gcS ?_ (by simp [AV.under, purA_under])
  have hl8 := right_len hl
  have hPl := pur_len
  have hPt := pur_take
  have hPd := pur_drop
  have hPc := pur_cell
  simp only [AV.isCell] at hPc
  have F := And.intro hPl (And.intro hPt (And.intro hPd (And.intro hPc (True.intro))))
  refine callsA_body Try.func76 rfl rfl rfl ?_
  refine sq fun K1 hK1 => ?_
  refine rg' (h := fun J2 hJ2 => ?_)
  refine hJ2 _ _ ?_
  refine hK1 _ _ ?_
  refine sq fun K3 hK3 => ?_
  refine rg' (h := fun J4 hJ4 => ?_)
  refine hJ4 _ _ ?_
  refine hK3 _ _ ?_
  refine sq fun K5 hK5 => ?_
  refine sq fun K6 hK6 => ?_
  refine rg' (h := fun J7 hJ7 => ?_)
  refine hJ7 _ _ ?_
  refine hK6 _ _ ?_
  refine run_block_k ?_
  refine run_loopF (X := Nat) [0, 2, 3] (fun i ρ σ1 => (i ≤ l.length) ∧ (ρ 4 = .v (.int .i64 i)) ∧ (σ1 = { σ with objs := σ.objs ++ [purA (purF fun _ => 0), purA (purF (amt (l.take i)))] })) (fun i => l.length - i) (0) ?st1 ?rd1
  case st1 =>
   refine ⟨lp, lp, ?_⟩
   · simp only [List.take_zero, show amt [] = fun _ => 0 from rfl, purA_zero]
  case rd1 =>
   rintro i ρ1 σ1 hF1 ⟨hi, h4, hσ⟩
   obtain rfl := hσ.symm
   have f1 := keepL hF1
   try simp [KeepL, F] at f1
   replace F := And.intro h4 F
   try replace F := And.intro f1 F
   refine sq fun K8 hK8 => ?_
   refine sq fun K9 hK9 => ?_
   refine rg' (h := fun J10 hJ10 => ?_)
   refine hJ10 _ _ ?_
   refine hK9 _ _ ?_
   refine cs (fun c8 => ?_) (fun c8 => ?_)
   · try exact nope c8
     all_goals have c8p := c8
     all_goals try simp [F] at c8p
     all_goals
      replace F := And.intro c8 F
      try replace F := And.intro c8p F
      refine run_skip ?_
      refine hK8 _ _ ?_
      refine sq fun K11 hK11 => ?_
      refine run_block_k ?_
      have hlt : i < l.length := by simp at c8; omega
      have hat := coinsC_at hlt
      simp only [coinC] at hat
      have hb1 : i * 5 + 5 ≤ l.length * 5 := by omega
      obtain ⟨c, hc⟩ : ∃ c, c = l[i] := ⟨_, rfl⟩
      rw [← hc] at hat
      have htk : l.take (i + 1) = l.take i ++ [c] := by rw [hc]; exact (List.take_append_getElem hlt).symm
      have hR : Right (l.take i ++ [c]) := by rw [← htk]; exact right_take hl _
      have hd8 : c.d.toNat < 8 := (right_snoc.1 hR).2.1.1
      obtain ⟨d, hd⟩ : ∃ d, d = c.d.toNat := ⟨_, rfl⟩
      rw [← hd] at hat hd8
      have hd5 : (d : Int) < 8 := by omega
      have hb2 : d * 4 + 4 ≤ 32 := by omega
      obtain ⟨f, hf⟩ : ∃ f, f = amt (l.take i) := ⟨_, rfl⟩
      rw [← hf]
      have hset := purA_set (P := purF f) (d := d) (by simpa using hd8) c.n.v
      rw [purF_set] at hset
      have hnx : purF (fun j => if j = d then c.n.v else f j) = purF (amt (l.take (i + 1))) := purF_congr (fun j _ => by rw [htk, amt_snoc hR, ← hd, hf])
      rw [hnx] at hset
      replace F := And.intro hat F
      replace F := And.intro hb1 F
      replace F := And.intro hset F
      replace F := And.intro hd8 F
      replace F := And.intro hd5 F
      replace F := And.intro hb2 F
      refine run_draw (by kernel_rfl) fun J12 hJ12 => ?_
      refine rp2 0 (k := ?_)
      refine rp2 1 (k := ?_)
      refine rp2 2 (k := ?_)
      refine rp2 3 (k := ?_)
      refine rp2 4 (k := ?_)
      refine rp2 5 (k := ?_)
      refine rp2 6 (k := ?_)
      refine rp2 7 (k := ?_)
      refine rp2 8 (k := ?_)
      refine rp2 9 (k := ?_)
      refine rp2 10 (k := ?_)
      refine dop 11 rfl ?_
      repeat (first | simp [F] | simp (disch := omega) only [wC, if_pos, if_neg])
      refine ⟨ln, ?_⟩
      refine dd ?_
      refine hJ12 _ _ ?_
      refine hK11 _ _ ?_
      refine rg' (h := fun J13 hJ13 => ?_)
      refine hJ13 _ _ ?_
      refine ⟨(i + 1), ⟨kp, lp, lp, lp⟩, lp⟩
   try exact nope c8
   all_goals have c8p := c8
   all_goals try simp [F] at c8p
   all_goals
    replace F := And.intro c8 F
    try replace F := And.intro c8p F
    have hend : l.take i = l := List.take_of_length_le (by simp at c8; omega)
    rw [hend]
    refine run_exit ?_
    refine hK5 _ _ ?_
    refine sq fun K14 hK14 => ?_
    refine rg' (h := fun J15 hJ15 => ?_)
    refine hJ15 _ _ ?_
    refine hK14 _ _ ?_
    refine run_ret ?_
    try simp only [Then, InBlock, NoGoto]
    refine acell (h := ?_)
    exact gcr

theorem addF_next (fa fb : Nat → Nat) (d j : Nat) : (if j = d then fa d + fb d else if j < d then fa j + fb j else fa j) = if j < d + 1 then fa j + fb j else fa j := by
  by_cases h : j = d
  · subst h; simp
  · by_cases h2 : j < d
    · rw [if_neg h, if_pos h2, if_pos (by omega)]
    · rw [if_neg h, if_neg h2, if_neg (by omega)]

set_option maxHeartbeats 1600000 in
attribute [local simp] undefA List.getElem?_cons_zero List.getElem?_cons_succ in
theorem rpadd_ok {σ : St} {a b : List Coin} {ta tb : Tail} (ha : Right a) (hb : Right b) :
    CallsA Try.prog 27 [.sl 5 (coinsC a) a.length ta, .sl 5 (coinsC b) b.length tb] σ (fun av σ' => av = .tup [.sl 5 (coinsC (cAddL a b)) (cAddL a b).length .shut, .v (.bool (decide (cAddE a b = 0)))] ∧ σ = σ') := by
  refine callsA_gcS ?_ (by simp [AV.under, underL])
  have hPl := pur_len
  have hPt := pur_take
  have hPd := pur_drop
  have hPn : ∀ n g, noObjL n (purA (purF g)) = true := fun n g => purA_noObj n _
  have hPc := pur_all
  simp only [AV.isCell] at hPc
  obtain ⟨fa, hfa⟩ : ∃ fa, fa = amt a := ⟨_, rfl⟩
  obtain ⟨fb, hfb⟩ : ∃ fb, fb = amt b := ⟨_, rfl⟩
  obtain ⟨fs, hfs⟩ : ∃ fs : Nat → Nat → Nat, fs = fun d j => if j < d then fa j + fb j else fa j := ⟨_, rfl⟩
  have hfs0 : fs 0 = fa := by rw [hfs]; funext j; simp
  have hla : ∀ d, fa d < 2 ^ 256 := fun d => by rw [hfa]; exact amt_lt _ _
  have hlb : ∀ d, fb d < 2 ^ 256 := fun d => by rw [hfb]; exact amt_lt _ _
  have F := And.intro hPl (And.intro hPt (And.intro hPd (And.intro hPc (And.intro hPn (True.intro)))))
  refine callsA_body Try.func27 rfl rfl rfl ?_
  refine sq fun K1 hK1 => ?_
  refine rg' (h := fun J2 hJ2 => ?_)
  refine hJ2 _ _ ?_
  refine hK1 _ _ ?_
  refine sq fun K3 hK3 => ?_
  refine rg' (h := fun J4 hJ4 => ?_)
  refine ca (c := (hfa ▸ rpof_ok ha)) (k := ?_)
  rintro _ _ ⟨rfl, rfl⟩
  repeat (first | simp [F] | simp (disch := omega) only [wC, if_pos, if_neg])
  refine ca (c := (hfb ▸ rpof_ok hb)) (k := ?_)
  rintro _ _ ⟨rfl, rfl⟩
  repeat (first | simp [F] | simp (disch := omega) only [wC, if_pos, if_neg])
  refine hJ4 _ _ ?_
  refine hK3 _ _ ?_
  refine sq fun K5 hK5 => ?_
  refine sq fun K6 hK6 => ?_
  refine rg' (h := fun J7 hJ7 => ?_)
  refine hJ7 _ _ ?_
  refine hK6 _ _ ?_
  refine run_block_k ?_
  refine run_loopG (X := Nat) [6, 7] (fun d ρ σ1 => (d ≤ 8) ∧ (∀ j, j < d → fa j + fb j < 2 ^ 256) ∧ (ρ 8 = .v (.int .i64 d)) ∧ (σ1 = { σ with objs := σ.objs ++ [purA (purF (fs d)), purA (purF fb)] })) (fun d => 8 - d) (0) ?st1 ?rd1
  case st1 =>
   refine ⟨lp, ?_, lp, ?_⟩
   · intro j hj
     exact absurd hj (Nat.not_lt_zero j)
   · rw [hfs0]
  case rd1 =>
   rintro d ρ1 σ1 hF1 ⟨hd, hE, h8, hσ⟩
   obtain rfl := hσ.symm
   have f1 := keepL hF1
   try simp [KeepL, F] at f1
   replace F := And.intro h8 F
   try replace F := And.intro f1 F
   refine sq fun K8 hK8 => ?_
   refine sq fun K9 hK9 => ?_
   refine rg' (h := fun J10 hJ10 => ?_)
   refine hJ10 _ _ ?_
   refine hK9 _ _ ?_
   refine cs (fun c16 => ?_) (fun c16 => ?_)
   · try exact nope c16
     all_goals have c16p := c16
     all_goals try simp [F] at c16p
     all_goals
      replace F := And.intro c16 F
      try replace F := And.intro c16p F
      refine run_skip ?_
      refine hK8 _ _ ?_
      refine sq fun K11 hK11 => ?_
      refine run_block_k ?_
      refine sq fun K12 hK12 => ?_
      have hd8 : d < 8 := by simp at c16; omega
      have hd5 : (d : Int) < 8 := by omega
      have hb2 : d * 4 + 4 ≤ 32 := by omega
      have hata := purA_at (P := purF (fs d)) (d := d) (by simpa using hd8)
      rw [purF_get hd8] at hata
      have hatb := purA_at (P := purF fb) (d := d) (by simpa using hd8)
      rw [purF_get hd8] at hatb
      have hfd : fs d d = fa d := by rw [hfs]; simp
      rw [hfd] at hata
      have hset := purA_set (P := purF (fs d)) (d := d) (by simpa using hd8) (fa d + fb d)
      rw [purF_set] at hset
      have hnx : (fun j => if j = d then fa d + fb d else fs d j) = fs (d + 1) := by rw [hfs]; funext j; simp only; exact addF_next fa fb d j
      rw [hnx] at hset
      replace F := And.intro hata F
      replace F := And.intro hatb F
      replace F := And.intro hset F
      replace F := And.intro hd8 F
      replace F := And.intro hd5 F
      replace F := And.intro hb2 F
      refine run_draw (by kernel_rfl) fun J13 hJ13 => ?_
      refine rp2 0 (k := ?_)
      refine rp2 1 (k := ?_)
      refine rp2 2 (k := ?_)
      refine rp2 3 (k := ?_)
      refine rp2 4 (k := ?_)
      refine rp2 5 (k := ?_)
      refine d2 6 10 ?_ ?_
      · refine ac 6 rfl (c := radd_ok (hla d) (hlb d)) (k := ?_)
        rintro _ _ ⟨rfl, rfl⟩
        refine ⟨by first | exact fun _ _ h => h | (refine later_list [4, 3, 1, 0] (by kernel_rfl) (List.forall_mem_cons.2 ⟨fun _ => fact2 rfl rfl ?_, List.forall_mem_cons.2 ⟨fun _ => fact2 rfl rfl ?_, List.forall_mem_cons.2 ⟨fun _ => fact2 rfl rfl ?_, List.forall_mem_cons.2 ⟨fun _ => fact2 rfl rfl ?_, fun _ h => absurd h List.not_mem_nil⟩⟩⟩⟩) <;> constructor <;> first | rfl | (simp [F]; done)), ?_⟩
        repeat (first | simp [F] | simp (disch := omega) only [wC, if_pos, if_neg])
        refine rp2 7 (k := ?_)
        refine rp2 8 (k := ?_)
        refine rp2 9 (k := ?_)
        refine dop 10 rfl ?_
        repeat (first | simp [F] | simp (disch := omega) only [wC, if_pos, if_neg])
        refine ⟨by first | exact later_more _ (by kernel_rfl) | exact later_more2 (by kernel_rfl) rfl, ?_⟩
        refine dop 11 rfl ?_
        repeat (first | simp [F] | simp (disch := omega) only [wC, if_pos, if_neg])
        refine ⟨later_tmp (by kernel_rfl), ?_⟩
        refine rp2 12 (k := ?_)
        refine dd ?_
        refine hJ13 _ _ ?_
        refine hK12 _ _ ?_
        refine sq fun K14 hK14 => ?_
        refine sq fun K15 hK15 => ?_
        refine rg' (h := fun J16 hJ16 => ?_)
        refine hJ16 _ _ ?_
        refine hK15 _ _ ?_
        refine cs (fun c30 => ?_) (fun c30 => ?_)
        · try exact nope c30
          all_goals have c30p := c30
          all_goals try simp [F] at c30p
          all_goals
           replace F := And.intro c30 F
           try replace F := And.intro c30p F
           have hs : ¬ fa d + fb d < 2 ^ 256 := by simpa using c30
           have he : ¬ cAddE a b = 0 := fun h => hs (by have := cAddE_zero.1 h d hd8; rw [hfa, hfb]; exact this)
           have hL := cAddL_no he
           replace F := And.intro hL (And.intro he F)
           refine sq fun K17 hK17 => ?_
           refine rg' (h := fun J18 hJ18 => ?_)
           refine hJ18 _ _ ?_
           refine hK17 _ _ ?_
           refine run_ret ?_
           try simp only [Then, InBlock, NoGoto]
           refine answer_tmp2 rfl (.inr rfl) ?_
           rw [hL, decide_eq_false he]
           exact gcr (hA := WkL.tup (.cons (Wk.nil _ _ _) (.cons (Wk.refl _) .nil)))
        try exact nope c30
        all_goals have c30p := c30
        all_goals try simp [F] at c30p
        all_goals
         replace F := And.intro c30 F
         try replace F := And.intro c30p F
         have hs : fa d + fb d < 2 ^ 256 := by simpa using c30
         have hs2 : addN (fa d) (fb d) = fa d + fb d := if_pos hs
         replace F := And.intro hs2 F
         refine run_skip ?_
         refine hK14 _ _ ?_
         refine rg' (h := fun J19 hJ19 => ?_)
         refine hJ19 _ _ ?_
         refine hK11 _ _ ?_
         refine rg' (h := fun J20 hJ20 => ?_)
         refine hJ20 _ _ ?_
         refine ⟨gk, (d + 1), ⟨kpG, lpG, ?_, lpG, lpG⟩, lpG⟩
         · intro j hj
           rcases Nat.lt_or_ge j d with h | h
           · exact hE j h
           · obtain rfl : j = d := by omega
             exact hs
      · refine ao 10 rfl ?_
        repeat (first | simp [F] | simp (disch := omega) only [wC, if_pos, if_neg])
        refine ⟨by first | exact later_more _ (by kernel_rfl) | exact later_more2 (by kernel_rfl) rfl, ?_⟩
        refine dc 6 rfl (c := radd_ok (hla d) (hlb d)) (k := ?_)
        rintro _ _ ⟨rfl, rfl⟩
        refine ⟨by first | exact fun _ _ h => h | (refine later_list [4, 3, 1, 0] (by kernel_rfl) (List.forall_mem_cons.2 ⟨fun _ => fact2 rfl rfl ?_, List.forall_mem_cons.2 ⟨fun _ => fact2 rfl rfl ?_, List.forall_mem_cons.2 ⟨fun _ => fact2 rfl rfl ?_, List.forall_mem_cons.2 ⟨fun _ => fact2 rfl rfl ?_, fun _ h => absurd h List.not_mem_nil⟩⟩⟩⟩) <;> constructor <;> first | rfl | (simp [F]; done)), ?_⟩
        repeat (first | simp [F] | simp (disch := omega) only [wC, if_pos, if_neg])
        refine rp2 7 (k := ?_)
        refine rp2 8 (k := ?_)
        refine rp2 9 (k := ?_)
        refine dop 11 rfl ?_
        repeat (first | simp [F] | simp (disch := omega) only [wC, if_pos, if_neg])
        refine ⟨later_tmp (by kernel_rfl), ?_⟩
        refine rp2 12 (k := ?_)
        refine dd ?_
        refine hJ13 _ _ ?_
        refine hK12 _ _ ?_
        refine sq fun K21 hK21 => ?_
        refine sq fun K22 hK22 => ?_
        refine rg' (h := fun J23 hJ23 => ?_)
        refine hJ23 _ _ ?_
        refine hK22 _ _ ?_
        refine cs (fun c30 => ?_) (fun c30 => ?_)
        · try exact nope c30
          all_goals have c30p := c30
          all_goals try simp [F] at c30p
          all_goals
           replace F := And.intro c30 F
           try replace F := And.intro c30p F
           have hs : ¬ fa d + fb d < 2 ^ 256 := by simpa using c30
           have he : ¬ cAddE a b = 0 := fun h => hs (by have := cAddE_zero.1 h d hd8; rw [hfa, hfb]; exact this)
           have hL := cAddL_no he
           replace F := And.intro hL (And.intro he F)
           refine sq fun K24 hK24 => ?_
           refine rg' (h := fun J25 hJ25 => ?_)
           refine hJ25 _ _ ?_
           refine hK24 _ _ ?_
           refine run_ret ?_
           try simp only [Then, InBlock, NoGoto]
           refine answer_tmp2 rfl (.inr rfl) ?_
           rw [hL, decide_eq_false he]
           exact gcr (hA := WkL.tup (.cons (Wk.nil _ _ _) (.cons (Wk.refl _) .nil)))
        try exact nope c30
        all_goals have c30p := c30
        all_goals try simp [F] at c30p
        all_goals
         replace F := And.intro c30 F
         try replace F := And.intro c30p F
         have hs : fa d + fb d < 2 ^ 256 := by simpa using c30
         have hs2 : addN (fa d) (fb d) = fa d + fb d := if_pos hs
         replace F := And.intro hs2 F
         refine run_skip ?_
         refine hK21 _ _ ?_
         refine rg' (h := fun J26 hJ26 => ?_)
         refine hJ26 _ _ ?_
         refine hK11 _ _ ?_
         refine rg' (h := fun J27 hJ27 => ?_)
         refine hJ27 _ _ ?_
         refine ⟨gk, (d + 1), ⟨kpG, lpG, ?_, lpG, lpG⟩, lpG⟩
         · intro j hj
           rcases Nat.lt_or_ge j d with h | h
           · exact hE j h
           · obtain rfl : j = d := by omega
             exact hs
   try exact nope c16
   all_goals have c16p := c16
   all_goals try simp [F] at c16p
   all_goals
    replace F := And.intro c16 F
    try replace F := And.intro c16p F
    obtain rfl : d = 8 := by simp at c16; omega
    have he : cAddE a b = 0 := cAddE_zero.2 (fun d hd => by have := hE d hd; rw [hfa, hfb] at this; exact this)
    have hL : lstF (fs 8) 8 = cAddL a b := by rw [cAddL_yes he, hfs, hfa, hfb]; exact lstF_congr (fun i hi => by simp [hi])
    have hf8 : ∀ d, d < 8 → fs 8 d < 2 ^ 256 := fun d hd => by rw [hfs]; simp only [if_pos hd]; exact hE d hd
    replace F := And.intro he F
    refine run_exit ?_
    refine hK5 _ _ ?_
    refine sq fun K28 hK28 => ?_
    refine rg' (h := fun J29 hJ29 => ?_)
    refine ca (c := (hL ▸ rlist_ok hf8)) (k := ?_)
    rintro _ _ ⟨rfl, rfl⟩
    repeat (first | simp [F] | simp (disch := omega) only [wC, if_pos, if_neg])
    refine hJ29 _ _ ?_
    refine hK28 _ _ ?_
    refine run_ret ?_
    try simp only [Then, InBlock, NoGoto]
    refine answer_tmp2 rfl (.inr rfl) ?_
    exact gcr

end Go.Proofs.Ytdbaddholggkbaa

/-
  The same coins..
-/
namespace Go.Proofs.Ytdbaddholggkbaa
set_option linter.unnecessarySimpa false
set_option maxRecDepth 100000
open Go Go.Vm
set_option linter.unusedSimpArgs false
set_option linter.unusedVariables false

attribute [local simp] evalL wantedA isCall opA evalA evalAll evalsA evalOpt ofValue ofCell plain binA_eql_pn binA_neq_pn binA_gtr binA_lss binA_geq binA_leq binA_add binA_sub binA_eql binA_neq binA_orI binA_andI binA_shl binA_shr binA_mul binA_quo binA_rem binA_agg_eql binA_agg_neq convA_int unA_not fieldAddrA loadA partA pickA_true pickA_false pickA_bb lenA builtinA storeA splice AV.cells AV.isCell sliceA boundA intA callOf indexAddrA newObjA buildA fillA zeroA ofCells buildSliceA indexA fieldA numA_len4 numA_take4 numA_drop4 set_appN get_appN take_appN List.getElem?_cons_zero List.getElem?_cons_succ makeA zeros64

set_option maxHeartbeats 1600000 in
attribute [local simp] undefA List.getElem?_cons_zero List.getElem?_cons_succ in
theorem cequal_ok {σ : St} {a b : List Coin} {ta tb : Tail} (hla : a.length ≤ 9223372036854775807) (hlb : b.length ≤ 9223372036854775807) :
    CallsA Try.prog 131 [.sl 5 (coinsC a) a.length ta, .sl 5 (coinsC b) b.length tb] σ (fun av σ' => av = .v (.bool (decide (a = b))) ∧ σ = σ') := by
  have hcl : ∀ c, (coinC c).length = 5 := fun _ => rfl
  have hct : ∀ c R, List.take 5 (coinC c ++ R) = coinC c := fun _ _ => rfl
  have F := And.intro hcl (And.intro hct (True.intro))
  refine callsA_body Try.func131 rfl rfl rfl ?_
  refine sq fun K1 hK1 => ?_
  refine rg' (h := fun J2 hJ2 => ?_)
  refine hJ2 _ _ ?_
  refine hK1 _ _ ?_
  refine sq fun K3 hK3 => ?_
  refine sq fun K4 hK4 => ?_
  refine rg' (h := fun J5 hJ5 => ?_)
  refine hJ5 _ _ ?_
  refine hK4 _ _ ?_
  refine cs (fun c10 => ?_) (fun c10 => ?_)
  · try exact nope c10
    all_goals have c10p := c10
    all_goals try simp [F] at c10p
    all_goals
     replace F := And.intro c10 F
     try replace F := And.intro c10p F
     have hne : ¬ a = b := fun e => by subst e; simp at c10
     replace F := And.intro hne F
     refine sq fun K6 hK6 => ?_
     refine rg' (h := fun J7 hJ7 => ?_)
     refine hJ7 _ _ ?_
     refine hK6 _ _ ?_
     refine run_ret ?_
     try simp only [Then, InBlock, NoGoto]
     refine answer_tmp rfl (.inr rfl) ?_
     exact rt
  try exact nope c10
  all_goals have c10p := c10
  all_goals try simp [F] at c10p
  all_goals
   replace F := And.intro c10 F
   try replace F := And.intro c10p F
   refine run_skip ?_
   refine hK3 _ _ ?_
   refine sq fun K8 hK8 => ?_
   refine sq fun K9 hK9 => ?_
   have hlen : a.length = b.length := by have h := c10; simp at h; omega
   refine rg' (h := fun J10 hJ10 => ?_)
   refine hJ10 _ _ ?_
   refine hK9 _ _ ?_
   refine run_block_k ?_
   refine run_loopF (X := Nat) [0, 1, 12] (fun i ρ σ1 => (i ≤ a.length) ∧ (a.take i = b.take i) ∧ (ρ 13 = .v (.int .i64 i)) ∧ (σ1 = σ)) (fun i => a.length - i) (0) ?st1 ?rd1
   case st1 =>
    refine ⟨lp, ?_, lp, ?_⟩
    · rfl
    · rfl
   case rd1 =>
    rintro i ρ1 σ1 hF1 ⟨hi, hE, h13, hσ⟩
    obtain rfl := hσ.symm
    have f1 := keepL hF1
    try simp [KeepL, F] at f1
    replace F := And.intro h13 F
    try replace F := And.intro f1 F
    refine sq fun K11 hK11 => ?_
    refine rg' (h := fun J12 hJ12 => ?_)
    refine hJ12 _ _ ?_
    refine hK11 _ _ ?_
    refine sq fun K13 hK13 => ?_
    refine cs (fun c14 => ?_) (fun c14 => ?_)
    · try exact nope c14
      all_goals have c14p := c14
      all_goals try simp [F] at c14p
      all_goals
       replace F := And.intro c14 F
       try replace F := And.intro c14p F
       refine run_skip ?_
       refine hK13 _ _ ?_
       refine sq fun K14 hK14 => ?_
       refine run_block_k ?_
       refine sq fun K15 hK15 => ?_
       have hlt : i < a.length := by simp at c14; omega
       have hltb : i < b.length := by omega
       have hat := coinsC_at hlt
       have hatb := coinsC_at hltb
       have hb1 : i * 5 + 5 ≤ a.length * 5 := by omega
       have hb2 : i * 5 + 5 ≤ b.length * 5 := by omega
       obtain ⟨x, hx⟩ : ∃ x, x = a[i] := ⟨_, rfl⟩
       obtain ⟨y, hy⟩ : ∃ y, y = b[i] := ⟨_, rfl⟩
       rw [← hx] at hat
       rw [← hy] at hatb
       have hta : a.take (i + 1) = a.take i ++ [x] := by rw [hx]; exact (List.take_append_getElem hlt).symm
       have htb : b.take (i + 1) = b.take i ++ [y] := by rw [hy]; exact (List.take_append_getElem hltb).symm
       replace F := And.intro hlt F
       replace F := And.intro hltb F
       replace F := And.intro hat F
       replace F := And.intro hatb F
       replace F := And.intro hb1 F
       replace F := And.intro hb2 F
       refine rg' (h := fun J16 hJ16 => ?_)
       refine hJ16 _ _ ?_
       refine hK15 _ _ ?_
       refine sq fun K17 hK17 => ?_
       refine run_draw (by kernel_rfl) fun J18 hJ18 => ?_
       refine rp2 0 (k := ?_)
       refine rp2 1 (k := ?_)
       refine rp2 2 (k := ?_)
       refine rp2 3 (k := ?_)
       refine rp2 4 (k := ?_)
       refine rp2 5 (k := ?_)
       refine rp2 6 (k := ?_)
       refine rp2 7 (k := ?_)
       refine rp2 8 (k := ?_)
       refine dd ?_
       refine hJ18 _ _ ?_
       refine hK17 _ _ ?_
       refine cs (fun c24 => ?_) (fun c24 => ?_)
       · try exact nope c24
         all_goals have c24p := c24
         all_goals try simp [F] at c24p
         all_goals
          replace F := And.intro c24 F
          try replace F := And.intro c24p F
          have hne : ¬ a = b := fun e => by subst e; rw [← hx] at hy; subst hy; simp at c24
          replace F := And.intro hne F
          refine sq fun K19 hK19 => ?_
          refine rg' (h := fun J20 hJ20 => ?_)
          refine hJ20 _ _ ?_
          refine hK19 _ _ ?_
          refine run_ret ?_
          try simp only [Then, InBlock, NoGoto]
          refine answer_tmp rfl (.inr rfl) ?_
          exact rt
       try exact nope c24
       all_goals have c24p := c24
       all_goals try simp [F] at c24p
       all_goals
        replace F := And.intro c24 F
        try replace F := And.intro c24p F
        have hxy : x = y := by simpa using c24
        refine run_skip ?_
        refine hK14 _ _ ?_
        refine rg' (h := fun J21 hJ21 => ?_)
        refine hJ21 _ _ ?_
        refine ⟨(i + 1), ⟨kp, lp, ?_, lp, lp⟩, lp⟩
        · rw [hta, htb, hE, hxy]
    try exact nope c14
    all_goals have c14p := c14
    all_goals try simp [F] at c14p
    all_goals
     replace F := And.intro c14 F
     try replace F := And.intro c14p F
     have he : a = b := by have h := c14; simp at h; rw [List.take_of_length_le (by omega), List.take_of_length_le (by omega)] at hE; exact hE
     replace F := And.intro he F
     refine run_exit ?_
     refine hK8 _ _ ?_
     refine sq fun K22 hK22 => ?_
     refine rg' (h := fun J23 hJ23 => ?_)
     refine hJ23 _ _ ?_
     refine hK22 _ _ ?_
     refine run_ret ?_
     try simp only [Then, InBlock, NoGoto]
     refine answer_tmp rfl (.inr rfl) ?_
     exact rt

set_option maxHeartbeats 1600000 in
attribute [local simp] undefA List.getElem?_cons_zero List.getElem?_cons_succ in
theorem csame_ok {σ : St} {a b : List Coin} {ta tb : Tail} (hla : a.length ≤ 9223372036854775807) (hlb : b.length ≤ 9223372036854775807) :
    CallsA Try.prog 92 [.sl 5 (coinsC a) a.length ta, .sl 5 (coinsC b) b.length tb] σ (fun av σ' => av = .v (.bool (decide (a = b))) ∧ σ = σ') := by
  have F := True.intro
  refine callsA_body Try.func92 rfl rfl rfl ?_
  refine sq fun K1 hK1 => ?_
  refine rg' (h := fun J2 hJ2 => ?_)
  refine hJ2 _ _ ?_
  refine hK1 _ _ ?_
  refine sq fun K3 hK3 => ?_
  refine rg' (h := fun J4 hJ4 => ?_)
  refine ca (c := cequal_ok hla hlb) (k := ?_)
  rintro _ _ ⟨rfl, rfl⟩
  repeat (first | simp [F] | simp (disch := omega) only [wC, if_pos, if_neg])
  refine hJ4 _ _ ?_
  refine hK3 _ _ ?_
  refine run_ret ?_
  try simp only [Then, InBlock, NoGoto]
  refine answer_tmp rfl (.inr rfl) ?_
  exact rt

set_option maxHeartbeats 1600000 in
attribute [local simp] undefA List.getElem?_cons_zero List.getElem?_cons_succ in
theorem psome_ok {σ : St} {l : List Coin} {tl : Tail} (hl : l.length ≤ 9223372036854775807) :
    CallsA Try.prog 60 [.sl 5 (coinsC l) l.length tl] σ (fun av σ' => av = .v (.bool (decide (l ≠ [] ∧ Right l))) ∧ σ = σ') := by
  have h0 : 0 < l.length ↔ l ≠ [] := List.length_pos_iff
  have F := And.intro h0 (True.intro)
  refine callsA_body Try.func60 rfl rfl rfl ?_
  refine sq fun K1 hK1 => ?_
  refine rg' (h := fun J2 hJ2 => ?_)
  refine hJ2 _ _ ?_
  refine hK1 _ _ ?_
  refine sq fun K3 hK3 => ?_
  refine rg' (h := fun J4 hJ4 => ?_)
  refine gs 6 (fun g1_3 => ?_) (fun g1_3 => ?_)
  · try exact nope g1_3
    all_goals have g1_3p := g1_3
    all_goals try simp [F] at g1_3p
    all_goals
     replace F := And.intro g1_3 F
     try replace F := And.intro g1_3p F
     refine go2 (k := ?_)
     refine ca (c := right_ok hl) (k := ?_)
     rintro _ _ ⟨rfl, rfl⟩
     repeat (first | simp [F] | simp (disch := omega) only [wC, if_pos, if_neg])
     refine hJ4 _ _ ?_
     refine hK3 _ _ ?_
     refine run_ret ?_
     try simp only [Then, InBlock, NoGoto]
     refine answer_tmp rfl (.inr rfl) ?_
     exact rt
  try exact nope g1_3
  all_goals have g1_3p := g1_3
  all_goals try simp [F] at g1_3p
  all_goals
   replace F := And.intro g1_3 F
   try replace F := And.intro g1_3p F
   refine no2 (k := ?_)
   refine no2 (k := ?_)
   refine hJ4 _ _ ?_
   refine hK3 _ _ ?_
   refine run_ret ?_
   try simp only [Then, InBlock, NoGoto]
   refine answer_tmp rfl (.inr rfl) ?_
   exact rt

end Go.Proofs.Ytdbaddholggkbaa

/-
  Plans: what they are, when they are right.
-/
namespace Go.Vm
open Go

/-- A part of a plan: a length, its coins. -/
structure Per where
  l : Nat
  c : List Coin
deriving DecidableEq

/-- A plan. -/
structure Pln where
  k : UInt8
  s : Nat
  e : Nat
  tot : List Coin
  ps : List Per
deriving DecidableEq

def perC (p : Per) : List AV := [.v (.int .u64 p.l), .sl 5 (coinsC p.c) p.c.length .shut]
def persC (l : List Per) : List AV := l.flatMap perC
def plnC (p : Pln) : List AV := [.v (.int .u8 p.k.toNat), .v (.int .u64 p.s), .v (.int .u64 p.e), .sl 5 (coinsC p.tot) p.tot.length .shut, .sl 2 (persC p.ps) p.ps.length .shut]
@[simp] theorem persC_nil : persC [] = [] := rfl
@[simp] theorem persC_len (l : List Per) : (persC l).length = l.length * 2 := flat_length perC 2 (fun _ => rfl) l
theorem persC_at {l : List Per} {i : Nat} (h : i < l.length) : (persC l).drop (i * 2) = perC l[i] ++ restC perC l i := flat_at perC 2 (fun _ => rfl) l i h
theorem persC_noObj (n : Nat) : ∀ l : List Per, noObjL n (persC l) = true := noObjL_flat (fun p => by simp [perC, noObjL, AV.noObj, coinsC, noObjL_flat, coinC, numA])
theorem persC_under (B : Bd) : ∀ l : List Per, underL B (persC l) = true := underL_flat (fun p => by simp [perC, underL, AV.under, coinsC, underL_flat, coinC, numA])
theorem persC_append (l m : List Per) : persC l ++ persC m = persC (l ++ m) := by simp [persC]
/-- Numbers of a plan within their kinds, lists within their bound. -/
def Pln.Ok (p : Pln) : Prop := p.s < 2 ^ 64 ∧ p.e < 2 ^ 64 ∧ p.tot.length ≤ 9223372036854775807 ∧ p.ps.length ≤ 9223372036854775807 ∧ ∀ x ∈ p.ps, x.l < 2 ^ 64 ∧ x.c.length ≤ 9223372036854775807

/-- What plan.periods looks at, part by part. -/
def perOk : List Per → Nat → List Coin → Option (Nat × List Coin)
  | [], e, a => some (e, a)
  | x :: l, e, a => if x.l = 0 ∨ 2 ^ 40 < x.l ∨ 2 ^ 40 < e ∨ ¬ (x.c ≠ [] ∧ Right x.c) then none else if cAddE a x.c = 0 then perOk l (e + x.l) (cAddL a x.c) else none
def perB (p : Pln) : Bool := decide (p.ps.length ≤ 16) && decide (perOk p.ps p.s [] = some (p.e, p.tot))
def rightB (p : Pln) : Bool :=
  if p.k = 0 then decide (p = ⟨0, 0, 0, [], []⟩)
  else if ¬ (p.tot ≠ [] ∧ Right p.tot) ∨ 2 ^ 40 < p.e then false
  else if p.k = 1 then decide (p.s < p.e ∧ p.ps = [])
  else if p.k = 2 then decide (p.s = 0 ∧ p.ps = [])
  else if p.k = 4 then decide (p.s = 0 ∧ p.e = 0 ∧ p.ps = [])
  else if p.k = 3 ∨ p.k = 5 then perB p
  else false

/-- Where plan.periods stands. -/
structure PerQ where
  i : Nat
  e : Nat
  a : List Coin

section
variable {P : Program} {z : Zone} {N : Nat} {σ : St} {ρ : Nat → AV}
/-- A nil list told less sharply. -/
theorem run_nilsh {c : Code} {Q : Exit → (Nat → AV) → St → Prop} (d sz : Nat) {s : Nat} (h : ρ d = .sl s [] 0 .full := by first | rfl | (simp [F]; done))
    (k : Run z P N c (putA ρ (some d) (.sl sz [] 0 .shut)) σ Q) : Run z P N c ρ σ Q := run_wk (fun i => by
  rw [putA_get]; split
  · rename_i e; subst e; rw [h]; exact Wk.nil _ _ _
  · exact Wk.refl _) k
end

end Go.Vm

/-
  The same plans..
-/
namespace Go.Proofs.Ytdbaddholggkbaa
set_option linter.unnecessarySimpa false
set_option maxRecDepth 100000
open Go Go.Vm
set_option linter.unusedSimpArgs false
set_option linter.unusedVariables false

attribute [local simp] evalL wantedA isCall opA evalA evalAll evalsA evalOpt ofValue ofCell plain binA_eql_pn binA_neq_pn binA_gtr binA_lss binA_geq binA_leq binA_add binA_sub binA_eql binA_neq binA_orI binA_andI binA_shl binA_shr binA_mul binA_quo binA_rem binA_agg_eql binA_agg_neq convA_int unA_not fieldAddrA loadA partA pickA_true pickA_false pickA_bb lenA builtinA storeA splice AV.cells AV.isCell sliceA boundA intA callOf indexAddrA newObjA buildA fillA zeroA ofCells buildSliceA indexA fieldA numA_len4 numA_take4 numA_drop4 set_appN get_appN take_appN List.getElem?_cons_zero List.getElem?_cons_succ makeA zeros64

set_option maxHeartbeats 1600000 in
attribute [local simp] undefA List.getElem?_cons_zero List.getElem?_cons_succ in
theorem psame1_ok {σ : St} {x y : Per} (hx : x.c.length ≤ 9223372036854775807) (hy : y.c.length ≤ 9223372036854775807) :
    CallsA Try.prog 94 [.agg (perC x), .agg (perC y)] σ (fun av σ' => av = .v (.bool (decide (x = y))) ∧ σ = σ') := by
  refine callsA_gcS ?_ rfl
  obtain ⟨l, c⟩ := x
  obtain ⟨l2, c2⟩ := y
  simp only [Per.mk.injEq, perC, Bool.decide_and]
  have F := True.intro
  refine callsA_body Try.func94 rfl rfl rfl ?_
  refine sq fun K1 hK1 => ?_
  refine rg' (h := fun J2 hJ2 => ?_)
  refine hJ2 _ _ ?_
  refine hK1 _ _ ?_
  refine sq fun K3 hK3 => ?_
  refine rg' (h := fun J4 hJ4 => ?_)
  refine gs 10 (fun g1_5 => ?_) (fun g1_5 => ?_)
  · try exact nope g1_5
    all_goals have g1_5p := g1_5
    all_goals try simp [F] at g1_5p
    all_goals
     replace F := And.intro g1_5 F
     try replace F := And.intro g1_5p F
     have hl : l = l2 := by have h := g1_5; simp at h; omega
     replace F := And.intro hl F
     refine go2 (k := ?_)
     refine go2 (k := ?_)
     refine go2 (k := ?_)
     refine go2 (k := ?_)
     refine ca (c := csame_ok hx hy) (k := ?_)
     rintro _ _ ⟨rfl, rfl⟩
     repeat (first | simp [F] | simp (disch := omega) only [wC, if_pos, if_neg])
     refine hJ4 _ _ ?_
     refine hK3 _ _ ?_
     refine run_ret ?_
     try simp only [Then, InBlock, NoGoto]
     refine answer_tmp rfl (.inr rfl) ?_
     exact gcr
  try exact nope g1_5
  all_goals have g1_5p := g1_5
  all_goals try simp [F] at g1_5p
  all_goals
   replace F := And.intro g1_5 F
   try replace F := And.intro g1_5p F
   have hl : ¬ l = l2 := by have h := g1_5; simp at h; omega
   replace F := And.intro hl F
   refine no2 (k := ?_)
   refine no2 (k := ?_)
   refine no2 (k := ?_)
   refine no2 (k := ?_)
   refine no2 (k := ?_)
   refine hJ4 _ _ ?_
   refine hK3 _ _ ?_
   refine run_ret ?_
   try simp only [Then, InBlock, NoGoto]
   refine answer_tmp rfl (.inr rfl) ?_
   exact gcr

set_option maxHeartbeats 1600000 in
attribute [local simp] undefA List.getElem?_cons_zero List.getElem?_cons_succ perC persC_noObj in
theorem pequal_ok {σ : St} {a b : List Per} {ta tb : Tail} (hla : a.length ≤ 9223372036854775807) (hlb : b.length ≤ 9223372036854775807) (ha : ∀ x ∈ a, x.c.length ≤ 9223372036854775807) (hb : ∀ x ∈ b, x.c.length ≤ 9223372036854775807) :
    CallsA Try.prog 93 [.sl 2 (persC a) a.length ta, .sl 2 (persC b) b.length tb, .fn 94 []] σ (fun av σ' => av = .v (.bool (decide (a = b))) ∧ σ = σ') := by
  refine callsA_gcS ?_ rfl
  have F := True.intro
  refine callsA_body Try.func93 rfl rfl rfl ?_
  refine sq fun K1 hK1 => ?_
  refine rg' (h := fun J2 hJ2 => ?_)
  refine hJ2 _ _ ?_
  refine hK1 _ _ ?_
  refine sq fun K3 hK3 => ?_
  refine sq fun K4 hK4 => ?_
  refine rg' (h := fun J5 hJ5 => ?_)
  refine hJ5 _ _ ?_
  refine hK4 _ _ ?_
  refine cs (fun c14 => ?_) (fun c14 => ?_)
  · try exact nope c14
    all_goals have c14p := c14
    all_goals try simp [F] at c14p
    all_goals
     replace F := And.intro c14 F
     try replace F := And.intro c14p F
     have hne : ¬ a = b := fun e => by subst e; simp at c14
     replace F := And.intro hne F
     refine sq fun K6 hK6 => ?_
     refine rg' (h := fun J7 hJ7 => ?_)
     refine hJ7 _ _ ?_
     refine hK6 _ _ ?_
     refine run_ret ?_
     try simp only [Then, InBlock, NoGoto]
     refine answer_tmp rfl (.inr rfl) ?_
     exact gcr
  try exact nope c14
  all_goals have c14p := c14
  all_goals try simp [F] at c14p
  all_goals
   replace F := And.intro c14 F
   try replace F := And.intro c14p F
   refine run_skip ?_
   refine hK3 _ _ ?_
   refine sq fun K8 hK8 => ?_
   refine sq fun K9 hK9 => ?_
   have hlen : a.length = b.length := by have h := c14; simp at h; omega
   refine rg' (h := fun J10 hJ10 => ?_)
   refine hJ10 _ _ ?_
   refine hK9 _ _ ?_
   refine run_block_k ?_
   refine run_loopG (X := Nat) [1, 2, 15, 16] (fun i ρ σ1 => (i ≤ a.length) ∧ (a.take i = b.take i) ∧ (ρ 17 = .v (.int .i64 i)) ∧ (σ1 = σ)) (fun i => a.length - i) (0) ?st1 ?rd1
   case st1 =>
    refine ⟨lp, ?_, lp, ?_⟩
    · rfl
    · rfl
   case rd1 =>
    rintro i ρ1 σ1 hF1 ⟨hi, hE, h13, hσ⟩
    obtain rfl := hσ.symm
    have f1 := keepL hF1
    try simp [KeepL, F] at f1
    replace F := And.intro h13 F
    try replace F := And.intro f1 F
    refine sq fun K11 hK11 => ?_
    refine rg' (h := fun J12 hJ12 => ?_)
    refine hJ12 _ _ ?_
    refine hK11 _ _ ?_
    refine sq fun K13 hK13 => ?_
    refine cs (fun c18 => ?_) (fun c18 => ?_)
    · try exact nope c18
      all_goals have c18p := c18
      all_goals try simp [F] at c18p
      all_goals
       replace F := And.intro c18 F
       try replace F := And.intro c18p F
       refine run_skip ?_
       refine hK13 _ _ ?_
       refine sq fun K14 hK14 => ?_
       refine run_block_k ?_
       refine sq fun K15 hK15 => ?_
       have hlt : i < a.length := by simp at c18; omega
       have hltb : i < b.length := by omega
       have hat := persC_at hlt
       have hatb := persC_at hltb
       have hb1 : i * 2 + 2 ≤ a.length * 2 := by omega
       have hb2 : i * 2 + 2 ≤ b.length * 2 := by omega
       obtain ⟨x, hx⟩ : ∃ x, x = a[i] := ⟨_, rfl⟩
       obtain ⟨y, hy⟩ : ∃ y, y = b[i] := ⟨_, rfl⟩
       rw [← hx] at hat
       rw [← hy] at hatb
       have hta : a.take (i + 1) = a.take i ++ [x] := by rw [hx]; exact (List.take_append_getElem hlt).symm
       have htb : b.take (i + 1) = b.take i ++ [y] := by rw [hy]; exact (List.take_append_getElem hltb).symm
       have hxl := ha x (by rw [hx]; exact List.getElem_mem _)
       have hyl := hb y (by rw [hy]; exact List.getElem_mem _)
       replace F := And.intro hlt F
       replace F := And.intro hltb F
       replace F := And.intro hat F
       replace F := And.intro hatb F
       replace F := And.intro hb1 F
       replace F := And.intro hb2 F
       refine rg' (h := fun J16 hJ16 => ?_)
       refine hJ16 _ _ ?_
       refine hK15 _ _ ?_
       refine sq fun K17 hK17 => ?_
       refine rg' (h := fun J18 hJ18 => ?_)
       refine hJ18 _ _ ?_
       refine hK17 _ _ ?_
       refine sq fun K19 hK19 => ?_
       refine rg' (h := fun J20 hJ20 => ?_)
       refine ca (c := (psame1_ok (x := x) (y := y) hxl hyl)) (k := ?_)
       rintro _ _ ⟨rfl, rfl⟩
       repeat (first | simp [F] | simp (disch := omega) only [wC, if_pos, if_neg])
       refine hJ20 _ _ ?_
       refine hK19 _ _ ?_
       refine cs (fun c30 => ?_) (fun c30 => ?_)
       · try exact nope c30
         all_goals have c30p := c30
         all_goals try simp [F] at c30p
         all_goals
          replace F := And.intro c30 F
          try replace F := And.intro c30p F
          have hne : ¬ a = b := fun e => by subst e; rw [← hx] at hy; subst hy; simp at c30
          replace F := And.intro hne F
          refine sq fun K21 hK21 => ?_
          refine rg' (h := fun J22 hJ22 => ?_)
          refine hJ22 _ _ ?_
          refine hK21 _ _ ?_
          refine run_ret ?_
          try simp only [Then, InBlock, NoGoto]
          refine answer_tmp rfl (.inr rfl) ?_
          exact gcr
       try exact nope c30
       all_goals have c30p := c30
       all_goals try simp [F] at c30p
       all_goals
        replace F := And.intro c30 F
        try replace F := And.intro c30p F
        have hxy : x = y := by simpa using c30
        refine run_skip ?_
        refine hK14 _ _ ?_
        refine rg' (h := fun J23 hJ23 => ?_)
        refine hJ23 _ _ ?_
        refine ⟨gk, (i + 1), ⟨kpG, lpG, ?_, lpG, lpG⟩, lpG⟩
        · rw [hta, htb, hE, hxy]
    try exact nope c18
    all_goals have c18p := c18
    all_goals try simp [F] at c18p
    all_goals
     replace F := And.intro c18 F
     try replace F := And.intro c18p F
     have he : a = b := by have h := c18; simp at h; rw [List.take_of_length_le (by omega), List.take_of_length_le (by omega)] at hE; exact hE
     replace F := And.intro he F
     refine run_exit ?_
     refine hK8 _ _ ?_
     refine sq fun K24 hK24 => ?_
     refine rg' (h := fun J25 hJ25 => ?_)
     refine hJ25 _ _ ?_
     refine hK24 _ _ ?_
     refine run_ret ?_
     try simp only [Then, InBlock, NoGoto]
     refine answer_tmp rfl (.inr rfl) ?_
     exact gcr

end Go.Proofs.Ytdbaddholggkbaa

/-
  Right plans..
-/
namespace Go.Proofs.Ytdbaddholggkbaa
set_option linter.unnecessarySimpa false
set_option maxRecDepth 100000
open Go Go.Vm
set_option linter.unusedSimpArgs false
set_option linter.unusedVariables false

attribute [local simp] evalL wantedA isCall opA evalA evalAll evalsA evalOpt ofValue ofCell plain binA_eql_pn binA_neq_pn binA_gtr binA_lss binA_geq binA_leq binA_add binA_sub binA_eql binA_neq binA_orI binA_andI binA_shl binA_shr binA_mul binA_quo binA_rem binA_agg_eql binA_agg_neq convA_int unA_not fieldAddrA loadA partA pickA_true pickA_false pickA_bb lenA builtinA storeA splice AV.cells AV.isCell sliceA boundA intA callOf indexAddrA newObjA buildA fillA zeroA ofCells buildSliceA indexA fieldA numA_len4 numA_take4 numA_drop4 set_appN get_appN take_appN List.getElem?_cons_zero List.getElem?_cons_succ makeA zeros64

set_option maxHeartbeats 1600000 in
attribute [local simp] undefA List.getElem?_cons_zero List.getElem?_cons_succ in
theorem plsame_ok {σ : St} {a b : Pln} (ha : a.Ok) (hb : b.Ok) :
    CallsA Try.prog 47 [.agg (plnC a), .agg (plnC b)] σ (fun av σ' => av = .v (.bool (decide (a = b))) ∧ σ = σ') := by
  refine callsA_gcS ?_ rfl
  obtain ⟨ak, a1, a2, a3, a4⟩ := a
  obtain ⟨bk, b1, b2, b3, b4⟩ := b
  obtain ⟨ha1, ha2, ha3, ha4, ha5⟩ := ha
  obtain ⟨hb1, hb2, hb3, hb4, hb5⟩ := hb
  simp only [Pln.mk.injEq, plnC, Bool.decide_and] at *
  have F := True.intro
  refine callsA_body Try.func47 rfl rfl rfl ?_
  refine sq fun K1 hK1 => ?_
  refine rg' (h := fun J2 hJ2 => ?_)
  refine hJ2 _ _ ?_
  refine hK1 _ _ ?_
  refine sq fun K3 hK3 => ?_
  refine rg' (h := fun J4 hJ4 => ?_)
  refine gs 10 (fun g1_5 => ?_) (fun g1_5 => ?_)
  · try exact nope g1_5
    all_goals have g1_5p := g1_5
    all_goals try simp [F] at g1_5p
    all_goals
     replace F := And.intro g1_5 F
     try replace F := And.intro g1_5p F
     have hl1 : ak = bk := by have h := g1_5; simp at h; exact UInt8.toNat_inj.1 (by omega)
     replace F := And.intro hl1 F
     refine go2 (k := ?_)
     refine go2 (k := ?_)
     refine go2 (k := ?_)
     refine go2 (k := ?_)
     refine go2 (k := ?_)
     refine gs 17 (fun g1_12 => ?_) (fun g1_12 => ?_)
     · try exact nope g1_12
       all_goals have g1_12p := g1_12
       all_goals try simp [F] at g1_12p
       all_goals
        replace F := And.intro g1_12 F
        try replace F := And.intro g1_12p F
        have hl2 : a1 = b1 := by have h := g1_12; simp at h; omega
        replace F := And.intro hl2 F
        refine go2 (k := ?_)
        refine go2 (k := ?_)
        refine go2 (k := ?_)
        refine go2 (k := ?_)
        refine go2 (k := ?_)
        refine gs 24 (fun g1_19 => ?_) (fun g1_19 => ?_)
        · try exact nope g1_19
          all_goals have g1_19p := g1_19
          all_goals try simp [F] at g1_19p
          all_goals
           replace F := And.intro g1_19 F
           try replace F := And.intro g1_19p F
           have hl3 : a2 = b2 := by have h := g1_19; simp at h; omega
           replace F := And.intro hl3 F
           refine go2 (k := ?_)
           refine go2 (k := ?_)
           refine go2 (k := ?_)
           refine go2 (k := ?_)
           refine ca (c := csame_ok ha3 hb3) (k := ?_)
           rintro _ _ ⟨rfl, rfl⟩
           repeat (first | simp [F] | simp (disch := omega) only [wC, if_pos, if_neg])
           refine gs 31 (fun g1_26 => ?_) (fun g1_26 => ?_)
           · try exact nope g1_26
             all_goals have g1_26p := g1_26
             all_goals try simp [F] at g1_26p
             all_goals
              replace F := And.intro g1_26 F
              try replace F := And.intro g1_26p F
              refine go2 (k := ?_)
              refine go2 (k := ?_)
              refine go2 (k := ?_)
              refine go2 (k := ?_)
              refine ca (c := pequal_ok ha4 hb4 (fun x hx ↦ (ha5 x hx).2) (fun x hx ↦ (hb5 x hx).2)) (k := ?_)
              rintro _ _ ⟨rfl, rfl⟩
              repeat (first | simp [F] | simp (disch := omega) only [wC, if_pos, if_neg])
              refine hJ4 _ _ ?_
              refine hK3 _ _ ?_
              refine run_ret ?_
              try simp only [Then, InBlock, NoGoto]
              refine answer_tmp rfl (.inr rfl) ?_
              exact gcr
           try exact nope g1_26
           all_goals have g1_26p := g1_26
           all_goals try simp [F] at g1_26p
           all_goals
            replace F := And.intro g1_26 F
            try replace F := And.intro g1_26p F
            refine no2 (k := ?_)
            refine no2 (k := ?_)
            refine no2 (k := ?_)
            refine no2 (k := ?_)
            refine no2 (k := ?_)
            refine hJ4 _ _ ?_
            refine hK3 _ _ ?_
            refine run_ret ?_
            try simp only [Then, InBlock, NoGoto]
            refine answer_tmp rfl (.inr rfl) ?_
            exact gcr
        try exact nope g1_19
        all_goals have g1_19p := g1_19
        all_goals try simp [F] at g1_19p
        all_goals
         replace F := And.intro g1_19 F
         try replace F := And.intro g1_19p F
         have hl3 : ¬ a2 = b2 := by have h := g1_19; simp at h; omega
         replace F := And.intro hl3 F
         refine no2 (k := ?_)
         refine no2 (k := ?_)
         refine no2 (k := ?_)
         refine no2 (k := ?_)
         refine no2 (k := ?_)
         refine no2 (k := ?_)
         refine no2 (k := ?_)
         refine no2 (k := ?_)
         refine no2 (k := ?_)
         refine no2 (k := ?_)
         refine hJ4 _ _ ?_
         refine hK3 _ _ ?_
         refine run_ret ?_
         try simp only [Then, InBlock, NoGoto]
         refine answer_tmp rfl (.inr rfl) ?_
         exact gcr
     try exact nope g1_12
     all_goals have g1_12p := g1_12
     all_goals try simp [F] at g1_12p
     all_goals
      replace F := And.intro g1_12 F
      try replace F := And.intro g1_12p F
      have hl2 : ¬ a1 = b1 := by have h := g1_12; simp at h; omega
      replace F := And.intro hl2 F
      refine no2 (k := ?_)
      refine no2 (k := ?_)
      refine no2 (k := ?_)
      refine no2 (k := ?_)
      refine no2 (k := ?_)
      refine no2 (k := ?_)
      refine no2 (k := ?_)
      refine no2 (k := ?_)
      refine no2 (k := ?_)
      refine no2 (k := ?_)
      refine no2 (k := ?_)
      refine no2 (k := ?_)
      refine no2 (k := ?_)
      refine no2 (k := ?_)
      refine no2 (k := ?_)
      refine hJ4 _ _ ?_
      refine hK3 _ _ ?_
      refine run_ret ?_
      try simp only [Then, InBlock, NoGoto]
      refine answer_tmp rfl (.inr rfl) ?_
      exact gcr
  try exact nope g1_5
  all_goals have g1_5p := g1_5
  all_goals try simp [F] at g1_5p
  all_goals
   replace F := And.intro g1_5 F
   try replace F := And.intro g1_5p F
   have hl1 : ¬ ak = bk := by have h := g1_5; simp at h; intro e; subst e; exact h rfl
   replace F := And.intro hl1 F
   refine no2 (k := ?_)
   refine no2 (k := ?_)
   refine no2 (k := ?_)
   refine no2 (k := ?_)
   refine no2 (k := ?_)
   refine no2 (k := ?_)
   refine no2 (k := ?_)
   refine no2 (k := ?_)
   refine no2 (k := ?_)
   refine no2 (k := ?_)
   refine no2 (k := ?_)
   refine no2 (k := ?_)
   refine no2 (k := ?_)
   refine no2 (k := ?_)
   refine no2 (k := ?_)
   refine no2 (k := ?_)
   refine no2 (k := ?_)
   refine no2 (k := ?_)
   refine no2 (k := ?_)
   refine no2 (k := ?_)
   refine hJ4 _ _ ?_
   refine hK3 _ _ ?_
   refine run_ret ?_
   try simp only [Then, InBlock, NoGoto]
   refine answer_tmp rfl (.inr rfl) ?_
   exact gcr

end Go.Proofs.Ytdbaddholggkbaa
