import Derived.Test.YtdbaddholggkbaaVmU
import Derived.Test.YtdbaddholggkbaaC9
import Derived.Test.YtdbaddholggkbaaVmMS
/-
  Numbers: sums and differences, limb by limb.
-/
namespace Go.Proofs.Ytdbaddholggkbaa
set_option linter.unnecessarySimpa false
set_option maxRecDepth 100000
open Go Go.Vm
set_option linter.unusedSimpArgs false
set_option linter.unusedVariables false

attribute [local simp] evalL wantedA isCall opA evalA evalAll evalsA evalOpt ofValue ofCell plain binA_eql_pn binA_neq_pn binA_gtr binA_lss binA_geq binA_leq binA_add binA_sub binA_eql binA_neq binA_or binA_and binA_shl binA_shr binA_mul binA_quo binA_rem binA_agg_eql binA_agg_neq convA_int unA_not fieldAddrA loadA partA pickA_true pickA_false pickA_bb lenA builtinA storeA splice AV.cells AV.isCell sliceA boundA intA callOf indexAddrA newObjA buildA fillA zeroA ofCells buildSliceA indexA fieldA numA_len4 numA_take4 numA_drop4 List.getElem?_cons_zero List.getElem?_cons_succ

theorem add64_ok {σ : St} {x y c : Nat} (hc : c ≤ 1) : ExtA Try.prog 139 [.v (.int .u64 x), .v (.int .u64 y), .v (.int .u64 c)] σ (fun av _ => ∃ s c' : Nat, s = (x + y + c) % 18446744073709551616 ∧ c' = (x + y + c) / 18446744073709551616 ∧ av = .tup [.v (.int .u64 s), .v (.int .u64 c')]) :=
  add64_ext Try.func139 (by kernel_rfl) (by kernel_rfl) (by kernel_rfl) (by kernel_rfl) hc
theorem sub64_ok {σ : St} {x y c : Nat} (hc : c ≤ 1) : ExtA Try.prog 150 [.v (.int .u64 x), .v (.int .u64 y), .v (.int .u64 c)] σ (fun av _ => ∃ s c' : Nat, s = (x + 18446744073709551616 - y - c) % 18446744073709551616 ∧ c' = (if x < y + c then 1 else 0) ∧ av = .tup [.v (.int .u64 s), .v (.int .u64 c')]) :=
  sub64_ext Try.func150 (by kernel_rfl) (by kernel_rfl) (by kernel_rfl) (by kernel_rfl) hc

set_option maxHeartbeats 1600000 in
attribute [local simp] undefA List.getElem?_cons_zero List.getElem?_cons_succ in
theorem nadd_ok {σ : St} {x y : Nat} (hx : x < 2 ^ 256) (hy : y < 2 ^ 256) :
    CallsA Try.prog 118 [.agg (numA x), .agg (numA y)] σ (fun av σ' => av = .tup [.agg (numA (addN x y)), .v (.int .i64 (addE x y : Nat))] ∧ σ = σ') := by
  refine callsA_gcS ?_ (by simp [AV.under, underL, numA])
  have hx4 : x < 18446744073709551616 ^ 4 := hx
  have hy4 : y < 18446744073709551616 ^ 4 := hy
  rw [numA_digs x, numA_digs y]
  have F := True.intro
  refine callsA_body Try.func118 rfl rfl rfl ?_
  refine sq fun K1 hK1 => ?_
  refine rg' (h := fun J2 hJ2 => ?_)
  refine hJ2 _ _ ?_
  refine hK1 _ _ ?_
  refine sq fun K3 hK3 => ?_
  refine rg' (h := fun J4 hJ4 => ?_)
  refine hJ4 _ _ ?_
  refine hK3 _ _ ?_
  refine sq fun K5 hK5 => ?_
  refine sq fun K6 hK6 => ?_
  refine rg' (h := fun J7 hJ7 => ?_)
  refine hJ7 _ _ ?_
  refine hK6 _ _ ?_
  refine run_block_k ?_
  refine run_loopF (X := Nat) [2, 3, 4, 5] (fun i ρ σ1 => (i ≤ 4) ∧ (ρ 6 = .v (.int .u64 (addc 18446744073709551616 x y i : Nat))) ∧ (ρ 8 = .v (.int .i64 i)) ∧ (σ1 = { σ with objs := σ.objs ++ [u64s (mix 18446744073709551616 4 i (x + y) x), u64s (digs 18446744073709551616 4 y), numA 0] })) (fun i => 4 - i) (0) ?st1 ?rd1
  case st1 =>
   refine ⟨lp, ?_, lp, ?_⟩
   · simp [addc_zero]
   · simp [mix_zero, numA_zero4]
  case rd1 =>
   rintro i ρ1 σ1 hF1 ⟨hi, h6, h8, hσ⟩
   obtain rfl := hσ.symm
   have f1 := keepL hF1
   try simp [KeepL, F] at f1
   replace F := And.intro h6 F
   replace F := And.intro h8 F
   try replace F := And.intro f1 F
   refine sq fun K8 hK8 => ?_
   refine rg' (h := fun J9 hJ9 => ?_)
   refine hJ9 _ _ ?_
   refine hK8 _ _ ?_
   refine sq fun K10 hK10 => ?_
   refine cs (fun c9 => ?_) (fun c9 => ?_)
   · try exact nope c9
     all_goals have c9p := c9
     all_goals try simp [F] at c9p
     all_goals
      replace F := And.intro c9 F
      try replace F := And.intro c9p F
      refine run_skip ?_
      refine hK10 _ _ ?_
      refine sq fun K11 hK11 => ?_
      refine run_block_k ?_
      refine sq fun K12 hK12 => ?_
      refine rg' (h := fun J13 hJ13 => ?_)
      refine hJ13 _ _ ?_
      refine hK12 _ _ ?_
      have hi4 : i < 4 := by simp at c9; omega
      have hgx := mixU_get (b := 18446744073709551616) (s := x + y) (x := x) hi4
      have hgy := digU_get (b := 18446744073709551616) (x := y) hi4
      have hst := mixU_set (b := 18446744073709551616) (s := x + y) (x := x) hi4
      have hml := mix_len (b := 18446744073709551616) (s := x + y) (x := x) (Nat.le_of_lt hi4)
      generalize hX : x / 18446744073709551616 ^ i % 18446744073709551616 = X at hgx
      generalize hY : y / 18446744073709551616 ^ i % 18446744073709551616 = Y at hgy
      have hi5 : (i : Int) < 4 := by omega
      obtain ⟨_, hgx2⟩ := List.getElem?_eq_some_iff.1 hgx
      obtain ⟨_, hgy2⟩ := List.getElem?_eq_some_iff.1 hgy
      replace F := And.intro hgx F
      replace F := And.intro hgy F
      replace F := And.intro hgx2 F
      replace F := And.intro hgy2 F
      replace F := And.intro hml F
      replace F := And.intro hi4 F
      replace F := And.intro hi5 F
      refine run_draw (by kernel_rfl) fun J14 hJ14 => ?_
      refine rp2 0 (k := ?_)
      refine rp2 1 (k := ?_)
      refine rp2 2 (k := ?_)
      refine rp2 3 (k := ?_)
      refine rp2 4 (k := ?_)
      refine rp2 5 (k := ?_)
      refine rp2 6 (k := ?_)
      refine rp2 7 (k := ?_)
      refine de 8 rfl (c := add64_ok (x := X) (y := Y) (c := addc 18446744073709551616 x y i) (addc_le (by decide))) (k := ?_)
      rintro _ _ ⟨s, c1, hs, hc1, rfl⟩ rfl
      obtain rfl : c1 = addc 18446744073709551616 x y (i + 1) := by rw [hc1, ← hX, ← hY]; exact addc_next (by decide)
      have hs2 : s = (x + y) / 18446744073709551616 ^ i % 18446744073709551616 := by rw [hs, ← hX, ← hY]; exact addc_dig (by decide)
      rw [← hs2] at hst
      repeat (first | simp [F] | simp (disch := omega) only [wC, if_pos, if_neg])
      refine rp2 9 (k := ?_)
      refine rp2 10 (k := ?_)
      refine rp2 11 (k := ?_)
      refine rp2 12 (k := ?_)
      refine dop 13 rfl ?_
      repeat (first | simp [F] | simp (disch := omega) only [wC, if_pos, if_neg])
      refine ⟨later_tmp (by kernel_rfl), ?_⟩
      refine dop 14 rfl ?_
      repeat (first | simp [F] | simp (disch := omega) only [wC, if_pos, if_neg])
      try refine ⟨ln, ?_⟩
      refine dd ?_
      refine hJ14 _ _ ?_
      refine hK11 _ _ ?_
      refine rg' (h := fun J15 hJ15 => ?_)
      refine hJ15 _ _ ?_
      refine ⟨(i + 1), ⟨kp, lp, lp, lp, ?_⟩, lp⟩
      · simp [hst]
   try exact nope c9
   all_goals have c9p := c9
   all_goals try simp [F] at c9p
   all_goals
    replace F := And.intro c9 F
    try replace F := And.intro c9p F
    obtain rfl : i = 4 := by simp at c9; omega
    have hma := mix_all 18446744073709551616 4 (x + y) x
    rw [hma]
    rw [addc_last hx4 hy4] at h6 F
    rw [← numA_digs]
    have hnl : (numA (x + y)).length = 4 := rfl
    have hnt : (numA (x + y)).take 4 = numA (x + y) := rfl
    replace F := And.intro hnl (And.intro hnt F)
    refine run_exit ?_
    refine hK5 _ _ ?_
    refine sq fun K16 hK16 => ?_
    refine sq fun K17 hK17 => ?_
    refine rg' (h := fun J18 hJ18 => ?_)
    refine hJ18 _ _ ?_
    refine hK17 _ _ ?_
    refine cs (fun c26 => ?_) (fun c26 => ?_)
    · try exact nope c26
      all_goals have c26p := c26
      all_goals try simp [F] at c26p
      all_goals
       replace F := And.intro c26 F
       try replace F := And.intro c26p F
       have hbig : ¬ x + y < 2 ^ 256 := by first | (intro h; apply c26p; omega) | omega
       have hN : addN x y = 0 := if_neg hbig
       have hE : addE x y = 2 := if_neg hbig
       replace F := And.intro hN (And.intro hE (And.intro numA_zero4 F))
       refine sq fun K19 hK19 => ?_
       refine rg' (h := fun J20 hJ20 => ?_)
       refine hJ20 _ _ ?_
       refine hK19 _ _ ?_
       refine run_ret ?_
       try simp only [Then, InBlock, NoGoto]
       refine acell2 (h := ?_)
       exact gcr
    try exact nope c26
    all_goals have c26p := c26
    all_goals try simp [F] at c26p
    all_goals
     replace F := And.intro c26 F
     try replace F := And.intro c26p F
     have hbig : x + y < 2 ^ 256 := by first | omega | (simp at c26p; omega)
     have hN : addN x y = x + y := if_pos hbig
     have hE : addE x y = 0 := if_pos hbig
     replace F := And.intro hN (And.intro hE F)
     refine run_skip ?_
     refine hK16 _ _ ?_
     refine sq fun K21 hK21 => ?_
     refine rg' (h := fun J22 hJ22 => ?_)
     refine hJ22 _ _ ?_
     refine hK21 _ _ ?_
     refine run_ret ?_
     try simp only [Then, InBlock, NoGoto]
     refine acell2 (h := ?_)
     exact gcr

/-- num.sub's answer. -/
def subN (x y : Nat) : Nat := (x + 2 ^ 256 - y) % 2 ^ 256

set_option maxHeartbeats 1600000 in
attribute [local simp] undefA List.getElem?_cons_zero List.getElem?_cons_succ in
theorem nsub_ok {σ : St} {x y : Nat} (hx : x < 2 ^ 256) (hy : y < 2 ^ 256) :
    CallsA Try.prog 142 [.agg (numA x), .agg (numA y)] σ (fun av σ' => av = .tup [.agg (numA (subN x y)), .v (.bool (decide (x < y)))] ∧ σ = σ') := by
  refine callsA_gcS ?_ (by simp [AV.under, underL, numA])
  have hx4 : x < 18446744073709551616 ^ 4 := hx
  have hy4 : y < 18446744073709551616 ^ 4 := hy
  rw [numA_digs x, numA_digs y]
  obtain ⟨s4, hs4⟩ : ∃ s4, s4 = x + 18446744073709551616 ^ 4 - y := ⟨_, rfl⟩
  have F := True.intro
  refine callsA_body Try.func142 rfl rfl rfl ?_
  refine sq fun K1 hK1 => ?_
  refine rg' (h := fun J2 hJ2 => ?_)
  refine hJ2 _ _ ?_
  refine hK1 _ _ ?_
  refine sq fun K3 hK3 => ?_
  refine rg' (h := fun J4 hJ4 => ?_)
  refine hJ4 _ _ ?_
  refine hK3 _ _ ?_
  refine sq fun K5 hK5 => ?_
  refine sq fun K6 hK6 => ?_
  refine rg' (h := fun J7 hJ7 => ?_)
  refine hJ7 _ _ ?_
  refine hK6 _ _ ?_
  refine run_block_k ?_
  refine run_loopF (X := Nat) [2, 3, 4, 5] (fun i ρ σ1 => (i ≤ 4) ∧ (ρ 6 = .v (.int .u64 (subb 18446744073709551616 x y i : Nat))) ∧ (ρ 8 = .v (.int .i64 i)) ∧ (σ1 = { σ with objs := σ.objs ++ [u64s (mix 18446744073709551616 4 i s4 x), u64s (digs 18446744073709551616 4 y), numA 0] })) (fun i => 4 - i) (0) ?st1 ?rd1
  case st1 =>
   refine ⟨lp, ?_, lp, ?_⟩
   · simp [subb_zero]
   · simp [mix_zero, numA_zero4]
  case rd1 =>
   rintro i ρ1 σ1 hF1 ⟨hi, h6, h8, hσ⟩
   obtain rfl := hσ.symm
   have f1 := keepL hF1
   try simp [KeepL, F] at f1
   replace F := And.intro h6 F
   replace F := And.intro h8 F
   try replace F := And.intro f1 F
   refine sq fun K8 hK8 => ?_
   refine rg' (h := fun J9 hJ9 => ?_)
   refine hJ9 _ _ ?_
   refine hK8 _ _ ?_
   refine sq fun K10 hK10 => ?_
   refine cs (fun c9 => ?_) (fun c9 => ?_)
   · try exact nope c9
     all_goals have c9p := c9
     all_goals try simp [F] at c9p
     all_goals
      replace F := And.intro c9 F
      try replace F := And.intro c9p F
      refine run_skip ?_
      refine hK10 _ _ ?_
      refine sq fun K11 hK11 => ?_
      refine run_block_k ?_
      refine sq fun K12 hK12 => ?_
      refine rg' (h := fun J13 hJ13 => ?_)
      refine hJ13 _ _ ?_
      refine hK12 _ _ ?_
      have hi4 : i < 4 := by simp at c9; omega
      have hgx := mixU_get (b := 18446744073709551616) (s := s4) (x := x) hi4
      have hgy := digU_get (b := 18446744073709551616) (x := y) hi4
      have hst := mixU_set (b := 18446744073709551616) (s := s4) (x := x) hi4
      have hml := mix_len (b := 18446744073709551616) (s := s4) (x := x) (Nat.le_of_lt hi4)
      generalize hX : x / 18446744073709551616 ^ i % 18446744073709551616 = X at hgx
      generalize hY : y / 18446744073709551616 ^ i % 18446744073709551616 = Y at hgy
      have hi5 : (i : Int) < 4 := by omega
      obtain ⟨_, hgx2⟩ := List.getElem?_eq_some_iff.1 hgx
      obtain ⟨_, hgy2⟩ := List.getElem?_eq_some_iff.1 hgy
      replace F := And.intro hgx F
      replace F := And.intro hgy F
      replace F := And.intro hgx2 F
      replace F := And.intro hgy2 F
      replace F := And.intro hml F
      replace F := And.intro hi4 F
      replace F := And.intro hi5 F
      refine run_draw (by kernel_rfl) fun J14 hJ14 => ?_
      refine rp2 0 (k := ?_)
      refine rp2 1 (k := ?_)
      refine rp2 2 (k := ?_)
      refine rp2 3 (k := ?_)
      refine rp2 4 (k := ?_)
      refine rp2 5 (k := ?_)
      refine rp2 6 (k := ?_)
      refine rp2 7 (k := ?_)
      refine de 8 rfl (c := sub64_ok (x := X) (y := Y) (c := subb 18446744073709551616 x y i) (subb_le _ _ _ _)) (k := ?_)
      rintro _ _ ⟨s, c1, hs, hc1, rfl⟩ rfl
      obtain rfl : c1 = subb 18446744073709551616 x y (i + 1) := by rw [hc1, ← hX, ← hY]; exact subb_next (by decide)
      have hs2 : s = s4 / 18446744073709551616 ^ i % 18446744073709551616 := by rw [hs, hs4, ← hX, ← hY]; exact subb_dig (by decide) hi4 hx4 hy4
      rw [← hs2] at hst
      repeat (first | simp [F] | simp (disch := omega) only [wC, if_pos, if_neg])
      refine rp2 9 (k := ?_)
      refine rp2 10 (k := ?_)
      refine rp2 11 (k := ?_)
      refine rp2 12 (k := ?_)
      refine dop 13 rfl ?_
      repeat (first | simp [F] | simp (disch := omega) only [wC, if_pos, if_neg])
      refine ⟨later_tmp (by kernel_rfl), ?_⟩
      refine dop 14 rfl ?_
      repeat (first | simp [F] | simp (disch := omega) only [wC, if_pos, if_neg])
      try refine ⟨ln, ?_⟩
      refine dd ?_
      refine hJ14 _ _ ?_
      refine hK11 _ _ ?_
      refine rg' (h := fun J15 hJ15 => ?_)
      refine hJ15 _ _ ?_
      refine ⟨(i + 1), ⟨kp, lp, lp, lp, ?_⟩, lp⟩
      · simp [hst]
   try exact nope c9
   all_goals have c9p := c9
   all_goals try simp [F] at c9p
   all_goals
    replace F := And.intro c9 F
    try replace F := And.intro c9p F
    obtain rfl : i = 4 := by simp at c9; omega
    have hma := mix_all 18446744073709551616 4 s4 x
    rw [hma]
    rw [subb_last hx4 hy4] at h6 F
    have hnn : u64s (digs 18446744073709551616 4 s4) = numA (subN x y) := by rw [numA_digs]; congr 1; exact (digs_of (by decide) (digs_lt (by decide)) (by simp) (by rw [valD_digs, hs4]; rfl))
    rw [hnn]
    have hnl : (numA (subN x y)).length = 4 := rfl
    have hnt : (numA (subN x y)).take 4 = numA (subN x y) := rfl
    have hb2 : (((if x < y then 1 else 0 : Nat) : Int) != 0) = decide (x < y) := by split <;> simp [*]
    replace F := And.intro hnl (And.intro hnt (And.intro hb2 F))
    refine run_exit ?_
    refine hK5 _ _ ?_
    refine sq fun K16 hK16 => ?_
    refine rg' (h := fun J17 hJ17 => ?_)
    refine hJ17 _ _ ?_
    refine hK16 _ _ ?_
    refine run_ret ?_
    try simp only [Then, InBlock, NoGoto]
    refine acell2 (h := ?_)
    exact gcr

theorem nsub_mod {σ : St} {x y : Nat} (hy : y < 2 ^ 256) :
    CallsA Try.prog 142 [.agg (numA x), .agg (numA y)] σ (fun av σ' => av = .tup [.agg (numA (subN (x % 2 ^ 256) y)), .v (.bool (decide (x % 2 ^ 256 < y)))] ∧ σ = σ') := by
  have h := nsub_ok (σ := σ) (x := x % 2 ^ 256) (Nat.mod_lt _ (by decide)) hy
  rwa [numA_mod] at h

set_option maxHeartbeats 1600000 in
attribute [local simp] undefA List.getElem?_cons_zero List.getElem?_cons_succ in
theorem nSub_ok {σ : St} {x y : Nat} (hx : x < 2 ^ 256) (hy : y < 2 ^ 256) :
    CallsA Try.prog 146 [.agg (numA x), .agg (numA y)] σ (fun av σ' => av = .tup [.agg (numA (x - y)), .v (.int .i64 (if x < y then 3 else 0 : Nat))] ∧ σ = σ') := by
  refine callsA_gcS ?_ (by simp [AV.under, underL, numA])
  have F := True.intro
  refine callsA_body Try.func146 rfl rfl rfl ?_
  refine sq fun K1 hK1 => ?_
  refine rg' (h := fun J2 hJ2 => ?_)
  refine hJ2 _ _ ?_
  refine hK1 _ _ ?_
  refine sq fun K3 hK3 => ?_
  refine rg' (h := fun J4 hJ4 => ?_)
  refine ca (c := nsub_ok hx hy) (k := ?_)
  rintro _ _ ⟨rfl, rfl⟩
  repeat (first | simp [F] | simp (disch := omega) only [wC, if_pos, if_neg])
  refine hJ4 _ _ ?_
  refine hK3 _ _ ?_
  refine sq fun K5 hK5 => ?_
  refine sq fun K6 hK6 => ?_
  refine rg' (h := fun J7 hJ7 => ?_)
  refine hJ7 _ _ ?_
  refine hK6 _ _ ?_
  refine cs (fun c14 => ?_) (fun c14 => ?_)
  · try exact nope c14
    all_goals have c14p := c14
    all_goals try simp [F] at c14p
    all_goals
     replace F := And.intro c14 F
     try replace F := And.intro c14p F
     have h0 : x - y = 0 := by first | omega | (simp at c14p; omega)
     have hlt : x < y := by simpa using c14p
     replace F := And.intro h0 (And.intro hlt (And.intro numA_zero4 F))
     refine sq fun K8 hK8 => ?_
     refine rg' (h := fun J9 hJ9 => ?_)
     refine hJ9 _ _ ?_
     refine hK8 _ _ ?_
     refine run_ret ?_
     try simp only [Then, InBlock, NoGoto]
     refine acell2 (h := ?_)
     exact gcr
  try exact nope c14
  all_goals have c14p := c14
  all_goals try simp [F] at c14p
  all_goals
   replace F := And.intro c14 F
   try replace F := And.intro c14p F
   have hlt : ¬ x < y := by simpa using c14p
   have h0 : subN x y = x - y := by unfold subN; omega
   replace F := And.intro h0 (And.intro hlt F)
   refine run_skip ?_
   refine hK5 _ _ ?_
   refine sq fun K10 hK10 => ?_
   refine rg' (h := fun J11 hJ11 => ?_)
   refine hJ11 _ _ ?_
   refine hK10 _ _ ?_
   refine run_ret ?_
   try simp only [Then, InBlock, NoGoto]
   refine acell2 (h := ?_)
   exact gcr

set_option maxHeartbeats 1600000 in
attribute [local simp] undefA List.getElem?_cons_zero List.getElem?_cons_succ in
theorem nRest_ok {σ : St} {x y : Nat} (hx : x < 2 ^ 256) (hy : y < 2 ^ 256) :
    CallsA Try.prog 125 [.agg (numA x), .agg (numA y)] σ (fun av σ' => av = .agg (numA (x - y)) ∧ σ = σ') := by
  refine callsA_gcS ?_ (by simp [AV.under, underL, numA])
  have F := True.intro
  refine callsA_body Try.func125 rfl rfl rfl ?_
  refine sq fun K1 hK1 => ?_
  refine rg' (h := fun J2 hJ2 => ?_)
  refine hJ2 _ _ ?_
  refine hK1 _ _ ?_
  refine sq fun K3 hK3 => ?_
  refine rg' (h := fun J4 hJ4 => ?_)
  refine ca (c := nSub_ok hx hy) (k := ?_)
  rintro _ _ ⟨rfl, rfl⟩
  repeat (first | simp [F] | simp (disch := omega) only [wC, if_pos, if_neg])
  refine hJ4 _ _ ?_
  refine hK3 _ _ ?_
  refine sq fun K5 hK5 => ?_
  refine rg' (h := fun J6 hJ6 => ?_)
  refine hJ6 _ _ ?_
  refine hK5 _ _ ?_
  refine run_ret ?_
  try simp only [Then, InBlock, NoGoto]
  refine acell (h := ?_)
  exact gcr

set_option maxHeartbeats 1600000 in
attribute [local simp] undefA List.getElem?_cons_zero List.getElem?_cons_succ in
theorem nOf_ok {σ : St} {n : Nat} (hn : n < 2 ^ 64) : CallsA Try.prog 67 [.v (.int .u64 n)] σ (fun av σ' => av = .agg (numA n) ∧ σ = σ') := by
  refine callsA_gcS ?_ (by simp [AV.under, underL, numA])
  have F := True.intro
  refine callsA_body Try.func67 rfl rfl rfl ?_
  refine sq fun K1 hK1 => ?_
  refine rg' (h := fun J2 hJ2 => ?_)
  refine hJ2 _ _ ?_
  refine hK1 _ _ ?_
  refine sq fun K3 hK3 => ?_
  have h0 := numA_small hn
  replace F := And.intro h0 F
  refine rg' (h := fun J4 hJ4 => ?_)
  refine hJ4 _ _ ?_
  refine hK3 _ _ ?_
  refine run_ret ?_
  try simp only [Then, InBlock, NoGoto]
  refine acell (h := ?_)
  exact gcr

end Go.Proofs.Ytdbaddholggkbaa
