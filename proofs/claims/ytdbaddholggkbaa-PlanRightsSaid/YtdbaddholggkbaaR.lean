import Derived.Test.YtdbaddholggkbaaC1
import Derived.Test.YtdbaddholggkbaaB
/-
  Numbers' bytes, read.
-/
namespace Go.Proofs.Ytdbaddholggkbaa
set_option linter.unnecessarySimpa false
set_option maxRecDepth 100000
open Go Go.Vm
set_option linter.unusedSimpArgs false
set_option linter.unusedVariables false

attribute [local simp] evalL wantedA isCall opA evalA evalAll evalsA evalOpt ofValue ofCell plain binA_eql_pn binA_neq_pn binA_gtr binA_lss binA_geq binA_leq binA_add binA_sub binA_eql binA_neq binA_or binA_shl binA_mul binA_quo binA_rem convA_int unA_not fieldAddrA loadA partA pickA lenA builtinA storeA splice AV.cells AV.isCell sliceA boundA intA callOf indexAddrA newObjA buildA fillA zeroA ofCells

theorem backward_raw {σ : St} {sz m : Nat} {cs : List AV} {t : Tail} :
    CallsA Try.prog 151 [.sl sz cs m t] σ (fun av σ' => av = .fn 154 [.ptr σ.objs.length 0] ∧ σ' = { σ with objs := σ.objs ++ [[.sl sz cs m t]] }) := by
  refine callsA_body Try.func151 rfl rfl rfl ?_
  refine run_seq_k fun K1 hK1 => ?_
  refine run_region_k rfl fun J2 hJ2 => ?_
  try simp
  refine hJ2 _ _ ?_
  refine hK1 _ _ ?_
  refine run_seq_k fun K3 hK3 => ?_
  refine run_region_k rfl fun J4 hJ4 => ?_
  try simp
  refine hJ4 _ _ ?_
  refine hK3 _ _ ?_
  refine run_ret ?_
  try simp only [Then, InBlock, NoGoto]
  refine answer_tmp rfl (.inr rfl) ?_
  simp

theorem backward_ok {σ : St} {sz m : Nat} {cs : List AV} {t : Tail} :
    CallsA Try.prog 151 [.sl sz cs m t] σ (fun av σ' => av = .fn 154 [.ep [.sl sz cs m t]] ∧ σ = σ') :=
  callsA_freeze backward_raw (by simp) rfl

/-- What bytes are as a number: the number, and whether they may be so. -/
def numOk (p : List UInt8) : Bool := decide (p.length ≤ 32) && (p.headD 1 != 0)
def numOf (p : List UInt8) : Nat := if numOk p then be p else 0

theorem read_long {σ : St} {p : List UInt8} (h : 32 < p.length) :
    CallsA Try.prog 147 [.sl 1 (bytesA p) p.length .shut] σ (fun av σ' => av = .tup [.agg (numA 0), .v (.int .i64 4)] ∧ σ' = { σ with objs := σ.objs ++ [[.sl 1 (bytesA p) p.length .shut], numA 0] }) := by
  have h' : ¬ (p.length : Int) ≤ 32 := by omega
  have h2 : (32 : Int) < p.length := by omega
  refine callsA_body Try.func147 rfl rfl rfl ?_
  refine run_seq_k fun K1 hK1 => ?_
  refine run_region_k rfl fun J2 hJ2 => ?_
  try simp [h', h2]
  refine hJ2 _ _ ?_
  refine hK1 _ _ ?_
  refine run_seq_k fun K3 hK3 => ?_
  refine run_seq_k fun K4 hK4 => ?_
  refine run_region_k rfl fun J5 hJ5 => ?_
  try simp [h', h2]
  refine runL_no (by first | rfl | (simp [h', h2, wantedA]; done)) rfl ?_
  try simp [h', h2]
  refine runL_no (by first | rfl | (simp [h', h2, wantedA]; done)) rfl ?_
  try simp [h', h2]
  refine runL_no (by first | rfl | (simp [h', h2, wantedA]; done)) rfl ?_
  try simp [h', h2]
  refine runL_no (by first | rfl | (simp [h', h2, wantedA]; done)) rfl ?_
  try simp [h', h2]
  refine runL_no (by first | rfl | (simp [h', h2, wantedA]; done)) rfl ?_
  try simp [h', h2]
  refine runL_no (by first | rfl | (simp [h', h2, wantedA]; done)) rfl ?_
  try simp [h', h2]
  refine runL_no (by first | rfl | (simp [h', h2, wantedA]; done)) rfl ?_
  try simp [h', h2]
  refine runL_no (by first | rfl | (simp [h', h2, wantedA]; done)) rfl ?_
  try simp [h', h2]
  refine runL_no (by first | rfl | (simp [h', h2, wantedA]; done)) rfl ?_
  try simp [h', h2]
  refine hJ5 _ _ ?_
  refine hK4 _ _ ?_
  refine run_cond_true (by first | rfl | (simp [h', h2, evalA]; done)) ?_
  refine run_seq_k fun K6 hK6 => ?_
  refine run_region_k rfl fun J7 hJ7 => ?_
  try simp [h', h2]
  refine hJ7 _ _ ?_
  refine hK6 _ _ ?_
  refine run_ret ?_
  try simp only [Then, InBlock, NoGoto]
  refine answer_cell_tmp rfl (.inr rfl) ?_
  simp [numA_zero]

theorem read_zero {σ : St} {p : List UInt8} (h : p.length ≤ 32) (hp : 0 < p.length) (h0 : p[0] = 0) :
    CallsA Try.prog 147 [.sl 1 (bytesA p) p.length .shut] σ (fun av σ' => av = .tup [.agg (numA 0), .v (.int .i64 4)] ∧ σ' = { σ with objs := σ.objs ++ [[.sl 1 (bytesA p) p.length .shut], numA 0] }) := by
  have h1 : (p.length : Int) ≤ 32 := by omega
  have h2 : ¬ (32 : Int) < p.length := by omega
  have h3 : (0 : Int) < p.length := by omega
  have h4 : p ≠ [] := by intro e; simp [e] at hp
  refine callsA_body Try.func147 rfl rfl rfl ?_
  refine run_seq_k fun K1 hK1 => ?_
  refine run_region_k rfl fun J2 hJ2 => ?_
  try simp [h1, h2, h3, h0, hp, h4]
  refine hJ2 _ _ ?_
  refine hK1 _ _ ?_
  refine run_seq_k fun K3 hK3 => ?_
  refine run_seq_k fun K4 hK4 => ?_
  refine run_region_k rfl fun J5 hJ5 => ?_
  try simp [h1, h2, h3, h0, hp, h4]
  refine runL_go (by first | rfl | (simp [h1, h2, h3, h0, hp, h4, wantedA]; done)) rfl ?_
  try simp [h1, h2, h3, h0, hp, h4]
  refine runL_go (by first | rfl | (simp [h1, h2, h3, h0, hp, h4, wantedA]; done)) rfl ?_
  try simp [h1, h2, h3, h0, hp, h4]
  refine runL_go (by first | rfl | (simp [h1, h2, h3, h0, hp, h4, wantedA]; done)) rfl ?_
  try simp [h1, h2, h3, h0, hp, h4]
  refine runL_go (by first | rfl | (simp [h1, h2, h3, h0, hp, h4, wantedA]; done)) rfl ?_
  try simp [h1, h2, h3, h0, hp, h4]
  refine runL_go (by first | rfl | (simp [h1, h2, h3, h0, hp, h4, wantedA]; done)) rfl ?_
  try simp [h1, h2, h3, h0, hp, h4]
  refine runL_go (by first | rfl | (simp [h1, h2, h3, h0, hp, h4, wantedA]; done)) rfl ?_
  try simp [h1, h2, h3, h0, hp, h4]
  refine runL_go (by first | rfl | (simp [h1, h2, h3, h0, hp, h4, wantedA]; done)) rfl ?_
  try simp [h1, h2, h3, h0, hp, h4]
  refine runL_go (by first | rfl | (simp [h1, h2, h3, h0, hp, h4, wantedA]; done)) rfl ?_
  try simp [h1, h2, h3, h0, hp, h4]
  refine runL_go (by first | rfl | (simp [h1, h2, h3, h0, hp, h4, wantedA]; done)) rfl ?_
  try simp [h1, h2, h3, h0, hp, h4]
  refine hJ5 _ _ ?_
  refine hK4 _ _ ?_
  refine run_cond_true (by first | rfl | (simp [h1, h2, h3, h0, hp, h4, evalA]; done)) ?_
  refine run_seq_k fun K6 hK6 => ?_
  refine run_region_k rfl fun J7 hJ7 => ?_
  try simp [h1, h2, h3, h0, hp, h4]
  refine hJ7 _ _ ?_
  refine hK6 _ _ ?_
  refine run_ret ?_
  try simp only [Then, InBlock, NoGoto]
  refine answer_cell_tmp rfl (.inr rfl) ?_
  simp [numA_zero]

theorem read_nil {σ : St} :
    CallsA Try.prog 147 [.sl 1 [] 0 .shut] σ (fun av σ' => av = .tup [.agg (numA 0), .v (.int .i64 0)] ∧ σ' = { σ with objs := σ.objs ++ [[.sl 1 [] 0 .shut], numA 0, numA 0] }) := by
  refine callsA_body Try.func147 rfl rfl rfl ?_
  refine run_seq_k fun K1 hK1 => ?_
  refine run_region_k rfl fun J2 hJ2 => ?_
  try simp
  refine hJ2 _ _ ?_
  refine hK1 _ _ ?_
  refine run_seq_k fun K3 hK3 => ?_
  refine run_seq_k fun K4 hK4 => ?_
  refine run_region_k rfl fun J5 hJ5 => ?_
  try simp
  refine runL_go (by first | rfl | (simp [wantedA]; done)) rfl ?_
  try simp
  refine runL_go (by first | rfl | (simp [wantedA]; done)) rfl ?_
  try simp
  refine runL_go (by first | rfl | (simp [wantedA]; done)) rfl ?_
  try simp
  refine runL_go (by first | rfl | (simp [wantedA]; done)) rfl ?_
  try simp
  refine runL_no (by first | rfl | (simp [wantedA]; done)) rfl ?_
  try simp
  refine runL_no (by first | rfl | (simp [wantedA]; done)) rfl ?_
  try simp
  refine runL_no (by first | rfl | (simp [wantedA]; done)) rfl ?_
  try simp
  refine runL_no (by first | rfl | (simp [wantedA]; done)) rfl ?_
  try simp
  refine runL_go (by first | rfl | (simp [wantedA]; done)) rfl ?_
  try simp
  refine hJ5 _ _ ?_
  refine hK4 _ _ ?_
  refine run_cond_false (by first | rfl | (simp [evalA]; done)) ?_
  refine run_skip ?_
  refine hK3 _ _ ?_
  refine run_seq_k fun K6 hK6 => ?_
  refine run_region_k rfl fun J7 hJ7 => ?_
  try simp
  refine hJ7 _ _ ?_
  refine hK6 _ _ ?_
  refine run_seq_k fun K8 hK8 => ?_
  refine run_seq_k fun K9 hK9 => ?_
  refine run_region_k rfl fun J10 hJ10 => ?_
  try simp
  refine runL_call' (b := true) (by first | rfl | (simp [wantedA]; done)) rfl rfl (by first | rfl | (simp [callOf]; done)) (by simp) (backward_ok) ?_
  rintro _ _ ⟨rfl, rfl⟩
  try simp
  refine hJ10 _ _ ?_
  refine hK9 _ _ ?_
  refine run_block_k ?_
  refine run_backward backs62 ?rm1 (by first | rfl | (simp; done)) rfl rfl rfl rfl rfl rfl rfl rfl (by first | rfl | (simp; done)) (fun pre σ1 => σ1 = { σ with objs := σ.objs ++ [[.sl 1 [] 0 .shut], numA 0, numA 0] }) (fun _ _ _ => False) ?rs1 ?rr1 ?rd1 ?rx1
  case rm1 =>
    show _ < _
    omega
  case rs1 =>
    simp [numA_zero]
  case rr1 =>
    exact fun _ _ _ _ _ hi => absurd hi (Nat.not_lt_zero _)
  case rd1 =>
    rintro σ1 rfl
    refine hK8 _ _ ?_
    refine run_seq_k fun K11 hK11 => ?_
    refine run_region_k rfl fun J12 hJ12 => ?_
    try simp
    refine hJ12 _ _ ?_
    refine hK11 _ _ ?_
    refine run_ret ?_
    try simp only [Then, InBlock, NoGoto]
    refine answer_cell_tmp rfl (.inr rfl) ?_
    simp [numA]
  case rx1 =>
    exact fun _ _ _ _ h => h.elim

theorem read_ok {σ : St} {p : List UInt8} (h : p.length ≤ 32) (hp : 0 < p.length) (h0 : ¬ p[0] = 0) :
    CallsA Try.prog 147 [.sl 1 (bytesA p) p.length .shut] σ (fun av σ' => av = .tup [.agg (numA (be p)), .v (.int .i64 0)] ∧ σ' = { σ with objs := σ.objs ++ [[.sl 1 (bytesA p) p.length .shut], numA (be p), numA (be p)] }) := by
  have h1 : (p.length : Int) ≤ 32 := by omega
  have h2 : ¬ (32 : Int) < p.length := by omega
  have h3 : (0 : Int) < p.length := by omega
  have h5 : p ≠ [] := by intro e; simp [e] at hp
  have h6 : ¬ p[0].toNat = 0 := fun e => h0 (UInt8.toNat_inj.1 (by simpa using e))
  have h4 := orAll_all p
  refine callsA_body Try.func147 rfl rfl rfl ?_
  refine run_seq_k fun K1 hK1 => ?_
  refine run_region_k rfl fun J2 hJ2 => ?_
  try simp [h1, h2, h3, hp, h5, h6]
  refine hJ2 _ _ ?_
  refine hK1 _ _ ?_
  refine run_seq_k fun K3 hK3 => ?_
  refine run_seq_k fun K4 hK4 => ?_
  refine run_region_k rfl fun J5 hJ5 => ?_
  try simp [h1, h2, h3, hp, h5, h6]
  refine runL_go (by first | rfl | (simp [h1, h2, h3, hp, h5, h6, wantedA]; done)) rfl ?_
  try simp [h1, h2, h3, hp, h5, h6]
  refine runL_go (by first | rfl | (simp [h1, h2, h3, hp, h5, h6, wantedA]; done)) rfl ?_
  try simp [h1, h2, h3, hp, h5, h6]
  refine runL_go (by first | rfl | (simp [h1, h2, h3, hp, h5, h6, wantedA]; done)) rfl ?_
  try simp [h1, h2, h3, hp, h5, h6]
  refine runL_go (by first | rfl | (simp [h1, h2, h3, hp, h5, h6, wantedA]; done)) rfl ?_
  try simp [h1, h2, h3, hp, h5, h6]
  refine runL_go (by first | rfl | (simp [h1, h2, h3, hp, h5, h6, wantedA]; done)) rfl ?_
  try simp [h1, h2, h3, hp, h5, h6]
  refine runL_go (by first | rfl | (simp [h1, h2, h3, hp, h5, h6, wantedA]; done)) rfl ?_
  try simp [h1, h2, h3, hp, h5, h6]
  refine runL_go (by first | rfl | (simp [h1, h2, h3, hp, h5, h6, wantedA]; done)) rfl ?_
  try simp [h1, h2, h3, hp, h5, h6]
  refine runL_go (by first | rfl | (simp [h1, h2, h3, hp, h5, h6, wantedA]; done)) rfl ?_
  try simp [h1, h2, h3, hp, h5, h6]
  refine runL_go (by first | rfl | (simp [h1, h2, h3, hp, h5, h6, wantedA]; done)) rfl ?_
  try simp [h1, h2, h3, hp, h5, h6]
  refine hJ5 _ _ ?_
  refine hK4 _ _ ?_
  refine run_cond_false (by first | rfl | (simp [h1, h2, h3, hp, h5, h6, evalA]; done)) ?_
  refine run_skip ?_
  refine hK3 _ _ ?_
  refine run_seq_k fun K6 hK6 => ?_
  refine run_region_k rfl fun J7 hJ7 => ?_
  try simp [h1, h2, h3, hp, h5, h6]
  refine hJ7 _ _ ?_
  refine hK6 _ _ ?_
  refine run_seq_k fun K8 hK8 => ?_
  refine run_seq_k fun K9 hK9 => ?_
  refine run_region_k rfl fun J10 hJ10 => ?_
  try simp [h1, h2, h3, hp, h5, h6]
  refine runL_call' (b := true) (by first | rfl | (simp [h1, h2, h3, hp, h5, h6, wantedA]; done)) rfl rfl (by first | rfl | (simp [h1, h2, h3, hp, h5, h6, callOf]; done)) (by simp) (backward_ok) ?_
  rintro _ _ ⟨rfl, rfl⟩
  try simp [h1, h2, h3, hp, h5, h6]
  refine hJ10 _ _ ?_
  refine hK9 _ _ ?_
  refine run_block_k ?_
  refine run_backward backs62 ?rm1 (by first | rfl | (simp; done)) rfl rfl rfl rfl rfl rfl rfl rfl (by first | rfl | (simp [h1, h2, h3, hp, h5, h6]; done)) (fun pre σ1 => σ1 = { σ with objs := σ.objs ++ [[.sl 1 (bytesA p) p.length .shut], numA 0, numA (orAll p pre)] }) (fun _ _ _ => False) ?rs1 ?rr1 ?rd1 ?rx1
  case rm1 =>
    show _ < _
    omega
  case rs1 =>
    simp [orAll_nil, numA_zero]
  case rr1 =>
    rintro z pre i x σ1 hi hx rfl
    rw [bytesA_get hi] at hx
    cases hx
    obtain ⟨k, hk⟩ : ∃ k, k = p.length - 1 - i := ⟨_, rfl⟩
    have hk2 : k < 32 := by omega
    have hw : IntKind.i64.wrap (IntKind.i64.wrap ((p.length : Int) - 1) - i) = (k : Int) := by rw [wrap_i64 ((p.length : Int) - 1) (by omega) (by omega), wrap_i64 _ (by omega) (by omega)]; omega
    obtain ⟨q, hq⟩ : ∃ q, q = k / 8 := ⟨_, rfl⟩
    obtain ⟨r, hr⟩ : ∃ r, r = k % 8 := ⟨_, rfl⟩
    have hqr : 8 * q + r = k := by omega
    have hq4 : q < 4 := by omega
    have hr8 : r < 8 := by omega
    have hb := p[i].toNat_lt
    have hqq : IntKind.i64.wrap ((k : Int).tdiv 8) = (q : Int) := by rw [Int.tdiv_eq_ediv_of_nonneg (by omega), wrap_i64 _ (by omega) (by omega)]; omega
    have hrr : (k : Int).tmod 8 = (r : Int) := by rw [Int.tmod_eq_emod_of_nonneg (by omega)]; omega
    have hm8 : IntKind.i64.wrap (8 * (r : Int)) = 8 * (r : Int) := wrap_i64 _ (by omega) (by omega)
    have hq2 : IntKind.i64.wrap ((k : Int) / 8) = (q : Int) := by rw [wrap_i64 _ (by omega) (by omega)]; omega
    have hr2 : (k : Int) % 8 = (r : Int) := by omega
    have hnn : ¬ 8 * (r : Int) < 0 := by omega
    obtain ⟨s, hs⟩ : ∃ s, s = p[i].toNat <<< (8 * r) := ⟨_, rfl⟩
    have hs64 : s < 18446744073709551616 := by rw [hs]; exact shl_byte hb hr8
    have hsh : IntKind.u64.wrap ((p[i].toNat : Int) * 2 ^ (min (8 * (r : Int)).toNat 64)) = (s : Int) := by rw [show min (8 * (r : Int)).toNat 64 = 8 * r by omega]; rw [show ((p[i].toNat : Int) * 2 ^ (8 * r)) = ((p[i].toNat * 2 ^ (8 * r) : Nat) : Int) by simp, wrap_u64, ← Nat.shiftLeft_eq, ← hs, Nat.mod_eq_of_lt hs64]
    obtain ⟨t, ht⟩ : ∃ t, t = limb (orAll p pre) q ||| s := ⟨_, rfl⟩
    have hor := or_u64 (limb_lt (orAll p pre) q) hs64
    rw [← ht] at hor
    have hput := numA_put (x := orAll p pre) hb hq4 hr8 hqr
    rw [← hs, ← ht] at hput
    have hsn := orAll_snoc p pre i
    rw [← hk, show (p.getD i 0) = p[i] by simp [List.getD, hi]] at hsn
    have hget := numA_get (orAll p pre) hq4
    have hq5 : (q : Int) < 4 := by omega
    have hq6 : q + 1 ≤ 4 := hq4
    refine run_block_k ?_
    refine run_seq_k fun K11 hK11 => ?_
    refine run_region_k rfl fun J12 hJ12 => ?_
    try simp [h1, h2, h3, hp, h5, h6, hw, hqq, hrr, hq2, hr2, hm8, hnn, hsh, hor, hget, hq4, hq5, hq6]
    refine hJ12 _ _ ?_
    refine hK11 _ _ ?_
    refine run_draw (by kernel_rfl) fun J13 hJ13 => ?_
    refine runD_pure' 0 (by kernel_rfl) rfl rfl (by kernel_rfl) (by kernel_rfl) (by kernel_rfl) (by kernel_rfl) ?_
    try simp [h1, h2, h3, hp, h5, h6, hw, hqq, hrr, hq2, hr2, hm8, hnn, hsh, hor, hget, hq4, hq5, hq6]
    refine runD_pure' 1 (by kernel_rfl) rfl rfl (by kernel_rfl) (by kernel_rfl) (by kernel_rfl) (by kernel_rfl) ?_
    try simp [h1, h2, h3, hp, h5, h6, hw, hqq, hrr, hq2, hr2, hm8, hnn, hsh, hor, hget, hq4, hq5, hq6]
    refine runD_pure' 2 (by kernel_rfl) rfl rfl (by kernel_rfl) (by kernel_rfl) (by kernel_rfl) (by kernel_rfl) ?_
    try simp [h1, h2, h3, hp, h5, h6, hw, hqq, hrr, hq2, hr2, hm8, hnn, hsh, hor, hget, hq4, hq5, hq6]
    refine runD_pure' 3 (by kernel_rfl) rfl rfl (by kernel_rfl) (by kernel_rfl) (by kernel_rfl) (by kernel_rfl) ?_
    try simp [h1, h2, h3, hp, h5, h6, hw, hqq, hrr, hq2, hr2, hm8, hnn, hsh, hor, hget, hq4, hq5, hq6]
    refine runD_pure' 4 (by kernel_rfl) rfl rfl (by kernel_rfl) (by kernel_rfl) (by kernel_rfl) (by kernel_rfl) ?_
    try simp [h1, h2, h3, hp, h5, h6, hw, hqq, hrr, hq2, hr2, hm8, hnn, hsh, hor, hget, hq4, hq5, hq6]
    refine runD_pure' 5 (by kernel_rfl) rfl rfl (by kernel_rfl) (by kernel_rfl) (by kernel_rfl) (by kernel_rfl) ?_
    try simp [h1, h2, h3, hp, h5, h6, hw, hqq, hrr, hq2, hr2, hm8, hnn, hsh, hor, hget, hq4, hq5, hq6]
    refine runD_pure' 6 (by kernel_rfl) rfl rfl (by kernel_rfl) (by kernel_rfl) (by kernel_rfl) (by kernel_rfl) ?_
    try simp [h1, h2, h3, hp, h5, h6, hw, hqq, hrr, hq2, hr2, hm8, hnn, hsh, hor, hget, hq4, hq5, hq6]
    refine runD_pure' 7 (by kernel_rfl) rfl rfl (by kernel_rfl) (by kernel_rfl) (by kernel_rfl) (by kernel_rfl) ?_
    try simp [h1, h2, h3, hp, h5, h6, hw, hqq, hrr, hq2, hr2, hm8, hnn, hsh, hor, hget, hq4, hq5, hq6]
    refine runD_pure' 8 (by kernel_rfl) rfl rfl (by kernel_rfl) (by kernel_rfl) (by kernel_rfl) (by kernel_rfl) ?_
    try simp [h1, h2, h3, hp, h5, h6, hw, hqq, hrr, hq2, hr2, hm8, hnn, hsh, hor, hget, hq4, hq5, hq6]
    refine runD_pure' 9 (by kernel_rfl) rfl rfl (by kernel_rfl) (by kernel_rfl) (by kernel_rfl) (by kernel_rfl) ?_
    try simp [h1, h2, h3, hp, h5, h6, hw, hqq, hrr, hq2, hr2, hm8, hnn, hsh, hor, hget, hq4, hq5, hq6]
    refine runD_pure' 10 (by kernel_rfl) rfl rfl (by kernel_rfl) (by kernel_rfl) (by kernel_rfl) (by kernel_rfl) ?_
    try simp [h1, h2, h3, hp, h5, h6, hw, hqq, hrr, hq2, hr2, hm8, hnn, hsh, hor, hget, hq4, hq5, hq6]
    refine runD_pure' 11 (by kernel_rfl) rfl rfl (by kernel_rfl) (by kernel_rfl) (by kernel_rfl) (by kernel_rfl) ?_
    try simp [h1, h2, h3, hp, h5, h6, hw, hqq, hrr, hq2, hr2, hm8, hnn, hsh, hor, hget, hq4, hq5, hq6]
    refine runD_op' 12 (by kernel_rfl) (by kernel_rfl) (by kernel_rfl) rfl (by kernel_rfl) (by kernel_rfl) (by kernel_rfl) ?_
    try simp [h1, h2, h3, hp, h5, h6, hw, hqq, hrr, hq2, hr2, hm8, hnn, hsh, hor, hget, hq4, hq5, hq6]
    refine ⟨later_nil (by kernel_rfl), ?_⟩
    refine runD_done (by kernel_rfl) (by kernel_rfl) (by kernel_rfl) ?_
    refine hJ13 _ _ ?_
    show St.mk _ _ _ _ = _
    rw [hsn, ← hput]
    simp
    exact hor
  case rd1 =>
    rintro σ1 rfl
    rw [h4]
    refine hK8 _ _ ?_
    refine run_seq_k fun K14 hK14 => ?_
    refine run_region_k rfl fun J15 hJ15 => ?_
    try simp [h1, h2, h3, hp, h5, h6]
    refine hJ15 _ _ ?_
    refine hK14 _ _ ?_
    refine run_ret ?_
    try simp only [Then, InBlock, NoGoto]
    refine answer_cell_tmp rfl (.inr rfl) ?_
    simp [numA]
  case rx1 =>
    exact fun _ _ _ _ h => h.elim

theorem read_num {σ : St} {p : List UInt8} :
    CallsA Try.prog 147 [.sl 1 (bytesA p) p.length .shut] σ (fun av σ' => av = .tup [.agg (numA (numOf p)), .v (.int .i64 (if numOk p then 0 else 4))] ∧ σ = σ') := by
  by_cases h : p.length ≤ 32
  · cases p with
    | nil => exact callsA_gc_new read_nil rfl
    | cons b l =>
      by_cases hb : b = 0
      · have e : numOk (b :: l) = false := by simp [numOk, hb]
        simp only [numOf, e]
        exact callsA_gc_new (read_zero h (by simp) hb) rfl
      · have e : numOk (b :: l) = true := by simp [numOk, hb]; simpa using h
        simp only [numOf, e]
        exact callsA_gc_new (read_ok h (by simp) hb) rfl
  · have e : numOk p = false := by simp [numOk]; intro h2; omega
    simp only [numOf, e]
    exact callsA_gc_new (read_long (by omega)) rfl

end Go.Proofs.Ytdbaddholggkbaa
