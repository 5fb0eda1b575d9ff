import Derived.Test.YtkbhdlocdajhmaaN1
/-
  Of no writer, and of no reader.
-/
namespace Go.Proofs.Ytkbhdlocdajhmaa
open Go Go.Vm
set_option linter.unnecessarySimpa false
set_option linter.unusedSimpArgs false
set_option linter.unusedVariables false

attribute [local simp] evalL wantedA isCall opA evalA evalAll evalsA evalOpt ofValue ofCell plain binA_eql_pn binA_neq_pn binA_gtr binA_lss binA_geq binA_leq binA_add binA_sub binA_eql binA_neq binA_or binA_shl binA_shr binA_mul binA_quo binA_rem convA_int unA_not fieldAddrA loadA partA pickA_true pickA_false pickA_bb lenA builtinA storeA splice AV.cells AV.isCell sliceA boundA intA callOf indexAddrA newObjA buildA fillA zeroA ofCells buildSliceA

theorem ntake1 {σ : St} {n : Nat} : CallsA Try.prog 54 [.v (.pointer none), .v (.int .i64 n)] σ (fun av σ' => av = .sl 1 (bytesA []) 0 .shut ∧ σ = σ') :=
  callsA_mono (callsA_weaker (callsA_mono ntake (fun _ _ h => ⟨h.1, h.2.symm⟩)) (Wk.nil 0 1 .full) (WkS.refl σ) (Q := fun av σ' => av = .sl 1 (bytesA []) 0 .shut ∧ σ' = σ) ⟨rfl, rfl⟩) (fun _ _ h => ⟨h.1, h.2.symm⟩)

theorem nnum_raw {σ : St} : CallsA Try.prog 34 [.v (.pointer none)] σ (fun av σ' => av = .agg (numA 0) ∧ σ' = { σ with objs := σ.objs ++ [numA 0, numA 0] }) := by
  have hw : IntKind.i64.wrap 0 = 0 := rfl
  have e1 : numOf [] = 0 := rfl
  have e2 : numOk [] = true := rfl
  refine callsA_body Try.func34 rfl rfl rfl ?_
  refine run_seq_k fun K1 hK1 => ?_
  refine run_region_k rfl fun J2 hJ2 => ?_
  try simp [hw, e1, e2, numA_zero]
  refine hJ2 _ _ ?_
  refine hK1 _ _ ?_
  refine run_seq_k fun K3 hK3 => ?_
  refine run_region_k rfl fun J4 hJ4 => ?_
  try simp [hw, e1, e2, numA_zero]
  refine runL_call' (b := true) (by first | rfl | (simp [hw, e1, e2, numA_zero, wantedA]; done)) rfl rfl (by first | rfl | (simp [hw, e1, e2, numA_zero, callOf]; done)) (by simp) (nbyte) ?_
  rintro _ _ ⟨rfl, rfl⟩
  try simp [hw, e1, e2, numA_zero]
  refine runL_call' (b := true) (by first | rfl | (simp [hw, e1, e2, numA_zero, wantedA]; done)) rfl rfl (by first | rfl | (simp [hw, e1, e2, numA_zero, callOf]; done)) (by simp) (ntake1 (n := 0)) ?_
  rintro _ _ ⟨rfl, rfl⟩
  try simp [hw, e1, e2, numA_zero]
  refine runL_call' (b := true) (by first | rfl | (simp [hw, e1, e2, numA_zero, wantedA]; done)) rfl rfl (by first | rfl | (simp [hw, e1, e2, numA_zero, callOf]; done)) (by simp) (read_num (p := [])) ?_
  rintro _ _ ⟨rfl, rfl⟩
  try simp [hw, e1, e2, numA_zero]
  refine hJ4 _ _ ?_
  refine hK3 _ _ ?_
  refine run_seq_k fun K5 hK5 => ?_
  refine run_seq_k fun K6 hK6 => ?_
  refine run_region_k rfl fun J7 hJ7 => ?_
  try simp [hw, e1, e2, numA_zero]
  refine hJ7 _ _ ?_
  refine hK6 _ _ ?_
  refine run_cond_false (by first | rfl | (simp [hw, e1, e2, numA_zero, evalA]; done)) ?_
  refine run_skip ?_
  refine hK5 _ _ ?_
  refine run_seq_k fun K8 hK8 => ?_
  refine run_region_k rfl fun J9 hJ9 => ?_
  try simp [hw, e1, e2, numA_zero]
  refine hJ9 _ _ ?_
  refine hK8 _ _ ?_
  refine run_ret ?_
  try simp only [Then, InBlock, NoGoto]
  refine answer_cell rfl (.inr rfl) ?_
  simp [hw, e1, e2, numA_zero]

theorem nnum {σ : St} : CallsA Try.prog 34 [.v (.pointer none)] σ (fun av σ' => av = .agg (numA 0) ∧ σ = σ') := callsA_gc_new nnum_raw rfl

theorem nnumberW {σ : St} {n : Int} {size : Nat} (hs : size ≤ 8) : CallsA Try.prog 51 [.v (.pointer none), .v (.int .u64 n), .v (.int .i64 size)] σ (fun av σ' => av = .v (.pointer none) ∧ σ = σ') := by
  have hw : IntKind.i64.wrap ((size : Int) - 1) = (size : Int) - 1 := wrap_i64 _ (by omega) (by omega)
  refine callsA_body Try.func51 rfl rfl rfl ?_
  refine run_seq_k fun K1 hK1 => ?_
  refine run_region_k rfl fun J2 hJ2 => ?_
  try simp [hw]
  refine hJ2 _ _ ?_
  refine hK1 _ _ ?_
  refine run_seq_k fun K3 hK3 => ?_
  refine run_seq_k fun K4 hK4 => ?_
  refine run_region_k rfl fun J5 hJ5 => ?_
  try simp [hw]
  refine hJ5 _ _ ?_
  refine hK4 _ _ ?_
  refine run_block_k ?_
  refine run_loop (X := Nat) (fun k ρ σ1 => k ≤ 8 ∧ ρ 0 = .v (.pointer none) ∧ ρ 1 = .v (.int .u64 n) ∧ ρ 7 = .v (.int .i64 ((k : Int) - 1)) ∧ σ1 = σ) (fun k => k) (size) ?start ?round
  case start =>
    simp [hs]
  case round =>
    rintro k ρ σ1 ⟨hk, h0, h1, h7, rfl⟩
    refine run_seq_k fun K6 hK6 => ?_
    refine run_seq_k fun K7 hK7 => ?_
    refine run_region_k rfl fun J8 hJ8 => ?_
    try simp [hw, h0, h1, h7]
    refine hJ8 _ _ ?_
    refine hK7 _ _ ?_
    refine run_cond_split rfl (fun c11 => ?_) (fun c11 => ?_)
    · try (exfalso; revert c11; simp [hw, h0, h1, h7]; done)
      all_goals
        (try simp [hw, h0, h1, h7] at c11)
        all_goals
          refine run_skip ?_
          refine hK6 _ _ ?_
          refine run_seq_k fun K10 hK10 => ?_
          refine run_block_k ?_
          obtain ⟨i, hik⟩ : ∃ i, k = i + 1 := ⟨k - 1, by omega⟩
          have hki : (k : Int) - 1 = (i : Int) := by omega
          have hm8 : IntKind.i64.wrap (8 * (i : Int)) = 8 * (i : Int) := wrap_i64 _ (by omega) (by omega)
          have hnn : ¬ 8 * (i : Int) < 0 := by omega
          have hwi : IntKind.i64.wrap ((i : Int) - 1) = (i : Int) - 1 := wrap_i64 _ (by omega) (by omega)
          refine run_region_k rfl fun J11 hJ11 => ?_
          try simp [hw, h0, h1, h7, c11, hki, hm8, hnn, hwi]
          refine runL_call' (b := true) (by first | rfl | (simp [hw, h0, h1, h7, c11, hki, hm8, hnn, hwi, wantedA]; done)) rfl rfl (by first | rfl | (simp [hw, h0, h1, h7, c11, hki, hm8, hnn, hwi, callOf]; done)) (by simp) (nlay) ?_
          rintro _ _ ⟨rfl, rfl⟩
          try simp [hw, h0, h1, h7, c11, hki, hm8, hnn, hwi]
          refine hJ11 _ _ ?_
          refine hK10 _ _ ?_
          refine run_region_k rfl fun J12 hJ12 => ?_
          try simp [hw, h0, h1, h7, c11, hki, hm8, hnn, hwi]
          refine hJ12 _ _ ?_
          exact ⟨i, ⟨by omega, by simp, by simp [h1], by simp, rfl⟩, by omega⟩
    · try (exfalso; revert c11; simp [hw, h0, h1, h7]; done)
      all_goals
        (try simp [hw, h0, h1, h7] at c11)
        all_goals
          refine run_exit ?_
          refine hK3 _ _ ?_
          refine run_seq_k fun K13 hK13 => ?_
          refine run_region_k rfl fun J14 hJ14 => ?_
          try simp [hw, h0, h1, h7, c11]
          refine hJ14 _ _ ?_
          refine hK13 _ _ ?_
          refine run_ret ?_
          try simp only [Then, InBlock, NoGoto]
          refine answer_tmp rfl (.inr rfl) ?_
          simp [hw, h0, h1, h7, c11]

theorem nshortW {σ : St} : CallsA Try.prog 28 [.v (.pointer none), .v (.int .u16 1)] σ (fun av σ' => av = .v (.pointer none) ∧ σ = σ') := by
  refine callsA_body Try.func28 rfl rfl rfl ?_
  refine run_seq_k fun K1 hK1 => ?_
  refine run_region_k rfl fun J2 hJ2 => ?_
  try simp
  refine hJ2 _ _ ?_
  refine hK1 _ _ ?_
  refine run_seq_k fun K3 hK3 => ?_
  refine run_region_k rfl fun J4 hJ4 => ?_
  try simp
  refine runL_call' (b := true) (by first | rfl | (simp [wantedA]; done)) rfl rfl (by first | rfl | (simp [callOf]; done)) (by simp) (nnumberW (size := 2) (by omega)) ?_
  rintro _ _ ⟨rfl, rfl⟩
  try simp
  refine hJ4 _ _ ?_
  refine hK3 _ _ ?_
  refine run_ret ?_
  try simp only [Then, InBlock, NoGoto]
  refine answer_tmp rfl (.inr rfl) ?_
  simp

theorem nlongW {σ : St} : CallsA Try.prog 29 [.v (.pointer none), .v (.int .u64 2)] σ (fun av σ' => av = .v (.pointer none) ∧ σ = σ') := by
  refine callsA_body Try.func29 rfl rfl rfl ?_
  refine run_seq_k fun K1 hK1 => ?_
  refine run_region_k rfl fun J2 hJ2 => ?_
  try simp
  refine hJ2 _ _ ?_
  refine hK1 _ _ ?_
  refine run_seq_k fun K3 hK3 => ?_
  refine run_region_k rfl fun J4 hJ4 => ?_
  try simp
  refine runL_call' (b := true) (by first | rfl | (simp [wantedA]; done)) rfl rfl (by first | rfl | (simp [callOf]; done)) (by simp) (nnumberW (size := 8) (by omega)) ?_
  rintro _ _ ⟨rfl, rfl⟩
  try simp
  refine hJ4 _ _ ?_
  refine hK3 _ _ ?_
  refine run_ret ?_
  try simp only [Then, InBlock, NoGoto]
  refine answer_tmp rfl (.inr rfl) ?_
  simp

theorem nnumW {σ : St} {x : Nat} (hx : x < 2 ^ 256) : CallsA Try.prog 30 [.v (.pointer none), .agg (numA x)] σ (fun av σ' => av = .v (.pointer none) ∧ σ = σ') := by
  refine callsA_gc_new (l := [numA x]) ?_ rfl
  refine callsA_body Try.func30 rfl rfl rfl ?_
  refine run_seq_k fun K1 hK1 => ?_
  refine run_region_k rfl fun J2 hJ2 => ?_
  try simp
  refine hJ2 _ _ ?_
  refine hK1 _ _ ?_
  refine run_seq_k fun K3 hK3 => ?_
  refine run_region_k rfl fun J4 hJ4 => ?_
  try simp
  refine runL_call' (b := true) (by first | rfl | (simp [wantedA]; done)) rfl rfl (by first | rfl | (simp [callOf]; done)) (by simp) (bytes_ok hx) ?_
  rintro _ _ ⟨rfl, rfl⟩
  try simp
  refine hJ4 _ _ ?_
  refine hK3 _ _ ?_
  refine run_seq_k fun K5 hK5 => ?_
  refine run_region_k rfl fun J6 hJ6 => ?_
  try simp
  refine runL_call' (b := true) (by first | rfl | (simp [wantedA]; done)) rfl rfl (by first | rfl | (simp [callOf]; done)) (by simp) (nlay) ?_
  rintro _ _ ⟨rfl, rfl⟩
  try simp
  refine runL_call' (b := true) (by first | rfl | (simp [wantedA]; done)) rfl rfl (by first | rfl | (simp [callOf]; done)) (by simp) (nlay) ?_
  rintro _ _ ⟨rfl, rfl⟩
  try simp
  refine hJ6 _ _ ?_
  refine hK5 _ _ ?_
  refine run_ret ?_
  try simp only [Then, InBlock, NoGoto]
  refine answer_tmp rfl (.inr rfl) ?_
  simp

theorem ncoinsW {σ : St} : CallsA Try.prog 20 [.v (.pointer none), .sl 0 [] 0 .full] σ (fun av σ' => av = .v (.pointer none) ∧ σ = σ') := by
  refine callsA_body Try.func20 rfl rfl rfl ?_
  refine run_seq_k fun K1 hK1 => ?_
  refine run_region_k rfl fun J2 hJ2 => ?_
  try simp
  refine hJ2 _ _ ?_
  refine hK1 _ _ ?_
  refine run_seq_k fun K3 hK3 => ?_
  refine run_region_k rfl fun J4 hJ4 => ?_
  try simp
  refine runL_call' (b := true) (by first | rfl | (simp [wantedA]; done)) rfl rfl (by first | rfl | (simp [callOf]; done)) (by simp) (nlay) ?_
  rintro _ _ ⟨rfl, rfl⟩
  try simp
  refine hJ4 _ _ ?_
  refine hK3 _ _ ?_
  refine run_seq_k fun K5 hK5 => ?_
  refine run_seq_k fun K6 hK6 => ?_
  refine run_region_k rfl fun J7 hJ7 => ?_
  try simp
  refine hJ7 _ _ ?_
  refine hK6 _ _ ?_
  refine run_block_k ?_
  refine run_loop (X := Unit) (fun _ ρ σ1 => ρ 0 = .v (.pointer none) ∧ ρ 14 = .v (.int .i64 0) ∧ ρ 15 = .v (.int .i64 0) ∧ σ1 = σ) (fun _ => 0) (()) ?start ?round
  case start =>
    simp
  case round =>
    rintro _ ρ σ1 ⟨h0, h14, h15, rfl⟩
    refine run_seq_k fun K8 hK8 => ?_
    refine run_region_k rfl fun J9 hJ9 => ?_
    try simp [h0, h14, h15]
    refine hJ9 _ _ ?_
    refine hK8 _ _ ?_
    refine run_seq_k fun K10 hK10 => ?_
    refine run_cond_false (by first | rfl | (simp [h0, h14, h15, evalA]; done)) ?_
    refine run_exit ?_
    refine hK5 _ _ ?_
    refine run_seq_k fun K11 hK11 => ?_
    refine run_region_k rfl fun J12 hJ12 => ?_
    try simp [h0, h14, h15]
    refine hJ12 _ _ ?_
    refine hK11 _ _ ?_
    refine run_ret ?_
    try simp only [Then, InBlock, NoGoto]
    refine answer_tmp rfl (.inr rfl) ?_
    simp [h0, h14, h15]

end Go.Proofs.Ytkbhdlocdajhmaa
