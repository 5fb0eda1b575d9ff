import Derived.Test.YtkbhdlocdajhmaaC6
/-
  Of no writer, and of no reader.
-/
namespace Go.Proofs.Ytkbhdlocdajhmaa
open Go Go.Vm
set_option linter.unnecessarySimpa false
set_option linter.unusedSimpArgs false
set_option linter.unusedVariables false

attribute [local simp] evalL wantedA isCall opA evalA evalAll evalsA evalOpt ofValue ofCell plain binA_eql_pn binA_neq_pn binA_gtr binA_lss binA_geq binA_leq binA_add binA_sub binA_eql binA_neq binA_or binA_shl binA_shr binA_mul binA_quo binA_rem convA_int unA_not fieldAddrA loadA partA pickA_true pickA_false pickA_bb lenA builtinA storeA splice AV.cells AV.isCell sliceA boundA intA callOf indexAddrA newObjA buildA fillA zeroA ofCells buildSliceA

theorem eq_nn (P : Program) (t : TypeId) (ht : isPtrT P t = true) (x y : Operand) : ∀ r, pureRun P (do eqGuard .eql t x y (.pointer none) (.pointer none); binOp .eql t (.pointer none) (.pointer none)) = some r → True := fun _ _ => trivial

theorem nlay {σ : St} {q : AV} : CallsA Try.prog 36 [.v (.pointer none), q] σ (fun av σ' => av = .v (.pointer none) ∧ σ = σ') := by
  have hn : ∀ xo yo, binA Try.prog .neq 27 xo yo (.v (.pointer none)) (.v (.pointer none)) = some (.v (.bool false)) := by intro xo yo; kernel_rfl
  refine callsA_body Try.func36 rfl rfl rfl ?_
  refine run_seq_k fun K1 hK1 => ?_
  refine run_region_k rfl fun J2 hJ2 => ?_
  try simp [hn]
  refine hJ2 _ _ ?_
  refine hK1 _ _ ?_
  refine run_seq_k fun K3 hK3 => ?_
  refine run_seq_k fun K4 hK4 => ?_
  refine run_region_k rfl fun J5 hJ5 => ?_
  try simp [hn]
  refine hJ5 _ _ ?_
  refine hK4 _ _ ?_
  refine run_cond_false (by first | rfl | (simp [hn, evalA]; done)) ?_
  refine run_skip ?_
  refine hK3 _ _ ?_
  refine run_seq_k fun K6 hK6 => ?_
  refine run_region_k rfl fun J7 hJ7 => ?_
  try simp [hn]
  refine hJ7 _ _ ?_
  refine hK6 _ _ ?_
  refine run_ret ?_
  try simp only [Then, InBlock, NoGoto]
  refine answer_tmp rfl (.inr rfl) ?_
  simp [hn]

theorem nbad {σ : St} : CallsA Try.prog 19 [.v (.pointer none)] σ (fun av σ' => av = .v (.bool true) ∧ σ = σ') := by
  have hn : ∀ xo yo, binA Try.prog .eql 25 xo yo (.v (.pointer none)) (.v (.pointer none)) = some (.v (.bool true)) := by intro xo yo; kernel_rfl
  refine callsA_body Try.func19 rfl rfl rfl ?_
  refine run_seq_k fun K1 hK1 => ?_
  refine run_region_k rfl fun J2 hJ2 => ?_
  try simp [hn]
  refine hJ2 _ _ ?_
  refine hK1 _ _ ?_
  refine run_seq_k fun K3 hK3 => ?_
  refine run_region_k rfl fun J4 hJ4 => ?_
  try simp [hn]
  refine runL_no (by first | rfl | (simp [hn, wantedA]; done)) rfl ?_
  try simp [hn]
  refine runL_no (by first | rfl | (simp [hn, wantedA]; done)) rfl ?_
  try simp [hn]
  refine runL_no (by first | rfl | (simp [hn, wantedA]; done)) rfl ?_
  try simp [hn]
  refine runL_no (by first | rfl | (simp [hn, wantedA]; done)) rfl ?_
  try simp [hn]
  refine hJ4 _ _ ?_
  refine hK3 _ _ ?_
  refine run_ret ?_
  try simp only [Then, InBlock, NoGoto]
  refine answer_tmp rfl (.inr rfl) ?_
  simp [hn]

theorem nfail {σ : St} : CallsA Try.prog 24 [.v (.pointer none)] σ (fun av σ' => av = .tup [] ∧ σ = σ') := by
  have hn : ∀ xo yo, binA Try.prog .neq 25 xo yo (.v (.pointer none)) (.v (.pointer none)) = some (.v (.bool false)) := by intro xo yo; kernel_rfl
  refine callsA_body Try.func24 rfl rfl rfl ?_
  refine run_seq_k fun K1 hK1 => ?_
  refine run_region_k rfl fun J2 hJ2 => ?_
  try simp [hn]
  refine hJ2 _ _ ?_
  refine hK1 _ _ ?_
  refine run_cond_false (by first | rfl | (simp [hn, evalA]; done)) ?_
  refine run_skip ?_
  try simp only [Then, InBlock, NoGoto]
  refine answer_none rfl (.inl rfl) ?_
  simp [hn]

theorem nleft {σ : St} : CallsA Try.prog 21 [.v (.pointer none)] σ (fun av σ' => av = .v (.int .i64 0) ∧ σ = σ') := by
  refine callsA_body Try.func21 rfl rfl rfl ?_
  refine run_seq_k fun K1 hK1 => ?_
  refine run_region_k rfl fun J2 hJ2 => ?_
  try simp
  refine hJ2 _ _ ?_
  refine hK1 _ _ ?_
  refine run_seq_k fun K3 hK3 => ?_
  refine run_seq_k fun K4 hK4 => ?_
  refine run_region_k rfl fun J5 hJ5 => ?_
  try simp
  refine runL_call' (b := true) (by first | rfl | (simp [wantedA]; done)) rfl rfl (by first | rfl | (simp [callOf]; done)) (by simp) (nbad) ?_
  rintro _ _ ⟨rfl, rfl⟩
  try simp
  refine hJ5 _ _ ?_
  refine hK4 _ _ ?_
  refine run_cond_true (by first | rfl | (simp [evalA]; done)) ?_
  refine run_seq_k fun K6 hK6 => ?_
  refine run_region_k rfl fun J7 hJ7 => ?_
  try simp
  refine hJ7 _ _ ?_
  refine hK6 _ _ ?_
  refine run_ret ?_
  try simp only [Then, InBlock, NoGoto]
  refine answer_tmp rfl (.inr rfl) ?_
  simp

theorem ndone {σ : St} : CallsA Try.prog 14 [.v (.pointer none)] σ (fun av σ' => av = .sl 0 [] 0 .full ∧ σ = σ') := by
  have hn : ∀ xo yo, binA Try.prog .eql 27 xo yo (.v (.pointer none)) (.v (.pointer none)) = some (.v (.bool true)) := by intro xo yo; kernel_rfl
  refine callsA_body Try.func14 rfl rfl rfl ?_
  refine run_seq_k fun K1 hK1 => ?_
  refine run_region_k rfl fun J2 hJ2 => ?_
  try simp [hn]
  refine hJ2 _ _ ?_
  refine hK1 _ _ ?_
  refine run_seq_k fun K3 hK3 => ?_
  refine run_seq_k fun K4 hK4 => ?_
  refine run_region_k rfl fun J5 hJ5 => ?_
  try simp [hn]
  refine hJ5 _ _ ?_
  refine hK4 _ _ ?_
  refine run_cond_true (by first | rfl | (simp [hn, evalA]; done)) ?_
  refine run_seq_k fun K6 hK6 => ?_
  refine run_region_k rfl fun J7 hJ7 => ?_
  try simp [hn]
  refine hJ7 _ _ ?_
  refine hK6 _ _ ?_
  refine run_ret ?_
  try simp only [Then, InBlock, NoGoto]
  refine answer_tmp rfl (.inr rfl) ?_
  simp [hn]

theorem nend {σ : St} : CallsA Try.prog 17 [.v (.pointer none)] σ (fun av σ' => av = .v (.bool false) ∧ σ = σ') := by
  refine callsA_body Try.func17 rfl rfl rfl ?_
  refine run_seq_k fun K1 hK1 => ?_
  refine run_region_k rfl fun J2 hJ2 => ?_
  try simp
  refine hJ2 _ _ ?_
  refine hK1 _ _ ?_
  refine run_seq_k fun K3 hK3 => ?_
  refine run_region_k rfl fun J4 hJ4 => ?_
  try simp
  refine runL_call' (b := true) (by first | rfl | (simp [wantedA]; done)) rfl rfl (by first | rfl | (simp [callOf]; done)) (by simp) (nbad) ?_
  rintro _ _ ⟨rfl, rfl⟩
  try simp
  refine runL_no (by first | rfl | (simp [wantedA]; done)) rfl ?_
  try simp
  refine runL_no (by first | rfl | (simp [wantedA]; done)) rfl ?_
  try simp
  refine runL_no (by first | rfl | (simp [wantedA]; done)) rfl ?_
  try simp
  refine runL_no (by first | rfl | (simp [wantedA]; done)) rfl ?_
  try simp
  refine runL_no (by first | rfl | (simp [wantedA]; done)) rfl ?_
  try simp
  refine runL_no (by first | rfl | (simp [wantedA]; done)) rfl ?_
  try simp
  refine hJ4 _ _ ?_
  refine hK3 _ _ ?_
  refine run_ret ?_
  try simp only [Then, InBlock, NoGoto]
  refine answer_tmp rfl (.inr rfl) ?_
  simp

theorem nbyteW {σ : St} {b : Int} : CallsA Try.prog 13 [.v (.pointer none), .v (.int .u8 b)] σ (fun av σ' => av = .v (.pointer none) ∧ σ = σ') := by
  refine callsA_body Try.func13 rfl rfl rfl ?_
  refine run_seq_k fun K1 hK1 => ?_
  refine run_region_k rfl fun J2 hJ2 => ?_
  try simp
  refine hJ2 _ _ ?_
  refine hK1 _ _ ?_
  refine run_seq_k fun K3 hK3 => ?_
  refine run_region_k rfl fun J4 hJ4 => ?_
  try simp
  refine runL_call' (b := true) (by first | rfl | (simp [wantedA]; done)) rfl rfl (by first | rfl | (simp [callOf]; done)) (by simp) (nlay) ?_
  rintro _ _ ⟨rfl, rfl⟩
  try simp
  refine hJ4 _ _ ?_
  refine hK3 _ _ ?_
  refine run_ret ?_
  try simp only [Then, InBlock, NoGoto]
  refine answer_tmp rfl (.inr rfl) ?_
  simp

theorem nflagW {σ : St} : CallsA Try.prog 27 [.v (.pointer none), .v (.bool true)] σ (fun av σ' => av = .v (.pointer none) ∧ σ = σ') := by
  refine callsA_body Try.func27 rfl rfl rfl ?_
  refine run_seq_k fun K1 hK1 => ?_
  refine run_region_k rfl fun J2 hJ2 => ?_
  try simp
  refine hJ2 _ _ ?_
  refine hK1 _ _ ?_
  refine run_seq_k fun K3 hK3 => ?_
  refine run_seq_k fun K4 hK4 => ?_
  refine run_region_k rfl fun J5 hJ5 => ?_
  try simp
  refine hJ5 _ _ ?_
  refine hK4 _ _ ?_
  refine run_cond_true (by first | rfl | (simp [evalA]; done)) ?_
  refine run_seq_k fun K6 hK6 => ?_
  refine run_region_k rfl fun J7 hJ7 => ?_
  try simp
  refine runL_call' (b := true) (by first | rfl | (simp [wantedA]; done)) rfl rfl (by first | rfl | (simp [callOf]; done)) (by simp) (nlay) ?_
  rintro _ _ ⟨rfl, rfl⟩
  try simp
  refine hJ7 _ _ ?_
  refine hK6 _ _ ?_
  refine run_ret ?_
  try simp only [Then, InBlock, NoGoto]
  refine answer_tmp rfl (.inr rfl) ?_
  simp

theorem ntake {σ : St} {n : Nat} : CallsA Try.prog 54 [.v (.pointer none), .v (.int .i64 n)] σ (fun av σ' => av = .sl 0 [] 0 .full ∧ σ = σ') := by
  by_cases h : 0 < n
  · have hi : (0 : Int) < n := by omega
    refine callsA_body Try.func54 rfl rfl rfl ?_
    refine run_seq_k fun K1 hK1 => ?_
    refine run_region_k rfl fun J2 hJ2 => ?_
    try simp [hi, h]
    refine hJ2 _ _ ?_
    refine hK1 _ _ ?_
    refine run_seq_k fun K3 hK3 => ?_
    refine run_seq_k fun K4 hK4 => ?_
    refine run_region_k rfl fun J5 hJ5 => ?_
    try simp [hi, h]
    refine runL_call' (b := true) (by first | rfl | (simp [hi, h, wantedA]; done)) rfl rfl (by first | rfl | (simp [hi, h, callOf]; done)) (by simp) (nleft) ?_
    rintro _ _ ⟨rfl, rfl⟩
    try simp [hi, h]
    refine hJ5 _ _ ?_
    refine hK4 _ _ ?_
    refine run_cond_true (by first | rfl | (simp [hi, h, evalA]; done)) ?_
    refine run_region_k rfl fun J6 hJ6 => ?_
    try simp [hi, h]
    refine runL_call' (b := true) (by first | rfl | (simp [hi, h, wantedA]; done)) rfl rfl (by first | rfl | (simp [hi, h, callOf]; done)) (by simp) (nfail) ?_
    rintro _ _ ⟨rfl, rfl⟩
    try simp [hi, h]
    refine hJ6 _ _ ?_
    refine hK3 _ _ ?_
    refine run_seq_k fun K7 hK7 => ?_
    refine run_seq_k fun K8 hK8 => ?_
    refine run_region_k rfl fun J9 hJ9 => ?_
    try simp [hi, h]
    refine runL_call' (b := true) (by first | rfl | (simp [hi, h, wantedA]; done)) rfl rfl (by first | rfl | (simp [hi, h, callOf]; done)) (by simp) (nbad) ?_
    rintro _ _ ⟨rfl, rfl⟩
    try simp [hi, h]
    refine hJ9 _ _ ?_
    refine hK8 _ _ ?_
    refine run_cond_true (by first | rfl | (simp [hi, h, evalA]; done)) ?_
    refine run_seq_k fun K10 hK10 => ?_
    refine run_region_k rfl fun J11 hJ11 => ?_
    try simp [hi, h]
    refine hJ11 _ _ ?_
    refine hK10 _ _ ?_
    refine run_ret ?_
    try simp only [Then, InBlock, NoGoto]
    refine answer_tmp rfl (.inr rfl) ?_
    simp [hi, h]
  · have hi : ¬ (0 : Int) < n := by omega
    refine callsA_body Try.func54 rfl rfl rfl ?_
    refine run_seq_k fun K1 hK1 => ?_
    refine run_region_k rfl fun J2 hJ2 => ?_
    try simp [hi, h]
    refine hJ2 _ _ ?_
    refine hK1 _ _ ?_
    refine run_seq_k fun K3 hK3 => ?_
    refine run_seq_k fun K4 hK4 => ?_
    refine run_region_k rfl fun J5 hJ5 => ?_
    try simp [hi, h]
    refine runL_call' (b := true) (by first | rfl | (simp [hi, h, wantedA]; done)) rfl rfl (by first | rfl | (simp [hi, h, callOf]; done)) (by simp) (nleft) ?_
    rintro _ _ ⟨rfl, rfl⟩
    try simp [hi, h]
    refine hJ5 _ _ ?_
    refine hK4 _ _ ?_
    refine run_cond_false (by first | rfl | (simp [hi, h, evalA]; done)) ?_
    refine run_skip ?_
    refine hK3 _ _ ?_
    refine run_seq_k fun K6 hK6 => ?_
    refine run_seq_k fun K7 hK7 => ?_
    refine run_region_k rfl fun J8 hJ8 => ?_
    try simp [hi, h]
    refine runL_call' (b := true) (by first | rfl | (simp [hi, h, wantedA]; done)) rfl rfl (by first | rfl | (simp [hi, h, callOf]; done)) (by simp) (nbad) ?_
    rintro _ _ ⟨rfl, rfl⟩
    try simp [hi, h]
    refine hJ8 _ _ ?_
    refine hK7 _ _ ?_
    refine run_cond_true (by first | rfl | (simp [hi, h, evalA]; done)) ?_
    refine run_seq_k fun K9 hK9 => ?_
    refine run_region_k rfl fun J10 hJ10 => ?_
    try simp [hi, h]
    refine hJ10 _ _ ?_
    refine hK9 _ _ ?_
    refine run_ret ?_
    try simp only [Then, InBlock, NoGoto]
    refine answer_tmp rfl (.inr rfl) ?_
    simp [hi, h]

theorem nnumber {σ : St} {n : Nat} : CallsA Try.prog 37 [.v (.pointer none), .v (.int .i64 n)] σ (fun av σ' => av = .v (.int .u64 0) ∧ σ = σ') := by
  refine callsA_body Try.func37 rfl rfl rfl ?_
  refine run_seq_k fun K1 hK1 => ?_
  refine run_region_k rfl fun J2 hJ2 => ?_
  try simp
  refine hJ2 _ _ ?_
  refine hK1 _ _ ?_
  refine run_seq_k fun K3 hK3 => ?_
  refine run_region_k rfl fun J4 hJ4 => ?_
  try simp
  refine hJ4 _ _ ?_
  refine hK3 _ _ ?_
  refine run_seq_k fun K5 hK5 => ?_
  refine run_seq_k fun K6 hK6 => ?_
  refine run_region_k rfl fun J7 hJ7 => ?_
  try simp
  refine runL_call' (b := true) (by first | rfl | (simp [wantedA]; done)) rfl rfl (by first | rfl | (simp [callOf]; done)) (by simp) (ntake) ?_
  rintro _ _ ⟨rfl, rfl⟩
  try simp
  refine hJ7 _ _ ?_
  refine hK6 _ _ ?_
  refine run_block_k ?_
  refine run_loop (X := Unit) (fun _ ρ σ1 => ρ 5 = .v (.int .u64 0) ∧ ρ 11 = .v (.int .i64 0) ∧ ρ 12 = .v (.int .i64 0) ∧ σ1 = σ) (fun _ => 0) (()) ?start ?round
  case start =>
    simp
  case round =>
    rintro _ ρ σ1 ⟨h5, h11, h12, rfl⟩
    refine run_seq_k fun K8 hK8 => ?_
    refine run_region_k rfl fun J9 hJ9 => ?_
    try simp [h5, h11, h12]
    refine hJ9 _ _ ?_
    refine hK8 _ _ ?_
    refine run_seq_k fun K10 hK10 => ?_
    refine run_cond_false (by first | rfl | (simp [h5, h11, h12, evalA]; done)) ?_
    refine run_exit ?_
    refine hK5 _ _ ?_
    refine run_seq_k fun K11 hK11 => ?_
    refine run_region_k rfl fun J12 hJ12 => ?_
    try simp [h5, h11, h12]
    refine hJ12 _ _ ?_
    refine hK11 _ _ ?_
    refine run_ret ?_
    try simp only [Then, InBlock, NoGoto]
    refine answer_tmp rfl (.inr rfl) ?_
    simp [h5, h11, h12]

theorem nbyte {σ : St} : CallsA Try.prog 15 [.v (.pointer none)] σ (fun av σ' => av = .v (.int .u8 0) ∧ σ = σ') := by
  have hw : IntKind.u8.wrap 0 = 0 := rfl
  refine callsA_body Try.func15 rfl rfl rfl ?_
  refine run_seq_k fun K1 hK1 => ?_
  refine run_region_k rfl fun J2 hJ2 => ?_
  try simp [hw]
  refine hJ2 _ _ ?_
  refine hK1 _ _ ?_
  refine run_seq_k fun K3 hK3 => ?_
  refine run_region_k rfl fun J4 hJ4 => ?_
  try simp [hw]
  refine runL_call' (b := true) (by first | rfl | (simp [hw, wantedA]; done)) rfl rfl (by first | rfl | (simp [hw, callOf]; done)) (by simp) (nnumber (n := 1)) ?_
  rintro _ _ ⟨rfl, rfl⟩
  try simp [hw]
  refine hJ4 _ _ ?_
  refine hK3 _ _ ?_
  refine run_ret ?_
  try simp only [Then, InBlock, NoGoto]
  refine answer_tmp rfl (.inr rfl) ?_
  simp [hw]

theorem nshort {σ : St} : CallsA Try.prog 32 [.v (.pointer none)] σ (fun av σ' => av = .v (.int .u16 0) ∧ σ = σ') := by
  have hw : IntKind.u16.wrap 0 = 0 := rfl
  refine callsA_body Try.func32 rfl rfl rfl ?_
  refine run_seq_k fun K1 hK1 => ?_
  refine run_region_k rfl fun J2 hJ2 => ?_
  try simp [hw]
  refine hJ2 _ _ ?_
  refine hK1 _ _ ?_
  refine run_seq_k fun K3 hK3 => ?_
  refine run_region_k rfl fun J4 hJ4 => ?_
  try simp [hw]
  refine runL_call' (b := true) (by first | rfl | (simp [hw, wantedA]; done)) rfl rfl (by first | rfl | (simp [hw, callOf]; done)) (by simp) (nnumber (n := 2)) ?_
  rintro _ _ ⟨rfl, rfl⟩
  try simp [hw]
  refine hJ4 _ _ ?_
  refine hK3 _ _ ?_
  refine run_ret ?_
  try simp only [Then, InBlock, NoGoto]
  refine answer_tmp rfl (.inr rfl) ?_
  simp [hw]

theorem nlong {σ : St} : CallsA Try.prog 33 [.v (.pointer none)] σ (fun av σ' => av = .v (.int .u64 0) ∧ σ = σ') := by
  refine callsA_body Try.func33 rfl rfl rfl ?_
  refine run_seq_k fun K1 hK1 => ?_
  refine run_region_k rfl fun J2 hJ2 => ?_
  try simp
  refine hJ2 _ _ ?_
  refine hK1 _ _ ?_
  refine run_seq_k fun K3 hK3 => ?_
  refine run_region_k rfl fun J4 hJ4 => ?_
  try simp
  refine runL_call' (b := true) (by first | rfl | (simp [wantedA]; done)) rfl rfl (by first | rfl | (simp [callOf]; done)) (by simp) (nnumber (n := 8)) ?_
  rintro _ _ ⟨rfl, rfl⟩
  try simp
  refine hJ4 _ _ ?_
  refine hK3 _ _ ?_
  refine run_ret ?_
  try simp only [Then, InBlock, NoGoto]
  refine answer_tmp rfl (.inr rfl) ?_
  simp

theorem nflag {σ : St} : CallsA Try.prog 31 [.v (.pointer none)] σ (fun av σ' => av = .v (.bool false) ∧ σ = σ') := by
  refine callsA_body Try.func31 rfl rfl rfl ?_
  refine run_seq_k fun K1 hK1 => ?_
  refine run_region_k rfl fun J2 hJ2 => ?_
  try simp
  refine hJ2 _ _ ?_
  refine hK1 _ _ ?_
  refine run_seq_k fun K3 hK3 => ?_
  refine run_region_k rfl fun J4 hJ4 => ?_
  try simp
  refine runL_call' (b := true) (by first | rfl | (simp [wantedA]; done)) rfl rfl (by first | rfl | (simp [callOf]; done)) (by simp) (nbyte) ?_
  rintro _ _ ⟨rfl, rfl⟩
  try simp
  refine hJ4 _ _ ?_
  refine hK3 _ _ ?_
  refine run_seq_k fun K5 hK5 => ?_
  refine run_seq_k fun K6 hK6 => ?_
  refine run_region_k rfl fun J7 hJ7 => ?_
  try simp
  refine hJ7 _ _ ?_
  refine hK6 _ _ ?_
  refine run_cond_false (by first | rfl | (simp [evalA]; done)) ?_
  refine run_skip ?_
  refine hK5 _ _ ?_
  refine run_seq_k fun K8 hK8 => ?_
  refine run_region_k rfl fun J9 hJ9 => ?_
  try simp
  refine hJ9 _ _ ?_
  refine hK8 _ _ ?_
  refine run_ret ?_
  try simp only [Then, InBlock, NoGoto]
  refine answer_tmp rfl (.inr rfl) ?_
  simp

theorem ncoins {σ : St} : CallsA Try.prog 18 [.v (.pointer none)] σ (fun av σ' => av = .sl 0 [] 0 .full ∧ σ = σ') := by
  refine callsA_body Try.func18 rfl rfl rfl ?_
  refine run_seq_k fun K1 hK1 => ?_
  refine run_region_k rfl fun J2 hJ2 => ?_
  try simp
  refine hJ2 _ _ ?_
  refine hK1 _ _ ?_
  refine run_scope_k ?_
  refine run_seq_k fun K3 hK3 => ?_
  refine run_region_k rfl fun J4 hJ4 => ?_
  try simp
  refine hJ4 _ _ ?_
  refine hK3 _ _ ?_
  refine run_seq_k fun K5 hK5 => ?_
  refine run_region_k rfl fun J6 hJ6 => ?_
  try simp
  refine runL_call' (b := true) (by first | rfl | (simp [wantedA]; done)) rfl rfl (by first | rfl | (simp [callOf]; done)) (by simp) (nbyte) ?_
  rintro _ _ ⟨rfl, rfl⟩
  try simp
  refine hJ6 _ _ ?_
  refine hK5 _ _ ?_
  refine run_seq_k fun K7 hK7 => ?_
  refine run_label ?_
  refine hK7 _ _ ?_
  refine run_seq_k fun K8 hK8 => ?_
  refine run_seq_k fun K9 hK9 => ?_
  refine run_region_k rfl fun J10 hJ10 => ?_
  try simp
  refine runL_no (by first | rfl | (simp [wantedA]; done)) rfl ?_
  try simp
  refine runL_no (by first | rfl | (simp [wantedA]; done)) rfl ?_
  try simp
  refine runL_no (by first | rfl | (simp [wantedA]; done)) rfl ?_
  try simp
  refine hJ10 _ _ ?_
  refine hK9 _ _ ?_
  refine run_cond_false (by first | rfl | (simp [evalA]; done)) ?_
  refine run_skip ?_
  refine hK8 _ _ ?_
  refine run_seq_k fun K11 hK11 => ?_
  refine run_seq_k fun K12 hK12 => ?_
  refine run_region_k rfl fun J13 hJ13 => ?_
  try simp
  refine runL_call' (b := true) (by first | rfl | (simp [wantedA]; done)) rfl rfl (by first | rfl | (simp [callOf]; done)) (by simp) (right_nil) ?_
  rintro _ _ ⟨rfl, rfl⟩
  try simp
  refine hJ13 _ _ ?_
  refine hK12 _ _ ?_
  refine run_cond_false (by first | rfl | (simp [evalA]; done)) ?_
  refine run_skip ?_
  refine hK11 _ _ ?_
  refine run_seq_k fun K14 hK14 => ?_
  refine run_seq_k fun K15 hK15 => ?_
  refine run_region_k rfl fun J16 hJ16 => ?_
  try simp
  refine runL_call' (b := true) (by first | rfl | (simp [wantedA]; done)) rfl rfl (by first | rfl | (simp [callOf]; done)) (by simp) (nbad) ?_
  rintro _ _ ⟨rfl, rfl⟩
  try simp
  refine hJ16 _ _ ?_
  refine hK15 _ _ ?_
  refine run_cond_true (by first | rfl | (simp [evalA]; done)) ?_
  refine run_seq_k fun K17 hK17 => ?_
  refine run_region_k rfl fun J18 hJ18 => ?_
  try simp
  refine hJ18 _ _ ?_
  refine hK17 _ _ ?_
  refine run_ret ?_
  try simp only [Then, InBlock, NoGoto]
  refine answer_tmp rfl (.inr rfl) ?_
  simp

end Go.Proofs.Ytkbhdlocdajhmaa
