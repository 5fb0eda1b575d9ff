import Derived.Test.YtdbaddholggkbaaC5
/-
  Behind a fault: nothing is read any more.
-/
namespace Go.Proofs.Ytdbaddholggkbaa
set_option linter.unnecessarySimpa false
set_option maxRecDepth 100000
open Go Go.Vm
set_option linter.unusedSimpArgs false
set_option linter.unusedVariables false

attribute [local simp] evalL wantedA isCall opA evalA evalAll evalsA evalOpt ofValue ofCell plain binA_eql_pn binA_neq_pn binA_gtr binA_lss binA_geq binA_leq binA_add binA_sub binA_eql binA_neq binA_or binA_shl binA_shr binA_mul binA_quo binA_rem convA_int unA_not fieldAddrA loadA partA pickA_true pickA_false pickA_bb lenA builtinA storeA splice AV.cells AV.isCell sliceA boundA intA callOf indexAddrA newObjA buildA fillA zeroA ofCells buildSliceA

theorem of_set {f : FuncId} {args : List AV} {A : AV} {σ : St} {id : Nat} {x : List AV} (h : σ.objs[id]? = some x) (k : CallsA Try.prog f args σ (fun av σ' => av = A ∧ σ' = { σ with objs := σ.objs.set id x })) : CallsA Try.prog f args σ (fun av σ' => av = A ∧ σ = σ') := by
  rw [St.set_same h] at k
  exact callsA_mono k (fun _ _ h => ⟨h.1, h.2.symm⟩)

theorem byte_none {σ : St} {id : Nat} (h : σ.objs[id]? = some (rd none)) : CallsA Try.prog 81 [.ptr id 0] σ (fun av σ' => av = .v (.int .u8 0) ∧ σ = σ') := of_set h (byte_ok h)
theorem short_none {σ : St} {id : Nat} (h : σ.objs[id]? = some (rd none)) : CallsA Try.prog 134 [.ptr id 0] σ (fun av σ' => av = .v (.int .u16 0) ∧ σ = σ') := of_set h (short_ok h)
theorem long_none {σ : St} {id : Nat} (h : σ.objs[id]? = some (rd none)) : CallsA Try.prog 46 [.ptr id 0] σ (fun av σ' => av = .v (.int .u64 0) ∧ σ = σ') := of_set h (long_ok h)
theorem flag_none {σ : St} {id : Nat} (h : σ.objs[id]? = some (rd none)) : CallsA Try.prog 135 [.ptr id 0] σ (fun av σ' => av = .v (.bool false) ∧ σ = σ') := of_set h (flag_ok h)
theorem num_none {σ : St} {id : Nat} (h : σ.objs[id]? = some (rd none)) : CallsA Try.prog 128 [.ptr id 0] σ (fun av σ' => av = .agg (numA 0) ∧ σ = σ') := of_set h (num_ok h)
theorem fail_none {σ : St} {id : Nat} (h : σ.objs[id]? = some (rd none)) : CallsA Try.prog 83 [.ptr id 0] σ (fun av σ' => av = .tup [] ∧ σ = σ') := of_set h (fail_ok h)

theorem right_nil {σ : St} : CallsA Try.prog 97 [.sl 0 [] 0 .full] σ (fun av σ' => av = .v (.bool true) ∧ σ = σ') := by
  refine callsA_body Try.func97 rfl rfl rfl ?_
  refine run_seq_k fun K1 hK1 => ?_
  refine run_region_k rfl fun J2 hJ2 => ?_
  try simp
  refine hJ2 _ _ ?_
  refine hK1 _ _ ?_
  refine run_seq_k fun K3 hK3 => ?_
  refine run_seq_k fun K4 hK4 => ?_
  refine run_region_k rfl fun J5 hJ5 => ?_
  try simp
  refine hJ5 _ _ ?_
  refine hK4 _ _ ?_
  refine run_block_k ?_
  refine run_loop (X := Unit) (fun _ ρ σ1 => ρ 6 = .v (.int .i64 0) ∧ ρ 7 = .v (.int .i64 0) ∧ σ1 = σ) (fun _ => 0) (()) ?start ?round
  case start =>
    simp
  case round =>
    rintro _ ρ σ1 ⟨h6, h7, rfl⟩
    refine run_seq_k fun K6 hK6 => ?_
    refine run_region_k rfl fun J7 hJ7 => ?_
    try simp [h6, h7]
    refine hJ7 _ _ ?_
    refine hK6 _ _ ?_
    refine run_seq_k fun K8 hK8 => ?_
    refine run_cond_false (by first | rfl | (simp [h6, h7, evalA]; done)) ?_
    refine run_exit ?_
    refine hK3 _ _ ?_
    refine run_seq_k fun K9 hK9 => ?_
    refine run_region_k rfl fun J10 hJ10 => ?_
    try simp [h6, h7]
    refine hJ10 _ _ ?_
    refine hK9 _ _ ?_
    refine run_ret ?_
    try simp only [Then, InBlock, NoGoto]
    refine answer_tmp rfl (.inr rfl) ?_
    simp [h6, h7]

theorem coins_none {σ : St} {id : Nat} (h : σ.objs[id]? = some (rd none)) : CallsA Try.prog 82 [.ptr id 0] σ (fun av σ' => av = .sl 0 [] 0 .full ∧ σ = σ') := by
  refine callsA_body Try.func82 rfl rfl rfl ?_
  refine run_seq_k fun K1 hK1 => ?_
  refine run_region_k rfl fun J2 hJ2 => ?_
  try simp
  refine hJ2 _ _ ?_
  refine hK1 _ _ ?_
  refine run_scope_k ?_
  refine run_seq_k fun K3 hK3 => ?_
  refine run_region_k rfl fun J4 hJ4 => ?_
  try simp
  refine hJ4 _ _ ?_
  refine hK3 _ _ ?_
  refine run_seq_k fun K5 hK5 => ?_
  refine run_region_k rfl fun J6 hJ6 => ?_
  try simp
  refine runL_call' (b := true) (by first | rfl | (simp [wantedA]; done)) rfl rfl (by first | rfl | (simp [callOf]; done)) (by simp) (byte_none h) ?_
  rintro _ _ ⟨rfl, rfl⟩
  try simp
  refine hJ6 _ _ ?_
  refine hK5 _ _ ?_
  refine run_seq_k fun K7 hK7 => ?_
  refine run_label ?_
  refine hK7 _ _ ?_
  refine run_seq_k fun K8 hK8 => ?_
  refine run_seq_k fun K9 hK9 => ?_
  refine run_region_k rfl fun J10 hJ10 => ?_
  try simp
  refine runL_no (by first | rfl | (simp [wantedA]; done)) rfl ?_
  try simp
  refine runL_no (by first | rfl | (simp [wantedA]; done)) rfl ?_
  try simp
  refine runL_no (by first | rfl | (simp [wantedA]; done)) rfl ?_
  try simp
  refine hJ10 _ _ ?_
  refine hK9 _ _ ?_
  refine run_cond_false (by first | rfl | (simp [evalA]; done)) ?_
  refine run_skip ?_
  refine hK8 _ _ ?_
  refine run_seq_k fun K11 hK11 => ?_
  refine run_seq_k fun K12 hK12 => ?_
  refine run_region_k rfl fun J13 hJ13 => ?_
  try simp
  refine runL_call' (b := true) (by first | rfl | (simp [wantedA]; done)) rfl rfl (by first | rfl | (simp [callOf]; done)) (by simp) (right_nil) ?_
  rintro _ _ ⟨rfl, rfl⟩
  try simp
  refine hJ13 _ _ ?_
  refine hK12 _ _ ?_
  refine run_cond_false (by first | rfl | (simp [evalA]; done)) ?_
  refine run_skip ?_
  refine hK11 _ _ ?_
  refine run_seq_k fun K14 hK14 => ?_
  refine run_seq_k fun K15 hK15 => ?_
  refine run_region_k rfl fun J16 hJ16 => ?_
  try simp
  refine runL_call' (b := true) (by first | rfl | (simp [wantedA]; done)) rfl rfl (by first | rfl | (simp [callOf]; done)) (by simp) (bad_none h) ?_
  rintro _ _ ⟨rfl, rfl⟩
  try simp
  refine hJ16 _ _ ?_
  refine hK15 _ _ ?_
  refine run_cond_true (by first | rfl | (simp [evalA]; done)) ?_
  refine run_seq_k fun K17 hK17 => ?_
  refine run_region_k rfl fun J18 hJ18 => ?_
  try simp
  refine hJ18 _ _ ?_
  refine hK17 _ _ ?_
  refine run_ret ?_
  try simp only [Then, InBlock, NoGoto]
  refine answer_tmp rfl (.inr rfl) ?_
  simp

/-- The document's reader, at fault. -/
def inBad (x y : AV) : List AV := [x, y, .v (.bool true)]

theorem inByte_bad {σ : St} {id : Nat} {x y : AV} (h : σ.objs[id]? = some (inBad x y)) : CallsA Try.prog 84 [.ptr id 0] σ (fun av σ' => av = .v (.int .u8 0) ∧ σ = σ') := by
  have hs := set_same h
  unfold inBad at h hs
  refine callsA_body Try.func84 rfl rfl rfl ?_
  refine run_seq_k fun K1 hK1 => ?_
  refine run_region_k rfl fun J2 hJ2 => ?_
  try simp [h, hs]
  refine hJ2 _ _ ?_
  refine hK1 _ _ ?_
  refine run_seq_k fun K3 hK3 => ?_
  refine run_seq_k fun K4 hK4 => ?_
  refine run_draw (by kernel_rfl) fun J5 hJ5 => ?_
  refine runD_pure' 0 (by kernel_rfl) rfl rfl (by kernel_rfl) (by kernel_rfl) (by kernel_rfl) (by kernel_rfl) ?_
  try simp [h, hs]
  refine runD_pure' 1 (by kernel_rfl) rfl rfl (by kernel_rfl) (by kernel_rfl) (by kernel_rfl) (by kernel_rfl) ?_
  try simp [h, hs]
  refine runD_pure' 2 (by kernel_rfl) rfl rfl (by kernel_rfl) (by kernel_rfl) (by kernel_rfl) (by kernel_rfl) ?_
  try simp [h, hs]
  refine runD_pure' 3 (by kernel_rfl) rfl rfl (by kernel_rfl) (by kernel_rfl) (by kernel_rfl) (by kernel_rfl) ?_
  try simp [h, hs]
  refine runD_pure' 4 (by kernel_rfl) rfl rfl (by kernel_rfl) (by kernel_rfl) (by kernel_rfl) (by kernel_rfl) ?_
  try simp [h, hs]
  refine runD_pure' 5 (by kernel_rfl) rfl rfl (by kernel_rfl) (by kernel_rfl) (by kernel_rfl) (by kernel_rfl) ?_
  try simp [h, hs]
  refine runD_pure' 6 (by kernel_rfl) rfl rfl (by kernel_rfl) (by kernel_rfl) (by kernel_rfl) (by kernel_rfl) ?_
  try simp [h, hs]
  refine runD_pure' 7 (by kernel_rfl) rfl rfl (by kernel_rfl) (by kernel_rfl) (by kernel_rfl) (by kernel_rfl) ?_
  try simp [h, hs]
  refine runD_pure' 8 (by kernel_rfl) rfl rfl (by kernel_rfl) (by kernel_rfl) (by kernel_rfl) (by kernel_rfl) ?_
  try simp [h, hs]
  refine runD_pure' 9 (by kernel_rfl) rfl rfl (by kernel_rfl) (by kernel_rfl) (by kernel_rfl) (by kernel_rfl) ?_
  try simp [h, hs]
  refine runD_pure' 10 (by kernel_rfl) rfl rfl (by kernel_rfl) (by kernel_rfl) (by kernel_rfl) (by kernel_rfl) ?_
  try simp [h, hs]
  refine runD_pure' 11 (by kernel_rfl) rfl rfl (by kernel_rfl) (by kernel_rfl) (by kernel_rfl) (by kernel_rfl) ?_
  try simp [h, hs]
  refine runD_pure' 12 (by kernel_rfl) rfl rfl (by kernel_rfl) (by kernel_rfl) (by kernel_rfl) (by kernel_rfl) ?_
  try simp [h, hs]
  refine runD_pure' 13 (by kernel_rfl) rfl rfl (by kernel_rfl) (by kernel_rfl) (by kernel_rfl) (by kernel_rfl) ?_
  try simp [h, hs]
  refine runD_pure' 14 (by kernel_rfl) rfl rfl (by kernel_rfl) (by kernel_rfl) (by kernel_rfl) (by kernel_rfl) ?_
  try simp [h, hs]
  refine runD_pure' 15 (by kernel_rfl) rfl rfl (by kernel_rfl) (by kernel_rfl) (by kernel_rfl) (by kernel_rfl) ?_
  try simp [h, hs]
  refine runD_done (by kernel_rfl) (by kernel_rfl) (by kernel_rfl) ?_
  refine hJ5 _ _ ?_
  refine hK4 _ _ ?_
  refine run_cond_true (by first | rfl | (simp [h, hs, evalA]; done)) ?_
  refine run_seq_k fun K6 hK6 => ?_
  refine run_region_k rfl fun J7 hJ7 => ?_
  try simp [h, hs]
  refine hJ7 _ _ ?_
  refine hK6 _ _ ?_
  refine run_seq_k fun K8 hK8 => ?_
  refine run_region_k rfl fun J9 hJ9 => ?_
  try simp [h, hs]
  refine hJ9 _ _ ?_
  refine hK8 _ _ ?_
  refine run_ret ?_
  try simp only [Then, InBlock, NoGoto]
  refine answer_tmp rfl (.inr rfl) ?_
  simp [h, hs]

theorem inFlag_bad {σ : St} {id : Nat} {x y : AV} (h : σ.objs[id]? = some (inBad x y)) : CallsA Try.prog 112 [.ptr id 0] σ (fun av σ' => av = .v (.bool false) ∧ σ = σ') := by
  have h' := h
  have hs := set_same h
  unfold inBad at h hs
  refine callsA_body Try.func112 rfl rfl rfl ?_
  refine run_seq_k fun K1 hK1 => ?_
  refine run_region_k rfl fun J2 hJ2 => ?_
  try simp [h, hs]
  refine hJ2 _ _ ?_
  refine hK1 _ _ ?_
  refine run_seq_k fun K3 hK3 => ?_
  refine run_region_k rfl fun J4 hJ4 => ?_
  try simp [h, hs]
  refine runL_call' (b := true) (by first | rfl | (simp [h, hs, wantedA]; done)) rfl rfl (by first | rfl | (simp [h, hs, callOf]; done)) (by simp) (inByte_bad h') ?_
  rintro _ _ ⟨rfl, rfl⟩
  try simp [h, hs]
  refine hJ4 _ _ ?_
  refine hK3 _ _ ?_
  refine run_seq_k fun K5 hK5 => ?_
  refine run_region_k rfl fun J6 hJ6 => ?_
  try simp [h, hs]
  refine runL_no (by first | rfl | (simp [h, hs, wantedA]; done)) rfl ?_
  try simp [h, hs]
  refine runL_no (by first | rfl | (simp [h, hs, wantedA]; done)) rfl ?_
  try simp [h, hs]
  refine hJ6 _ _ ?_
  refine hK5 _ _ ?_
  refine run_seq_k fun K7 hK7 => ?_
  refine run_region_k rfl fun J8 hJ8 => ?_
  try simp [h, hs]
  refine runL_no (by first | rfl | (simp [h, hs, wantedA]; done)) rfl ?_
  try simp [h, hs]
  refine runL_no (by first | rfl | (simp [h, hs, wantedA]; done)) rfl ?_
  try simp [h, hs]
  refine hJ8 _ _ ?_
  refine hK7 _ _ ?_
  refine run_ret ?_
  try simp only [Then, InBlock, NoGoto]
  refine answer_tmp rfl (.inr rfl) ?_
  simp [h, hs]
  try rfl

theorem inLong_bad {σ : St} {id n : Nat} {x y : AV} (h : σ.objs[id]? = some (inBad x y)) : CallsA Try.prog 85 [.ptr id 0, .v (.int .i64 n)] σ (fun av σ' => av = .v (.int .u64 0) ∧ σ = σ') := by
  have h' := h
  have hs := set_same h
  unfold inBad at h hs
  refine callsA_body Try.func85 rfl rfl rfl ?_
  refine run_seq_k fun K1 hK1 => ?_
  refine run_region_k rfl fun J2 hJ2 => ?_
  try simp [h, hs]
  refine hJ2 _ _ ?_
  refine hK1 _ _ ?_
  refine run_seq_k fun K3 hK3 => ?_
  refine run_seq_k fun K4 hK4 => ?_
  refine run_draw (by kernel_rfl) fun J5 hJ5 => ?_
  refine runD_pure' 0 (by kernel_rfl) rfl rfl (by kernel_rfl) (by kernel_rfl) (by kernel_rfl) (by kernel_rfl) ?_
  try simp [h, hs]
  refine runD_pure' 1 (by kernel_rfl) rfl rfl (by kernel_rfl) (by kernel_rfl) (by kernel_rfl) (by kernel_rfl) ?_
  try simp [h, hs]
  refine runD_pure' 2 (by kernel_rfl) rfl rfl (by kernel_rfl) (by kernel_rfl) (by kernel_rfl) (by kernel_rfl) ?_
  try simp [h, hs]
  refine runD_pure' 3 (by kernel_rfl) rfl rfl (by kernel_rfl) (by kernel_rfl) (by kernel_rfl) (by kernel_rfl) ?_
  try simp [h, hs]
  refine runD_pure' 4 (by kernel_rfl) rfl rfl (by kernel_rfl) (by kernel_rfl) (by kernel_rfl) (by kernel_rfl) ?_
  try simp [h, hs]
  refine runD_pure' 5 (by kernel_rfl) rfl rfl (by kernel_rfl) (by kernel_rfl) (by kernel_rfl) (by kernel_rfl) ?_
  try simp [h, hs]
  refine runD_pure' 6 (by kernel_rfl) rfl rfl (by kernel_rfl) (by kernel_rfl) (by kernel_rfl) (by kernel_rfl) ?_
  try simp [h, hs]
  refine runD_pure' 7 (by kernel_rfl) rfl rfl (by kernel_rfl) (by kernel_rfl) (by kernel_rfl) (by kernel_rfl) ?_
  try simp [h, hs]
  refine runD_pure' 8 (by kernel_rfl) rfl rfl (by kernel_rfl) (by kernel_rfl) (by kernel_rfl) (by kernel_rfl) ?_
  try simp [h, hs]
  refine runD_pure' 9 (by kernel_rfl) rfl rfl (by kernel_rfl) (by kernel_rfl) (by kernel_rfl) (by kernel_rfl) ?_
  try simp [h, hs]
  refine runD_pure' 10 (by kernel_rfl) rfl rfl (by kernel_rfl) (by kernel_rfl) (by kernel_rfl) (by kernel_rfl) ?_
  try simp [h, hs]
  refine runD_pure' 11 (by kernel_rfl) rfl rfl (by kernel_rfl) (by kernel_rfl) (by kernel_rfl) (by kernel_rfl) ?_
  try simp [h, hs]
  refine runD_pure' 12 (by kernel_rfl) rfl rfl (by kernel_rfl) (by kernel_rfl) (by kernel_rfl) (by kernel_rfl) ?_
  try simp [h, hs]
  refine runD_pure' 13 (by kernel_rfl) rfl rfl (by kernel_rfl) (by kernel_rfl) (by kernel_rfl) (by kernel_rfl) ?_
  try simp [h, hs]
  refine runD_pure' 14 (by kernel_rfl) rfl rfl (by kernel_rfl) (by kernel_rfl) (by kernel_rfl) (by kernel_rfl) ?_
  try simp [h, hs]
  refine runD_pure' 15 (by kernel_rfl) rfl rfl (by kernel_rfl) (by kernel_rfl) (by kernel_rfl) (by kernel_rfl) ?_
  try simp [h, hs]
  refine runD_pure' 16 (by kernel_rfl) rfl rfl (by kernel_rfl) (by kernel_rfl) (by kernel_rfl) (by kernel_rfl) ?_
  try simp [h, hs]
  refine runD_pure' 17 (by kernel_rfl) rfl rfl (by kernel_rfl) (by kernel_rfl) (by kernel_rfl) (by kernel_rfl) ?_
  try simp [h, hs]
  refine runD_done (by kernel_rfl) (by kernel_rfl) (by kernel_rfl) ?_
  refine hJ5 _ _ ?_
  refine hK4 _ _ ?_
  refine run_cond_true (by first | rfl | (simp [h, hs, evalA]; done)) ?_
  refine run_seq_k fun K6 hK6 => ?_
  refine run_region_k rfl fun J7 hJ7 => ?_
  try simp [h, hs]
  refine hJ7 _ _ ?_
  refine hK6 _ _ ?_
  refine run_seq_k fun K8 hK8 => ?_
  refine run_region_k rfl fun J9 hJ9 => ?_
  try simp [h, hs]
  refine hJ9 _ _ ?_
  refine hK8 _ _ ?_
  refine run_ret ?_
  try simp only [Then, InBlock, NoGoto]
  refine answer_tmp rfl (.inr rfl) ?_
  simp [h, hs]

theorem inNum_raw {σ : St} {id : Nat} {x y : AV} (h : σ.objs[id]? = some (inBad x y)) : CallsA Try.prog 111 [.ptr id 0] σ (fun av σ' => av = .agg (numA 0) ∧ σ' = { σ with objs := σ.objs ++ [numA 0] }) := by
  have hlt := lt_of_get h
  have h1 : ∀ r : List AV, (σ.objs ++ [r])[id]? = some (inBad x y) := fun r => by rw [List.getElem?_append_left hlt]; exact h
  have hs : ∀ r : List AV, (σ.objs ++ [r]).set id (inBad x y) = σ.objs ++ [r] := fun r => set_same (h1 r)
  have h2 := h1
  unfold inBad at h2 hs
  refine callsA_body Try.func111 rfl rfl rfl ?_
  refine run_seq_k fun K1 hK1 => ?_
  refine run_region_k rfl fun J2 hJ2 => ?_
  try simp [h2, hs]
  refine hJ2 _ _ ?_
  refine hK1 _ _ ?_
  refine run_seq_k fun K3 hK3 => ?_
  refine run_region_k rfl fun J4 hJ4 => ?_
  try simp [h2, hs]
  refine runL_call' (b := true) (by first | rfl | (simp [h2, hs, wantedA]; done)) rfl rfl (by first | rfl | (simp [h2, hs, callOf]; done)) (by simp) (inByte_bad (h1 _)) ?_
  rintro _ _ ⟨rfl, rfl⟩
  try simp [h2, hs]
  refine hJ4 _ _ ?_
  refine hK3 _ _ ?_
  refine run_seq_k fun K5 hK5 => ?_
  refine run_seq_k fun K6 hK6 => ?_
  refine run_draw (by kernel_rfl) fun J7 hJ7 => ?_
  refine runD_pure' 0 (by kernel_rfl) rfl rfl (by kernel_rfl) (by kernel_rfl) (by kernel_rfl) (by kernel_rfl) ?_
  try simp [h2, hs]
  refine runD_pure' 1 (by kernel_rfl) rfl rfl (by kernel_rfl) (by kernel_rfl) (by kernel_rfl) (by kernel_rfl) ?_
  try simp [h2, hs]
  refine runD_pure' 2 (by kernel_rfl) rfl rfl (by kernel_rfl) (by kernel_rfl) (by kernel_rfl) (by kernel_rfl) ?_
  try simp [h2, hs]
  refine runD_pure' 3 (by kernel_rfl) rfl rfl (by kernel_rfl) (by kernel_rfl) (by kernel_rfl) (by kernel_rfl) ?_
  try simp [h2, hs]
  refine runD_pure' 4 (by kernel_rfl) rfl rfl (by kernel_rfl) (by kernel_rfl) (by kernel_rfl) (by kernel_rfl) ?_
  try simp [h2, hs]
  refine runD_pure' 5 (by kernel_rfl) rfl rfl (by kernel_rfl) (by kernel_rfl) (by kernel_rfl) (by kernel_rfl) ?_
  try simp [h2, hs]
  refine runD_pure' 6 (by kernel_rfl) rfl rfl (by kernel_rfl) (by kernel_rfl) (by kernel_rfl) (by kernel_rfl) ?_
  try simp [h2, hs]
  refine runD_pure' 7 (by kernel_rfl) rfl rfl (by kernel_rfl) (by kernel_rfl) (by kernel_rfl) (by kernel_rfl) ?_
  try simp [h2, hs]
  refine runD_pure' 8 (by kernel_rfl) rfl rfl (by kernel_rfl) (by kernel_rfl) (by kernel_rfl) (by kernel_rfl) ?_
  try simp [h2, hs]
  refine runD_pure' 9 (by kernel_rfl) rfl rfl (by kernel_rfl) (by kernel_rfl) (by kernel_rfl) (by kernel_rfl) ?_
  try simp [h2, hs]
  refine runD_pure' 10 (by kernel_rfl) rfl rfl (by kernel_rfl) (by kernel_rfl) (by kernel_rfl) (by kernel_rfl) ?_
  try simp [h2, hs]
  refine runD_pure' 11 (by kernel_rfl) rfl rfl (by kernel_rfl) (by kernel_rfl) (by kernel_rfl) (by kernel_rfl) ?_
  try simp [h2, hs]
  refine runD_pure' 12 (by kernel_rfl) rfl rfl (by kernel_rfl) (by kernel_rfl) (by kernel_rfl) (by kernel_rfl) ?_
  try simp [h2, hs]
  refine runD_pure' 13 (by kernel_rfl) rfl rfl (by kernel_rfl) (by kernel_rfl) (by kernel_rfl) (by kernel_rfl) ?_
  try simp [h2, hs]
  refine runD_pure' 14 (by kernel_rfl) rfl rfl (by kernel_rfl) (by kernel_rfl) (by kernel_rfl) (by kernel_rfl) ?_
  try simp [h2, hs]
  refine runD_pure' 15 (by kernel_rfl) rfl rfl (by kernel_rfl) (by kernel_rfl) (by kernel_rfl) (by kernel_rfl) ?_
  try simp [h2, hs]
  refine runD_pure' 16 (by kernel_rfl) rfl rfl (by kernel_rfl) (by kernel_rfl) (by kernel_rfl) (by kernel_rfl) ?_
  try simp [h2, hs]
  refine runD_pure' 17 (by kernel_rfl) rfl rfl (by kernel_rfl) (by kernel_rfl) (by kernel_rfl) (by kernel_rfl) ?_
  try simp [h2, hs]
  refine runD_done (by kernel_rfl) (by kernel_rfl) (by kernel_rfl) ?_
  refine hJ7 _ _ ?_
  refine hK6 _ _ ?_
  refine run_cond_true (by first | rfl | (simp [h2, hs, evalA]; done)) ?_
  refine run_seq_k fun K8 hK8 => ?_
  refine run_region_k rfl fun J9 hJ9 => ?_
  try simp [h2, hs]
  refine hJ9 _ _ ?_
  refine hK8 _ _ ?_
  refine run_seq_k fun K10 hK10 => ?_
  refine run_region_k rfl fun J11 hJ11 => ?_
  try simp [h2, hs]
  refine hJ11 _ _ ?_
  refine hK10 _ _ ?_
  refine run_ret ?_
  try simp only [Then, InBlock, NoGoto]
  refine answer_cell rfl (.inr rfl) ?_
  simp [numA_zero]

theorem inNum_bad {σ : St} {id : Nat} {x y : AV} (h : σ.objs[id]? = some (inBad x y)) : CallsA Try.prog 111 [.ptr id 0] σ (fun av σ' => av = .agg (numA 0) ∧ σ = σ') :=
  callsA_gc_new (inNum_raw h) rfl

theorem inLeft_bad {σ : St} {id : Nat} {x y : AV} (h : σ.objs[id]? = some (inBad x y)) : CallsA Try.prog 38 [.ptr id 0] σ (fun av σ' => av = .v (.int .i64 0) ∧ σ = σ') := by
  unfold inBad at h
  refine callsA_body Try.func38 rfl rfl rfl ?_
  refine run_seq_k fun K1 hK1 => ?_
  refine run_region_k rfl fun J2 hJ2 => ?_
  try simp [h]
  refine hJ2 _ _ ?_
  refine hK1 _ _ ?_
  refine run_seq_k fun K3 hK3 => ?_
  refine run_seq_k fun K4 hK4 => ?_
  refine run_region_k rfl fun J5 hJ5 => ?_
  try simp [h]
  refine hJ5 _ _ ?_
  refine hK4 _ _ ?_
  refine run_cond_true (by first | rfl | (simp [h, evalA]; done)) ?_
  refine run_seq_k fun K6 hK6 => ?_
  refine run_region_k rfl fun J7 hJ7 => ?_
  try simp [h]
  refine hJ7 _ _ ?_
  refine hK6 _ _ ?_
  refine run_ret ?_
  try simp only [Then, InBlock, NoGoto]
  refine answer_tmp rfl (.inr rfl) ?_
  simp [h]

theorem inEnd_bad {σ : St} {id : Nat} {x y : AV} (h : σ.objs[id]? = some (inBad x y)) : CallsA Try.prog 113 [.ptr id 0] σ (fun av σ' => av = .v (.bool false) ∧ σ = σ') := by
  unfold inBad at h
  refine callsA_body Try.func113 rfl rfl rfl ?_
  refine run_seq_k fun K1 hK1 => ?_
  refine run_region_k rfl fun J2 hJ2 => ?_
  try simp [h]
  refine hJ2 _ _ ?_
  refine hK1 _ _ ?_
  refine run_seq_k fun K3 hK3 => ?_
  refine run_draw (by kernel_rfl) fun J4 hJ4 => ?_
  refine runD_pure' 0 (by kernel_rfl) rfl rfl (by kernel_rfl) (by kernel_rfl) (by kernel_rfl) (by kernel_rfl) ?_
  try simp [h]
  refine runD_pure' 1 (by kernel_rfl) rfl rfl (by kernel_rfl) (by kernel_rfl) (by kernel_rfl) (by kernel_rfl) ?_
  try simp [h]
  refine runD_pure' 2 (by kernel_rfl) rfl rfl (by kernel_rfl) (by kernel_rfl) (by kernel_rfl) (by kernel_rfl) ?_
  try simp [h]
  refine runD_pure' 3 (by kernel_rfl) rfl rfl (by kernel_rfl) (by kernel_rfl) (by kernel_rfl) (by kernel_rfl) ?_
  try simp [h]
  refine runD_pure' 4 (by kernel_rfl) rfl rfl (by kernel_rfl) (by kernel_rfl) (by kernel_rfl) (by kernel_rfl) ?_
  try simp [h]
  refine runD_pure' 5 (by kernel_rfl) rfl rfl (by kernel_rfl) (by kernel_rfl) (by kernel_rfl) (by kernel_rfl) ?_
  try simp [h]
  refine runD_pure' 6 (by kernel_rfl) rfl rfl (by kernel_rfl) (by kernel_rfl) (by kernel_rfl) (by kernel_rfl) ?_
  try simp [h]
  refine runD_pure' 7 (by kernel_rfl) rfl rfl (by kernel_rfl) (by kernel_rfl) (by kernel_rfl) (by kernel_rfl) ?_
  try simp [h]
  refine runD_pure' 8 (by kernel_rfl) rfl rfl (by kernel_rfl) (by kernel_rfl) (by kernel_rfl) (by kernel_rfl) ?_
  try simp [h]
  refine runD_pure' 9 (by kernel_rfl) rfl rfl (by kernel_rfl) (by kernel_rfl) (by kernel_rfl) (by kernel_rfl) ?_
  try simp [h]
  refine runD_pure' 10 (by kernel_rfl) rfl rfl (by kernel_rfl) (by kernel_rfl) (by kernel_rfl) (by kernel_rfl) ?_
  try simp [h]
  refine runD_pure' 11 (by kernel_rfl) rfl rfl (by kernel_rfl) (by kernel_rfl) (by kernel_rfl) (by kernel_rfl) ?_
  try simp [h]
  refine runD_pure' 12 (by kernel_rfl) rfl rfl (by kernel_rfl) (by kernel_rfl) (by kernel_rfl) (by kernel_rfl) ?_
  try simp [h]
  refine runD_pure' 13 (by kernel_rfl) rfl rfl (by kernel_rfl) (by kernel_rfl) (by kernel_rfl) (by kernel_rfl) ?_
  try simp [h]
  refine runD_pure' 14 (by kernel_rfl) rfl rfl (by kernel_rfl) (by kernel_rfl) (by kernel_rfl) (by kernel_rfl) ?_
  try simp [h]
  refine runD_pure' 15 (by kernel_rfl) rfl rfl (by kernel_rfl) (by kernel_rfl) (by kernel_rfl) (by kernel_rfl) ?_
  try simp [h]
  refine runD_pure' 16 (by kernel_rfl) rfl rfl (by kernel_rfl) (by kernel_rfl) (by kernel_rfl) (by kernel_rfl) ?_
  try simp [h]
  refine runD_pure' 17 (by kernel_rfl) rfl rfl (by kernel_rfl) (by kernel_rfl) (by kernel_rfl) (by kernel_rfl) ?_
  try simp [h]
  refine runD_done (by kernel_rfl) (by kernel_rfl) (by kernel_rfl) ?_
  refine hJ4 _ _ ?_
  refine hK3 _ _ ?_
  refine run_ret ?_
  try simp only [Then, InBlock, NoGoto]
  refine answer_tmp rfl (.inr rfl) ?_
  simp [h]
  try rfl

theorem inCoins_bad {σ : St} {id : Nat} {x y : AV} (h : σ.objs[id]? = some (inBad x y)) : CallsA Try.prog 86 [.ptr id 0] σ (fun av σ' => av = .sl 0 [] 0 .full ∧ σ = σ') := by
  have h' := h
  have hs := set_same h
  unfold inBad at h hs
  refine callsA_body Try.func86 rfl rfl rfl ?_
  refine run_seq_k fun K1 hK1 => ?_
  refine run_region_k rfl fun J2 hJ2 => ?_
  try simp [h, hs]
  refine hJ2 _ _ ?_
  refine hK1 _ _ ?_
  refine run_seq_k fun K3 hK3 => ?_
  refine run_region_k rfl fun J4 hJ4 => ?_
  try simp [h, hs]
  refine hJ4 _ _ ?_
  refine hK3 _ _ ?_
  refine run_seq_k fun K5 hK5 => ?_
  refine run_region_k rfl fun J6 hJ6 => ?_
  try simp [h, hs]
  refine runL_call' (b := true) (by first | rfl | (simp [h, hs, wantedA]; done)) rfl rfl (by first | rfl | (simp [h, hs, callOf]; done)) (by simp) (inByte_bad h') ?_
  rintro _ _ ⟨rfl, rfl⟩
  try simp [h, hs]
  refine hJ6 _ _ ?_
  refine hK5 _ _ ?_
  refine run_seq_k fun K7 hK7 => ?_
  refine run_seq_k fun K8 hK8 => ?_
  refine run_region_k rfl fun J9 hJ9 => ?_
  try simp [h, hs]
  refine hJ9 _ _ ?_
  refine hK8 _ _ ?_
  refine run_block_k ?_
  refine run_loop (X := Unit) (fun _ ρ σ1 => ρ 0 = .ptr id 0 ∧ ρ 3 = .sl 0 [] 0 .full ∧ ρ 4 = .v (.int .i64 0) ∧ ρ 5 = .v (.int .i64 0) ∧ σ1 = σ) (fun _ => 0) (()) ?start ?round
  case start =>
    simp
    rfl
  case round =>
    rintro _ ρ σ1 ⟨h0, h3, h4, h5, rfl⟩
    refine run_seq_k fun K10 hK10 => ?_
    refine run_seq_k fun K11 hK11 => ?_
    refine run_region_k rfl fun J12 hJ12 => ?_
    try simp [h, hs, h0, h3, h4, h5]
    refine runL_no (by first | rfl | (simp [h, hs, h0, h3, h4, h5, wantedA]; done)) rfl ?_
    try simp [h, hs, h0, h3, h4, h5]
    refine runL_no (by first | rfl | (simp [h, hs, h0, h3, h4, h5, wantedA]; done)) rfl ?_
    try simp [h, hs, h0, h3, h4, h5]
    refine runL_no (by first | rfl | (simp [h, hs, h0, h3, h4, h5, wantedA]; done)) rfl ?_
    try simp [h, hs, h0, h3, h4, h5]
    refine runL_no (by first | rfl | (simp [h, hs, h0, h3, h4, h5, wantedA]; done)) rfl ?_
    try simp [h, hs, h0, h3, h4, h5]
    refine runL_no (by first | rfl | (simp [h, hs, h0, h3, h4, h5, wantedA]; done)) rfl ?_
    try simp [h, hs, h0, h3, h4, h5]
    refine hJ12 _ _ ?_
    refine hK11 _ _ ?_
    refine run_cond_false (by first | rfl | (simp [evalA]; rfl; done)) ?_
    refine run_exit ?_
    refine hK7 _ _ ?_
    refine run_seq_k fun K13 hK13 => ?_
    refine run_seq_k fun K14 hK14 => ?_
    refine run_region_k rfl fun J15 hJ15 => ?_
    try simp [h, hs, h0, h3, h4, h5]
    refine runL_no (by first | rfl | (simp [h, hs, h0, h3, h4, h5, wantedA]; done)) rfl ?_
    try simp [h, hs, h0, h3, h4, h5]
    refine runL_no (by first | rfl | (simp [h, hs, h0, h3, h4, h5, wantedA]; done)) rfl ?_
    try simp [h, hs, h0, h3, h4, h5]
    refine runL_no (by first | rfl | (simp [h, hs, h0, h3, h4, h5, wantedA]; done)) rfl ?_
    try simp [h, hs, h0, h3, h4, h5]
    refine hJ15 _ _ ?_
    refine hK14 _ _ ?_
    refine run_cond_true (by first | rfl | (simp [evalA]; rfl; done)) ?_
    refine run_seq_k fun K16 hK16 => ?_
    refine run_region_k rfl fun J17 hJ17 => ?_
    try simp [h, hs, h0, h3, h4, h5]
    refine hJ17 _ _ ?_
    refine hK16 _ _ ?_
    refine run_seq_k fun K18 hK18 => ?_
    refine run_region_k rfl fun J19 hJ19 => ?_
    try simp [h, hs, h0, h3, h4, h5]
    refine hJ19 _ _ ?_
    refine hK18 _ _ ?_
    refine run_ret ?_
    try simp only [Then, InBlock, NoGoto]
    refine answer_tmp rfl (.inr rfl) ?_
    simp [h, hs, h0, h3, h4, h5]

theorem same_nil {σ : St} : CallsA Try.prog 22 [.sl 0 [] 0 .full, .sl 0 [] 0 .full] σ (fun av σ' => av = .v (.bool true) ∧ σ = σ') := by
  refine callsA_body Try.func22 rfl rfl rfl ?_
  refine run_seq_k fun K1 hK1 => ?_
  refine run_region_k rfl fun J2 hJ2 => ?_
  try simp
  refine hJ2 _ _ ?_
  refine hK1 _ _ ?_
  refine run_seq_k fun K3 hK3 => ?_
  refine run_seq_k fun K4 hK4 => ?_
  refine run_region_k rfl fun J5 hJ5 => ?_
  try simp
  refine hJ5 _ _ ?_
  refine hK4 _ _ ?_
  refine run_cond_false (by first | rfl | (simp [evalA]; done)) ?_
  refine run_skip ?_
  refine hK3 _ _ ?_
  refine run_seq_k fun K6 hK6 => ?_
  refine run_seq_k fun K7 hK7 => ?_
  refine run_region_k rfl fun J8 hJ8 => ?_
  try simp
  refine hJ8 _ _ ?_
  refine hK7 _ _ ?_
  refine run_block_k ?_
  refine run_loop (X := Unit) (fun _ ρ σ1 => ρ 0 = .sl 0 [] 0 .full ∧ ρ 5 = .v (.int .i64 0) ∧ σ1 = σ) (fun _ => 0) (()) ?start ?round
  case start =>
    simp
  case round =>
    rintro _ ρ σ1 ⟨h0, h5, rfl⟩
    refine run_seq_k fun K9 hK9 => ?_
    refine run_seq_k fun K10 hK10 => ?_
    refine run_region_k rfl fun J11 hJ11 => ?_
    try simp [h0, h5]
    refine hJ11 _ _ ?_
    refine hK10 _ _ ?_
    refine run_cond_false (by first | rfl | (simp [h0, h5, evalA]; done)) ?_
    refine run_exit ?_
    refine hK6 _ _ ?_
    refine run_seq_k fun K12 hK12 => ?_
    refine run_region_k rfl fun J13 hJ13 => ?_
    try simp [h0, h5]
    refine hJ13 _ _ ?_
    refine hK12 _ _ ?_
    refine run_ret ?_
    try simp only [Then, InBlock, NoGoto]
    refine answer_tmp rfl (.inr rfl) ?_
    simp [h0, h5]

end Go.Proofs.Ytdbaddholggkbaa
