import Derived.Test.YtkbhdlocdajhmaaN2
/-
  CodecNil: true at every input.
-/
namespace Go.Proofs.Ytkbhdlocdajhmaa
open Go Go.Vm
set_option linter.unnecessarySimpa false
set_option linter.unusedSimpArgs false
set_option linter.unusedVariables false

attribute [local simp] evalL wantedA isCall opA evalA evalAll evalsA evalOpt ofValue ofCell plain binA_eql_pn binA_neq_pn binA_gtr binA_lss binA_geq binA_leq binA_add binA_sub binA_eql binA_neq binA_or binA_shl binA_shr binA_mul binA_quo binA_rem convA_int unA_not fieldAddrA loadA partA pickA_true pickA_false pickA_bb lenA builtinA storeA splice AV.cells AV.isCell sliceA boundA intA callOf indexAddrA newObjA buildA fillA zeroA ofCells buildSliceA

set_option maxRecDepth 100000 in
theorem codecNil_ok {σ : St} {x : Nat} {b : Int} (hx : x < 2 ^ 256) : CallsA Try.prog 9 [.agg (numA x), .v (.int .u8 b)] σ (fun av _ => av = .v (.bool true)) := by
  have heq : binA Try.prog .eql 50 (.tmp 66) (.tmp 67) (.agg (numA 0)) (.agg [.v (.int .u64 0), .v (.int .u64 0), .v (.int .u64 0), .v (.int .u64 0)]) = some (.v (.bool true)) := by kernel_rfl
  have hn : ∀ xo yo, binA Try.prog .eql 27 xo yo (.v (.pointer none)) (.v (.pointer none)) = some (.v (.bool true)) := by intro xo yo; kernel_rfl
  refine callsA_body Try.func9 rfl rfl rfl ?_
  refine run_seq_k fun K1 hK1 => ?_
  refine run_region_k rfl fun J2 hJ2 => ?_
  try simp [heq, hn]
  refine hJ2 _ _ ?_
  refine hK1 _ _ ?_
  refine run_seq_k fun K3 hK3 => ?_
  refine run_region_k rfl fun J4 hJ4 => ?_
  try simp [heq, hn]
  refine hJ4 _ _ ?_
  refine hK3 _ _ ?_
  refine run_seq_k fun K5 hK5 => ?_
  refine run_region_k rfl fun J6 hJ6 => ?_
  try simp [heq, hn]
  refine hJ6 _ _ ?_
  refine hK5 _ _ ?_
  refine run_seq_k fun K7 hK7 => ?_
  refine run_draw (by kernel_rfl) fun J8 hJ8 => ?_
  refine runD_pure' 0 (by kernel_rfl) rfl rfl (by kernel_rfl) (by kernel_rfl) (by kernel_rfl) (by kernel_rfl) ?_
  try simp [heq, hn]
  refine runD_pure' 1 (by kernel_rfl) rfl rfl (by kernel_rfl) (by kernel_rfl) (by kernel_rfl) (by kernel_rfl) ?_
  try simp [heq, hn]
  refine runD_pure' 6 (by kernel_rfl) rfl rfl (by kernel_rfl) (by kernel_rfl) (by kernel_rfl) (by kernel_rfl) ?_
  try simp [heq, hn]
  refine runD_call 2 (by kernel_rfl) (by kernel_rfl) (by kernel_rfl) rfl (by kernel_rfl) (by kernel_rfl) (by kernel_rfl) (by first | rfl | (simp [heq, hn]; done)) (by first | rfl | (simp [heq, hn]; done)) (by simp) (nbyteW) ?_
  rintro _ _ ⟨rfl, rfl⟩
  refine ⟨fun _ _ h => h, ?_⟩
  refine runD_call 3 (by kernel_rfl) (by kernel_rfl) (by kernel_rfl) rfl (by kernel_rfl) (by kernel_rfl) (by kernel_rfl) (by first | rfl | (simp [heq, hn]; done)) (by first | rfl | (simp [heq, hn]; done)) (by simp) (nflagW) ?_
  rintro _ _ ⟨rfl, rfl⟩
  refine ⟨fun _ _ h => h, ?_⟩
  refine runD_call 4 (by kernel_rfl) (by kernel_rfl) (by kernel_rfl) rfl (by kernel_rfl) (by kernel_rfl) (by kernel_rfl) (by first | rfl | (simp [heq, hn]; done)) (by first | rfl | (simp [heq, hn]; done)) (by simp) (nshortW) ?_
  rintro _ _ ⟨rfl, rfl⟩
  refine ⟨fun _ _ h => h, ?_⟩
  refine runD_call 5 (by kernel_rfl) (by kernel_rfl) (by kernel_rfl) rfl (by kernel_rfl) (by kernel_rfl) (by kernel_rfl) (by first | rfl | (simp [heq, hn]; done)) (by first | rfl | (simp [heq, hn]; done)) (by simp) (nlongW) ?_
  rintro _ _ ⟨rfl, rfl⟩
  refine ⟨fun _ _ h => h, ?_⟩
  refine runD_call 7 (by kernel_rfl) (by kernel_rfl) (by kernel_rfl) rfl (by kernel_rfl) (by kernel_rfl) (by kernel_rfl) (by first | rfl | (simp [heq, hn]; done)) (by first | rfl | (simp [heq, hn]; done)) (by simp) (nnumW hx) ?_
  rintro _ _ ⟨rfl, rfl⟩
  refine ⟨fun _ _ h => h, ?_⟩
  refine runD_call 8 (by kernel_rfl) (by kernel_rfl) (by kernel_rfl) rfl (by kernel_rfl) (by kernel_rfl) (by kernel_rfl) (by first | rfl | (simp [heq, hn]; done)) (by first | rfl | (simp [heq, hn]; done)) (by simp) (ncoinsW) ?_
  rintro _ _ ⟨rfl, rfl⟩
  refine ⟨fun _ _ h => h, ?_⟩
  refine runD_pure' 9 (by kernel_rfl) rfl rfl (by kernel_rfl) (by kernel_rfl) (by kernel_rfl) (by kernel_rfl) ?_
  try simp [heq, hn]
  refine runD_done (by kernel_rfl) (by kernel_rfl) (by kernel_rfl) ?_
  refine hJ8 _ _ ?_
  refine hK7 _ _ ?_
  refine run_seq_k fun K9 hK9 => ?_
  refine run_region_k rfl fun J10 hJ10 => ?_
  try simp [heq, hn]
  refine runL_call' (b := true) (by first | rfl | (simp [heq, hn, wantedA]; done)) rfl rfl (by first | rfl | (simp [heq, hn, callOf]; done)) (by simp) (nfail) ?_
  rintro _ _ ⟨rfl, rfl⟩
  try simp [heq, hn]
  refine hJ10 _ _ ?_
  refine hK9 _ _ ?_
  refine run_seq_k fun K11 hK11 => ?_
  refine run_region_k rfl fun J12 hJ12 => ?_
  try simp [heq, hn]
  refine runL_call' (b := true) (by first | rfl | (simp [heq, hn, wantedA]; done)) rfl rfl (by first | rfl | (simp [heq, hn, callOf]; done)) (by simp) (lays_ok) ?_
  rintro _ _ ⟨rfl, rfl⟩
  try simp [heq, hn]
  refine runL_go (by first | rfl | (simp [heq, hn, wantedA]; done)) rfl ?_
  try simp [heq, hn]
  refine runL_go (by first | rfl | (simp [heq, hn, wantedA]; done)) rfl ?_
  try simp [heq, hn]
  refine runL_go (by first | rfl | (simp [heq, hn, wantedA]; done)) rfl ?_
  try simp [heq, hn]
  refine runL_call' (b := true) (by first | rfl | (simp [heq, hn, wantedA]; done)) rfl rfl (by first | rfl | (simp [heq, hn, callOf]; done)) (by simp) (ndone) ?_
  rintro _ _ ⟨rfl, rfl⟩
  try simp [heq, hn]
  refine runL_go (by first | rfl | (simp [heq, hn, wantedA]; done)) rfl ?_
  try simp [heq, hn]
  refine runL_go (by first | rfl | (simp [heq, hn, wantedA]; done)) rfl ?_
  try simp [heq, hn]
  refine runL_go (by first | rfl | (simp [heq, hn, wantedA]; done)) rfl ?_
  try simp [heq, hn]
  refine runL_call' (b := true) (by first | rfl | (simp [heq, hn, wantedA]; done)) rfl rfl (by first | rfl | (simp [heq, hn, callOf]; done)) (by simp) (nbad) ?_
  rintro _ _ ⟨rfl, rfl⟩
  try simp [heq, hn]
  refine runL_go (by first | rfl | (simp [heq, hn, wantedA]; done)) rfl ?_
  try simp [heq, hn]
  refine runL_call' (b := true) (by first | rfl | (simp [heq, hn, wantedA]; done)) rfl rfl (by first | rfl | (simp [heq, hn, callOf]; done)) (by simp) (nend) ?_
  rintro _ _ ⟨rfl, rfl⟩
  try simp [heq, hn]
  refine runL_go (by first | rfl | (simp [heq, hn, wantedA]; done)) rfl ?_
  try simp [heq, hn]
  refine runL_go (by first | rfl | (simp [heq, hn, wantedA]; done)) rfl ?_
  try simp [heq, hn]
  refine runL_call' (b := true) (by first | rfl | (simp [heq, hn, wantedA]; done)) rfl rfl (by first | rfl | (simp [heq, hn, callOf]; done)) (by simp) (nleft) ?_
  rintro _ _ ⟨rfl, rfl⟩
  try simp [heq, hn]
  refine runL_go (by first | rfl | (simp [heq, hn, wantedA]; done)) rfl ?_
  try simp [heq, hn]
  refine runL_go (by first | rfl | (simp [heq, hn, wantedA]; done)) rfl ?_
  try simp [heq, hn]
  refine runL_call' (b := true) (by first | rfl | (simp [heq, hn, wantedA]; done)) rfl rfl (by first | rfl | (simp [heq, hn, callOf]; done)) (by simp) (nbyte) ?_
  rintro _ _ ⟨rfl, rfl⟩
  try simp [heq, hn]
  refine runL_go (by first | rfl | (simp [heq, hn, wantedA]; done)) rfl ?_
  try simp [heq, hn]
  refine runL_go (by first | rfl | (simp [heq, hn, wantedA]; done)) rfl ?_
  try simp [heq, hn]
  refine runL_call' (b := true) (by first | rfl | (simp [heq, hn, wantedA]; done)) rfl rfl (by first | rfl | (simp [heq, hn, callOf]; done)) (by simp) (nflag) ?_
  rintro _ _ ⟨rfl, rfl⟩
  try simp [heq, hn]
  refine runL_go (by first | rfl | (simp [heq, hn, wantedA]; done)) rfl ?_
  try simp [heq, hn]
  refine runL_go (by first | rfl | (simp [heq, hn, wantedA]; done)) rfl ?_
  try simp [heq, hn]
  refine runL_call' (b := true) (by first | rfl | (simp [heq, hn, wantedA]; done)) rfl rfl (by first | rfl | (simp [heq, hn, callOf]; done)) (by simp) (nshort) ?_
  rintro _ _ ⟨rfl, rfl⟩
  try simp [heq, hn]
  refine runL_go (by first | rfl | (simp [heq, hn, wantedA]; done)) rfl ?_
  try simp [heq, hn]
  refine runL_go (by first | rfl | (simp [heq, hn, wantedA]; done)) rfl ?_
  try simp [heq, hn]
  refine runL_call' (b := true) (by first | rfl | (simp [heq, hn, wantedA]; done)) rfl rfl (by first | rfl | (simp [heq, hn, callOf]; done)) (by simp) (nlong) ?_
  rintro _ _ ⟨rfl, rfl⟩
  try simp [heq, hn]
  refine runL_go (by first | rfl | (simp [heq, hn, wantedA]; done)) rfl ?_
  try simp [heq, hn]
  refine runL_go (by first | rfl | (simp [heq, hn, wantedA]; done)) rfl ?_
  try simp [heq, hn]
  refine runL_call' (b := true) (by first | rfl | (simp [heq, hn, wantedA]; done)) rfl rfl (by first | rfl | (simp [heq, hn, callOf]; done)) (by simp) (nnum) ?_
  rintro _ _ ⟨rfl, rfl⟩
  try simp [heq, hn]
  refine runL_go (by first | rfl | (simp [heq, hn, wantedA]; done)) rfl ?_
  try simp [heq, hn]
  refine runL_go (by first | rfl | (simp [heq, hn, wantedA]; done)) rfl ?_
  try simp [heq, hn]
  refine runL_go (by first | rfl | (simp [heq, hn, wantedA]; done)) rfl ?_
  try simp [heq, hn]
  refine runL_call' (b := true) (by first | rfl | (simp [heq, hn, wantedA]; done)) rfl rfl (by first | rfl | (simp [heq, hn, callOf]; done)) (by simp) (ncoins) ?_
  rintro _ _ ⟨rfl, rfl⟩
  try simp [heq, hn]
  refine runL_go (by first | rfl | (simp [heq, hn, wantedA]; done)) rfl ?_
  try simp [heq, hn]
  refine runL_go (by first | rfl | (simp [heq, hn, wantedA]; done)) rfl ?_
  try simp [heq, hn]
  refine hJ12 _ _ ?_
  refine hK11 _ _ ?_
  refine run_ret ?_
  try simp only [Then, InBlock, NoGoto]
  refine answer_tmp rfl (.inr rfl) ?_
  simp [heq, hn]

end Go.Proofs.Ytkbhdlocdajhmaa
