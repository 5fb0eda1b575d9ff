import Derived.Test.YtkbhdlocdajhmaaC6
/-
  The document's reader.
-/
namespace Go.Proofs.Ytkbhdlocdajhmaa
set_option linter.unnecessarySimpa false
open Go Go.Vm
set_option linter.unusedSimpArgs false
set_option linter.unusedVariables false

attribute [local simp] evalL wantedA isCall opA evalA evalAll evalsA evalOpt ofValue ofCell plain binA_eql_pn binA_neq_pn binA_gtr binA_lss binA_geq binA_leq binA_add binA_sub binA_eql binA_neq binA_or binA_shl binA_shr binA_mul binA_quo binA_rem convA_int unA_not fieldAddrA loadA partA pickA_true pickA_false pickA_bb lenA builtinA storeA splice AV.cells AV.isCell sliceA boundA intA callOf indexAddrA newObjA buildA fillA zeroA ofCells buildSliceA

def inC (p : List UInt8) (tl : Tail) (k : Nat) (bad : Bool) : List AV := [.sl 1 (bytesA p) p.length tl, .v (.int .i64 k), .v (.bool bad)]

theorem inByte_yes {σ : St} {id k : Nat} {p : List UInt8} {tl : Tail} (h : σ.objs[id]? = some (inC p tl k false)) (hp : p.length ≤ 1000000) (hk : k < p.length) :
    CallsA Try.prog 39 [.ptr id 0] σ (fun av σ' => av = .v (.int .u8 p[k].toNat) ∧ σ' = { σ with objs := σ.objs.set id (inC p tl (k + 1) false) }) := by
  have hs := set_self_of h
  have hki : ¬ (p.length : Int) ≤ k := by omega
  have hkl : ¬ p.length ≤ k := by omega
  have hw : IntKind.i64.wrap ((k : Int) + 1) = ((k + 1 : Nat) : Int) := wrap_i64 _ (by omega) (by omega)
  have hw2 : IntKind.i64.wrap (((k + 1 : Nat) : Int) - 1) = (k : Int) := by rw [wrap_i64 _ (by omega) (by omega)]; omega
  have hw3 : IntKind.i64.wrap (k : Int) = (k : Int) := wrap_i64 _ (by omega) (by omega)
  have hk2 : (k : Int) < p.length := by omega
  unfold inC at h hs
  refine callsA_body Try.func39 rfl rfl rfl ?_
  refine run_seq_k fun K1 hK1 => ?_
  refine run_region_k rfl fun J2 hJ2 => ?_
  try simp [h, hs, hki, hkl, hw, hw2, hw3, hk, hk2, inC]
  refine hJ2 _ _ ?_
  refine hK1 _ _ ?_
  refine run_seq_k fun K3 hK3 => ?_
  refine run_seq_k fun K4 hK4 => ?_
  refine run_draw (by kernel_rfl) fun J5 hJ5 => ?_
  refine runD_pure' 0 (by kernel_rfl) rfl rfl (by kernel_rfl) (by kernel_rfl) (by kernel_rfl) (by kernel_rfl) ?_
  try simp [h, hs, hki, hkl, hw, hw2, hw3, hk, hk2, inC]
  refine runD_pure' 1 (by kernel_rfl) rfl rfl (by kernel_rfl) (by kernel_rfl) (by kernel_rfl) (by kernel_rfl) ?_
  try simp [h, hs, hki, hkl, hw, hw2, hw3, hk, hk2, inC]
  refine runD_pure' 2 (by kernel_rfl) rfl rfl (by kernel_rfl) (by kernel_rfl) (by kernel_rfl) (by kernel_rfl) ?_
  try simp [h, hs, hki, hkl, hw, hw2, hw3, hk, hk2, inC]
  refine runD_pure' 3 (by kernel_rfl) rfl rfl (by kernel_rfl) (by kernel_rfl) (by kernel_rfl) (by kernel_rfl) ?_
  try simp [h, hs, hki, hkl, hw, hw2, hw3, hk, hk2, inC]
  refine runD_pure' 4 (by kernel_rfl) rfl rfl (by kernel_rfl) (by kernel_rfl) (by kernel_rfl) (by kernel_rfl) ?_
  try simp [h, hs, hki, hkl, hw, hw2, hw3, hk, hk2, inC]
  refine runD_pure' 5 (by kernel_rfl) rfl rfl (by kernel_rfl) (by kernel_rfl) (by kernel_rfl) (by kernel_rfl) ?_
  try simp [h, hs, hki, hkl, hw, hw2, hw3, hk, hk2, inC]
  refine runD_pure' 6 (by kernel_rfl) rfl rfl (by kernel_rfl) (by kernel_rfl) (by kernel_rfl) (by kernel_rfl) ?_
  try simp [h, hs, hki, hkl, hw, hw2, hw3, hk, hk2, inC]
  refine runD_pure' 7 (by kernel_rfl) rfl rfl (by kernel_rfl) (by kernel_rfl) (by kernel_rfl) (by kernel_rfl) ?_
  try simp [h, hs, hki, hkl, hw, hw2, hw3, hk, hk2, inC]
  refine runD_pure' 8 (by kernel_rfl) rfl rfl (by kernel_rfl) (by kernel_rfl) (by kernel_rfl) (by kernel_rfl) ?_
  try simp [h, hs, hki, hkl, hw, hw2, hw3, hk, hk2, inC]
  refine runD_pure' 9 (by kernel_rfl) rfl rfl (by kernel_rfl) (by kernel_rfl) (by kernel_rfl) (by kernel_rfl) ?_
  try simp [h, hs, hki, hkl, hw, hw2, hw3, hk, hk2, inC]
  refine runD_pure' 10 (by kernel_rfl) rfl rfl (by kernel_rfl) (by kernel_rfl) (by kernel_rfl) (by kernel_rfl) ?_
  try simp [h, hs, hki, hkl, hw, hw2, hw3, hk, hk2, inC]
  refine runD_pure' 11 (by kernel_rfl) rfl rfl (by kernel_rfl) (by kernel_rfl) (by kernel_rfl) (by kernel_rfl) ?_
  try simp [h, hs, hki, hkl, hw, hw2, hw3, hk, hk2, inC]
  refine runD_pure' 12 (by kernel_rfl) rfl rfl (by kernel_rfl) (by kernel_rfl) (by kernel_rfl) (by kernel_rfl) ?_
  try simp [h, hs, hki, hkl, hw, hw2, hw3, hk, hk2, inC]
  refine runD_pure' 13 (by kernel_rfl) rfl rfl (by kernel_rfl) (by kernel_rfl) (by kernel_rfl) (by kernel_rfl) ?_
  try simp [h, hs, hki, hkl, hw, hw2, hw3, hk, hk2, inC]
  refine runD_pure' 14 (by kernel_rfl) rfl rfl (by kernel_rfl) (by kernel_rfl) (by kernel_rfl) (by kernel_rfl) ?_
  try simp [h, hs, hki, hkl, hw, hw2, hw3, hk, hk2, inC]
  refine runD_pure' 15 (by kernel_rfl) rfl rfl (by kernel_rfl) (by kernel_rfl) (by kernel_rfl) (by kernel_rfl) ?_
  try simp [h, hs, hki, hkl, hw, hw2, hw3, hk, hk2, inC]
  refine runD_done (by kernel_rfl) (by kernel_rfl) (by kernel_rfl) ?_
  refine hJ5 _ _ ?_
  refine hK4 _ _ ?_
  refine run_cond_false (by first | rfl | (simp [h, hs, hki, hkl, hw, hw2, hw3, hk, hk2, inC, evalA]; done)) ?_
  refine run_skip ?_
  refine hK3 _ _ ?_
  refine run_seq_k fun K6 hK6 => ?_
  refine run_region_k rfl fun J7 hJ7 => ?_
  try simp [h, hs, hki, hkl, hw, hw2, hw3, hk, hk2, inC]
  refine hJ7 _ _ ?_
  refine hK6 _ _ ?_
  refine run_seq_k fun K8 hK8 => ?_
  refine run_draw (by kernel_rfl) fun J9 hJ9 => ?_
  refine runD_pure' 0 (by kernel_rfl) rfl rfl (by kernel_rfl) (by kernel_rfl) (by kernel_rfl) (by kernel_rfl) ?_
  try simp [h, hs, hki, hkl, hw, hw2, hw3, hk, hk2, inC]
  refine runD_pure' 1 (by kernel_rfl) rfl rfl (by kernel_rfl) (by kernel_rfl) (by kernel_rfl) (by kernel_rfl) ?_
  try simp [h, hs, hki, hkl, hw, hw2, hw3, hk, hk2, inC]
  refine runD_pure' 2 (by kernel_rfl) rfl rfl (by kernel_rfl) (by kernel_rfl) (by kernel_rfl) (by kernel_rfl) ?_
  try simp [h, hs, hki, hkl, hw, hw2, hw3, hk, hk2, inC]
  refine runD_pure' 3 (by kernel_rfl) rfl rfl (by kernel_rfl) (by kernel_rfl) (by kernel_rfl) (by kernel_rfl) ?_
  try simp [h, hs, hki, hkl, hw, hw2, hw3, hk, hk2, inC]
  refine runD_pure' 4 (by kernel_rfl) rfl rfl (by kernel_rfl) (by kernel_rfl) (by kernel_rfl) (by kernel_rfl) ?_
  try simp [h, hs, hki, hkl, hw, hw2, hw3, hk, hk2, inC]
  refine runD_pure' 5 (by kernel_rfl) rfl rfl (by kernel_rfl) (by kernel_rfl) (by kernel_rfl) (by kernel_rfl) ?_
  try simp [h, hs, hki, hkl, hw, hw2, hw3, hk, hk2, inC]
  refine runD_pure' 6 (by kernel_rfl) rfl rfl (by kernel_rfl) (by kernel_rfl) (by kernel_rfl) (by kernel_rfl) ?_
  try simp [h, hs, hki, hkl, hw, hw2, hw3, hk, hk2, inC]
  refine runD_pure' 7 (by kernel_rfl) rfl rfl (by kernel_rfl) (by kernel_rfl) (by kernel_rfl) (by kernel_rfl) ?_
  try simp [h, hs, hki, hkl, hw, hw2, hw3, hk, hk2, inC]
  refine runD_pure' 8 (by kernel_rfl) rfl rfl (by kernel_rfl) (by kernel_rfl) (by kernel_rfl) (by kernel_rfl) ?_
  try simp [h, hs, hki, hkl, hw, hw2, hw3, hk, hk2, inC]
  refine runD_pure' 9 (by kernel_rfl) rfl rfl (by kernel_rfl) (by kernel_rfl) (by kernel_rfl) (by kernel_rfl) ?_
  try simp [h, hs, hki, hkl, hw, hw2, hw3, hk, hk2, inC]
  refine runD_pure' 10 (by kernel_rfl) rfl rfl (by kernel_rfl) (by kernel_rfl) (by kernel_rfl) (by kernel_rfl) ?_
  try simp [h, hs, hki, hkl, hw, hw2, hw3, hk, hk2, inC]
  refine runD_pure' 11 (by kernel_rfl) rfl rfl (by kernel_rfl) (by kernel_rfl) (by kernel_rfl) (by kernel_rfl) ?_
  try simp [h, hs, hki, hkl, hw, hw2, hw3, hk, hk2, inC]
  refine runD_done (by kernel_rfl) (by kernel_rfl) (by kernel_rfl) ?_
  refine hJ9 _ _ ?_
  refine hK8 _ _ ?_
  refine run_ret ?_
  try simp only [Then, InBlock, NoGoto]
  refine answer_tmp rfl (.inr rfl) ?_
  simp [h, hs, hki, hkl, hw, hw2, hw3, hk, hk2, inC]

theorem inByte_end {σ : St} {id k : Nat} {p : List UInt8} {tl : Tail} (h : σ.objs[id]? = some (inC p tl k false)) (hk : p.length ≤ k) :
    CallsA Try.prog 39 [.ptr id 0] σ (fun av σ' => av = .v (.int .u8 0) ∧ σ' = { σ with objs := σ.objs.set id (inC p tl k true) }) := by
  have hs := set_self_of h
  have hki : (p.length : Int) ≤ k := by omega
  unfold inC at h hs
  refine callsA_body Try.func39 rfl rfl rfl ?_
  refine run_seq_k fun K1 hK1 => ?_
  refine run_region_k rfl fun J2 hJ2 => ?_
  try simp [h, hs, hki, hk, inC]
  refine hJ2 _ _ ?_
  refine hK1 _ _ ?_
  refine run_seq_k fun K3 hK3 => ?_
  refine run_seq_k fun K4 hK4 => ?_
  refine run_draw (by kernel_rfl) fun J5 hJ5 => ?_
  refine runD_pure' 0 (by kernel_rfl) rfl rfl (by kernel_rfl) (by kernel_rfl) (by kernel_rfl) (by kernel_rfl) ?_
  try simp [h, hs, hki, hk, inC]
  refine runD_pure' 1 (by kernel_rfl) rfl rfl (by kernel_rfl) (by kernel_rfl) (by kernel_rfl) (by kernel_rfl) ?_
  try simp [h, hs, hki, hk, inC]
  refine runD_pure' 2 (by kernel_rfl) rfl rfl (by kernel_rfl) (by kernel_rfl) (by kernel_rfl) (by kernel_rfl) ?_
  try simp [h, hs, hki, hk, inC]
  refine runD_pure' 3 (by kernel_rfl) rfl rfl (by kernel_rfl) (by kernel_rfl) (by kernel_rfl) (by kernel_rfl) ?_
  try simp [h, hs, hki, hk, inC]
  refine runD_pure' 4 (by kernel_rfl) rfl rfl (by kernel_rfl) (by kernel_rfl) (by kernel_rfl) (by kernel_rfl) ?_
  try simp [h, hs, hki, hk, inC]
  refine runD_pure' 5 (by kernel_rfl) rfl rfl (by kernel_rfl) (by kernel_rfl) (by kernel_rfl) (by kernel_rfl) ?_
  try simp [h, hs, hki, hk, inC]
  refine runD_pure' 6 (by kernel_rfl) rfl rfl (by kernel_rfl) (by kernel_rfl) (by kernel_rfl) (by kernel_rfl) ?_
  try simp [h, hs, hki, hk, inC]
  refine runD_pure' 7 (by kernel_rfl) rfl rfl (by kernel_rfl) (by kernel_rfl) (by kernel_rfl) (by kernel_rfl) ?_
  try simp [h, hs, hki, hk, inC]
  refine runD_pure' 8 (by kernel_rfl) rfl rfl (by kernel_rfl) (by kernel_rfl) (by kernel_rfl) (by kernel_rfl) ?_
  try simp [h, hs, hki, hk, inC]
  refine runD_pure' 9 (by kernel_rfl) rfl rfl (by kernel_rfl) (by kernel_rfl) (by kernel_rfl) (by kernel_rfl) ?_
  try simp [h, hs, hki, hk, inC]
  refine runD_pure' 10 (by kernel_rfl) rfl rfl (by kernel_rfl) (by kernel_rfl) (by kernel_rfl) (by kernel_rfl) ?_
  try simp [h, hs, hki, hk, inC]
  refine runD_pure' 11 (by kernel_rfl) rfl rfl (by kernel_rfl) (by kernel_rfl) (by kernel_rfl) (by kernel_rfl) ?_
  try simp [h, hs, hki, hk, inC]
  refine runD_pure' 12 (by kernel_rfl) rfl rfl (by kernel_rfl) (by kernel_rfl) (by kernel_rfl) (by kernel_rfl) ?_
  try simp [h, hs, hki, hk, inC]
  refine runD_pure' 13 (by kernel_rfl) rfl rfl (by kernel_rfl) (by kernel_rfl) (by kernel_rfl) (by kernel_rfl) ?_
  try simp [h, hs, hki, hk, inC]
  refine runD_pure' 14 (by kernel_rfl) rfl rfl (by kernel_rfl) (by kernel_rfl) (by kernel_rfl) (by kernel_rfl) ?_
  try simp [h, hs, hki, hk, inC]
  refine runD_pure' 15 (by kernel_rfl) rfl rfl (by kernel_rfl) (by kernel_rfl) (by kernel_rfl) (by kernel_rfl) ?_
  try simp [h, hs, hki, hk, inC]
  refine runD_done (by kernel_rfl) (by kernel_rfl) (by kernel_rfl) ?_
  refine hJ5 _ _ ?_
  refine hK4 _ _ ?_
  refine run_cond_true (by first | rfl | (simp [h, hs, hki, hk, inC, evalA]; done)) ?_
  refine run_seq_k fun K6 hK6 => ?_
  refine run_region_k rfl fun J7 hJ7 => ?_
  try simp [h, hs, hki, hk, inC]
  refine hJ7 _ _ ?_
  refine hK6 _ _ ?_
  refine run_seq_k fun K8 hK8 => ?_
  refine run_region_k rfl fun J9 hJ9 => ?_
  try simp [h, hs, hki, hk, inC]
  refine hJ9 _ _ ?_
  refine hK8 _ _ ?_
  refine run_ret ?_
  try simp only [Then, InBlock, NoGoto]
  refine answer_tmp rfl (.inr rfl) ?_
  simp [h, hs, hki, hk, inC]

/-- Where a reader of the document stands, told by what is left. -/
def At (p : List UInt8) (k : Nat) (s : Option (List UInt8)) : Prop := k ≤ p.length ∧ (s = none ∨ s = some (p.drop k))

theorem inByte_ok {σ : St} {id k : Nat} {p : List UInt8} {tl : Tail} {s : Option (List UInt8)} (h : σ.objs[id]? = some (inC p tl k s.isNone)) (hp : p.length ≤ 1000000) (hs : At p k s) :
    CallsA Try.prog 39 [.ptr id 0] σ (fun av σ' => av = .v (.int .u8 (be (takeB 1 s) : Nat)) ∧ ∃ k', At p k' (takeS 1 s) ∧ σ' = { σ with objs := σ.objs.set id (inC p tl k' (takeS 1 s).isNone) }) := by
  obtain ⟨hk, rfl | rfl⟩ := hs
  · refine callsA_mono (inByte_bad (x := .sl 1 (bytesA p) p.length tl) (y := .v (.int .i64 k)) h) (fun av σ' ⟨h1, h2⟩ => ⟨h1, k, ⟨hk, .inl rfl⟩, ?_⟩)
    rw [← h2]
    exact (St.set_same h).symm
  · by_cases hlt : k < p.length
    · have hl1 : 1 ≤ (p.drop k).length := by simp; omega
      have e1 : takeB 1 (some (p.drop k)) = [p[k]] := by
        show (if 1 ≤ (p.drop k).length then (p.drop k).take 1 else []) = _
        rw [if_pos hl1, List.drop_eq_getElem_cons hlt]; rfl
      have e2 : takeS 1 (some (p.drop k)) = some (p.drop (k + 1)) := by
        show (if 1 ≤ (p.drop k).length then some ((p.drop k).drop 1) else none) = _
        rw [if_pos hl1, List.drop_drop]
      refine callsA_mono (inByte_yes h hp hlt) (fun av σ' ⟨h1, h2⟩ => ⟨?_, k + 1, ⟨by omega, .inr e2⟩, ?_⟩)
      · rw [h1, e1]; simp [be]
      · rw [h2, e2]; rfl
    · have e0 : p.drop k = [] := List.drop_of_length_le (by omega)
      refine callsA_mono (inByte_end h (by omega)) (fun av σ' ⟨h1, h2⟩ => ⟨?_, k, ⟨hk, .inl ?_⟩, ?_⟩)
      · rw [h1, e0]; rfl
      · rw [e0]; rfl
      · rw [h2, e0]; rfl

theorem inLeft_some {σ : St} {id k : Nat} {p : List UInt8} {tl : Tail} (h : σ.objs[id]? = some (inC p tl k false)) (hp : p.length ≤ 1000000) (hk : k ≤ p.length) :
    CallsA Try.prog 45 [.ptr id 0] σ (fun av σ' => av = .v (.int .i64 (p.length - k : Nat)) ∧ σ = σ') := by
  have hw : IntKind.i64.wrap ((p.length : Int) - k) = ((p.length - k : Nat) : Int) := by rw [wrap_i64 _ (by omega) (by omega)]; omega
  unfold inC at h
  refine callsA_body Try.func45 rfl rfl rfl ?_
  refine run_seq_k fun K1 hK1 => ?_
  refine run_region_k rfl fun J2 hJ2 => ?_
  try simp [h, hw]
  refine hJ2 _ _ ?_
  refine hK1 _ _ ?_
  refine run_seq_k fun K3 hK3 => ?_
  refine run_seq_k fun K4 hK4 => ?_
  refine run_region_k rfl fun J5 hJ5 => ?_
  try simp [h, hw]
  refine hJ5 _ _ ?_
  refine hK4 _ _ ?_
  refine run_cond_false (by first | rfl | (simp [h, hw, evalA]; done)) ?_
  refine run_skip ?_
  refine hK3 _ _ ?_
  refine run_seq_k fun K6 hK6 => ?_
  refine run_draw (by kernel_rfl) fun J7 hJ7 => ?_
  refine runD_pure' 0 (by kernel_rfl) rfl rfl (by kernel_rfl) (by kernel_rfl) (by kernel_rfl) (by kernel_rfl) ?_
  try simp [h, hw]
  refine runD_pure' 1 (by kernel_rfl) rfl rfl (by kernel_rfl) (by kernel_rfl) (by kernel_rfl) (by kernel_rfl) ?_
  try simp [h, hw]
  refine runD_pure' 2 (by kernel_rfl) rfl rfl (by kernel_rfl) (by kernel_rfl) (by kernel_rfl) (by kernel_rfl) ?_
  try simp [h, hw]
  refine runD_pure' 3 (by kernel_rfl) rfl rfl (by kernel_rfl) (by kernel_rfl) (by kernel_rfl) (by kernel_rfl) ?_
  try simp [h, hw]
  refine runD_pure' 4 (by kernel_rfl) rfl rfl (by kernel_rfl) (by kernel_rfl) (by kernel_rfl) (by kernel_rfl) ?_
  try simp [h, hw]
  refine runD_pure' 5 (by kernel_rfl) rfl rfl (by kernel_rfl) (by kernel_rfl) (by kernel_rfl) (by kernel_rfl) ?_
  try simp [h, hw]
  refine runD_pure' 6 (by kernel_rfl) rfl rfl (by kernel_rfl) (by kernel_rfl) (by kernel_rfl) (by kernel_rfl) ?_
  try simp [h, hw]
  refine runD_pure' 7 (by kernel_rfl) rfl rfl (by kernel_rfl) (by kernel_rfl) (by kernel_rfl) (by kernel_rfl) ?_
  try simp [h, hw]
  refine runD_pure' 8 (by kernel_rfl) rfl rfl (by kernel_rfl) (by kernel_rfl) (by kernel_rfl) (by kernel_rfl) ?_
  try simp [h, hw]
  refine runD_pure' 9 (by kernel_rfl) rfl rfl (by kernel_rfl) (by kernel_rfl) (by kernel_rfl) (by kernel_rfl) ?_
  try simp [h, hw]
  refine runD_pure' 10 (by kernel_rfl) rfl rfl (by kernel_rfl) (by kernel_rfl) (by kernel_rfl) (by kernel_rfl) ?_
  try simp [h, hw]
  refine runD_done (by kernel_rfl) (by kernel_rfl) (by kernel_rfl) ?_
  refine hJ7 _ _ ?_
  refine hK6 _ _ ?_
  refine run_ret ?_
  try simp only [Then, InBlock, NoGoto]
  refine answer_tmp rfl (.inr rfl) ?_
  simp [h, hw]

theorem inLeft_ok {σ : St} {id k : Nat} {p : List UInt8} {tl : Tail} {s : Option (List UInt8)} (h : σ.objs[id]? = some (inC p tl k s.isNone)) (hp : p.length ≤ 1000000) (hs : At p k s) :
    CallsA Try.prog 45 [.ptr id 0] σ (fun av σ' => av = .v (.int .i64 (leftN s : Nat)) ∧ σ = σ') := by
  obtain ⟨hk, rfl | rfl⟩ := hs
  · exact inLeft_bad (x := .sl 1 (bytesA p) p.length tl) (y := .v (.int .i64 k)) h
  · have e : leftN (some (p.drop k)) = p.length - k := by simp [leftN]
    rw [e]; exact inLeft_some h hp hk

theorem inEnd_some {σ : St} {id k : Nat} {p : List UInt8} {tl : Tail} (h : σ.objs[id]? = some (inC p tl k false)) :
    CallsA Try.prog 23 [.ptr id 0] σ (fun av σ' => av = .v (.bool ((k : Int) == (p.length : Int))) ∧ σ = σ') := by
  unfold inC at h
  refine callsA_body Try.func23 rfl rfl rfl ?_
  refine run_seq_k fun K1 hK1 => ?_
  refine run_region_k rfl fun J2 hJ2 => ?_
  try simp [h]
  refine hJ2 _ _ ?_
  refine hK1 _ _ ?_
  refine run_seq_k fun K3 hK3 => ?_
  refine run_draw (by kernel_rfl) fun J4 hJ4 => ?_
  refine runD_pure' 0 (by kernel_rfl) rfl rfl (by kernel_rfl) (by kernel_rfl) (by kernel_rfl) (by kernel_rfl) ?_
  try simp [h]
  refine runD_pure' 1 (by kernel_rfl) rfl rfl (by kernel_rfl) (by kernel_rfl) (by kernel_rfl) (by kernel_rfl) ?_
  try simp [h]
  refine runD_pure' 2 (by kernel_rfl) rfl rfl (by kernel_rfl) (by kernel_rfl) (by kernel_rfl) (by kernel_rfl) ?_
  try simp [h]
  refine runD_pure' 3 (by kernel_rfl) rfl rfl (by kernel_rfl) (by kernel_rfl) (by kernel_rfl) (by kernel_rfl) ?_
  try simp [h]
  refine runD_pure' 4 (by kernel_rfl) rfl rfl (by kernel_rfl) (by kernel_rfl) (by kernel_rfl) (by kernel_rfl) ?_
  try simp [h]
  refine runD_pure' 5 (by kernel_rfl) rfl rfl (by kernel_rfl) (by kernel_rfl) (by kernel_rfl) (by kernel_rfl) ?_
  try simp [h]
  refine runD_pure' 6 (by kernel_rfl) rfl rfl (by kernel_rfl) (by kernel_rfl) (by kernel_rfl) (by kernel_rfl) ?_
  try simp [h]
  refine runD_pure' 7 (by kernel_rfl) rfl rfl (by kernel_rfl) (by kernel_rfl) (by kernel_rfl) (by kernel_rfl) ?_
  try simp [h]
  refine runD_pure' 8 (by kernel_rfl) rfl rfl (by kernel_rfl) (by kernel_rfl) (by kernel_rfl) (by kernel_rfl) ?_
  try simp [h]
  refine runD_pure' 9 (by kernel_rfl) rfl rfl (by kernel_rfl) (by kernel_rfl) (by kernel_rfl) (by kernel_rfl) ?_
  try simp [h]
  refine runD_pure' 10 (by kernel_rfl) rfl rfl (by kernel_rfl) (by kernel_rfl) (by kernel_rfl) (by kernel_rfl) ?_
  try simp [h]
  refine runD_pure' 11 (by kernel_rfl) rfl rfl (by kernel_rfl) (by kernel_rfl) (by kernel_rfl) (by kernel_rfl) ?_
  try simp [h]
  refine runD_pure' 12 (by kernel_rfl) rfl rfl (by kernel_rfl) (by kernel_rfl) (by kernel_rfl) (by kernel_rfl) ?_
  try simp [h]
  refine runD_pure' 13 (by kernel_rfl) rfl rfl (by kernel_rfl) (by kernel_rfl) (by kernel_rfl) (by kernel_rfl) ?_
  try simp [h]
  refine runD_pure' 14 (by kernel_rfl) rfl rfl (by kernel_rfl) (by kernel_rfl) (by kernel_rfl) (by kernel_rfl) ?_
  try simp [h]
  refine runD_pure' 15 (by kernel_rfl) rfl rfl (by kernel_rfl) (by kernel_rfl) (by kernel_rfl) (by kernel_rfl) ?_
  try simp [h]
  refine runD_pure' 16 (by kernel_rfl) rfl rfl (by kernel_rfl) (by kernel_rfl) (by kernel_rfl) (by kernel_rfl) ?_
  try simp [h]
  refine runD_pure' 17 (by kernel_rfl) rfl rfl (by kernel_rfl) (by kernel_rfl) (by kernel_rfl) (by kernel_rfl) ?_
  try simp [h]
  refine runD_done (by kernel_rfl) (by kernel_rfl) (by kernel_rfl) ?_
  refine hJ4 _ _ ?_
  refine hK3 _ _ ?_
  refine run_ret ?_
  try simp only [Then, InBlock, NoGoto]
  refine answer_tmp rfl (.inr rfl) ?_
  simp [h]

theorem inEnd_ok {σ : St} {id k : Nat} {p : List UInt8} {tl : Tail} {s : Option (List UInt8)} (h : σ.objs[id]? = some (inC p tl k s.isNone)) (hs : At p k s) :
    CallsA Try.prog 23 [.ptr id 0] σ (fun av σ' => av = .v (.bool (endB s)) ∧ σ = σ') := by
  obtain ⟨hk, rfl | rfl⟩ := hs
  · exact inEnd_bad (x := .sl 1 (bytesA p) p.length tl) (y := .v (.int .i64 k)) h
  · have e : endB (some (p.drop k)) = ((k : Int) == (p.length : Int)) := by
      have h1 : endB (some (p.drop k)) = true ↔ k = p.length := by simp [endB]; omega
      rw [Bool.eq_iff_iff, h1]; simp; omega
    rw [e]; exact inEnd_some h

theorem inFlag_raw {σ : St} {id k k' : Nat} {p : List UInt8} {tl : Tail} {s s1 : Option (List UInt8)} {n : Nat} (h : σ.objs[id]? = some (inC p tl k s.isNone))
    (hb : CallsA Try.prog 39 [.ptr id 0] σ (fun av σ' => av = .v (.int .u8 n) ∧ σ' = { σ with objs := σ.objs.set id (inC p tl k' s1.isNone) })) :
    CallsA Try.prog 40 [.ptr id 0] σ (fun av σ' => av = .v (.bool (!(s1.isNone || decide (1 < n)) && n == 1)) ∧ σ' = { σ with objs := σ.objs.set id (inC p tl k' (s1.isNone || decide (1 < n))) }) := by
  have hs := set_self_of h
  have d1 : decide ((1 : Int) < (n : Int)) = decide (1 < n) := by simp; omega
  have d2 : ((n : Int) == 1) = (n == 1) := by rw [Bool.eq_iff_iff]; simp; omega
  cases hz : s1.isNone with
  | true =>
    rw [hz] at hb
    refine callsA_body Try.func40 rfl rfl rfl ?_
    refine run_seq_k fun K1 hK1 => ?_
    refine run_region_k rfl fun J2 hJ2 => ?_
    try simp [hs, inC]
    refine hJ2 _ _ ?_
    refine hK1 _ _ ?_
    refine run_seq_k fun K3 hK3 => ?_
    refine run_region_k rfl fun J4 hJ4 => ?_
    try simp [hs, inC]
    refine runL_call' (b := true) (by first | rfl | (simp [hs, inC, wantedA]; done)) rfl rfl (by first | rfl | (simp [hs, inC, callOf]; done)) (by simp) (hb) ?_
    rintro _ _ ⟨rfl, rfl⟩
    try simp [hs, inC]
    refine hJ4 _ _ ?_
    refine hK3 _ _ ?_
    refine run_seq_k fun K5 hK5 => ?_
    refine run_region_k rfl fun J6 hJ6 => ?_
    try simp [hs, inC]
    refine runL_no (by first | rfl | (simp [hs, inC, wantedA]; done)) rfl ?_
    try simp [hs, inC]
    refine runL_no (by first | rfl | (simp [hs, inC, wantedA]; done)) rfl ?_
    try simp [hs, inC]
    refine hJ6 _ _ ?_
    refine hK5 _ _ ?_
    refine run_seq_k fun K7 hK7 => ?_
    refine run_region_k rfl fun J8 hJ8 => ?_
    try simp [hs, inC]
    refine runL_no (by first | rfl | (simp [hs, inC, wantedA]; done)) rfl ?_
    try simp [hs, inC]
    refine runL_no (by first | rfl | (simp [hs, inC, wantedA]; done)) rfl ?_
    try simp [hs, inC]
    refine hJ8 _ _ ?_
    refine hK7 _ _ ?_
    refine run_ret ?_
    try simp only [Then, InBlock, NoGoto]
    refine answer_tmp rfl (.inr rfl) ?_
    simp [hs, inC]
  | false =>
    rw [hz] at hb
    refine callsA_body Try.func40 rfl rfl rfl ?_
    refine run_seq_k fun K1 hK1 => ?_
    refine run_region_k rfl fun J2 hJ2 => ?_
    try simp [hs, inC]
    refine hJ2 _ _ ?_
    refine hK1 _ _ ?_
    refine run_seq_k fun K3 hK3 => ?_
    refine run_region_k rfl fun J4 hJ4 => ?_
    try simp [hs, inC]
    refine runL_call' (b := true) (by first | rfl | (simp [hs, inC, wantedA]; done)) rfl rfl (by first | rfl | (simp [hs, inC, callOf]; done)) (by simp) (hb) ?_
    rintro _ _ ⟨rfl, rfl⟩
    try simp [hs, inC]
    refine hJ4 _ _ ?_
    refine hK3 _ _ ?_
    refine run_seq_k fun K5 hK5 => ?_
    refine run_region_k rfl fun J6 hJ6 => ?_
    try simp [hs, inC]
    refine runL_go (by first | rfl | (simp [hs, inC, wantedA]; done)) rfl ?_
    try simp [hs, inC]
    refine runL_go (by first | rfl | (simp [hs, inC, wantedA]; done)) rfl ?_
    try simp [hs, inC]
    refine hJ6 _ _ ?_
    refine hK5 _ _ ?_
    refine run_seq_k fun K7 hK7 => ?_
    refine run_region_k rfl fun J8 hJ8 => ?_
    try simp [hs, inC]
    refine runL_split rfl (fun g3_5 => ?_) (fun g3_5 => ?_)
    · try (exfalso; revert g3_5; simp [hs, inC, g3_5]; done)
      all_goals
        (try simp [hs, inC] at g3_5)
        all_goals
          refine runL_go (by first | rfl | (simp [hs, inC, g3_5, wantedA]; done)) rfl ?_
          try simp [hs, inC, g3_5]
          refine runL_go (by first | rfl | (simp [hs, inC, g3_5, wantedA]; done)) rfl ?_
          try simp [hs, inC, g3_5]
          refine hJ8 _ _ ?_
          refine hK7 _ _ ?_
          refine run_ret ?_
          try simp only [Then, InBlock, NoGoto]
          refine answer_tmp rfl (.inr rfl) ?_
          simp [hs, inC, g3_5]
          first | (simp only [d1, d2]; simp; done) | (simp only [d1, d2]; done) | exact ⟨by omega, by rw [decide_eq_true (by omega : 1 < n)]⟩
    · try (exfalso; revert g3_5; simp [hs, inC, g3_5]; done)
      all_goals
        (try simp [hs, inC] at g3_5)
        all_goals
          refine runL_no (by first | rfl | (simp [hs, inC, g3_5, wantedA]; done)) rfl ?_
          try simp [hs, inC, g3_5]
          refine runL_no (by first | rfl | (simp [hs, inC, g3_5, wantedA]; done)) rfl ?_
          try simp [hs, inC, g3_5]
          refine hJ8 _ _ ?_
          refine hK7 _ _ ?_
          refine run_ret ?_
          try simp only [Then, InBlock, NoGoto]
          refine answer_tmp rfl (.inr rfl) ?_
          simp [hs, inC, g3_5]
          first | (simp only [d1, d2]; simp; done) | (simp only [d1, d2]; done) | exact ⟨by omega, by rw [decide_eq_true (by omega : 1 < n)]⟩

theorem flagB {n : Nat} {s : Option (List UInt8)} (hn : n = be (takeB 1 s)) (h0 : takeS 1 s = none → n = 0) : (!((takeS 1 s).isNone || decide (1 < n)) && n == 1) = (be (takeB 1 s) == 1) := by
  subst hn
  cases h : takeS 1 s with
  | none => simp [h0 h]
  | some q =>
    by_cases h1 : be (takeB 1 s) = 1
    · simp [h1]
    · simp [h1]

theorem takeS_none_be {s : Option (List UInt8)} (h : takeS 1 s = none) : be (takeB 1 s) = 0 := by
  cases s with
  | none => rfl
  | some p =>
    cases p with
    | nil => rfl
    | cons b l => simp [takeS] at h

end Go.Proofs.Ytkbhdlocdajhmaa
