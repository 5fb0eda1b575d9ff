import Derived.Test.YtdbaddholggkbaaC2
/-
  The codec's writer, and the constructor of a reader.
-/
namespace Go.Proofs.Ytdbaddholggkbaa
set_option linter.unnecessarySimpa false
set_option maxRecDepth 100000
open Go Go.Vm
set_option linter.unusedSimpArgs false
set_option linter.unusedVariables false

attribute [local simp] evalL wantedA isCall opA evalA evalAll evalsA evalOpt ofValue ofCell plain binA_eql_pn binA_neq_pn binA_gtr binA_lss binA_geq binA_leq binA_add binA_sub binA_eql binA_neq binA_or binA_shl binA_shr binA_mul binA_quo binA_rem convA_int unA_not fieldAddrA loadA partA pickA lenA builtinA storeA splice AV.cells AV.isCell sliceA boundA intA callOf indexAddrA newObjA buildA fillA zeroA ofCells buildSliceA appendA roomA maxLen

theorem bytes_cells {p : List UInt8} {a : AV} (h : a ∈ bytesA p) : ∃ n, a = .v (.int .u8 n) := by
  simp only [bytesA, List.mem_map] at h
  obtain ⟨b, _, rfl⟩ := h
  exact ⟨_, rfl⟩

theorem clone_raw {σ : St} {p : List UInt8} {tl : Tail} (hp : p.length ≤ 1000000) :
    CallsA Try.prog 80 [.sl 1 (bytesA p) p.length tl] σ (fun av σ' => (p = [] ∧ av = .sl 0 [] 0 .full ∧ σ' = σ) ∨ (av = .sl 1 (bytesA p) p.length (.own σ.toks.length) ∧ σ' = { σ with toks := σ.toks ++ [p.length] })) := by
  have h1 : p.length ≤ 140737488355328 := by omega
  have h2 : p.length ≤ 9223372036854775807 := by omega
  refine callsA_body Try.func80 rfl rfl rfl ?_
  refine run_seq_k fun K1 hK1 => ?_
  refine run_region_k rfl fun J2 hJ2 => ?_
  try simp [h1, h2]
  refine hJ2 _ _ ?_
  refine hK1 _ _ ?_
  refine run_seq_k fun K3 hK3 => ?_
  refine run_seq_k fun K4 hK4 => ?_
  refine run_region_k rfl fun J5 hJ5 => ?_
  try simp [h1, h2]
  refine runL_slnil (by first | rfl | (simp [h1, h2, wantedA]; done)) rfl rfl rfl (by first | rfl | (simp [h1, h2]; done)) (fun b4 hb4 => ?_)
  try simp [h1, h2]
  refine hJ5 _ _ ?_
  refine hK4 _ _ ?_
  refine run_cond_split rfl (fun c4 => ?_) (fun c4 => ?_)
  · try (exfalso; revert c4; simp [h1, h2]; done)
    all_goals
      (try simp [h1, h2] at c4)
      all_goals
        refine run_seq_k fun K7 hK7 => ?_
        refine run_region_k rfl fun J8 hJ8 => ?_
        try simp [h1, h2, c4]
        refine hJ8 _ _ ?_
        refine hK7 _ _ ?_
        refine run_ret ?_
        try simp only [Then, InBlock, NoGoto]
        refine answer_tmp rfl (.inr rfl) ?_
        exact .inl ⟨by cases p with | nil => rfl | cons x l => (simp_all), by simp, rfl⟩
  · try (exfalso; revert c4; simp [h1, h2]; done)
    all_goals
      (try simp [h1, h2] at c4)
      all_goals
        refine run_skip ?_
        refine hK3 _ _ ?_
        refine run_seq_k fun K9 hK9 => ?_
        refine run_region_k rfl fun J10 hJ10 => ?_
        try simp [h1, h2, c4]
        refine hJ10 _ _ ?_
        refine hK9 _ _ ?_
        refine run_ret ?_
        try simp only [Then, InBlock, NoGoto]
        refine answer_tmp rfl (.inr rfl) ?_
        exact .inr ⟨by simp, rfl⟩

theorem clone_ok {σ : St} {p : List UInt8} {tl : Tail} (hp : p.length ≤ 1000000) :
    CallsA Try.prog 80 [.sl 1 (bytesA p) p.length tl] σ (fun av σ' => av = .sl 1 (bytesA p) p.length .shut ∧ σ = σ') :=
  callsA_mono (callsA_gc_to (τ := σ) (A := .sl 1 (bytesA p) p.length .shut) (clone_raw hp) (fun av σ' h => by
    rcases h with ⟨rfl, rfl, rfl⟩ | ⟨rfl, rfl⟩
    · exact ⟨[], [], [], Wk.nil 0 1 .full, by simp⟩
    · exact ⟨[], [p.length], [], Wk.shut _ _ _ _, by simp⟩) (by simp [AV.under, under_bytes]) rfl rfl rfl rfl (fun _ _ h => .inl h) (fun _ r h => .inl ⟨r, h, rfl⟩)) (fun av σ' h => ⟨h.1, h.2.symm⟩)

theorem new_ok {σ : St} {p : List UInt8} {tl : Tail} (hp : p.length ≤ 1000000) :
    CallsA Try.prog 33 [.sl 1 (bytesA p) p.length tl] σ (fun av σ' => av = .ptr σ.objs.length 0 ∧ σ' = { σ with objs := σ.objs ++ [rd (some p)] }) := by
  refine callsA_body Try.func33 rfl rfl rfl ?_
  refine run_seq_k fun K1 hK1 => ?_
  refine run_region_k rfl fun J2 hJ2 => ?_
  try simp
  refine hJ2 _ _ ?_
  refine hK1 _ _ ?_
  refine run_seq_k fun K3 hK3 => ?_
  refine run_region_k rfl fun J4 hJ4 => ?_
  try simp
  refine runL_call' (b := true) (by first | rfl | (simp [wantedA]; done)) rfl rfl (by first | rfl | (simp [callOf]; done)) (by simp) (clone_ok hp) ?_
  rintro _ _ ⟨rfl, rfl⟩
  try simp
  refine hJ4 _ _ ?_
  refine hK3 _ _ ?_
  refine run_ret ?_
  try simp only [Then, InBlock, NoGoto]
  refine answer_tmp rfl (.inr rfl) ?_
  simp [rd]

/-- A number's bytes, none of them nought ahead. -/
def natBytes (x : Nat) : List UInt8 := if h : x = 0 then [] else natBytes (x / 256) ++ [UInt8.ofNat (x % 256)]
termination_by x
decreasing_by omega

theorem natBytes_zero : natBytes 0 = [] := by unfold natBytes; simp
theorem natBytes_pos {x : Nat} (h : 0 < x) : natBytes x = natBytes (x / 256) ++ [UInt8.ofNat (x % 256)] := by
  conv => lhs; unfold natBytes
  rw [dif_neg (by omega)]
theorem natBytes_nil {x : Nat} : natBytes x = [] ↔ x = 0 := by
  constructor
  · intro h
    apply Classical.byContradiction
    intro h0
    rw [natBytes_pos (by omega)] at h
    simp at h
  · rintro rfl; exact natBytes_zero

theorem limb_byte {x i : Nat} (hi : i < 32) : limb x (i / 8) / 2 ^ (8 * (i % 8)) % 256 = x / 256 ^ i % 256 := by
  have e : (256 : Nat) ^ i = 2 ^ (8 * i) := by rw [Nat.pow_mul]
  rw [e]
  apply Nat.eq_of_testBit_eq
  intro j
  rw [show (256 : Nat) = 2 ^ 8 by rfl]
  simp only [Nat.testBit_mod_two_pow, Nat.testBit_div_two_pow, limb_bit]
  by_cases hj : j < 8
  · have h1 : 8 * (i % 8) + j < 64 := by omega
    have h2 : 64 * (i / 8) + (j + 8 * (i % 8)) = j + 8 * i := by omega
    simp [hj, h2]
    omega
  · simp [hj]

end Go.Proofs.Ytdbaddholggkbaa
