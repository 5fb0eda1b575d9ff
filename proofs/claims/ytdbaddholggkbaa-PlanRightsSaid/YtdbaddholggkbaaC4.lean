import Derived.Test.YtdbaddholggkbaaC3
/-
  Numbers' bytes, laid.
-/
namespace Go.Proofs.Ytdbaddholggkbaa
set_option linter.unnecessarySimpa false
set_option maxRecDepth 100000
open Go Go.Vm
set_option linter.unusedSimpArgs false
set_option linter.unusedVariables false

attribute [local simp] evalL wantedA isCall opA evalA evalAll evalsA evalOpt ofValue ofCell plain binA_eql_pn binA_neq_pn binA_gtr binA_lss binA_geq binA_leq binA_add binA_sub binA_eql binA_neq binA_or binA_shl binA_shr binA_mul binA_quo binA_rem convA_int unA_not fieldAddrA loadA partA pickA lenA_sl builtinA storeA splice AV.cells AV.isCell sliceA boundA intA callOf indexAddrA newObjA buildA fillA zeroA ofCells buildSliceA

/-- Bytes of one's own that grow: nothing at first. -/
def mineS (σ : St) (l : List UInt8) : AV := if l = [] then .sl 0 [] 0 .full else .sl 1 (bytesA l) l.length (.own σ.toks.length)
def mineT (σ : St) (l : List UInt8) : St := if l = [] then σ else { σ with toks := σ.toks ++ [l.length] }

theorem mineS_nil (σ : St) : mineS σ [] = .sl 0 [] 0 .full := rfl
theorem mineT_nil (σ : St) : mineT σ [] = σ := rfl
@[local simp] theorem mineT_objs (σ : St) (l : List UInt8) : (mineT σ l).objs = σ.objs := by unfold mineT; split <;> rfl
@[local simp] theorem mineT_gl (σ : St) (l : List UInt8) : (mineT σ l).gl = σ.gl := by unfold mineT; split <;> rfl
theorem len_mine (σ : St) (l : List UInt8) : lenA Try.prog 47 (mineS σ l) = some (.v (.int .i64 (l.length : Nat))) := by
  unfold mineS
  split
  · rename_i h; subst h; simp [lenA]
  · simp
theorem app_mine (σ : St) (l q : List UInt8) (tl : Tail) (hl : l.length ≤ 1000000) (hq : q.length ≤ 1000000) (hq0 : q ≠ []) : appendA Try.prog 47 (mineS σ l) (.sl 1 (bytesA q) q.length tl) (mineT σ l) = some (mineS σ (l ++ q), mineT σ (l ++ q)) := by
  have h1 : q.length ≤ 140737488355328 := by omega
  have h2 : q.length ≤ 9223372036854775807 := by omega
  have h3 : l.length + q.length ≤ 140737488355328 := by omega
  have h4 : l.length + q.length ≤ 9223372036854775807 := by omega
  by_cases h : l = []
  · subst h
    simp [mineS, mineT, appendA, roomA, maxLen, h1, h2, hq0] ; rfl
  · simp [mineS, mineT, appendA, roomA, maxLen, h, h3, h4, hq0, bytesA_append] ; rfl

theorem toNat_ofNat {y : Nat} (h : y < 256) : (UInt8.ofNat y).toNat = y := by simp; omega

theorem nb_eq (x i : Nat) : x / 256 ^ i / 256 = x / 256 ^ (i + 1) := by rw [Nat.div_div_eq_div_mul, Nat.pow_succ]
theorem nb1 {x i : Nat} (h : ¬ x / 256 ^ i % 256 = 0 ∨ 0 < (natBytes (x / 256 ^ (i + 1))).length) : natBytes (x / 256 ^ i) = natBytes (x / 256 ^ (i + 1)) ++ [UInt8.ofNat (x / 256 ^ i % 256)] := by
  have h0 : 0 < x / 256 ^ i := by
    apply Nat.pos_of_ne_zero
    intro e
    rcases h with h | h
    · rw [e] at h; simp at h
    · rw [← nb_eq, e, Nat.zero_div, natBytes_zero] at h; simp at h
  rw [natBytes_pos h0, nb_eq]
theorem nb2 {x i : Nat} (h : x / 256 ^ i % 256 = 0) (h2 : ¬ 0 < (natBytes (x / 256 ^ (i + 1))).length) : natBytes (x / 256 ^ i) = natBytes (x / 256 ^ (i + 1)) := by
  have h3 : natBytes (x / 256 ^ (i + 1)) = [] := List.eq_nil_of_length_eq_zero (by omega)
  have h4 := natBytes_nil.1 h3
  rw [← nb_eq] at h4
  have h5 : x / 256 ^ i = 0 := by omega
  rw [h3, h5, natBytes_zero]

theorem bytes_raw {σ : St} {x : Nat} (hx : x < 2 ^ 256) :
    CallsA Try.prog 133 [.agg (numA x)] σ (fun av σ' => av = mineS { σ with objs := σ.objs ++ [numA x] } (natBytes x) ∧ σ' = mineT { σ with objs := σ.objs ++ [numA x] } (natBytes x)) := by
  obtain ⟨B, hB⟩ : ∃ B : St, B = { σ with objs := σ.objs ++ [numA x] } := ⟨_, rfl⟩
  rw [← hB]
  have hBo : B.objs = σ.objs ++ [numA x] := by rw [hB]
  refine callsA_body Try.func133 rfl rfl rfl ?_
  refine run_seq_k fun K1 hK1 => ?_
  refine run_region_k rfl fun J2 hJ2 => ?_
  try simp [hBo]
  refine hJ2 _ _ ?_
  refine hK1 _ _ ?_
  refine run_seq_k fun K3 hK3 => ?_
  refine run_region_k rfl fun J4 hJ4 => ?_
  try simp [hBo]
  refine hJ4 _ _ ?_
  refine hK3 _ _ ?_
  refine run_seq_k fun K5 hK5 => ?_
  refine run_seq_k fun K6 hK6 => ?_
  refine run_region_k rfl fun J7 hJ7 => ?_
  try simp [hBo]
  refine hJ7 _ _ ?_
  refine hK6 _ _ ?_
  refine run_block_k ?_
  refine run_loop (X := Nat) (fun k ρ σ1 => k ≤ 32 ∧ ρ 1 = .ptr σ.objs.length 0 ∧ ρ 3 = mineS B (natBytes (x / 256 ^ k)) ∧ ρ 4 = .v (.int .i64 ((k : Int) - 1)) ∧ (natBytes (x / 256 ^ k)).length ≤ 32 - k ∧ σ1 = mineT B (natBytes (x / 256 ^ k))) (fun k => k) (32) ?start ?round
  case start =>
    have h0 : x / 256 ^ 32 = 0 := Nat.div_eq_of_lt (by simpa using hx)
    rw [h0, natBytes_zero]
    simp [mineS_nil, mineT_nil, hB]
  case round =>
    rintro k ρ σ1 ⟨hk, h1, h3, h4, hl, rfl⟩
    refine run_seq_k fun K8 hK8 => ?_
    refine run_seq_k fun K9 hK9 => ?_
    refine run_region_k rfl fun J10 hJ10 => ?_
    try simp [hBo, h1, h3, h4]
    refine hJ10 _ _ ?_
    refine hK9 _ _ ?_
    refine run_cond_split rfl (fun c7 => ?_) (fun c7 => ?_)
    · try (exfalso; revert c7; simp [hBo, h1, h3, h4]; done)
      all_goals
        (try simp [hBo, h1, h3, h4] at c7)
        all_goals
          refine run_skip ?_
          refine hK8 _ _ ?_
          refine run_seq_k fun K12 hK12 => ?_
          refine run_block_k ?_
          refine run_seq_k fun K13 hK13 => ?_
          obtain ⟨i, hik⟩ : ∃ i, k = i + 1 := ⟨k - 1, by omega⟩
          have hki : (k : Int) - 1 = (i : Int) := by omega
          obtain ⟨q, hq⟩ : ∃ q, q = i / 8 := ⟨_, rfl⟩
          obtain ⟨r, hr⟩ : ∃ r, r = i % 8 := ⟨_, rfl⟩
          have hq4 : q < 4 := by omega
          have hq5 : (q : Int) < 4 := by omega
          have hr8 : r < 8 := by omega
          have hqq : IntKind.i64.wrap ((i : Int).tdiv 8) = (q : Int) := by rw [Int.tdiv_eq_ediv_of_nonneg (by omega), wrap_i64 _ (by omega) (by omega)]; omega
          have hrr : (i : Int).tmod 8 = (r : Int) := by rw [Int.tmod_eq_emod_of_nonneg (by omega)]; omega
          have hq2 : IntKind.i64.wrap ((i : Int) / 8) = (q : Int) := by rw [wrap_i64 _ (by omega) (by omega)]; omega
          have hr2 : (i : Int) % 8 = (r : Int) := by omega
          have hm8 : IntKind.i64.wrap (8 * (r : Int)) = 8 * (r : Int) := wrap_i64 _ (by omega) (by omega)
          have hnn : ¬ 8 * (r : Int) < 0 := by omega
          obtain ⟨y, hy⟩ : ∃ y, y = x / 256 ^ i % 256 := ⟨_, rfl⟩
          have hy256 : y < 256 := by omega
          obtain ⟨c, hc⟩ : ∃ c, c = UInt8.ofNat y := ⟨_, rfl⟩
          have hcn : c.toNat = y := by rw [hc]; exact toNat_ofNat hy256
          obtain ⟨m, hm⟩ : ∃ m, m = limb x q / 2 ^ (8 * r) := ⟨_, rfl⟩
          have hmy : m % 256 = y := by rw [hm, hq, hr, hy]; exact limb_byte (by omega)
          have hsh : Int.fdiv ((limb x q : Nat) : Int) (2 ^ (min (8 * (r : Int)).toNat 64)) = (m : Int) := by rw [show min (8 * (r : Int)).toNat 64 = 8 * r by omega, Int.fdiv_eq_ediv_of_nonneg _ (by exact Int.le_of_lt (Int.pow_pos (by omega))), hm]; simp
          have hcv : IntKind.u8.wrap (m : Int) = (c.toNat : Int) := by rw [wrap_u8, hmy, hcn]
          have hget := numA_get x hq4
          have hlen := len_mine B (natBytes (x / 256 ^ k))
          have happ := app_mine B (natBytes (x / 256 ^ k)) [c] .full (by omega) (by simp) (by simp)
          have happ2 : appendA Try.prog 47 (mineS B (natBytes (x / 256 ^ k))) (.sl 1 [.v (.int .u8 c.toNat)] 1 .full) (mineT B (natBytes (x / 256 ^ k))) = some (mineS B (natBytes (x / 256 ^ k) ++ [c]), mineT B (natBytes (x / 256 ^ k) ++ [c])) := happ
          have happ3 : c.toNat = 0 → appendA Try.prog 47 (mineS B (natBytes (x / 256 ^ k))) (.sl 1 [.v (.int .u8 0)] 1 .full) (mineT B (natBytes (x / 256 ^ k))) = some (mineS B (natBytes (x / 256 ^ k) ++ [c]), mineT B (natBytes (x / 256 ^ k) ++ [c])) := fun h => by rw [h] at happ2; exact happ2
          have hwi : IntKind.i64.wrap ((i : Int) - 1) = (i : Int) - 1 := wrap_i64 _ (by omega) (by omega)
          refine run_region_k rfl fun J14 hJ14 => ?_
          try simp [hBo, h1, h3, h4, c7, hki, hwi, hqq, hrr, hq2, hr2, hq4, hq5, hm8, hnn, hsh, hcv, hget, hlen, happ2, happ3]
          refine hJ14 _ _ ?_
          refine hK13 _ _ ?_
          refine run_seq_k fun K15 hK15 => ?_
          refine run_region_k rfl fun J16 hJ16 => ?_
          try simp [hBo, h1, h3, h4, c7, hki, hwi, hqq, hrr, hq2, hr2, hq4, hq5, hm8, hnn, hsh, hcv, hget, hlen, happ2, happ3]
          refine runL_split rfl (fun g6_2 => ?_) (fun g6_2 => ?_)
          · try (exfalso; revert g6_2; simp [hBo, h1, h3, h4, c7, hki, hwi, hqq, hrr, hq2, hr2, hq4, hq5, hm8, hnn, hsh, hcv, hget, hlen, happ2, happ3, g6_2]; done)
            all_goals
              (try simp [hBo, h1, h3, h4, c7, hki, hwi, hqq, hrr, hq2, hr2, hq4, hq5, hm8, hnn, hsh, hcv, hget, hlen, happ2, happ3] at g6_2)
              all_goals
                refine runL_go (by first | rfl | (simp [hBo, h1, h3, h4, c7, hki, hwi, hqq, hrr, hq2, hr2, hq4, hq5, hm8, hnn, hsh, hcv, hget, hlen, happ2, happ3, g6_2, wantedA]; done)) rfl ?_
                try simp [hBo, h1, h3, h4, c7, hki, hwi, hqq, hrr, hq2, hr2, hq4, hq5, hm8, hnn, hsh, hcv, hget, hlen, happ2, happ3, g6_2]
                refine runL_go (by first | rfl | (simp [hBo, h1, h3, h4, c7, hki, hwi, hqq, hrr, hq2, hr2, hq4, hq5, hm8, hnn, hsh, hcv, hget, hlen, happ2, happ3, g6_2, wantedA]; done)) rfl ?_
                try simp [hBo, h1, h3, h4, c7, hki, hwi, hqq, hrr, hq2, hr2, hq4, hq5, hm8, hnn, hsh, hcv, hget, hlen, happ2, happ3, g6_2]
                refine runL_go (by first | rfl | (simp [hBo, h1, h3, h4, c7, hki, hwi, hqq, hrr, hq2, hr2, hq4, hq5, hm8, hnn, hsh, hcv, hget, hlen, happ2, happ3, g6_2, wantedA]; done)) rfl ?_
                try simp [hBo, h1, h3, h4, c7, hki, hwi, hqq, hrr, hq2, hr2, hq4, hq5, hm8, hnn, hsh, hcv, hget, hlen, happ2, happ3, g6_2]
                refine hJ16 _ _ ?_
                refine hK15 _ _ ?_
                refine run_cond_split rfl (fun c25 => ?_) (fun c25 => ?_)
                · try (exfalso; revert c25; simp [hBo, h1, h3, h4, c7, hki, hwi, hqq, hrr, hq2, hr2, hq4, hq5, hm8, hnn, hsh, hcv, hget, hlen, happ2, happ3, g6_2]; done)
                  all_goals
                    (try simp [hBo, h1, h3, h4, c7, hki, hwi, hqq, hrr, hq2, hr2, hq4, hq5, hm8, hnn, hsh, hcv, hget, hlen, happ2, happ3, g6_2] at c25)
                    all_goals
                      refine run_region_k rfl fun J18 hJ18 => ?_
                      try simp [hBo, h1, h3, h4, c7, hki, hwi, hqq, hrr, hq2, hr2, hq4, hq5, hm8, hnn, hsh, hcv, hget, hlen, happ2, happ3, g6_2, c25]
                      refine hJ18 _ _ ?_
                      refine hK12 _ _ ?_
                      refine run_region_k rfl fun J19 hJ19 => ?_
                      try simp [hBo, h1, h3, h4, c7, hki, hwi, hqq, hrr, hq2, hr2, hq4, hq5, hm8, hnn, hsh, hcv, hget, hlen, happ2, happ3, g6_2, c25]
                      refine hJ19 _ _ ?_
                      first | (have e : natBytes (x / 256 ^ i) = natBytes (x / 256 ^ k) ++ [c] := (by rw [hik, hc, hy]; exact nb1 (by first | (right; rw [← hik]; exact c25) | (left; omega))); exact ⟨i, ⟨by omega, by simp [h1], by rw [e]; simp, by simp, by rw [e]; simp; omega, by rw [e]⟩, by omega⟩) | (have e : natBytes (x / 256 ^ i) = natBytes (x / 256 ^ k) := (by rw [hik]; exact nb2 (by omega) (by rw [← hik, c25]; simp)); exact ⟨i, ⟨by omega, by simp [h1], by rw [e]; simp [h3], by simp, by rw [e]; omega, by rw [e, c25]⟩, by omega⟩)
                · try (exfalso; revert c25; simp [hBo, h1, h3, h4, c7, hki, hwi, hqq, hrr, hq2, hr2, hq4, hq5, hm8, hnn, hsh, hcv, hget, hlen, happ2, happ3, g6_2]; done)
                  all_goals
                    (try simp [hBo, h1, h3, h4, c7, hki, hwi, hqq, hrr, hq2, hr2, hq4, hq5, hm8, hnn, hsh, hcv, hget, hlen, happ2, happ3, g6_2] at c25)
                    all_goals
                      refine run_skip ?_
                      refine hK12 _ _ ?_
                      refine run_region_k rfl fun J20 hJ20 => ?_
                      try simp [hBo, h1, h3, h4, c7, hki, hwi, hqq, hrr, hq2, hr2, hq4, hq5, hm8, hnn, hsh, hcv, hget, hlen, happ2, happ3, g6_2, c25]
                      refine hJ20 _ _ ?_
                      first | (have e : natBytes (x / 256 ^ i) = natBytes (x / 256 ^ k) ++ [c] := (by rw [hik, hc, hy]; exact nb1 (by first | (right; rw [← hik]; exact c25) | (left; omega))); exact ⟨i, ⟨by omega, by simp [h1], by rw [e]; simp, by simp, by rw [e]; simp; omega, by rw [e]⟩, by omega⟩) | (have e : natBytes (x / 256 ^ i) = natBytes (x / 256 ^ k) := (by rw [hik]; exact nb2 (by omega) (by rw [← hik, c25]; simp)); exact ⟨i, ⟨by omega, by simp [h1], by rw [e]; simp [h3], by simp, by rw [e]; omega, by rw [e, c25]⟩, by omega⟩)
          · try (exfalso; revert g6_2; simp [hBo, h1, h3, h4, c7, hki, hwi, hqq, hrr, hq2, hr2, hq4, hq5, hm8, hnn, hsh, hcv, hget, hlen, happ2, happ3, g6_2]; done)
            all_goals
              (try simp [hBo, h1, h3, h4, c7, hki, hwi, hqq, hrr, hq2, hr2, hq4, hq5, hm8, hnn, hsh, hcv, hget, hlen, happ2, happ3] at g6_2)
              all_goals
                refine runL_no (by first | rfl | (simp [hBo, h1, h3, h4, c7, hki, hwi, hqq, hrr, hq2, hr2, hq4, hq5, hm8, hnn, hsh, hcv, hget, hlen, happ2, happ3, g6_2, wantedA]; done)) rfl ?_
                try simp [hBo, h1, h3, h4, c7, hki, hwi, hqq, hrr, hq2, hr2, hq4, hq5, hm8, hnn, hsh, hcv, hget, hlen, happ2, happ3, g6_2]
                refine runL_no (by first | rfl | (simp [hBo, h1, h3, h4, c7, hki, hwi, hqq, hrr, hq2, hr2, hq4, hq5, hm8, hnn, hsh, hcv, hget, hlen, happ2, happ3, g6_2, wantedA]; done)) rfl ?_
                try simp [hBo, h1, h3, h4, c7, hki, hwi, hqq, hrr, hq2, hr2, hq4, hq5, hm8, hnn, hsh, hcv, hget, hlen, happ2, happ3, g6_2]
                refine runL_no (by first | rfl | (simp [hBo, h1, h3, h4, c7, hki, hwi, hqq, hrr, hq2, hr2, hq4, hq5, hm8, hnn, hsh, hcv, hget, hlen, happ2, happ3, g6_2, wantedA]; done)) rfl ?_
                try simp [hBo, h1, h3, h4, c7, hki, hwi, hqq, hrr, hq2, hr2, hq4, hq5, hm8, hnn, hsh, hcv, hget, hlen, happ2, happ3, g6_2]
                refine hJ16 _ _ ?_
                refine hK15 _ _ ?_
                refine run_cond_split rfl (fun c25 => ?_) (fun c25 => ?_)
                · try (exfalso; revert c25; simp [hBo, h1, h3, h4, c7, hki, hwi, hqq, hrr, hq2, hr2, hq4, hq5, hm8, hnn, hsh, hcv, hget, hlen, happ2, happ3, g6_2]; done)
                  all_goals
                    (try simp [hBo, h1, h3, h4, c7, hki, hwi, hqq, hrr, hq2, hr2, hq4, hq5, hm8, hnn, hsh, hcv, hget, hlen, happ2, happ3, g6_2] at c25)
                    all_goals
                      refine run_region_k rfl fun J22 hJ22 => ?_
                      try simp [hBo, h1, h3, h4, c7, hki, hwi, hqq, hrr, hq2, hr2, hq4, hq5, hm8, hnn, hsh, hcv, hget, hlen, happ2, happ3, g6_2, c25]
                      refine hJ22 _ _ ?_
                      refine hK12 _ _ ?_
                      refine run_region_k rfl fun J23 hJ23 => ?_
                      try simp [hBo, h1, h3, h4, c7, hki, hwi, hqq, hrr, hq2, hr2, hq4, hq5, hm8, hnn, hsh, hcv, hget, hlen, happ2, happ3, g6_2, c25]
                      refine hJ23 _ _ ?_
                      first | (have e : natBytes (x / 256 ^ i) = natBytes (x / 256 ^ k) ++ [c] := (by rw [hik, hc, hy]; exact nb1 (by first | (right; rw [← hik]; exact c25) | (left; omega))); exact ⟨i, ⟨by omega, by simp [h1], by rw [e]; simp, by simp, by rw [e]; simp; omega, by rw [e]⟩, by omega⟩) | (have e : natBytes (x / 256 ^ i) = natBytes (x / 256 ^ k) := (by rw [hik]; exact nb2 (by omega) (by rw [← hik, c25]; simp)); exact ⟨i, ⟨by omega, by simp [h1], by rw [e]; simp [h3], by simp, by rw [e]; omega, by rw [e, c25]⟩, by omega⟩)
                · try (exfalso; revert c25; simp [hBo, h1, h3, h4, c7, hki, hwi, hqq, hrr, hq2, hr2, hq4, hq5, hm8, hnn, hsh, hcv, hget, hlen, happ2, happ3, g6_2]; done)
                  all_goals
                    (try simp [hBo, h1, h3, h4, c7, hki, hwi, hqq, hrr, hq2, hr2, hq4, hq5, hm8, hnn, hsh, hcv, hget, hlen, happ2, happ3, g6_2] at c25)
                    all_goals
                      refine run_skip ?_
                      refine hK12 _ _ ?_
                      refine run_region_k rfl fun J24 hJ24 => ?_
                      try simp [hBo, h1, h3, h4, c7, hki, hwi, hqq, hrr, hq2, hr2, hq4, hq5, hm8, hnn, hsh, hcv, hget, hlen, happ2, happ3, g6_2, c25]
                      refine hJ24 _ _ ?_
                      first | (have e : natBytes (x / 256 ^ i) = natBytes (x / 256 ^ k) ++ [c] := (by rw [hik, hc, hy]; exact nb1 (by first | (right; rw [← hik]; exact c25) | (left; omega))); exact ⟨i, ⟨by omega, by simp [h1], by rw [e]; simp, by simp, by rw [e]; simp; omega, by rw [e]⟩, by omega⟩) | (have e : natBytes (x / 256 ^ i) = natBytes (x / 256 ^ k) := (by rw [hik]; exact nb2 (by omega) (by rw [← hik, c25]; simp)); exact ⟨i, ⟨by omega, by simp [h1], by rw [e]; simp [h3], by simp, by rw [e]; omega, by rw [e, c25]⟩, by omega⟩)
    · try (exfalso; revert c7; simp [hBo, h1, h3, h4]; done)
      all_goals
        (try simp [hBo, h1, h3, h4] at c7)
        all_goals
          refine run_exit ?_
          refine hK5 _ _ ?_
          refine run_seq_k fun K25 hK25 => ?_
          refine run_region_k rfl fun J26 hJ26 => ?_
          try simp [hBo, h1, h3, h4, c7]
          refine hJ26 _ _ ?_
          refine hK25 _ _ ?_
          refine run_ret ?_
          try simp only [Then, InBlock, NoGoto]
          refine answer_tmp rfl (.inr rfl) ?_
          have hk0 : k = 0 := by omega
          subst hk0
          simp

theorem mineS_wk (σ : St) (l : List UInt8) : Wk (mineS σ l) (.sl 1 (bytesA l) l.length .shut) := by
  unfold mineS
  split
  · rename_i h; subst h; exact Wk.nil 0 1 .full
  · exact Wk.shut _ _ _ _

theorem bytes_ok {σ : St} {x : Nat} (hx : x < 2 ^ 256) :
    CallsA Try.prog 133 [.agg (numA x)] σ (fun av σ' => av = .sl 1 (bytesA (natBytes x)) (natBytes x).length .shut ∧ σ = σ') :=
  callsA_gc_same (bytes_raw hx) (fun av σ' ⟨h1, h2⟩ => ⟨h1 ▸ mineS_wk _ _, by
    rw [h2]
    unfold mineT
    split
    · exact ⟨[numA x], [], [], by simp⟩
    · exact ⟨[numA x], [(natBytes x).length], [], by simp⟩⟩) (by simp [AV.under, under_bytes])

end Go.Proofs.Ytdbaddholggkbaa
