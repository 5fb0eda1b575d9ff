import Derived.Test.YtkbhdlocdajhmaaE1
/-
  The document's writer: a number's bytes, numbers and lists of coins.
-/
namespace Go.Proofs.Ytkbhdlocdajhmaa
set_option linter.unnecessarySimpa false
open Go Go.Vm
set_option linter.unusedSimpArgs false
set_option linter.unusedVariables false
set_option maxRecDepth 100000

attribute [local simp] evalL wantedA isCall opA evalA evalAll evalsA evalOpt ofValue ofCell plain binA_eql_pn binA_neq_pn binA_gtr binA_lss binA_geq binA_leq binA_add binA_sub binA_eql binA_neq binA_or binA_shl binA_shr binA_mul binA_quo binA_rem binA_agg_eql binA_agg_neq convA_int unA_not fieldAddrA loadA partA pickA_true pickA_false pickA_bb lenA_sl builtinA storeA splice AV.cells AV.isCell sliceA boundA intA callOf indexAddrA newObjA buildA fillA zeroA ofCells buildSliceA indexA fieldA coinsC_at

theorem len_wrA (k : Nat) (l : List UInt8) : lenA Try.prog 22 (wrA k l) = some (.v (.int .i64 (l.length : Nat))) := by
  unfold wrA
  split
  · rename_i h; subst h; simp [lenA]
  · simp [lenA]

theorem dig_byte {x i : Nat} : x / 65536 ^ (i / 2) % 65536 / 2 ^ (8 * (i % 2)) % 256 = x / 256 ^ i % 256 := by
  have e : (256 : Nat) ^ i = 2 ^ (8 * i) := by rw [Nat.pow_mul]
  have e2 : (65536 : Nat) ^ (i / 2) = 2 ^ (16 * (i / 2)) := by rw [Nat.pow_mul]
  rw [e, e2]
  apply Nat.eq_of_testBit_eq
  intro j
  rw [show (65536 : Nat) = 2 ^ 16 by rfl, show (256 : Nat) = 2 ^ 8 by rfl]
  simp only [Nat.testBit_mod_two_pow, Nat.testBit_div_two_pow]
  by_cases hj : j < 8
  · have h1 : j + 8 * (i % 2) < 16 := by omega
    have h2 : j + 8 * (i % 2) + 16 * (i / 2) = j + 8 * i := by omega
    simp [hj, h1, h2]
  · simp [hj]

theorem digs_get {x q : Nat} (hq : q < 16) : (dgA (digs x))[q]? = some (.v (.int .u64 (x / 65536 ^ q % 65536 : Nat))) := by
  simp [dgA, digs, hq]

theorem append_byte0 {l : List UInt8} [hsm : SmallB l] {objs : List (List AV)} {tk : List Nat} {gl : Nat → Option (List AV)} {rows : List RowSt} :
    appendA Try.prog 22 (wrA tk.length l) (.sl 1 [.v (.int .u8 0)] 1 .full) ⟨objs, tk ++ tkB l, gl, rows⟩ = some (wrA tk.length (l ++ [0]), ⟨objs, tk ++ tkB (l ++ [0]), gl, rows⟩) := append_byte (b := 0)

attribute [local simp] undefA List.getElem?_cons_zero List.getElem?_cons_succ in
theorem rbytes_ok {σ : St} {x : Nat} (hx : x < 2 ^ 256) :
    CallsA Try.prog 57 [.agg (numA x)] σ (fun av σ' => av = .sl 1 (bytesA (natBytes x)) (natBytes x).length .shut ∧ σ = σ') := by
  refine callsA_gcS ?_ (by simp [AV.under])
  have hv : (Value.int IntKind.u8 0).cells.size = 1 := rfl
  refine callsA_body Try.func57 rfl rfl rfl ?_
  refine run_seq_k fun K1 hK1 => ?_
  refine run_region_k rfl fun J2 hJ2 => ?_
  repeat (first | simp [hv, append_byte, append_byte0, len_wrA] | simp (disch := omega) only [wC, if_pos, if_neg])
  refine hJ2 _ _ ?_
  refine hK1 _ _ ?_
  refine run_seq_k fun K3 hK3 => ?_
  refine run_region_k rfl fun J4 hJ4 => ?_
  repeat (first | simp [hv, append_byte, append_byte0, len_wrA] | simp (disch := omega) only [wC, if_pos, if_neg])
  refine runL_call' (b := true) (by first | rfl | (simp [hv, append_byte, append_byte0, len_wrA, wantedA]; done)) rfl rfl (by first | rfl | (simp [hv, append_byte, append_byte0, len_wrA, callOf]; done)) (by simp) (digits_ok) ?_
  rintro _ _ ⟨rfl, rfl⟩
  repeat (first | simp [hv, append_byte, append_byte0, len_wrA] | simp (disch := omega) only [wC, if_pos, if_neg])
  refine hJ4 _ _ ?_
  refine hK3 _ _ ?_
  refine run_seq_k fun K5 hK5 => ?_
  refine run_region_k rfl fun J6 hJ6 => ?_
  repeat (first | simp [hv, append_byte, append_byte0, len_wrA] | simp (disch := omega) only [wC, if_pos, if_neg])
  refine hJ6 _ _ ?_
  refine hK5 _ _ ?_
  refine run_seq_k fun K7 hK7 => ?_
  refine run_seq_k fun K8 hK8 => ?_
  refine run_region_k rfl fun J9 hJ9 => ?_
  repeat (first | simp [hv, append_byte, append_byte0, len_wrA] | simp (disch := omega) only [wC, if_pos, if_neg])
  refine hJ9 _ _ ?_
  refine hK8 _ _ ?_
  refine run_block_k ?_
  have h00 : x / 256 ^ 32 = 0 := Nat.div_eq_of_lt (by simpa using hx)
  refine run_loopF (X := Nat) [2, 3] (fun k ρ σ1 => (k ≤ 32) ∧ (ρ 4 = wrA σ.toks.length (natBytes (x / 256 ^ k))) ∧ (ρ 5 = .v (.int .i64 ((k : Int) - 1))) ∧ ((natBytes (x / 256 ^ k)).length ≤ 32 - k) ∧ (σ1 = { σ with objs := σ.objs ++ [numA x], toks := σ.toks ++ tkB (natBytes (x / 256 ^ k)) })) (fun k => k) (32) ?st1 ?rd1
  case st1 =>
    refine ⟨?_, ?_, ?_, ?_, ?_⟩
    · first | rfl | (simp [hv, append_byte, append_byte0, len_wrA]; done) | omega | assumption | (simp [hv, append_byte, append_byte0, len_wrA]; omega) | (simp only [putA_get]; simp (disch := omega) only [wC, if_pos, if_neg]; simp [hv, append_byte, append_byte0, len_wrA]; done) | (simp [hv, append_byte, append_byte0, len_wrA]; simp (disch := omega) only [wC, if_pos, if_neg]; simp [hv, append_byte, append_byte0, len_wrA]; done)
    · rw [h00, natBytes_zero]
      simp [wrA_nil]
    · first | rfl | (simp [hv, append_byte, append_byte0, len_wrA]; done) | omega | assumption | (simp [hv, append_byte, append_byte0, len_wrA]; omega) | (simp only [putA_get]; simp (disch := omega) only [wC, if_pos, if_neg]; simp [hv, append_byte, append_byte0, len_wrA]; done) | (simp [hv, append_byte, append_byte0, len_wrA]; simp (disch := omega) only [wC, if_pos, if_neg]; simp [hv, append_byte, append_byte0, len_wrA]; done)
    · rw [h00, natBytes_zero]
      simp
    · rw [h00, natBytes_zero]
      simp
  case rd1 =>
    rintro k ρ1 σ1 hF1 ⟨hj, h4, h5, hl, hσ⟩
    obtain rfl := hσ.symm
    have f1_2 := hF1 2 (by decide)
    try simp [hv, append_byte, append_byte0, len_wrA] at f1_2
    have f1_3 := hF1 3 (by decide)
    try simp [hv, append_byte, append_byte0, len_wrA] at f1_3
    refine run_seq_k fun K10 hK10 => ?_
    refine run_seq_k fun K11 hK11 => ?_
    refine run_region_k rfl fun J12 hJ12 => ?_
    repeat (first | simp [hv, append_byte, append_byte0, len_wrA, h4, h5, f1_2, f1_3] | simp (disch := omega) only [wC, if_pos, if_neg])
    refine hJ12 _ _ ?_
    refine hK11 _ _ ?_
    refine run_cond_split (by first | rfl | (simp [hv, append_byte, append_byte0, len_wrA, h4, h5, f1_2, f1_3, evalA]; done)) (fun c10 => ?_) (fun c10 => ?_)
    · try (exfalso; first | (revert c10; simp [hv, append_byte, append_byte0, len_wrA, h4, h5, f1_2, f1_3]; done) | (have gq := c10; simp [hv, append_byte, append_byte0, len_wrA, h4, h5, f1_2, f1_3] at gq; omega) | (have gq := c10; simp [hv, append_byte, append_byte0, len_wrA, h4, h5, f1_2, f1_3] at gq; done))
      all_goals
        have c10p := c10
        try simp [hv, append_byte, append_byte0, len_wrA, h4, h5, f1_2, f1_3] at c10p
        all_goals (first | (have gq := c10p; skip) | have c10p : True := True.intro)
        all_goals
          refine run_skip ?_
          refine hK10 _ _ ?_
          refine run_seq_k fun K13 hK13 => ?_
          refine run_block_k ?_
          refine run_seq_k fun K14 hK14 => ?_
          obtain ⟨i, rfl⟩ : ∃ i, k = i + 1 := ⟨k - 1, by simp at c10; omega⟩
          have hki : ((i + 1 : Nat) : Int) - 1 = (i : Int) := by omega
          obtain ⟨q, hq⟩ : ∃ q, q = i / 2 := ⟨_, rfl⟩
          obtain ⟨r, hr⟩ : ∃ r, r = i % 2 := ⟨_, rfl⟩
          have hq4 : q < 16 := by omega
          have hq5 : (q : Int) < 16 := by omega
          have hr8 : r < 2 := by omega
          have hqq : IntKind.i64.wrap ((i : Int).tdiv 2) = (q : Int) := by rw [Int.tdiv_eq_ediv_of_nonneg (by omega), wrap_i64 _ (by omega) (by omega)]; omega
          have hrr : (i : Int).tmod 2 = (r : Int) := by rw [Int.tmod_eq_emod_of_nonneg (by omega)]; omega
          have hq2 : IntKind.i64.wrap ((i : Int) / 2) = (q : Int) := by rw [wrap_i64 _ (by omega) (by omega)]; omega
          have hr2 : (i : Int) % 2 = (r : Int) := by omega
          have hnn : ¬ 8 * (r : Int) < 0 := by omega
          obtain ⟨m, hm⟩ : ∃ m, m = x / 65536 ^ q % 65536 := ⟨_, rfl⟩
          have hget := digs_get (x := x) hq4
          rw [← hm] at hget
          obtain ⟨c, hc⟩ : ∃ c, c = UInt8.ofNat (x / 256 ^ i % 256) := ⟨_, rfl⟩
          have hcn : c.toNat = x / 256 ^ i % 256 := by rw [hc]; exact toNat_ofNat (by omega)
          have hmy : m / 2 ^ (8 * r) % 256 = c.toNat := by rw [hm, hq, hr, hcn]; exact dig_byte
          have hsh : Int.fdiv (m : Int) (2 ^ (min (8 * (r : Int)).toNat 64)) = ((m / 2 ^ (8 * r) : Nat) : Int) := by rw [show min (8 * (r : Int)).toNat 64 = 8 * r by omega, Int.fdiv_eq_ediv_of_nonneg _ (by exact Int.le_of_lt (Int.pow_pos (by omega)))]; simp
          have hcv : IntKind.u8.wrap ((m / 2 ^ (8 * r) : Nat) : Int) = (c.toNat : Int) := by rw [wrap_u8, hmy]
          generalize m / 2 ^ (8 * r) = z at *
          have : SmallB (natBytes (x / 256 ^ (i + 1))) := ⟨by omega⟩
          refine run_region_k rfl fun J15 hJ15 => ?_
          repeat (first | simp [hv, append_byte, append_byte0, len_wrA, h4, h5, f1_2, f1_3, c10, c10p, hki, hqq, hrr, hq2, hr2, hq4, hq5, hnn, hsh, hcv, hget] | simp (disch := omega) only [wC, if_pos, if_neg])
          refine hJ15 _ _ ?_
          refine hK14 _ _ ?_
          refine run_seq_k fun K16 hK16 => ?_
          refine run_region_k rfl fun J17 hJ17 => ?_
          repeat (first | simp [hv, append_byte, append_byte0, len_wrA, h4, h5, f1_2, f1_3, c10, c10p, hki, hqq, hrr, hq2, hr2, hq4, hq5, hnn, hsh, hcv, hget] | simp (disch := omega) only [wC, if_pos, if_neg])
          refine runL_splitB 25 (by first | rfl | (simp [hv, append_byte, append_byte0, len_wrA, h4, h5, f1_2, f1_3, c10, c10p, hki, hqq, hrr, hq2, hr2, hq4, hq5, hnn, hsh, hcv, hget]; done)) (fun g7_2 => ?_) (fun g7_2 => ?_)
          · try (exfalso; first | (revert g7_2; simp [hv, append_byte, append_byte0, len_wrA, h4, h5, f1_2, f1_3, c10, c10p, hki, hqq, hrr, hq2, hr2, hq4, hq5, hnn, hsh, hcv, hget]; done) | (have gq := g7_2; simp [hv, append_byte, append_byte0, len_wrA, h4, h5, f1_2, f1_3, c10, c10p, hki, hqq, hrr, hq2, hr2, hq4, hq5, hnn, hsh, hcv, hget] at gq; omega) | (have gq := g7_2; simp [hv, append_byte, append_byte0, len_wrA, h4, h5, f1_2, f1_3, c10, c10p, hki, hqq, hrr, hq2, hr2, hq4, hq5, hnn, hsh, hcv, hget] at gq; done))
            all_goals
              have g7_2p := g7_2
              try simp [hv, append_byte, append_byte0, len_wrA, h4, h5, f1_2, f1_3, c10, c10p, hki, hqq, hrr, hq2, hr2, hq4, hq5, hnn, hsh, hcv, hget] at g7_2p
              all_goals (first | (have gq := g7_2p; skip) | have g7_2p : True := True.intro)
              all_goals
                have e : natBytes (x / 256 ^ i) = natBytes (x / 256 ^ (i + 1)) ++ [c] := by rw [hc]; exact nb1 (.inl (by simp at g7_2; omega))
                refine runL_no (by first | rfl | (simp [hv, append_byte, append_byte0, len_wrA, h4, h5, f1_2, f1_3, c10, c10p, hki, hqq, hrr, hq2, hr2, hq4, hq5, hnn, hsh, hcv, hget, g7_2, g7_2p, wantedA]; done)) rfl ?_
                repeat (first | simp [hv, append_byte, append_byte0, len_wrA, h4, h5, f1_2, f1_3, c10, c10p, hki, hqq, hrr, hq2, hr2, hq4, hq5, hnn, hsh, hcv, hget, g7_2, g7_2p] | simp (disch := omega) only [wC, if_pos, if_neg])
                refine runL_no (by first | rfl | (simp [hv, append_byte, append_byte0, len_wrA, h4, h5, f1_2, f1_3, c10, c10p, hki, hqq, hrr, hq2, hr2, hq4, hq5, hnn, hsh, hcv, hget, g7_2, g7_2p, wantedA]; done)) rfl ?_
                repeat (first | simp [hv, append_byte, append_byte0, len_wrA, h4, h5, f1_2, f1_3, c10, c10p, hki, hqq, hrr, hq2, hr2, hq4, hq5, hnn, hsh, hcv, hget, g7_2, g7_2p] | simp (disch := omega) only [wC, if_pos, if_neg])
                refine runL_no (by first | rfl | (simp [hv, append_byte, append_byte0, len_wrA, h4, h5, f1_2, f1_3, c10, c10p, hki, hqq, hrr, hq2, hr2, hq4, hq5, hnn, hsh, hcv, hget, g7_2, g7_2p, wantedA]; done)) rfl ?_
                repeat (first | simp [hv, append_byte, append_byte0, len_wrA, h4, h5, f1_2, f1_3, c10, c10p, hki, hqq, hrr, hq2, hr2, hq4, hq5, hnn, hsh, hcv, hget, g7_2, g7_2p] | simp (disch := omega) only [wC, if_pos, if_neg])
                refine hJ17 _ _ ?_
                refine hK16 _ _ ?_
                refine run_cond_true (by first | rfl | (simp [hv, append_byte, append_byte0, len_wrA, h4, h5, f1_2, f1_3, c10, c10p, hki, hqq, hrr, hq2, hr2, hq4, hq5, hnn, hsh, hcv, hget, g7_2, g7_2p, evalA]; done)) ?_
                refine run_region_k rfl fun J18 hJ18 => ?_
                repeat (first | simp [hv, append_byte, append_byte0, len_wrA, h4, h5, f1_2, f1_3, c10, c10p, hki, hqq, hrr, hq2, hr2, hq4, hq5, hnn, hsh, hcv, hget, g7_2, g7_2p] | simp (disch := omega) only [wC, if_pos, if_neg])
                refine hJ18 _ _ ?_
                refine hK13 _ _ ?_
                refine run_region_k rfl fun J19 hJ19 => ?_
                repeat (first | simp [hv, append_byte, append_byte0, len_wrA, h4, h5, f1_2, f1_3, c10, c10p, hki, hqq, hrr, hq2, hr2, hq4, hq5, hnn, hsh, hcv, hget, g7_2, g7_2p] | simp (disch := omega) only [wC, if_pos, if_neg])
                refine hJ19 _ _ ?_
                refine ⟨(i), ⟨?_, ?_, ?_, ?_, ?_, ?_⟩, ?_⟩
                · first | (simp [hv, append_byte, append_byte0, len_wrA, h4, h5, f1_2, f1_3, c10, c10p, hki, hqq, hrr, hq2, hr2, hq4, hq5, hnn, hsh, hcv, hget, g7_2, g7_2p]; done) | (intro r hr; revert hr; simp [hv, append_byte, append_byte0, len_wrA, h4, h5, f1_2, f1_3, c10, c10p, hki, hqq, hrr, hq2, hr2, hq4, hq5, hnn, hsh, hcv, hget, g7_2, g7_2p]; done) | (intro r hr; simp only [List.mem_cons, List.not_mem_nil, or_false] at hr; rcases hr with rfl | rfl <;> simp [hv, append_byte, append_byte0, len_wrA, h4, h5, f1_2, f1_3, c10, c10p, hki, hqq, hrr, hq2, hr2, hq4, hq5, hnn, hsh, hcv, hget, g7_2, g7_2p] <;> done)
                · first | rfl | (simp [hv, append_byte, append_byte0, len_wrA, h4, h5, f1_2, f1_3, c10, c10p, hki, hqq, hrr, hq2, hr2, hq4, hq5, hnn, hsh, hcv, hget, g7_2, g7_2p]; done) | omega | assumption | (simp [hv, append_byte, append_byte0, len_wrA, h4, h5, f1_2, f1_3, c10, c10p, hki, hqq, hrr, hq2, hr2, hq4, hq5, hnn, hsh, hcv, hget, g7_2, g7_2p]; omega) | (simp only [putA_get]; simp (disch := omega) only [wC, if_pos, if_neg]; simp [hv, append_byte, append_byte0, len_wrA, h4, h5, f1_2, f1_3, c10, c10p, hki, hqq, hrr, hq2, hr2, hq4, hq5, hnn, hsh, hcv, hget, g7_2, g7_2p]; done) | (simp [hv, append_byte, append_byte0, len_wrA, h4, h5, f1_2, f1_3, c10, c10p, hki, hqq, hrr, hq2, hr2, hq4, hq5, hnn, hsh, hcv, hget, g7_2, g7_2p]; simp (disch := omega) only [wC, if_pos, if_neg]; simp [hv, append_byte, append_byte0, len_wrA, h4, h5, f1_2, f1_3, c10, c10p, hki, hqq, hrr, hq2, hr2, hq4, hq5, hnn, hsh, hcv, hget, g7_2, g7_2p]; done)
                · simp [e]
                · first | rfl | (simp [hv, append_byte, append_byte0, len_wrA, h4, h5, f1_2, f1_3, c10, c10p, hki, hqq, hrr, hq2, hr2, hq4, hq5, hnn, hsh, hcv, hget, g7_2, g7_2p]; done) | omega | assumption | (simp [hv, append_byte, append_byte0, len_wrA, h4, h5, f1_2, f1_3, c10, c10p, hki, hqq, hrr, hq2, hr2, hq4, hq5, hnn, hsh, hcv, hget, g7_2, g7_2p]; omega) | (simp only [putA_get]; simp (disch := omega) only [wC, if_pos, if_neg]; simp [hv, append_byte, append_byte0, len_wrA, h4, h5, f1_2, f1_3, c10, c10p, hki, hqq, hrr, hq2, hr2, hq4, hq5, hnn, hsh, hcv, hget, g7_2, g7_2p]; done) | (simp [hv, append_byte, append_byte0, len_wrA, h4, h5, f1_2, f1_3, c10, c10p, hki, hqq, hrr, hq2, hr2, hq4, hq5, hnn, hsh, hcv, hget, g7_2, g7_2p]; simp (disch := omega) only [wC, if_pos, if_neg]; simp [hv, append_byte, append_byte0, len_wrA, h4, h5, f1_2, f1_3, c10, c10p, hki, hqq, hrr, hq2, hr2, hq4, hq5, hnn, hsh, hcv, hget, g7_2, g7_2p]; done)
                · rw [e]
                  simp
                  omega
                · simp [e]
                · first | rfl | (simp [hv, append_byte, append_byte0, len_wrA, h4, h5, f1_2, f1_3, c10, c10p, hki, hqq, hrr, hq2, hr2, hq4, hq5, hnn, hsh, hcv, hget, g7_2, g7_2p]; done) | omega | assumption | (simp [hv, append_byte, append_byte0, len_wrA, h4, h5, f1_2, f1_3, c10, c10p, hki, hqq, hrr, hq2, hr2, hq4, hq5, hnn, hsh, hcv, hget, g7_2, g7_2p]; omega) | (simp only [putA_get]; simp (disch := omega) only [wC, if_pos, if_neg]; simp [hv, append_byte, append_byte0, len_wrA, h4, h5, f1_2, f1_3, c10, c10p, hki, hqq, hrr, hq2, hr2, hq4, hq5, hnn, hsh, hcv, hget, g7_2, g7_2p]; done) | (simp [hv, append_byte, append_byte0, len_wrA, h4, h5, f1_2, f1_3, c10, c10p, hki, hqq, hrr, hq2, hr2, hq4, hq5, hnn, hsh, hcv, hget, g7_2, g7_2p]; simp (disch := omega) only [wC, if_pos, if_neg]; simp [hv, append_byte, append_byte0, len_wrA, h4, h5, f1_2, f1_3, c10, c10p, hki, hqq, hrr, hq2, hr2, hq4, hq5, hnn, hsh, hcv, hget, g7_2, g7_2p]; done)
          · try (exfalso; first | (revert g7_2; simp [hv, append_byte, append_byte0, len_wrA, h4, h5, f1_2, f1_3, c10, c10p, hki, hqq, hrr, hq2, hr2, hq4, hq5, hnn, hsh, hcv, hget]; done) | (have gq := g7_2; simp [hv, append_byte, append_byte0, len_wrA, h4, h5, f1_2, f1_3, c10, c10p, hki, hqq, hrr, hq2, hr2, hq4, hq5, hnn, hsh, hcv, hget] at gq; omega) | (have gq := g7_2; simp [hv, append_byte, append_byte0, len_wrA, h4, h5, f1_2, f1_3, c10, c10p, hki, hqq, hrr, hq2, hr2, hq4, hq5, hnn, hsh, hcv, hget] at gq; done))
            all_goals
              have g7_2p := g7_2
              try simp [hv, append_byte, append_byte0, len_wrA, h4, h5, f1_2, f1_3, c10, c10p, hki, hqq, hrr, hq2, hr2, hq4, hq5, hnn, hsh, hcv, hget] at g7_2p
              all_goals (first | (have gq := g7_2p; skip) | have g7_2p : True := True.intro)
              all_goals
                refine runL_go (by first | rfl | (simp [hv, append_byte, append_byte0, len_wrA, h4, h5, f1_2, f1_3, c10, c10p, hki, hqq, hrr, hq2, hr2, hq4, hq5, hnn, hsh, hcv, hget, g7_2, g7_2p, wantedA]; done)) rfl ?_
                repeat (first | simp [hv, append_byte, append_byte0, len_wrA, h4, h5, f1_2, f1_3, c10, c10p, hki, hqq, hrr, hq2, hr2, hq4, hq5, hnn, hsh, hcv, hget, g7_2, g7_2p] | simp (disch := omega) only [wC, if_pos, if_neg])
                refine runL_go (by first | rfl | (simp [hv, append_byte, append_byte0, len_wrA, h4, h5, f1_2, f1_3, c10, c10p, hki, hqq, hrr, hq2, hr2, hq4, hq5, hnn, hsh, hcv, hget, g7_2, g7_2p, wantedA]; done)) rfl ?_
                repeat (first | simp [hv, append_byte, append_byte0, len_wrA, h4, h5, f1_2, f1_3, c10, c10p, hki, hqq, hrr, hq2, hr2, hq4, hq5, hnn, hsh, hcv, hget, g7_2, g7_2p] | simp (disch := omega) only [wC, if_pos, if_neg])
                refine runL_go (by first | rfl | (simp [hv, append_byte, append_byte0, len_wrA, h4, h5, f1_2, f1_3, c10, c10p, hki, hqq, hrr, hq2, hr2, hq4, hq5, hnn, hsh, hcv, hget, g7_2, g7_2p, wantedA]; done)) rfl ?_
                repeat (first | simp [hv, append_byte, append_byte0, len_wrA, h4, h5, f1_2, f1_3, c10, c10p, hki, hqq, hrr, hq2, hr2, hq4, hq5, hnn, hsh, hcv, hget, g7_2, g7_2p] | simp (disch := omega) only [wC, if_pos, if_neg])
                refine hJ17 _ _ ?_
                refine hK16 _ _ ?_
                refine run_cond_split (by first | rfl | (simp [hv, append_byte, append_byte0, len_wrA, h4, h5, f1_2, f1_3, c10, c10p, hki, hqq, hrr, hq2, hr2, hq4, hq5, hnn, hsh, hcv, hget, g7_2, g7_2p, evalA]; done)) (fun c29 => ?_) (fun c29 => ?_)
                · try (exfalso; first | (revert c29; simp [hv, append_byte, append_byte0, len_wrA, h4, h5, f1_2, f1_3, c10, c10p, hki, hqq, hrr, hq2, hr2, hq4, hq5, hnn, hsh, hcv, hget, g7_2, g7_2p]; done) | (have gq := c29; simp [hv, append_byte, append_byte0, len_wrA, h4, h5, f1_2, f1_3, c10, c10p, hki, hqq, hrr, hq2, hr2, hq4, hq5, hnn, hsh, hcv, hget, g7_2, g7_2p] at gq; omega) | (have gq := c29; simp [hv, append_byte, append_byte0, len_wrA, h4, h5, f1_2, f1_3, c10, c10p, hki, hqq, hrr, hq2, hr2, hq4, hq5, hnn, hsh, hcv, hget, g7_2, g7_2p] at gq; done))
                  all_goals
                    have c29p := c29
                    try simp [hv, append_byte, append_byte0, len_wrA, h4, h5, f1_2, f1_3, c10, c10p, hki, hqq, hrr, hq2, hr2, hq4, hq5, hnn, hsh, hcv, hget, g7_2, g7_2p] at c29p
                    all_goals (first | (have gq := c29p; skip) | have c29p : True := True.intro)
                    all_goals
                      try (have g7 : c.toNat = 0 := by simp at g7_2; omega)
                      try have hc0 : c = 0 := UInt8.toNat_inj.1 (by simpa using g7)
                      try have e : natBytes (x / 256 ^ i) = natBytes (x / 256 ^ (i + 1)) ++ [c] := by rw [hc]; exact nb1 (.inr (by simpa using c29))
                      refine run_region_k rfl fun J20 hJ20 => ?_
                      repeat (first | simp [hv, append_byte, append_byte0, len_wrA, h4, h5, f1_2, f1_3, c10, c10p, hki, hqq, hrr, hq2, hr2, hq4, hq5, hnn, hsh, hcv, hget, g7_2, g7_2p, c29, c29p] | simp (disch := omega) only [wC, if_pos, if_neg])
                      refine hJ20 _ _ ?_
                      refine hK13 _ _ ?_
                      refine run_region_k rfl fun J21 hJ21 => ?_
                      repeat (first | simp [hv, append_byte, append_byte0, len_wrA, h4, h5, f1_2, f1_3, c10, c10p, hki, hqq, hrr, hq2, hr2, hq4, hq5, hnn, hsh, hcv, hget, g7_2, g7_2p, c29, c29p] | simp (disch := omega) only [wC, if_pos, if_neg])
                      refine hJ21 _ _ ?_
                      refine ⟨(i), ⟨?_, ?_, ?_, ?_, ?_, ?_⟩, ?_⟩
                      · first | (simp [hv, append_byte, append_byte0, len_wrA, h4, h5, f1_2, f1_3, c10, c10p, hki, hqq, hrr, hq2, hr2, hq4, hq5, hnn, hsh, hcv, hget, g7_2, g7_2p, c29, c29p]; done) | (intro r hr; revert hr; simp [hv, append_byte, append_byte0, len_wrA, h4, h5, f1_2, f1_3, c10, c10p, hki, hqq, hrr, hq2, hr2, hq4, hq5, hnn, hsh, hcv, hget, g7_2, g7_2p, c29, c29p]; done) | (intro r hr; simp only [List.mem_cons, List.not_mem_nil, or_false] at hr; rcases hr with rfl | rfl <;> simp [hv, append_byte, append_byte0, len_wrA, h4, h5, f1_2, f1_3, c10, c10p, hki, hqq, hrr, hq2, hr2, hq4, hq5, hnn, hsh, hcv, hget, g7_2, g7_2p, c29, c29p] <;> done)
                      · first | rfl | (simp [hv, append_byte, append_byte0, len_wrA, h4, h5, f1_2, f1_3, c10, c10p, hki, hqq, hrr, hq2, hr2, hq4, hq5, hnn, hsh, hcv, hget, g7_2, g7_2p, c29, c29p]; done) | omega | assumption | (simp [hv, append_byte, append_byte0, len_wrA, h4, h5, f1_2, f1_3, c10, c10p, hki, hqq, hrr, hq2, hr2, hq4, hq5, hnn, hsh, hcv, hget, g7_2, g7_2p, c29, c29p]; omega) | (simp only [putA_get]; simp (disch := omega) only [wC, if_pos, if_neg]; simp [hv, append_byte, append_byte0, len_wrA, h4, h5, f1_2, f1_3, c10, c10p, hki, hqq, hrr, hq2, hr2, hq4, hq5, hnn, hsh, hcv, hget, g7_2, g7_2p, c29, c29p]; done) | (simp [hv, append_byte, append_byte0, len_wrA, h4, h5, f1_2, f1_3, c10, c10p, hki, hqq, hrr, hq2, hr2, hq4, hq5, hnn, hsh, hcv, hget, g7_2, g7_2p, c29, c29p]; simp (disch := omega) only [wC, if_pos, if_neg]; simp [hv, append_byte, append_byte0, len_wrA, h4, h5, f1_2, f1_3, c10, c10p, hki, hqq, hrr, hq2, hr2, hq4, hq5, hnn, hsh, hcv, hget, g7_2, g7_2p, c29, c29p]; done)
                      · simp [e, hc0]
                      · first | rfl | (simp [hv, append_byte, append_byte0, len_wrA, h4, h5, f1_2, f1_3, c10, c10p, hki, hqq, hrr, hq2, hr2, hq4, hq5, hnn, hsh, hcv, hget, g7_2, g7_2p, c29, c29p]; done) | omega | assumption | (simp [hv, append_byte, append_byte0, len_wrA, h4, h5, f1_2, f1_3, c10, c10p, hki, hqq, hrr, hq2, hr2, hq4, hq5, hnn, hsh, hcv, hget, g7_2, g7_2p, c29, c29p]; omega) | (simp only [putA_get]; simp (disch := omega) only [wC, if_pos, if_neg]; simp [hv, append_byte, append_byte0, len_wrA, h4, h5, f1_2, f1_3, c10, c10p, hki, hqq, hrr, hq2, hr2, hq4, hq5, hnn, hsh, hcv, hget, g7_2, g7_2p, c29, c29p]; done) | (simp [hv, append_byte, append_byte0, len_wrA, h4, h5, f1_2, f1_3, c10, c10p, hki, hqq, hrr, hq2, hr2, hq4, hq5, hnn, hsh, hcv, hget, g7_2, g7_2p, c29, c29p]; simp (disch := omega) only [wC, if_pos, if_neg]; simp [hv, append_byte, append_byte0, len_wrA, h4, h5, f1_2, f1_3, c10, c10p, hki, hqq, hrr, hq2, hr2, hq4, hq5, hnn, hsh, hcv, hget, g7_2, g7_2p, c29, c29p]; done)
                      · rw [e]
                        simp
                        omega
                      · simp [e, hc0]
                      · first | rfl | (simp [hv, append_byte, append_byte0, len_wrA, h4, h5, f1_2, f1_3, c10, c10p, hki, hqq, hrr, hq2, hr2, hq4, hq5, hnn, hsh, hcv, hget, g7_2, g7_2p, c29, c29p]; done) | omega | assumption | (simp [hv, append_byte, append_byte0, len_wrA, h4, h5, f1_2, f1_3, c10, c10p, hki, hqq, hrr, hq2, hr2, hq4, hq5, hnn, hsh, hcv, hget, g7_2, g7_2p, c29, c29p]; omega) | (simp only [putA_get]; simp (disch := omega) only [wC, if_pos, if_neg]; simp [hv, append_byte, append_byte0, len_wrA, h4, h5, f1_2, f1_3, c10, c10p, hki, hqq, hrr, hq2, hr2, hq4, hq5, hnn, hsh, hcv, hget, g7_2, g7_2p, c29, c29p]; done) | (simp [hv, append_byte, append_byte0, len_wrA, h4, h5, f1_2, f1_3, c10, c10p, hki, hqq, hrr, hq2, hr2, hq4, hq5, hnn, hsh, hcv, hget, g7_2, g7_2p, c29, c29p]; simp (disch := omega) only [wC, if_pos, if_neg]; simp [hv, append_byte, append_byte0, len_wrA, h4, h5, f1_2, f1_3, c10, c10p, hki, hqq, hrr, hq2, hr2, hq4, hq5, hnn, hsh, hcv, hget, g7_2, g7_2p, c29, c29p]; done)
                · try (exfalso; first | (revert c29; simp [hv, append_byte, append_byte0, len_wrA, h4, h5, f1_2, f1_3, c10, c10p, hki, hqq, hrr, hq2, hr2, hq4, hq5, hnn, hsh, hcv, hget, g7_2, g7_2p]; done) | (have gq := c29; simp [hv, append_byte, append_byte0, len_wrA, h4, h5, f1_2, f1_3, c10, c10p, hki, hqq, hrr, hq2, hr2, hq4, hq5, hnn, hsh, hcv, hget, g7_2, g7_2p] at gq; omega) | (have gq := c29; simp [hv, append_byte, append_byte0, len_wrA, h4, h5, f1_2, f1_3, c10, c10p, hki, hqq, hrr, hq2, hr2, hq4, hq5, hnn, hsh, hcv, hget, g7_2, g7_2p] at gq; done))
                  all_goals
                    have c29p := c29
                    try simp [hv, append_byte, append_byte0, len_wrA, h4, h5, f1_2, f1_3, c10, c10p, hki, hqq, hrr, hq2, hr2, hq4, hq5, hnn, hsh, hcv, hget, g7_2, g7_2p] at c29p
                    all_goals (first | (have gq := c29p; skip) | have c29p : True := True.intro)
                    all_goals
                      have g7 : c.toNat = 0 := by simp at g7_2; omega
                      have e : natBytes (x / 256 ^ i) = natBytes (x / 256 ^ (i + 1)) := nb2 (by omega) (by simpa using c29)
                      refine run_skip ?_
                      refine hK13 _ _ ?_
                      refine run_region_k rfl fun J22 hJ22 => ?_
                      repeat (first | simp [hv, append_byte, append_byte0, len_wrA, h4, h5, f1_2, f1_3, c10, c10p, hki, hqq, hrr, hq2, hr2, hq4, hq5, hnn, hsh, hcv, hget, g7_2, g7_2p, c29, c29p] | simp (disch := omega) only [wC, if_pos, if_neg])
                      refine hJ22 _ _ ?_
                      refine ⟨(i), ⟨?_, ?_, ?_, ?_, ?_, ?_⟩, ?_⟩
                      · first | (simp [hv, append_byte, append_byte0, len_wrA, h4, h5, f1_2, f1_3, c10, c10p, hki, hqq, hrr, hq2, hr2, hq4, hq5, hnn, hsh, hcv, hget, g7_2, g7_2p, c29, c29p]; done) | (intro r hr; revert hr; simp [hv, append_byte, append_byte0, len_wrA, h4, h5, f1_2, f1_3, c10, c10p, hki, hqq, hrr, hq2, hr2, hq4, hq5, hnn, hsh, hcv, hget, g7_2, g7_2p, c29, c29p]; done) | (intro r hr; simp only [List.mem_cons, List.not_mem_nil, or_false] at hr; rcases hr with rfl | rfl <;> simp [hv, append_byte, append_byte0, len_wrA, h4, h5, f1_2, f1_3, c10, c10p, hki, hqq, hrr, hq2, hr2, hq4, hq5, hnn, hsh, hcv, hget, g7_2, g7_2p, c29, c29p] <;> done)
                      · first | rfl | (simp [hv, append_byte, append_byte0, len_wrA, h4, h5, f1_2, f1_3, c10, c10p, hki, hqq, hrr, hq2, hr2, hq4, hq5, hnn, hsh, hcv, hget, g7_2, g7_2p, c29, c29p]; done) | omega | assumption | (simp [hv, append_byte, append_byte0, len_wrA, h4, h5, f1_2, f1_3, c10, c10p, hki, hqq, hrr, hq2, hr2, hq4, hq5, hnn, hsh, hcv, hget, g7_2, g7_2p, c29, c29p]; omega) | (simp only [putA_get]; simp (disch := omega) only [wC, if_pos, if_neg]; simp [hv, append_byte, append_byte0, len_wrA, h4, h5, f1_2, f1_3, c10, c10p, hki, hqq, hrr, hq2, hr2, hq4, hq5, hnn, hsh, hcv, hget, g7_2, g7_2p, c29, c29p]; done) | (simp [hv, append_byte, append_byte0, len_wrA, h4, h5, f1_2, f1_3, c10, c10p, hki, hqq, hrr, hq2, hr2, hq4, hq5, hnn, hsh, hcv, hget, g7_2, g7_2p, c29, c29p]; simp (disch := omega) only [wC, if_pos, if_neg]; simp [hv, append_byte, append_byte0, len_wrA, h4, h5, f1_2, f1_3, c10, c10p, hki, hqq, hrr, hq2, hr2, hq4, hq5, hnn, hsh, hcv, hget, g7_2, g7_2p, c29, c29p]; done)
                      · rw [e]
                        simp [hv, append_byte, append_byte0, len_wrA, h4, h5, f1_2, f1_3, c10, c10p, hki, hqq, hrr, hq2, hr2, hq4, hq5, hnn, hsh, hcv, hget, g7_2, g7_2p, c29, c29p]
                      · first | rfl | (simp [hv, append_byte, append_byte0, len_wrA, h4, h5, f1_2, f1_3, c10, c10p, hki, hqq, hrr, hq2, hr2, hq4, hq5, hnn, hsh, hcv, hget, g7_2, g7_2p, c29, c29p]; done) | omega | assumption | (simp [hv, append_byte, append_byte0, len_wrA, h4, h5, f1_2, f1_3, c10, c10p, hki, hqq, hrr, hq2, hr2, hq4, hq5, hnn, hsh, hcv, hget, g7_2, g7_2p, c29, c29p]; omega) | (simp only [putA_get]; simp (disch := omega) only [wC, if_pos, if_neg]; simp [hv, append_byte, append_byte0, len_wrA, h4, h5, f1_2, f1_3, c10, c10p, hki, hqq, hrr, hq2, hr2, hq4, hq5, hnn, hsh, hcv, hget, g7_2, g7_2p, c29, c29p]; done) | (simp [hv, append_byte, append_byte0, len_wrA, h4, h5, f1_2, f1_3, c10, c10p, hki, hqq, hrr, hq2, hr2, hq4, hq5, hnn, hsh, hcv, hget, g7_2, g7_2p, c29, c29p]; simp (disch := omega) only [wC, if_pos, if_neg]; simp [hv, append_byte, append_byte0, len_wrA, h4, h5, f1_2, f1_3, c10, c10p, hki, hqq, hrr, hq2, hr2, hq4, hq5, hnn, hsh, hcv, hget, g7_2, g7_2p, c29, c29p]; done)
                      · rw [e]
                        omega
                      · rw [e]
                        simp [hv, append_byte, append_byte0, len_wrA, h4, h5, f1_2, f1_3, c10, c10p, hki, hqq, hrr, hq2, hr2, hq4, hq5, hnn, hsh, hcv, hget, g7_2, g7_2p, c29, c29p]
                      · first | rfl | (simp [hv, append_byte, append_byte0, len_wrA, h4, h5, f1_2, f1_3, c10, c10p, hki, hqq, hrr, hq2, hr2, hq4, hq5, hnn, hsh, hcv, hget, g7_2, g7_2p, c29, c29p]; done) | omega | assumption | (simp [hv, append_byte, append_byte0, len_wrA, h4, h5, f1_2, f1_3, c10, c10p, hki, hqq, hrr, hq2, hr2, hq4, hq5, hnn, hsh, hcv, hget, g7_2, g7_2p, c29, c29p]; omega) | (simp only [putA_get]; simp (disch := omega) only [wC, if_pos, if_neg]; simp [hv, append_byte, append_byte0, len_wrA, h4, h5, f1_2, f1_3, c10, c10p, hki, hqq, hrr, hq2, hr2, hq4, hq5, hnn, hsh, hcv, hget, g7_2, g7_2p, c29, c29p]; done) | (simp [hv, append_byte, append_byte0, len_wrA, h4, h5, f1_2, f1_3, c10, c10p, hki, hqq, hrr, hq2, hr2, hq4, hq5, hnn, hsh, hcv, hget, g7_2, g7_2p, c29, c29p]; simp (disch := omega) only [wC, if_pos, if_neg]; simp [hv, append_byte, append_byte0, len_wrA, h4, h5, f1_2, f1_3, c10, c10p, hki, hqq, hrr, hq2, hr2, hq4, hq5, hnn, hsh, hcv, hget, g7_2, g7_2p, c29, c29p]; done)
    · try (exfalso; first | (revert c10; simp [hv, append_byte, append_byte0, len_wrA, h4, h5, f1_2, f1_3]; done) | (have gq := c10; simp [hv, append_byte, append_byte0, len_wrA, h4, h5, f1_2, f1_3] at gq; omega) | (have gq := c10; simp [hv, append_byte, append_byte0, len_wrA, h4, h5, f1_2, f1_3] at gq; done))
      all_goals
        have c10p := c10
        try simp [hv, append_byte, append_byte0, len_wrA, h4, h5, f1_2, f1_3] at c10p
        all_goals (first | (have gq := c10p; skip) | have c10p : True := True.intro)
        all_goals
          refine run_exit ?_
          refine hK7 _ _ ?_
          refine run_seq_k fun K23 hK23 => ?_
          refine run_region_k rfl fun J24 hJ24 => ?_
          repeat (first | simp [hv, append_byte, append_byte0, len_wrA, h4, h5, f1_2, f1_3, c10, c10p] | simp (disch := omega) only [wC, if_pos, if_neg])
          refine hJ24 _ _ ?_
          refine hK23 _ _ ?_
          refine run_ret ?_
          try simp only [Then, InBlock, NoGoto]
          refine answer_tmp rfl (.inr rfl) ?_
          have hk0 : k = 0 := by simp at c10; omega
          subst hk0
          simp only [Nat.pow_zero, Nat.div_one]
          exact ⟨wk_wrA _ _, [numA x], tkB (natBytes x), [], by simp⟩

attribute [local simp] undefA List.getElem?_cons_zero List.getElem?_cons_succ in
theorem rnum_ok {σ : St} {x : Nat} (hx : x < 2 ^ 256) :
    CallsA Try.prog 48 [.agg (numA x)] σ (fun av σ' => av = .sl 1 (bytesA (encN x)) (encN x).length .shut ∧ σ = σ') := by
  refine callsA_gcS ?_ (by simp [AV.under])
  have hv : (Value.int IntKind.u8 0).cells.size = 1 := rfl
  have hlen : (natBytes x).length ≤ 32 := natBytes_len x 32 (by simpa using hx)
  obtain ⟨c, hc⟩ : ∃ c, c = UInt8.ofNat (natBytes x).length := ⟨_, rfl⟩
  have hcn : c.toNat = (natBytes x).length := by rw [hc]; exact toNat_ofNat (by omega)
  have hw : IntKind.u8.wrap ((natBytes x).length : Int) = (c.toNat : Int) := by rw [wrap_u8, hcn, Nat.mod_eq_of_lt (by omega)]
  have h1 : 1 + (natBytes x).length ≤ 140737488355328 := by omega
  have h2 : 1 + (natBytes x).length ≤ 9223372036854775807 := by omega
  have he : encN x = c :: natBytes x := by simp [encN, hc]
  have hwk : Wk (.sl 1 (.v (.int .u8 c.toNat) :: bytesA (natBytes x)) (1 + (natBytes x).length) (.own σ.toks.length)) (.sl 1 (bytesA (encN x)) (encN x).length .shut) := by
    rw [he, List.length_cons, Nat.add_comm]
    exact Wk.shut 1 (bytesA (c :: natBytes x)) _ _
  refine callsA_body Try.func48 rfl rfl rfl ?_
  refine run_seq_k fun K1 hK1 => ?_
  refine run_region_k rfl fun J2 hJ2 => ?_
  repeat (first | simp [hv, hw, appendA, readA, roomA, maxLen, h1, h2] | simp (disch := omega) only [wC, if_pos, if_neg])
  refine hJ2 _ _ ?_
  refine hK1 _ _ ?_
  refine run_seq_k fun K3 hK3 => ?_
  refine run_region_k rfl fun J4 hJ4 => ?_
  repeat (first | simp [hv, hw, appendA, readA, roomA, maxLen, h1, h2] | simp (disch := omega) only [wC, if_pos, if_neg])
  refine runL_call' (b := true) (by first | rfl | (simp [hv, hw, appendA, readA, roomA, maxLen, h1, h2, wantedA]; done)) rfl rfl (by first | rfl | (simp [hv, hw, appendA, readA, roomA, maxLen, h1, h2, callOf]; done)) (by simp) (rbytes_ok hx) ?_
  rintro _ _ ⟨rfl, rfl⟩
  repeat (first | simp [hv, hw, appendA, readA, roomA, maxLen, h1, h2] | simp (disch := omega) only [wC, if_pos, if_neg])
  refine hJ4 _ _ ?_
  refine hK3 _ _ ?_
  refine run_seq_k fun K5 hK5 => ?_
  refine run_region_k rfl fun J6 hJ6 => ?_
  repeat (first | simp [hv, hw, appendA, readA, roomA, maxLen, h1, h2] | simp (disch := omega) only [wC, if_pos, if_neg])
  refine hJ6 _ _ ?_
  refine hK5 _ _ ?_
  refine run_ret ?_
  try simp only [Then, InBlock, NoGoto]
  refine answer_tmp rfl (.inr rfl) ?_
  exact ⟨hwk, [numA x], [1 + (natBytes x).length], [], by simp⟩

/-! ### A list that begins with one byte of its own -/
def wrF (k : Nat) (first : Bool) (l : List UInt8) : AV := .sl 1 (bytesA l) l.length (if first then .full else .own k)
def tkF (first : Bool) (l : List UInt8) : List Nat := if first then [] else [l.length]
theorem wk_wrF (k : Nat) (b : Bool) (l : List UInt8) : Wk (wrF k b l) (.sl 1 (bytesA l) l.length .shut) := Wk.shut _ _ _ _
theorem append_wrF {l q : List UInt8} {tq : Tail} {first : Bool} [hsm : SmallB l] {objs : List (List AV)} {tk : List Nat} {gl : Nat → Option (List AV)} {rows : List RowSt} (hq : q.length ≤ 100000) :
    appendA Try.prog 22 (wrF tk.length first l) (.sl 1 (bytesA q) q.length tq) ⟨objs, tk ++ tkF first l, gl, rows⟩ = some (wrF tk.length false (l ++ q), ⟨objs, tk ++ tkF false (l ++ q), gl, rows⟩) := by
  have hl := hsm.h
  have hv : (Value.int IntKind.u8 0).cells.size = 1 := rfl
  have h1 : l.length + q.length ≤ 140737488355328 := by omega
  have h2 : l.length + q.length ≤ 9223372036854775807 := by omega
  cases first <;> simp [wrF, tkF, appendA, readA, roomA, maxLen, h1, h2, hv, bytesA_append]
theorem append_wrF1 {l : List UInt8} {b : UInt8} {first : Bool} [hsm : SmallB l] {objs : List (List AV)} {tk : List Nat} {gl : Nat → Option (List AV)} {rows : List RowSt} :
    appendA Try.prog 22 (wrF tk.length first l) (.sl 1 [.v (.int .u8 b.toNat)] 1 .full) ⟨objs, tk ++ tkF first l, gl, rows⟩ = some (wrF tk.length false (l ++ [b]), ⟨objs, tk ++ tkF false (l ++ [b]), gl, rows⟩) := append_wrF (q := [b]) (by simp)

attribute [local simp] undefA List.getElem?_cons_zero List.getElem?_cons_succ in
theorem rcoinsW_ok {σ : St} {L : List Coin} {tL : Tail} (hL : L.length ≤ 255) :
    CallsA Try.prog 50 [.sl 5 (coinsC L) L.length tL] σ (fun av σ' => av = .sl 1 (bytesA (encL L)) (encL L).length .shut ∧ σ = σ') := by
  refine callsA_gcS ?_ (by simp [AV.under])
  have hv : (Value.int IntKind.u8 0).cells.size = 1 := rfl
  obtain ⟨c, hc⟩ : ∃ c, c = UInt8.ofNat L.length := ⟨_, rfl⟩
  have hcn : c.toNat = L.length := by rw [hc]; exact toNat_ofNat (by omega)
  have hw : IntKind.u8.wrap (L.length : Int) = (c.toNat : Int) := by rw [wrap_u8, hcn, Nat.mod_eq_of_lt (by omega)]
  have hlA : lenA Try.prog 35 (.sl 5 (coinsC L) L.length tL) = some (.v (.int .i64 (L.length : Nat))) := by simp [lenA]
  refine callsA_body Try.func50 rfl rfl rfl ?_
  refine run_seq_k fun K1 hK1 => ?_
  refine run_region_k rfl fun J2 hJ2 => ?_
  repeat (first | simp [hv, hw, hlA, append_wrF1, coinC] | simp (disch := omega) only [wC, if_pos, if_neg])
  refine hJ2 _ _ ?_
  refine hK1 _ _ ?_
  refine run_seq_k fun K3 hK3 => ?_
  refine run_region_k rfl fun J4 hJ4 => ?_
  repeat (first | simp [hv, hw, hlA, append_wrF1, coinC] | simp (disch := omega) only [wC, if_pos, if_neg])
  refine hJ4 _ _ ?_
  refine hK3 _ _ ?_
  refine run_seq_k fun K5 hK5 => ?_
  refine run_seq_k fun K6 hK6 => ?_
  refine run_region_k rfl fun J7 hJ7 => ?_
  repeat (first | simp [hv, hw, hlA, append_wrF1, coinC] | simp (disch := omega) only [wC, if_pos, if_neg])
  refine hJ7 _ _ ?_
  refine hK6 _ _ ?_
  refine run_block_k ?_
  refine run_loopF (X := Nat) [0, 2] (fun j ρ σ1 => (j ≤ L.length) ∧ (ρ 3 = wrF σ.toks.length (decide (j = 0)) (c :: encCs (L.take j))) ∧ (ρ 4 = .v (.int .i64 j)) ∧ (σ1 = { σ with toks := σ.toks ++ tkF (decide (j = 0)) (c :: encCs (L.take j)) })) (fun j => L.length - j) (0) ?st1 ?rd1
  case st1 =>
    refine ⟨?_, ?_, ?_, ?_⟩
    · first | rfl | (simp [hv, hw, hlA, append_wrF1, coinC]; done) | omega | assumption | (simp [hv, hw, hlA, append_wrF1, coinC]; omega) | (simp only [putA_get]; simp (disch := omega) only [wC, if_pos, if_neg]; simp [hv, hw, hlA, append_wrF1, coinC]; done) | (simp [hv, hw, hlA, append_wrF1, coinC]; simp (disch := omega) only [wC, if_pos, if_neg]; simp [hv, hw, hlA, append_wrF1, coinC]; done)
    · simp [wrF, encCs, bytesA]
    · first | rfl | (simp [hv, hw, hlA, append_wrF1, coinC]; done) | omega | assumption | (simp [hv, hw, hlA, append_wrF1, coinC]; omega) | (simp only [putA_get]; simp (disch := omega) only [wC, if_pos, if_neg]; simp [hv, hw, hlA, append_wrF1, coinC]; done) | (simp [hv, hw, hlA, append_wrF1, coinC]; simp (disch := omega) only [wC, if_pos, if_neg]; simp [hv, hw, hlA, append_wrF1, coinC]; done)
    · simp [tkF]
  case rd1 =>
    rintro j ρ1 σ1 hF1 ⟨hj, h3, h4, hσ⟩
    obtain rfl := hσ.symm
    have f1_0 := hF1 0 (by decide)
    try simp [hv, hw, hlA, append_wrF1, coinC] at f1_0
    have f1_2 := hF1 2 (by decide)
    try simp [hv, hw, hlA, append_wrF1, coinC] at f1_2
    refine run_seq_k fun K8 hK8 => ?_
    refine run_seq_k fun K9 hK9 => ?_
    refine run_region_k rfl fun J10 hJ10 => ?_
    repeat (first | simp [hv, hw, hlA, append_wrF1, coinC, h3, h4, f1_0, f1_2] | simp (disch := omega) only [wC, if_pos, if_neg])
    refine hJ10 _ _ ?_
    refine hK9 _ _ ?_
    refine run_cond_split (by first | rfl | (simp [hv, hw, hlA, append_wrF1, coinC, h3, h4, f1_0, f1_2, evalA]; done)) (fun c12 => ?_) (fun c12 => ?_)
    · try (exfalso; first | (revert c12; simp [hv, hw, hlA, append_wrF1, coinC, h3, h4, f1_0, f1_2]; done) | (have gq := c12; simp [hv, hw, hlA, append_wrF1, coinC, h3, h4, f1_0, f1_2] at gq; omega) | (have gq := c12; simp [hv, hw, hlA, append_wrF1, coinC, h3, h4, f1_0, f1_2] at gq; done))
      all_goals
        have c12p := c12
        try simp [hv, hw, hlA, append_wrF1, coinC, h3, h4, f1_0, f1_2] at c12p
        all_goals (first | (have gq := c12p; skip) | have c12p : True := True.intro)
        all_goals
          refine run_skip ?_
          refine hK8 _ _ ?_
          refine run_seq_k fun K11 hK11 => ?_
          refine run_block_k ?_
          refine run_seq_k fun K12 hK12 => ?_
          have hel := encCs_len (L.take j)
          have htl : (L.take j).length ≤ 255 := by simp; omega
          have : SmallB (c :: encCs (L.take j)) := ⟨by simp; omega⟩
          have : SmallB (c :: (encCs (L.take j) ++ [L[j].d])) := ⟨by simp; omega⟩
          have e3 : encCs (L.take (j + 1)) = encCs (L.take j) ++ L[j].d :: encN L[j].n.v := by rw [take_snoc (by simp at c12; omega), encCs_snoc]; rfl
          have hq1 : (encN L[j].n.v).length ≤ 33 := by have := natBytes_len L[j].n.v 32 (by simpa using L[j].n.h); simp [encN]; omega
          have hap := fun (o : List (List AV)) => append_wrF (first := false) (l := c :: (encCs (L.take j) ++ [L[j].d])) (q := encN L[j].n.v) (tq := .shut) (objs := o) (tk := σ.toks) (gl := σ.gl) (rows := σ.rows) (by omega)
          refine run_region_k rfl fun J13 hJ13 => ?_
          repeat (first | simp [hv, hw, hlA, append_wrF1, coinC, h3, h4, f1_0, f1_2, c12, c12p, hap] | simp (disch := omega) only [wC, if_pos, if_neg])
          refine hJ13 _ _ ?_
          refine hK12 _ _ ?_
          refine run_region_k rfl fun J14 hJ14 => ?_
          repeat (first | simp [hv, hw, hlA, append_wrF1, coinC, h3, h4, f1_0, f1_2, c12, c12p, hap] | simp (disch := omega) only [wC, if_pos, if_neg])
          refine runL_call' (b := true) (by first | rfl | (simp [hv, hw, hlA, append_wrF1, coinC, h3, h4, f1_0, f1_2, c12, c12p, hap, wantedA]; done)) rfl rfl (by first | rfl | (simp [hv, hw, hlA, append_wrF1, coinC, h3, h4, f1_0, f1_2, c12, c12p, hap, callOf]; done)) (by simp) (rnum_ok L[j].n.h) ?_
          rintro _ _ ⟨rfl, rfl⟩
          repeat (first | simp [hv, hw, hlA, append_wrF1, coinC, h3, h4, f1_0, f1_2, c12, c12p, hap] | simp (disch := omega) only [wC, if_pos, if_neg])
          refine hJ14 _ _ ?_
          refine hK11 _ _ ?_
          refine run_region_k rfl fun J15 hJ15 => ?_
          repeat (first | simp [hv, hw, hlA, append_wrF1, coinC, h3, h4, f1_0, f1_2, c12, c12p, hap] | simp (disch := omega) only [wC, if_pos, if_neg])
          refine hJ15 _ _ ?_
          refine ⟨(j + 1), ⟨?_, ?_, ?_, ?_, ?_⟩, ?_⟩
          · first | (simp [hv, hw, hlA, append_wrF1, coinC, h3, h4, f1_0, f1_2, c12, c12p, hap]; done) | (intro r hr; revert hr; simp [hv, hw, hlA, append_wrF1, coinC, h3, h4, f1_0, f1_2, c12, c12p, hap]; done) | (intro r hr; simp only [List.mem_cons, List.not_mem_nil, or_false] at hr; rcases hr with rfl | rfl <;> simp [hv, hw, hlA, append_wrF1, coinC, h3, h4, f1_0, f1_2, c12, c12p, hap] <;> done)
          · first | rfl | (simp [hv, hw, hlA, append_wrF1, coinC, h3, h4, f1_0, f1_2, c12, c12p, hap]; done) | omega | assumption | (simp [hv, hw, hlA, append_wrF1, coinC, h3, h4, f1_0, f1_2, c12, c12p, hap]; omega) | (simp only [putA_get]; simp (disch := omega) only [wC, if_pos, if_neg]; simp [hv, hw, hlA, append_wrF1, coinC, h3, h4, f1_0, f1_2, c12, c12p, hap]; done) | (simp [hv, hw, hlA, append_wrF1, coinC, h3, h4, f1_0, f1_2, c12, c12p, hap]; simp (disch := omega) only [wC, if_pos, if_neg]; simp [hv, hw, hlA, append_wrF1, coinC, h3, h4, f1_0, f1_2, c12, c12p, hap]; done)
          · simp [e3]
          · first | rfl | (simp [hv, hw, hlA, append_wrF1, coinC, h3, h4, f1_0, f1_2, c12, c12p, hap]; done) | omega | assumption | (simp [hv, hw, hlA, append_wrF1, coinC, h3, h4, f1_0, f1_2, c12, c12p, hap]; omega) | (simp only [putA_get]; simp (disch := omega) only [wC, if_pos, if_neg]; simp [hv, hw, hlA, append_wrF1, coinC, h3, h4, f1_0, f1_2, c12, c12p, hap]; done) | (simp [hv, hw, hlA, append_wrF1, coinC, h3, h4, f1_0, f1_2, c12, c12p, hap]; simp (disch := omega) only [wC, if_pos, if_neg]; simp [hv, hw, hlA, append_wrF1, coinC, h3, h4, f1_0, f1_2, c12, c12p, hap]; done)
          · simp [e3]
          · first | rfl | (simp [hv, hw, hlA, append_wrF1, coinC, h3, h4, f1_0, f1_2, c12, c12p, hap]; done) | omega | assumption | (simp [hv, hw, hlA, append_wrF1, coinC, h3, h4, f1_0, f1_2, c12, c12p, hap]; omega) | (simp only [putA_get]; simp (disch := omega) only [wC, if_pos, if_neg]; simp [hv, hw, hlA, append_wrF1, coinC, h3, h4, f1_0, f1_2, c12, c12p, hap]; done) | (simp [hv, hw, hlA, append_wrF1, coinC, h3, h4, f1_0, f1_2, c12, c12p, hap]; simp (disch := omega) only [wC, if_pos, if_neg]; simp [hv, hw, hlA, append_wrF1, coinC, h3, h4, f1_0, f1_2, c12, c12p, hap]; done)
    · try (exfalso; first | (revert c12; simp [hv, hw, hlA, append_wrF1, coinC, h3, h4, f1_0, f1_2]; done) | (have gq := c12; simp [hv, hw, hlA, append_wrF1, coinC, h3, h4, f1_0, f1_2] at gq; omega) | (have gq := c12; simp [hv, hw, hlA, append_wrF1, coinC, h3, h4, f1_0, f1_2] at gq; done))
      all_goals
        have c12p := c12
        try simp [hv, hw, hlA, append_wrF1, coinC, h3, h4, f1_0, f1_2] at c12p
        all_goals (first | (have gq := c12p; skip) | have c12p : True := True.intro)
        all_goals
          refine run_exit ?_
          refine hK5 _ _ ?_
          refine run_seq_k fun K16 hK16 => ?_
          refine run_region_k rfl fun J17 hJ17 => ?_
          repeat (first | simp [hv, hw, hlA, append_wrF1, coinC, h3, h4, f1_0, f1_2, c12, c12p] | simp (disch := omega) only [wC, if_pos, if_neg])
          refine hJ17 _ _ ?_
          refine hK16 _ _ ?_
          refine run_ret ?_
          try simp only [Then, InBlock, NoGoto]
          refine answer_tmp rfl (.inr rfl) ?_
          have hfull : L.take j = L := List.take_of_length_le (by simp at c12; omega)
          have e2 : c :: encCs L = encL L := (by simp [encL, hc])
          rw [hfull, e2]
          exact ⟨wk_wrF _ _ _, [], tkF (decide (j = 0)) (encL L), [], by simp⟩

end Go.Proofs.Ytkbhdlocdajhmaa
