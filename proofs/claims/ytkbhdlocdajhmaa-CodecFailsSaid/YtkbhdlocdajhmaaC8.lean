import Derived.Test.YtkbhdlocdajhmaaC7
/-
  CodecFails: true at every input.
-/
namespace Go.Proofs.Ytkbhdlocdajhmaa
set_option linter.unnecessarySimpa false
open Go Go.Vm
set_option linter.unusedSimpArgs false
set_option linter.unusedVariables false

attribute [local simp] evalL wantedA isCall opA evalA evalAll evalsA evalOpt ofValue ofCell plain binA_eql_pn binA_neq_pn binA_gtr binA_lss binA_geq binA_leq binA_add binA_sub binA_eql binA_neq binA_or binA_shl binA_shr binA_mul binA_quo binA_rem convA_int unA_not fieldAddrA loadA partA pickA_true pickA_false pickA_bb lenA builtinA storeA splice AV.cells AV.isCell sliceA boundA intA callOf indexAddrA newObjA buildA fillA zeroA ofCells buildSliceA

theorem codecFails_ok {σ : St} {p q : List UInt8} {t1 t2 : Tail} :
    CallsA Try.prog 6 [.sl 1 (bytesA p) p.length t1, .sl 1 (bytesA q) q.length t2] σ (fun av _ => av = .v (.bool true)) := by
  by_cases hp : p.length ≤ 400
  · have hp1 : ¬ (400 : Int) < p.length := by omega
    by_cases hq : q.length ≤ 40
    · have hq1 : ¬ (40 : Int) < q.length := by omega
      obtain ⟨S, hS⟩ : ∃ S : St, S = { σ with objs := σ.objs ++ [rd none, inBad (.sl 1 (bytesA p) p.length t1) (.v (.int .i64 0))] } := ⟨_, rfl⟩
      have g1 : S.objs[σ.objs.length]? = some (rd none) := by rw [hS]; simp
      have g2 : S.objs[σ.objs.length + 1]? = some (inBad (.sl 1 (bytesA p) p.length t1) (.v (.int .i64 0))) := by rw [hS]; simp
      refine callsA_body Try.func6 rfl rfl rfl ?_
      refine run_seq_k fun K1 hK1 => ?_
      refine run_region_k rfl fun J2 hJ2 => ?_
      try simp [hp1, hq1]
      refine hJ2 _ _ ?_
      refine hK1 _ _ ?_
      refine run_seq_k fun K3 hK3 => ?_
      refine run_seq_k fun K4 hK4 => ?_
      refine run_region_k rfl fun J5 hJ5 => ?_
      try simp [hp1, hq1]
      refine runL_go (by first | rfl | (simp [hp1, hq1, wantedA]; done)) rfl ?_
      try simp [hp1, hq1]
      refine runL_go (by first | rfl | (simp [hp1, hq1, wantedA]; done)) rfl ?_
      try simp [hp1, hq1]
      refine runL_go (by first | rfl | (simp [hp1, hq1, wantedA]; done)) rfl ?_
      try simp [hp1, hq1]
      refine hJ5 _ _ ?_
      refine hK4 _ _ ?_
      refine run_cond_false (by first | rfl | (simp [hp1, hq1, evalA]; done)) ?_
      refine run_skip ?_
      refine hK3 _ _ ?_
      refine run_seq_k fun K6 hK6 => ?_
      refine run_region_k rfl fun J7 hJ7 => ?_
      try simp [hp1, hq1]
      refine runL_call' (b := true) (by first | rfl | (simp [hp1, hq1, wantedA]; done)) rfl rfl (by first | rfl | (simp [hp1, hq1, callOf]; done)) (by simp) (new_ok (p := p) (by omega)) ?_
      rintro _ _ ⟨rfl, rfl⟩
      try simp [hp1, hq1]
      refine hJ7 _ _ ?_
      refine hK6 _ _ ?_
      refine run_seq_k fun K8 hK8 => ?_
      refine run_region_k rfl fun J9 hJ9 => ?_
      try simp [hp1, hq1]
      refine runL_call' (b := true) (by first | rfl | (simp [hp1, hq1, wantedA]; done)) rfl rfl (by first | rfl | (simp [hp1, hq1, callOf]; done)) (by simp) (fail_ok (s := some p) (get_app0 _ _ _)) ?_
      rintro _ _ ⟨rfl, rfl⟩
      try simp [hp1, hq1]
      refine hJ9 _ _ ?_
      refine hK8 _ _ ?_
      refine run_seq_k fun K10 hK10 => ?_
      refine run_seq_k fun K11 hK11 => ?_
      refine run_region_k rfl fun J12 hJ12 => ?_
      try simp [hp1, hq1]
      refine hJ12 _ _ ?_
      refine hK11 _ _ ?_
      refine run_block_k ?_
      refine run_loop (X := Nat) (fun k ρ σ1 => k ≤ q.length ∧ ρ 5 = .ptr σ.objs.length 0 ∧ ρ 6 = .ptr (σ.objs.length + 1) 0 ∧ ρ 1 = .sl 1 (bytesA q) q.length t2 ∧ ρ 7 = .v (.int .i64 k) ∧ σ1 = S) (fun k => q.length - k) (0) ?start ?round
      case start =>
        simp [hS, inBad]
      case round =>
        rintro k ρ σ1 ⟨hk, h5, h6, h1, h7, rfl⟩
        refine run_seq_k fun K13 hK13 => ?_
        refine run_seq_k fun K14 hK14 => ?_
        refine run_region_k rfl fun J15 hJ15 => ?_
        try simp [hp1, hq1, h5, h6, h1, h7]
        refine hJ15 _ _ ?_
        refine hK14 _ _ ?_
        refine run_cond_split rfl (fun c27 => ?_) (fun c27 => ?_)
        · try (exfalso; revert c27; simp [hp1, hq1, h5, h6, h1, h7]; done)
          all_goals
            (try simp [hp1, hq1, h5, h6, h1, h7] at c27)
            all_goals
              refine run_skip ?_
              refine hK13 _ _ ?_
              refine run_seq_k fun K17 hK17 => ?_
              refine run_block_k ?_
              refine run_seq_k fun K18 hK18 => ?_
              have hwk : IntKind.i64.wrap ((k : Int) + 1) = (k : Int) + 1 := wrap_i64 _ (by omega) (by omega)
              refine run_region_k rfl fun J19 hJ19 => ?_
              try simp [hp1, hq1, h5, h6, h1, h7, c27, hwk]
              refine runL_call' (b := true) (by first | rfl | (simp [hp1, hq1, h5, h6, h1, h7, c27, hwk, wantedA]; done)) rfl rfl (by first | rfl | (simp [hp1, hq1, h5, h6, h1, h7, c27, hwk, callOf]; done)) (by simp) (reads_bad g1 g2) ?_
              rintro _ _ ⟨rfl, rfl⟩
              try simp [hp1, hq1, h5, h6, h1, h7, c27, hwk]
              refine hJ19 _ _ ?_
              refine hK18 _ _ ?_
              refine run_cond_false (by first | rfl | (simp [hp1, hq1, h5, h6, h1, h7, c27, hwk, evalA]; done)) ?_
              refine run_skip ?_
              refine hK17 _ _ ?_
              refine run_region_k rfl fun J20 hJ20 => ?_
              try simp [hp1, hq1, h5, h6, h1, h7, c27, hwk]
              refine hJ20 _ _ ?_
              exact ⟨k + 1, ⟨by omega, by simp [h5], by simp [h6], by simp [h1], by simp, rfl⟩, by omega⟩
        · try (exfalso; revert c27; simp [hp1, hq1, h5, h6, h1, h7]; done)
          all_goals
            (try simp [hp1, hq1, h5, h6, h1, h7] at c27)
            all_goals
              refine run_exit ?_
              refine hK10 _ _ ?_
              refine run_seq_k fun K21 hK21 => ?_
              refine run_region_k rfl fun J22 hJ22 => ?_
              try simp [hp1, hq1, h5, h6, h1, h7, c27]
              refine runL_call' (b := true) (by first | rfl | (simp [hp1, hq1, h5, h6, h1, h7, c27, wantedA]; done)) rfl rfl (by first | rfl | (simp [hp1, hq1, h5, h6, h1, h7, c27, callOf]; done)) (by simp) (lays_ok) ?_
              rintro _ _ ⟨rfl, rfl⟩
              try simp [hp1, hq1, h5, h6, h1, h7, c27]
              refine runL_go (by first | rfl | (simp [hp1, hq1, h5, h6, h1, h7, c27, wantedA]; done)) rfl ?_
              try simp [hp1, hq1, h5, h6, h1, h7, c27]
              refine runL_call' (b := true) (by first | rfl | (simp [hp1, hq1, h5, h6, h1, h7, c27, wantedA]; done)) rfl rfl (by first | rfl | (simp [hp1, hq1, h5, h6, h1, h7, c27, callOf]; done)) (by simp) (bad_none g1) ?_
              rintro _ _ ⟨rfl, rfl⟩
              try simp [hp1, hq1, h5, h6, h1, h7, c27]
              refine runL_go (by first | rfl | (simp [hp1, hq1, h5, h6, h1, h7, c27, wantedA]; done)) rfl ?_
              try simp [hp1, hq1, h5, h6, h1, h7, c27]
              refine runL_call' (b := true) (by first | rfl | (simp [hp1, hq1, h5, h6, h1, h7, c27, wantedA]; done)) rfl rfl (by first | rfl | (simp [hp1, hq1, h5, h6, h1, h7, c27, callOf]; done)) (by simp) (end_none g1) ?_
              rintro _ _ ⟨rfl, rfl⟩
              try simp [hp1, hq1, h5, h6, h1, h7, c27]
              refine runL_go (by first | rfl | (simp [hp1, hq1, h5, h6, h1, h7, c27, wantedA]; done)) rfl ?_
              try simp [hp1, hq1, h5, h6, h1, h7, c27]
              refine runL_go (by first | rfl | (simp [hp1, hq1, h5, h6, h1, h7, c27, wantedA]; done)) rfl ?_
              try simp [hp1, hq1, h5, h6, h1, h7, c27]
              refine runL_call' (b := true) (by first | rfl | (simp [hp1, hq1, h5, h6, h1, h7, c27, wantedA]; done)) rfl rfl (by first | rfl | (simp [hp1, hq1, h5, h6, h1, h7, c27, callOf]; done)) (by simp) (left_none g1) ?_
              rintro _ _ ⟨rfl, rfl⟩
              try simp [hp1, hq1, h5, h6, h1, h7, c27]
              refine runL_go (by first | rfl | (simp [hp1, hq1, h5, h6, h1, h7, c27, wantedA]; done)) rfl ?_
              try simp [hp1, hq1, h5, h6, h1, h7, c27]
              refine hJ22 _ _ ?_
              refine hK21 _ _ ?_
              refine run_ret ?_
              try simp only [Then, InBlock, NoGoto]
              refine answer_tmp rfl (.inr rfl) ?_
              simp
    · have hq1 : (40 : Int) < q.length := by omega
      refine callsA_body Try.func6 rfl rfl rfl ?_
      refine run_seq_k fun K1 hK1 => ?_
      refine run_region_k rfl fun J2 hJ2 => ?_
      try simp [hp1, hq1]
      refine hJ2 _ _ ?_
      refine hK1 _ _ ?_
      refine run_seq_k fun K3 hK3 => ?_
      refine run_seq_k fun K4 hK4 => ?_
      refine run_region_k rfl fun J5 hJ5 => ?_
      try simp [hp1, hq1]
      refine runL_go (by first | rfl | (simp [hp1, hq1, wantedA]; done)) rfl ?_
      try simp [hp1, hq1]
      refine runL_go (by first | rfl | (simp [hp1, hq1, wantedA]; done)) rfl ?_
      try simp [hp1, hq1]
      refine runL_go (by first | rfl | (simp [hp1, hq1, wantedA]; done)) rfl ?_
      try simp [hp1, hq1]
      refine hJ5 _ _ ?_
      refine hK4 _ _ ?_
      refine run_cond_true (by first | rfl | (simp [hp1, hq1, evalA]; done)) ?_
      refine run_seq_k fun K6 hK6 => ?_
      refine run_region_k rfl fun J7 hJ7 => ?_
      try simp [hp1, hq1]
      refine runL_call' (b := true) (by first | rfl | (simp [hp1, hq1, wantedA]; done)) rfl rfl (by first | rfl | (simp [hp1, hq1, callOf]; done)) (by simp) (lays_ok) ?_
      rintro _ _ ⟨rfl, rfl⟩
      try simp [hp1, hq1]
      refine hJ7 _ _ ?_
      refine hK6 _ _ ?_
      refine run_ret ?_
      try simp only [Then, InBlock, NoGoto]
      refine answer_tmp rfl (.inr rfl) ?_
      simp
  · have hp1 : (400 : Int) < p.length := by omega
    refine callsA_body Try.func6 rfl rfl rfl ?_
    refine run_seq_k fun K1 hK1 => ?_
    refine run_region_k rfl fun J2 hJ2 => ?_
    try simp [hp1]
    refine hJ2 _ _ ?_
    refine hK1 _ _ ?_
    refine run_seq_k fun K3 hK3 => ?_
    refine run_seq_k fun K4 hK4 => ?_
    refine run_region_k rfl fun J5 hJ5 => ?_
    try simp [hp1]
    refine runL_no (by first | rfl | (simp [hp1, wantedA]; done)) rfl ?_
    try simp [hp1]
    refine runL_no (by first | rfl | (simp [hp1, wantedA]; done)) rfl ?_
    try simp [hp1]
    refine runL_no (by first | rfl | (simp [hp1, wantedA]; done)) rfl ?_
    try simp [hp1]
    refine hJ5 _ _ ?_
    refine hK4 _ _ ?_
    refine run_cond_true (by first | rfl | (simp [hp1, evalA]; done)) ?_
    refine run_seq_k fun K6 hK6 => ?_
    refine run_region_k rfl fun J7 hJ7 => ?_
    try simp [hp1]
    refine runL_call' (b := true) (by first | rfl | (simp [hp1, wantedA]; done)) rfl rfl (by first | rfl | (simp [hp1, callOf]; done)) (by simp) (lays_ok) ?_
    rintro _ _ ⟨rfl, rfl⟩
    try simp [hp1]
    refine hJ7 _ _ ?_
    refine hK6 _ _ ?_
    refine run_ret ?_
    try simp only [Then, InBlock, NoGoto]
    refine answer_tmp rfl (.inr rfl) ?_
    simp

end Go.Proofs.Ytkbhdlocdajhmaa
