import Derived.Test.YtkbhdlocdajhmaaD7
/-
  CodecReads.
-/
namespace Go.Proofs.Ytkbhdlocdajhmaa
set_option linter.unnecessarySimpa false
open Go Go.Vm
set_option linter.unusedSimpArgs false
set_option linter.unusedVariables false
set_option maxRecDepth 100000

attribute [local simp] evalL wantedA isCall opA evalA evalAll evalsA evalOpt ofValue ofCell plain binA_eql_pn binA_neq_pn binA_gtr binA_lss binA_geq binA_leq binA_add binA_sub binA_eql binA_neq binA_or binA_shl binA_shr binA_mul binA_quo binA_rem binA_agg_eql binA_agg_neq convA_int unA_not fieldAddrA loadA partA pickA_true pickA_false pickA_bb lenA builtinA storeA splice AV.cells AV.isCell sliceA boundA intA callOf indexAddrA newObjA buildA fillA zeroA ofCells buildSliceA indexA fieldA coinsC_at

structure RdS where
  j : Nat
  s : Option (List UInt8)
  k : Nat

attribute [local simp] undefA List.getElem?_cons_zero List.getElem?_cons_succ in
theorem codecReads_ok {σ : St} {p kinds : List UInt8} {t2 : Tail} :
    CallsA Try.prog 5 [.sl 1 (bytesA p) p.length .shut, .sl 1 (bytesA kinds) kinds.length t2] σ (fun av σ' => av = .v (.bool true) ∧ σ = σ') := by
  refine callsA_gcS ?_ rfl
  have hbb : ∀ (xo yo : Operand) (a b : Bool), binA Try.prog .eql 4 xo yo (.v (.bool a)) (.v (.bool b)) = some (.v (.bool (a == b))) := by intro xo yo a b; cases a <;> cases b <;> rfl
  have hi0 : [AV.sl 1 (bytesA p) p.length Tail.shut, .v (.int .i64 0), .v (.bool false)] = inC p .shut 0 false := rfl
  refine callsA_body Try.func5 rfl rfl rfl ?_
  refine run_seq_k fun K1 hK1 => ?_
  refine run_region_k rfl fun J2 hJ2 => ?_
  try simp [hbb, hi0]
  repeat (simp (disch := omega) only [wC, if_pos, if_neg]; try simp [hbb, hi0])
  refine hJ2 _ _ ?_
  refine hK1 _ _ ?_
  refine run_seq_k fun K3 hK3 => ?_
  refine run_seq_k fun K4 hK4 => ?_
  refine run_region_k rfl fun J5 hJ5 => ?_
  try simp [hbb, hi0]
  repeat (simp (disch := omega) only [wC, if_pos, if_neg]; try simp [hbb, hi0])
  refine runL_splitB 11 (by first | rfl | (simp [hbb, hi0]; done)) (fun g1_3 => ?_) (fun g1_3 => ?_)
  · try (exfalso; first | (revert g1_3; simp [hbb, hi0]; done) | (have gq := g1_3; simp [hbb, hi0] at gq; omega) | (have gq := g1_3; simp [hbb, hi0] at gq; done))
    all_goals
      have g1_3p := g1_3
      try simp [hbb, hi0] at g1_3p
      all_goals (first | (have gq := g1_3p; skip) | have g1_3p : True := True.intro)
      all_goals
        refine runL_no (by first | rfl | (simp [hbb, hi0, g1_3, g1_3p, wantedA]; done)) rfl ?_
        try simp [hbb, hi0, g1_3, g1_3p]
        repeat (simp (disch := omega) only [wC, if_pos, if_neg]; try simp [hbb, hi0, g1_3, g1_3p])
        refine runL_no (by first | rfl | (simp [hbb, hi0, g1_3, g1_3p, wantedA]; done)) rfl ?_
        try simp [hbb, hi0, g1_3, g1_3p]
        repeat (simp (disch := omega) only [wC, if_pos, if_neg]; try simp [hbb, hi0, g1_3, g1_3p])
        refine runL_no (by first | rfl | (simp [hbb, hi0, g1_3, g1_3p, wantedA]; done)) rfl ?_
        try simp [hbb, hi0, g1_3, g1_3p]
        repeat (simp (disch := omega) only [wC, if_pos, if_neg]; try simp [hbb, hi0, g1_3, g1_3p])
        refine hJ5 _ _ ?_
        refine hK4 _ _ ?_
        refine run_cond_true (by first | rfl | (simp [hbb, hi0, g1_3, g1_3p, evalA]; done)) ?_
        refine run_seq_k fun K6 hK6 => ?_
        refine run_region_k rfl fun J7 hJ7 => ?_
        try simp [hbb, hi0, g1_3, g1_3p]
        repeat (simp (disch := omega) only [wC, if_pos, if_neg]; try simp [hbb, hi0, g1_3, g1_3p])
        refine runL_call' (b := true) (by first | rfl | (simp [hbb, hi0, g1_3, g1_3p, wantedA]; done)) rfl rfl (by first | rfl | (simp [hbb, hi0, g1_3, g1_3p, callOf]; done)) (by simp) (lays_ok) ?_
        rintro _ _ ⟨rfl, rfl⟩
        try simp [hbb, hi0, g1_3, g1_3p]
        repeat (simp (disch := omega) only [wC, if_pos, if_neg]; try simp [hbb, hi0, g1_3, g1_3p])
        refine hJ7 _ _ ?_
        refine hK6 _ _ ?_
        refine run_ret ?_
        try simp only [Then, InBlock, NoGoto]
        refine answer_tmp rfl (.inr rfl) ?_
        exact ⟨by first | exact Wk.refl _ | (simp [hbb, hi0, g1_3, g1_3p]; exact Wk.refl _) | (simp [*]; exact Wk.refl _) | exact Wk.shut _ _ _ _ | exact Wk.nil _ _ _, _, _, _, st_app (by first | rfl | exact (List.append_nil _).symm | (simp [hbb, hi0, g1_3, g1_3p]; rfl) | (simp [hbb, hi0, g1_3, g1_3p]; done)) (by first | rfl | exact (List.append_nil _).symm | (simp [hbb, hi0, g1_3, g1_3p]; rfl)) (by first | rfl | exact (List.append_nil _).symm | (simp [hbb, hi0, g1_3, g1_3p]; rfl)) rfl⟩
  · try (exfalso; first | (revert g1_3; simp [hbb, hi0]; done) | (have gq := g1_3; simp [hbb, hi0] at gq; omega) | (have gq := g1_3; simp [hbb, hi0] at gq; done))
    all_goals
      have g1_3p := g1_3
      try simp [hbb, hi0] at g1_3p
      all_goals (first | (have gq := g1_3p; skip) | have g1_3p : True := True.intro)
      all_goals
        refine runL_go (by first | rfl | (simp [hbb, hi0, g1_3, g1_3p, wantedA]; done)) rfl ?_
        try simp [hbb, hi0, g1_3, g1_3p]
        repeat (simp (disch := omega) only [wC, if_pos, if_neg]; try simp [hbb, hi0, g1_3, g1_3p])
        refine runL_go (by first | rfl | (simp [hbb, hi0, g1_3, g1_3p, wantedA]; done)) rfl ?_
        try simp [hbb, hi0, g1_3, g1_3p]
        repeat (simp (disch := omega) only [wC, if_pos, if_neg]; try simp [hbb, hi0, g1_3, g1_3p])
        refine runL_go (by first | rfl | (simp [hbb, hi0, g1_3, g1_3p, wantedA]; done)) rfl ?_
        try simp [hbb, hi0, g1_3, g1_3p]
        repeat (simp (disch := omega) only [wC, if_pos, if_neg]; try simp [hbb, hi0, g1_3, g1_3p])
        refine hJ5 _ _ ?_
        refine hK4 _ _ ?_
        refine run_cond_split (by first | rfl | (simp [hbb, hi0, g1_3, g1_3p, evalA]; done)) (fun c15 => ?_) (fun c15 => ?_)
        · try (exfalso; first | (revert c15; simp [hbb, hi0, g1_3, g1_3p]; done) | (have gq := c15; simp [hbb, hi0, g1_3, g1_3p] at gq; omega) | (have gq := c15; simp [hbb, hi0, g1_3, g1_3p] at gq; done))
          all_goals
            have c15p := c15
            try simp [hbb, hi0, g1_3, g1_3p] at c15p
            all_goals (first | (have gq := c15p; skip) | have c15p : True := True.intro)
            all_goals
              refine run_seq_k fun K8 hK8 => ?_
              refine run_region_k rfl fun J9 hJ9 => ?_
              try simp [hbb, hi0, g1_3, g1_3p, c15, c15p]
              repeat (simp (disch := omega) only [wC, if_pos, if_neg]; try simp [hbb, hi0, g1_3, g1_3p, c15, c15p])
              refine runL_call' (b := true) (by first | rfl | (simp [hbb, hi0, g1_3, g1_3p, c15, c15p, wantedA]; done)) rfl rfl (by first | rfl | (simp [hbb, hi0, g1_3, g1_3p, c15, c15p, callOf]; done)) (by simp) (lays_ok) ?_
              rintro _ _ ⟨rfl, rfl⟩
              try simp [hbb, hi0, g1_3, g1_3p, c15, c15p]
              repeat (simp (disch := omega) only [wC, if_pos, if_neg]; try simp [hbb, hi0, g1_3, g1_3p, c15, c15p])
              refine hJ9 _ _ ?_
              refine hK8 _ _ ?_
              refine run_ret ?_
              try simp only [Then, InBlock, NoGoto]
              refine answer_tmp rfl (.inr rfl) ?_
              exact ⟨by first | exact Wk.refl _ | (simp [hbb, hi0, g1_3, g1_3p, c15, c15p]; exact Wk.refl _) | (simp [*]; exact Wk.refl _) | exact Wk.shut _ _ _ _ | exact Wk.nil _ _ _, _, _, _, st_app (by first | rfl | exact (List.append_nil _).symm | (simp [hbb, hi0, g1_3, g1_3p, c15, c15p]; rfl) | (simp [hbb, hi0, g1_3, g1_3p, c15, c15p]; done)) (by first | rfl | exact (List.append_nil _).symm | (simp [hbb, hi0, g1_3, g1_3p, c15, c15p]; rfl)) (by first | rfl | exact (List.append_nil _).symm | (simp [hbb, hi0, g1_3, g1_3p, c15, c15p]; rfl)) rfl⟩
        · try (exfalso; first | (revert c15; simp [hbb, hi0, g1_3, g1_3p]; done) | (have gq := c15; simp [hbb, hi0, g1_3, g1_3p] at gq; omega) | (have gq := c15; simp [hbb, hi0, g1_3, g1_3p] at gq; done))
          all_goals
            have c15p := c15
            try simp [hbb, hi0, g1_3, g1_3p] at c15p
            all_goals (first | (have gq := c15p; skip) | have c15p : True := True.intro)
            all_goals
              refine run_skip ?_
              refine hK3 _ _ ?_
              refine run_seq_k fun K10 hK10 => ?_
              refine run_region_k rfl fun J11 hJ11 => ?_
              try simp [hbb, hi0, g1_3, g1_3p, c15, c15p]
              repeat (simp (disch := omega) only [wC, if_pos, if_neg]; try simp [hbb, hi0, g1_3, g1_3p, c15, c15p])
              refine runL_call' (b := true) (by first | rfl | (simp [hbb, hi0, g1_3, g1_3p, c15, c15p, wantedA]; done)) rfl rfl (by first | rfl | (simp [hbb, hi0, g1_3, g1_3p, c15, c15p, callOf]; done)) (by simp) (new_ok (by omega)) ?_
              rintro _ _ ⟨rfl, rfl⟩
              try simp [hbb, hi0, g1_3, g1_3p, c15, c15p]
              repeat (simp (disch := omega) only [wC, if_pos, if_neg]; try simp [hbb, hi0, g1_3, g1_3p, c15, c15p])
              refine hJ11 _ _ ?_
              refine hK10 _ _ ?_
              refine run_seq_k fun K12 hK12 => ?_
              refine run_seq_k fun K13 hK13 => ?_
              refine run_region_k rfl fun J14 hJ14 => ?_
              try simp [hbb, hi0, g1_3, g1_3p, c15, c15p]
              repeat (simp (disch := omega) only [wC, if_pos, if_neg]; try simp [hbb, hi0, g1_3, g1_3p, c15, c15p])
              refine hJ14 _ _ ?_
              refine hK13 _ _ ?_
              refine run_block_k ?_
              refine run_loopF (X := RdS) [1, 5, 6] (fun q ρ σ1 => (q.j ≤ kinds.length) ∧ (At p q.k q.s) ∧ (ρ 7 = .v (.int .i64 q.j)) ∧ (σ1 = { σ with objs := σ.objs ++ [rd q.s, inC p .shut q.k q.s.isNone] })) (fun q => kinds.length - q.j) (⟨0, some p, 0⟩) ?st1 ?rd1
              case st1 =>
                refine ⟨?_, ?_, ?_, ?_⟩
                · first | rfl | (simp [hbb, hi0, g1_3, g1_3p, c15, c15p]; done) | omega | assumption | (simp [hbb, hi0, g1_3, g1_3p, c15, c15p]; omega) | (simp only [putA_get]; simp (disch := omega) only [wC, if_pos, if_neg]; simp [hbb, hi0, g1_3, g1_3p, c15, c15p]; done) | (simp [hbb, hi0, g1_3, g1_3p, c15, c15p]; simp (disch := omega) only [wC, if_pos, if_neg]; simp [hbb, hi0, g1_3, g1_3p, c15, c15p]; done)
                · exact ⟨by simp, .inr rfl⟩
                · first | rfl | (simp [hbb, hi0, g1_3, g1_3p, c15, c15p]; done) | omega | assumption | (simp [hbb, hi0, g1_3, g1_3p, c15, c15p]; omega) | (simp only [putA_get]; simp (disch := omega) only [wC, if_pos, if_neg]; simp [hbb, hi0, g1_3, g1_3p, c15, c15p]; done) | (simp [hbb, hi0, g1_3, g1_3p, c15, c15p]; simp (disch := omega) only [wC, if_pos, if_neg]; simp [hbb, hi0, g1_3, g1_3p, c15, c15p]; done)
                · first | rfl | (simp [hbb, hi0, g1_3, g1_3p, c15, c15p]; done) | omega | assumption | (simp [hbb, hi0, g1_3, g1_3p, c15, c15p]; omega) | (simp only [putA_get]; simp (disch := omega) only [wC, if_pos, if_neg]; simp [hbb, hi0, g1_3, g1_3p, c15, c15p]; done) | (simp [hbb, hi0, g1_3, g1_3p, c15, c15p]; simp (disch := omega) only [wC, if_pos, if_neg]; simp [hbb, hi0, g1_3, g1_3p, c15, c15p]; done)
              case rd1 =>
                rintro q ρ1 σ1 hF1 ⟨hj, hq, h7, hσ⟩
                obtain rfl := hσ.symm
                have f1_1 := hF1 1 (by decide)
                try simp [hbb, hi0, g1_3, g1_3p, c15, c15p] at f1_1
                have f1_5 := hF1 5 (by decide)
                try simp [hbb, hi0, g1_3, g1_3p, c15, c15p] at f1_5
                have f1_6 := hF1 6 (by decide)
                try simp [hbb, hi0, g1_3, g1_3p, c15, c15p] at f1_6
                refine run_seq_k fun K15 hK15 => ?_
                refine run_seq_k fun K16 hK16 => ?_
                refine run_region_k rfl fun J17 hJ17 => ?_
                try simp [hbb, hi0, g1_3, g1_3p, c15, c15p, h7, f1_1, f1_5, f1_6]
                repeat (simp (disch := omega) only [wC, if_pos, if_neg]; try simp [hbb, hi0, g1_3, g1_3p, c15, c15p, h7, f1_1, f1_5, f1_6])
                refine hJ17 _ _ ?_
                refine hK16 _ _ ?_
                refine run_cond_split (by first | rfl | (simp [hbb, hi0, g1_3, g1_3p, c15, c15p, h7, f1_1, f1_5, f1_6, evalA]; done)) (fun c25 => ?_) (fun c25 => ?_)
                · try (exfalso; first | (revert c25; simp [hbb, hi0, g1_3, g1_3p, c15, c15p, h7, f1_1, f1_5, f1_6]; done) | (have gq := c25; simp [hbb, hi0, g1_3, g1_3p, c15, c15p, h7, f1_1, f1_5, f1_6] at gq; omega) | (have gq := c25; simp [hbb, hi0, g1_3, g1_3p, c15, c15p, h7, f1_1, f1_5, f1_6] at gq; done))
                  all_goals
                    have c25p := c25
                    try simp [hbb, hi0, g1_3, g1_3p, c15, c15p, h7, f1_1, f1_5, f1_6] at c25p
                    all_goals (first | (have gq := c25p; skip) | have c25p : True := True.intro)
                    all_goals
                      refine run_skip ?_
                      refine hK15 _ _ ?_
                      refine run_seq_k fun K18 hK18 => ?_
                      refine run_block_k ?_
                      refine run_seq_k fun K19 hK19 => ?_
                      refine run_region_k rfl fun J20 hJ20 => ?_
                      try simp [hbb, hi0, g1_3, g1_3p, c15, c15p, h7, f1_1, f1_5, f1_6, c25, c25p]
                      repeat (simp (disch := omega) only [wC, if_pos, if_neg]; try simp [hbb, hi0, g1_3, g1_3p, c15, c15p, h7, f1_1, f1_5, f1_6, c25, c25p])
                      refine runL_call' (b := true) (by first | rfl | (simp [hbb, hi0, g1_3, g1_3p, c15, c15p, h7, f1_1, f1_5, f1_6, c25, c25p, wantedA]; done)) rfl rfl (by first | rfl | (simp [hbb, hi0, g1_3, g1_3p, c15, c15p, h7, f1_1, f1_5, f1_6, c25, c25p, callOf]; done)) (by simp) (reads_ok (s := q.s) (k := q.k) (kd := kinds[q.j]) (by simp) (by simp) (by omega) (by omega) hq) ?_
                      rintro _ _ ⟨rfl, k1, hk1, rfl⟩
                      try simp [hbb, hi0, g1_3, g1_3p, c15, c15p, h7, f1_1, f1_5, f1_6, c25, c25p]
                      repeat (simp (disch := omega) only [wC, if_pos, if_neg]; try simp [hbb, hi0, g1_3, g1_3p, c15, c15p, h7, f1_1, f1_5, f1_6, c25, c25p])
                      refine hJ20 _ _ ?_
                      refine hK19 _ _ ?_
                      refine run_cond_split (by first | rfl | (simp [hbb, hi0, g1_3, g1_3p, c15, c15p, h7, f1_1, f1_5, f1_6, c25, c25p, evalA]; done)) (fun c35 => ?_) (fun c35 => ?_)
                      · try (exfalso; first | (revert c35; simp [hbb, hi0, g1_3, g1_3p, c15, c15p, h7, f1_1, f1_5, f1_6, c25, c25p]; done) | (have gq := c35; simp [hbb, hi0, g1_3, g1_3p, c15, c15p, h7, f1_1, f1_5, f1_6, c25, c25p] at gq; omega) | (have gq := c35; simp [hbb, hi0, g1_3, g1_3p, c15, c15p, h7, f1_1, f1_5, f1_6, c25, c25p] at gq; done))
                        all_goals
                          have c35p := c35
                          try simp [hbb, hi0, g1_3, g1_3p, c15, c15p, h7, f1_1, f1_5, f1_6, c25, c25p] at c35p
                          all_goals (first | (have gq := c35p; skip) | have c35p : True := True.intro)
                          all_goals
                            refine run_seq_k fun K21 hK21 => ?_
                            refine run_region_k rfl fun J22 hJ22 => ?_
                            try simp [hbb, hi0, g1_3, g1_3p, c15, c15p, h7, f1_1, f1_5, f1_6, c25, c25p, c35, c35p]
                            repeat (simp (disch := omega) only [wC, if_pos, if_neg]; try simp [hbb, hi0, g1_3, g1_3p, c15, c15p, h7, f1_1, f1_5, f1_6, c25, c25p, c35, c35p])
                            refine hJ22 _ _ ?_
                            refine hK21 _ _ ?_
                            refine run_ret ?_
                            try simp only [Then, InBlock, NoGoto]
                            refine answer_tmp rfl (.inr rfl) ?_
                            exact ⟨by first | exact Wk.refl _ | (simp [hbb, hi0, g1_3, g1_3p, c15, c15p, h7, f1_1, f1_5, f1_6, c25, c25p, c35, c35p]; exact Wk.refl _) | (simp [*]; exact Wk.refl _) | exact Wk.shut _ _ _ _ | exact Wk.nil _ _ _, _, _, _, st_app (by first | rfl | exact (List.append_nil _).symm | (simp [hbb, hi0, g1_3, g1_3p, c15, c15p, h7, f1_1, f1_5, f1_6, c25, c25p, c35, c35p]; rfl) | (simp [hbb, hi0, g1_3, g1_3p, c15, c15p, h7, f1_1, f1_5, f1_6, c25, c25p, c35, c35p]; done)) (by first | rfl | exact (List.append_nil _).symm | (simp [hbb, hi0, g1_3, g1_3p, c15, c15p, h7, f1_1, f1_5, f1_6, c25, c25p, c35, c35p]; rfl)) (by first | rfl | exact (List.append_nil _).symm | (simp [hbb, hi0, g1_3, g1_3p, c15, c15p, h7, f1_1, f1_5, f1_6, c25, c25p, c35, c35p]; rfl)) rfl⟩
                      · try (exfalso; first | (revert c35; simp [hbb, hi0, g1_3, g1_3p, c15, c15p, h7, f1_1, f1_5, f1_6, c25, c25p]; done) | (have gq := c35; simp [hbb, hi0, g1_3, g1_3p, c15, c15p, h7, f1_1, f1_5, f1_6, c25, c25p] at gq; omega) | (have gq := c35; simp [hbb, hi0, g1_3, g1_3p, c15, c15p, h7, f1_1, f1_5, f1_6, c25, c25p] at gq; done))
                        all_goals
                          have c35p := c35
                          try simp [hbb, hi0, g1_3, g1_3p, c15, c15p, h7, f1_1, f1_5, f1_6, c25, c25p] at c35p
                          all_goals (first | (have gq := c35p; skip) | have c35p : True := True.intro)
                          all_goals
                            refine run_skip ?_
                            refine hK18 _ _ ?_
                            refine run_region_k rfl fun J23 hJ23 => ?_
                            try simp [hbb, hi0, g1_3, g1_3p, c15, c15p, h7, f1_1, f1_5, f1_6, c25, c25p, c35, c35p]
                            repeat (simp (disch := omega) only [wC, if_pos, if_neg]; try simp [hbb, hi0, g1_3, g1_3p, c15, c15p, h7, f1_1, f1_5, f1_6, c25, c25p, c35, c35p])
                            refine hJ23 _ _ ?_
                            refine ⟨(⟨q.j + 1, readS kinds[q.j].toNat q.s, k1⟩), ⟨?_, ?_, ?_, ?_, ?_⟩, ?_⟩
                            · first | (simp [hbb, hi0, g1_3, g1_3p, c15, c15p, h7, f1_1, f1_5, f1_6, c25, c25p, c35, c35p]; done) | (intro r hr; revert hr; simp [hbb, hi0, g1_3, g1_3p, c15, c15p, h7, f1_1, f1_5, f1_6, c25, c25p, c35, c35p]; done) | (intro r hr; simp only [List.mem_cons, List.not_mem_nil, or_false] at hr; rcases hr with rfl | rfl | rfl <;> simp [hbb, hi0, g1_3, g1_3p, c15, c15p, h7, f1_1, f1_5, f1_6, c25, c25p, c35, c35p] <;> done)
                            · first | rfl | (simp [hbb, hi0, g1_3, g1_3p, c15, c15p, h7, f1_1, f1_5, f1_6, c25, c25p, c35, c35p]; done) | omega | assumption | (simp [hbb, hi0, g1_3, g1_3p, c15, c15p, h7, f1_1, f1_5, f1_6, c25, c25p, c35, c35p]; omega) | (simp only [putA_get]; simp (disch := omega) only [wC, if_pos, if_neg]; simp [hbb, hi0, g1_3, g1_3p, c15, c15p, h7, f1_1, f1_5, f1_6, c25, c25p, c35, c35p]; done) | (simp [hbb, hi0, g1_3, g1_3p, c15, c15p, h7, f1_1, f1_5, f1_6, c25, c25p, c35, c35p]; simp (disch := omega) only [wC, if_pos, if_neg]; simp [hbb, hi0, g1_3, g1_3p, c15, c15p, h7, f1_1, f1_5, f1_6, c25, c25p, c35, c35p]; done)
                            · exact hk1
                            · first | rfl | (simp [hbb, hi0, g1_3, g1_3p, c15, c15p, h7, f1_1, f1_5, f1_6, c25, c25p, c35, c35p]; done) | omega | assumption | (simp [hbb, hi0, g1_3, g1_3p, c15, c15p, h7, f1_1, f1_5, f1_6, c25, c25p, c35, c35p]; omega) | (simp only [putA_get]; simp (disch := omega) only [wC, if_pos, if_neg]; simp [hbb, hi0, g1_3, g1_3p, c15, c15p, h7, f1_1, f1_5, f1_6, c25, c25p, c35, c35p]; done) | (simp [hbb, hi0, g1_3, g1_3p, c15, c15p, h7, f1_1, f1_5, f1_6, c25, c25p, c35, c35p]; simp (disch := omega) only [wC, if_pos, if_neg]; simp [hbb, hi0, g1_3, g1_3p, c15, c15p, h7, f1_1, f1_5, f1_6, c25, c25p, c35, c35p]; done)
                            · first | rfl | (simp [hbb, hi0, g1_3, g1_3p, c15, c15p, h7, f1_1, f1_5, f1_6, c25, c25p, c35, c35p]; done) | omega | assumption | (simp [hbb, hi0, g1_3, g1_3p, c15, c15p, h7, f1_1, f1_5, f1_6, c25, c25p, c35, c35p]; omega) | (simp only [putA_get]; simp (disch := omega) only [wC, if_pos, if_neg]; simp [hbb, hi0, g1_3, g1_3p, c15, c15p, h7, f1_1, f1_5, f1_6, c25, c25p, c35, c35p]; done) | (simp [hbb, hi0, g1_3, g1_3p, c15, c15p, h7, f1_1, f1_5, f1_6, c25, c25p, c35, c35p]; simp (disch := omega) only [wC, if_pos, if_neg]; simp [hbb, hi0, g1_3, g1_3p, c15, c15p, h7, f1_1, f1_5, f1_6, c25, c25p, c35, c35p]; done)
                            · first | rfl | (simp [hbb, hi0, g1_3, g1_3p, c15, c15p, h7, f1_1, f1_5, f1_6, c25, c25p, c35, c35p]; done) | omega | assumption | (simp [hbb, hi0, g1_3, g1_3p, c15, c15p, h7, f1_1, f1_5, f1_6, c25, c25p, c35, c35p]; omega) | (simp only [putA_get]; simp (disch := omega) only [wC, if_pos, if_neg]; simp [hbb, hi0, g1_3, g1_3p, c15, c15p, h7, f1_1, f1_5, f1_6, c25, c25p, c35, c35p]; done) | (simp [hbb, hi0, g1_3, g1_3p, c15, c15p, h7, f1_1, f1_5, f1_6, c25, c25p, c35, c35p]; simp (disch := omega) only [wC, if_pos, if_neg]; simp [hbb, hi0, g1_3, g1_3p, c15, c15p, h7, f1_1, f1_5, f1_6, c25, c25p, c35, c35p]; done)
                · try (exfalso; first | (revert c25; simp [hbb, hi0, g1_3, g1_3p, c15, c15p, h7, f1_1, f1_5, f1_6]; done) | (have gq := c25; simp [hbb, hi0, g1_3, g1_3p, c15, c15p, h7, f1_1, f1_5, f1_6] at gq; omega) | (have gq := c25; simp [hbb, hi0, g1_3, g1_3p, c15, c15p, h7, f1_1, f1_5, f1_6] at gq; done))
                  all_goals
                    have c25p := c25
                    try simp [hbb, hi0, g1_3, g1_3p, c15, c15p, h7, f1_1, f1_5, f1_6] at c25p
                    all_goals (first | (have gq := c25p; skip) | have c25p : True := True.intro)
                    all_goals
                      refine run_exit ?_
                      refine hK12 _ _ ?_
                      refine run_seq_k fun K24 hK24 => ?_
                      refine run_region_k rfl fun J25 hJ25 => ?_
                      try simp [hbb, hi0, g1_3, g1_3p, c15, c15p, h7, f1_1, f1_5, f1_6, c25, c25p]
                      repeat (simp (disch := omega) only [wC, if_pos, if_neg]; try simp [hbb, hi0, g1_3, g1_3p, c15, c15p, h7, f1_1, f1_5, f1_6, c25, c25p])
                      refine runL_call' (b := true) (by first | rfl | (simp [hbb, hi0, g1_3, g1_3p, c15, c15p, h7, f1_1, f1_5, f1_6, c25, c25p, wantedA]; done)) rfl rfl (by first | rfl | (simp [hbb, hi0, g1_3, g1_3p, c15, c15p, h7, f1_1, f1_5, f1_6, c25, c25p, callOf]; done)) (by simp) (lays_ok) ?_
                      rintro _ _ ⟨rfl, rfl⟩
                      try simp [hbb, hi0, g1_3, g1_3p, c15, c15p, h7, f1_1, f1_5, f1_6, c25, c25p]
                      repeat (simp (disch := omega) only [wC, if_pos, if_neg]; try simp [hbb, hi0, g1_3, g1_3p, c15, c15p, h7, f1_1, f1_5, f1_6, c25, c25p])
                      refine runL_splitB 37 (by first | rfl | (simp [hbb, hi0, g1_3, g1_3p, c15, c15p, h7, f1_1, f1_5, f1_6, c25, c25p]; done)) (fun g9_1 => ?_) (fun g9_1 => ?_)
                      · try (exfalso; first | (revert g9_1; simp [hbb, hi0, g1_3, g1_3p, c15, c15p, h7, f1_1, f1_5, f1_6, c25, c25p]; done) | (have gq := g9_1; simp [hbb, hi0, g1_3, g1_3p, c15, c15p, h7, f1_1, f1_5, f1_6, c25, c25p] at gq; omega) | (have gq := g9_1; simp [hbb, hi0, g1_3, g1_3p, c15, c15p, h7, f1_1, f1_5, f1_6, c25, c25p] at gq; done))
                        all_goals
                          have g9_1p := g9_1
                          try simp [hbb, hi0, g1_3, g1_3p, c15, c15p, h7, f1_1, f1_5, f1_6, c25, c25p] at g9_1p
                          all_goals (first | (have gq := g9_1p; skip) | have g9_1p : True := True.intro)
                          all_goals
                            refine runL_go (by first | rfl | (simp [hbb, hi0, g1_3, g1_3p, c15, c15p, h7, f1_1, f1_5, f1_6, c25, c25p, g9_1, g9_1p, wantedA]; done)) rfl ?_
                            try simp [hbb, hi0, g1_3, g1_3p, c15, c15p, h7, f1_1, f1_5, f1_6, c25, c25p, g9_1, g9_1p]
                            repeat (simp (disch := omega) only [wC, if_pos, if_neg]; try simp [hbb, hi0, g1_3, g1_3p, c15, c15p, h7, f1_1, f1_5, f1_6, c25, c25p, g9_1, g9_1p])
                            refine runL_call' (b := true) (by first | rfl | (simp [hbb, hi0, g1_3, g1_3p, c15, c15p, h7, f1_1, f1_5, f1_6, c25, c25p, g9_1, g9_1p, wantedA]; done)) rfl rfl (by first | rfl | (simp [hbb, hi0, g1_3, g1_3p, c15, c15p, h7, f1_1, f1_5, f1_6, c25, c25p, g9_1, g9_1p, callOf]; done)) (by simp) (end_ok (s := q.s) (by simp)) ?_
                            rintro _ _ ⟨rfl, rfl⟩
                            try simp [hbb, hi0, g1_3, g1_3p, c15, c15p, h7, f1_1, f1_5, f1_6, c25, c25p, g9_1, g9_1p]
                            repeat (simp (disch := omega) only [wC, if_pos, if_neg]; try simp [hbb, hi0, g1_3, g1_3p, c15, c15p, h7, f1_1, f1_5, f1_6, c25, c25p, g9_1, g9_1p])
                            refine runL_go (by first | rfl | (simp [hbb, hi0, g1_3, g1_3p, c15, c15p, h7, f1_1, f1_5, f1_6, c25, c25p, g9_1, g9_1p, wantedA]; done)) rfl ?_
                            try simp [hbb, hi0, g1_3, g1_3p, c15, c15p, h7, f1_1, f1_5, f1_6, c25, c25p, g9_1, g9_1p]
                            repeat (simp (disch := omega) only [wC, if_pos, if_neg]; try simp [hbb, hi0, g1_3, g1_3p, c15, c15p, h7, f1_1, f1_5, f1_6, c25, c25p, g9_1, g9_1p])
                            refine runL_call' (b := true) (by first | rfl | (simp [hbb, hi0, g1_3, g1_3p, c15, c15p, h7, f1_1, f1_5, f1_6, c25, c25p, g9_1, g9_1p, wantedA]; done)) rfl rfl (by first | rfl | (simp [hbb, hi0, g1_3, g1_3p, c15, c15p, h7, f1_1, f1_5, f1_6, c25, c25p, g9_1, g9_1p, callOf]; done)) (by simp) (inEnd_ok (s := q.s) (tl := .shut) (by simp) hq) ?_
                            rintro _ _ ⟨rfl, rfl⟩
                            try simp [hbb, hi0, g1_3, g1_3p, c15, c15p, h7, f1_1, f1_5, f1_6, c25, c25p, g9_1, g9_1p]
                            repeat (simp (disch := omega) only [wC, if_pos, if_neg]; try simp [hbb, hi0, g1_3, g1_3p, c15, c15p, h7, f1_1, f1_5, f1_6, c25, c25p, g9_1, g9_1p])
                            refine runL_go (by first | rfl | (simp [hbb, hi0, g1_3, g1_3p, c15, c15p, h7, f1_1, f1_5, f1_6, c25, c25p, g9_1, g9_1p, wantedA]; done)) rfl ?_
                            try simp [hbb, hi0, g1_3, g1_3p, c15, c15p, h7, f1_1, f1_5, f1_6, c25, c25p, g9_1, g9_1p]
                            repeat (simp (disch := omega) only [wC, if_pos, if_neg]; try simp [hbb, hi0, g1_3, g1_3p, c15, c15p, h7, f1_1, f1_5, f1_6, c25, c25p, g9_1, g9_1p])
                            refine hJ25 _ _ ?_
                            refine hK24 _ _ ?_
                            refine run_ret ?_
                            try simp only [Then, InBlock, NoGoto]
                            refine answer_tmp rfl (.inr rfl) ?_
                            exact ⟨by first | exact Wk.refl _ | (simp [hbb, hi0, g1_3, g1_3p, c15, c15p, h7, f1_1, f1_5, f1_6, c25, c25p, g9_1, g9_1p]; exact Wk.refl _) | (simp [*]; exact Wk.refl _) | exact Wk.shut _ _ _ _ | exact Wk.nil _ _ _, _, _, _, st_app (by first | rfl | exact (List.append_nil _).symm | (simp [hbb, hi0, g1_3, g1_3p, c15, c15p, h7, f1_1, f1_5, f1_6, c25, c25p, g9_1, g9_1p]; rfl) | (simp [hbb, hi0, g1_3, g1_3p, c15, c15p, h7, f1_1, f1_5, f1_6, c25, c25p, g9_1, g9_1p]; done)) (by first | rfl | exact (List.append_nil _).symm | (simp [hbb, hi0, g1_3, g1_3p, c15, c15p, h7, f1_1, f1_5, f1_6, c25, c25p, g9_1, g9_1p]; rfl)) (by first | rfl | exact (List.append_nil _).symm | (simp [hbb, hi0, g1_3, g1_3p, c15, c15p, h7, f1_1, f1_5, f1_6, c25, c25p, g9_1, g9_1p]; rfl)) rfl⟩
                      · try (exfalso; first | (revert g9_1; simp [hbb, hi0, g1_3, g1_3p, c15, c15p, h7, f1_1, f1_5, f1_6, c25, c25p]; done) | (have gq := g9_1; simp [hbb, hi0, g1_3, g1_3p, c15, c15p, h7, f1_1, f1_5, f1_6, c25, c25p] at gq; omega) | (have gq := g9_1; simp [hbb, hi0, g1_3, g1_3p, c15, c15p, h7, f1_1, f1_5, f1_6, c25, c25p] at gq; done))
                        all_goals
                          have g9_1p := g9_1
                          try simp [hbb, hi0, g1_3, g1_3p, c15, c15p, h7, f1_1, f1_5, f1_6, c25, c25p] at g9_1p
                          all_goals (first | (have gq := g9_1p; skip) | have g9_1p : True := True.intro)
                          all_goals
                            refine runL_no (by first | rfl | (simp [hbb, hi0, g1_3, g1_3p, c15, c15p, h7, f1_1, f1_5, f1_6, c25, c25p, g9_1, g9_1p, wantedA]; done)) rfl ?_
                            try simp [hbb, hi0, g1_3, g1_3p, c15, c15p, h7, f1_1, f1_5, f1_6, c25, c25p, g9_1, g9_1p]
                            repeat (simp (disch := omega) only [wC, if_pos, if_neg]; try simp [hbb, hi0, g1_3, g1_3p, c15, c15p, h7, f1_1, f1_5, f1_6, c25, c25p, g9_1, g9_1p])
                            refine runL_no (by first | rfl | (simp [hbb, hi0, g1_3, g1_3p, c15, c15p, h7, f1_1, f1_5, f1_6, c25, c25p, g9_1, g9_1p, wantedA]; done)) rfl ?_
                            try simp [hbb, hi0, g1_3, g1_3p, c15, c15p, h7, f1_1, f1_5, f1_6, c25, c25p, g9_1, g9_1p]
                            repeat (simp (disch := omega) only [wC, if_pos, if_neg]; try simp [hbb, hi0, g1_3, g1_3p, c15, c15p, h7, f1_1, f1_5, f1_6, c25, c25p, g9_1, g9_1p])
                            refine runL_no (by first | rfl | (simp [hbb, hi0, g1_3, g1_3p, c15, c15p, h7, f1_1, f1_5, f1_6, c25, c25p, g9_1, g9_1p, wantedA]; done)) rfl ?_
                            try simp [hbb, hi0, g1_3, g1_3p, c15, c15p, h7, f1_1, f1_5, f1_6, c25, c25p, g9_1, g9_1p]
                            repeat (simp (disch := omega) only [wC, if_pos, if_neg]; try simp [hbb, hi0, g1_3, g1_3p, c15, c15p, h7, f1_1, f1_5, f1_6, c25, c25p, g9_1, g9_1p])
                            refine runL_no (by first | rfl | (simp [hbb, hi0, g1_3, g1_3p, c15, c15p, h7, f1_1, f1_5, f1_6, c25, c25p, g9_1, g9_1p, wantedA]; done)) rfl ?_
                            try simp [hbb, hi0, g1_3, g1_3p, c15, c15p, h7, f1_1, f1_5, f1_6, c25, c25p, g9_1, g9_1p]
                            repeat (simp (disch := omega) only [wC, if_pos, if_neg]; try simp [hbb, hi0, g1_3, g1_3p, c15, c15p, h7, f1_1, f1_5, f1_6, c25, c25p, g9_1, g9_1p])
                            refine runL_no (by first | rfl | (simp [hbb, hi0, g1_3, g1_3p, c15, c15p, h7, f1_1, f1_5, f1_6, c25, c25p, g9_1, g9_1p, wantedA]; done)) rfl ?_
                            try simp [hbb, hi0, g1_3, g1_3p, c15, c15p, h7, f1_1, f1_5, f1_6, c25, c25p, g9_1, g9_1p]
                            repeat (simp (disch := omega) only [wC, if_pos, if_neg]; try simp [hbb, hi0, g1_3, g1_3p, c15, c15p, h7, f1_1, f1_5, f1_6, c25, c25p, g9_1, g9_1p])
                            refine hJ25 _ _ ?_
                            refine hK24 _ _ ?_
                            refine run_ret ?_
                            try simp only [Then, InBlock, NoGoto]
                            refine answer_tmp rfl (.inr rfl) ?_
                            exact ⟨by first | exact Wk.refl _ | (simp [hbb, hi0, g1_3, g1_3p, c15, c15p, h7, f1_1, f1_5, f1_6, c25, c25p, g9_1, g9_1p]; exact Wk.refl _) | (simp [*]; exact Wk.refl _) | exact Wk.shut _ _ _ _ | exact Wk.nil _ _ _, _, _, _, st_app (by first | rfl | exact (List.append_nil _).symm | (simp [hbb, hi0, g1_3, g1_3p, c15, c15p, h7, f1_1, f1_5, f1_6, c25, c25p, g9_1, g9_1p]; rfl) | (simp [hbb, hi0, g1_3, g1_3p, c15, c15p, h7, f1_1, f1_5, f1_6, c25, c25p, g9_1, g9_1p]; done)) (by first | rfl | exact (List.append_nil _).symm | (simp [hbb, hi0, g1_3, g1_3p, c15, c15p, h7, f1_1, f1_5, f1_6, c25, c25p, g9_1, g9_1p]; rfl)) (by first | rfl | exact (List.append_nil _).symm | (simp [hbb, hi0, g1_3, g1_3p, c15, c15p, h7, f1_1, f1_5, f1_6, c25, c25p, g9_1, g9_1p]; rfl)) rfl⟩

end Go.Proofs.Ytkbhdlocdajhmaa
