import Derived.Test.YtkbhdlocdajhmaaP1
/-
  CodecCoins: what it computes.
-/
namespace Go.Proofs.Ytkbhdlocdajhmaa
set_option linter.unnecessarySimpa false
open Go Go.Vm
set_option linter.unusedSimpArgs false
set_option linter.unusedVariables false
set_option maxRecDepth 100000

attribute [local simp] evalL wantedA isCall opA evalA evalAll evalsA evalOpt ofValue ofCell plain binA_eql_pn binA_neq_pn binA_gtr binA_lss binA_geq binA_leq binA_add binA_sub binA_eql binA_neq binA_or binA_shl binA_shr binA_mul binA_quo binA_rem binA_agg_eql binA_agg_neq convA_int unA_not fieldAddrA loadA partA pickA_true pickA_false pickA_bb lenA builtinA storeA splice AV.cells AV.isCell sliceA boundA intA callOf indexAddrA newObjA buildA fillA zeroA ofCells buildSliceA indexA fieldA coinsC_at

theorem wp_new {id k : Nat} {σ σ' : St} {q : List UInt8} {av : AV} (h : WP id σ k [] q av σ') : av = .ptr id 0 ∧ ∃ k' m, Wr σ.toks k [] (σ.toks ++ m) k' q ∧ σ' = { σ with objs := σ.objs.set id [wrA k' q], toks := σ.toks ++ m } := by
  obtain ⟨h1, k', tk', hw, h2⟩ := h
  obtain ⟨m, rfl⟩ := hw.pre
  exact ⟨h1, k', m, hw, h2⟩

theorem wdone_ok {σ : St} {id k : Nat} {l : List UInt8} (h : σ.objs[id]? = some [wrA k l]) (hne : l ≠ []) (hl : l.length ≤ 1000000) :
    CallsA Try.prog 14 [.ptr id 0] σ (fun av σ' => av = .sl 1 (bytesA l) l.length .shut ∧ σ = σ') := done_ok (tl := .own k) (by simpa [wrA, hne] using h) hl

attribute [local simp] undefA List.getElem?_cons_zero List.getElem?_cons_succ in
theorem codecCoins_ok {σ : St} {p : List UInt8} :
    CallsA Try.prog 4 [.sl 1 (bytesA p) p.length .shut] σ (fun av σ' => av = .v (.bool true) ∧ σ = σ') := by
  refine callsA_gcS ?_ rfl
  have hw0 : [AV.sl 0 [] 0 Tail.full] = [wrA 0 []] := rfl
  have hcl := coinsL_le (some p)
  have hrn : rd none = rd none := rfl
  refine callsA_body Try.func4 rfl rfl rfl ?_
  refine run_seq_k fun K1 hK1 => ?_
  refine run_region_k rfl fun J2 hJ2 => ?_
  try simp [hw0]
  repeat (simp (disch := omega) only [wC, if_pos, if_neg]; try simp [hw0])
  refine hJ2 _ _ ?_
  refine hK1 _ _ ?_
  refine run_seq_k fun K3 hK3 => ?_
  refine run_seq_k fun K4 hK4 => ?_
  refine run_region_k rfl fun J5 hJ5 => ?_
  try simp [hw0]
  repeat (simp (disch := omega) only [wC, if_pos, if_neg]; try simp [hw0])
  refine hJ5 _ _ ?_
  refine hK4 _ _ ?_
  refine run_cond_split (by first | rfl | (simp [hw0, evalA]; done)) (fun c8 => ?_) (fun c8 => ?_)
  · try (exfalso; first | (revert c8; simp [hw0]; done) | (have gq := c8; simp [hw0] at gq; omega) | (have gq := c8; simp [hw0] at gq; done))
    all_goals
      have c8p := c8
      try simp [hw0] at c8p
      all_goals (first | (have gq := c8p; skip) | have c8p : True := True.intro)
      all_goals
        refine run_seq_k fun K6 hK6 => ?_
        refine run_region_k rfl fun J7 hJ7 => ?_
        try simp [hw0, c8, c8p]
        repeat (simp (disch := omega) only [wC, if_pos, if_neg]; try simp [hw0, c8, c8p])
        refine runL_call' (b := true) (by first | rfl | (simp [hw0, c8, c8p, wantedA]; done)) rfl rfl (by first | rfl | (simp [hw0, c8, c8p, callOf]; done)) (by simp) (lays_ok) ?_
        rintro _ _ ⟨rfl, rfl⟩
        try simp [hw0, c8, c8p]
        repeat (simp (disch := omega) only [wC, if_pos, if_neg]; try simp [hw0, c8, c8p])
        refine hJ7 _ _ ?_
        refine hK6 _ _ ?_
        refine run_ret ?_
        try simp only [Then, InBlock, NoGoto]
        refine answer_tmp rfl (.inr rfl) ?_
        exact ⟨by first | exact Wk.refl _ | (simp [hw0, c8, c8p]; exact Wk.refl _) | (simp [*]; exact Wk.refl _) | exact Wk.shut _ _ _ _ | exact Wk.nil _ _ _, _, _, _, st_app (by first | rfl | exact (List.append_nil _).symm | (simp [hw0, c8, c8p]; rfl) | (simp [hw0, c8, c8p]; done)) (by first | rfl | exact (List.append_nil _).symm | (simp [hw0, c8, c8p]; rfl)) (by first | rfl | exact (List.append_nil _).symm | (simp [hw0, c8, c8p]; rfl)) rfl⟩
  · try (exfalso; first | (revert c8; simp [hw0]; done) | (have gq := c8; simp [hw0] at gq; omega) | (have gq := c8; simp [hw0] at gq; done))
    all_goals
      have c8p := c8
      try simp [hw0] at c8p
      all_goals (first | (have gq := c8p; skip) | have c8p : True := True.intro)
      all_goals
        refine run_skip ?_
        refine hK3 _ _ ?_
        refine run_seq_k fun K8 hK8 => ?_
        refine run_region_k rfl fun J9 hJ9 => ?_
        try simp [hw0, c8, c8p]
        repeat (simp (disch := omega) only [wC, if_pos, if_neg]; try simp [hw0, c8, c8p])
        refine runL_call' (b := true) (by first | rfl | (simp [hw0, c8, c8p, wantedA]; done)) rfl rfl (by first | rfl | (simp [hw0, c8, c8p, callOf]; done)) (by simp) (new_ok (by omega)) ?_
        rintro _ _ ⟨rfl, rfl⟩
        try simp [hw0, c8, c8p]
        repeat (simp (disch := omega) only [wC, if_pos, if_neg]; try simp [hw0, c8, c8p])
        refine hJ9 _ _ ?_
        refine hK8 _ _ ?_
        refine run_seq_k fun K10 hK10 => ?_
        refine run_region_k rfl fun J11 hJ11 => ?_
        try simp [hw0, c8, c8p]
        repeat (simp (disch := omega) only [wC, if_pos, if_neg]; try simp [hw0, c8, c8p])
        refine runL_call' (b := true) (by first | rfl | (simp [hw0, c8, c8p, wantedA]; done)) rfl rfl (by first | rfl | (simp [hw0, c8, c8p, callOf]; done)) (by simp) (rcoins_raw (s := some p) (by simp)) ?_
        rintro _ _ ⟨rfl, rfl⟩
        try simp [hw0, c8, c8p]
        repeat (simp (disch := omega) only [wC, if_pos, if_neg]; try simp [hw0, c8, c8p])
        refine hJ11 _ _ ?_
        refine hK10 _ _ ?_
        refine run_seq_k fun K12 hK12 => ?_
        refine run_seq_k fun K13 hK13 => ?_
        refine run_region_k rfl fun J14 hJ14 => ?_
        try simp [hw0, c8, c8p]
        repeat (simp (disch := omega) only [wC, if_pos, if_neg]; try simp [hw0, c8, c8p])
        refine runL_call' (b := true) (by first | rfl | (simp [hw0, c8, c8p, wantedA]; done)) rfl rfl (by first | rfl | (simp [hw0, c8, c8p, callOf]; done)) (by simp) (bad_ok (s := coinsS (some p)) (by simp)) ?_
        rintro _ _ ⟨rfl, rfl⟩
        try simp [hw0, c8, c8p]
        repeat (simp (disch := omega) only [wC, if_pos, if_neg]; try simp [hw0, c8, c8p])
        refine hJ14 _ _ ?_
        refine hK13 _ _ ?_
        refine run_cond_split (by first | rfl | (simp [hw0, c8, c8p, evalA]; done)) (fun c15 => ?_) (fun c15 => ?_)
        · try (exfalso; first | (revert c15; simp [hw0, c8, c8p]; done) | (have gq := c15; simp [hw0, c8, c8p] at gq; omega) | (have gq := c15; simp [hw0, c8, c8p] at gq; done))
          all_goals
            have c15p := c15
            try simp [hw0, c8, c8p] at c15p
            all_goals (first | (have gq := c15p; skip) | have c15p : True := True.intro)
            all_goals
              have h0 : coinsS (some p) = none := by simpa using c15
              have hl0 : coinsL (some p) = [] := by simp [coinsL, h0]
              refine run_seq_k fun K15 hK15 => ?_
              refine run_region_k rfl fun J16 hJ16 => ?_
              try simp [hw0, c8, c8p, c15, c15p, hl0]
              repeat (simp (disch := omega) only [wC, if_pos, if_neg]; try simp [hw0, c8, c8p, c15, c15p, hl0])
              refine runL_call' (b := true) (by first | rfl | (simp [hw0, c8, c8p, c15, c15p, hl0, wantedA]; done)) rfl rfl (by first | rfl | (simp [hw0, c8, c8p, c15, c15p, hl0, callOf]; done)) (by simp) (lays_ok) ?_
              rintro _ _ ⟨rfl, rfl⟩
              try simp [hw0, c8, c8p, c15, c15p, hl0]
              repeat (simp (disch := omega) only [wC, if_pos, if_neg]; try simp [hw0, c8, c8p, c15, c15p, hl0])
              refine runL_splitB 17 (by first | rfl | (simp [hw0, c8, c8p, c15, c15p, hl0]; done)) (fun g6_1 => ?_) (fun g6_1 => ?_)
              · try (exfalso; first | (revert g6_1; simp [hw0, c8, c8p, c15, c15p, hl0]; done) | (have gq := g6_1; simp [hw0, c8, c8p, c15, c15p, hl0] at gq; omega) | (have gq := g6_1; simp [hw0, c8, c8p, c15, c15p, hl0] at gq; done))
                all_goals
                  have g6_1p := g6_1
                  try simp [hw0, c8, c8p, c15, c15p, hl0] at g6_1p
                  all_goals (first | (have gq := g6_1p; skip) | have g6_1p : True := True.intro)
                  all_goals
                    refine runL_go (by first | rfl | (simp [hw0, c8, c8p, c15, c15p, hl0, g6_1, g6_1p, wantedA]; done)) rfl ?_
                    try simp [hw0, c8, c8p, c15, c15p, hl0, g6_1, g6_1p]
                    repeat (simp (disch := omega) only [wC, if_pos, if_neg]; try simp [hw0, c8, c8p, c15, c15p, hl0, g6_1, g6_1p])
                    refine runL_go (by first | rfl | (simp [hw0, c8, c8p, c15, c15p, hl0, g6_1, g6_1p, wantedA]; done)) rfl ?_
                    try simp [hw0, c8, c8p, c15, c15p, hl0, g6_1, g6_1p]
                    repeat (simp (disch := omega) only [wC, if_pos, if_neg]; try simp [hw0, c8, c8p, c15, c15p, hl0, g6_1, g6_1p])
                    refine runL_go (by first | rfl | (simp [hw0, c8, c8p, c15, c15p, hl0, g6_1, g6_1p, wantedA]; done)) rfl ?_
                    try simp [hw0, c8, c8p, c15, c15p, hl0, g6_1, g6_1p]
                    repeat (simp (disch := omega) only [wC, if_pos, if_neg]; try simp [hw0, c8, c8p, c15, c15p, hl0, g6_1, g6_1p])
                    refine hJ16 _ _ ?_
                    refine hK15 _ _ ?_
                    refine run_ret ?_
                    try simp only [Then, InBlock, NoGoto]
                    refine answer_tmp rfl (.inr rfl) ?_
                    exact ⟨by first | exact Wk.refl _ | (simp [hw0, c8, c8p, c15, c15p, hl0, g6_1, g6_1p]; exact Wk.refl _) | (simp [*]; exact Wk.refl _) | exact Wk.shut _ _ _ _ | exact Wk.nil _ _ _, _, _, _, st_app (by first | rfl | exact (List.append_nil _).symm | (simp [hw0, c8, c8p, c15, c15p, hl0, g6_1, g6_1p]; rfl) | (simp [hw0, c8, c8p, c15, c15p, hl0, g6_1, g6_1p]; done)) (by first | rfl | exact (List.append_nil _).symm | (simp [hw0, c8, c8p, c15, c15p, hl0, g6_1, g6_1p]; rfl)) (by first | rfl | exact (List.append_nil _).symm | (simp [hw0, c8, c8p, c15, c15p, hl0, g6_1, g6_1p]; rfl)) rfl⟩
              · try (exfalso; first | (revert g6_1; simp [hw0, c8, c8p, c15, c15p, hl0]; done) | (have gq := g6_1; simp [hw0, c8, c8p, c15, c15p, hl0] at gq; omega) | (have gq := g6_1; simp [hw0, c8, c8p, c15, c15p, hl0] at gq; done))
                all_goals
                  have g6_1p := g6_1
                  try simp [hw0, c8, c8p, c15, c15p, hl0] at g6_1p
                  all_goals (first | (have gq := g6_1p; skip) | have g6_1p : True := True.intro)
                  all_goals
                    refine runL_no (by first | rfl | (simp [hw0, c8, c8p, c15, c15p, hl0, g6_1, g6_1p, wantedA]; done)) rfl ?_
                    try simp [hw0, c8, c8p, c15, c15p, hl0, g6_1, g6_1p]
                    repeat (simp (disch := omega) only [wC, if_pos, if_neg]; try simp [hw0, c8, c8p, c15, c15p, hl0, g6_1, g6_1p])
                    refine runL_no (by first | rfl | (simp [hw0, c8, c8p, c15, c15p, hl0, g6_1, g6_1p, wantedA]; done)) rfl ?_
                    try simp [hw0, c8, c8p, c15, c15p, hl0, g6_1, g6_1p]
                    repeat (simp (disch := omega) only [wC, if_pos, if_neg]; try simp [hw0, c8, c8p, c15, c15p, hl0, g6_1, g6_1p])
                    refine runL_no (by first | rfl | (simp [hw0, c8, c8p, c15, c15p, hl0, g6_1, g6_1p, wantedA]; done)) rfl ?_
                    try simp [hw0, c8, c8p, c15, c15p, hl0, g6_1, g6_1p]
                    repeat (simp (disch := omega) only [wC, if_pos, if_neg]; try simp [hw0, c8, c8p, c15, c15p, hl0, g6_1, g6_1p])
                    refine hJ16 _ _ ?_
                    refine hK15 _ _ ?_
                    refine run_ret ?_
                    try simp only [Then, InBlock, NoGoto]
                    refine answer_tmp rfl (.inr rfl) ?_
                    exact ⟨by first | exact Wk.refl _ | (simp [hw0, c8, c8p, c15, c15p, hl0, g6_1, g6_1p]; exact Wk.refl _) | (simp [*]; exact Wk.refl _) | exact Wk.shut _ _ _ _ | exact Wk.nil _ _ _, _, _, _, st_app (by first | rfl | exact (List.append_nil _).symm | (simp [hw0, c8, c8p, c15, c15p, hl0, g6_1, g6_1p]; rfl) | (simp [hw0, c8, c8p, c15, c15p, hl0, g6_1, g6_1p]; done)) (by first | rfl | exact (List.append_nil _).symm | (simp [hw0, c8, c8p, c15, c15p, hl0, g6_1, g6_1p]; rfl)) (by first | rfl | exact (List.append_nil _).symm | (simp [hw0, c8, c8p, c15, c15p, hl0, g6_1, g6_1p]; rfl)) rfl⟩
        · try (exfalso; first | (revert c15; simp [hw0, c8, c8p]; done) | (have gq := c15; simp [hw0, c8, c8p] at gq; omega) | (have gq := c15; simp [hw0, c8, c8p] at gq; done))
          all_goals
            have c15p := c15
            try simp [hw0, c8, c8p] at c15p
            all_goals (first | (have gq := c15p; skip) | have c15p : True := True.intro)
            all_goals
              obtain ⟨q, hq⟩ : ∃ q, coinsS (some p) = some q := by cases hz : coinsS (some p) with | none => simp [hz] at c15 | some q => exact ⟨q, rfl⟩
              have hsp := coins_split hq
              have hln : p.length = (encL (coinsL (some p))).length + q.length := (congrArg List.length hsp).trans List.length_append
              have hsub : (p.length : Int) - (q.length : Int) = ((encL (coinsL (some p))).length : Int) := by omega
              have htk : p.take (encL (coinsL (some p))).length = encL (coinsL (some p)) := by have hz := congrArg (List.take (encL (coinsL (some p))).length) hsp; simpa using hz
              have hlf : leftN (some q) = q.length := rfl
              have hne : encL (coinsL (some p)) ≠ [] := by simp [encL]
              refine run_skip ?_
              refine hK12 _ _ ?_
              refine run_seq_k fun K17 hK17 => ?_
              refine run_region_k rfl fun J18 hJ18 => ?_
              try simp [hw0, c8, c8p, c15, c15p]
              repeat (simp (disch := omega) only [wC, if_pos, if_neg]; try simp [hw0, c8, c8p, c15, c15p])
              refine hJ18 _ _ ?_
              refine hK17 _ _ ?_
              refine run_seq_k fun K19 hK19 => ?_
              refine run_region_k rfl fun J20 hJ20 => ?_
              try simp [hw0, c8, c8p, c15, c15p, hq, hsub, htk, hlf, bytesA_take]
              repeat (simp (disch := omega) only [wC, if_pos, if_neg]; try simp [hw0, c8, c8p, c15, c15p, hq, hsub, htk, hlf, bytesA_take])
              refine runL_call' (b := true) (by first | rfl | (simp [hw0, c8, c8p, c15, c15p, hq, hsub, htk, hlf, bytesA_take, wantedA]; done)) rfl rfl (by first | rfl | (simp [hw0, c8, c8p, c15, c15p, hq, hsub, htk, hlf, bytesA_take, callOf]; done)) (by simp) (lays_ok) ?_
              rintro _ _ ⟨rfl, rfl⟩
              try simp [hw0, c8, c8p, c15, c15p, hq, hsub, htk, hlf, bytesA_take]
              repeat (simp (disch := omega) only [wC, if_pos, if_neg]; try simp [hw0, c8, c8p, c15, c15p, hq, hsub, htk, hlf, bytesA_take])
              refine runL_splitB 25 (by first | rfl | (simp [hw0, c8, c8p, c15, c15p, hq, hsub, htk, hlf, bytesA_take]; done)) (fun g8_1 => ?_) (fun g8_1 => ?_)
              · try (exfalso; first | (revert g8_1; simp [hw0, c8, c8p, c15, c15p, hq, hsub, htk, hlf, bytesA_take]; done) | (have gq := g8_1; simp [hw0, c8, c8p, c15, c15p, hq, hsub, htk, hlf, bytesA_take] at gq; omega) | (have gq := g8_1; simp [hw0, c8, c8p, c15, c15p, hq, hsub, htk, hlf, bytesA_take] at gq; done))
                all_goals
                  have g8_1p := g8_1
                  try simp [hw0, c8, c8p, c15, c15p, hq, hsub, htk, hlf, bytesA_take] at g8_1p
                  all_goals (first | (have gq := g8_1p; skip) | have g8_1p : True := True.intro)
                  all_goals
                    refine runL_go (by first | rfl | (simp [hw0, c8, c8p, c15, c15p, hq, hsub, htk, hlf, bytesA_take, g8_1, g8_1p, wantedA]; done)) rfl ?_
                    try simp [hw0, c8, c8p, c15, c15p, hq, hsub, htk, hlf, bytesA_take, g8_1, g8_1p]
                    repeat (simp (disch := omega) only [wC, if_pos, if_neg]; try simp [hw0, c8, c8p, c15, c15p, hq, hsub, htk, hlf, bytesA_take, g8_1, g8_1p])
                    refine runL_go (by first | rfl | (simp [hw0, c8, c8p, c15, c15p, hq, hsub, htk, hlf, bytesA_take, g8_1, g8_1p, wantedA]; done)) rfl ?_
                    try simp [hw0, c8, c8p, c15, c15p, hq, hsub, htk, hlf, bytesA_take, g8_1, g8_1p]
                    repeat (simp (disch := omega) only [wC, if_pos, if_neg]; try simp [hw0, c8, c8p, c15, c15p, hq, hsub, htk, hlf, bytesA_take, g8_1, g8_1p])
                    refine runL_call' (b := true) (by first | rfl | (simp [hw0, c8, c8p, c15, c15p, hq, hsub, htk, hlf, bytesA_take, g8_1, g8_1p, wantedA]; done)) rfl rfl (by first | rfl | (simp [hw0, c8, c8p, c15, c15p, hq, hsub, htk, hlf, bytesA_take, g8_1, g8_1p, callOf]; done)) (by simp) (callsA_mono (wcoins_ok (k := 0) (l := []) (L := coinsL (some p)) (by simp) (.inl rfl) hcl (by simp)) (fun _ _ h => wp_new h)) ?_
                    rintro _ _ ⟨rfl, k1, m1, hw1, rfl⟩
                    try simp [hw0, c8, c8p, c15, c15p, hq, hsub, htk, hlf, bytesA_take, g8_1, g8_1p]
                    repeat (simp (disch := omega) only [wC, if_pos, if_neg]; try simp [hw0, c8, c8p, c15, c15p, hq, hsub, htk, hlf, bytesA_take, g8_1, g8_1p])
                    refine runL_call' (b := true) (by first | rfl | (simp [hw0, c8, c8p, c15, c15p, hq, hsub, htk, hlf, bytesA_take, g8_1, g8_1p, wantedA]; done)) rfl rfl (by first | rfl | (simp [hw0, c8, c8p, c15, c15p, hq, hsub, htk, hlf, bytesA_take, g8_1, g8_1p, callOf]; done)) (by simp) (wdone_ok (l := encL (coinsL (some p))) (k := k1) (by simp) hne (by omega)) ?_
                    rintro _ _ ⟨rfl, rfl⟩
                    try simp [hw0, c8, c8p, c15, c15p, hq, hsub, htk, hlf, bytesA_take, g8_1, g8_1p]
                    repeat (simp (disch := omega) only [wC, if_pos, if_neg]; try simp [hw0, c8, c8p, c15, c15p, hq, hsub, htk, hlf, bytesA_take, g8_1, g8_1p])
                    refine runL_go (by first | rfl | (simp [hw0, c8, c8p, c15, c15p, hq, hsub, htk, hlf, bytesA_take, g8_1, g8_1p, wantedA]; done)) rfl ?_
                    try simp [hw0, c8, c8p, c15, c15p, hq, hsub, htk, hlf, bytesA_take, g8_1, g8_1p]
                    repeat (simp (disch := omega) only [wC, if_pos, if_neg]; try simp [hw0, c8, c8p, c15, c15p, hq, hsub, htk, hlf, bytesA_take, g8_1, g8_1p])
                    refine runL_go (by first | rfl | (simp [hw0, c8, c8p, c15, c15p, hq, hsub, htk, hlf, bytesA_take, g8_1, g8_1p, wantedA]; done)) rfl ?_
                    try simp [hw0, c8, c8p, c15, c15p, hq, hsub, htk, hlf, bytesA_take, g8_1, g8_1p]
                    repeat (simp (disch := omega) only [wC, if_pos, if_neg]; try simp [hw0, c8, c8p, c15, c15p, hq, hsub, htk, hlf, bytesA_take, g8_1, g8_1p])
                    refine runL_go (by first | rfl | (simp [hw0, c8, c8p, c15, c15p, hq, hsub, htk, hlf, bytesA_take, g8_1, g8_1p, wantedA]; done)) rfl ?_
                    try simp [hw0, c8, c8p, c15, c15p, hq, hsub, htk, hlf, bytesA_take, g8_1, g8_1p]
                    repeat (simp (disch := omega) only [wC, if_pos, if_neg]; try simp [hw0, c8, c8p, c15, c15p, hq, hsub, htk, hlf, bytesA_take, g8_1, g8_1p])
                    refine runL_go (by first | rfl | (simp [hw0, c8, c8p, c15, c15p, hq, hsub, htk, hlf, bytesA_take, g8_1, g8_1p, wantedA]; done)) rfl ?_
                    try simp [hw0, c8, c8p, c15, c15p, hq, hsub, htk, hlf, bytesA_take, g8_1, g8_1p]
                    repeat (simp (disch := omega) only [wC, if_pos, if_neg]; try simp [hw0, c8, c8p, c15, c15p, hq, hsub, htk, hlf, bytesA_take, g8_1, g8_1p])
                    refine runL_call' (b := true) (by first | rfl | (simp [hw0, c8, c8p, c15, c15p, hq, hsub, htk, hlf, bytesA_take, g8_1, g8_1p, wantedA]; done)) rfl rfl (by first | rfl | (simp [hw0, c8, c8p, c15, c15p, hq, hsub, htk, hlf, bytesA_take, g8_1, g8_1p, callOf]; done)) (by simp) (left_ok (s := some q) (by simp)) ?_
                    rintro _ _ ⟨rfl, rfl⟩
                    try simp [hw0, c8, c8p, c15, c15p, hq, hsub, htk, hlf, bytesA_take, g8_1, g8_1p]
                    repeat (simp (disch := omega) only [wC, if_pos, if_neg]; try simp [hw0, c8, c8p, c15, c15p, hq, hsub, htk, hlf, bytesA_take, g8_1, g8_1p])
                    refine runL_go (by first | rfl | (simp [hw0, c8, c8p, c15, c15p, hq, hsub, htk, hlf, bytesA_take, g8_1, g8_1p, wantedA]; done)) rfl ?_
                    try simp [hw0, c8, c8p, c15, c15p, hq, hsub, htk, hlf, bytesA_take, g8_1, g8_1p]
                    repeat (simp (disch := omega) only [wC, if_pos, if_neg]; try simp [hw0, c8, c8p, c15, c15p, hq, hsub, htk, hlf, bytesA_take, g8_1, g8_1p])
                    refine runL_go (by first | rfl | (simp [hw0, c8, c8p, c15, c15p, hq, hsub, htk, hlf, bytesA_take, g8_1, g8_1p, wantedA]; done)) rfl ?_
                    try simp [hw0, c8, c8p, c15, c15p, hq, hsub, htk, hlf, bytesA_take, g8_1, g8_1p]
                    repeat (simp (disch := omega) only [wC, if_pos, if_neg]; try simp [hw0, c8, c8p, c15, c15p, hq, hsub, htk, hlf, bytesA_take, g8_1, g8_1p])
                    refine runL_call' (b := true) (by first | rfl | (simp [hw0, c8, c8p, c15, c15p, hq, hsub, htk, hlf, bytesA_take, g8_1, g8_1p, wantedA]; done)) rfl rfl (by first | rfl | (simp [hw0, c8, c8p, c15, c15p, hq, hsub, htk, hlf, bytesA_take, g8_1, g8_1p, callOf]; done)) (by simp) (same_ok (p := encL (coinsL (some p))) (q := encL (coinsL (some p))) (by omega)) ?_
                    rintro _ _ ⟨rfl, rfl⟩
                    try simp [hw0, c8, c8p, c15, c15p, hq, hsub, htk, hlf, bytesA_take, g8_1, g8_1p]
                    repeat (simp (disch := omega) only [wC, if_pos, if_neg]; try simp [hw0, c8, c8p, c15, c15p, hq, hsub, htk, hlf, bytesA_take, g8_1, g8_1p])
                    refine hJ20 _ _ ?_
                    refine hK19 _ _ ?_
                    refine run_ret ?_
                    try simp only [Then, InBlock, NoGoto]
                    refine answer_tmp rfl (.inr rfl) ?_
                    exact ⟨by first | exact Wk.refl _ | (simp [hw0, c8, c8p, c15, c15p, hq, hsub, htk, hlf, bytesA_take, g8_1, g8_1p]; exact Wk.refl _) | (simp [*]; exact Wk.refl _) | exact Wk.shut _ _ _ _ | exact Wk.nil _ _ _, _, _, _, st_app (by first | rfl | exact (List.append_nil _).symm | (simp [hw0, c8, c8p, c15, c15p, hq, hsub, htk, hlf, bytesA_take, g8_1, g8_1p]; rfl) | (simp [hw0, c8, c8p, c15, c15p, hq, hsub, htk, hlf, bytesA_take, g8_1, g8_1p]; done)) (by first | rfl | exact (List.append_nil _).symm | (simp [hw0, c8, c8p, c15, c15p, hq, hsub, htk, hlf, bytesA_take, g8_1, g8_1p]; rfl)) (by first | rfl | exact (List.append_nil _).symm | (simp [hw0, c8, c8p, c15, c15p, hq, hsub, htk, hlf, bytesA_take, g8_1, g8_1p]; rfl)) rfl⟩
              · try (exfalso; first | (revert g8_1; simp [hw0, c8, c8p, c15, c15p, hq, hsub, htk, hlf, bytesA_take]; done) | (have gq := g8_1; simp [hw0, c8, c8p, c15, c15p, hq, hsub, htk, hlf, bytesA_take] at gq; omega) | (have gq := g8_1; simp [hw0, c8, c8p, c15, c15p, hq, hsub, htk, hlf, bytesA_take] at gq; done))
                all_goals
                  have g8_1p := g8_1
                  try simp [hw0, c8, c8p, c15, c15p, hq, hsub, htk, hlf, bytesA_take] at g8_1p
                  all_goals (first | (have gq := g8_1p; skip) | have g8_1p : True := True.intro)
                  all_goals
                    refine runL_no (by first | rfl | (simp [hw0, c8, c8p, c15, c15p, hq, hsub, htk, hlf, bytesA_take, g8_1, g8_1p, wantedA]; done)) rfl ?_
                    try simp [hw0, c8, c8p, c15, c15p, hq, hsub, htk, hlf, bytesA_take, g8_1, g8_1p]
                    repeat (simp (disch := omega) only [wC, if_pos, if_neg]; try simp [hw0, c8, c8p, c15, c15p, hq, hsub, htk, hlf, bytesA_take, g8_1, g8_1p])
                    refine runL_no (by first | rfl | (simp [hw0, c8, c8p, c15, c15p, hq, hsub, htk, hlf, bytesA_take, g8_1, g8_1p, wantedA]; done)) rfl ?_
                    try simp [hw0, c8, c8p, c15, c15p, hq, hsub, htk, hlf, bytesA_take, g8_1, g8_1p]
                    repeat (simp (disch := omega) only [wC, if_pos, if_neg]; try simp [hw0, c8, c8p, c15, c15p, hq, hsub, htk, hlf, bytesA_take, g8_1, g8_1p])
                    refine runL_no (by first | rfl | (simp [hw0, c8, c8p, c15, c15p, hq, hsub, htk, hlf, bytesA_take, g8_1, g8_1p, wantedA]; done)) rfl ?_
                    try simp [hw0, c8, c8p, c15, c15p, hq, hsub, htk, hlf, bytesA_take, g8_1, g8_1p]
                    repeat (simp (disch := omega) only [wC, if_pos, if_neg]; try simp [hw0, c8, c8p, c15, c15p, hq, hsub, htk, hlf, bytesA_take, g8_1, g8_1p])
                    refine runL_no (by first | rfl | (simp [hw0, c8, c8p, c15, c15p, hq, hsub, htk, hlf, bytesA_take, g8_1, g8_1p, wantedA]; done)) rfl ?_
                    try simp [hw0, c8, c8p, c15, c15p, hq, hsub, htk, hlf, bytesA_take, g8_1, g8_1p]
                    repeat (simp (disch := omega) only [wC, if_pos, if_neg]; try simp [hw0, c8, c8p, c15, c15p, hq, hsub, htk, hlf, bytesA_take, g8_1, g8_1p])
                    refine runL_no (by first | rfl | (simp [hw0, c8, c8p, c15, c15p, hq, hsub, htk, hlf, bytesA_take, g8_1, g8_1p, wantedA]; done)) rfl ?_
                    try simp [hw0, c8, c8p, c15, c15p, hq, hsub, htk, hlf, bytesA_take, g8_1, g8_1p]
                    repeat (simp (disch := omega) only [wC, if_pos, if_neg]; try simp [hw0, c8, c8p, c15, c15p, hq, hsub, htk, hlf, bytesA_take, g8_1, g8_1p])
                    refine runL_no (by first | rfl | (simp [hw0, c8, c8p, c15, c15p, hq, hsub, htk, hlf, bytesA_take, g8_1, g8_1p, wantedA]; done)) rfl ?_
                    try simp [hw0, c8, c8p, c15, c15p, hq, hsub, htk, hlf, bytesA_take, g8_1, g8_1p]
                    repeat (simp (disch := omega) only [wC, if_pos, if_neg]; try simp [hw0, c8, c8p, c15, c15p, hq, hsub, htk, hlf, bytesA_take, g8_1, g8_1p])
                    refine runL_no (by first | rfl | (simp [hw0, c8, c8p, c15, c15p, hq, hsub, htk, hlf, bytesA_take, g8_1, g8_1p, wantedA]; done)) rfl ?_
                    try simp [hw0, c8, c8p, c15, c15p, hq, hsub, htk, hlf, bytesA_take, g8_1, g8_1p]
                    repeat (simp (disch := omega) only [wC, if_pos, if_neg]; try simp [hw0, c8, c8p, c15, c15p, hq, hsub, htk, hlf, bytesA_take, g8_1, g8_1p])
                    refine runL_no (by first | rfl | (simp [hw0, c8, c8p, c15, c15p, hq, hsub, htk, hlf, bytesA_take, g8_1, g8_1p, wantedA]; done)) rfl ?_
                    try simp [hw0, c8, c8p, c15, c15p, hq, hsub, htk, hlf, bytesA_take, g8_1, g8_1p]
                    repeat (simp (disch := omega) only [wC, if_pos, if_neg]; try simp [hw0, c8, c8p, c15, c15p, hq, hsub, htk, hlf, bytesA_take, g8_1, g8_1p])
                    refine runL_no (by first | rfl | (simp [hw0, c8, c8p, c15, c15p, hq, hsub, htk, hlf, bytesA_take, g8_1, g8_1p, wantedA]; done)) rfl ?_
                    try simp [hw0, c8, c8p, c15, c15p, hq, hsub, htk, hlf, bytesA_take, g8_1, g8_1p]
                    repeat (simp (disch := omega) only [wC, if_pos, if_neg]; try simp [hw0, c8, c8p, c15, c15p, hq, hsub, htk, hlf, bytesA_take, g8_1, g8_1p])
                    refine runL_no (by first | rfl | (simp [hw0, c8, c8p, c15, c15p, hq, hsub, htk, hlf, bytesA_take, g8_1, g8_1p, wantedA]; done)) rfl ?_
                    try simp [hw0, c8, c8p, c15, c15p, hq, hsub, htk, hlf, bytesA_take, g8_1, g8_1p]
                    repeat (simp (disch := omega) only [wC, if_pos, if_neg]; try simp [hw0, c8, c8p, c15, c15p, hq, hsub, htk, hlf, bytesA_take, g8_1, g8_1p])
                    refine runL_no (by first | rfl | (simp [hw0, c8, c8p, c15, c15p, hq, hsub, htk, hlf, bytesA_take, g8_1, g8_1p, wantedA]; done)) rfl ?_
                    try simp [hw0, c8, c8p, c15, c15p, hq, hsub, htk, hlf, bytesA_take, g8_1, g8_1p]
                    repeat (simp (disch := omega) only [wC, if_pos, if_neg]; try simp [hw0, c8, c8p, c15, c15p, hq, hsub, htk, hlf, bytesA_take, g8_1, g8_1p])
                    refine runL_no (by first | rfl | (simp [hw0, c8, c8p, c15, c15p, hq, hsub, htk, hlf, bytesA_take, g8_1, g8_1p, wantedA]; done)) rfl ?_
                    try simp [hw0, c8, c8p, c15, c15p, hq, hsub, htk, hlf, bytesA_take, g8_1, g8_1p]
                    repeat (simp (disch := omega) only [wC, if_pos, if_neg]; try simp [hw0, c8, c8p, c15, c15p, hq, hsub, htk, hlf, bytesA_take, g8_1, g8_1p])
                    refine hJ20 _ _ ?_
                    refine hK19 _ _ ?_
                    refine run_ret ?_
                    try simp only [Then, InBlock, NoGoto]
                    refine answer_tmp rfl (.inr rfl) ?_
                    exact ⟨by first | exact Wk.refl _ | (simp [hw0, c8, c8p, c15, c15p, hq, hsub, htk, hlf, bytesA_take, g8_1, g8_1p]; exact Wk.refl _) | (simp [*]; exact Wk.refl _) | exact Wk.shut _ _ _ _ | exact Wk.nil _ _ _, _, _, _, st_app (by first | rfl | exact (List.append_nil _).symm | (simp [hw0, c8, c8p, c15, c15p, hq, hsub, htk, hlf, bytesA_take, g8_1, g8_1p]; rfl) | (simp [hw0, c8, c8p, c15, c15p, hq, hsub, htk, hlf, bytesA_take, g8_1, g8_1p]; done)) (by first | rfl | exact (List.append_nil _).symm | (simp [hw0, c8, c8p, c15, c15p, hq, hsub, htk, hlf, bytesA_take, g8_1, g8_1p]; rfl)) (by first | rfl | exact (List.append_nil _).symm | (simp [hw0, c8, c8p, c15, c15p, hq, hsub, htk, hlf, bytesA_take, g8_1, g8_1p]; rfl)) rfl⟩

end Go.Proofs.Ytkbhdlocdajhmaa
