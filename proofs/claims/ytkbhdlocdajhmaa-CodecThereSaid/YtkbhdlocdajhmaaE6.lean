import Derived.Test.YtkbhdlocdajhmaaE5
import Derived.Test.YtkbhdlocdajhmaaP2
/-
  CodecThere: what it computes.
-/
namespace Go.Proofs.Ytkbhdlocdajhmaa
set_option linter.unnecessarySimpa false
open Go Go.Vm
set_option linter.unusedSimpArgs false
set_option linter.unusedVariables false
set_option maxRecDepth 100000

attribute [local simp] evalL wantedA isCall opA evalA evalAll evalsA evalOpt ofValue ofCell plain binA_eql_pn binA_neq_pn binA_gtr binA_lss binA_geq binA_leq binA_add binA_sub binA_eql binA_neq binA_or binA_shl binA_shr binA_mul binA_quo binA_rem binA_agg_eql binA_agg_neq convA_int unA_not fieldAddrA loadA partA pickA_true pickA_false pickA_bb lenA builtinA storeA splice AV.cells AV.isCell sliceA boundA intA callOf indexAddrA newObjA buildA fillA zeroA ofCells buildSliceA indexA fieldA coinsC_at

/-- A register that is told less sharply from here on. -/
theorem run_wk_reg {z : Zone} {P : Program} {N : Nat} {c : Code} {ρ : Nat → AV} {σ : St} {Q : Exit → (Nat → AV) → St → Prop} (r : Nat) (av : AV) (h : Wk (ρ r) av) (k : Run z P N c (putA ρ (some r) av) σ Q) : Run z P N c ρ σ Q :=
  fun G w a R hR hK => k G w a R ⟨hR.s, hR.defers, hR.size, fun i => by
    have hi := hR.env i
    by_cases e : i = r
    · subst e
      have := h G w _ hi
      simpa [putA] using this
    · simpa [putA, e] using hi⟩ hK

attribute [local simp] undefA List.getElem?_cons_zero List.getElem?_cons_succ in
theorem wdone_any {σ : St} {id k : Nat} {l : List UInt8} (h : σ.objs[id]? = some [wrA k l]) (hl : l.length ≤ 1000000) :
    CallsA Try.prog 14 [.ptr id 0] σ (fun av σ' => av = .sl 1 (bytesA l) l.length .shut ∧ σ = σ') := by
  by_cases e : l = []
  · subst e
    have h : σ.objs[id]? = some [.sl 0 [] 0 .full] := h
    have hc := fun τ : St => callsA_wk (P := Try.prog) (σ := τ) (.cons (Wk.nil 0 1 .full) .nil) (clone_ok (p := []) (tl := .shut) (by simp))
    refine callsA_body Try.func14 rfl rfl rfl ?_
    refine run_seq_k fun K1 hK1 => ?_
    refine run_region_k rfl fun J2 hJ2 => ?_
    repeat (first | simp [h] | simp (disch := omega) only [wC, if_pos, if_neg])
    refine hJ2 _ _ ?_
    refine hK1 _ _ ?_
    refine run_seq_k fun K3 hK3 => ?_
    refine run_seq_k fun K4 hK4 => ?_
    refine run_region_k rfl fun J5 hJ5 => ?_
    repeat (first | simp [h] | simp (disch := omega) only [wC, if_pos, if_neg])
    refine hJ5 _ _ ?_
    refine hK4 _ _ ?_
    refine run_cond_false (by first | rfl | (simp [h, evalA]; done)) ?_
    refine run_skip ?_
    refine hK3 _ _ ?_
    refine run_seq_k fun K6 hK6 => ?_
    refine run_region_k rfl fun J7 hJ7 => ?_
    repeat (first | simp [h] | simp (disch := omega) only [wC, if_pos, if_neg])
    refine runL_call' (b := true) (by first | rfl | (simp [h, wantedA]; done)) rfl rfl (by first | rfl | (simp [h, callOf]; done)) (by simp) (hc _) ?_
    rintro _ _ ⟨rfl, rfl⟩
    repeat (first | simp [h] | simp (disch := omega) only [wC, if_pos, if_neg])
    refine hJ7 _ _ ?_
    refine hK6 _ _ ?_
    refine run_ret ?_
    try simp only [Then, InBlock, NoGoto]
    refine answer_tmp rfl (.inr rfl) ?_
    first | exact ⟨rfl, rfl⟩ | (simp [h]; done) | (refine ⟨?_, ?_⟩ <;> first | rfl | (simp [h]; done) | (simp [*]; done) | omega)
  · exact done_ok (tl := .own k) (by simpa [wrA, e] using h) hl

theorem encP_len (x : PartP) : (encP x).length ≤ 273 := by
  have h1 := natBytes_len x.n.v 32 (by simpa using x.n.h)
  have h2 := lstP_len (ofP x.l) 8
  have h3 := encCs_len (lstP (ofP x.l) 8)
  unfold encP
  split
  · simp
  split
  · simp
  split
  · simp [nBytes_len]
  split
  · simp [nBytes_len]
  split
  · simp [encN]; omega
  · simp [encL]; omega
theorem encsP_len : ∀ l : List PartP, (encsP l).length ≤ 273 * l.length
  | [] => by simp [encsP]
  | x :: l => by
    have h1 := encP_len x
    have h2 := encsP_len l
    simp [encsP] at h2 ⊢
    omega
theorem encsP_snoc (l : List PartP) (x : PartP) : encsP (l ++ [x]) = encsP l ++ encP x := by simp [encsP]
theorem encsP_drop {l : List PartP} {j : Nat} (h : j < l.length) : encsP (l.drop j) = encP l[j] ++ encsP (l.drop (j + 1)) := by
  rw [List.drop_eq_getElem_cons h, encsP, List.flatMap_cons]; rfl

structure T3 where
  i : Nat
  kw : Nat
  kp : Nat
  tk : List Nat
structure R2 where
  j : Nat
  k : Nat

theorem two_nil (B : List Nat) : Two B B 0 0 [] := ⟨Wr.refl (.inl rfl), Wr.refl (.inl rfl), .inl rfl⟩

attribute [local simp] undefA List.getElem?_cons_zero List.getElem?_cons_succ in
theorem codecThere_ok {σ : St} {l : List PartP} :
    CallsA Try.prog 7 [.sl 6 (partsC l) l.length .shut] σ (fun av σ' => av = .v (.bool true) ∧ σ = σ') := by
  refine callsA_gcS ?_ rfl
  have hw0 : [AV.sl 0 [] 0 Tail.full] = [wrA 0 []] := rfl
  have htk6 : ∀ (x : PartP) (r : List AV), (partC x ++ r).take 6 = partC x := fun _ _ => rfl
  have hpl6 : ∀ (x : PartP), (partC x).length = 6 := fun _ => rfl
  refine callsA_body Try.func7 rfl rfl rfl ?_
  refine run_seq_k fun K1 hK1 => ?_
  refine run_region_k rfl fun J2 hJ2 => ?_
  repeat (first | simp [hw0, htk6, hpl6] | simp (disch := omega) only [wC, if_pos, if_neg])
  refine hJ2 _ _ ?_
  refine hK1 _ _ ?_
  refine run_seq_k fun K3 hK3 => ?_
  refine run_seq_k fun K4 hK4 => ?_
  refine run_region_k rfl fun J5 hJ5 => ?_
  repeat (first | simp [hw0, htk6, hpl6] | simp (disch := omega) only [wC, if_pos, if_neg])
  refine runL_call' (b := true) (by first | rfl | (simp [hw0, htk6, hpl6, wantedA]; done)) rfl rfl (by first | rfl | (simp [hw0, htk6, hpl6, callOf]; done)) (by simp) (few_ok) ?_
  rintro _ _ ⟨rfl, rfl⟩
  repeat (first | simp [hw0, htk6, hpl6] | simp (disch := omega) only [wC, if_pos, if_neg])
  refine hJ5 _ _ ?_
  refine hK4 _ _ ?_
  refine run_cond_split (by first | rfl | (simp [hw0, htk6, hpl6, evalA]; done)) (fun c12 => ?_) (fun c12 => ?_)
  · try (exfalso; first | (revert c12; simp [hw0, htk6, hpl6]; done) | (have gq := c12; simp [hw0, htk6, hpl6] at gq; omega) | (have gq := c12; simp [hw0, htk6, hpl6] at gq; done))
    all_goals
      have c12p := c12
      try simp [hw0, htk6, hpl6] at c12p
      all_goals (first | (have gq := c12p; skip) | have c12p : True := True.intro)
      all_goals
        refine run_seq_k fun K6 hK6 => ?_
        refine run_region_k rfl fun J7 hJ7 => ?_
        repeat (first | simp [hw0, htk6, hpl6, c12, c12p] | simp (disch := omega) only [wC, if_pos, if_neg])
        refine runL_call' (b := true) (by first | rfl | (simp [hw0, htk6, hpl6, c12, c12p, wantedA]; done)) rfl rfl (by first | rfl | (simp [hw0, htk6, hpl6, c12, c12p, callOf]; done)) (by simp) (lays_ok) ?_
        rintro _ _ ⟨rfl, rfl⟩
        repeat (first | simp [hw0, htk6, hpl6, c12, c12p] | simp (disch := omega) only [wC, if_pos, if_neg])
        refine hJ7 _ _ ?_
        refine hK6 _ _ ?_
        refine run_ret ?_
        try simp only [Then, InBlock, NoGoto]
        refine answer_tmp rfl (.inr rfl) ?_
        exact ⟨by first | exact Wk.refl _ | (simp [hw0, htk6, hpl6, c12, c12p]; exact Wk.refl _) | (simp [*]; exact Wk.refl _) | exact Wk.shut _ _ _ _ | exact Wk.nil _ _ _, _, _, _, st_app (by first | rfl | exact (List.append_nil _).symm | (simp [hw0, htk6, hpl6, c12, c12p]; rfl) | (simp [hw0, htk6, hpl6, c12, c12p]; done)) (by first | rfl | exact (List.append_nil _).symm | (simp [hw0, htk6, hpl6, c12, c12p]; rfl)) (by first | rfl | exact (List.append_nil _).symm | (simp [hw0, htk6, hpl6, c12, c12p]; rfl)) rfl⟩
  · try (exfalso; first | (revert c12; simp [hw0, htk6, hpl6]; done) | (have gq := c12; simp [hw0, htk6, hpl6] at gq; omega) | (have gq := c12; simp [hw0, htk6, hpl6] at gq; done))
    all_goals
      have c12p := c12
      try simp [hw0, htk6, hpl6] at c12p
      all_goals (first | (have gq := c12p; skip) | have c12p : True := True.intro)
      all_goals
        have hF : FewP l := by simpa using c12
        have hF1 := hF.1
        refine run_skip ?_
        refine hK3 _ _ ?_
        refine run_seq_k fun K8 hK8 => ?_
        refine run_region_k rfl fun J9 hJ9 => ?_
        repeat (first | simp [hw0, htk6, hpl6, c12, c12p] | simp (disch := omega) only [wC, if_pos, if_neg])
        refine hJ9 _ _ ?_
        refine hK8 _ _ ?_
        refine run_seq_k fun K10 hK10 => ?_
        refine run_region_k rfl fun J11 hJ11 => ?_
        repeat (first | simp [hw0, htk6, hpl6, c12, c12p] | simp (disch := omega) only [wC, if_pos, if_neg])
        refine hJ11 _ _ ?_
        refine hK10 _ _ ?_
        refine run_seq_k fun K12 hK12 => ?_
        refine run_seq_k fun K13 hK13 => ?_
        refine run_region_k rfl fun J14 hJ14 => ?_
        repeat (first | simp [hw0, htk6, hpl6, c12, c12p] | simp (disch := omega) only [wC, if_pos, if_neg])
        refine hJ14 _ _ ?_
        refine hK13 _ _ ?_
        refine run_block_k ?_
        refine run_loopF (X := T3) [0, 2] (fun q ρ σ1 => (q.i ≤ l.length) ∧ (Two σ.toks q.tk q.kw q.kp (encsP (l.take q.i))) ∧ (ρ 3 = .ptr σ.objs.length 0) ∧ (ρ 4 = wrA q.kp (encsP (l.take q.i))) ∧ (ρ 5 = .v (.int .i64 q.i)) ∧ (σ1 = { σ with objs := σ.objs ++ [[wrA q.kw (encsP (l.take q.i))]], toks := q.tk })) (fun q => l.length - q.i) (⟨0, 0, 0, σ.toks⟩) ?st1 ?rd1
        case st1 =>
          refine ⟨?_, ?_, ?_, ?_, ?_, ?_⟩
          · first | rfl | (simp [hw0, htk6, hpl6, c12, c12p]; done) | omega | assumption | (simp [hw0, htk6, hpl6, c12, c12p]; omega) | (simp only [putA_get]; simp (disch := omega) only [wC, if_pos, if_neg]; simp [hw0, htk6, hpl6, c12, c12p]; done) | (simp [hw0, htk6, hpl6, c12, c12p]; simp (disch := omega) only [wC, if_pos, if_neg]; simp [hw0, htk6, hpl6, c12, c12p]; done)
          · exact two_nil _
          · first | rfl | (simp [hw0, htk6, hpl6, c12, c12p]; done) | omega | assumption | (simp [hw0, htk6, hpl6, c12, c12p]; omega) | (simp only [putA_get]; simp (disch := omega) only [wC, if_pos, if_neg]; simp [hw0, htk6, hpl6, c12, c12p]; done) | (simp [hw0, htk6, hpl6, c12, c12p]; simp (disch := omega) only [wC, if_pos, if_neg]; simp [hw0, htk6, hpl6, c12, c12p]; done)
          · simp [encsP]
            rfl
          · first | rfl | (simp [hw0, htk6, hpl6, c12, c12p]; done) | omega | assumption | (simp [hw0, htk6, hpl6, c12, c12p]; omega) | (simp only [putA_get]; simp (disch := omega) only [wC, if_pos, if_neg]; simp [hw0, htk6, hpl6, c12, c12p]; done) | (simp [hw0, htk6, hpl6, c12, c12p]; simp (disch := omega) only [wC, if_pos, if_neg]; simp [hw0, htk6, hpl6, c12, c12p]; done)
          · simp [encsP]
        case rd1 =>
          rintro q ρ1 σ1 hF1 ⟨hj, hT, h3, h4, h5, hσ⟩
          obtain rfl := hσ.symm
          have f1_0 := hF1 0 (by decide)
          try simp [hw0, htk6, hpl6, c12, c12p] at f1_0
          have f1_2 := hF1 2 (by decide)
          try simp [hw0, htk6, hpl6, c12, c12p] at f1_2
          refine run_seq_k fun K15 hK15 => ?_
          refine run_seq_k fun K16 hK16 => ?_
          refine run_region_k rfl fun J17 hJ17 => ?_
          repeat (first | simp [hw0, htk6, hpl6, c12, c12p, h3, h4, h5, f1_0, f1_2] | simp (disch := omega) only [wC, if_pos, if_neg])
          refine hJ17 _ _ ?_
          refine hK16 _ _ ?_
          refine run_cond_split (by first | rfl | (simp [hw0, htk6, hpl6, c12, c12p, h3, h4, h5, f1_0, f1_2, evalA]; done)) (fun c19 => ?_) (fun c19 => ?_)
          · try (exfalso; first | (revert c19; simp [hw0, htk6, hpl6, c12, c12p, h3, h4, h5, f1_0, f1_2]; done) | (have gq := c19; simp [hw0, htk6, hpl6, c12, c12p, h3, h4, h5, f1_0, f1_2] at gq; omega) | (have gq := c19; simp [hw0, htk6, hpl6, c12, c12p, h3, h4, h5, f1_0, f1_2] at gq; done))
            all_goals
              have c19p := c19
              try simp [hw0, htk6, hpl6, c12, c12p, h3, h4, h5, f1_0, f1_2] at c19p
              all_goals (first | (have gq := c19p; skip) | have c19p : True := True.intro)
              all_goals
                refine run_skip ?_
                refine hK15 _ _ ?_
                refine run_seq_k fun K18 hK18 => ?_
                refine run_block_k ?_
                have hlt : q.i < l.length := by simpa using c19
                have hat := partsC_at hlt
                have hel := encsP_len (l.take q.i)
                have htl : (l.take q.i).length ≤ 30 := by simp; omega
                have hx := hF.2 l[q.i] (List.getElem_mem hlt)
                have hnx : encsP (l.take (q.i + 1)) = encsP (l.take q.i) ++ encP l[q.i] := by rw [take_snoc hlt, encsP_snoc]
                have hb1 : q.i * 6 + 6 ≤ l.length * 6 := by omega
                refine run_region_k rfl fun J19 hJ19 => ?_
                repeat (first | simp [hw0, htk6, hpl6, c12, c12p, h3, h4, h5, f1_0, f1_2, c19, c19p, hat, hb1] | simp (disch := omega) only [wC, if_pos, if_neg])
                refine runL_call' (b := true) (by first | rfl | (simp [hw0, htk6, hpl6, c12, c12p, h3, h4, h5, f1_0, f1_2, c19, c19p, hat, hb1, wantedA]; done)) rfl rfl (by first | rfl | (simp [hw0, htk6, hpl6, c12, c12p, h3, h4, h5, f1_0, f1_2, c19, c19p, hat, hb1, callOf]; done)) (by simp) (llay_ok (x := l[q.i]) (l := encsP (l.take q.i)) (by simp) hT (by omega) (by omega)) ?_
                rintro _ _ ⟨⟨kw1, kp1, tk1⟩, hT1, rfl, rfl⟩
                repeat (first | simp [hw0, htk6, hpl6, c12, c12p, h3, h4, h5, f1_0, f1_2, c19, c19p, hat, hb1] | simp (disch := omega) only [wC, if_pos, if_neg])
                refine hJ19 _ _ ?_
                refine hK18 _ _ ?_
                refine run_region_k rfl fun J20 hJ20 => ?_
                repeat (first | simp [hw0, htk6, hpl6, c12, c12p, h3, h4, h5, f1_0, f1_2, c19, c19p, hat, hb1] | simp (disch := omega) only [wC, if_pos, if_neg])
                refine hJ20 _ _ ?_
                refine ⟨(⟨q.i + 1, kw1, kp1, tk1⟩), ⟨?_, ?_, ?_, ?_, ?_, ?_, ?_⟩, ?_⟩
                · first | (simp [hw0, htk6, hpl6, c12, c12p, h3, h4, h5, f1_0, f1_2, c19, c19p, hat, hb1]; done) | (intro r hr; revert hr; simp [hw0, htk6, hpl6, c12, c12p, h3, h4, h5, f1_0, f1_2, c19, c19p, hat, hb1]; done) | (intro r hr; simp only [List.mem_cons, List.not_mem_nil, or_false] at hr; rcases hr with rfl | rfl <;> simp [hw0, htk6, hpl6, c12, c12p, h3, h4, h5, f1_0, f1_2, c19, c19p, hat, hb1] <;> done)
                · first | rfl | (simp [hw0, htk6, hpl6, c12, c12p, h3, h4, h5, f1_0, f1_2, c19, c19p, hat, hb1]; done) | omega | assumption | (simp [hw0, htk6, hpl6, c12, c12p, h3, h4, h5, f1_0, f1_2, c19, c19p, hat, hb1]; omega) | (simp only [putA_get]; simp (disch := omega) only [wC, if_pos, if_neg]; simp [hw0, htk6, hpl6, c12, c12p, h3, h4, h5, f1_0, f1_2, c19, c19p, hat, hb1]; done) | (simp [hw0, htk6, hpl6, c12, c12p, h3, h4, h5, f1_0, f1_2, c19, c19p, hat, hb1]; simp (disch := omega) only [wC, if_pos, if_neg]; simp [hw0, htk6, hpl6, c12, c12p, h3, h4, h5, f1_0, f1_2, c19, c19p, hat, hb1]; done)
                · simp only [hnx]
                  exact hT1
                · first | rfl | (simp [hw0, htk6, hpl6, c12, c12p, h3, h4, h5, f1_0, f1_2, c19, c19p, hat, hb1]; done) | omega | assumption | (simp [hw0, htk6, hpl6, c12, c12p, h3, h4, h5, f1_0, f1_2, c19, c19p, hat, hb1]; omega) | (simp only [putA_get]; simp (disch := omega) only [wC, if_pos, if_neg]; simp [hw0, htk6, hpl6, c12, c12p, h3, h4, h5, f1_0, f1_2, c19, c19p, hat, hb1]; done) | (simp [hw0, htk6, hpl6, c12, c12p, h3, h4, h5, f1_0, f1_2, c19, c19p, hat, hb1]; simp (disch := omega) only [wC, if_pos, if_neg]; simp [hw0, htk6, hpl6, c12, c12p, h3, h4, h5, f1_0, f1_2, c19, c19p, hat, hb1]; done)
                · simp [hnx]
                · first | rfl | (simp [hw0, htk6, hpl6, c12, c12p, h3, h4, h5, f1_0, f1_2, c19, c19p, hat, hb1]; done) | omega | assumption | (simp [hw0, htk6, hpl6, c12, c12p, h3, h4, h5, f1_0, f1_2, c19, c19p, hat, hb1]; omega) | (simp only [putA_get]; simp (disch := omega) only [wC, if_pos, if_neg]; simp [hw0, htk6, hpl6, c12, c12p, h3, h4, h5, f1_0, f1_2, c19, c19p, hat, hb1]; done) | (simp [hw0, htk6, hpl6, c12, c12p, h3, h4, h5, f1_0, f1_2, c19, c19p, hat, hb1]; simp (disch := omega) only [wC, if_pos, if_neg]; simp [hw0, htk6, hpl6, c12, c12p, h3, h4, h5, f1_0, f1_2, c19, c19p, hat, hb1]; done)
                · simp [hnx]
                · first | rfl | (simp [hw0, htk6, hpl6, c12, c12p, h3, h4, h5, f1_0, f1_2, c19, c19p, hat, hb1]; done) | omega | assumption | (simp [hw0, htk6, hpl6, c12, c12p, h3, h4, h5, f1_0, f1_2, c19, c19p, hat, hb1]; omega) | (simp only [putA_get]; simp (disch := omega) only [wC, if_pos, if_neg]; simp [hw0, htk6, hpl6, c12, c12p, h3, h4, h5, f1_0, f1_2, c19, c19p, hat, hb1]; done) | (simp [hw0, htk6, hpl6, c12, c12p, h3, h4, h5, f1_0, f1_2, c19, c19p, hat, hb1]; simp (disch := omega) only [wC, if_pos, if_neg]; simp [hw0, htk6, hpl6, c12, c12p, h3, h4, h5, f1_0, f1_2, c19, c19p, hat, hb1]; done)
          · try (exfalso; first | (revert c19; simp [hw0, htk6, hpl6, c12, c12p, h3, h4, h5, f1_0, f1_2]; done) | (have gq := c19; simp [hw0, htk6, hpl6, c12, c12p, h3, h4, h5, f1_0, f1_2] at gq; omega) | (have gq := c19; simp [hw0, htk6, hpl6, c12, c12p, h3, h4, h5, f1_0, f1_2] at gq; done))
            all_goals
              have c19p := c19
              try simp [hw0, htk6, hpl6, c12, c12p, h3, h4, h5, f1_0, f1_2] at c19p
              all_goals (first | (have gq := c19p; skip) | have c19p : True := True.intro)
              all_goals
                refine run_exit ?_
                refine hK12 _ _ ?_
                refine run_seq_k fun K21 hK21 => ?_
                have hfull : l.take q.i = l := List.take_of_length_le (by simp at c19; omega)
                rw [hfull] at hT h4 ⊢
                have hel := encsP_len l
                obtain ⟨m, hm⟩ := hT.w.pre
                rw [hm]
                refine run_region_k rfl fun J22 hJ22 => ?_
                repeat (first | simp [hw0, htk6, hpl6, c12, c12p, h3, h4, h5, f1_0, f1_2, c19, c19p, h4] | simp (disch := omega) only [wC, if_pos, if_neg])
                refine runL_call' (b := true) (by first | rfl | (simp [hw0, htk6, hpl6, c12, c12p, h3, h4, h5, f1_0, f1_2, c19, c19p, h4, wantedA]; done)) rfl rfl (by first | rfl | (simp [hw0, htk6, hpl6, c12, c12p, h3, h4, h5, f1_0, f1_2, c19, c19p, h4, callOf]; done)) (by simp) (wdone_any (l := encsP l) (k := q.kw) (by simp) (by omega)) ?_
                rintro _ _ ⟨rfl, rfl⟩
                repeat (first | simp [hw0, htk6, hpl6, c12, c12p, h3, h4, h5, f1_0, f1_2, c19, c19p, h4] | simp (disch := omega) only [wC, if_pos, if_neg])
                refine hJ22 _ _ ?_
                refine hK21 _ _ ?_
                refine run_seq_k fun K23 hK23 => ?_
                refine run_seq_k fun K24 hK24 => ?_
                refine run_wk_reg 4 (.sl 1 (bytesA (encsP l)) (encsP l).length .shut) (by simp [hw0, htk6, hpl6, c12, c12p, h3, h4, h5, f1_0, f1_2, c19, c19p, h4]; exact wk_wrA _ _) ?_
                refine run_region_k rfl fun J25 hJ25 => ?_
                repeat (first | simp [hw0, htk6, hpl6, c12, c12p, h3, h4, h5, f1_0, f1_2, c19, c19p, h4] | simp (disch := omega) only [wC, if_pos, if_neg])
                refine runL_call' (b := true) (by first | rfl | (simp [hw0, htk6, hpl6, c12, c12p, h3, h4, h5, f1_0, f1_2, c19, c19p, h4, wantedA]; done)) rfl rfl (by first | rfl | (simp [hw0, htk6, hpl6, c12, c12p, h3, h4, h5, f1_0, f1_2, c19, c19p, h4, callOf]; done)) (by simp) (same_ok (by omega)) ?_
                rintro _ _ ⟨rfl, rfl⟩
                repeat (first | simp [hw0, htk6, hpl6, c12, c12p, h3, h4, h5, f1_0, f1_2, c19, c19p, h4] | simp (disch := omega) only [wC, if_pos, if_neg])
                refine hJ25 _ _ ?_
                refine hK24 _ _ ?_
                refine run_cond_split (by first | rfl | (simp [hw0, htk6, hpl6, c12, c12p, h3, h4, h5, f1_0, f1_2, c19, c19p, h4, evalA]; done)) (fun c37 => ?_) (fun c37 => ?_)
                · try (exfalso; first | (revert c37; simp [hw0, htk6, hpl6, c12, c12p, h3, h4, h5, f1_0, f1_2, c19, c19p, h4]; done) | (have gq := c37; simp [hw0, htk6, hpl6, c12, c12p, h3, h4, h5, f1_0, f1_2, c19, c19p, h4] at gq; omega) | (have gq := c37; simp [hw0, htk6, hpl6, c12, c12p, h3, h4, h5, f1_0, f1_2, c19, c19p, h4] at gq; done))
                  all_goals
                    have c37p := c37
                    try simp [hw0, htk6, hpl6, c12, c12p, h3, h4, h5, f1_0, f1_2, c19, c19p, h4] at c37p
                    all_goals (first | (have gq := c37p; skip) | have c37p : True := True.intro)
                    all_goals
                      refine run_seq_k fun K26 hK26 => ?_
                      refine run_region_k rfl fun J27 hJ27 => ?_
                      repeat (first | simp [hw0, htk6, hpl6, c12, c12p, h3, h4, h5, f1_0, f1_2, c19, c19p, h4, c37, c37p] | simp (disch := omega) only [wC, if_pos, if_neg])
                      refine hJ27 _ _ ?_
                      refine hK26 _ _ ?_
                      refine run_ret ?_
                      try simp only [Then, InBlock, NoGoto]
                      refine answer_tmp rfl (.inr rfl) ?_
                      exact ⟨by first | exact Wk.refl _ | (simp [hw0, htk6, hpl6, c12, c12p, h3, h4, h5, f1_0, f1_2, c19, c19p, h4, c37, c37p]; exact Wk.refl _) | (simp [*]; exact Wk.refl _) | exact Wk.shut _ _ _ _ | exact Wk.nil _ _ _, _, _, _, st_app (by first | rfl | exact (List.append_nil _).symm | (simp [hw0, htk6, hpl6, c12, c12p, h3, h4, h5, f1_0, f1_2, c19, c19p, h4, c37, c37p]; rfl) | (simp [hw0, htk6, hpl6, c12, c12p, h3, h4, h5, f1_0, f1_2, c19, c19p, h4, c37, c37p]; done)) (by first | rfl | exact (List.append_nil _).symm | (simp [hw0, htk6, hpl6, c12, c12p, h3, h4, h5, f1_0, f1_2, c19, c19p, h4, c37, c37p]; rfl)) (by first | rfl | exact (List.append_nil _).symm | (simp [hw0, htk6, hpl6, c12, c12p, h3, h4, h5, f1_0, f1_2, c19, c19p, h4, c37, c37p]; rfl)) rfl⟩
                · try (exfalso; first | (revert c37; simp [hw0, htk6, hpl6, c12, c12p, h3, h4, h5, f1_0, f1_2, c19, c19p, h4]; done) | (have gq := c37; simp [hw0, htk6, hpl6, c12, c12p, h3, h4, h5, f1_0, f1_2, c19, c19p, h4] at gq; omega) | (have gq := c37; simp [hw0, htk6, hpl6, c12, c12p, h3, h4, h5, f1_0, f1_2, c19, c19p, h4] at gq; done))
                  all_goals
                    have c37p := c37
                    try simp [hw0, htk6, hpl6, c12, c12p, h3, h4, h5, f1_0, f1_2, c19, c19p, h4] at c37p
                    all_goals (first | (have gq := c37p; skip) | have c37p : True := True.intro)
                    all_goals
                      refine run_skip ?_
                      refine hK23 _ _ ?_
                      refine run_seq_k fun K28 hK28 => ?_
                      refine run_region_k rfl fun J29 hJ29 => ?_
                      repeat (first | simp [hw0, htk6, hpl6, c12, c12p, h3, h4, h5, f1_0, f1_2, c19, c19p, h4, c37, c37p] | simp (disch := omega) only [wC, if_pos, if_neg])
                      refine runL_call' (b := true) (by first | rfl | (simp [hw0, htk6, hpl6, c12, c12p, h3, h4, h5, f1_0, f1_2, c19, c19p, h4, c37, c37p, wantedA]; done)) rfl rfl (by first | rfl | (simp [hw0, htk6, hpl6, c12, c12p, h3, h4, h5, f1_0, f1_2, c19, c19p, h4, c37, c37p, callOf]; done)) (by simp) (new_ok (by omega)) ?_
                      rintro _ _ ⟨rfl, rfl⟩
                      repeat (first | simp [hw0, htk6, hpl6, c12, c12p, h3, h4, h5, f1_0, f1_2, c19, c19p, h4, c37, c37p] | simp (disch := omega) only [wC, if_pos, if_neg])
                      refine hJ29 _ _ ?_
                      refine hK28 _ _ ?_
                      refine run_seq_k fun K30 hK30 => ?_
                      refine run_seq_k fun K31 hK31 => ?_
                      refine run_region_k rfl fun J32 hJ32 => ?_
                      repeat (first | simp [hw0, htk6, hpl6, c12, c12p, h3, h4, h5, f1_0, f1_2, c19, c19p, h4, c37, c37p] | simp (disch := omega) only [wC, if_pos, if_neg])
                      refine hJ32 _ _ ?_
                      refine hK31 _ _ ?_
                      refine run_block_k ?_
                      refine run_loopF (X := R2) [0, 7, 8] (fun r ρ σ1 => (r.j ≤ l.length) ∧ (At (encsP l) r.k (some (encsP (l.drop r.j)))) ∧ (ρ 9 = .v (.int .i64 r.j)) ∧ (σ1 = { σ with objs := σ.objs ++ [[wrA q.kw (encsP l)], rd (some (encsP (l.drop r.j))), inC (encsP l) .shut r.k false], toks := σ.toks ++ m })) (fun r => l.length - r.j) (⟨0, 0⟩) ?st2 ?rd2
                      case st2 =>
                        refine ⟨?_, ?_, ?_, ?_⟩
                        · first | rfl | (simp [hw0, htk6, hpl6, c12, c12p, h3, h4, h5, f1_0, f1_2, c19, c19p, h4, c37, c37p]; done) | omega | assumption | (simp [hw0, htk6, hpl6, c12, c12p, h3, h4, h5, f1_0, f1_2, c19, c19p, h4, c37, c37p]; omega) | (simp only [putA_get]; simp (disch := omega) only [wC, if_pos, if_neg]; simp [hw0, htk6, hpl6, c12, c12p, h3, h4, h5, f1_0, f1_2, c19, c19p, h4, c37, c37p]; done) | (simp [hw0, htk6, hpl6, c12, c12p, h3, h4, h5, f1_0, f1_2, c19, c19p, h4, c37, c37p]; simp (disch := omega) only [wC, if_pos, if_neg]; simp [hw0, htk6, hpl6, c12, c12p, h3, h4, h5, f1_0, f1_2, c19, c19p, h4, c37, c37p]; done)
                        · exact ⟨by simp, .inr (by simp)⟩
                        · first | rfl | (simp [hw0, htk6, hpl6, c12, c12p, h3, h4, h5, f1_0, f1_2, c19, c19p, h4, c37, c37p]; done) | omega | assumption | (simp [hw0, htk6, hpl6, c12, c12p, h3, h4, h5, f1_0, f1_2, c19, c19p, h4, c37, c37p]; omega) | (simp only [putA_get]; simp (disch := omega) only [wC, if_pos, if_neg]; simp [hw0, htk6, hpl6, c12, c12p, h3, h4, h5, f1_0, f1_2, c19, c19p, h4, c37, c37p]; done) | (simp [hw0, htk6, hpl6, c12, c12p, h3, h4, h5, f1_0, f1_2, c19, c19p, h4, c37, c37p]; simp (disch := omega) only [wC, if_pos, if_neg]; simp [hw0, htk6, hpl6, c12, c12p, h3, h4, h5, f1_0, f1_2, c19, c19p, h4, c37, c37p]; done)
                        · first | rfl | (simp [hw0, htk6, hpl6, c12, c12p, h3, h4, h5, f1_0, f1_2, c19, c19p, h4, c37, c37p]; done) | omega | assumption | (simp [hw0, htk6, hpl6, c12, c12p, h3, h4, h5, f1_0, f1_2, c19, c19p, h4, c37, c37p]; omega) | (simp only [putA_get]; simp (disch := omega) only [wC, if_pos, if_neg]; simp [hw0, htk6, hpl6, c12, c12p, h3, h4, h5, f1_0, f1_2, c19, c19p, h4, c37, c37p]; done) | (simp [hw0, htk6, hpl6, c12, c12p, h3, h4, h5, f1_0, f1_2, c19, c19p, h4, c37, c37p]; simp (disch := omega) only [wC, if_pos, if_neg]; simp [hw0, htk6, hpl6, c12, c12p, h3, h4, h5, f1_0, f1_2, c19, c19p, h4, c37, c37p]; done)
                      case rd2 =>
                        rintro r ρ2 σ1 hF2 ⟨hr, hA, h9, hσ2⟩
                        obtain rfl := hσ2.symm
                        have f2_0 := hF2 0 (by decide)
                        try simp [hw0, htk6, hpl6, c12, c12p, h3, h4, h5, f1_0, f1_2, c19, c19p, h4, c37, c37p] at f2_0
                        have f2_7 := hF2 7 (by decide)
                        try simp [hw0, htk6, hpl6, c12, c12p, h3, h4, h5, f1_0, f1_2, c19, c19p, h4, c37, c37p] at f2_7
                        have f2_8 := hF2 8 (by decide)
                        try simp [hw0, htk6, hpl6, c12, c12p, h3, h4, h5, f1_0, f1_2, c19, c19p, h4, c37, c37p] at f2_8
                        refine run_seq_k fun K33 hK33 => ?_
                        refine run_seq_k fun K34 hK34 => ?_
                        refine run_region_k rfl fun J35 hJ35 => ?_
                        repeat (first | simp [hw0, htk6, hpl6, c12, c12p, h3, h4, h5, f1_0, f1_2, c19, c19p, h4, c37, c37p, h9, f2_0, f2_7, f2_8] | simp (disch := omega) only [wC, if_pos, if_neg])
                        refine hJ35 _ _ ?_
                        refine hK34 _ _ ?_
                        refine run_cond_split (by first | rfl | (simp [hw0, htk6, hpl6, c12, c12p, h3, h4, h5, f1_0, f1_2, c19, c19p, h4, c37, c37p, h9, f2_0, f2_7, f2_8, evalA]; done)) (fun c46 => ?_) (fun c46 => ?_)
                        · try (exfalso; first | (revert c46; simp [hw0, htk6, hpl6, c12, c12p, h3, h4, h5, f1_0, f1_2, c19, c19p, h4, c37, c37p, h9, f2_0, f2_7, f2_8]; done) | (have gq := c46; simp [hw0, htk6, hpl6, c12, c12p, h3, h4, h5, f1_0, f1_2, c19, c19p, h4, c37, c37p, h9, f2_0, f2_7, f2_8] at gq; omega) | (have gq := c46; simp [hw0, htk6, hpl6, c12, c12p, h3, h4, h5, f1_0, f1_2, c19, c19p, h4, c37, c37p, h9, f2_0, f2_7, f2_8] at gq; done))
                          all_goals
                            have c46p := c46
                            try simp [hw0, htk6, hpl6, c12, c12p, h3, h4, h5, f1_0, f1_2, c19, c19p, h4, c37, c37p, h9, f2_0, f2_7, f2_8] at c46p
                            all_goals (first | (have gq := c46p; skip) | have c46p : True := True.intro)
                            all_goals
                              refine run_skip ?_
                              refine hK33 _ _ ?_
                              refine run_seq_k fun K36 hK36 => ?_
                              refine run_block_k ?_
                              refine run_seq_k fun K37 hK37 => ?_
                              have hlt2 : r.j < l.length := by simpa using c46
                              have hat2 := partsC_at hlt2
                              have hb2 : r.j * 6 + 6 ≤ l.length * 6 := by omega
                              have hrd : readS l[r.j].k.toNat (some (encsP (l.drop r.j))) = some (encsP (l.drop (r.j + 1))) := by rw [encsP_drop hlt2]; exact read_enc _ _
                              refine run_region_k rfl fun J38 hJ38 => ?_
                              repeat (first | simp [hw0, htk6, hpl6, c12, c12p, h3, h4, h5, f1_0, f1_2, c19, c19p, h4, c37, c37p, h9, f2_0, f2_7, f2_8, c46, c46p, hat2, hb2, partC, hrd] | simp (disch := omega) only [wC, if_pos, if_neg])
                              refine runL_call' (b := true) (by first | rfl | (simp [hw0, htk6, hpl6, c12, c12p, h3, h4, h5, f1_0, f1_2, c19, c19p, h4, c37, c37p, h9, f2_0, f2_7, f2_8, c46, c46p, hat2, hb2, partC, hrd, wantedA]; done)) rfl rfl (by first | rfl | (simp [hw0, htk6, hpl6, c12, c12p, h3, h4, h5, f1_0, f1_2, c19, c19p, h4, c37, c37p, h9, f2_0, f2_7, f2_8, c46, c46p, hat2, hb2, partC, hrd, callOf]; done)) (by simp) (reads_ok (s := some (encsP (l.drop r.j))) (k := r.k) (kd := l[r.j].k) (by simp) (by simp) (by omega) (by omega) hA) ?_
                              rintro _ _ ⟨rfl, k1, hk1, rfl⟩
                              repeat (first | simp [hw0, htk6, hpl6, c12, c12p, h3, h4, h5, f1_0, f1_2, c19, c19p, h4, c37, c37p, h9, f2_0, f2_7, f2_8, c46, c46p, hat2, hb2, partC, hrd] | simp (disch := omega) only [wC, if_pos, if_neg])
                              refine runL_splitB 58 (by first | rfl | (simp [hw0, htk6, hpl6, c12, c12p, h3, h4, h5, f1_0, f1_2, c19, c19p, h4, c37, c37p, h9, f2_0, f2_7, f2_8, c46, c46p, hat2, hb2, partC, hrd]; done)) (fun g16_9 => ?_) (fun g16_9 => ?_)
                              · try (exfalso; first | (revert g16_9; simp [hw0, htk6, hpl6, c12, c12p, h3, h4, h5, f1_0, f1_2, c19, c19p, h4, c37, c37p, h9, f2_0, f2_7, f2_8, c46, c46p, hat2, hb2, partC, hrd]; done) | (have gq := g16_9; simp [hw0, htk6, hpl6, c12, c12p, h3, h4, h5, f1_0, f1_2, c19, c19p, h4, c37, c37p, h9, f2_0, f2_7, f2_8, c46, c46p, hat2, hb2, partC, hrd] at gq; omega) | (have gq := g16_9; simp [hw0, htk6, hpl6, c12, c12p, h3, h4, h5, f1_0, f1_2, c19, c19p, h4, c37, c37p, h9, f2_0, f2_7, f2_8, c46, c46p, hat2, hb2, partC, hrd] at gq; done))
                                all_goals
                                  have g16_9p := g16_9
                                  try simp [hw0, htk6, hpl6, c12, c12p, h3, h4, h5, f1_0, f1_2, c19, c19p, h4, c37, c37p, h9, f2_0, f2_7, f2_8, c46, c46p, hat2, hb2, partC, hrd] at g16_9p
                                  all_goals (first | (have gq := g16_9p; skip) | have g16_9p : True := True.intro)
                                  all_goals
                                    refine runL_no (by first | rfl | (simp [hw0, htk6, hpl6, c12, c12p, h3, h4, h5, f1_0, f1_2, c19, c19p, h4, c37, c37p, h9, f2_0, f2_7, f2_8, c46, c46p, hat2, hb2, partC, hrd, g16_9, g16_9p, wantedA]; done)) rfl ?_
                                    repeat (first | simp [hw0, htk6, hpl6, c12, c12p, h3, h4, h5, f1_0, f1_2, c19, c19p, h4, c37, c37p, h9, f2_0, f2_7, f2_8, c46, c46p, hat2, hb2, partC, hrd, g16_9, g16_9p] | simp (disch := omega) only [wC, if_pos, if_neg])
                                    refine runL_no (by first | rfl | (simp [hw0, htk6, hpl6, c12, c12p, h3, h4, h5, f1_0, f1_2, c19, c19p, h4, c37, c37p, h9, f2_0, f2_7, f2_8, c46, c46p, hat2, hb2, partC, hrd, g16_9, g16_9p, wantedA]; done)) rfl ?_
                                    repeat (first | simp [hw0, htk6, hpl6, c12, c12p, h3, h4, h5, f1_0, f1_2, c19, c19p, h4, c37, c37p, h9, f2_0, f2_7, f2_8, c46, c46p, hat2, hb2, partC, hrd, g16_9, g16_9p] | simp (disch := omega) only [wC, if_pos, if_neg])
                                    refine hJ38 _ _ ?_
                                    refine hK37 _ _ ?_
                                    refine run_cond_true (by first | rfl | (simp [hw0, htk6, hpl6, c12, c12p, h3, h4, h5, f1_0, f1_2, c19, c19p, h4, c37, c37p, h9, f2_0, f2_7, f2_8, c46, c46p, hat2, hb2, partC, hrd, g16_9, g16_9p, evalA]; done)) ?_
                                    refine run_seq_k fun K39 hK39 => ?_
                                    refine run_region_k rfl fun J40 hJ40 => ?_
                                    repeat (first | simp [hw0, htk6, hpl6, c12, c12p, h3, h4, h5, f1_0, f1_2, c19, c19p, h4, c37, c37p, h9, f2_0, f2_7, f2_8, c46, c46p, hat2, hb2, partC, hrd, g16_9, g16_9p] | simp (disch := omega) only [wC, if_pos, if_neg])
                                    refine hJ40 _ _ ?_
                                    refine hK39 _ _ ?_
                                    refine run_ret ?_
                                    try simp only [Then, InBlock, NoGoto]
                                    refine answer_tmp rfl (.inr rfl) ?_
                                    exact ⟨by first | exact Wk.refl _ | (simp [hw0, htk6, hpl6, c12, c12p, h3, h4, h5, f1_0, f1_2, c19, c19p, h4, c37, c37p, h9, f2_0, f2_7, f2_8, c46, c46p, hat2, hb2, partC, hrd, g16_9, g16_9p]; exact Wk.refl _) | (simp [*]; exact Wk.refl _) | exact Wk.shut _ _ _ _ | exact Wk.nil _ _ _, _, _, _, st_app (by first | rfl | exact (List.append_nil _).symm | (simp [hw0, htk6, hpl6, c12, c12p, h3, h4, h5, f1_0, f1_2, c19, c19p, h4, c37, c37p, h9, f2_0, f2_7, f2_8, c46, c46p, hat2, hb2, partC, hrd, g16_9, g16_9p]; rfl) | (simp [hw0, htk6, hpl6, c12, c12p, h3, h4, h5, f1_0, f1_2, c19, c19p, h4, c37, c37p, h9, f2_0, f2_7, f2_8, c46, c46p, hat2, hb2, partC, hrd, g16_9, g16_9p]; done)) (by first | rfl | exact (List.append_nil _).symm | (simp [hw0, htk6, hpl6, c12, c12p, h3, h4, h5, f1_0, f1_2, c19, c19p, h4, c37, c37p, h9, f2_0, f2_7, f2_8, c46, c46p, hat2, hb2, partC, hrd, g16_9, g16_9p]; rfl)) (by first | rfl | exact (List.append_nil _).symm | (simp [hw0, htk6, hpl6, c12, c12p, h3, h4, h5, f1_0, f1_2, c19, c19p, h4, c37, c37p, h9, f2_0, f2_7, f2_8, c46, c46p, hat2, hb2, partC, hrd, g16_9, g16_9p]; rfl)) rfl⟩
                              · try (exfalso; first | (revert g16_9; simp [hw0, htk6, hpl6, c12, c12p, h3, h4, h5, f1_0, f1_2, c19, c19p, h4, c37, c37p, h9, f2_0, f2_7, f2_8, c46, c46p, hat2, hb2, partC, hrd]; done) | (have gq := g16_9; simp [hw0, htk6, hpl6, c12, c12p, h3, h4, h5, f1_0, f1_2, c19, c19p, h4, c37, c37p, h9, f2_0, f2_7, f2_8, c46, c46p, hat2, hb2, partC, hrd] at gq; omega) | (have gq := g16_9; simp [hw0, htk6, hpl6, c12, c12p, h3, h4, h5, f1_0, f1_2, c19, c19p, h4, c37, c37p, h9, f2_0, f2_7, f2_8, c46, c46p, hat2, hb2, partC, hrd] at gq; done))
                                all_goals
                                  have g16_9p := g16_9
                                  try simp [hw0, htk6, hpl6, c12, c12p, h3, h4, h5, f1_0, f1_2, c19, c19p, h4, c37, c37p, h9, f2_0, f2_7, f2_8, c46, c46p, hat2, hb2, partC, hrd] at g16_9p
                                  all_goals (first | (have gq := g16_9p; skip) | have g16_9p : True := True.intro)
                                  all_goals
                                    refine runL_go (by first | rfl | (simp [hw0, htk6, hpl6, c12, c12p, h3, h4, h5, f1_0, f1_2, c19, c19p, h4, c37, c37p, h9, f2_0, f2_7, f2_8, c46, c46p, hat2, hb2, partC, hrd, g16_9, g16_9p, wantedA]; done)) rfl ?_
                                    repeat (first | simp [hw0, htk6, hpl6, c12, c12p, h3, h4, h5, f1_0, f1_2, c19, c19p, h4, c37, c37p, h9, f2_0, f2_7, f2_8, c46, c46p, hat2, hb2, partC, hrd, g16_9, g16_9p] | simp (disch := omega) only [wC, if_pos, if_neg])
                                    refine runL_call' (b := true) (by first | rfl | (simp [hw0, htk6, hpl6, c12, c12p, h3, h4, h5, f1_0, f1_2, c19, c19p, h4, c37, c37p, h9, f2_0, f2_7, f2_8, c46, c46p, hat2, hb2, partC, hrd, g16_9, g16_9p, wantedA]; done)) rfl rfl (by first | rfl | (simp [hw0, htk6, hpl6, c12, c12p, h3, h4, h5, f1_0, f1_2, c19, c19p, h4, c37, c37p, h9, f2_0, f2_7, f2_8, c46, c46p, hat2, hb2, partC, hrd, g16_9, g16_9p, callOf]; done)) (by simp) (bad_ok (s := some (encsP (l.drop (r.j + 1)))) (by simp)) ?_
                                    rintro _ _ ⟨rfl, rfl⟩
                                    repeat (first | simp [hw0, htk6, hpl6, c12, c12p, h3, h4, h5, f1_0, f1_2, c19, c19p, h4, c37, c37p, h9, f2_0, f2_7, f2_8, c46, c46p, hat2, hb2, partC, hrd, g16_9, g16_9p] | simp (disch := omega) only [wC, if_pos, if_neg])
                                    refine hJ38 _ _ ?_
                                    refine hK37 _ _ ?_
                                    refine run_cond_split (by first | rfl | (simp [hw0, htk6, hpl6, c12, c12p, h3, h4, h5, f1_0, f1_2, c19, c19p, h4, c37, c37p, h9, f2_0, f2_7, f2_8, c46, c46p, hat2, hb2, partC, hrd, g16_9, g16_9p, evalA]; done)) (fun c61 => ?_) (fun c61 => ?_)
                                    · try (exfalso; first | (revert c61; simp [hw0, htk6, hpl6, c12, c12p, h3, h4, h5, f1_0, f1_2, c19, c19p, h4, c37, c37p, h9, f2_0, f2_7, f2_8, c46, c46p, hat2, hb2, partC, hrd, g16_9, g16_9p]; done) | (have gq := c61; simp [hw0, htk6, hpl6, c12, c12p, h3, h4, h5, f1_0, f1_2, c19, c19p, h4, c37, c37p, h9, f2_0, f2_7, f2_8, c46, c46p, hat2, hb2, partC, hrd, g16_9, g16_9p] at gq; omega) | (have gq := c61; simp [hw0, htk6, hpl6, c12, c12p, h3, h4, h5, f1_0, f1_2, c19, c19p, h4, c37, c37p, h9, f2_0, f2_7, f2_8, c46, c46p, hat2, hb2, partC, hrd, g16_9, g16_9p] at gq; done))
                                      all_goals
                                        have c61p := c61
                                        try simp [hw0, htk6, hpl6, c12, c12p, h3, h4, h5, f1_0, f1_2, c19, c19p, h4, c37, c37p, h9, f2_0, f2_7, f2_8, c46, c46p, hat2, hb2, partC, hrd, g16_9, g16_9p] at c61p
                                        all_goals (first | (have gq := c61p; skip) | have c61p : True := True.intro)
                                        all_goals
                                          refine run_seq_k fun K41 hK41 => ?_
                                          refine run_region_k rfl fun J42 hJ42 => ?_
                                          repeat (first | simp [hw0, htk6, hpl6, c12, c12p, h3, h4, h5, f1_0, f1_2, c19, c19p, h4, c37, c37p, h9, f2_0, f2_7, f2_8, c46, c46p, hat2, hb2, partC, hrd, g16_9, g16_9p, c61, c61p] | simp (disch := omega) only [wC, if_pos, if_neg])
                                          refine hJ42 _ _ ?_
                                          refine hK41 _ _ ?_
                                          refine run_ret ?_
                                          try simp only [Then, InBlock, NoGoto]
                                          refine answer_tmp rfl (.inr rfl) ?_
                                          exact ⟨by first | exact Wk.refl _ | (simp [hw0, htk6, hpl6, c12, c12p, h3, h4, h5, f1_0, f1_2, c19, c19p, h4, c37, c37p, h9, f2_0, f2_7, f2_8, c46, c46p, hat2, hb2, partC, hrd, g16_9, g16_9p, c61, c61p]; exact Wk.refl _) | (simp [*]; exact Wk.refl _) | exact Wk.shut _ _ _ _ | exact Wk.nil _ _ _, _, _, _, st_app (by first | rfl | exact (List.append_nil _).symm | (simp [hw0, htk6, hpl6, c12, c12p, h3, h4, h5, f1_0, f1_2, c19, c19p, h4, c37, c37p, h9, f2_0, f2_7, f2_8, c46, c46p, hat2, hb2, partC, hrd, g16_9, g16_9p, c61, c61p]; rfl) | (simp [hw0, htk6, hpl6, c12, c12p, h3, h4, h5, f1_0, f1_2, c19, c19p, h4, c37, c37p, h9, f2_0, f2_7, f2_8, c46, c46p, hat2, hb2, partC, hrd, g16_9, g16_9p, c61, c61p]; done)) (by first | rfl | exact (List.append_nil _).symm | (simp [hw0, htk6, hpl6, c12, c12p, h3, h4, h5, f1_0, f1_2, c19, c19p, h4, c37, c37p, h9, f2_0, f2_7, f2_8, c46, c46p, hat2, hb2, partC, hrd, g16_9, g16_9p, c61, c61p]; rfl)) (by first | rfl | exact (List.append_nil _).symm | (simp [hw0, htk6, hpl6, c12, c12p, h3, h4, h5, f1_0, f1_2, c19, c19p, h4, c37, c37p, h9, f2_0, f2_7, f2_8, c46, c46p, hat2, hb2, partC, hrd, g16_9, g16_9p, c61, c61p]; rfl)) rfl⟩
                                    · try (exfalso; first | (revert c61; simp [hw0, htk6, hpl6, c12, c12p, h3, h4, h5, f1_0, f1_2, c19, c19p, h4, c37, c37p, h9, f2_0, f2_7, f2_8, c46, c46p, hat2, hb2, partC, hrd, g16_9, g16_9p]; done) | (have gq := c61; simp [hw0, htk6, hpl6, c12, c12p, h3, h4, h5, f1_0, f1_2, c19, c19p, h4, c37, c37p, h9, f2_0, f2_7, f2_8, c46, c46p, hat2, hb2, partC, hrd, g16_9, g16_9p] at gq; omega) | (have gq := c61; simp [hw0, htk6, hpl6, c12, c12p, h3, h4, h5, f1_0, f1_2, c19, c19p, h4, c37, c37p, h9, f2_0, f2_7, f2_8, c46, c46p, hat2, hb2, partC, hrd, g16_9, g16_9p] at gq; done))
                                      all_goals
                                        have c61p := c61
                                        try simp [hw0, htk6, hpl6, c12, c12p, h3, h4, h5, f1_0, f1_2, c19, c19p, h4, c37, c37p, h9, f2_0, f2_7, f2_8, c46, c46p, hat2, hb2, partC, hrd, g16_9, g16_9p] at c61p
                                        all_goals (first | (have gq := c61p; skip) | have c61p : True := True.intro)
                                        all_goals
                                          refine run_skip ?_
                                          refine hK36 _ _ ?_
                                          refine run_region_k rfl fun J43 hJ43 => ?_
                                          repeat (first | simp [hw0, htk6, hpl6, c12, c12p, h3, h4, h5, f1_0, f1_2, c19, c19p, h4, c37, c37p, h9, f2_0, f2_7, f2_8, c46, c46p, hat2, hb2, partC, hrd, g16_9, g16_9p, c61, c61p] | simp (disch := omega) only [wC, if_pos, if_neg])
                                          refine hJ43 _ _ ?_
                                          refine ⟨(⟨r.j + 1, k1⟩), ⟨?_, ?_, ?_, ?_, ?_⟩, ?_⟩
                                          · first | (simp [hw0, htk6, hpl6, c12, c12p, h3, h4, h5, f1_0, f1_2, c19, c19p, h4, c37, c37p, h9, f2_0, f2_7, f2_8, c46, c46p, hat2, hb2, partC, hrd, g16_9, g16_9p, c61, c61p]; done) | (intro r hr; revert hr; simp [hw0, htk6, hpl6, c12, c12p, h3, h4, h5, f1_0, f1_2, c19, c19p, h4, c37, c37p, h9, f2_0, f2_7, f2_8, c46, c46p, hat2, hb2, partC, hrd, g16_9, g16_9p, c61, c61p]; done) | (intro r hr; simp only [List.mem_cons, List.not_mem_nil, or_false] at hr; rcases hr with rfl | rfl | rfl <;> simp [hw0, htk6, hpl6, c12, c12p, h3, h4, h5, f1_0, f1_2, c19, c19p, h4, c37, c37p, h9, f2_0, f2_7, f2_8, c46, c46p, hat2, hb2, partC, hrd, g16_9, g16_9p, c61, c61p] <;> done)
                                          · first | rfl | (simp [hw0, htk6, hpl6, c12, c12p, h3, h4, h5, f1_0, f1_2, c19, c19p, h4, c37, c37p, h9, f2_0, f2_7, f2_8, c46, c46p, hat2, hb2, partC, hrd, g16_9, g16_9p, c61, c61p]; done) | omega | assumption | (simp [hw0, htk6, hpl6, c12, c12p, h3, h4, h5, f1_0, f1_2, c19, c19p, h4, c37, c37p, h9, f2_0, f2_7, f2_8, c46, c46p, hat2, hb2, partC, hrd, g16_9, g16_9p, c61, c61p]; omega) | (simp only [putA_get]; simp (disch := omega) only [wC, if_pos, if_neg]; simp [hw0, htk6, hpl6, c12, c12p, h3, h4, h5, f1_0, f1_2, c19, c19p, h4, c37, c37p, h9, f2_0, f2_7, f2_8, c46, c46p, hat2, hb2, partC, hrd, g16_9, g16_9p, c61, c61p]; done) | (simp [hw0, htk6, hpl6, c12, c12p, h3, h4, h5, f1_0, f1_2, c19, c19p, h4, c37, c37p, h9, f2_0, f2_7, f2_8, c46, c46p, hat2, hb2, partC, hrd, g16_9, g16_9p, c61, c61p]; simp (disch := omega) only [wC, if_pos, if_neg]; simp [hw0, htk6, hpl6, c12, c12p, h3, h4, h5, f1_0, f1_2, c19, c19p, h4, c37, c37p, h9, f2_0, f2_7, f2_8, c46, c46p, hat2, hb2, partC, hrd, g16_9, g16_9p, c61, c61p]; done)
                                          · rw [hrd] at hk1
                                            exact hk1
                                          · first | rfl | (simp [hw0, htk6, hpl6, c12, c12p, h3, h4, h5, f1_0, f1_2, c19, c19p, h4, c37, c37p, h9, f2_0, f2_7, f2_8, c46, c46p, hat2, hb2, partC, hrd, g16_9, g16_9p, c61, c61p]; done) | omega | assumption | (simp [hw0, htk6, hpl6, c12, c12p, h3, h4, h5, f1_0, f1_2, c19, c19p, h4, c37, c37p, h9, f2_0, f2_7, f2_8, c46, c46p, hat2, hb2, partC, hrd, g16_9, g16_9p, c61, c61p]; omega) | (simp only [putA_get]; simp (disch := omega) only [wC, if_pos, if_neg]; simp [hw0, htk6, hpl6, c12, c12p, h3, h4, h5, f1_0, f1_2, c19, c19p, h4, c37, c37p, h9, f2_0, f2_7, f2_8, c46, c46p, hat2, hb2, partC, hrd, g16_9, g16_9p, c61, c61p]; done) | (simp [hw0, htk6, hpl6, c12, c12p, h3, h4, h5, f1_0, f1_2, c19, c19p, h4, c37, c37p, h9, f2_0, f2_7, f2_8, c46, c46p, hat2, hb2, partC, hrd, g16_9, g16_9p, c61, c61p]; simp (disch := omega) only [wC, if_pos, if_neg]; simp [hw0, htk6, hpl6, c12, c12p, h3, h4, h5, f1_0, f1_2, c19, c19p, h4, c37, c37p, h9, f2_0, f2_7, f2_8, c46, c46p, hat2, hb2, partC, hrd, g16_9, g16_9p, c61, c61p]; done)
                                          · first | rfl | (simp [hw0, htk6, hpl6, c12, c12p, h3, h4, h5, f1_0, f1_2, c19, c19p, h4, c37, c37p, h9, f2_0, f2_7, f2_8, c46, c46p, hat2, hb2, partC, hrd, g16_9, g16_9p, c61, c61p]; done) | omega | assumption | (simp [hw0, htk6, hpl6, c12, c12p, h3, h4, h5, f1_0, f1_2, c19, c19p, h4, c37, c37p, h9, f2_0, f2_7, f2_8, c46, c46p, hat2, hb2, partC, hrd, g16_9, g16_9p, c61, c61p]; omega) | (simp only [putA_get]; simp (disch := omega) only [wC, if_pos, if_neg]; simp [hw0, htk6, hpl6, c12, c12p, h3, h4, h5, f1_0, f1_2, c19, c19p, h4, c37, c37p, h9, f2_0, f2_7, f2_8, c46, c46p, hat2, hb2, partC, hrd, g16_9, g16_9p, c61, c61p]; done) | (simp [hw0, htk6, hpl6, c12, c12p, h3, h4, h5, f1_0, f1_2, c19, c19p, h4, c37, c37p, h9, f2_0, f2_7, f2_8, c46, c46p, hat2, hb2, partC, hrd, g16_9, g16_9p, c61, c61p]; simp (disch := omega) only [wC, if_pos, if_neg]; simp [hw0, htk6, hpl6, c12, c12p, h3, h4, h5, f1_0, f1_2, c19, c19p, h4, c37, c37p, h9, f2_0, f2_7, f2_8, c46, c46p, hat2, hb2, partC, hrd, g16_9, g16_9p, c61, c61p]; done)
                                          · first | rfl | (simp [hw0, htk6, hpl6, c12, c12p, h3, h4, h5, f1_0, f1_2, c19, c19p, h4, c37, c37p, h9, f2_0, f2_7, f2_8, c46, c46p, hat2, hb2, partC, hrd, g16_9, g16_9p, c61, c61p]; done) | omega | assumption | (simp [hw0, htk6, hpl6, c12, c12p, h3, h4, h5, f1_0, f1_2, c19, c19p, h4, c37, c37p, h9, f2_0, f2_7, f2_8, c46, c46p, hat2, hb2, partC, hrd, g16_9, g16_9p, c61, c61p]; omega) | (simp only [putA_get]; simp (disch := omega) only [wC, if_pos, if_neg]; simp [hw0, htk6, hpl6, c12, c12p, h3, h4, h5, f1_0, f1_2, c19, c19p, h4, c37, c37p, h9, f2_0, f2_7, f2_8, c46, c46p, hat2, hb2, partC, hrd, g16_9, g16_9p, c61, c61p]; done) | (simp [hw0, htk6, hpl6, c12, c12p, h3, h4, h5, f1_0, f1_2, c19, c19p, h4, c37, c37p, h9, f2_0, f2_7, f2_8, c46, c46p, hat2, hb2, partC, hrd, g16_9, g16_9p, c61, c61p]; simp (disch := omega) only [wC, if_pos, if_neg]; simp [hw0, htk6, hpl6, c12, c12p, h3, h4, h5, f1_0, f1_2, c19, c19p, h4, c37, c37p, h9, f2_0, f2_7, f2_8, c46, c46p, hat2, hb2, partC, hrd, g16_9, g16_9p, c61, c61p]; done)
                        · try (exfalso; first | (revert c46; simp [hw0, htk6, hpl6, c12, c12p, h3, h4, h5, f1_0, f1_2, c19, c19p, h4, c37, c37p, h9, f2_0, f2_7, f2_8]; done) | (have gq := c46; simp [hw0, htk6, hpl6, c12, c12p, h3, h4, h5, f1_0, f1_2, c19, c19p, h4, c37, c37p, h9, f2_0, f2_7, f2_8] at gq; omega) | (have gq := c46; simp [hw0, htk6, hpl6, c12, c12p, h3, h4, h5, f1_0, f1_2, c19, c19p, h4, c37, c37p, h9, f2_0, f2_7, f2_8] at gq; done))
                          all_goals
                            have c46p := c46
                            try simp [hw0, htk6, hpl6, c12, c12p, h3, h4, h5, f1_0, f1_2, c19, c19p, h4, c37, c37p, h9, f2_0, f2_7, f2_8] at c46p
                            all_goals (first | (have gq := c46p; skip) | have c46p : True := True.intro)
                            all_goals
                              refine run_exit ?_
                              refine hK30 _ _ ?_
                              refine run_seq_k fun K44 hK44 => ?_
                              have hend : l.drop r.j = [] := List.drop_of_length_le (by simp at c46; omega)
                              have hend2 : endB (some (encsP (l.drop r.j))) = true := by rw [hend]; rfl
                              refine run_region_k rfl fun J45 hJ45 => ?_
                              repeat (first | simp [hw0, htk6, hpl6, c12, c12p, h3, h4, h5, f1_0, f1_2, c19, c19p, h4, c37, c37p, h9, f2_0, f2_7, f2_8, c46, c46p, hend2] | simp (disch := omega) only [wC, if_pos, if_neg])
                              refine runL_call' (b := true) (by first | rfl | (simp [hw0, htk6, hpl6, c12, c12p, h3, h4, h5, f1_0, f1_2, c19, c19p, h4, c37, c37p, h9, f2_0, f2_7, f2_8, c46, c46p, hend2, wantedA]; done)) rfl rfl (by first | rfl | (simp [hw0, htk6, hpl6, c12, c12p, h3, h4, h5, f1_0, f1_2, c19, c19p, h4, c37, c37p, h9, f2_0, f2_7, f2_8, c46, c46p, hend2, callOf]; done)) (by simp) (lays_ok) ?_
                              rintro _ _ ⟨rfl, rfl⟩
                              repeat (first | simp [hw0, htk6, hpl6, c12, c12p, h3, h4, h5, f1_0, f1_2, c19, c19p, h4, c37, c37p, h9, f2_0, f2_7, f2_8, c46, c46p, hend2] | simp (disch := omega) only [wC, if_pos, if_neg])
                              refine runL_splitB 63 (by first | rfl | (simp [hw0, htk6, hpl6, c12, c12p, h3, h4, h5, f1_0, f1_2, c19, c19p, h4, c37, c37p, h9, f2_0, f2_7, f2_8, c46, c46p, hend2]; done)) (fun g18_1 => ?_) (fun g18_1 => ?_)
                              · try (exfalso; first | (revert g18_1; simp [hw0, htk6, hpl6, c12, c12p, h3, h4, h5, f1_0, f1_2, c19, c19p, h4, c37, c37p, h9, f2_0, f2_7, f2_8, c46, c46p, hend2]; done) | (have gq := g18_1; simp [hw0, htk6, hpl6, c12, c12p, h3, h4, h5, f1_0, f1_2, c19, c19p, h4, c37, c37p, h9, f2_0, f2_7, f2_8, c46, c46p, hend2] at gq; omega) | (have gq := g18_1; simp [hw0, htk6, hpl6, c12, c12p, h3, h4, h5, f1_0, f1_2, c19, c19p, h4, c37, c37p, h9, f2_0, f2_7, f2_8, c46, c46p, hend2] at gq; done))
                                all_goals
                                  have g18_1p := g18_1
                                  try simp [hw0, htk6, hpl6, c12, c12p, h3, h4, h5, f1_0, f1_2, c19, c19p, h4, c37, c37p, h9, f2_0, f2_7, f2_8, c46, c46p, hend2] at g18_1p
                                  all_goals (first | (have gq := g18_1p; skip) | have g18_1p : True := True.intro)
                                  all_goals
                                    refine runL_go (by first | rfl | (simp [hw0, htk6, hpl6, c12, c12p, h3, h4, h5, f1_0, f1_2, c19, c19p, h4, c37, c37p, h9, f2_0, f2_7, f2_8, c46, c46p, hend2, g18_1, g18_1p, wantedA]; done)) rfl ?_
                                    repeat (first | simp [hw0, htk6, hpl6, c12, c12p, h3, h4, h5, f1_0, f1_2, c19, c19p, h4, c37, c37p, h9, f2_0, f2_7, f2_8, c46, c46p, hend2, g18_1, g18_1p] | simp (disch := omega) only [wC, if_pos, if_neg])
                                    refine runL_call' (b := true) (by first | rfl | (simp [hw0, htk6, hpl6, c12, c12p, h3, h4, h5, f1_0, f1_2, c19, c19p, h4, c37, c37p, h9, f2_0, f2_7, f2_8, c46, c46p, hend2, g18_1, g18_1p, wantedA]; done)) rfl rfl (by first | rfl | (simp [hw0, htk6, hpl6, c12, c12p, h3, h4, h5, f1_0, f1_2, c19, c19p, h4, c37, c37p, h9, f2_0, f2_7, f2_8, c46, c46p, hend2, g18_1, g18_1p, callOf]; done)) (by simp) (end_ok (s := some (encsP (l.drop r.j))) (by simp)) ?_
                                    rintro _ _ ⟨rfl, rfl⟩
                                    repeat (first | simp [hw0, htk6, hpl6, c12, c12p, h3, h4, h5, f1_0, f1_2, c19, c19p, h4, c37, c37p, h9, f2_0, f2_7, f2_8, c46, c46p, hend2, g18_1, g18_1p] | simp (disch := omega) only [wC, if_pos, if_neg])
                                    refine hJ45 _ _ ?_
                                    refine hK44 _ _ ?_
                                    refine run_ret ?_
                                    try simp only [Then, InBlock, NoGoto]
                                    refine answer_tmp rfl (.inr rfl) ?_
                                    exact ⟨by first | exact Wk.refl _ | (simp [hw0, htk6, hpl6, c12, c12p, h3, h4, h5, f1_0, f1_2, c19, c19p, h4, c37, c37p, h9, f2_0, f2_7, f2_8, c46, c46p, hend2, g18_1, g18_1p]; exact Wk.refl _) | (simp [*]; exact Wk.refl _) | exact Wk.shut _ _ _ _ | exact Wk.nil _ _ _, _, _, _, st_app (by first | rfl | exact (List.append_nil _).symm | (simp [hw0, htk6, hpl6, c12, c12p, h3, h4, h5, f1_0, f1_2, c19, c19p, h4, c37, c37p, h9, f2_0, f2_7, f2_8, c46, c46p, hend2, g18_1, g18_1p]; rfl) | (simp [hw0, htk6, hpl6, c12, c12p, h3, h4, h5, f1_0, f1_2, c19, c19p, h4, c37, c37p, h9, f2_0, f2_7, f2_8, c46, c46p, hend2, g18_1, g18_1p]; done)) (by first | rfl | exact (List.append_nil _).symm | (simp [hw0, htk6, hpl6, c12, c12p, h3, h4, h5, f1_0, f1_2, c19, c19p, h4, c37, c37p, h9, f2_0, f2_7, f2_8, c46, c46p, hend2, g18_1, g18_1p]; rfl)) (by first | rfl | exact (List.append_nil _).symm | (simp [hw0, htk6, hpl6, c12, c12p, h3, h4, h5, f1_0, f1_2, c19, c19p, h4, c37, c37p, h9, f2_0, f2_7, f2_8, c46, c46p, hend2, g18_1, g18_1p]; rfl)) rfl⟩
                              · try (exfalso; first | (revert g18_1; simp [hw0, htk6, hpl6, c12, c12p, h3, h4, h5, f1_0, f1_2, c19, c19p, h4, c37, c37p, h9, f2_0, f2_7, f2_8, c46, c46p, hend2]; done) | (have gq := g18_1; simp [hw0, htk6, hpl6, c12, c12p, h3, h4, h5, f1_0, f1_2, c19, c19p, h4, c37, c37p, h9, f2_0, f2_7, f2_8, c46, c46p, hend2] at gq; omega) | (have gq := g18_1; simp [hw0, htk6, hpl6, c12, c12p, h3, h4, h5, f1_0, f1_2, c19, c19p, h4, c37, c37p, h9, f2_0, f2_7, f2_8, c46, c46p, hend2] at gq; done))
                                all_goals
                                  have g18_1p := g18_1
                                  try simp [hw0, htk6, hpl6, c12, c12p, h3, h4, h5, f1_0, f1_2, c19, c19p, h4, c37, c37p, h9, f2_0, f2_7, f2_8, c46, c46p, hend2] at g18_1p
                                  all_goals (first | (have gq := g18_1p; skip) | have g18_1p : True := True.intro)
                                  all_goals
                                    refine runL_no (by first | rfl | (simp [hw0, htk6, hpl6, c12, c12p, h3, h4, h5, f1_0, f1_2, c19, c19p, h4, c37, c37p, h9, f2_0, f2_7, f2_8, c46, c46p, hend2, g18_1, g18_1p, wantedA]; done)) rfl ?_
                                    repeat (first | simp [hw0, htk6, hpl6, c12, c12p, h3, h4, h5, f1_0, f1_2, c19, c19p, h4, c37, c37p, h9, f2_0, f2_7, f2_8, c46, c46p, hend2, g18_1, g18_1p] | simp (disch := omega) only [wC, if_pos, if_neg])
                                    refine runL_no (by first | rfl | (simp [hw0, htk6, hpl6, c12, c12p, h3, h4, h5, f1_0, f1_2, c19, c19p, h4, c37, c37p, h9, f2_0, f2_7, f2_8, c46, c46p, hend2, g18_1, g18_1p, wantedA]; done)) rfl ?_
                                    repeat (first | simp [hw0, htk6, hpl6, c12, c12p, h3, h4, h5, f1_0, f1_2, c19, c19p, h4, c37, c37p, h9, f2_0, f2_7, f2_8, c46, c46p, hend2, g18_1, g18_1p] | simp (disch := omega) only [wC, if_pos, if_neg])
                                    refine hJ45 _ _ ?_
                                    refine hK44 _ _ ?_
                                    refine run_ret ?_
                                    try simp only [Then, InBlock, NoGoto]
                                    refine answer_tmp rfl (.inr rfl) ?_
                                    exact ⟨by first | exact Wk.refl _ | (simp [hw0, htk6, hpl6, c12, c12p, h3, h4, h5, f1_0, f1_2, c19, c19p, h4, c37, c37p, h9, f2_0, f2_7, f2_8, c46, c46p, hend2, g18_1, g18_1p]; exact Wk.refl _) | (simp [*]; exact Wk.refl _) | exact Wk.shut _ _ _ _ | exact Wk.nil _ _ _, _, _, _, st_app (by first | rfl | exact (List.append_nil _).symm | (simp [hw0, htk6, hpl6, c12, c12p, h3, h4, h5, f1_0, f1_2, c19, c19p, h4, c37, c37p, h9, f2_0, f2_7, f2_8, c46, c46p, hend2, g18_1, g18_1p]; rfl) | (simp [hw0, htk6, hpl6, c12, c12p, h3, h4, h5, f1_0, f1_2, c19, c19p, h4, c37, c37p, h9, f2_0, f2_7, f2_8, c46, c46p, hend2, g18_1, g18_1p]; done)) (by first | rfl | exact (List.append_nil _).symm | (simp [hw0, htk6, hpl6, c12, c12p, h3, h4, h5, f1_0, f1_2, c19, c19p, h4, c37, c37p, h9, f2_0, f2_7, f2_8, c46, c46p, hend2, g18_1, g18_1p]; rfl)) (by first | rfl | exact (List.append_nil _).symm | (simp [hw0, htk6, hpl6, c12, c12p, h3, h4, h5, f1_0, f1_2, c19, c19p, h4, c37, c37p, h9, f2_0, f2_7, f2_8, c46, c46p, hend2, g18_1, g18_1p]; rfl)) rfl⟩

end Go.Proofs.Ytkbhdlocdajhmaa
