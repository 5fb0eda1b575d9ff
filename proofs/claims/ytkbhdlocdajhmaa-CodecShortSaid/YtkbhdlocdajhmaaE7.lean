import Derived.Test.YtkbhdlocdajhmaaE6
/-
  CodecShort: what it computes.
-/
namespace Go.Proofs.Ytkbhdlocdajhmaa
set_option linter.unnecessarySimpa false
open Go Go.Vm
set_option linter.unusedSimpArgs false
set_option linter.unusedVariables false
set_option maxRecDepth 100000

attribute [local simp] evalL wantedA isCall opA evalA evalAll evalsA evalOpt ofValue ofCell plain binA_eql_pn binA_neq_pn binA_gtr binA_lss binA_geq binA_leq binA_add binA_sub binA_eql binA_neq binA_or binA_shl binA_shr binA_mul binA_quo binA_rem binA_agg_eql binA_agg_neq convA_int unA_not fieldAddrA loadA partA pickA_true pickA_false pickA_bb lenA builtinA storeA splice AV.cells AV.isCell sliceA boundA intA callOf indexAddrA newObjA buildA fillA zeroA ofCells buildSliceA indexA fieldA coinsC_at

theorem new_at {σ : St} {p : List UInt8} {n : Nat} {tl : Tail} (h : p.length = n) (hp : p.length ≤ 1000000) :
    CallsA Try.prog 12 [.sl 1 (bytesA p) n tl] σ (fun av σ' => av = .ptr σ.objs.length 0 ∧ σ' = { σ with objs := σ.objs ++ [rd (some p)] }) := by
  subst h; exact new_ok hp

theorem readsS_snoc (l : List PartP) (x : PartP) (s : Option (List UInt8)) : readsS (l ++ [x]) s = readS x.k.toNat (readsS l s) := by simp [readsS]
theorem encP_pos (x : PartP) : 0 < (encP x).length := by
  unfold encP
  split
  · simp
  split
  · simp
  split
  · simp [nBytes_len]
  split
  · simp [nBytes_len]
  split
  · simp [encN]
  · simp [encL]

attribute [local simp] undefA List.getElem?_cons_zero List.getElem?_cons_succ in
theorem codecShort_ok {σ : St} {l : List PartP} {c : Int} (hc : 0 ≤ c ∧ c < 65536) :
    CallsA Try.prog 8 [.sl 6 (partsC l) l.length .shut, .v (.int .u16 c)] σ (fun av σ' => av = .v (.bool true) ∧ σ = σ') := by
  refine callsA_gcS ?_ rfl
  have hw0 : [AV.sl 0 [] 0 Tail.full] = [wrA 0 []] := rfl
  have htk6 : ∀ (x : PartP) (r : List AV), (partC x ++ r).take 6 = partC x := fun _ _ => rfl
  have hpl6 : ∀ (x : PartP), (partC x).length = 6 := fun _ => rfl
  obtain ⟨n, rfl⟩ : ∃ n : Nat, c = n := ⟨c.toNat, by omega⟩
  have hcw : IntKind.i64.wrap (n : Int) = n := wrap_i64 _ (by omega) (by omega)
  refine callsA_body Try.func8 rfl rfl rfl ?_
  refine run_seq_k fun K1 hK1 => ?_
  refine run_region_k rfl fun J2 hJ2 => ?_
  repeat (first | simp [hw0, htk6, hpl6, hcw] | simp (disch := omega) only [wC, if_pos, if_neg])
  refine hJ2 _ _ ?_
  refine hK1 _ _ ?_
  refine run_seq_k fun K3 hK3 => ?_
  refine run_seq_k fun K4 hK4 => ?_
  refine run_region_k rfl fun J5 hJ5 => ?_
  repeat (first | simp [hw0, htk6, hpl6, hcw] | simp (disch := omega) only [wC, if_pos, if_neg])
  refine runL_call' (b := true) (by first | rfl | (simp [hw0, htk6, hpl6, hcw, wantedA]; done)) rfl rfl (by first | rfl | (simp [hw0, htk6, hpl6, hcw, callOf]; done)) (by simp) (few_ok) ?_
  rintro _ _ ⟨rfl, rfl⟩
  repeat (first | simp [hw0, htk6, hpl6, hcw] | simp (disch := omega) only [wC, if_pos, if_neg])
  refine runL_splitB 16 (by first | rfl | (simp [hw0, htk6, hpl6, hcw]; done)) (fun g1_3 => ?_) (fun g1_3 => ?_)
  · try (exfalso; have gq := g1_3; simp [hw0, htk6, hpl6, hcw] at gq; first | done | omega)
    all_goals
     have g1_3p := g1_3
     try simp [hw0, htk6, hpl6, hcw] at g1_3p
     all_goals (first | (have gq := g1_3p; skip) | have g1_3p : True := True.intro)
     all_goals
        refine runL_no (by first | rfl | (simp [hw0, htk6, hpl6, hcw, g1_3, g1_3p, wantedA]; done)) rfl ?_
        repeat (first | simp [hw0, htk6, hpl6, hcw, g1_3, g1_3p] | simp (disch := omega) only [wC, if_pos, if_neg])
        refine runL_no (by first | rfl | (simp [hw0, htk6, hpl6, hcw, g1_3, g1_3p, wantedA]; done)) rfl ?_
        repeat (first | simp [hw0, htk6, hpl6, hcw, g1_3, g1_3p] | simp (disch := omega) only [wC, if_pos, if_neg])
        refine runL_no (by first | rfl | (simp [hw0, htk6, hpl6, hcw, g1_3, g1_3p, wantedA]; done)) rfl ?_
        repeat (first | simp [hw0, htk6, hpl6, hcw, g1_3, g1_3p] | simp (disch := omega) only [wC, if_pos, if_neg])
        refine hJ5 _ _ ?_
        refine hK4 _ _ ?_
        refine run_cond_true (by first | rfl | (simp [hw0, htk6, hpl6, hcw, g1_3, g1_3p, evalA]; done)) ?_
        refine run_seq_k fun K6 hK6 => ?_
        refine run_region_k rfl fun J7 hJ7 => ?_
        repeat (first | simp [hw0, htk6, hpl6, hcw, g1_3, g1_3p] | simp (disch := omega) only [wC, if_pos, if_neg])
        refine runL_call' (b := true) (by first | rfl | (simp [hw0, htk6, hpl6, hcw, g1_3, g1_3p, wantedA]; done)) rfl rfl (by first | rfl | (simp [hw0, htk6, hpl6, hcw, g1_3, g1_3p, callOf]; done)) (by simp) (lays_ok) ?_
        rintro _ _ ⟨rfl, rfl⟩
        repeat (first | simp [hw0, htk6, hpl6, hcw, g1_3, g1_3p] | simp (disch := omega) only [wC, if_pos, if_neg])
        refine hJ7 _ _ ?_
        refine hK6 _ _ ?_
        refine run_ret ?_
        try simp only [Then, InBlock, NoGoto]
        refine answer_tmp rfl (.inr rfl) ?_
        exact ⟨by first | exact Wk.refl _ | (simp [hw0, htk6, hpl6, hcw, g1_3, g1_3p]; exact Wk.refl _) | (simp [*]; exact Wk.refl _) | exact Wk.shut _ _ _ _ | exact Wk.nil _ _ _, _, _, _, st_app (by first | rfl | exact (List.append_nil _).symm | (simp [hw0, htk6, hpl6, hcw, g1_3, g1_3p]; rfl) | (simp [hw0, htk6, hpl6, hcw, g1_3, g1_3p]; done)) (by first | rfl | exact (List.append_nil _).symm | (simp; rfl)) (by first | rfl | exact (List.append_nil _).symm | (simp; rfl)) rfl⟩
  · try (exfalso; have gq := g1_3; simp [hw0, htk6, hpl6, hcw] at gq; first | done | omega)
    all_goals
     have g1_3p := g1_3
     try simp [hw0, htk6, hpl6, hcw] at g1_3p
     all_goals (first | (have gq := g1_3p; skip) | have g1_3p : True := True.intro)
     all_goals
        refine runL_go (by first | rfl | (simp [hw0, htk6, hpl6, hcw, g1_3, g1_3p, wantedA]; done)) rfl ?_
        repeat (first | simp [hw0, htk6, hpl6, hcw, g1_3, g1_3p] | simp (disch := omega) only [wC, if_pos, if_neg])
        refine runL_go (by first | rfl | (simp [hw0, htk6, hpl6, hcw, g1_3, g1_3p, wantedA]; done)) rfl ?_
        repeat (first | simp [hw0, htk6, hpl6, hcw, g1_3, g1_3p] | simp (disch := omega) only [wC, if_pos, if_neg])
        refine runL_go (by first | rfl | (simp [hw0, htk6, hpl6, hcw, g1_3, g1_3p, wantedA]; done)) rfl ?_
        repeat (first | simp [hw0, htk6, hpl6, hcw, g1_3, g1_3p] | simp (disch := omega) only [wC, if_pos, if_neg])
        refine hJ5 _ _ ?_
        refine hK4 _ _ ?_
        refine run_cond_split (by first | rfl | (simp [hw0, htk6, hpl6, hcw, g1_3, g1_3p, evalA]; done)) (fun c20 => ?_) (fun c20 => ?_)
        · try (exfalso; have gq := c20; simp [hw0, htk6, hpl6, hcw, g1_3, g1_3p] at gq; first | done | omega)
          all_goals
           have c20p := c20
           try simp [hw0, htk6, hpl6, hcw, g1_3, g1_3p] at c20p
           all_goals (first | (have gq := c20p; skip) | have c20p : True := True.intro)
           all_goals
            refine run_seq_k fun K8 hK8 => ?_
            refine run_region_k rfl fun J9 hJ9 => ?_
            repeat (first | simp [hw0, htk6, hpl6, hcw, g1_3, g1_3p, c20, c20p] | simp (disch := omega) only [wC, if_pos, if_neg])
            refine runL_call' (b := true) (by first | rfl | (simp [hw0, htk6, hpl6, hcw, g1_3, g1_3p, c20, c20p, wantedA]; done)) rfl rfl (by first | rfl | (simp [hw0, htk6, hpl6, hcw, g1_3, g1_3p, c20, c20p, callOf]; done)) (by simp) (lays_ok) ?_
            rintro _ _ ⟨rfl, rfl⟩
            repeat (first | simp [hw0, htk6, hpl6, hcw, g1_3, g1_3p, c20, c20p] | simp (disch := omega) only [wC, if_pos, if_neg])
            refine hJ9 _ _ ?_
            refine hK8 _ _ ?_
            refine run_ret ?_
            try simp only [Then, InBlock, NoGoto]
            refine answer_tmp rfl (.inr rfl) ?_
            exact ⟨by first | exact Wk.refl _ | (simp [hw0, htk6, hpl6, hcw, g1_3, g1_3p, c20, c20p]; exact Wk.refl _) | (simp [*]; exact Wk.refl _) | exact Wk.shut _ _ _ _ | exact Wk.nil _ _ _, _, _, _, st_app (by first | rfl | exact (List.append_nil _).symm | (simp [hw0, htk6, hpl6, hcw, g1_3, g1_3p, c20, c20p]; rfl) | (simp [hw0, htk6, hpl6, hcw, g1_3, g1_3p, c20, c20p]; done)) (by first | rfl | exact (List.append_nil _).symm | (simp; rfl)) (by first | rfl | exact (List.append_nil _).symm | (simp; rfl)) rfl⟩
        · try (exfalso; have gq := c20; simp [hw0, htk6, hpl6, hcw, g1_3, g1_3p] at gq; first | done | omega)
          all_goals
           have c20p := c20
           try simp [hw0, htk6, hpl6, hcw, g1_3, g1_3p] at c20p
           all_goals (first | (have gq := c20p; skip) | have c20p : True := True.intro)
           all_goals
            have hF : FewP l := by first | (simpa using g1_3) | (simp at g1_3; exact g1_3)
            have hF1 := hF.1
            have hl0 : 0 < l.length := by simp at c20; cases l with | nil => simp at c20 | cons => simp
            refine run_skip ?_
            refine hK3 _ _ ?_
            refine run_seq_k fun K10 hK10 => ?_
            refine run_region_k rfl fun J11 hJ11 => ?_
            repeat (first | simp [hw0, htk6, hpl6, hcw, g1_3, g1_3p, c20, c20p] | simp (disch := omega) only [wC, if_pos, if_neg])
            refine hJ11 _ _ ?_
            refine hK10 _ _ ?_
            refine run_seq_k fun K12 hK12 => ?_
            refine run_region_k rfl fun J13 hJ13 => ?_
            repeat (first | simp [hw0, htk6, hpl6, hcw, g1_3, g1_3p, c20, c20p] | simp (disch := omega) only [wC, if_pos, if_neg])
            refine hJ13 _ _ ?_
            refine hK12 _ _ ?_
            refine run_seq_k fun K14 hK14 => ?_
            refine run_seq_k fun K15 hK15 => ?_
            refine run_region_k rfl fun J16 hJ16 => ?_
            repeat (first | simp [hw0, htk6, hpl6, hcw, g1_3, g1_3p, c20, c20p] | simp (disch := omega) only [wC, if_pos, if_neg])
            refine hJ16 _ _ ?_
            refine hK15 _ _ ?_
            refine run_block_k ?_
            refine run_loopF (X := T3) [0, 1, 4] (fun q ρ σ1 => (q.i ≤ l.length) ∧ (Two σ.toks q.tk q.kw q.kp (encsP (l.take q.i))) ∧ (ρ 5 = .ptr σ.objs.length 0) ∧ (ρ 6 = wrA q.kp (encsP (l.take q.i))) ∧ (ρ 7 = .v (.int .i64 q.i)) ∧ (σ1 = { σ with objs := σ.objs ++ [[wrA q.kw (encsP (l.take q.i))]], toks := q.tk })) (fun q => l.length - q.i) (⟨0, 0, 0, σ.toks⟩) ?st1 ?rd1
            case st1 =>
              refine ⟨?_, ?_, ?_, ?_, ?_, ?_⟩
              · first | rfl | omega | assumption | ((repeat (first | simp [hw0, htk6, hpl6, hcw, g1_3, g1_3p, c20, c20p] | simp (disch := omega) only [wC, if_pos, if_neg])); first | done | omega) | (simp only [putA_get]; (repeat (first | simp (disch := omega) only [wC, if_pos, if_neg] | simp [hw0, htk6, hpl6, hcw, g1_3, g1_3p, c20, c20p])); done)
              · exact two_nil _
              · first | rfl | omega | assumption | ((repeat (first | simp [hw0, htk6, hpl6, hcw, g1_3, g1_3p, c20, c20p] | simp (disch := omega) only [wC, if_pos, if_neg])); first | done | omega) | (simp only [putA_get]; (repeat (first | simp (disch := omega) only [wC, if_pos, if_neg] | simp [hw0, htk6, hpl6, hcw, g1_3, g1_3p, c20, c20p])); done)
              · simp [encsP]
                rfl
              · first | rfl | omega | assumption | ((repeat (first | simp [hw0, htk6, hpl6, hcw, g1_3, g1_3p, c20, c20p] | simp (disch := omega) only [wC, if_pos, if_neg])); first | done | omega) | (simp only [putA_get]; (repeat (first | simp (disch := omega) only [wC, if_pos, if_neg] | simp [hw0, htk6, hpl6, hcw, g1_3, g1_3p, c20, c20p])); done)
              · simp [encsP]
            case rd1 =>
              rintro q ρ1 σ1 hF1 ⟨hj, hT, h3, h4, h5, hσ⟩
              obtain rfl := hσ.symm
              have f1_0 := hF1 0 (by decide)
              try simp [hw0, htk6, hpl6, hcw, g1_3, g1_3p, c20, c20p] at f1_0
              have f1_1 := hF1 1 (by decide)
              try simp [hw0, htk6, hpl6, hcw, g1_3, g1_3p, c20, c20p] at f1_1
              have f1_4 := hF1 4 (by decide)
              try simp [hw0, htk6, hpl6, hcw, g1_3, g1_3p, c20, c20p] at f1_4
              refine run_seq_k fun K17 hK17 => ?_
              refine run_seq_k fun K18 hK18 => ?_
              refine run_region_k rfl fun J19 hJ19 => ?_
              repeat (first | simp [hw0, htk6, hpl6, hcw, g1_3, g1_3p, c20, c20p, h3, h4, h5, f1_0, f1_1, f1_4] | simp (disch := omega) only [wC, if_pos, if_neg])
              refine hJ19 _ _ ?_
              refine hK18 _ _ ?_
              refine run_cond_split (by first | rfl | (simp [hw0, htk6, hpl6, hcw, g1_3, g1_3p, c20, c20p, h3, h4, h5, f1_0, f1_1, f1_4, evalA]; done)) (fun c27 => ?_) (fun c27 => ?_)
              · try (exfalso; have gq := c27; simp [hw0, htk6, hpl6, hcw, g1_3, g1_3p, c20, c20p, h3, h4, h5, f1_0, f1_1, f1_4] at gq; first | done | omega)
                all_goals
                 have c27p := c27
                 try simp [hw0, htk6, hpl6, hcw, g1_3, g1_3p, c20, c20p, h3, h4, h5, f1_0, f1_1, f1_4] at c27p
                 all_goals (first | (have gq := c27p; skip) | have c27p : True := True.intro)
                 all_goals
                  refine run_skip ?_
                  refine hK17 _ _ ?_
                  refine run_seq_k fun K20 hK20 => ?_
                  refine run_block_k ?_
                  have hlt : q.i < l.length := by simpa using c27
                  have hat := partsC_at hlt
                  have hel := encsP_len (l.take q.i)
                  have htl : (l.take q.i).length ≤ 30 := by simp; omega
                  have hx := hF.2 l[q.i] (List.getElem_mem hlt)
                  have hnx : encsP (l.take (q.i + 1)) = encsP (l.take q.i) ++ encP l[q.i] := by rw [take_snoc hlt, encsP_snoc]
                  have hb1 : q.i * 6 + 6 ≤ l.length * 6 := by omega
                  refine run_region_k rfl fun J21 hJ21 => ?_
                  repeat (first | simp [hw0, htk6, hpl6, hcw, g1_3, g1_3p, c20, c20p, h3, h4, h5, f1_0, f1_1, f1_4, c27, c27p, hat, hb1] | simp (disch := omega) only [wC, if_pos, if_neg])
                  refine runL_call' (b := true) (by first | rfl | (simp [hw0, htk6, hpl6, hcw, g1_3, g1_3p, c20, c20p, h3, h4, h5, f1_0, f1_1, f1_4, c27, c27p, hat, hb1, wantedA]; done)) rfl rfl (by first | rfl | (simp [hw0, htk6, hpl6, hcw, g1_3, g1_3p, c20, c20p, h3, h4, h5, f1_0, f1_1, f1_4, c27, c27p, hat, hb1, callOf]; done)) (by simp) (llay_ok (x := l[q.i]) (l := encsP (l.take q.i)) (by simp) hT (by omega) (by omega)) ?_
                  rintro _ _ ⟨⟨kw1, kp1, tk1⟩, hT1, rfl, rfl⟩
                  repeat (first | simp [hw0, htk6, hpl6, hcw, g1_3, g1_3p, c20, c20p, h3, h4, h5, f1_0, f1_1, f1_4, c27, c27p, hat, hb1] | simp (disch := omega) only [wC, if_pos, if_neg])
                  refine hJ21 _ _ ?_
                  refine hK20 _ _ ?_
                  refine run_region_k rfl fun J22 hJ22 => ?_
                  repeat (first | simp [hw0, htk6, hpl6, hcw, g1_3, g1_3p, c20, c20p, h3, h4, h5, f1_0, f1_1, f1_4, c27, c27p, hat, hb1] | simp (disch := omega) only [wC, if_pos, if_neg])
                  refine hJ22 _ _ ?_
                  refine ⟨(⟨q.i + 1, kw1, kp1, tk1⟩), ⟨?_, ?_, ?_, ?_, ?_, ?_, ?_⟩, ?_⟩
                  · (intro r hr; simp only [List.mem_cons, List.not_mem_nil, or_false] at hr; rcases hr with rfl | rfl | rfl <;> first | rfl | (simp [hw0, htk6, hpl6, hcw, g1_3, g1_3p, c20, c20p, h3, h4, h5, f1_0, f1_1, f1_4, c27, c27p, hat, hb1]; done))
                  · first | rfl | omega | assumption | ((repeat (first | simp [hw0, htk6, hpl6, hcw, g1_3, g1_3p, c20, c20p, h3, h4, h5, f1_0, f1_1, f1_4, c27, c27p, hat, hb1] | simp (disch := omega) only [wC, if_pos, if_neg])); first | done | omega) | (simp only [putA_get]; (repeat (first | simp (disch := omega) only [wC, if_pos, if_neg] | simp [hw0, htk6, hpl6, hcw, g1_3, g1_3p, c20, c20p, h3, h4, h5, f1_0, f1_1, f1_4, c27, c27p, hat, hb1])); done)
                  · simp only [hnx]
                    exact hT1
                  · first | rfl | omega | assumption | ((repeat (first | simp [hw0, htk6, hpl6, hcw, g1_3, g1_3p, c20, c20p, h3, h4, h5, f1_0, f1_1, f1_4, c27, c27p, hat, hb1] | simp (disch := omega) only [wC, if_pos, if_neg])); first | done | omega) | (simp only [putA_get]; (repeat (first | simp (disch := omega) only [wC, if_pos, if_neg] | simp [hw0, htk6, hpl6, hcw, g1_3, g1_3p, c20, c20p, h3, h4, h5, f1_0, f1_1, f1_4, c27, c27p, hat, hb1])); done)
                  · simp [hnx]
                  · first | rfl | omega | assumption | ((repeat (first | simp [hw0, htk6, hpl6, hcw, g1_3, g1_3p, c20, c20p, h3, h4, h5, f1_0, f1_1, f1_4, c27, c27p, hat, hb1] | simp (disch := omega) only [wC, if_pos, if_neg])); first | done | omega) | (simp only [putA_get]; (repeat (first | simp (disch := omega) only [wC, if_pos, if_neg] | simp [hw0, htk6, hpl6, hcw, g1_3, g1_3p, c20, c20p, h3, h4, h5, f1_0, f1_1, f1_4, c27, c27p, hat, hb1])); done)
                  · simp [hnx]
                  · first | rfl | omega | assumption | ((repeat (first | simp [hw0, htk6, hpl6, hcw, g1_3, g1_3p, c20, c20p, h3, h4, h5, f1_0, f1_1, f1_4, c27, c27p, hat, hb1] | simp (disch := omega) only [wC, if_pos, if_neg])); first | done | omega) | (simp only [putA_get]; (repeat (first | simp (disch := omega) only [wC, if_pos, if_neg] | simp [hw0, htk6, hpl6, hcw, g1_3, g1_3p, c20, c20p, h3, h4, h5, f1_0, f1_1, f1_4, c27, c27p, hat, hb1])); done)
              · try (exfalso; have gq := c27; simp [hw0, htk6, hpl6, hcw, g1_3, g1_3p, c20, c20p, h3, h4, h5, f1_0, f1_1, f1_4] at gq; first | done | omega)
                all_goals
                 have c27p := c27
                 try simp [hw0, htk6, hpl6, hcw, g1_3, g1_3p, c20, c20p, h3, h4, h5, f1_0, f1_1, f1_4] at c27p
                 all_goals (first | (have gq := c27p; skip) | have c27p : True := True.intro)
                 all_goals
                  refine run_exit ?_
                  refine hK14 _ _ ?_
                  refine run_seq_k fun K23 hK23 => ?_
                  have hfull : l.take q.i = l := List.take_of_length_le (by simp at c27; omega)
                  rw [hfull] at hT h4 ⊢
                  have hel := encsP_len l
                  obtain ⟨m, hm⟩ := hT.w.pre
                  rw [hm]
                  have hpos : 0 < (encsP l).length := by cases l with | nil => simp at hl0 | cons x l => have := encP_pos x; simp [encsP]; omega
                  obtain ⟨E, hE⟩ : ∃ E, E = encsP l := ⟨_, rfl⟩
                  rw [← hE] at hT h4 hel hpos ⊢
                  obtain ⟨kk, hkk⟩ : ∃ kk, kk = n % E.length := ⟨_, rfl⟩
                  have hkl : kk < E.length := by rw [hkk]; exact Nat.mod_lt _ hpos
                  have hrem : (n : Int).tmod (E.length : Int) = (kk : Int) := by rw [Int.tmod_eq_emod_of_nonneg (by omega), hkk]; simp
                  have hne : ¬ (E.length : Int) = 0 := by omega
                  have hrem2 : (n : Int) % (E.length : Int) = (kk : Int) := by rw [hkk]; simp
                  have hne2 : ¬ E.length = 0 := by omega
                  have hne3 : ¬ E = [] := by intro e; rw [e] at hpos; simp at hpos
                  have hkl2 : kk ≤ E.length := by omega
                  have hlk : (E.take kk).length = kk := by simp; omega
                  refine run_wk_reg 6 (.sl 1 (bytesA E) E.length .shut) (by simp [hw0, htk6, hpl6, hcw, g1_3, g1_3p, c20, c20p, h3, h4, h5, f1_0, f1_1, f1_4, c27, c27p, h4]; exact wk_wrA _ _) ?_
                  refine run_region_k rfl fun J24 hJ24 => ?_
                  repeat (first | simp [hw0, htk6, hpl6, hcw, g1_3, g1_3p, c20, c20p, h3, h4, h5, f1_0, f1_1, f1_4, c27, c27p, hrem, hrem2, hne, hne2, hne3, hkl2] | simp (disch := omega) only [wC, if_pos, if_neg])
                  refine hJ24 _ _ ?_
                  refine hK23 _ _ ?_
                  refine run_seq_k fun K25 hK25 => ?_
                  refine run_region_k rfl fun J26 hJ26 => ?_
                  repeat (first | simp [hw0, htk6, hpl6, hcw, g1_3, g1_3p, c20, c20p, h3, h4, h5, f1_0, f1_1, f1_4, c27, c27p, hrem, hrem2, hne, hne2, hne3, hkl2] | simp (disch := omega) only [wC, if_pos, if_neg])
                  refine runL_call' (b := true) (by first | rfl | (simp [hw0, htk6, hpl6, hcw, g1_3, g1_3p, c20, c20p, h3, h4, h5, f1_0, f1_1, f1_4, c27, c27p, hrem, hrem2, hne, hne2, hne3, hkl2, wantedA]; done)) rfl rfl (by first | rfl | (simp [hw0, htk6, hpl6, hcw, g1_3, g1_3p, c20, c20p, h3, h4, h5, f1_0, f1_1, f1_4, c27, c27p, hrem, hrem2, hne, hne2, hne3, hkl2, callOf]; done)) (by simp) (wdone_any (l := E) (k := q.kw) (by simp) (by omega)) ?_
                  rintro _ _ ⟨rfl, rfl⟩
                  repeat (first | simp [hw0, htk6, hpl6, hcw, g1_3, g1_3p, c20, c20p, h3, h4, h5, f1_0, f1_1, f1_4, c27, c27p, hrem, hrem2, hne, hne2, hne3, hkl2] | simp (disch := omega) only [wC, if_pos, if_neg])
                  refine hJ26 _ _ ?_
                  refine hK25 _ _ ?_
                  refine run_seq_k fun K27 hK27 => ?_
                  refine run_seq_k fun K28 hK28 => ?_
                  refine run_region_k rfl fun J29 hJ29 => ?_
                  repeat (first | simp [hw0, htk6, hpl6, hcw, g1_3, g1_3p, c20, c20p, h3, h4, h5, f1_0, f1_1, f1_4, c27, c27p, hrem, hrem2, hne, hne2, hne3, hkl2] | simp (disch := omega) only [wC, if_pos, if_neg])
                  refine runL_call' (b := true) (by first | rfl | (simp [hw0, htk6, hpl6, hcw, g1_3, g1_3p, c20, c20p, h3, h4, h5, f1_0, f1_1, f1_4, c27, c27p, hrem, hrem2, hne, hne2, hne3, hkl2, wantedA]; done)) rfl rfl (by first | rfl | (simp [hw0, htk6, hpl6, hcw, g1_3, g1_3p, c20, c20p, h3, h4, h5, f1_0, f1_1, f1_4, c27, c27p, hrem, hrem2, hne, hne2, hne3, hkl2, callOf]; done)) (by simp) (same_ok (by omega)) ?_
                  rintro _ _ ⟨rfl, rfl⟩
                  repeat (first | simp [hw0, htk6, hpl6, hcw, g1_3, g1_3p, c20, c20p, h3, h4, h5, f1_0, f1_1, f1_4, c27, c27p, hrem, hrem2, hne, hne2, hne3, hkl2] | simp (disch := omega) only [wC, if_pos, if_neg])
                  refine hJ29 _ _ ?_
                  refine hK28 _ _ ?_
                  refine run_cond_split (by first | rfl | (simp [hw0, htk6, hpl6, hcw, g1_3, g1_3p, c20, c20p, h3, h4, h5, f1_0, f1_1, f1_4, c27, c27p, hrem, hrem2, hne, hne2, hne3, hkl2, evalA]; done)) (fun c50 => ?_) (fun c50 => ?_)
                  · try (exfalso; have gq := c50; simp [hw0, htk6, hpl6, hcw, g1_3, g1_3p, c20, c20p, h3, h4, h5, f1_0, f1_1, f1_4, c27, c27p, hrem, hrem2, hne, hne2, hne3, hkl2] at gq; first | done | omega)
                    all_goals
                     have c50p := c50
                     try simp [hw0, htk6, hpl6, hcw, g1_3, g1_3p, c20, c20p, h3, h4, h5, f1_0, f1_1, f1_4, c27, c27p, hrem, hrem2, hne, hne2, hne3, hkl2] at c50p
                     all_goals (first | (have gq := c50p; skip) | have c50p : True := True.intro)
                     all_goals
                      refine run_seq_k fun K30 hK30 => ?_
                      refine run_region_k rfl fun J31 hJ31 => ?_
                      repeat (first | simp [hw0, htk6, hpl6, hcw, g1_3, g1_3p, c20, c20p, h3, h4, h5, f1_0, f1_1, f1_4, c27, c27p, hrem, hrem2, hne, hne2, hne3, hkl2, c50, c50p] | simp (disch := omega) only [wC, if_pos, if_neg])
                      refine hJ31 _ _ ?_
                      refine hK30 _ _ ?_
                      refine run_ret ?_
                      try simp only [Then, InBlock, NoGoto]
                      refine answer_tmp rfl (.inr rfl) ?_
                      exact ⟨by first | exact Wk.refl _ | (simp [hw0, htk6, hpl6, hcw, g1_3, g1_3p, c20, c20p, h3, h4, h5, f1_0, f1_1, f1_4, c27, c27p, hrem, hrem2, hne, hne2, hne3, hkl2, c50, c50p]; exact Wk.refl _) | (simp [*]; exact Wk.refl _) | exact Wk.shut _ _ _ _ | exact Wk.nil _ _ _, _, _, _, st_app (by first | rfl | exact (List.append_nil _).symm | (simp [hw0, htk6, hpl6, hcw, g1_3, g1_3p, c20, c20p, h3, h4, h5, f1_0, f1_1, f1_4, c27, c27p, hrem, hrem2, hne, hne2, hne3, hkl2, c50, c50p]; rfl) | (simp [hw0, htk6, hpl6, hcw, g1_3, g1_3p, c20, c20p, h3, h4, h5, f1_0, f1_1, f1_4, c27, c27p, hrem, hrem2, hne, hne2, hne3, hkl2, c50, c50p]; done)) (by first | rfl | exact (List.append_nil _).symm | (simp; rfl)) (by first | rfl | exact (List.append_nil _).symm | (simp; rfl)) rfl⟩
                  · try (exfalso; have gq := c50; simp [hw0, htk6, hpl6, hcw, g1_3, g1_3p, c20, c20p, h3, h4, h5, f1_0, f1_1, f1_4, c27, c27p, hrem, hrem2, hne, hne2, hne3, hkl2] at gq; first | done | omega)
                    all_goals
                     have c50p := c50
                     try simp [hw0, htk6, hpl6, hcw, g1_3, g1_3p, c20, c20p, h3, h4, h5, f1_0, f1_1, f1_4, c27, c27p, hrem, hrem2, hne, hne2, hne3, hkl2] at c50p
                     all_goals (first | (have gq := c50p; skip) | have c50p : True := True.intro)
                     all_goals
                      refine run_skip ?_
                      refine hK27 _ _ ?_
                      refine run_seq_k fun K32 hK32 => ?_
                      have hi0 : [AV.sl 1 (bytesA (E.take kk)) kk Tail.shut, .v (.int .i64 0), .v (.bool false)] = inC (E.take kk) .shut 0 false := by simp [inC, hlk]
                      refine run_draw (by kernel_rfl) fun J33 hJ33 => ?_
                      refine rp 0 rfl rfl (by kernel_rfl) ?_
                      repeat (first | simp [hw0, htk6, hpl6, hcw, g1_3, g1_3p, c20, c20p, h3, h4, h5, f1_0, f1_1, f1_4, c27, c27p, hrem, hrem2, hne, hne2, hne3, hkl2, c50, c50p, bytesA_take, hkl2, hi0] | simp (disch := omega) only [wC, if_pos, if_neg])
                      refine rp 1 rfl rfl (by kernel_rfl) ?_
                      repeat (first | simp [hw0, htk6, hpl6, hcw, g1_3, g1_3p, c20, c20p, h3, h4, h5, f1_0, f1_1, f1_4, c27, c27p, hrem, hrem2, hne, hne2, hne3, hkl2, c50, c50p, bytesA_take, hkl2, hi0] | simp (disch := omega) only [wC, if_pos, if_neg])
                      refine rp 2 rfl rfl (by kernel_rfl) ?_
                      repeat (first | simp [hw0, htk6, hpl6, hcw, g1_3, g1_3p, c20, c20p, h3, h4, h5, f1_0, f1_1, f1_4, c27, c27p, hrem, hrem2, hne, hne2, hne3, hkl2, c50, c50p, bytesA_take, hkl2, hi0] | simp (disch := omega) only [wC, if_pos, if_neg])
                      refine rp 4 rfl rfl (by kernel_rfl) ?_
                      repeat (first | simp [hw0, htk6, hpl6, hcw, g1_3, g1_3p, c20, c20p, h3, h4, h5, f1_0, f1_1, f1_4, c27, c27p, hrem, hrem2, hne, hne2, hne3, hkl2, c50, c50p, bytesA_take, hkl2, hi0] | simp (disch := omega) only [wC, if_pos, if_neg])
                      refine rp 5 rfl rfl (by kernel_rfl) ?_
                      repeat (first | simp [hw0, htk6, hpl6, hcw, g1_3, g1_3p, c20, c20p, h3, h4, h5, f1_0, f1_1, f1_4, c27, c27p, hrem, hrem2, hne, hne2, hne3, hkl2, c50, c50p, bytesA_take, hkl2, hi0] | simp (disch := omega) only [wC, if_pos, if_neg])
                      refine rp 6 rfl rfl (by kernel_rfl) ?_
                      repeat (first | simp [hw0, htk6, hpl6, hcw, g1_3, g1_3p, c20, c20p, h3, h4, h5, f1_0, f1_1, f1_4, c27, c27p, hrem, hrem2, hne, hne2, hne3, hkl2, c50, c50p, bytesA_take, hkl2, hi0] | simp (disch := omega) only [wC, if_pos, if_neg])
                      refine rp 7 rfl rfl (by kernel_rfl) ?_
                      repeat (first | simp [hw0, htk6, hpl6, hcw, g1_3, g1_3p, c20, c20p, h3, h4, h5, f1_0, f1_1, f1_4, c27, c27p, hrem, hrem2, hne, hne2, hne3, hkl2, c50, c50p, bytesA_take, hkl2, hi0] | simp (disch := omega) only [wC, if_pos, if_neg])
                      refine runD_two 3 8 (by kernel_rfl) (by kernel_rfl) (by kernel_rfl) ?_ ?_
                      -- 3
                      · refine altD_call 3 (by kernel_rfl) rfl (by kernel_rfl) (by kernel_rfl) (by first | rfl | (simp [hw0, htk6, hpl6, hcw, g1_3, g1_3p, c20, c20p, h3, h4, h5, f1_0, f1_1, f1_4, c27, c27p, hrem, hrem2, hne, hne2, hne3, hkl2, c50, c50p, bytesA_take, hkl2, hi0]; done)) (by first | rfl | (simp [hw0, htk6, hpl6, hcw, g1_3, g1_3p, c20, c20p, h3, h4, h5, f1_0, f1_1, f1_4, c27, c27p, hrem, hrem2, hne, hne2, hne3, hkl2, c50, c50p, bytesA_take, hkl2, hi0]; done)) (by simp) (new_at (p := E.take kk) (n := kk) (tl := .shut) hlk (by omega)) ?_
                        rintro _ _ ⟨ rfl, rfl⟩
                        refine ⟨by first | exact fun _ _ h => h | (refine later_list [7, 6, 5, 4, 1, 0] (by kernel_rfl) (List.forall_mem_cons.2 ⟨fun _ => fact2 rfl rfl ?_, List.forall_mem_cons.2 ⟨fun _ => fact2 rfl rfl ?_, List.forall_mem_cons.2 ⟨fun _ => fact2 rfl rfl ?_, List.forall_mem_cons.2 ⟨fun _ => fact2 rfl rfl ?_, List.forall_mem_cons.2 ⟨fun _ => fact2 rfl rfl ?_, List.forall_mem_cons.2 ⟨fun _ => fact2 rfl rfl ?_, fun _ h => absurd h List.not_mem_nil⟩⟩⟩⟩⟩⟩) <;> constructor <;> first | rfl | (simp [hw0, htk6, hpl6, hcw, g1_3, g1_3p, c20, c20p, h3, h4, h5, f1_0, f1_1, f1_4, c27, c27p, hrem, hrem2, hne, hne2, hne3, hkl2, c50, c50p, bytesA_take, hkl2, hi0]; done)), ?_⟩
                        repeat (first | simp [hw0, htk6, hpl6, hcw, g1_3, g1_3p, c20, c20p, h3, h4, h5, f1_0, f1_1, f1_4, c27, c27p, hrem, hrem2, hne, hne2, hne3, hkl2, c50, c50p, bytesA_take, hkl2, hi0] | simp (disch := omega) only [wC, if_pos, if_neg])
                        refine rp 9 rfl rfl (by kernel_rfl) ?_
                        repeat (first | simp [hw0, htk6, hpl6, hcw, g1_3, g1_3p, c20, c20p, h3, h4, h5, f1_0, f1_1, f1_4, c27, c27p, hrem, hrem2, hne, hne2, hne3, hkl2, c50, c50p, bytesA_take, hkl2, hi0] | simp (disch := omega) only [wC, if_pos, if_neg])
                        refine runD_op' 8 (by kernel_rfl) (by kernel_rfl) (by kernel_rfl) rfl (by kernel_rfl) (by kernel_rfl) (by kernel_rfl) ?_
                        repeat (first | simp [hw0, htk6, hpl6, hcw, g1_3, g1_3p, c20, c20p, h3, h4, h5, f1_0, f1_1, f1_4, c27, c27p, hrem, hrem2, hne, hne2, hne3, hkl2, c50, c50p, bytesA_take, hkl2, hi0] | simp (disch := omega) only [wC, if_pos, if_neg])
                        refine ⟨by first | exact later_more _ (by kernel_rfl) | exact later_more2 (by kernel_rfl) rfl, ?_⟩
                        refine rp 10 rfl rfl (by kernel_rfl) ?_
                        repeat (first | simp [hw0, htk6, hpl6, hcw, g1_3, g1_3p, c20, c20p, h3, h4, h5, f1_0, f1_1, f1_4, c27, c27p, hrem, hrem2, hne, hne2, hne3, hkl2, c50, c50p, bytesA_take, hkl2, hi0] | simp (disch := omega) only [wC, if_pos, if_neg])
                        refine runD_done (by kernel_rfl) (by kernel_rfl) (by kernel_rfl) ?_
                        refine hJ33 _ _ ?_
                        refine hK32 _ _ ?_
                        refine run_seq_k fun K34 hK34 => ?_
                        refine run_seq_k fun K35 hK35 => ?_
                        refine run_region_k rfl fun J36 hJ36 => ?_
                        repeat (first | simp [hw0, htk6, hpl6, hcw, g1_3, g1_3p, c20, c20p, h3, h4, h5, f1_0, f1_1, f1_4, c27, c27p, hrem, hrem2, hne, hne2, hne3, hkl2, c50, c50p, bytesA_take, hkl2, hi0] | simp (disch := omega) only [wC, if_pos, if_neg])
                        refine hJ36 _ _ ?_
                        refine hK35 _ _ ?_
                        refine run_block_k ?_
                        refine run_loopF (X := R2) [0, 10, 11] (fun r ρ σ1 => (r.j ≤ l.length) ∧ (At (E.take kk) r.k (readsS (l.take r.j) (some (E.take kk)))) ∧ (ρ 12 = .v (.int .i64 r.j)) ∧ (σ1 = { σ with objs := σ.objs ++ [[wrA q.kw E], rd (readsS (l.take r.j) (some (E.take kk))), inC (E.take kk) .shut r.k (readsS (l.take r.j) (some (E.take kk))).isNone], toks := σ.toks ++ m })) (fun r => l.length - r.j) (⟨0, 0⟩) ?st2 ?rd2
                        case st2 =>
                          refine ⟨?_, ?_, ?_, ?_⟩
                          · first | rfl | omega | assumption | ((repeat (first | simp [hw0, htk6, hpl6, hcw, g1_3, g1_3p, c20, c20p, h3, h4, h5, f1_0, f1_1, f1_4, c27, c27p, hrem, hrem2, hne, hne2, hne3, hkl2, c50, c50p, bytesA_take, hkl2, hi0] | simp (disch := omega) only [wC, if_pos, if_neg])); first | done | omega) | (simp only [putA_get]; (repeat (first | simp (disch := omega) only [wC, if_pos, if_neg] | simp [hw0, htk6, hpl6, hcw, g1_3, g1_3p, c20, c20p, h3, h4, h5, f1_0, f1_1, f1_4, c27, c27p, hrem, hrem2, hne, hne2, hne3, hkl2, c50, c50p, bytesA_take, hkl2, hi0])); done)
                          · exact ⟨by simp, .inr (by simp [readsS])⟩
                          · first | rfl | omega | assumption | ((repeat (first | simp [hw0, htk6, hpl6, hcw, g1_3, g1_3p, c20, c20p, h3, h4, h5, f1_0, f1_1, f1_4, c27, c27p, hrem, hrem2, hne, hne2, hne3, hkl2, c50, c50p, bytesA_take, hkl2, hi0] | simp (disch := omega) only [wC, if_pos, if_neg])); first | done | omega) | (simp only [putA_get]; (repeat (first | simp (disch := omega) only [wC, if_pos, if_neg] | simp [hw0, htk6, hpl6, hcw, g1_3, g1_3p, c20, c20p, h3, h4, h5, f1_0, f1_1, f1_4, c27, c27p, hrem, hrem2, hne, hne2, hne3, hkl2, c50, c50p, bytesA_take, hkl2, hi0])); done)
                          · simp [readsS]
                        case rd2 =>
                          rintro r ρ2 σ1 hF2 ⟨hr, hA, h9, hσ2⟩
                          obtain rfl := hσ2.symm
                          have f2_0 := hF2 0 (by decide)
                          try simp [hw0, htk6, hpl6, hcw, g1_3, g1_3p, c20, c20p, h3, h4, h5, f1_0, f1_1, f1_4, c27, c27p, hrem, hrem2, hne, hne2, hne3, hkl2, c50, c50p, bytesA_take, hkl2, hi0] at f2_0
                          have f2_10 := hF2 10 (by decide)
                          try simp [hw0, htk6, hpl6, hcw, g1_3, g1_3p, c20, c20p, h3, h4, h5, f1_0, f1_1, f1_4, c27, c27p, hrem, hrem2, hne, hne2, hne3, hkl2, c50, c50p, bytesA_take, hkl2, hi0] at f2_10
                          have f2_11 := hF2 11 (by decide)
                          try simp [hw0, htk6, hpl6, hcw, g1_3, g1_3p, c20, c20p, h3, h4, h5, f1_0, f1_1, f1_4, c27, c27p, hrem, hrem2, hne, hne2, hne3, hkl2, c50, c50p, bytesA_take, hkl2, hi0] at f2_11
                          refine run_seq_k fun K37 hK37 => ?_
                          refine run_seq_k fun K38 hK38 => ?_
                          refine run_region_k rfl fun J39 hJ39 => ?_
                          repeat (first | simp [hw0, htk6, hpl6, hcw, g1_3, g1_3p, c20, c20p, h3, h4, h5, f1_0, f1_1, f1_4, c27, c27p, hrem, hrem2, hne, hne2, hne3, hkl2, c50, c50p, bytesA_take, hkl2, hi0, h9, f2_0, f2_10, f2_11] | simp (disch := omega) only [wC, if_pos, if_neg])
                          refine hJ39 _ _ ?_
                          refine hK38 _ _ ?_
                          refine run_cond_split (by first | rfl | (simp [hw0, htk6, hpl6, hcw, g1_3, g1_3p, c20, c20p, h3, h4, h5, f1_0, f1_1, f1_4, c27, c27p, hrem, hrem2, hne, hne2, hne3, hkl2, c50, c50p, bytesA_take, hkl2, hi0, h9, f2_0, f2_10, f2_11, evalA]; done)) (fun c63 => ?_) (fun c63 => ?_)
                          · try (exfalso; have gq := c63; simp [hw0, htk6, hpl6, hcw, g1_3, g1_3p, c20, c20p, h3, h4, h5, f1_0, f1_1, f1_4, c27, c27p, hrem, hrem2, hne, hne2, hne3, hkl2, c50, c50p, bytesA_take, hkl2, hi0, h9, f2_0, f2_10, f2_11] at gq; first | done | omega)
                            all_goals
                             have c63p := c63
                             try simp [hw0, htk6, hpl6, hcw, g1_3, g1_3p, c20, c20p, h3, h4, h5, f1_0, f1_1, f1_4, c27, c27p, hrem, hrem2, hne, hne2, hne3, hkl2, c50, c50p, bytesA_take, hkl2, hi0, h9, f2_0, f2_10, f2_11] at c63p
                             all_goals (first | (have gq := c63p; skip) | have c63p : True := True.intro)
                             all_goals
                              refine run_skip ?_
                              refine hK37 _ _ ?_
                              refine run_seq_k fun K40 hK40 => ?_
                              refine run_block_k ?_
                              refine run_seq_k fun K41 hK41 => ?_
                              have hlt2 : r.j < l.length := by simpa using c63
                              have hat2 := partsC_at hlt2
                              have hb2 : r.j * 6 + 6 ≤ l.length * 6 := by omega
                              have hrd : readsS (l.take (r.j + 1)) (some (E.take kk)) = readS l[r.j].k.toNat (readsS (l.take r.j) (some (E.take kk))) := by rw [take_snoc hlt2, readsS_snoc]
                              refine run_region_k rfl fun J42 hJ42 => ?_
                              repeat (first | simp [hw0, htk6, hpl6, hcw, g1_3, g1_3p, c20, c20p, h3, h4, h5, f1_0, f1_1, f1_4, c27, c27p, hrem, hrem2, hne, hne2, hne3, hkl2, c50, c50p, bytesA_take, hkl2, hi0, h9, f2_0, f2_10, f2_11, c63, c63p, hat2, hb2, partC] | simp (disch := omega) only [wC, if_pos, if_neg])
                              refine runL_call' (b := true) (by first | rfl | (simp [hw0, htk6, hpl6, hcw, g1_3, g1_3p, c20, c20p, h3, h4, h5, f1_0, f1_1, f1_4, c27, c27p, hrem, hrem2, hne, hne2, hne3, hkl2, c50, c50p, bytesA_take, hkl2, hi0, h9, f2_0, f2_10, f2_11, c63, c63p, hat2, hb2, partC, wantedA]; done)) rfl rfl (by first | rfl | (simp [hw0, htk6, hpl6, hcw, g1_3, g1_3p, c20, c20p, h3, h4, h5, f1_0, f1_1, f1_4, c27, c27p, hrem, hrem2, hne, hne2, hne3, hkl2, c50, c50p, bytesA_take, hkl2, hi0, h9, f2_0, f2_10, f2_11, c63, c63p, hat2, hb2, partC, callOf]; done)) (by simp) (reads_ok (s := readsS (l.take r.j) (some (E.take kk))) (k := r.k) (kd := l[r.j].k) (by simp) (by simp) (by omega) (by omega) hA) ?_
                              rintro _ _ ⟨rfl, k1, hk1, rfl⟩
                              repeat (first | simp [hw0, htk6, hpl6, hcw, g1_3, g1_3p, c20, c20p, h3, h4, h5, f1_0, f1_1, f1_4, c27, c27p, hrem, hrem2, hne, hne2, hne3, hkl2, c50, c50p, bytesA_take, hkl2, hi0, h9, f2_0, f2_10, f2_11, c63, c63p, hat2, hb2, partC] | simp (disch := omega) only [wC, if_pos, if_neg])
                              refine hJ42 _ _ ?_
                              refine hK41 _ _ ?_
                              refine run_cond_split (by first | rfl | (simp [hw0, htk6, hpl6, hcw, g1_3, g1_3p, c20, c20p, h3, h4, h5, f1_0, f1_1, f1_4, c27, c27p, hrem, hrem2, hne, hne2, hne3, hkl2, c50, c50p, bytesA_take, hkl2, hi0, h9, f2_0, f2_10, f2_11, c63, c63p, hat2, hb2, partC, evalA]; done)) (fun c74 => ?_) (fun c74 => ?_)
                              · try (exfalso; have gq := c74; simp [hw0, htk6, hpl6, hcw, g1_3, g1_3p, c20, c20p, h3, h4, h5, f1_0, f1_1, f1_4, c27, c27p, hrem, hrem2, hne, hne2, hne3, hkl2, c50, c50p, bytesA_take, hkl2, hi0, h9, f2_0, f2_10, f2_11, c63, c63p, hat2, hb2, partC] at gq; first | done | omega)
                                all_goals
                                 have c74p := c74
                                 try simp [hw0, htk6, hpl6, hcw, g1_3, g1_3p, c20, c20p, h3, h4, h5, f1_0, f1_1, f1_4, c27, c27p, hrem, hrem2, hne, hne2, hne3, hkl2, c50, c50p, bytesA_take, hkl2, hi0, h9, f2_0, f2_10, f2_11, c63, c63p, hat2, hb2, partC] at c74p
                                 all_goals (first | (have gq := c74p; skip) | have c74p : True := True.intro)
                                 all_goals
                                  refine run_seq_k fun K43 hK43 => ?_
                                  refine run_region_k rfl fun J44 hJ44 => ?_
                                  repeat (first | simp [hw0, htk6, hpl6, hcw, g1_3, g1_3p, c20, c20p, h3, h4, h5, f1_0, f1_1, f1_4, c27, c27p, hrem, hrem2, hne, hne2, hne3, hkl2, c50, c50p, bytesA_take, hkl2, hi0, h9, f2_0, f2_10, f2_11, c63, c63p, hat2, hb2, partC, c74, c74p] | simp (disch := omega) only [wC, if_pos, if_neg])
                                  refine hJ44 _ _ ?_
                                  refine hK43 _ _ ?_
                                  refine run_ret ?_
                                  try simp only [Then, InBlock, NoGoto]
                                  refine answer_tmp rfl (.inr rfl) ?_
                                  exact ⟨by first | exact Wk.refl _ | (simp [hw0, htk6, hpl6, hcw, g1_3, g1_3p, c20, c20p, h3, h4, h5, f1_0, f1_1, f1_4, c27, c27p, hrem, hrem2, hne, hne2, hne3, hkl2, c50, c50p, bytesA_take, hkl2, hi0, h9, f2_0, f2_10, f2_11, c63, c63p, hat2, hb2, partC, c74, c74p]; exact Wk.refl _) | (simp [*]; exact Wk.refl _) | exact Wk.shut _ _ _ _ | exact Wk.nil _ _ _, _, _, _, st_app (by first | rfl | exact (List.append_nil _).symm | (simp [hw0, htk6, hpl6, hcw, g1_3, g1_3p, c20, c20p, h3, h4, h5, f1_0, f1_1, f1_4, c27, c27p, hrem, hrem2, hne, hne2, hne3, hkl2, c50, c50p, bytesA_take, hkl2, hi0, h9, f2_0, f2_10, f2_11, c63, c63p, hat2, hb2, partC, c74, c74p]; rfl) | (simp [hw0, htk6, hpl6, hcw, g1_3, g1_3p, c20, c20p, h3, h4, h5, f1_0, f1_1, f1_4, c27, c27p, hrem, hrem2, hne, hne2, hne3, hkl2, c50, c50p, bytesA_take, hkl2, hi0, h9, f2_0, f2_10, f2_11, c63, c63p, hat2, hb2, partC, c74, c74p]; done)) (by first | rfl | exact (List.append_nil _).symm | (simp; rfl)) (by first | rfl | exact (List.append_nil _).symm | (simp; rfl)) rfl⟩
                              · try (exfalso; have gq := c74; simp [hw0, htk6, hpl6, hcw, g1_3, g1_3p, c20, c20p, h3, h4, h5, f1_0, f1_1, f1_4, c27, c27p, hrem, hrem2, hne, hne2, hne3, hkl2, c50, c50p, bytesA_take, hkl2, hi0, h9, f2_0, f2_10, f2_11, c63, c63p, hat2, hb2, partC] at gq; first | done | omega)
                                all_goals
                                 have c74p := c74
                                 try simp [hw0, htk6, hpl6, hcw, g1_3, g1_3p, c20, c20p, h3, h4, h5, f1_0, f1_1, f1_4, c27, c27p, hrem, hrem2, hne, hne2, hne3, hkl2, c50, c50p, bytesA_take, hkl2, hi0, h9, f2_0, f2_10, f2_11, c63, c63p, hat2, hb2, partC] at c74p
                                 all_goals (first | (have gq := c74p; skip) | have c74p : True := True.intro)
                                 all_goals
                                  refine run_skip ?_
                                  refine hK40 _ _ ?_
                                  refine run_region_k rfl fun J45 hJ45 => ?_
                                  repeat (first | simp [hw0, htk6, hpl6, hcw, g1_3, g1_3p, c20, c20p, h3, h4, h5, f1_0, f1_1, f1_4, c27, c27p, hrem, hrem2, hne, hne2, hne3, hkl2, c50, c50p, bytesA_take, hkl2, hi0, h9, f2_0, f2_10, f2_11, c63, c63p, hat2, hb2, partC, c74, c74p] | simp (disch := omega) only [wC, if_pos, if_neg])
                                  refine hJ45 _ _ ?_
                                  refine ⟨(⟨r.j + 1, k1⟩), ⟨?_, ?_, ?_, ?_, ?_⟩, ?_⟩
                                  · (intro r hr; simp only [List.mem_cons, List.not_mem_nil, or_false] at hr; rcases hr with rfl | rfl | rfl <;> first | rfl | (simp [hw0, htk6, hpl6, hcw, g1_3, g1_3p, c20, c20p, h3, h4, h5, f1_0, f1_1, f1_4, c27, c27p, hrem, hrem2, hne, hne2, hne3, hkl2, c50, c50p, bytesA_take, hkl2, hi0, h9, f2_0, f2_10, f2_11, c63, c63p, hat2, hb2, partC, c74, c74p]; done))
                                  · first | rfl | omega | assumption | ((repeat (first | simp [hw0, htk6, hpl6, hcw, g1_3, g1_3p, c20, c20p, h3, h4, h5, f1_0, f1_1, f1_4, c27, c27p, hrem, hrem2, hne, hne2, hne3, hkl2, c50, c50p, bytesA_take, hkl2, hi0, h9, f2_0, f2_10, f2_11, c63, c63p, hat2, hb2, partC, c74, c74p] | simp (disch := omega) only [wC, if_pos, if_neg])); first | done | omega) | (simp only [putA_get]; (repeat (first | simp (disch := omega) only [wC, if_pos, if_neg] | simp [hw0, htk6, hpl6, hcw, g1_3, g1_3p, c20, c20p, h3, h4, h5, f1_0, f1_1, f1_4, c27, c27p, hrem, hrem2, hne, hne2, hne3, hkl2, c50, c50p, bytesA_take, hkl2, hi0, h9, f2_0, f2_10, f2_11, c63, c63p, hat2, hb2, partC, c74, c74p])); done)
                                  · rw [← hrd] at hk1
                                    exact hk1
                                  · first | rfl | omega | assumption | ((repeat (first | simp [hw0, htk6, hpl6, hcw, g1_3, g1_3p, c20, c20p, h3, h4, h5, f1_0, f1_1, f1_4, c27, c27p, hrem, hrem2, hne, hne2, hne3, hkl2, c50, c50p, bytesA_take, hkl2, hi0, h9, f2_0, f2_10, f2_11, c63, c63p, hat2, hb2, partC, c74, c74p] | simp (disch := omega) only [wC, if_pos, if_neg])); first | done | omega) | (simp only [putA_get]; (repeat (first | simp (disch := omega) only [wC, if_pos, if_neg] | simp [hw0, htk6, hpl6, hcw, g1_3, g1_3p, c20, c20p, h3, h4, h5, f1_0, f1_1, f1_4, c27, c27p, hrem, hrem2, hne, hne2, hne3, hkl2, c50, c50p, bytesA_take, hkl2, hi0, h9, f2_0, f2_10, f2_11, c63, c63p, hat2, hb2, partC, c74, c74p])); done)
                                  · simp only [hrd]
                                  · first | rfl | omega | assumption | ((repeat (first | simp [hw0, htk6, hpl6, hcw, g1_3, g1_3p, c20, c20p, h3, h4, h5, f1_0, f1_1, f1_4, c27, c27p, hrem, hrem2, hne, hne2, hne3, hkl2, c50, c50p, bytesA_take, hkl2, hi0, h9, f2_0, f2_10, f2_11, c63, c63p, hat2, hb2, partC, c74, c74p] | simp (disch := omega) only [wC, if_pos, if_neg])); first | done | omega) | (simp only [putA_get]; (repeat (first | simp (disch := omega) only [wC, if_pos, if_neg] | simp [hw0, htk6, hpl6, hcw, g1_3, g1_3p, c20, c20p, h3, h4, h5, f1_0, f1_1, f1_4, c27, c27p, hrem, hrem2, hne, hne2, hne3, hkl2, c50, c50p, bytesA_take, hkl2, hi0, h9, f2_0, f2_10, f2_11, c63, c63p, hat2, hb2, partC, c74, c74p])); done)
                          · try (exfalso; have gq := c63; simp [hw0, htk6, hpl6, hcw, g1_3, g1_3p, c20, c20p, h3, h4, h5, f1_0, f1_1, f1_4, c27, c27p, hrem, hrem2, hne, hne2, hne3, hkl2, c50, c50p, bytesA_take, hkl2, hi0, h9, f2_0, f2_10, f2_11] at gq; first | done | omega)
                            all_goals
                             have c63p := c63
                             try simp [hw0, htk6, hpl6, hcw, g1_3, g1_3p, c20, c20p, h3, h4, h5, f1_0, f1_1, f1_4, c27, c27p, hrem, hrem2, hne, hne2, hne3, hkl2, c50, c50p, bytesA_take, hkl2, hi0, h9, f2_0, f2_10, f2_11] at c63p
                             all_goals (first | (have gq := c63p; skip) | have c63p : True := True.intro)
                             all_goals
                              refine run_exit ?_
                              refine hK34 _ _ ?_
                              refine run_seq_k fun K46 hK46 => ?_
                              have hfull2 : l.take r.j = l := List.take_of_length_le (by simp at c63; omega)
                              have hfin : readsS l (some (E.take kk)) = none := by rw [hE]; exact readsS_cut l kk (by rw [← hE]; exact hkl)
                              rw [hfull2, hfin]
                              refine run_region_k rfl fun J47 hJ47 => ?_
                              repeat (first | simp [hw0, htk6, hpl6, hcw, g1_3, g1_3p, c20, c20p, h3, h4, h5, f1_0, f1_1, f1_4, c27, c27p, hrem, hrem2, hne, hne2, hne3, hkl2, c50, c50p, bytesA_take, hkl2, hi0, h9, f2_0, f2_10, f2_11, c63, c63p] | simp (disch := omega) only [wC, if_pos, if_neg])
                              refine runL_call' (b := true) (by first | rfl | (simp [hw0, htk6, hpl6, hcw, g1_3, g1_3p, c20, c20p, h3, h4, h5, f1_0, f1_1, f1_4, c27, c27p, hrem, hrem2, hne, hne2, hne3, hkl2, c50, c50p, bytesA_take, hkl2, hi0, h9, f2_0, f2_10, f2_11, c63, c63p, wantedA]; done)) rfl rfl (by first | rfl | (simp [hw0, htk6, hpl6, hcw, g1_3, g1_3p, c20, c20p, h3, h4, h5, f1_0, f1_1, f1_4, c27, c27p, hrem, hrem2, hne, hne2, hne3, hkl2, c50, c50p, bytesA_take, hkl2, hi0, h9, f2_0, f2_10, f2_11, c63, c63p, callOf]; done)) (by simp) (lays_ok) ?_
                              rintro _ _ ⟨rfl, rfl⟩
                              repeat (first | simp [hw0, htk6, hpl6, hcw, g1_3, g1_3p, c20, c20p, h3, h4, h5, f1_0, f1_1, f1_4, c27, c27p, hrem, hrem2, hne, hne2, hne3, hkl2, c50, c50p, bytesA_take, hkl2, hi0, h9, f2_0, f2_10, f2_11, c63, c63p] | simp (disch := omega) only [wC, if_pos, if_neg])
                              refine runL_splitB 76 (by first | rfl | (simp [hw0, htk6, hpl6, hcw, g1_3, g1_3p, c20, c20p, h3, h4, h5, f1_0, f1_1, f1_4, c27, c27p, hrem, hrem2, hne, hne2, hne3, hkl2, c50, c50p, bytesA_take, hkl2, hi0, h9, f2_0, f2_10, f2_11, c63, c63p]; done)) (fun g19_1 => ?_) (fun g19_1 => ?_)
                              · try (exfalso; have gq := g19_1; simp [hw0, htk6, hpl6, hcw, g1_3, g1_3p, c20, c20p, h3, h4, h5, f1_0, f1_1, f1_4, c27, c27p, hrem, hrem2, hne, hne2, hne3, hkl2, c50, c50p, bytesA_take, hkl2, hi0, h9, f2_0, f2_10, f2_11, c63, c63p] at gq; first | done | omega)
                                all_goals
                                 have g19_1p := g19_1
                                 try simp [hw0, htk6, hpl6, hcw, g1_3, g1_3p, c20, c20p, h3, h4, h5, f1_0, f1_1, f1_4, c27, c27p, hrem, hrem2, hne, hne2, hne3, hkl2, c50, c50p, bytesA_take, hkl2, hi0, h9, f2_0, f2_10, f2_11, c63, c63p] at g19_1p
                                 all_goals (first | (have gq := g19_1p; skip) | have g19_1p : True := True.intro)
                                 all_goals
                                    refine runL_go (by first | rfl | (simp [hw0, htk6, hpl6, hcw, g1_3, g1_3p, c20, c20p, h3, h4, h5, f1_0, f1_1, f1_4, c27, c27p, hrem, hrem2, hne, hne2, hne3, hkl2, c50, c50p, bytesA_take, hkl2, hi0, h9, f2_0, f2_10, f2_11, c63, c63p, g19_1, g19_1p, wantedA]; done)) rfl ?_
                                    repeat (first | simp [hw0, htk6, hpl6, hcw, g1_3, g1_3p, c20, c20p, h3, h4, h5, f1_0, f1_1, f1_4, c27, c27p, hrem, hrem2, hne, hne2, hne3, hkl2, c50, c50p, bytesA_take, hkl2, hi0, h9, f2_0, f2_10, f2_11, c63, c63p, g19_1, g19_1p] | simp (disch := omega) only [wC, if_pos, if_neg])
                                    refine runL_call' (b := true) (by first | rfl | (simp [hw0, htk6, hpl6, hcw, g1_3, g1_3p, c20, c20p, h3, h4, h5, f1_0, f1_1, f1_4, c27, c27p, hrem, hrem2, hne, hne2, hne3, hkl2, c50, c50p, bytesA_take, hkl2, hi0, h9, f2_0, f2_10, f2_11, c63, c63p, g19_1, g19_1p, wantedA]; done)) rfl rfl (by first | rfl | (simp [hw0, htk6, hpl6, hcw, g1_3, g1_3p, c20, c20p, h3, h4, h5, f1_0, f1_1, f1_4, c27, c27p, hrem, hrem2, hne, hne2, hne3, hkl2, c50, c50p, bytesA_take, hkl2, hi0, h9, f2_0, f2_10, f2_11, c63, c63p, g19_1, g19_1p, callOf]; done)) (by simp) (bad_ok (s := none) (by simp)) ?_
                                    rintro _ _ ⟨rfl, rfl⟩
                                    repeat (first | simp [hw0, htk6, hpl6, hcw, g1_3, g1_3p, c20, c20p, h3, h4, h5, f1_0, f1_1, f1_4, c27, c27p, hrem, hrem2, hne, hne2, hne3, hkl2, c50, c50p, bytesA_take, hkl2, hi0, h9, f2_0, f2_10, f2_11, c63, c63p, g19_1, g19_1p] | simp (disch := omega) only [wC, if_pos, if_neg])
                                    refine runL_splitB 80 (by first | rfl | (simp [hw0, htk6, hpl6, hcw, g1_3, g1_3p, c20, c20p, h3, h4, h5, f1_0, f1_1, f1_4, c27, c27p, hrem, hrem2, hne, hne2, hne3, hkl2, c50, c50p, bytesA_take, hkl2, hi0, h9, f2_0, f2_10, f2_11, c63, c63p, g19_1, g19_1p]; done)) (fun g19_5 => ?_) (fun g19_5 => ?_)
                                    · try (exfalso; have gq := g19_5; simp [hw0, htk6, hpl6, hcw, g1_3, g1_3p, c20, c20p, h3, h4, h5, f1_0, f1_1, f1_4, c27, c27p, hrem, hrem2, hne, hne2, hne3, hkl2, c50, c50p, bytesA_take, hkl2, hi0, h9, f2_0, f2_10, f2_11, c63, c63p, g19_1, g19_1p] at gq; first | done | omega)
                                      all_goals
                                       have g19_5p := g19_5
                                       try simp [hw0, htk6, hpl6, hcw, g1_3, g1_3p, c20, c20p, h3, h4, h5, f1_0, f1_1, f1_4, c27, c27p, hrem, hrem2, hne, hne2, hne3, hkl2, c50, c50p, bytesA_take, hkl2, hi0, h9, f2_0, f2_10, f2_11, c63, c63p, g19_1, g19_1p] at g19_5p
                                       all_goals (first | (have gq := g19_5p; skip) | have g19_5p : True := True.intro)
                                       all_goals
                                          refine runL_go (by first | rfl | (simp [hw0, htk6, hpl6, hcw, g1_3, g1_3p, c20, c20p, h3, h4, h5, f1_0, f1_1, f1_4, c27, c27p, hrem, hrem2, hne, hne2, hne3, hkl2, c50, c50p, bytesA_take, hkl2, hi0, h9, f2_0, f2_10, f2_11, c63, c63p, g19_1, g19_1p, g19_5, g19_5p, wantedA]; done)) rfl ?_
                                          repeat (first | simp [hw0, htk6, hpl6, hcw, g1_3, g1_3p, c20, c20p, h3, h4, h5, f1_0, f1_1, f1_4, c27, c27p, hrem, hrem2, hne, hne2, hne3, hkl2, c50, c50p, bytesA_take, hkl2, hi0, h9, f2_0, f2_10, f2_11, c63, c63p, g19_1, g19_1p, g19_5, g19_5p] | simp (disch := omega) only [wC, if_pos, if_neg])
                                          refine runL_call' (b := true) (by first | rfl | (simp [hw0, htk6, hpl6, hcw, g1_3, g1_3p, c20, c20p, h3, h4, h5, f1_0, f1_1, f1_4, c27, c27p, hrem, hrem2, hne, hne2, hne3, hkl2, c50, c50p, bytesA_take, hkl2, hi0, h9, f2_0, f2_10, f2_11, c63, c63p, g19_1, g19_1p, g19_5, g19_5p, wantedA]; done)) rfl rfl (by first | rfl | (simp [hw0, htk6, hpl6, hcw, g1_3, g1_3p, c20, c20p, h3, h4, h5, f1_0, f1_1, f1_4, c27, c27p, hrem, hrem2, hne, hne2, hne3, hkl2, c50, c50p, bytesA_take, hkl2, hi0, h9, f2_0, f2_10, f2_11, c63, c63p, g19_1, g19_1p, g19_5, g19_5p, callOf]; done)) (by simp) (end_ok (s := none) (by simp)) ?_
                                          rintro _ _ ⟨rfl, rfl⟩
                                          repeat (first | simp [hw0, htk6, hpl6, hcw, g1_3, g1_3p, c20, c20p, h3, h4, h5, f1_0, f1_1, f1_4, c27, c27p, hrem, hrem2, hne, hne2, hne3, hkl2, c50, c50p, bytesA_take, hkl2, hi0, h9, f2_0, f2_10, f2_11, c63, c63p, g19_1, g19_1p, g19_5, g19_5p] | simp (disch := omega) only [wC, if_pos, if_neg])
                                          refine runL_go (by first | rfl | (simp [hw0, htk6, hpl6, hcw, g1_3, g1_3p, c20, c20p, h3, h4, h5, f1_0, f1_1, f1_4, c27, c27p, hrem, hrem2, hne, hne2, hne3, hkl2, c50, c50p, bytesA_take, hkl2, hi0, h9, f2_0, f2_10, f2_11, c63, c63p, g19_1, g19_1p, g19_5, g19_5p, wantedA]; done)) rfl ?_
                                          repeat (first | simp [hw0, htk6, hpl6, hcw, g1_3, g1_3p, c20, c20p, h3, h4, h5, f1_0, f1_1, f1_4, c27, c27p, hrem, hrem2, hne, hne2, hne3, hkl2, c50, c50p, bytesA_take, hkl2, hi0, h9, f2_0, f2_10, f2_11, c63, c63p, g19_1, g19_1p, g19_5, g19_5p] | simp (disch := omega) only [wC, if_pos, if_neg])
                                          refine hJ47 _ _ ?_
                                          refine hK46 _ _ ?_
                                          refine run_ret ?_
                                          try simp only [Then, InBlock, NoGoto]
                                          refine answer_tmp rfl (.inr rfl) ?_
                                          exact ⟨by first | exact Wk.refl _ | (simp [hw0, htk6, hpl6, hcw, g1_3, g1_3p, c20, c20p, h3, h4, h5, f1_0, f1_1, f1_4, c27, c27p, hrem, hrem2, hne, hne2, hne3, hkl2, c50, c50p, bytesA_take, hkl2, hi0, h9, f2_0, f2_10, f2_11, c63, c63p, g19_1, g19_1p, g19_5, g19_5p]; exact Wk.refl _) | (simp [*]; exact Wk.refl _) | exact Wk.shut _ _ _ _ | exact Wk.nil _ _ _, _, _, _, st_app (by first | rfl | exact (List.append_nil _).symm | (simp [hw0, htk6, hpl6, hcw, g1_3, g1_3p, c20, c20p, h3, h4, h5, f1_0, f1_1, f1_4, c27, c27p, hrem, hrem2, hne, hne2, hne3, hkl2, c50, c50p, bytesA_take, hkl2, hi0, h9, f2_0, f2_10, f2_11, c63, c63p, g19_1, g19_1p, g19_5, g19_5p]; rfl) | (simp [hw0, htk6, hpl6, hcw, g1_3, g1_3p, c20, c20p, h3, h4, h5, f1_0, f1_1, f1_4, c27, c27p, hrem, hrem2, hne, hne2, hne3, hkl2, c50, c50p, bytesA_take, hkl2, hi0, h9, f2_0, f2_10, f2_11, c63, c63p, g19_1, g19_1p, g19_5, g19_5p]; done)) (by first | rfl | exact (List.append_nil _).symm | (simp; rfl)) (by first | rfl | exact (List.append_nil _).symm | (simp; rfl)) rfl⟩
                                    · try (exfalso; have gq := g19_5; simp [hw0, htk6, hpl6, hcw, g1_3, g1_3p, c20, c20p, h3, h4, h5, f1_0, f1_1, f1_4, c27, c27p, hrem, hrem2, hne, hne2, hne3, hkl2, c50, c50p, bytesA_take, hkl2, hi0, h9, f2_0, f2_10, f2_11, c63, c63p, g19_1, g19_1p] at gq; first | done | omega)
                                      all_goals
                                       have g19_5p := g19_5
                                       try simp [hw0, htk6, hpl6, hcw, g1_3, g1_3p, c20, c20p, h3, h4, h5, f1_0, f1_1, f1_4, c27, c27p, hrem, hrem2, hne, hne2, hne3, hkl2, c50, c50p, bytesA_take, hkl2, hi0, h9, f2_0, f2_10, f2_11, c63, c63p, g19_1, g19_1p] at g19_5p
                                       all_goals (first | (have gq := g19_5p; skip) | have g19_5p : True := True.intro)
                                       all_goals
                                          refine runL_no (by first | rfl | (simp [hw0, htk6, hpl6, hcw, g1_3, g1_3p, c20, c20p, h3, h4, h5, f1_0, f1_1, f1_4, c27, c27p, hrem, hrem2, hne, hne2, hne3, hkl2, c50, c50p, bytesA_take, hkl2, hi0, h9, f2_0, f2_10, f2_11, c63, c63p, g19_1, g19_1p, g19_5, g19_5p, wantedA]; done)) rfl ?_
                                          repeat (first | simp [hw0, htk6, hpl6, hcw, g1_3, g1_3p, c20, c20p, h3, h4, h5, f1_0, f1_1, f1_4, c27, c27p, hrem, hrem2, hne, hne2, hne3, hkl2, c50, c50p, bytesA_take, hkl2, hi0, h9, f2_0, f2_10, f2_11, c63, c63p, g19_1, g19_1p, g19_5, g19_5p] | simp (disch := omega) only [wC, if_pos, if_neg])
                                          refine runL_no (by first | rfl | (simp [hw0, htk6, hpl6, hcw, g1_3, g1_3p, c20, c20p, h3, h4, h5, f1_0, f1_1, f1_4, c27, c27p, hrem, hrem2, hne, hne2, hne3, hkl2, c50, c50p, bytesA_take, hkl2, hi0, h9, f2_0, f2_10, f2_11, c63, c63p, g19_1, g19_1p, g19_5, g19_5p, wantedA]; done)) rfl ?_
                                          repeat (first | simp [hw0, htk6, hpl6, hcw, g1_3, g1_3p, c20, c20p, h3, h4, h5, f1_0, f1_1, f1_4, c27, c27p, hrem, hrem2, hne, hne2, hne3, hkl2, c50, c50p, bytesA_take, hkl2, hi0, h9, f2_0, f2_10, f2_11, c63, c63p, g19_1, g19_1p, g19_5, g19_5p] | simp (disch := omega) only [wC, if_pos, if_neg])
                                          refine runL_no (by first | rfl | (simp [hw0, htk6, hpl6, hcw, g1_3, g1_3p, c20, c20p, h3, h4, h5, f1_0, f1_1, f1_4, c27, c27p, hrem, hrem2, hne, hne2, hne3, hkl2, c50, c50p, bytesA_take, hkl2, hi0, h9, f2_0, f2_10, f2_11, c63, c63p, g19_1, g19_1p, g19_5, g19_5p, wantedA]; done)) rfl ?_
                                          repeat (first | simp [hw0, htk6, hpl6, hcw, g1_3, g1_3p, c20, c20p, h3, h4, h5, f1_0, f1_1, f1_4, c27, c27p, hrem, hrem2, hne, hne2, hne3, hkl2, c50, c50p, bytesA_take, hkl2, hi0, h9, f2_0, f2_10, f2_11, c63, c63p, g19_1, g19_1p, g19_5, g19_5p] | simp (disch := omega) only [wC, if_pos, if_neg])
                                          refine hJ47 _ _ ?_
                                          refine hK46 _ _ ?_
                                          refine run_ret ?_
                                          try simp only [Then, InBlock, NoGoto]
                                          refine answer_tmp rfl (.inr rfl) ?_
                                          exact ⟨by first | exact Wk.refl _ | (simp [hw0, htk6, hpl6, hcw, g1_3, g1_3p, c20, c20p, h3, h4, h5, f1_0, f1_1, f1_4, c27, c27p, hrem, hrem2, hne, hne2, hne3, hkl2, c50, c50p, bytesA_take, hkl2, hi0, h9, f2_0, f2_10, f2_11, c63, c63p, g19_1, g19_1p, g19_5, g19_5p]; exact Wk.refl _) | (simp [*]; exact Wk.refl _) | exact Wk.shut _ _ _ _ | exact Wk.nil _ _ _, _, _, _, st_app (by first | rfl | exact (List.append_nil _).symm | (simp [hw0, htk6, hpl6, hcw, g1_3, g1_3p, c20, c20p, h3, h4, h5, f1_0, f1_1, f1_4, c27, c27p, hrem, hrem2, hne, hne2, hne3, hkl2, c50, c50p, bytesA_take, hkl2, hi0, h9, f2_0, f2_10, f2_11, c63, c63p, g19_1, g19_1p, g19_5, g19_5p]; rfl) | (simp [hw0, htk6, hpl6, hcw, g1_3, g1_3p, c20, c20p, h3, h4, h5, f1_0, f1_1, f1_4, c27, c27p, hrem, hrem2, hne, hne2, hne3, hkl2, c50, c50p, bytesA_take, hkl2, hi0, h9, f2_0, f2_10, f2_11, c63, c63p, g19_1, g19_1p, g19_5, g19_5p]; done)) (by first | rfl | exact (List.append_nil _).symm | (simp; rfl)) (by first | rfl | exact (List.append_nil _).symm | (simp; rfl)) rfl⟩
                              · try (exfalso; have gq := g19_1; simp [hw0, htk6, hpl6, hcw, g1_3, g1_3p, c20, c20p, h3, h4, h5, f1_0, f1_1, f1_4, c27, c27p, hrem, hrem2, hne, hne2, hne3, hkl2, c50, c50p, bytesA_take, hkl2, hi0, h9, f2_0, f2_10, f2_11, c63, c63p] at gq; first | done | omega)
                                all_goals
                                 have g19_1p := g19_1
                                 try simp [hw0, htk6, hpl6, hcw, g1_3, g1_3p, c20, c20p, h3, h4, h5, f1_0, f1_1, f1_4, c27, c27p, hrem, hrem2, hne, hne2, hne3, hkl2, c50, c50p, bytesA_take, hkl2, hi0, h9, f2_0, f2_10, f2_11, c63, c63p] at g19_1p
                                 all_goals (first | (have gq := g19_1p; skip) | have g19_1p : True := True.intro)
                                 all_goals
                                    refine runL_no (by first | rfl | (simp [hw0, htk6, hpl6, hcw, g1_3, g1_3p, c20, c20p, h3, h4, h5, f1_0, f1_1, f1_4, c27, c27p, hrem, hrem2, hne, hne2, hne3, hkl2, c50, c50p, bytesA_take, hkl2, hi0, h9, f2_0, f2_10, f2_11, c63, c63p, g19_1, g19_1p, wantedA]; done)) rfl ?_
                                    repeat (first | simp [hw0, htk6, hpl6, hcw, g1_3, g1_3p, c20, c20p, h3, h4, h5, f1_0, f1_1, f1_4, c27, c27p, hrem, hrem2, hne, hne2, hne3, hkl2, c50, c50p, bytesA_take, hkl2, hi0, h9, f2_0, f2_10, f2_11, c63, c63p, g19_1, g19_1p] | simp (disch := omega) only [wC, if_pos, if_neg])
                                    refine runL_no (by first | rfl | (simp [hw0, htk6, hpl6, hcw, g1_3, g1_3p, c20, c20p, h3, h4, h5, f1_0, f1_1, f1_4, c27, c27p, hrem, hrem2, hne, hne2, hne3, hkl2, c50, c50p, bytesA_take, hkl2, hi0, h9, f2_0, f2_10, f2_11, c63, c63p, g19_1, g19_1p, wantedA]; done)) rfl ?_
                                    repeat (first | simp [hw0, htk6, hpl6, hcw, g1_3, g1_3p, c20, c20p, h3, h4, h5, f1_0, f1_1, f1_4, c27, c27p, hrem, hrem2, hne, hne2, hne3, hkl2, c50, c50p, bytesA_take, hkl2, hi0, h9, f2_0, f2_10, f2_11, c63, c63p, g19_1, g19_1p] | simp (disch := omega) only [wC, if_pos, if_neg])
                                    refine runL_no (by first | rfl | (simp [hw0, htk6, hpl6, hcw, g1_3, g1_3p, c20, c20p, h3, h4, h5, f1_0, f1_1, f1_4, c27, c27p, hrem, hrem2, hne, hne2, hne3, hkl2, c50, c50p, bytesA_take, hkl2, hi0, h9, f2_0, f2_10, f2_11, c63, c63p, g19_1, g19_1p, wantedA]; done)) rfl ?_
                                    repeat (first | simp [hw0, htk6, hpl6, hcw, g1_3, g1_3p, c20, c20p, h3, h4, h5, f1_0, f1_1, f1_4, c27, c27p, hrem, hrem2, hne, hne2, hne3, hkl2, c50, c50p, bytesA_take, hkl2, hi0, h9, f2_0, f2_10, f2_11, c63, c63p, g19_1, g19_1p] | simp (disch := omega) only [wC, if_pos, if_neg])
                                    refine runL_no (by first | rfl | (simp [hw0, htk6, hpl6, hcw, g1_3, g1_3p, c20, c20p, h3, h4, h5, f1_0, f1_1, f1_4, c27, c27p, hrem, hrem2, hne, hne2, hne3, hkl2, c50, c50p, bytesA_take, hkl2, hi0, h9, f2_0, f2_10, f2_11, c63, c63p, g19_1, g19_1p, wantedA]; done)) rfl ?_
                                    repeat (first | simp [hw0, htk6, hpl6, hcw, g1_3, g1_3p, c20, c20p, h3, h4, h5, f1_0, f1_1, f1_4, c27, c27p, hrem, hrem2, hne, hne2, hne3, hkl2, c50, c50p, bytesA_take, hkl2, hi0, h9, f2_0, f2_10, f2_11, c63, c63p, g19_1, g19_1p] | simp (disch := omega) only [wC, if_pos, if_neg])
                                    refine runL_no (by first | rfl | (simp [hw0, htk6, hpl6, hcw, g1_3, g1_3p, c20, c20p, h3, h4, h5, f1_0, f1_1, f1_4, c27, c27p, hrem, hrem2, hne, hne2, hne3, hkl2, c50, c50p, bytesA_take, hkl2, hi0, h9, f2_0, f2_10, f2_11, c63, c63p, g19_1, g19_1p, wantedA]; done)) rfl ?_
                                    repeat (first | simp [hw0, htk6, hpl6, hcw, g1_3, g1_3p, c20, c20p, h3, h4, h5, f1_0, f1_1, f1_4, c27, c27p, hrem, hrem2, hne, hne2, hne3, hkl2, c50, c50p, bytesA_take, hkl2, hi0, h9, f2_0, f2_10, f2_11, c63, c63p, g19_1, g19_1p] | simp (disch := omega) only [wC, if_pos, if_neg])
                                    refine hJ47 _ _ ?_
                                    refine hK46 _ _ ?_
                                    refine run_ret ?_
                                    try simp only [Then, InBlock, NoGoto]
                                    refine answer_tmp rfl (.inr rfl) ?_
                                    exact ⟨by first | exact Wk.refl _ | (simp [hw0, htk6, hpl6, hcw, g1_3, g1_3p, c20, c20p, h3, h4, h5, f1_0, f1_1, f1_4, c27, c27p, hrem, hrem2, hne, hne2, hne3, hkl2, c50, c50p, bytesA_take, hkl2, hi0, h9, f2_0, f2_10, f2_11, c63, c63p, g19_1, g19_1p]; exact Wk.refl _) | (simp [*]; exact Wk.refl _) | exact Wk.shut _ _ _ _ | exact Wk.nil _ _ _, _, _, _, st_app (by first | rfl | exact (List.append_nil _).symm | (simp [hw0, htk6, hpl6, hcw, g1_3, g1_3p, c20, c20p, h3, h4, h5, f1_0, f1_1, f1_4, c27, c27p, hrem, hrem2, hne, hne2, hne3, hkl2, c50, c50p, bytesA_take, hkl2, hi0, h9, f2_0, f2_10, f2_11, c63, c63p, g19_1, g19_1p]; rfl) | (simp [hw0, htk6, hpl6, hcw, g1_3, g1_3p, c20, c20p, h3, h4, h5, f1_0, f1_1, f1_4, c27, c27p, hrem, hrem2, hne, hne2, hne3, hkl2, c50, c50p, bytesA_take, hkl2, hi0, h9, f2_0, f2_10, f2_11, c63, c63p, g19_1, g19_1p]; done)) (by first | rfl | exact (List.append_nil _).symm | (simp; rfl)) (by first | rfl | exact (List.append_nil _).symm | (simp; rfl)) rfl⟩
                      -- 8
                      · refine altD_op' 8 (by kernel_rfl) rfl (by kernel_rfl) (by kernel_rfl) (by first | rfl | (simp [hw0, htk6, hpl6, hcw, g1_3, g1_3p, c20, c20p, h3, h4, h5, f1_0, f1_1, f1_4, c27, c27p, hrem, hrem2, hne, hne2, hne3, hkl2, c50, c50p, bytesA_take, hkl2, hi0]; done)) ?_
                        repeat (first | simp [hw0, htk6, hpl6, hcw, g1_3, g1_3p, c20, c20p, h3, h4, h5, f1_0, f1_1, f1_4, c27, c27p, hrem, hrem2, hne, hne2, hne3, hkl2, c50, c50p, bytesA_take, hkl2, hi0] | simp (disch := omega) only [wC, if_pos, if_neg])
                        refine ⟨by first | exact later_more _ (by kernel_rfl) | exact later_more2 (by kernel_rfl) rfl, ?_⟩
                        refine runD_call 3 (by kernel_rfl) (by kernel_rfl) (by kernel_rfl) rfl (by kernel_rfl) (by kernel_rfl) (by kernel_rfl) (by first | rfl | (simp [hw0, htk6, hpl6, hcw, g1_3, g1_3p, c20, c20p, h3, h4, h5, f1_0, f1_1, f1_4, c27, c27p, hrem, hrem2, hne, hne2, hne3, hkl2, c50, c50p, bytesA_take, hkl2, hi0]; done)) (by first | rfl | (simp [hw0, htk6, hpl6, hcw, g1_3, g1_3p, c20, c20p, h3, h4, h5, f1_0, f1_1, f1_4, c27, c27p, hrem, hrem2, hne, hne2, hne3, hkl2, c50, c50p, bytesA_take, hkl2, hi0]; done)) (by simp) (new_at (p := E.take kk) (n := kk) (tl := .shut) hlk (by omega)) ?_
                        rintro _ _ ⟨ rfl, rfl⟩
                        refine ⟨by first | exact fun _ _ h => h | (refine later_list [6, 5, 4, 1, 0] (by kernel_rfl) (List.forall_mem_cons.2 ⟨fun _ => fact2 rfl rfl ?_, List.forall_mem_cons.2 ⟨fun _ => fact2 rfl rfl ?_, List.forall_mem_cons.2 ⟨fun _ => fact2 rfl rfl ?_, List.forall_mem_cons.2 ⟨fun _ => fact2 rfl rfl ?_, List.forall_mem_cons.2 ⟨fun _ => fact2 rfl rfl ?_, fun _ h => absurd h List.not_mem_nil⟩⟩⟩⟩⟩) <;> constructor <;> first | rfl | (simp [hw0, htk6, hpl6, hcw, g1_3, g1_3p, c20, c20p, h3, h4, h5, f1_0, f1_1, f1_4, c27, c27p, hrem, hrem2, hne, hne2, hne3, hkl2, c50, c50p, bytesA_take, hkl2, hi0]; done)), ?_⟩
                        repeat (first | simp [hw0, htk6, hpl6, hcw, g1_3, g1_3p, c20, c20p, h3, h4, h5, f1_0, f1_1, f1_4, c27, c27p, hrem, hrem2, hne, hne2, hne3, hkl2, c50, c50p, bytesA_take, hkl2, hi0] | simp (disch := omega) only [wC, if_pos, if_neg])
                        refine rp 9 rfl rfl (by kernel_rfl) ?_
                        repeat (first | simp [hw0, htk6, hpl6, hcw, g1_3, g1_3p, c20, c20p, h3, h4, h5, f1_0, f1_1, f1_4, c27, c27p, hrem, hrem2, hne, hne2, hne3, hkl2, c50, c50p, bytesA_take, hkl2, hi0] | simp (disch := omega) only [wC, if_pos, if_neg])
                        refine rp 10 rfl rfl (by kernel_rfl) ?_
                        repeat (first | simp [hw0, htk6, hpl6, hcw, g1_3, g1_3p, c20, c20p, h3, h4, h5, f1_0, f1_1, f1_4, c27, c27p, hrem, hrem2, hne, hne2, hne3, hkl2, c50, c50p, bytesA_take, hkl2, hi0] | simp (disch := omega) only [wC, if_pos, if_neg])
                        refine runD_done (by kernel_rfl) (by kernel_rfl) (by kernel_rfl) ?_
                        refine hJ33 _ _ ?_
                        refine hK32 _ _ ?_
                        refine run_seq_k fun K48 hK48 => ?_
                        refine run_seq_k fun K49 hK49 => ?_
                        refine run_region_k rfl fun J50 hJ50 => ?_
                        repeat (first | simp [hw0, htk6, hpl6, hcw, g1_3, g1_3p, c20, c20p, h3, h4, h5, f1_0, f1_1, f1_4, c27, c27p, hrem, hrem2, hne, hne2, hne3, hkl2, c50, c50p, bytesA_take, hkl2, hi0] | simp (disch := omega) only [wC, if_pos, if_neg])
                        refine hJ50 _ _ ?_
                        refine hK49 _ _ ?_
                        refine run_block_k ?_
                        refine run_loopF (X := R2) [0, 10, 11] (fun r ρ σ1 => (r.j ≤ l.length) ∧ (At (E.take kk) r.k (readsS (l.take r.j) (some (E.take kk)))) ∧ (ρ 12 = .v (.int .i64 r.j)) ∧ (σ1 = { σ with objs := σ.objs ++ [[wrA q.kw E], inC (E.take kk) .shut r.k (readsS (l.take r.j) (some (E.take kk))).isNone, rd (readsS (l.take r.j) (some (E.take kk)))], toks := σ.toks ++ m })) (fun r => l.length - r.j) (⟨0, 0⟩) ?st22 ?rd22
                        case st22 =>
                          refine ⟨?_, ?_, ?_, ?_⟩
                          · first | rfl | omega | assumption | ((repeat (first | simp [hw0, htk6, hpl6, hcw, g1_3, g1_3p, c20, c20p, h3, h4, h5, f1_0, f1_1, f1_4, c27, c27p, hrem, hrem2, hne, hne2, hne3, hkl2, c50, c50p, bytesA_take, hkl2, hi0] | simp (disch := omega) only [wC, if_pos, if_neg])); first | done | omega) | (simp only [putA_get]; (repeat (first | simp (disch := omega) only [wC, if_pos, if_neg] | simp [hw0, htk6, hpl6, hcw, g1_3, g1_3p, c20, c20p, h3, h4, h5, f1_0, f1_1, f1_4, c27, c27p, hrem, hrem2, hne, hne2, hne3, hkl2, c50, c50p, bytesA_take, hkl2, hi0])); done)
                          · exact ⟨by simp, .inr (by simp [readsS])⟩
                          · first | rfl | omega | assumption | ((repeat (first | simp [hw0, htk6, hpl6, hcw, g1_3, g1_3p, c20, c20p, h3, h4, h5, f1_0, f1_1, f1_4, c27, c27p, hrem, hrem2, hne, hne2, hne3, hkl2, c50, c50p, bytesA_take, hkl2, hi0] | simp (disch := omega) only [wC, if_pos, if_neg])); first | done | omega) | (simp only [putA_get]; (repeat (first | simp (disch := omega) only [wC, if_pos, if_neg] | simp [hw0, htk6, hpl6, hcw, g1_3, g1_3p, c20, c20p, h3, h4, h5, f1_0, f1_1, f1_4, c27, c27p, hrem, hrem2, hne, hne2, hne3, hkl2, c50, c50p, bytesA_take, hkl2, hi0])); done)
                          · simp [readsS]
                        case rd22 =>
                          rintro r ρ22 σ1 hF22 ⟨hr, hA, h9, hσ2⟩
                          obtain rfl := hσ2.symm
                          have f22_0 := hF22 0 (by decide)
                          try simp [hw0, htk6, hpl6, hcw, g1_3, g1_3p, c20, c20p, h3, h4, h5, f1_0, f1_1, f1_4, c27, c27p, hrem, hrem2, hne, hne2, hne3, hkl2, c50, c50p, bytesA_take, hkl2, hi0] at f22_0
                          have f22_10 := hF22 10 (by decide)
                          try simp [hw0, htk6, hpl6, hcw, g1_3, g1_3p, c20, c20p, h3, h4, h5, f1_0, f1_1, f1_4, c27, c27p, hrem, hrem2, hne, hne2, hne3, hkl2, c50, c50p, bytesA_take, hkl2, hi0] at f22_10
                          have f22_11 := hF22 11 (by decide)
                          try simp [hw0, htk6, hpl6, hcw, g1_3, g1_3p, c20, c20p, h3, h4, h5, f1_0, f1_1, f1_4, c27, c27p, hrem, hrem2, hne, hne2, hne3, hkl2, c50, c50p, bytesA_take, hkl2, hi0] at f22_11
                          refine run_seq_k fun K51 hK51 => ?_
                          refine run_seq_k fun K52 hK52 => ?_
                          refine run_region_k rfl fun J53 hJ53 => ?_
                          repeat (first | simp [hw0, htk6, hpl6, hcw, g1_3, g1_3p, c20, c20p, h3, h4, h5, f1_0, f1_1, f1_4, c27, c27p, hrem, hrem2, hne, hne2, hne3, hkl2, c50, c50p, bytesA_take, hkl2, hi0, h9, f22_0, f22_10, f22_11] | simp (disch := omega) only [wC, if_pos, if_neg])
                          refine hJ53 _ _ ?_
                          refine hK52 _ _ ?_
                          refine run_cond_split (by first | rfl | (simp [hw0, htk6, hpl6, hcw, g1_3, g1_3p, c20, c20p, h3, h4, h5, f1_0, f1_1, f1_4, c27, c27p, hrem, hrem2, hne, hne2, hne3, hkl2, c50, c50p, bytesA_take, hkl2, hi0, h9, f22_0, f22_10, f22_11, evalA]; done)) (fun c63 => ?_) (fun c63 => ?_)
                          · try (exfalso; have gq := c63; simp [hw0, htk6, hpl6, hcw, g1_3, g1_3p, c20, c20p, h3, h4, h5, f1_0, f1_1, f1_4, c27, c27p, hrem, hrem2, hne, hne2, hne3, hkl2, c50, c50p, bytesA_take, hkl2, hi0, h9, f22_0, f22_10, f22_11] at gq; first | done | omega)
                            all_goals
                             have c63p := c63
                             try simp [hw0, htk6, hpl6, hcw, g1_3, g1_3p, c20, c20p, h3, h4, h5, f1_0, f1_1, f1_4, c27, c27p, hrem, hrem2, hne, hne2, hne3, hkl2, c50, c50p, bytesA_take, hkl2, hi0, h9, f22_0, f22_10, f22_11] at c63p
                             all_goals (first | (have gq := c63p; skip) | have c63p : True := True.intro)
                             all_goals
                              refine run_skip ?_
                              refine hK51 _ _ ?_
                              refine run_seq_k fun K54 hK54 => ?_
                              refine run_block_k ?_
                              refine run_seq_k fun K55 hK55 => ?_
                              have hlt2 : r.j < l.length := by simpa using c63
                              have hat2 := partsC_at hlt2
                              have hb2 : r.j * 6 + 6 ≤ l.length * 6 := by omega
                              have hrd : readsS (l.take (r.j + 1)) (some (E.take kk)) = readS l[r.j].k.toNat (readsS (l.take r.j) (some (E.take kk))) := by rw [take_snoc hlt2, readsS_snoc]
                              refine run_region_k rfl fun J56 hJ56 => ?_
                              repeat (first | simp [hw0, htk6, hpl6, hcw, g1_3, g1_3p, c20, c20p, h3, h4, h5, f1_0, f1_1, f1_4, c27, c27p, hrem, hrem2, hne, hne2, hne3, hkl2, c50, c50p, bytesA_take, hkl2, hi0, h9, f22_0, f22_10, f22_11, c63, c63p, hat2, hb2, partC] | simp (disch := omega) only [wC, if_pos, if_neg])
                              refine runL_call' (b := true) (by first | rfl | (simp [hw0, htk6, hpl6, hcw, g1_3, g1_3p, c20, c20p, h3, h4, h5, f1_0, f1_1, f1_4, c27, c27p, hrem, hrem2, hne, hne2, hne3, hkl2, c50, c50p, bytesA_take, hkl2, hi0, h9, f22_0, f22_10, f22_11, c63, c63p, hat2, hb2, partC, wantedA]; done)) rfl rfl (by first | rfl | (simp [hw0, htk6, hpl6, hcw, g1_3, g1_3p, c20, c20p, h3, h4, h5, f1_0, f1_1, f1_4, c27, c27p, hrem, hrem2, hne, hne2, hne3, hkl2, c50, c50p, bytesA_take, hkl2, hi0, h9, f22_0, f22_10, f22_11, c63, c63p, hat2, hb2, partC, callOf]; done)) (by simp) (reads_ok (s := readsS (l.take r.j) (some (E.take kk))) (k := r.k) (kd := l[r.j].k) (by simp) (by simp) (by omega) (by omega) hA) ?_
                              rintro _ _ ⟨rfl, k1, hk1, rfl⟩
                              repeat (first | simp [hw0, htk6, hpl6, hcw, g1_3, g1_3p, c20, c20p, h3, h4, h5, f1_0, f1_1, f1_4, c27, c27p, hrem, hrem2, hne, hne2, hne3, hkl2, c50, c50p, bytesA_take, hkl2, hi0, h9, f22_0, f22_10, f22_11, c63, c63p, hat2, hb2, partC] | simp (disch := omega) only [wC, if_pos, if_neg])
                              refine hJ56 _ _ ?_
                              refine hK55 _ _ ?_
                              refine run_cond_split (by first | rfl | (simp [hw0, htk6, hpl6, hcw, g1_3, g1_3p, c20, c20p, h3, h4, h5, f1_0, f1_1, f1_4, c27, c27p, hrem, hrem2, hne, hne2, hne3, hkl2, c50, c50p, bytesA_take, hkl2, hi0, h9, f22_0, f22_10, f22_11, c63, c63p, hat2, hb2, partC, evalA]; done)) (fun c74 => ?_) (fun c74 => ?_)
                              · try (exfalso; have gq := c74; simp [hw0, htk6, hpl6, hcw, g1_3, g1_3p, c20, c20p, h3, h4, h5, f1_0, f1_1, f1_4, c27, c27p, hrem, hrem2, hne, hne2, hne3, hkl2, c50, c50p, bytesA_take, hkl2, hi0, h9, f22_0, f22_10, f22_11, c63, c63p, hat2, hb2, partC] at gq; first | done | omega)
                                all_goals
                                 have c74p := c74
                                 try simp [hw0, htk6, hpl6, hcw, g1_3, g1_3p, c20, c20p, h3, h4, h5, f1_0, f1_1, f1_4, c27, c27p, hrem, hrem2, hne, hne2, hne3, hkl2, c50, c50p, bytesA_take, hkl2, hi0, h9, f22_0, f22_10, f22_11, c63, c63p, hat2, hb2, partC] at c74p
                                 all_goals (first | (have gq := c74p; skip) | have c74p : True := True.intro)
                                 all_goals
                                  refine run_seq_k fun K57 hK57 => ?_
                                  refine run_region_k rfl fun J58 hJ58 => ?_
                                  repeat (first | simp [hw0, htk6, hpl6, hcw, g1_3, g1_3p, c20, c20p, h3, h4, h5, f1_0, f1_1, f1_4, c27, c27p, hrem, hrem2, hne, hne2, hne3, hkl2, c50, c50p, bytesA_take, hkl2, hi0, h9, f22_0, f22_10, f22_11, c63, c63p, hat2, hb2, partC, c74, c74p] | simp (disch := omega) only [wC, if_pos, if_neg])
                                  refine hJ58 _ _ ?_
                                  refine hK57 _ _ ?_
                                  refine run_ret ?_
                                  try simp only [Then, InBlock, NoGoto]
                                  refine answer_tmp rfl (.inr rfl) ?_
                                  exact ⟨by first | exact Wk.refl _ | (simp [hw0, htk6, hpl6, hcw, g1_3, g1_3p, c20, c20p, h3, h4, h5, f1_0, f1_1, f1_4, c27, c27p, hrem, hrem2, hne, hne2, hne3, hkl2, c50, c50p, bytesA_take, hkl2, hi0, h9, f22_0, f22_10, f22_11, c63, c63p, hat2, hb2, partC, c74, c74p]; exact Wk.refl _) | (simp [*]; exact Wk.refl _) | exact Wk.shut _ _ _ _ | exact Wk.nil _ _ _, _, _, _, st_app (by first | rfl | exact (List.append_nil _).symm | (simp [hw0, htk6, hpl6, hcw, g1_3, g1_3p, c20, c20p, h3, h4, h5, f1_0, f1_1, f1_4, c27, c27p, hrem, hrem2, hne, hne2, hne3, hkl2, c50, c50p, bytesA_take, hkl2, hi0, h9, f22_0, f22_10, f22_11, c63, c63p, hat2, hb2, partC, c74, c74p]; rfl) | (simp [hw0, htk6, hpl6, hcw, g1_3, g1_3p, c20, c20p, h3, h4, h5, f1_0, f1_1, f1_4, c27, c27p, hrem, hrem2, hne, hne2, hne3, hkl2, c50, c50p, bytesA_take, hkl2, hi0, h9, f22_0, f22_10, f22_11, c63, c63p, hat2, hb2, partC, c74, c74p]; done)) (by first | rfl | exact (List.append_nil _).symm | (simp; rfl)) (by first | rfl | exact (List.append_nil _).symm | (simp; rfl)) rfl⟩
                              · try (exfalso; have gq := c74; simp [hw0, htk6, hpl6, hcw, g1_3, g1_3p, c20, c20p, h3, h4, h5, f1_0, f1_1, f1_4, c27, c27p, hrem, hrem2, hne, hne2, hne3, hkl2, c50, c50p, bytesA_take, hkl2, hi0, h9, f22_0, f22_10, f22_11, c63, c63p, hat2, hb2, partC] at gq; first | done | omega)
                                all_goals
                                 have c74p := c74
                                 try simp [hw0, htk6, hpl6, hcw, g1_3, g1_3p, c20, c20p, h3, h4, h5, f1_0, f1_1, f1_4, c27, c27p, hrem, hrem2, hne, hne2, hne3, hkl2, c50, c50p, bytesA_take, hkl2, hi0, h9, f22_0, f22_10, f22_11, c63, c63p, hat2, hb2, partC] at c74p
                                 all_goals (first | (have gq := c74p; skip) | have c74p : True := True.intro)
                                 all_goals
                                  refine run_skip ?_
                                  refine hK54 _ _ ?_
                                  refine run_region_k rfl fun J59 hJ59 => ?_
                                  repeat (first | simp [hw0, htk6, hpl6, hcw, g1_3, g1_3p, c20, c20p, h3, h4, h5, f1_0, f1_1, f1_4, c27, c27p, hrem, hrem2, hne, hne2, hne3, hkl2, c50, c50p, bytesA_take, hkl2, hi0, h9, f22_0, f22_10, f22_11, c63, c63p, hat2, hb2, partC, c74, c74p] | simp (disch := omega) only [wC, if_pos, if_neg])
                                  refine hJ59 _ _ ?_
                                  refine ⟨(⟨r.j + 1, k1⟩), ⟨?_, ?_, ?_, ?_, ?_⟩, ?_⟩
                                  · (intro r hr; simp only [List.mem_cons, List.not_mem_nil, or_false] at hr; rcases hr with rfl | rfl | rfl <;> first | rfl | (simp [hw0, htk6, hpl6, hcw, g1_3, g1_3p, c20, c20p, h3, h4, h5, f1_0, f1_1, f1_4, c27, c27p, hrem, hrem2, hne, hne2, hne3, hkl2, c50, c50p, bytesA_take, hkl2, hi0, h9, f22_0, f22_10, f22_11, c63, c63p, hat2, hb2, partC, c74, c74p]; done))
                                  · first | rfl | omega | assumption | ((repeat (first | simp [hw0, htk6, hpl6, hcw, g1_3, g1_3p, c20, c20p, h3, h4, h5, f1_0, f1_1, f1_4, c27, c27p, hrem, hrem2, hne, hne2, hne3, hkl2, c50, c50p, bytesA_take, hkl2, hi0, h9, f22_0, f22_10, f22_11, c63, c63p, hat2, hb2, partC, c74, c74p] | simp (disch := omega) only [wC, if_pos, if_neg])); first | done | omega) | (simp only [putA_get]; (repeat (first | simp (disch := omega) only [wC, if_pos, if_neg] | simp [hw0, htk6, hpl6, hcw, g1_3, g1_3p, c20, c20p, h3, h4, h5, f1_0, f1_1, f1_4, c27, c27p, hrem, hrem2, hne, hne2, hne3, hkl2, c50, c50p, bytesA_take, hkl2, hi0, h9, f22_0, f22_10, f22_11, c63, c63p, hat2, hb2, partC, c74, c74p])); done)
                                  · rw [← hrd] at hk1
                                    exact hk1
                                  · first | rfl | omega | assumption | ((repeat (first | simp [hw0, htk6, hpl6, hcw, g1_3, g1_3p, c20, c20p, h3, h4, h5, f1_0, f1_1, f1_4, c27, c27p, hrem, hrem2, hne, hne2, hne3, hkl2, c50, c50p, bytesA_take, hkl2, hi0, h9, f22_0, f22_10, f22_11, c63, c63p, hat2, hb2, partC, c74, c74p] | simp (disch := omega) only [wC, if_pos, if_neg])); first | done | omega) | (simp only [putA_get]; (repeat (first | simp (disch := omega) only [wC, if_pos, if_neg] | simp [hw0, htk6, hpl6, hcw, g1_3, g1_3p, c20, c20p, h3, h4, h5, f1_0, f1_1, f1_4, c27, c27p, hrem, hrem2, hne, hne2, hne3, hkl2, c50, c50p, bytesA_take, hkl2, hi0, h9, f22_0, f22_10, f22_11, c63, c63p, hat2, hb2, partC, c74, c74p])); done)
                                  · simp only [hrd]
                                  · first | rfl | omega | assumption | ((repeat (first | simp [hw0, htk6, hpl6, hcw, g1_3, g1_3p, c20, c20p, h3, h4, h5, f1_0, f1_1, f1_4, c27, c27p, hrem, hrem2, hne, hne2, hne3, hkl2, c50, c50p, bytesA_take, hkl2, hi0, h9, f22_0, f22_10, f22_11, c63, c63p, hat2, hb2, partC, c74, c74p] | simp (disch := omega) only [wC, if_pos, if_neg])); first | done | omega) | (simp only [putA_get]; (repeat (first | simp (disch := omega) only [wC, if_pos, if_neg] | simp [hw0, htk6, hpl6, hcw, g1_3, g1_3p, c20, c20p, h3, h4, h5, f1_0, f1_1, f1_4, c27, c27p, hrem, hrem2, hne, hne2, hne3, hkl2, c50, c50p, bytesA_take, hkl2, hi0, h9, f22_0, f22_10, f22_11, c63, c63p, hat2, hb2, partC, c74, c74p])); done)
                          · try (exfalso; have gq := c63; simp [hw0, htk6, hpl6, hcw, g1_3, g1_3p, c20, c20p, h3, h4, h5, f1_0, f1_1, f1_4, c27, c27p, hrem, hrem2, hne, hne2, hne3, hkl2, c50, c50p, bytesA_take, hkl2, hi0, h9, f22_0, f22_10, f22_11] at gq; first | done | omega)
                            all_goals
                             have c63p := c63
                             try simp [hw0, htk6, hpl6, hcw, g1_3, g1_3p, c20, c20p, h3, h4, h5, f1_0, f1_1, f1_4, c27, c27p, hrem, hrem2, hne, hne2, hne3, hkl2, c50, c50p, bytesA_take, hkl2, hi0, h9, f22_0, f22_10, f22_11] at c63p
                             all_goals (first | (have gq := c63p; skip) | have c63p : True := True.intro)
                             all_goals
                              refine run_exit ?_
                              refine hK48 _ _ ?_
                              refine run_seq_k fun K60 hK60 => ?_
                              have hfull2 : l.take r.j = l := List.take_of_length_le (by simp at c63; omega)
                              have hfin : readsS l (some (E.take kk)) = none := by rw [hE]; exact readsS_cut l kk (by rw [← hE]; exact hkl)
                              rw [hfull2, hfin]
                              refine run_region_k rfl fun J61 hJ61 => ?_
                              repeat (first | simp [hw0, htk6, hpl6, hcw, g1_3, g1_3p, c20, c20p, h3, h4, h5, f1_0, f1_1, f1_4, c27, c27p, hrem, hrem2, hne, hne2, hne3, hkl2, c50, c50p, bytesA_take, hkl2, hi0, h9, f22_0, f22_10, f22_11, c63, c63p] | simp (disch := omega) only [wC, if_pos, if_neg])
                              refine runL_call' (b := true) (by first | rfl | (simp [hw0, htk6, hpl6, hcw, g1_3, g1_3p, c20, c20p, h3, h4, h5, f1_0, f1_1, f1_4, c27, c27p, hrem, hrem2, hne, hne2, hne3, hkl2, c50, c50p, bytesA_take, hkl2, hi0, h9, f22_0, f22_10, f22_11, c63, c63p, wantedA]; done)) rfl rfl (by first | rfl | (simp [hw0, htk6, hpl6, hcw, g1_3, g1_3p, c20, c20p, h3, h4, h5, f1_0, f1_1, f1_4, c27, c27p, hrem, hrem2, hne, hne2, hne3, hkl2, c50, c50p, bytesA_take, hkl2, hi0, h9, f22_0, f22_10, f22_11, c63, c63p, callOf]; done)) (by simp) (lays_ok) ?_
                              rintro _ _ ⟨rfl, rfl⟩
                              repeat (first | simp [hw0, htk6, hpl6, hcw, g1_3, g1_3p, c20, c20p, h3, h4, h5, f1_0, f1_1, f1_4, c27, c27p, hrem, hrem2, hne, hne2, hne3, hkl2, c50, c50p, bytesA_take, hkl2, hi0, h9, f22_0, f22_10, f22_11, c63, c63p] | simp (disch := omega) only [wC, if_pos, if_neg])
                              refine runL_splitB 76 (by first | rfl | (simp [hw0, htk6, hpl6, hcw, g1_3, g1_3p, c20, c20p, h3, h4, h5, f1_0, f1_1, f1_4, c27, c27p, hrem, hrem2, hne, hne2, hne3, hkl2, c50, c50p, bytesA_take, hkl2, hi0, h9, f22_0, f22_10, f22_11, c63, c63p]; done)) (fun g19_1 => ?_) (fun g19_1 => ?_)
                              · try (exfalso; have gq := g19_1; simp [hw0, htk6, hpl6, hcw, g1_3, g1_3p, c20, c20p, h3, h4, h5, f1_0, f1_1, f1_4, c27, c27p, hrem, hrem2, hne, hne2, hne3, hkl2, c50, c50p, bytesA_take, hkl2, hi0, h9, f22_0, f22_10, f22_11, c63, c63p] at gq; first | done | omega)
                                all_goals
                                 have g19_1p := g19_1
                                 try simp [hw0, htk6, hpl6, hcw, g1_3, g1_3p, c20, c20p, h3, h4, h5, f1_0, f1_1, f1_4, c27, c27p, hrem, hrem2, hne, hne2, hne3, hkl2, c50, c50p, bytesA_take, hkl2, hi0, h9, f22_0, f22_10, f22_11, c63, c63p] at g19_1p
                                 all_goals (first | (have gq := g19_1p; skip) | have g19_1p : True := True.intro)
                                 all_goals
                                    refine runL_go (by first | rfl | (simp [hw0, htk6, hpl6, hcw, g1_3, g1_3p, c20, c20p, h3, h4, h5, f1_0, f1_1, f1_4, c27, c27p, hrem, hrem2, hne, hne2, hne3, hkl2, c50, c50p, bytesA_take, hkl2, hi0, h9, f22_0, f22_10, f22_11, c63, c63p, g19_1, g19_1p, wantedA]; done)) rfl ?_
                                    repeat (first | simp [hw0, htk6, hpl6, hcw, g1_3, g1_3p, c20, c20p, h3, h4, h5, f1_0, f1_1, f1_4, c27, c27p, hrem, hrem2, hne, hne2, hne3, hkl2, c50, c50p, bytesA_take, hkl2, hi0, h9, f22_0, f22_10, f22_11, c63, c63p, g19_1, g19_1p] | simp (disch := omega) only [wC, if_pos, if_neg])
                                    refine runL_call' (b := true) (by first | rfl | (simp [hw0, htk6, hpl6, hcw, g1_3, g1_3p, c20, c20p, h3, h4, h5, f1_0, f1_1, f1_4, c27, c27p, hrem, hrem2, hne, hne2, hne3, hkl2, c50, c50p, bytesA_take, hkl2, hi0, h9, f22_0, f22_10, f22_11, c63, c63p, g19_1, g19_1p, wantedA]; done)) rfl rfl (by first | rfl | (simp [hw0, htk6, hpl6, hcw, g1_3, g1_3p, c20, c20p, h3, h4, h5, f1_0, f1_1, f1_4, c27, c27p, hrem, hrem2, hne, hne2, hne3, hkl2, c50, c50p, bytesA_take, hkl2, hi0, h9, f22_0, f22_10, f22_11, c63, c63p, g19_1, g19_1p, callOf]; done)) (by simp) (bad_ok (s := none) (by simp)) ?_
                                    rintro _ _ ⟨rfl, rfl⟩
                                    repeat (first | simp [hw0, htk6, hpl6, hcw, g1_3, g1_3p, c20, c20p, h3, h4, h5, f1_0, f1_1, f1_4, c27, c27p, hrem, hrem2, hne, hne2, hne3, hkl2, c50, c50p, bytesA_take, hkl2, hi0, h9, f22_0, f22_10, f22_11, c63, c63p, g19_1, g19_1p] | simp (disch := omega) only [wC, if_pos, if_neg])
                                    refine runL_splitB 80 (by first | rfl | (simp [hw0, htk6, hpl6, hcw, g1_3, g1_3p, c20, c20p, h3, h4, h5, f1_0, f1_1, f1_4, c27, c27p, hrem, hrem2, hne, hne2, hne3, hkl2, c50, c50p, bytesA_take, hkl2, hi0, h9, f22_0, f22_10, f22_11, c63, c63p, g19_1, g19_1p]; done)) (fun g19_5 => ?_) (fun g19_5 => ?_)
                                    · try (exfalso; have gq := g19_5; simp [hw0, htk6, hpl6, hcw, g1_3, g1_3p, c20, c20p, h3, h4, h5, f1_0, f1_1, f1_4, c27, c27p, hrem, hrem2, hne, hne2, hne3, hkl2, c50, c50p, bytesA_take, hkl2, hi0, h9, f22_0, f22_10, f22_11, c63, c63p, g19_1, g19_1p] at gq; first | done | omega)
                                      all_goals
                                       have g19_5p := g19_5
                                       try simp [hw0, htk6, hpl6, hcw, g1_3, g1_3p, c20, c20p, h3, h4, h5, f1_0, f1_1, f1_4, c27, c27p, hrem, hrem2, hne, hne2, hne3, hkl2, c50, c50p, bytesA_take, hkl2, hi0, h9, f22_0, f22_10, f22_11, c63, c63p, g19_1, g19_1p] at g19_5p
                                       all_goals (first | (have gq := g19_5p; skip) | have g19_5p : True := True.intro)
                                       all_goals
                                          refine runL_go (by first | rfl | (simp [hw0, htk6, hpl6, hcw, g1_3, g1_3p, c20, c20p, h3, h4, h5, f1_0, f1_1, f1_4, c27, c27p, hrem, hrem2, hne, hne2, hne3, hkl2, c50, c50p, bytesA_take, hkl2, hi0, h9, f22_0, f22_10, f22_11, c63, c63p, g19_1, g19_1p, g19_5, g19_5p, wantedA]; done)) rfl ?_
                                          repeat (first | simp [hw0, htk6, hpl6, hcw, g1_3, g1_3p, c20, c20p, h3, h4, h5, f1_0, f1_1, f1_4, c27, c27p, hrem, hrem2, hne, hne2, hne3, hkl2, c50, c50p, bytesA_take, hkl2, hi0, h9, f22_0, f22_10, f22_11, c63, c63p, g19_1, g19_1p, g19_5, g19_5p] | simp (disch := omega) only [wC, if_pos, if_neg])
                                          refine runL_call' (b := true) (by first | rfl | (simp [hw0, htk6, hpl6, hcw, g1_3, g1_3p, c20, c20p, h3, h4, h5, f1_0, f1_1, f1_4, c27, c27p, hrem, hrem2, hne, hne2, hne3, hkl2, c50, c50p, bytesA_take, hkl2, hi0, h9, f22_0, f22_10, f22_11, c63, c63p, g19_1, g19_1p, g19_5, g19_5p, wantedA]; done)) rfl rfl (by first | rfl | (simp [hw0, htk6, hpl6, hcw, g1_3, g1_3p, c20, c20p, h3, h4, h5, f1_0, f1_1, f1_4, c27, c27p, hrem, hrem2, hne, hne2, hne3, hkl2, c50, c50p, bytesA_take, hkl2, hi0, h9, f22_0, f22_10, f22_11, c63, c63p, g19_1, g19_1p, g19_5, g19_5p, callOf]; done)) (by simp) (end_ok (s := none) (by simp)) ?_
                                          rintro _ _ ⟨rfl, rfl⟩
                                          repeat (first | simp [hw0, htk6, hpl6, hcw, g1_3, g1_3p, c20, c20p, h3, h4, h5, f1_0, f1_1, f1_4, c27, c27p, hrem, hrem2, hne, hne2, hne3, hkl2, c50, c50p, bytesA_take, hkl2, hi0, h9, f22_0, f22_10, f22_11, c63, c63p, g19_1, g19_1p, g19_5, g19_5p] | simp (disch := omega) only [wC, if_pos, if_neg])
                                          refine runL_go (by first | rfl | (simp [hw0, htk6, hpl6, hcw, g1_3, g1_3p, c20, c20p, h3, h4, h5, f1_0, f1_1, f1_4, c27, c27p, hrem, hrem2, hne, hne2, hne3, hkl2, c50, c50p, bytesA_take, hkl2, hi0, h9, f22_0, f22_10, f22_11, c63, c63p, g19_1, g19_1p, g19_5, g19_5p, wantedA]; done)) rfl ?_
                                          repeat (first | simp [hw0, htk6, hpl6, hcw, g1_3, g1_3p, c20, c20p, h3, h4, h5, f1_0, f1_1, f1_4, c27, c27p, hrem, hrem2, hne, hne2, hne3, hkl2, c50, c50p, bytesA_take, hkl2, hi0, h9, f22_0, f22_10, f22_11, c63, c63p, g19_1, g19_1p, g19_5, g19_5p] | simp (disch := omega) only [wC, if_pos, if_neg])
                                          refine hJ61 _ _ ?_
                                          refine hK60 _ _ ?_
                                          refine run_ret ?_
                                          try simp only [Then, InBlock, NoGoto]
                                          refine answer_tmp rfl (.inr rfl) ?_
                                          exact ⟨by first | exact Wk.refl _ | (simp [hw0, htk6, hpl6, hcw, g1_3, g1_3p, c20, c20p, h3, h4, h5, f1_0, f1_1, f1_4, c27, c27p, hrem, hrem2, hne, hne2, hne3, hkl2, c50, c50p, bytesA_take, hkl2, hi0, h9, f22_0, f22_10, f22_11, c63, c63p, g19_1, g19_1p, g19_5, g19_5p]; exact Wk.refl _) | (simp [*]; exact Wk.refl _) | exact Wk.shut _ _ _ _ | exact Wk.nil _ _ _, _, _, _, st_app (by first | rfl | exact (List.append_nil _).symm | (simp [hw0, htk6, hpl6, hcw, g1_3, g1_3p, c20, c20p, h3, h4, h5, f1_0, f1_1, f1_4, c27, c27p, hrem, hrem2, hne, hne2, hne3, hkl2, c50, c50p, bytesA_take, hkl2, hi0, h9, f22_0, f22_10, f22_11, c63, c63p, g19_1, g19_1p, g19_5, g19_5p]; rfl) | (simp [hw0, htk6, hpl6, hcw, g1_3, g1_3p, c20, c20p, h3, h4, h5, f1_0, f1_1, f1_4, c27, c27p, hrem, hrem2, hne, hne2, hne3, hkl2, c50, c50p, bytesA_take, hkl2, hi0, h9, f22_0, f22_10, f22_11, c63, c63p, g19_1, g19_1p, g19_5, g19_5p]; done)) (by first | rfl | exact (List.append_nil _).symm | (simp; rfl)) (by first | rfl | exact (List.append_nil _).symm | (simp; rfl)) rfl⟩
                                    · try (exfalso; have gq := g19_5; simp [hw0, htk6, hpl6, hcw, g1_3, g1_3p, c20, c20p, h3, h4, h5, f1_0, f1_1, f1_4, c27, c27p, hrem, hrem2, hne, hne2, hne3, hkl2, c50, c50p, bytesA_take, hkl2, hi0, h9, f22_0, f22_10, f22_11, c63, c63p, g19_1, g19_1p] at gq; first | done | omega)
                                      all_goals
                                       have g19_5p := g19_5
                                       try simp [hw0, htk6, hpl6, hcw, g1_3, g1_3p, c20, c20p, h3, h4, h5, f1_0, f1_1, f1_4, c27, c27p, hrem, hrem2, hne, hne2, hne3, hkl2, c50, c50p, bytesA_take, hkl2, hi0, h9, f22_0, f22_10, f22_11, c63, c63p, g19_1, g19_1p] at g19_5p
                                       all_goals (first | (have gq := g19_5p; skip) | have g19_5p : True := True.intro)
                                       all_goals
                                          refine runL_no (by first | rfl | (simp [hw0, htk6, hpl6, hcw, g1_3, g1_3p, c20, c20p, h3, h4, h5, f1_0, f1_1, f1_4, c27, c27p, hrem, hrem2, hne, hne2, hne3, hkl2, c50, c50p, bytesA_take, hkl2, hi0, h9, f22_0, f22_10, f22_11, c63, c63p, g19_1, g19_1p, g19_5, g19_5p, wantedA]; done)) rfl ?_
                                          repeat (first | simp [hw0, htk6, hpl6, hcw, g1_3, g1_3p, c20, c20p, h3, h4, h5, f1_0, f1_1, f1_4, c27, c27p, hrem, hrem2, hne, hne2, hne3, hkl2, c50, c50p, bytesA_take, hkl2, hi0, h9, f22_0, f22_10, f22_11, c63, c63p, g19_1, g19_1p, g19_5, g19_5p] | simp (disch := omega) only [wC, if_pos, if_neg])
                                          refine runL_no (by first | rfl | (simp [hw0, htk6, hpl6, hcw, g1_3, g1_3p, c20, c20p, h3, h4, h5, f1_0, f1_1, f1_4, c27, c27p, hrem, hrem2, hne, hne2, hne3, hkl2, c50, c50p, bytesA_take, hkl2, hi0, h9, f22_0, f22_10, f22_11, c63, c63p, g19_1, g19_1p, g19_5, g19_5p, wantedA]; done)) rfl ?_
                                          repeat (first | simp [hw0, htk6, hpl6, hcw, g1_3, g1_3p, c20, c20p, h3, h4, h5, f1_0, f1_1, f1_4, c27, c27p, hrem, hrem2, hne, hne2, hne3, hkl2, c50, c50p, bytesA_take, hkl2, hi0, h9, f22_0, f22_10, f22_11, c63, c63p, g19_1, g19_1p, g19_5, g19_5p] | simp (disch := omega) only [wC, if_pos, if_neg])
                                          refine runL_no (by first | rfl | (simp [hw0, htk6, hpl6, hcw, g1_3, g1_3p, c20, c20p, h3, h4, h5, f1_0, f1_1, f1_4, c27, c27p, hrem, hrem2, hne, hne2, hne3, hkl2, c50, c50p, bytesA_take, hkl2, hi0, h9, f22_0, f22_10, f22_11, c63, c63p, g19_1, g19_1p, g19_5, g19_5p, wantedA]; done)) rfl ?_
                                          repeat (first | simp [hw0, htk6, hpl6, hcw, g1_3, g1_3p, c20, c20p, h3, h4, h5, f1_0, f1_1, f1_4, c27, c27p, hrem, hrem2, hne, hne2, hne3, hkl2, c50, c50p, bytesA_take, hkl2, hi0, h9, f22_0, f22_10, f22_11, c63, c63p, g19_1, g19_1p, g19_5, g19_5p] | simp (disch := omega) only [wC, if_pos, if_neg])
                                          refine hJ61 _ _ ?_
                                          refine hK60 _ _ ?_
                                          refine run_ret ?_
                                          try simp only [Then, InBlock, NoGoto]
                                          refine answer_tmp rfl (.inr rfl) ?_
                                          exact ⟨by first | exact Wk.refl _ | (simp [hw0, htk6, hpl6, hcw, g1_3, g1_3p, c20, c20p, h3, h4, h5, f1_0, f1_1, f1_4, c27, c27p, hrem, hrem2, hne, hne2, hne3, hkl2, c50, c50p, bytesA_take, hkl2, hi0, h9, f22_0, f22_10, f22_11, c63, c63p, g19_1, g19_1p, g19_5, g19_5p]; exact Wk.refl _) | (simp [*]; exact Wk.refl _) | exact Wk.shut _ _ _ _ | exact Wk.nil _ _ _, _, _, _, st_app (by first | rfl | exact (List.append_nil _).symm | (simp [hw0, htk6, hpl6, hcw, g1_3, g1_3p, c20, c20p, h3, h4, h5, f1_0, f1_1, f1_4, c27, c27p, hrem, hrem2, hne, hne2, hne3, hkl2, c50, c50p, bytesA_take, hkl2, hi0, h9, f22_0, f22_10, f22_11, c63, c63p, g19_1, g19_1p, g19_5, g19_5p]; rfl) | (simp [hw0, htk6, hpl6, hcw, g1_3, g1_3p, c20, c20p, h3, h4, h5, f1_0, f1_1, f1_4, c27, c27p, hrem, hrem2, hne, hne2, hne3, hkl2, c50, c50p, bytesA_take, hkl2, hi0, h9, f22_0, f22_10, f22_11, c63, c63p, g19_1, g19_1p, g19_5, g19_5p]; done)) (by first | rfl | exact (List.append_nil _).symm | (simp; rfl)) (by first | rfl | exact (List.append_nil _).symm | (simp; rfl)) rfl⟩
                              · try (exfalso; have gq := g19_1; simp [hw0, htk6, hpl6, hcw, g1_3, g1_3p, c20, c20p, h3, h4, h5, f1_0, f1_1, f1_4, c27, c27p, hrem, hrem2, hne, hne2, hne3, hkl2, c50, c50p, bytesA_take, hkl2, hi0, h9, f22_0, f22_10, f22_11, c63, c63p] at gq; first | done | omega)
                                all_goals
                                 have g19_1p := g19_1
                                 try simp [hw0, htk6, hpl6, hcw, g1_3, g1_3p, c20, c20p, h3, h4, h5, f1_0, f1_1, f1_4, c27, c27p, hrem, hrem2, hne, hne2, hne3, hkl2, c50, c50p, bytesA_take, hkl2, hi0, h9, f22_0, f22_10, f22_11, c63, c63p] at g19_1p
                                 all_goals (first | (have gq := g19_1p; skip) | have g19_1p : True := True.intro)
                                 all_goals
                                    refine runL_no (by first | rfl | (simp [hw0, htk6, hpl6, hcw, g1_3, g1_3p, c20, c20p, h3, h4, h5, f1_0, f1_1, f1_4, c27, c27p, hrem, hrem2, hne, hne2, hne3, hkl2, c50, c50p, bytesA_take, hkl2, hi0, h9, f22_0, f22_10, f22_11, c63, c63p, g19_1, g19_1p, wantedA]; done)) rfl ?_
                                    repeat (first | simp [hw0, htk6, hpl6, hcw, g1_3, g1_3p, c20, c20p, h3, h4, h5, f1_0, f1_1, f1_4, c27, c27p, hrem, hrem2, hne, hne2, hne3, hkl2, c50, c50p, bytesA_take, hkl2, hi0, h9, f22_0, f22_10, f22_11, c63, c63p, g19_1, g19_1p] | simp (disch := omega) only [wC, if_pos, if_neg])
                                    refine runL_no (by first | rfl | (simp [hw0, htk6, hpl6, hcw, g1_3, g1_3p, c20, c20p, h3, h4, h5, f1_0, f1_1, f1_4, c27, c27p, hrem, hrem2, hne, hne2, hne3, hkl2, c50, c50p, bytesA_take, hkl2, hi0, h9, f22_0, f22_10, f22_11, c63, c63p, g19_1, g19_1p, wantedA]; done)) rfl ?_
                                    repeat (first | simp [hw0, htk6, hpl6, hcw, g1_3, g1_3p, c20, c20p, h3, h4, h5, f1_0, f1_1, f1_4, c27, c27p, hrem, hrem2, hne, hne2, hne3, hkl2, c50, c50p, bytesA_take, hkl2, hi0, h9, f22_0, f22_10, f22_11, c63, c63p, g19_1, g19_1p] | simp (disch := omega) only [wC, if_pos, if_neg])
                                    refine runL_no (by first | rfl | (simp [hw0, htk6, hpl6, hcw, g1_3, g1_3p, c20, c20p, h3, h4, h5, f1_0, f1_1, f1_4, c27, c27p, hrem, hrem2, hne, hne2, hne3, hkl2, c50, c50p, bytesA_take, hkl2, hi0, h9, f22_0, f22_10, f22_11, c63, c63p, g19_1, g19_1p, wantedA]; done)) rfl ?_
                                    repeat (first | simp [hw0, htk6, hpl6, hcw, g1_3, g1_3p, c20, c20p, h3, h4, h5, f1_0, f1_1, f1_4, c27, c27p, hrem, hrem2, hne, hne2, hne3, hkl2, c50, c50p, bytesA_take, hkl2, hi0, h9, f22_0, f22_10, f22_11, c63, c63p, g19_1, g19_1p] | simp (disch := omega) only [wC, if_pos, if_neg])
                                    refine runL_no (by first | rfl | (simp [hw0, htk6, hpl6, hcw, g1_3, g1_3p, c20, c20p, h3, h4, h5, f1_0, f1_1, f1_4, c27, c27p, hrem, hrem2, hne, hne2, hne3, hkl2, c50, c50p, bytesA_take, hkl2, hi0, h9, f22_0, f22_10, f22_11, c63, c63p, g19_1, g19_1p, wantedA]; done)) rfl ?_
                                    repeat (first | simp [hw0, htk6, hpl6, hcw, g1_3, g1_3p, c20, c20p, h3, h4, h5, f1_0, f1_1, f1_4, c27, c27p, hrem, hrem2, hne, hne2, hne3, hkl2, c50, c50p, bytesA_take, hkl2, hi0, h9, f22_0, f22_10, f22_11, c63, c63p, g19_1, g19_1p] | simp (disch := omega) only [wC, if_pos, if_neg])
                                    refine runL_no (by first | rfl | (simp [hw0, htk6, hpl6, hcw, g1_3, g1_3p, c20, c20p, h3, h4, h5, f1_0, f1_1, f1_4, c27, c27p, hrem, hrem2, hne, hne2, hne3, hkl2, c50, c50p, bytesA_take, hkl2, hi0, h9, f22_0, f22_10, f22_11, c63, c63p, g19_1, g19_1p, wantedA]; done)) rfl ?_
                                    repeat (first | simp [hw0, htk6, hpl6, hcw, g1_3, g1_3p, c20, c20p, h3, h4, h5, f1_0, f1_1, f1_4, c27, c27p, hrem, hrem2, hne, hne2, hne3, hkl2, c50, c50p, bytesA_take, hkl2, hi0, h9, f22_0, f22_10, f22_11, c63, c63p, g19_1, g19_1p] | simp (disch := omega) only [wC, if_pos, if_neg])
                                    refine hJ61 _ _ ?_
                                    refine hK60 _ _ ?_
                                    refine run_ret ?_
                                    try simp only [Then, InBlock, NoGoto]
                                    refine answer_tmp rfl (.inr rfl) ?_
                                    exact ⟨by first | exact Wk.refl _ | (simp [hw0, htk6, hpl6, hcw, g1_3, g1_3p, c20, c20p, h3, h4, h5, f1_0, f1_1, f1_4, c27, c27p, hrem, hrem2, hne, hne2, hne3, hkl2, c50, c50p, bytesA_take, hkl2, hi0, h9, f22_0, f22_10, f22_11, c63, c63p, g19_1, g19_1p]; exact Wk.refl _) | (simp [*]; exact Wk.refl _) | exact Wk.shut _ _ _ _ | exact Wk.nil _ _ _, _, _, _, st_app (by first | rfl | exact (List.append_nil _).symm | (simp [hw0, htk6, hpl6, hcw, g1_3, g1_3p, c20, c20p, h3, h4, h5, f1_0, f1_1, f1_4, c27, c27p, hrem, hrem2, hne, hne2, hne3, hkl2, c50, c50p, bytesA_take, hkl2, hi0, h9, f22_0, f22_10, f22_11, c63, c63p, g19_1, g19_1p]; rfl) | (simp [hw0, htk6, hpl6, hcw, g1_3, g1_3p, c20, c20p, h3, h4, h5, f1_0, f1_1, f1_4, c27, c27p, hrem, hrem2, hne, hne2, hne3, hkl2, c50, c50p, bytesA_take, hkl2, hi0, h9, f22_0, f22_10, f22_11, c63, c63p, g19_1, g19_1p]; done)) (by first | rfl | exact (List.append_nil _).symm | (simp; rfl)) (by first | rfl | exact (List.append_nil _).symm | (simp; rfl)) rfl⟩

end Go.Proofs.Ytkbhdlocdajhmaa
