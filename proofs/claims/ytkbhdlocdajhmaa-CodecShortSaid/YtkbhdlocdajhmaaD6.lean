import Derived.Test.YtkbhdlocdajhmaaD5
/-
  Lists of coins: what both readers make of a list's bytes.
-/
namespace Go.Proofs.Ytkbhdlocdajhmaa
set_option linter.unnecessarySimpa false
open Go Go.Vm
set_option linter.unusedSimpArgs false
set_option linter.unusedVariables false
set_option maxRecDepth 100000

attribute [local simp] evalL wantedA isCall opA evalA evalAll evalsA evalOpt ofValue ofCell plain binA_eql_pn binA_neq_pn binA_gtr binA_lss binA_geq binA_leq binA_add binA_sub binA_eql binA_neq binA_or binA_shl binA_shr binA_mul binA_quo binA_rem binA_agg_eql binA_agg_neq convA_int unA_not fieldAddrA loadA partA pickA_true pickA_false pickA_bb lenA builtinA storeA splice AV.cells AV.isCell sliceA boundA intA callOf indexAddrA newObjA buildA fillA zeroA ofCells indexA fieldA coinsC_at

theorem noObjL_inC (n : Nat) (p : List UInt8) (k : Nat) (b : Bool) : noObjL n (inC p .shut k b) = true := by simp [inC, noObjL, AV.noObj]

theorem gcO_slA (n k : Nat) (l : List Coin) : AV.gcO n (slA k l) = slA k l := by
  unfold slA
  split <;> simp [AV.gcO, noObjL]

structure CSk where
  m : Nat
  s : Option (List UInt8)
  l : List Coin
  k : Nat

attribute [local simp] undefA List.getElem?_cons_zero List.getElem?_cons_succ in
theorem inCoins_ok {σ : St} {id k : Nat} {p : List UInt8} {s : Option (List UInt8)} (h : σ.objs[id]? = some (inC p .shut k s.isNone)) (hp : p.length ≤ 1000000) (hk : At p k s) :
    CallsA Try.prog 43 [.ptr id 0] σ (fun av σ' => av = .sl 5 (coinsC (coinsL s)) (coinsL s).length .shut ∧ ∃ k', At p k' (coinsS s) ∧ σ' = { σ with objs := σ.objs.set id (inC p .shut k' (coinsS s).isNone) }) := by
  refine callsA_gcI (x := fun k' => inC p .shut k' (coinsS s).isNone) ?_ (by simp [AV.under]) (fun _ => inC_under _ _ _ _)
  have hs := set_self_of h
  have hlt := lt_of_get h
  have ho2 : ∀ x r, (σ.objs.set id x ++ r)[id]? = some x := fun x r => by rw [List.getElem?_append_left (by simpa using hlt)]; exact hs x
  have ho3 : ∀ x r, (σ.objs ++ r).set id x = σ.objs.set id x ++ r := fun x r => List.set_append_left _ _ hlt
  have ho4 : ∀ x y r, (σ.objs.set id y ++ r).set id x = σ.objs.set id x ++ r := fun x y r => by rw [List.set_append_left _ _ (by simpa using hlt), List.set_set]
  have hm := be_lt1 (takeB_len 1 s)
  refine callsA_body Try.func43 rfl rfl rfl ?_
  refine run_seq_k fun K1 hK1 => ?_
  refine run_region_k rfl fun J2 hJ2 => ?_
  repeat (first | simp [h, hs, ho2, ho3, ho4, coinS_cells, build_coin, append_slA, noObjL_inC, gcO_slA, hlt] | simp (disch := omega) only [wC, if_pos, if_neg])
  refine hJ2 _ _ ?_
  refine hK1 _ _ ?_
  refine run_seq_k fun K3 hK3 => ?_
  refine run_region_k rfl fun J4 hJ4 => ?_
  repeat (first | simp [h, hs, ho2, ho3, ho4, coinS_cells, build_coin, append_slA, noObjL_inC, gcO_slA, hlt] | simp (disch := omega) only [wC, if_pos, if_neg])
  refine hJ4 _ _ ?_
  refine hK3 _ _ ?_
  refine run_seq_k fun K5 hK5 => ?_
  refine run_region_k rfl fun J6 hJ6 => ?_
  repeat (first | simp [h, hs, ho2, ho3, ho4, coinS_cells, build_coin, append_slA, noObjL_inC, gcO_slA, hlt] | simp (disch := omega) only [wC, if_pos, if_neg])
  refine runL_call' (b := true) (by first | rfl | (simp [h, hs, ho2, ho3, ho4, coinS_cells, build_coin, append_slA, noObjL_inC, gcO_slA, hlt, wantedA]; done)) rfl rfl (by first | rfl | (simp [h, hs, ho2, ho3, ho4, coinS_cells, build_coin, append_slA, noObjL_inC, gcO_slA, hlt, callOf]; done)) (by simp) (inByte_ok h hp hk) ?_
  rintro _ _ ⟨rfl, k0, hk0, rfl⟩
  repeat (first | simp [h, hs, ho2, ho3, ho4, coinS_cells, build_coin, append_slA, noObjL_inC, gcO_slA, hlt] | simp (disch := omega) only [wC, if_pos, if_neg])
  refine hJ6 _ _ ?_
  refine hK5 _ _ ?_
  refine run_seq_k fun K7 hK7 => ?_
  refine run_seq_k fun K8 hK8 => ?_
  refine run_region_k rfl fun J9 hJ9 => ?_
  repeat (first | simp [h, hs, ho2, ho3, ho4, coinS_cells, build_coin, append_slA, noObjL_inC, gcO_slA, hlt] | simp (disch := omega) only [wC, if_pos, if_neg])
  refine hJ9 _ _ ?_
  refine hK8 _ _ ?_
  refine run_block_k ?_
  refine run_loopG (X := CSk) [0, 2, 4] (fun q ρ σ1 => (q.m ≤ be (takeB 1 s)) ∧ (q.m + q.l.length ≤ 255) ∧ (coinsGo q.m q.s q.l = coinsR s) ∧ (At p q.k q.s) ∧ (ρ 5 = .v (.int .i64 (be (takeB 1 s) - q.m : Nat))) ∧ (ρ 3 = slA σ.toks.length q.l) ∧ (σ1 = { σ with objs := σ.objs.set id (inC p .shut q.k q.s.isNone), toks := σ.toks ++ tkA q.l })) (fun q => q.m) (⟨be (takeB 1 s), takeS 1 s, [], k0⟩) ?st1 ?rd1
  case st1 =>
    refine ⟨?_, ?_, ?_, ?_, ?_, ?_, ?_⟩
    · first | rfl | omega | assumption | ((repeat (first | simp [h, hs, ho2, ho3, ho4, coinS_cells, build_coin, append_slA, noObjL_inC, gcO_slA, hlt] | simp (disch := omega) only [wC, if_pos, if_neg])); first | done | omega) | (simp only [putA_get]; (repeat (first | simp (disch := omega) only [wC, if_pos, if_neg] | simp [h, hs, ho2, ho3, ho4, coinS_cells, build_coin, append_slA, noObjL_inC, gcO_slA, hlt])); done)
    · simp
      omega
    · first | rfl | omega | assumption | ((repeat (first | simp [h, hs, ho2, ho3, ho4, coinS_cells, build_coin, append_slA, noObjL_inC, gcO_slA, hlt] | simp (disch := omega) only [wC, if_pos, if_neg])); first | done | omega) | (simp only [putA_get]; (repeat (first | simp (disch := omega) only [wC, if_pos, if_neg] | simp [h, hs, ho2, ho3, ho4, coinS_cells, build_coin, append_slA, noObjL_inC, gcO_slA, hlt])); done)
    · first | rfl | omega | assumption | ((repeat (first | simp [h, hs, ho2, ho3, ho4, coinS_cells, build_coin, append_slA, noObjL_inC, gcO_slA, hlt] | simp (disch := omega) only [wC, if_pos, if_neg])); first | done | omega) | (simp only [putA_get]; (repeat (first | simp (disch := omega) only [wC, if_pos, if_neg] | simp [h, hs, ho2, ho3, ho4, coinS_cells, build_coin, append_slA, noObjL_inC, gcO_slA, hlt])); done)
    · first | rfl | omega | assumption | ((repeat (first | simp [h, hs, ho2, ho3, ho4, coinS_cells, build_coin, append_slA, noObjL_inC, gcO_slA, hlt] | simp (disch := omega) only [wC, if_pos, if_neg])); first | done | omega) | (simp only [putA_get]; (repeat (first | simp (disch := omega) only [wC, if_pos, if_neg] | simp [h, hs, ho2, ho3, ho4, coinS_cells, build_coin, append_slA, noObjL_inC, gcO_slA, hlt])); done)
    · first | rfl | omega | assumption | ((repeat (first | simp [h, hs, ho2, ho3, ho4, coinS_cells, build_coin, append_slA, noObjL_inC, gcO_slA, hlt] | simp (disch := omega) only [wC, if_pos, if_neg])); first | done | omega) | (simp only [putA_get]; (repeat (first | simp (disch := omega) only [wC, if_pos, if_neg] | simp [h, hs, ho2, ho3, ho4, coinS_cells, build_coin, append_slA, noObjL_inC, gcO_slA, hlt])); done)
    · first | rfl | omega | assumption | ((repeat (first | simp [h, hs, ho2, ho3, ho4, coinS_cells, build_coin, append_slA, noObjL_inC, gcO_slA, hlt] | simp (disch := omega) only [wC, if_pos, if_neg])); first | done | omega) | (simp only [putA_get]; (repeat (first | simp (disch := omega) only [wC, if_pos, if_neg] | simp [h, hs, ho2, ho3, ho4, coinS_cells, build_coin, append_slA, noObjL_inC, gcO_slA, hlt])); done)
  case rd1 =>
    rintro q ρ1 σ1 hF1 ⟨hm, hml, hg, hq, hi, h3, hσ⟩
    obtain rfl := hσ.symm
    have f1_0 := hF1 0 (by decide)
    try simp [h, hs, ho2, ho3, ho4, coinS_cells, build_coin, append_slA, noObjL_inC, gcO_slA, hlt] at f1_0
    have f1_2 := hF1 2 (by decide)
    try simp [h, hs, ho2, ho3, ho4, coinS_cells, build_coin, append_slA, noObjL_inC, gcO_slA, hlt] at f1_2
    have f1_4 := hF1 4 (by decide)
    try simp [h, hs, ho2, ho3, ho4, coinS_cells, build_coin, append_slA, noObjL_inC, gcO_slA, hlt] at f1_4
    refine run_seq_k fun K10 hK10 => ?_
    refine run_seq_k fun K11 hK11 => ?_
    refine run_region_k rfl fun J12 hJ12 => ?_
    repeat (first | simp [h, hs, ho2, ho3, ho4, coinS_cells, build_coin, append_slA, noObjL_inC, gcO_slA, hlt, hi, h3, f1_0, f1_2, f1_4] | simp (disch := omega) only [wC, if_pos, if_neg])
    refine runL_splitB 14 (by first | rfl | (simp [h, hs, ho2, ho3, ho4, coinS_cells, build_coin, append_slA, noObjL_inC, gcO_slA, hlt, hi, h3, f1_0, f1_2, f1_4]; done)) (fun g4_3 => ?_) (fun g4_3 => ?_)
    · try (exfalso; have gq := g4_3; simp [h, hs, ho2, ho3, ho4, coinS_cells, build_coin, append_slA, noObjL_inC, gcO_slA, hlt, hi, h3, f1_0, f1_2, f1_4] at gq; first | done | omega)
      all_goals
       have g4_3p := g4_3
       try simp [h, hs, ho2, ho3, ho4, coinS_cells, build_coin, append_slA, noObjL_inC, gcO_slA, hlt, hi, h3, f1_0, f1_2, f1_4] at g4_3p
       all_goals (first | (have gq := g4_3p; skip) | have g4_3p : True := True.intro)
       all_goals
          refine runL_go (by first | rfl | (simp [h, hs, ho2, ho3, ho4, coinS_cells, build_coin, append_slA, noObjL_inC, gcO_slA, hlt, hi, h3, f1_0, f1_2, f1_4, g4_3, g4_3p, wantedA]; done)) rfl ?_
          repeat (first | simp [h, hs, ho2, ho3, ho4, coinS_cells, build_coin, append_slA, noObjL_inC, gcO_slA, hlt, hi, h3, f1_0, f1_2, f1_4, g4_3, g4_3p] | simp (disch := omega) only [wC, if_pos, if_neg])
          refine runL_go (by first | rfl | (simp [h, hs, ho2, ho3, ho4, coinS_cells, build_coin, append_slA, noObjL_inC, gcO_slA, hlt, hi, h3, f1_0, f1_2, f1_4, g4_3, g4_3p, wantedA]; done)) rfl ?_
          repeat (first | simp [h, hs, ho2, ho3, ho4, coinS_cells, build_coin, append_slA, noObjL_inC, gcO_slA, hlt, hi, h3, f1_0, f1_2, f1_4, g4_3, g4_3p] | simp (disch := omega) only [wC, if_pos, if_neg])
          refine runL_go (by first | rfl | (simp [h, hs, ho2, ho3, ho4, coinS_cells, build_coin, append_slA, noObjL_inC, gcO_slA, hlt, hi, h3, f1_0, f1_2, f1_4, g4_3, g4_3p, wantedA]; done)) rfl ?_
          repeat (first | simp [h, hs, ho2, ho3, ho4, coinS_cells, build_coin, append_slA, noObjL_inC, gcO_slA, hlt, hi, h3, f1_0, f1_2, f1_4, g4_3, g4_3p] | simp (disch := omega) only [wC, if_pos, if_neg])
          refine runL_go (by first | rfl | (simp [h, hs, ho2, ho3, ho4, coinS_cells, build_coin, append_slA, noObjL_inC, gcO_slA, hlt, hi, h3, f1_0, f1_2, f1_4, g4_3, g4_3p, wantedA]; done)) rfl ?_
          repeat (first | simp [h, hs, ho2, ho3, ho4, coinS_cells, build_coin, append_slA, noObjL_inC, gcO_slA, hlt, hi, h3, f1_0, f1_2, f1_4, g4_3, g4_3p] | simp (disch := omega) only [wC, if_pos, if_neg])
          refine runL_go (by first | rfl | (simp [h, hs, ho2, ho3, ho4, coinS_cells, build_coin, append_slA, noObjL_inC, gcO_slA, hlt, hi, h3, f1_0, f1_2, f1_4, g4_3, g4_3p, wantedA]; done)) rfl ?_
          repeat (first | simp [h, hs, ho2, ho3, ho4, coinS_cells, build_coin, append_slA, noObjL_inC, gcO_slA, hlt, hi, h3, f1_0, f1_2, f1_4, g4_3, g4_3p] | simp (disch := omega) only [wC, if_pos, if_neg])
          refine hJ12 _ _ ?_
          refine hK11 _ _ ?_
          refine run_cond_split (by first | rfl | (simp [h, hs, ho2, ho3, ho4, coinS_cells, build_coin, append_slA, noObjL_inC, gcO_slA, hlt, hi, h3, f1_0, f1_2, f1_4, g4_3, g4_3p, evalA]; done)) (fun c20 => ?_) (fun c20 => ?_)
          · try (exfalso; have gq := c20; simp [h, hs, ho2, ho3, ho4, coinS_cells, build_coin, append_slA, noObjL_inC, gcO_slA, hlt, hi, h3, f1_0, f1_2, f1_4, g4_3, g4_3p] at gq; first | done | omega)
            all_goals
             have c20p := c20
             try simp [h, hs, ho2, ho3, ho4, coinS_cells, build_coin, append_slA, noObjL_inC, gcO_slA, hlt, hi, h3, f1_0, f1_2, f1_4, g4_3, g4_3p] at c20p
             all_goals (first | (have gq := c20p; skip) | have c20p : True := True.intro)
             all_goals
              refine run_skip ?_
              refine hK10 _ _ ?_
              refine run_seq_k fun K13 hK13 => ?_
              refine run_block_k ?_
              refine run_seq_k fun K14 hK14 => ?_
              refine run_region_k rfl fun J15 hJ15 => ?_
              repeat (first | simp [h, hs, ho2, ho3, ho4, coinS_cells, build_coin, append_slA, noObjL_inC, gcO_slA, hlt, hi, h3, f1_0, f1_2, f1_4, g4_3, g4_3p, c20, c20p] | simp (disch := omega) only [wC, if_pos, if_neg])
              refine runL_call' (b := true) (by first | rfl | (simp [h, hs, ho2, ho3, ho4, coinS_cells, build_coin, append_slA, noObjL_inC, gcO_slA, hlt, hi, h3, f1_0, f1_2, f1_4, g4_3, g4_3p, c20, c20p, wantedA]; done)) rfl rfl (by first | rfl | (simp [h, hs, ho2, ho3, ho4, coinS_cells, build_coin, append_slA, noObjL_inC, gcO_slA, hlt, hi, h3, f1_0, f1_2, f1_4, g4_3, g4_3p, c20, c20p, callOf]; done)) (by simp) (inByte_ok (hs _) hp hq) ?_
              rintro _ _ ⟨rfl, k1, hk1, rfl⟩
              repeat (first | simp [h, hs, ho2, ho3, ho4, coinS_cells, build_coin, append_slA, noObjL_inC, gcO_slA, hlt, hi, h3, f1_0, f1_2, f1_4, g4_3, g4_3p, c20, c20p] | simp (disch := omega) only [wC, if_pos, if_neg])
              refine hJ15 _ _ ?_
              refine hK14 _ _ ?_
              refine run_seq_k fun K16 hK16 => ?_
              refine run_region_k rfl fun J17 hJ17 => ?_
              repeat (first | simp [h, hs, ho2, ho3, ho4, coinS_cells, build_coin, append_slA, noObjL_inC, gcO_slA, hlt, hi, h3, f1_0, f1_2, f1_4, g4_3, g4_3p, c20, c20p] | simp (disch := omega) only [wC, if_pos, if_neg])
              refine runL_call' (b := true) (by first | rfl | (simp [h, hs, ho2, ho3, ho4, coinS_cells, build_coin, append_slA, noObjL_inC, gcO_slA, hlt, hi, h3, f1_0, f1_2, f1_4, g4_3, g4_3p, c20, c20p, wantedA]; done)) rfl rfl (by first | rfl | (simp [h, hs, ho2, ho3, ho4, coinS_cells, build_coin, append_slA, noObjL_inC, gcO_slA, hlt, hi, h3, f1_0, f1_2, f1_4, g4_3, g4_3p, c20, c20p, callOf]; done)) (by simp) (inNum_ok (hs _) hp hk1) ?_
              rintro _ _ ⟨rfl, k2, hk2, rfl⟩
              repeat (first | simp [h, hs, ho2, ho3, ho4, coinS_cells, build_coin, append_slA, noObjL_inC, gcO_slA, hlt, hi, h3, f1_0, f1_2, f1_4, g4_3, g4_3p, c20, c20p] | simp (disch := omega) only [wC, if_pos, if_neg])
              refine hJ17 _ _ ?_
              refine hK16 _ _ ?_
              have : Small q.l := ⟨by omega⟩
              refine run_region_k rfl fun J18 hJ18 => ?_
              repeat (first | simp [h, hs, ho2, ho3, ho4, coinS_cells, build_coin, append_slA, noObjL_inC, gcO_slA, hlt, hi, h3, f1_0, f1_2, f1_4, g4_3, g4_3p, c20, c20p] | simp (disch := omega) only [wC, if_pos, if_neg])
              refine hJ18 _ _ ?_
              refine hK13 _ _ ?_
              refine run_region_k rfl fun J19 hJ19 => ?_
              repeat (first | simp [h, hs, ho2, ho3, ho4, coinS_cells, build_coin, append_slA, noObjL_inC, gcO_slA, hlt, hi, h3, f1_0, f1_2, f1_4, g4_3, g4_3p, c20, c20p] | simp (disch := omega) only [wC, if_pos, if_neg])
              refine hJ19 _ _ ?_
              refine ⟨gone_kp rfl (by repeat (first | exact kp_refl _ | exact Kp.nil _ | refine kp_app (by simp) ?_ ?_ | refine kp_more ?_ | refine kp_setset ?_ (by simp [h, hs, ho2, ho3, ho4, coinS_cells, build_coin, append_slA, noObjL_inC, gcO_slA, hlt, hi, h3, f1_0, f1_2, f1_4, g4_3, g4_3p, c20, c20p, noObjL, AV.noObj]) | refine kp_set ?_ (by simp [h, hs, ho2, ho3, ho4, coinS_cells, build_coin, append_slA, noObjL_inC, gcO_slA, hlt, hi, h3, f1_0, f1_2, f1_4, g4_3, g4_3p, c20, c20p, noObjL, AV.noObj]) | refine Kp.cons (by first | exact .inl rfl | (right; simp [h, hs, ho2, ho3, ho4, coinS_cells, build_coin, append_slA, noObjL_inC, gcO_slA, hlt, hi, h3, f1_0, f1_2, f1_4, g4_3, g4_3p, c20, c20p, noObjL, AV.noObj])) ?_)) (by repeat (first | exact kpr_refl _ | refine kpr_set ?_ (by simp [h, hs, ho2, ho3, ho4, coinS_cells, build_coin, append_slA, noObjL_inC, gcO_slA, hlt, hi, h3, f1_0, f1_2, f1_4, g4_3, g4_3p, c20, c20p, noObjL, AV.noObj]) | refine kpr_app ?_ (by simp [h, hs, ho2, ho3, ho4, coinS_cells, build_coin, append_slA, noObjL_inC, gcO_slA, hlt, hi, h3, f1_0, f1_2, f1_4, g4_3, g4_3p, c20, c20p, noObjL, AV.noObj]))), (⟨q.m - 1, numS (takeS 1 q.s), q.l ++ [coinS q.s], k2⟩), ⟨?_, ?_, ?_, ?_, ?_, ?_, ?_, ?_⟩, ?_⟩
              · (intro r hr; simp only [List.mem_cons, List.not_mem_nil, or_false] at hr; rcases hr with rfl | rfl | rfl <;> first | rfl | (simp [h, hs, ho2, ho3, ho4, coinS_cells, build_coin, append_slA, noObjL_inC, gcO_slA, hlt, hi, h3, f1_0, f1_2, f1_4, g4_3, g4_3p, c20, c20p, AV.gcO, gcOL, noObjL, AV.noObj, St.trimO]; done))
              · simp
                omega
              · simp
                omega
              · rw [← hg]
                exact (coinsGo_more (by simp at g4_3; omega) (by intro e; simp [e] at c20p)).symm
              · exact hk2
              · simp [AV.gcO]
                omega
              · first | rfl | omega | assumption | ((repeat (first | simp [h, hs, ho2, ho3, ho4, coinS_cells, build_coin, append_slA, noObjL_inC, gcO_slA, hlt, hi, h3, f1_0, f1_2, f1_4, g4_3, g4_3p, c20, c20p, AV.gcO, gcOL, noObjL, AV.noObj, St.trimO] | simp (disch := omega) only [wC, if_pos, if_neg])); first | done | omega) | (simp only [putA_get]; (repeat (first | simp (disch := omega) only [wC, if_pos, if_neg] | simp [h, hs, ho2, ho3, ho4, coinS_cells, build_coin, append_slA, noObjL_inC, gcO_slA, hlt, hi, h3, f1_0, f1_2, f1_4, g4_3, g4_3p, c20, c20p, AV.gcO, gcOL, noObjL, AV.noObj, St.trimO])); done)
              · first | rfl | omega | assumption | ((repeat (first | simp [h, hs, ho2, ho3, ho4, coinS_cells, build_coin, append_slA, noObjL_inC, gcO_slA, hlt, hi, h3, f1_0, f1_2, f1_4, g4_3, g4_3p, c20, c20p, AV.gcO, gcOL, noObjL, AV.noObj, St.trimO] | simp (disch := omega) only [wC, if_pos, if_neg])); first | done | omega) | (simp only [putA_get]; (repeat (first | simp (disch := omega) only [wC, if_pos, if_neg] | simp [h, hs, ho2, ho3, ho4, coinS_cells, build_coin, append_slA, noObjL_inC, gcO_slA, hlt, hi, h3, f1_0, f1_2, f1_4, g4_3, g4_3p, c20, c20p, AV.gcO, gcOL, noObjL, AV.noObj, St.trimO])); done)
              · simp
                omega
          · try (exfalso; have gq := c20; simp [h, hs, ho2, ho3, ho4, coinS_cells, build_coin, append_slA, noObjL_inC, gcO_slA, hlt, hi, h3, f1_0, f1_2, f1_4, g4_3, g4_3p] at gq; first | done | omega)
            all_goals
             have c20p := c20
             try simp [h, hs, ho2, ho3, ho4, coinS_cells, build_coin, append_slA, noObjL_inC, gcO_slA, hlt, hi, h3, f1_0, f1_2, f1_4, g4_3, g4_3p] at c20p
             all_goals (first | (have gq := c20p; skip) | have c20p : True := True.intro)
             all_goals
              refine run_exit ?_
              refine hK7 _ _ ?_
              refine run_seq_k fun K20 hK20 => ?_
              refine run_seq_k fun K21 hK21 => ?_
              refine run_region_k rfl fun J22 hJ22 => ?_
              repeat (first | simp [h, hs, ho2, ho3, ho4, coinS_cells, build_coin, append_slA, noObjL_inC, gcO_slA, hlt, hi, h3, f1_0, f1_2, f1_4, g4_3, g4_3p, c20, c20p] | simp (disch := omega) only [wC, if_pos, if_neg])
              refine runL_splitB 37 (by first | rfl | (simp [h, hs, ho2, ho3, ho4, coinS_cells, build_coin, append_slA, noObjL_inC, gcO_slA, hlt, hi, h3, f1_0, f1_2, f1_4, g4_3, g4_3p, c20, c20p]; done)) (fun g9_4 => ?_) (fun g9_4 => ?_)
              · try (exfalso; have gq := g9_4; simp [h, hs, ho2, ho3, ho4, coinS_cells, build_coin, append_slA, noObjL_inC, gcO_slA, hlt, hi, h3, f1_0, f1_2, f1_4, g4_3, g4_3p, c20, c20p] at gq; first | done | omega)
                all_goals
                 have g9_4p := g9_4
                 try simp [h, hs, ho2, ho3, ho4, coinS_cells, build_coin, append_slA, noObjL_inC, gcO_slA, hlt, hi, h3, f1_0, f1_2, f1_4, g4_3, g4_3p, c20, c20p] at g9_4p
                 all_goals (first | (have gq := g9_4p; skip) | have g9_4p : True := True.intro)
                 all_goals
                    refine runL_no (by first | rfl | (simp [h, hs, ho2, ho3, ho4, coinS_cells, build_coin, append_slA, noObjL_inC, gcO_slA, hlt, hi, h3, f1_0, f1_2, f1_4, g4_3, g4_3p, c20, c20p, g9_4, g9_4p, wantedA]; done)) rfl ?_
                    repeat (first | simp [h, hs, ho2, ho3, ho4, coinS_cells, build_coin, append_slA, noObjL_inC, gcO_slA, hlt, hi, h3, f1_0, f1_2, f1_4, g4_3, g4_3p, c20, c20p, g9_4, g9_4p] | simp (disch := omega) only [wC, if_pos, if_neg])
                    refine runL_no (by first | rfl | (simp [h, hs, ho2, ho3, ho4, coinS_cells, build_coin, append_slA, noObjL_inC, gcO_slA, hlt, hi, h3, f1_0, f1_2, f1_4, g4_3, g4_3p, c20, c20p, g9_4, g9_4p, wantedA]; done)) rfl ?_
                    repeat (first | simp [h, hs, ho2, ho3, ho4, coinS_cells, build_coin, append_slA, noObjL_inC, gcO_slA, hlt, hi, h3, f1_0, f1_2, f1_4, g4_3, g4_3p, c20, c20p, g9_4, g9_4p] | simp (disch := omega) only [wC, if_pos, if_neg])
                    refine runL_no (by first | rfl | (simp [h, hs, ho2, ho3, ho4, coinS_cells, build_coin, append_slA, noObjL_inC, gcO_slA, hlt, hi, h3, f1_0, f1_2, f1_4, g4_3, g4_3p, c20, c20p, g9_4, g9_4p, wantedA]; done)) rfl ?_
                    repeat (first | simp [h, hs, ho2, ho3, ho4, coinS_cells, build_coin, append_slA, noObjL_inC, gcO_slA, hlt, hi, h3, f1_0, f1_2, f1_4, g4_3, g4_3p, c20, c20p, g9_4, g9_4p] | simp (disch := omega) only [wC, if_pos, if_neg])
                    refine hJ22 _ _ ?_
                    refine hK21 _ _ ?_
                    refine run_cond_true (by first | rfl | (simp [h, hs, ho2, ho3, ho4, coinS_cells, build_coin, append_slA, noObjL_inC, gcO_slA, hlt, hi, h3, f1_0, f1_2, f1_4, g4_3, g4_3p, c20, c20p, g9_4, g9_4p, evalA]; done)) ?_
                    refine run_seq_k fun K23 hK23 => ?_
                    refine run_region_k rfl fun J24 hJ24 => ?_
                    repeat (first | simp [h, hs, ho2, ho3, ho4, coinS_cells, build_coin, append_slA, noObjL_inC, gcO_slA, hlt, hi, h3, f1_0, f1_2, f1_4, g4_3, g4_3p, c20, c20p, g9_4, g9_4p] | simp (disch := omega) only [wC, if_pos, if_neg])
                    refine hJ24 _ _ ?_
                    refine hK23 _ _ ?_
                    refine run_seq_k fun K25 hK25 => ?_
                    refine run_region_k rfl fun J26 hJ26 => ?_
                    repeat (first | simp [h, hs, ho2, ho3, ho4, coinS_cells, build_coin, append_slA, noObjL_inC, gcO_slA, hlt, hi, h3, f1_0, f1_2, f1_4, g4_3, g4_3p, c20, c20p, g9_4, g9_4p] | simp (disch := omega) only [wC, if_pos, if_neg])
                    refine hJ26 _ _ ?_
                    refine hK25 _ _ ?_
                    refine run_ret ?_
                    try simp only [Then, InBlock, NoGoto]
                    refine answer_tmp rfl (.inr rfl) ?_
                    have h0 : q.s = none := (by simpa using c20)
                    obtain ⟨e1, e2⟩ := coinsR_none (L := q.l) (S := q.s) (by rw [← hg]; exact coinsGo_stop (.inr h0)) (.inr h0)
                    rw [e1, e2]
                    exact ⟨q.k, ⟨hq.1, .inl rfl⟩, Wk.nil _ _ _, [], tkA q.l, [], by simp [inC]⟩
              · try (exfalso; have gq := g9_4; simp [h, hs, ho2, ho3, ho4, coinS_cells, build_coin, append_slA, noObjL_inC, gcO_slA, hlt, hi, h3, f1_0, f1_2, f1_4, g4_3, g4_3p, c20, c20p] at gq; first | done | omega)
                all_goals
                 have g9_4p := g9_4
                 try simp [h, hs, ho2, ho3, ho4, coinS_cells, build_coin, append_slA, noObjL_inC, gcO_slA, hlt, hi, h3, f1_0, f1_2, f1_4, g4_3, g4_3p, c20, c20p] at g9_4p
                 all_goals (first | (have gq := g9_4p; skip) | have g9_4p : True := True.intro)
                 all_goals
                    refine runL_go (by first | rfl | (simp [h, hs, ho2, ho3, ho4, coinS_cells, build_coin, append_slA, noObjL_inC, gcO_slA, hlt, hi, h3, f1_0, f1_2, f1_4, g4_3, g4_3p, c20, c20p, g9_4, g9_4p, wantedA]; done)) rfl ?_
                    repeat (first | simp [h, hs, ho2, ho3, ho4, coinS_cells, build_coin, append_slA, noObjL_inC, gcO_slA, hlt, hi, h3, f1_0, f1_2, f1_4, g4_3, g4_3p, c20, c20p, g9_4, g9_4p] | simp (disch := omega) only [wC, if_pos, if_neg])
                    refine runL_call' (b := true) (by first | rfl | (simp [h, hs, ho2, ho3, ho4, coinS_cells, build_coin, append_slA, noObjL_inC, gcO_slA, hlt, hi, h3, f1_0, f1_2, f1_4, g4_3, g4_3p, c20, c20p, g9_4, g9_4p, wantedA]; done)) rfl rfl (by first | rfl | (simp [h, hs, ho2, ho3, ho4, coinS_cells, build_coin, append_slA, noObjL_inC, gcO_slA, hlt, hi, h3, f1_0, f1_2, f1_4, g4_3, g4_3p, c20, c20p, g9_4, g9_4p, callOf]; done)) (by simp) (rright_slA (by omega)) ?_
                    rintro _ _ ⟨rfl, rfl⟩
                    repeat (first | simp [h, hs, ho2, ho3, ho4, coinS_cells, build_coin, append_slA, noObjL_inC, gcO_slA, hlt, hi, h3, f1_0, f1_2, f1_4, g4_3, g4_3p, c20, c20p, g9_4, g9_4p] | simp (disch := omega) only [wC, if_pos, if_neg])
                    refine runL_go (by first | rfl | (simp [h, hs, ho2, ho3, ho4, coinS_cells, build_coin, append_slA, noObjL_inC, gcO_slA, hlt, hi, h3, f1_0, f1_2, f1_4, g4_3, g4_3p, c20, c20p, g9_4, g9_4p, wantedA]; done)) rfl ?_
                    repeat (first | simp [h, hs, ho2, ho3, ho4, coinS_cells, build_coin, append_slA, noObjL_inC, gcO_slA, hlt, hi, h3, f1_0, f1_2, f1_4, g4_3, g4_3p, c20, c20p, g9_4, g9_4p] | simp (disch := omega) only [wC, if_pos, if_neg])
                    refine hJ22 _ _ ?_
                    refine hK21 _ _ ?_
                    refine run_cond_split (by first | rfl | (simp [h, hs, ho2, ho3, ho4, coinS_cells, build_coin, append_slA, noObjL_inC, gcO_slA, hlt, hi, h3, f1_0, f1_2, f1_4, g4_3, g4_3p, c20, c20p, g9_4, g9_4p, evalA]; done)) (fun c41 => ?_) (fun c41 => ?_)
                    · try (exfalso; have gq := c41; simp [h, hs, ho2, ho3, ho4, coinS_cells, build_coin, append_slA, noObjL_inC, gcO_slA, hlt, hi, h3, f1_0, f1_2, f1_4, g4_3, g4_3p, c20, c20p, g9_4, g9_4p] at gq; first | done | omega)
                      all_goals
                       have c41p := c41
                       try simp [h, hs, ho2, ho3, ho4, coinS_cells, build_coin, append_slA, noObjL_inC, gcO_slA, hlt, hi, h3, f1_0, f1_2, f1_4, g4_3, g4_3p, c20, c20p, g9_4, g9_4p] at c41p
                       all_goals (first | (have gq := c41p; skip) | have c41p : True := True.intro)
                       all_goals
                        refine run_seq_k fun K27 hK27 => ?_
                        refine run_region_k rfl fun J28 hJ28 => ?_
                        repeat (first | simp [h, hs, ho2, ho3, ho4, coinS_cells, build_coin, append_slA, noObjL_inC, gcO_slA, hlt, hi, h3, f1_0, f1_2, f1_4, g4_3, g4_3p, c20, c20p, g9_4, g9_4p, c41, c41p] | simp (disch := omega) only [wC, if_pos, if_neg])
                        refine hJ28 _ _ ?_
                        refine hK27 _ _ ?_
                        refine run_seq_k fun K29 hK29 => ?_
                        refine run_region_k rfl fun J30 hJ30 => ?_
                        repeat (first | simp [h, hs, ho2, ho3, ho4, coinS_cells, build_coin, append_slA, noObjL_inC, gcO_slA, hlt, hi, h3, f1_0, f1_2, f1_4, g4_3, g4_3p, c20, c20p, g9_4, g9_4p, c41, c41p] | simp (disch := omega) only [wC, if_pos, if_neg])
                        refine hJ30 _ _ ?_
                        refine hK29 _ _ ?_
                        refine run_ret ?_
                        try simp only [Then, InBlock, NoGoto]
                        refine answer_tmp rfl (.inr rfl) ?_
                        obtain ⟨e1, e2⟩ := coinsR_none (L := q.l) (S := q.s) (by rw [← hg]; exact coinsGo_stop (.inl (by simp at g4_3; omega))) (.inl (by simpa using c41))
                        rw [e1, e2]
                        exact ⟨q.k, ⟨hq.1, .inl rfl⟩, Wk.nil _ _ _, [], tkA q.l, [], by simp [inC]⟩
                    · try (exfalso; have gq := c41; simp [h, hs, ho2, ho3, ho4, coinS_cells, build_coin, append_slA, noObjL_inC, gcO_slA, hlt, hi, h3, f1_0, f1_2, f1_4, g4_3, g4_3p, c20, c20p, g9_4, g9_4p] at gq; first | done | omega)
                      all_goals
                       have c41p := c41
                       try simp [h, hs, ho2, ho3, ho4, coinS_cells, build_coin, append_slA, noObjL_inC, gcO_slA, hlt, hi, h3, f1_0, f1_2, f1_4, g4_3, g4_3p, c20, c20p, g9_4, g9_4p] at c41p
                       all_goals (first | (have gq := c41p; skip) | have c41p : True := True.intro)
                       all_goals
                        refine run_skip ?_
                        refine hK20 _ _ ?_
                        refine run_seq_k fun K31 hK31 => ?_
                        refine run_region_k rfl fun J32 hJ32 => ?_
                        repeat (first | simp [h, hs, ho2, ho3, ho4, coinS_cells, build_coin, append_slA, noObjL_inC, gcO_slA, hlt, hi, h3, f1_0, f1_2, f1_4, g4_3, g4_3p, c20, c20p, g9_4, g9_4p, c41, c41p] | simp (disch := omega) only [wC, if_pos, if_neg])
                        refine hJ32 _ _ ?_
                        refine hK31 _ _ ?_
                        refine run_ret ?_
                        try simp only [Then, InBlock, NoGoto]
                        refine answer_tmp rfl (.inr rfl) ?_
                        obtain ⟨e1, e2⟩ := coinsR_some (L := q.l) (S := q.s) (by rw [← hg]; exact coinsGo_stop (.inl (by simp at g4_3; omega))) (by simpa using c41) (by intro e; simp [e] at g9_4)
                        rw [e1, e2]
                        exact ⟨q.k, hq, wk_slA _ _, [], tkA q.l, [], by rw [g9_4]; simp⟩
    · try (exfalso; have gq := g4_3; simp [h, hs, ho2, ho3, ho4, coinS_cells, build_coin, append_slA, noObjL_inC, gcO_slA, hlt, hi, h3, f1_0, f1_2, f1_4] at gq; first | done | omega)
      all_goals
       have g4_3p := g4_3
       try simp [h, hs, ho2, ho3, ho4, coinS_cells, build_coin, append_slA, noObjL_inC, gcO_slA, hlt, hi, h3, f1_0, f1_2, f1_4] at g4_3p
       all_goals (first | (have gq := g4_3p; skip) | have g4_3p : True := True.intro)
       all_goals
          refine runL_no (by first | rfl | (simp [h, hs, ho2, ho3, ho4, coinS_cells, build_coin, append_slA, noObjL_inC, gcO_slA, hlt, hi, h3, f1_0, f1_2, f1_4, g4_3, g4_3p, wantedA]; done)) rfl ?_
          repeat (first | simp [h, hs, ho2, ho3, ho4, coinS_cells, build_coin, append_slA, noObjL_inC, gcO_slA, hlt, hi, h3, f1_0, f1_2, f1_4, g4_3, g4_3p] | simp (disch := omega) only [wC, if_pos, if_neg])
          refine runL_no (by first | rfl | (simp [h, hs, ho2, ho3, ho4, coinS_cells, build_coin, append_slA, noObjL_inC, gcO_slA, hlt, hi, h3, f1_0, f1_2, f1_4, g4_3, g4_3p, wantedA]; done)) rfl ?_
          repeat (first | simp [h, hs, ho2, ho3, ho4, coinS_cells, build_coin, append_slA, noObjL_inC, gcO_slA, hlt, hi, h3, f1_0, f1_2, f1_4, g4_3, g4_3p] | simp (disch := omega) only [wC, if_pos, if_neg])
          refine runL_no (by first | rfl | (simp [h, hs, ho2, ho3, ho4, coinS_cells, build_coin, append_slA, noObjL_inC, gcO_slA, hlt, hi, h3, f1_0, f1_2, f1_4, g4_3, g4_3p, wantedA]; done)) rfl ?_
          repeat (first | simp [h, hs, ho2, ho3, ho4, coinS_cells, build_coin, append_slA, noObjL_inC, gcO_slA, hlt, hi, h3, f1_0, f1_2, f1_4, g4_3, g4_3p] | simp (disch := omega) only [wC, if_pos, if_neg])
          refine runL_no (by first | rfl | (simp [h, hs, ho2, ho3, ho4, coinS_cells, build_coin, append_slA, noObjL_inC, gcO_slA, hlt, hi, h3, f1_0, f1_2, f1_4, g4_3, g4_3p, wantedA]; done)) rfl ?_
          repeat (first | simp [h, hs, ho2, ho3, ho4, coinS_cells, build_coin, append_slA, noObjL_inC, gcO_slA, hlt, hi, h3, f1_0, f1_2, f1_4, g4_3, g4_3p] | simp (disch := omega) only [wC, if_pos, if_neg])
          refine runL_no (by first | rfl | (simp [h, hs, ho2, ho3, ho4, coinS_cells, build_coin, append_slA, noObjL_inC, gcO_slA, hlt, hi, h3, f1_0, f1_2, f1_4, g4_3, g4_3p, wantedA]; done)) rfl ?_
          repeat (first | simp [h, hs, ho2, ho3, ho4, coinS_cells, build_coin, append_slA, noObjL_inC, gcO_slA, hlt, hi, h3, f1_0, f1_2, f1_4, g4_3, g4_3p] | simp (disch := omega) only [wC, if_pos, if_neg])
          refine hJ12 _ _ ?_
          refine hK11 _ _ ?_
          refine run_cond_false (by first | rfl | (simp [h, hs, ho2, ho3, ho4, coinS_cells, build_coin, append_slA, noObjL_inC, gcO_slA, hlt, hi, h3, f1_0, f1_2, f1_4, g4_3, g4_3p, evalA]; done)) ?_
          refine run_exit ?_
          refine hK7 _ _ ?_
          refine run_seq_k fun K33 hK33 => ?_
          refine run_seq_k fun K34 hK34 => ?_
          refine run_region_k rfl fun J35 hJ35 => ?_
          repeat (first | simp [h, hs, ho2, ho3, ho4, coinS_cells, build_coin, append_slA, noObjL_inC, gcO_slA, hlt, hi, h3, f1_0, f1_2, f1_4, g4_3, g4_3p] | simp (disch := omega) only [wC, if_pos, if_neg])
          refine runL_splitB 37 (by first | rfl | (simp [h, hs, ho2, ho3, ho4, coinS_cells, build_coin, append_slA, noObjL_inC, gcO_slA, hlt, hi, h3, f1_0, f1_2, f1_4, g4_3, g4_3p]; done)) (fun g9_4 => ?_) (fun g9_4 => ?_)
          · try (exfalso; have gq := g9_4; simp [h, hs, ho2, ho3, ho4, coinS_cells, build_coin, append_slA, noObjL_inC, gcO_slA, hlt, hi, h3, f1_0, f1_2, f1_4, g4_3, g4_3p] at gq; first | done | omega)
            all_goals
             have g9_4p := g9_4
             try simp [h, hs, ho2, ho3, ho4, coinS_cells, build_coin, append_slA, noObjL_inC, gcO_slA, hlt, hi, h3, f1_0, f1_2, f1_4, g4_3, g4_3p] at g9_4p
             all_goals (first | (have gq := g9_4p; skip) | have g9_4p : True := True.intro)
             all_goals
                refine runL_no (by first | rfl | (simp [h, hs, ho2, ho3, ho4, coinS_cells, build_coin, append_slA, noObjL_inC, gcO_slA, hlt, hi, h3, f1_0, f1_2, f1_4, g4_3, g4_3p, g9_4, g9_4p, wantedA]; done)) rfl ?_
                repeat (first | simp [h, hs, ho2, ho3, ho4, coinS_cells, build_coin, append_slA, noObjL_inC, gcO_slA, hlt, hi, h3, f1_0, f1_2, f1_4, g4_3, g4_3p, g9_4, g9_4p] | simp (disch := omega) only [wC, if_pos, if_neg])
                refine runL_no (by first | rfl | (simp [h, hs, ho2, ho3, ho4, coinS_cells, build_coin, append_slA, noObjL_inC, gcO_slA, hlt, hi, h3, f1_0, f1_2, f1_4, g4_3, g4_3p, g9_4, g9_4p, wantedA]; done)) rfl ?_
                repeat (first | simp [h, hs, ho2, ho3, ho4, coinS_cells, build_coin, append_slA, noObjL_inC, gcO_slA, hlt, hi, h3, f1_0, f1_2, f1_4, g4_3, g4_3p, g9_4, g9_4p] | simp (disch := omega) only [wC, if_pos, if_neg])
                refine runL_no (by first | rfl | (simp [h, hs, ho2, ho3, ho4, coinS_cells, build_coin, append_slA, noObjL_inC, gcO_slA, hlt, hi, h3, f1_0, f1_2, f1_4, g4_3, g4_3p, g9_4, g9_4p, wantedA]; done)) rfl ?_
                repeat (first | simp [h, hs, ho2, ho3, ho4, coinS_cells, build_coin, append_slA, noObjL_inC, gcO_slA, hlt, hi, h3, f1_0, f1_2, f1_4, g4_3, g4_3p, g9_4, g9_4p] | simp (disch := omega) only [wC, if_pos, if_neg])
                refine hJ35 _ _ ?_
                refine hK34 _ _ ?_
                refine run_cond_true (by first | rfl | (simp [h, hs, ho2, ho3, ho4, coinS_cells, build_coin, append_slA, noObjL_inC, gcO_slA, hlt, hi, h3, f1_0, f1_2, f1_4, g4_3, g4_3p, g9_4, g9_4p, evalA]; done)) ?_
                refine run_seq_k fun K36 hK36 => ?_
                refine run_region_k rfl fun J37 hJ37 => ?_
                repeat (first | simp [h, hs, ho2, ho3, ho4, coinS_cells, build_coin, append_slA, noObjL_inC, gcO_slA, hlt, hi, h3, f1_0, f1_2, f1_4, g4_3, g4_3p, g9_4, g9_4p] | simp (disch := omega) only [wC, if_pos, if_neg])
                refine hJ37 _ _ ?_
                refine hK36 _ _ ?_
                refine run_seq_k fun K38 hK38 => ?_
                refine run_region_k rfl fun J39 hJ39 => ?_
                repeat (first | simp [h, hs, ho2, ho3, ho4, coinS_cells, build_coin, append_slA, noObjL_inC, gcO_slA, hlt, hi, h3, f1_0, f1_2, f1_4, g4_3, g4_3p, g9_4, g9_4p] | simp (disch := omega) only [wC, if_pos, if_neg])
                refine hJ39 _ _ ?_
                refine hK38 _ _ ?_
                refine run_ret ?_
                try simp only [Then, InBlock, NoGoto]
                refine answer_tmp rfl (.inr rfl) ?_
                have h0 : q.s = none := (by simpa using g9_4)
                obtain ⟨e1, e2⟩ := coinsR_none (L := q.l) (S := q.s) (by rw [← hg]; exact coinsGo_stop (.inr h0)) (.inr h0)
                rw [e1, e2]
                exact ⟨q.k, ⟨hq.1, .inl rfl⟩, Wk.nil _ _ _, [], tkA q.l, [], by simp [inC]⟩
          · try (exfalso; have gq := g9_4; simp [h, hs, ho2, ho3, ho4, coinS_cells, build_coin, append_slA, noObjL_inC, gcO_slA, hlt, hi, h3, f1_0, f1_2, f1_4, g4_3, g4_3p] at gq; first | done | omega)
            all_goals
             have g9_4p := g9_4
             try simp [h, hs, ho2, ho3, ho4, coinS_cells, build_coin, append_slA, noObjL_inC, gcO_slA, hlt, hi, h3, f1_0, f1_2, f1_4, g4_3, g4_3p] at g9_4p
             all_goals (first | (have gq := g9_4p; skip) | have g9_4p : True := True.intro)
             all_goals
                refine runL_go (by first | rfl | (simp [h, hs, ho2, ho3, ho4, coinS_cells, build_coin, append_slA, noObjL_inC, gcO_slA, hlt, hi, h3, f1_0, f1_2, f1_4, g4_3, g4_3p, g9_4, g9_4p, wantedA]; done)) rfl ?_
                repeat (first | simp [h, hs, ho2, ho3, ho4, coinS_cells, build_coin, append_slA, noObjL_inC, gcO_slA, hlt, hi, h3, f1_0, f1_2, f1_4, g4_3, g4_3p, g9_4, g9_4p] | simp (disch := omega) only [wC, if_pos, if_neg])
                refine runL_call' (b := true) (by first | rfl | (simp [h, hs, ho2, ho3, ho4, coinS_cells, build_coin, append_slA, noObjL_inC, gcO_slA, hlt, hi, h3, f1_0, f1_2, f1_4, g4_3, g4_3p, g9_4, g9_4p, wantedA]; done)) rfl rfl (by first | rfl | (simp [h, hs, ho2, ho3, ho4, coinS_cells, build_coin, append_slA, noObjL_inC, gcO_slA, hlt, hi, h3, f1_0, f1_2, f1_4, g4_3, g4_3p, g9_4, g9_4p, callOf]; done)) (by simp) (rright_slA (by omega)) ?_
                rintro _ _ ⟨rfl, rfl⟩
                repeat (first | simp [h, hs, ho2, ho3, ho4, coinS_cells, build_coin, append_slA, noObjL_inC, gcO_slA, hlt, hi, h3, f1_0, f1_2, f1_4, g4_3, g4_3p, g9_4, g9_4p] | simp (disch := omega) only [wC, if_pos, if_neg])
                refine runL_go (by first | rfl | (simp [h, hs, ho2, ho3, ho4, coinS_cells, build_coin, append_slA, noObjL_inC, gcO_slA, hlt, hi, h3, f1_0, f1_2, f1_4, g4_3, g4_3p, g9_4, g9_4p, wantedA]; done)) rfl ?_
                repeat (first | simp [h, hs, ho2, ho3, ho4, coinS_cells, build_coin, append_slA, noObjL_inC, gcO_slA, hlt, hi, h3, f1_0, f1_2, f1_4, g4_3, g4_3p, g9_4, g9_4p] | simp (disch := omega) only [wC, if_pos, if_neg])
                refine hJ35 _ _ ?_
                refine hK34 _ _ ?_
                refine run_cond_split (by first | rfl | (simp [h, hs, ho2, ho3, ho4, coinS_cells, build_coin, append_slA, noObjL_inC, gcO_slA, hlt, hi, h3, f1_0, f1_2, f1_4, g4_3, g4_3p, g9_4, g9_4p, evalA]; done)) (fun c41 => ?_) (fun c41 => ?_)
                · try (exfalso; have gq := c41; simp [h, hs, ho2, ho3, ho4, coinS_cells, build_coin, append_slA, noObjL_inC, gcO_slA, hlt, hi, h3, f1_0, f1_2, f1_4, g4_3, g4_3p, g9_4, g9_4p] at gq; first | done | omega)
                  all_goals
                   have c41p := c41
                   try simp [h, hs, ho2, ho3, ho4, coinS_cells, build_coin, append_slA, noObjL_inC, gcO_slA, hlt, hi, h3, f1_0, f1_2, f1_4, g4_3, g4_3p, g9_4, g9_4p] at c41p
                   all_goals (first | (have gq := c41p; skip) | have c41p : True := True.intro)
                   all_goals
                    refine run_seq_k fun K40 hK40 => ?_
                    refine run_region_k rfl fun J41 hJ41 => ?_
                    repeat (first | simp [h, hs, ho2, ho3, ho4, coinS_cells, build_coin, append_slA, noObjL_inC, gcO_slA, hlt, hi, h3, f1_0, f1_2, f1_4, g4_3, g4_3p, g9_4, g9_4p, c41, c41p] | simp (disch := omega) only [wC, if_pos, if_neg])
                    refine hJ41 _ _ ?_
                    refine hK40 _ _ ?_
                    refine run_seq_k fun K42 hK42 => ?_
                    refine run_region_k rfl fun J43 hJ43 => ?_
                    repeat (first | simp [h, hs, ho2, ho3, ho4, coinS_cells, build_coin, append_slA, noObjL_inC, gcO_slA, hlt, hi, h3, f1_0, f1_2, f1_4, g4_3, g4_3p, g9_4, g9_4p, c41, c41p] | simp (disch := omega) only [wC, if_pos, if_neg])
                    refine hJ43 _ _ ?_
                    refine hK42 _ _ ?_
                    refine run_ret ?_
                    try simp only [Then, InBlock, NoGoto]
                    refine answer_tmp rfl (.inr rfl) ?_
                    obtain ⟨e1, e2⟩ := coinsR_none (L := q.l) (S := q.s) (by rw [← hg]; exact coinsGo_stop (.inl (by simp at g4_3; omega))) (.inl (by simpa using c41))
                    rw [e1, e2]
                    exact ⟨q.k, ⟨hq.1, .inl rfl⟩, Wk.nil _ _ _, [], tkA q.l, [], by simp [inC]⟩
                · try (exfalso; have gq := c41; simp [h, hs, ho2, ho3, ho4, coinS_cells, build_coin, append_slA, noObjL_inC, gcO_slA, hlt, hi, h3, f1_0, f1_2, f1_4, g4_3, g4_3p, g9_4, g9_4p] at gq; first | done | omega)
                  all_goals
                   have c41p := c41
                   try simp [h, hs, ho2, ho3, ho4, coinS_cells, build_coin, append_slA, noObjL_inC, gcO_slA, hlt, hi, h3, f1_0, f1_2, f1_4, g4_3, g4_3p, g9_4, g9_4p] at c41p
                   all_goals (first | (have gq := c41p; skip) | have c41p : True := True.intro)
                   all_goals
                    refine run_skip ?_
                    refine hK33 _ _ ?_
                    refine run_seq_k fun K44 hK44 => ?_
                    refine run_region_k rfl fun J45 hJ45 => ?_
                    repeat (first | simp [h, hs, ho2, ho3, ho4, coinS_cells, build_coin, append_slA, noObjL_inC, gcO_slA, hlt, hi, h3, f1_0, f1_2, f1_4, g4_3, g4_3p, g9_4, g9_4p, c41, c41p] | simp (disch := omega) only [wC, if_pos, if_neg])
                    refine hJ45 _ _ ?_
                    refine hK44 _ _ ?_
                    refine run_ret ?_
                    try simp only [Then, InBlock, NoGoto]
                    refine answer_tmp rfl (.inr rfl) ?_
                    obtain ⟨e1, e2⟩ := coinsR_some (L := q.l) (S := q.s) (by rw [← hg]; exact coinsGo_stop (.inl (by simp at g4_3; omega))) (by simpa using c41) (by intro e; simp [e] at g9_4)
                    rw [e1, e2]
                    exact ⟨q.k, hq, wk_slA _ _, [], tkA q.l, [], by rw [g9_4]; simp⟩

end Go.Proofs.Ytkbhdlocdajhmaa
