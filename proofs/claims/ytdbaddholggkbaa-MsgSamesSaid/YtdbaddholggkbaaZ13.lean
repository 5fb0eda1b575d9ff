import Derived.Test.YtdbaddholggkbaaZ7
import Derived.Test.YtdbaddholggkbaaZ12
/-
  The document's right plans..
-/
namespace Go.Proofs.Ytdbaddholggkbaa
set_option linter.unnecessarySimpa false
set_option maxRecDepth 100000
open Go Go.Vm
set_option linter.unusedSimpArgs false
set_option linter.unusedVariables false
attribute [local simp] evalL wantedA isCall opA evalA evalAll evalsA evalOpt ofValue ofCell plain binA_eql_pn binA_neq_pn binA_gtr binA_lss binA_geq binA_leq binA_add binA_sub binA_eql binA_neq binA_orI binA_andI binA_shl binA_shr binA_mul binA_quo binA_rem binA_agg_eql binA_agg_neq convA_int unA_not fieldAddrA loadA partA pickA_true pickA_false pickA_bb lenA builtinA storeA splice AV.cells AV.isCell sliceA boundA intA callOf indexAddrA newObjA buildA fillA zeroA ofCells buildSliceA indexA fieldA numA_len4 numA_take4 numA_drop4 set_appN get_appN take_appN List.getElem?_cons_zero List.getElem?_cons_succ makeA zeros64

set_option maxHeartbeats 1600000 in
attribute [local simp] undefA List.getElem?_cons_zero List.getElem?_cons_succ perC plnC persC_noObj in
theorem rpright_ok {σ : St} {p : Pln} (hp : p.Ok) :
    CallsA Try.prog 19 [.agg (plnC p)] σ (fun av σ' => av = .v (.bool (rightB p)) ∧ σ = σ') := by
  refine callsA_gcS ?_ rfl
  have hp0 := hp
  have hp2 := @perB_two p
  obtain ⟨pk, ps, pe, pt, pp⟩ := p
  obtain ⟨k1, k2, k3, k4, h5⟩ := hp
  have hnil : ((pp.length : Int) == 0) = decide (pp = []) := by cases pp <;> simp <;> omega
  have hnilt : ((pt.length : Int) == 0) = decide (pt = []) := by cases pt <;> simp <;> omega
  have hkn : ∀ n : UInt8, pk = n ↔ (pk.toNat : Int) = (n.toNat : Int) := fun n => ⟨fun e => by rw [e], fun e => UInt8.toNat_inj.1 (Int.ofNat_inj.1 e)⟩
  simp only at hp2
  have hpe0 : ((pe : Int) == 0) = decide (pe = 0) := by rw [Bool.eq_iff_iff]; simp
  have F := And.intro hnil (And.intro hnilt (And.intro hpe0 (True.intro)))
  refine callsA_body Try.func19 rfl rfl rfl ?_; refine sq fun K1 hK1 => ?_; refine rg' (h := fun J2 hJ2 => ?_); refine hJ2 _ _ ?_; refine hK1 _ _ ?_; refine sq fun K3 hK3 => ?_; refine sq fun K4 hK4 => ?_; refine rg' (h := fun J5 hJ5 => ?_); refine hJ5 _ _ ?_; refine hK4 _ _ ?_; refine cs (fun c11 => ?_) (fun c11 => ?_)
  · try exact nope c11
    all_goals have c11p := c11; try simp [F] at c11p
    all_goals
     replace F := aF c11 F; try replace F := aF c11p F
     refine sq fun K6 hK6 => ?_; refine rg' (h := fun J7 hJ7 => ?_); refine gs 15 (fun g2_3 => ?_) (fun g2_3 => ?_)
     · try exact nope g2_3
       all_goals have g2_3p := g2_3; try simp [F] at g2_3p
       all_goals
        replace F := aF g2_3 F; try replace F := aF g2_3p F
        iterate 3 refine go2 (k := ?_)
        refine gs 20 (fun g2_8 => ?_) (fun g2_8 => ?_)
        · try exact nope g2_8
          all_goals have g2_8p := g2_8; try simp [F] at g2_8p
          all_goals
           replace F := aF g2_8 F; try replace F := aF g2_8p F
           iterate 4 refine go2 (k := ?_)
           refine gs 26 (fun g2_14 => ?_) (fun g2_14 => ?_)
           · try exact nope g2_14
             all_goals have g2_14p := g2_14; try simp [F] at g2_14p
             all_goals
              replace F := aF g2_14 F; try replace F := aF g2_14p F
              iterate 4 refine go2 (k := ?_)
              refine hJ7 _ _ ?_; refine hK6 _ _ ?_; refine run_ret ?_; try simp only [Then, InBlock, NoGoto]
              refine answer_tmp rfl (.inr rfl) ?_
              exact gcr (hA := by simp only [putA_get]; simp [rightB, hkn, F]; exact Wk.refl _)
           try exact nope g2_14
           all_goals have g2_14p := g2_14; try simp [F] at g2_14p
           all_goals
            replace F := aF g2_14 F; try replace F := aF g2_14p F
            iterate 4 refine no2 (k := ?_)
            refine hJ7 _ _ ?_; refine hK6 _ _ ?_; refine run_ret ?_; try simp only [Then, InBlock, NoGoto]
            refine answer_tmp rfl (.inr rfl) ?_
            exact gcr (hA := by simp only [putA_get]; simp [rightB, hkn, F]; exact Wk.refl _)
        try exact nope g2_8
        all_goals have g2_8p := g2_8; try simp [F] at g2_8p
        all_goals
         replace F := aF g2_8 F; try replace F := aF g2_8p F
         iterate 8 refine no2 (k := ?_)
         refine hJ7 _ _ ?_; refine hK6 _ _ ?_; refine run_ret ?_; try simp only [Then, InBlock, NoGoto]
         refine answer_tmp rfl (.inr rfl) ?_
         exact gcr (hA := by simp only [putA_get]; simp [rightB, hkn, F]; exact Wk.refl _)
     try exact nope g2_3
     all_goals have g2_3p := g2_3; try simp [F] at g2_3p
     all_goals
      replace F := aF g2_3 F; try replace F := aF g2_3p F
      iterate 11 refine no2 (k := ?_)
      refine hJ7 _ _ ?_; refine hK6 _ _ ?_; refine run_ret ?_; try simp only [Then, InBlock, NoGoto]
      refine answer_tmp rfl (.inr rfl) ?_
      exact gcr (hA := by simp only [putA_get]; simp [rightB, hkn, F]; exact Wk.refl _)
  try exact nope c11
  all_goals have c11p := c11; try simp [F] at c11p
  all_goals
   replace F := aF c11 F; try replace F := aF c11p F
   refine run_skip ?_; refine hK3 _ _ ?_; refine sq fun K8 hK8 => ?_; refine sq fun K9 hK9 => ?_; refine rg' (h := fun J10 hJ10 => ?_); refine gs 35 (fun g3_3 => ?_) (fun g3_3 => ?_)
   · try exact nope g3_3
     all_goals have g3_3p := g3_3; try simp [F] at g3_3p
     all_goals
      replace F := aF g3_3 F; try replace F := aF g3_3p F
      have n1 : ¬ (pk.toNat : Int) = 1 ∧ ¬ (pk.toNat : Int) = 2 ∧ ¬ (pk.toNat : Int) = 3 ∧ ¬ (pk.toNat : Int) = 4 ∧ ¬ (pk.toNat : Int) = 5 := by have h := g3_3; simp at h; omega
      replace F := aF n1 F; iterate 11 refine no2 (k := ?_)
      refine hJ10 _ _ ?_; refine hK9 _ _ ?_; refine ct ?_; refine sq fun K11 hK11 => ?_; refine rg' (h := fun J12 hJ12 => ?_); refine hJ12 _ _ ?_; refine hK11 _ _ ?_; refine run_ret ?_; try simp only [Then, InBlock, NoGoto]
      refine answer_tmp rfl (.inr rfl) ?_
      exact gcr (hA := by simp only [putA_get]; simp [rightB, hkn, F]; exact Wk.refl _)
   try exact nope g3_3
   all_goals have g3_3p := g3_3; try simp [F] at g3_3p
   all_goals
    replace F := aF g3_3 F; try replace F := aF g3_3p F
    iterate 4 refine go2 (k := ?_)
    refine gs 41 (fun g3_9 => ?_) (fun g3_9 => ?_)
    · try exact nope g3_9
      all_goals have g3_9p := g3_9; try simp [F] at g3_9p
      all_goals
       replace F := aF g3_9 F; try replace F := aF g3_9p F
       iterate 7 refine no2 (k := ?_)
       refine hJ10 _ _ ?_; refine hK9 _ _ ?_; refine ct ?_; refine sq fun K13 hK13 => ?_; refine rg' (h := fun J14 hJ14 => ?_); refine hJ14 _ _ ?_; refine hK13 _ _ ?_; refine run_ret ?_; try simp only [Then, InBlock, NoGoto]
       refine answer_tmp rfl (.inr rfl) ?_
       exact gcr (hA := by simp only [putA_get]; simp [rightB, hkn, F]; exact Wk.refl _)
    try exact nope g3_9
    all_goals have g3_9p := g3_9; try simp [F] at g3_9p
    all_goals
     replace F := aF g3_9 F; try replace F := aF g3_9p F
     iterate 2 refine go2 (k := ?_)
     refine ca (c := rright_ok k3) (k := ?_); rintro _ _ ⟨rfl, rfl⟩; repeat (first | simp [F] | simp (disch := omega) only [wC, if_pos, if_neg])
     refine go2 (k := ?_); refine gs 47 (fun g3_15 => ?_) (fun g3_15 => ?_)
     · try exact nope g3_15
       all_goals have g3_15p := g3_15; try simp [F] at g3_15p
       all_goals
        replace F := aF g3_15 F; try replace F := aF g3_15p F
        iterate 3 refine no2 (k := ?_)
        refine hJ10 _ _ ?_; refine hK9 _ _ ?_; refine ct ?_; refine sq fun K15 hK15 => ?_; refine rg' (h := fun J16 hJ16 => ?_); refine hJ16 _ _ ?_; refine hK15 _ _ ?_; refine run_ret ?_; try simp only [Then, InBlock, NoGoto]
        refine answer_tmp rfl (.inr rfl) ?_
        exact gcr (hA := by simp only [putA_get]; simp [rightB, hkn, F]; exact Wk.refl _)
     try exact nope g3_15
     all_goals have g3_15p := g3_15; try simp [F] at g3_15p
     all_goals
      replace F := aF g3_15 F; try replace F := aF g3_15p F
      iterate 3 refine go2 (k := ?_)
      refine hJ10 _ _ ?_; refine hK9 _ _ ?_; refine cs (fun c51 => ?_) (fun c51 => ?_)
      · try exact nope c51
        all_goals have c51p := c51; try simp [F] at c51p
        all_goals
         replace F := aF c51 F; try replace F := aF c51p F
         have n1 : 1099511627776 < pe := by have h := c51; simp at h; omega
         replace F := aF n1 F; refine sq fun K17 hK17 => ?_; refine rg' (h := fun J18 hJ18 => ?_); refine hJ18 _ _ ?_; refine hK17 _ _ ?_; refine run_ret ?_; try simp only [Then, InBlock, NoGoto]
         refine answer_tmp rfl (.inr rfl) ?_
         exact gcr (hA := by simp only [putA_get]; simp [rightB, hkn, F]; exact Wk.refl _)
      try exact nope c51
      all_goals have c51p := c51; try simp [F] at c51p
      all_goals
       replace F := aF c51 F; try replace F := aF c51p F
       have hs3' : ¬ 1099511627776 < pe := by have h := c51; simp at h; omega
       have hs1 : ¬ pt = [] := by simp [F]
       have hs2 : Right pt := by simp [F]
       have hb := hp2 (by omega) hs1
       replace F := aF hb (And.intro hs3' F); refine run_skip ?_; refine hK8 _ _ ?_; refine sq fun K19 hK19 => ?_; refine sq fun K20 hK20 => ?_; refine rg' (h := fun J21 hJ21 => ?_); refine gs 55 (fun g5_3 => ?_) (fun g5_3 => ?_)
       · try exact nope g5_3
         all_goals have g5_3p := g5_3; try simp [F] at g5_3p
         all_goals
          replace F := aF g5_3 F; try replace F := aF g5_3p F
          iterate 3 refine go2 (k := ?_)
          refine hJ21 _ _ ?_; refine hK20 _ _ ?_; refine cs (fun c59 => ?_) (fun c59 => ?_)
          · try exact nope c59
            all_goals have c59p := c59; try simp [F] at c59p
            all_goals
             replace F := aF c59 F; try replace F := aF c59p F
             refine sq fun K22 hK22 => ?_; refine sq fun K23 hK23 => ?_; refine rg' (h := fun J24 hJ24 => ?_); refine hJ24 _ _ ?_; refine hK23 _ _ ?_; refine cs (fun c63 => ?_) (fun c63 => ?_)
             · try exact nope c63
               all_goals have c63p := c63; try simp [F] at c63p
               all_goals
                replace F := aF c63 F; try replace F := aF c63p F
                have n1 : ¬ pp = [] := fun e => by rw [e] at c63; simp at c63
                replace F := aF n1 F; refine sq fun K25 hK25 => ?_; refine rg' (h := fun J26 hJ26 => ?_); refine hJ26 _ _ ?_; refine hK25 _ _ ?_; refine run_ret ?_; try simp only [Then, InBlock, NoGoto]
                refine answer_tmp rfl (.inr rfl) ?_
                exact gcr (hA := by simp only [putA_get]; simp [rightB, hkn, F]; exact Wk.refl _)
             try exact nope c63
             all_goals have c63p := c63; try simp [F] at c63p
             all_goals
              replace F := aF c63 F; try replace F := aF c63p F
              refine run_skip ?_; refine hK22 _ _ ?_; refine sq fun K27 hK27 => ?_; refine rg' (h := fun J28 hJ28 => ?_); refine gs 67 (fun g8_3 => ?_) (fun g8_3 => ?_)
              · try exact nope g8_3
                all_goals have g8_3p := g8_3; try simp [F] at g8_3p
                all_goals
                 replace F := aF g8_3 F; try replace F := aF g8_3p F
                 iterate 5 refine go2 (k := ?_)
                 refine gs 74 (fun g8_10 => ?_) (fun g8_10 => ?_)
                 · try exact nope g8_10
                   all_goals have g8_10p := g8_10; try simp [F] at g8_10p
                   all_goals
                    replace F := aF g8_10 F; try replace F := aF g8_10p F
                    iterate 21 refine no2 (k := ?_)
                    refine hJ28 _ _ ?_; refine hK27 _ _ ?_; refine run_ret ?_; try simp only [Then, InBlock, NoGoto]
                    refine answer_tmp rfl (.inr rfl) ?_
                    exact gcr (hA := by simp only [putA_get]; simp [rightB, hkn, F]; exact Wk.refl _)
                 try exact nope g8_10
                 all_goals have g8_10p := g8_10; try simp [F] at g8_10p
                 all_goals
                  replace F := aF g8_10 F; try replace F := aF g8_10p F
                  iterate 4 refine go2 (k := ?_)
                  refine gs 78 (fun g8_14 => ?_) (fun g8_14 => ?_)
                  · try exact nope g8_14
                    all_goals have g8_14p := g8_14; try simp [F] at g8_14p
                    all_goals
                     replace F := aF g8_14 F; try replace F := aF g8_14p F
                     iterate 4 refine go2 (k := ?_)
                     refine gs 84 (fun g8_20 => ?_) (fun g8_20 => ?_)
                     · try exact nope g8_20
                       all_goals have g8_20p := g8_20; try simp [F] at g8_20p
                       all_goals
                        replace F := aF g8_20 F; try replace F := aF g8_20p F
                        iterate 13 refine no2 (k := ?_)
                        refine hJ28 _ _ ?_; refine hK27 _ _ ?_; refine run_ret ?_; try simp only [Then, InBlock, NoGoto]
                        refine answer_tmp rfl (.inr rfl) ?_
                        exact gcr (hA := by simp only [putA_get]; simp [rightB, hkn, F]; exact Wk.refl _)
                     try exact nope g8_20
                     all_goals have g8_20p := g8_20; try simp [F] at g8_20p
                     all_goals
                      replace F := aF g8_20 F; try replace F := aF g8_20p F
                      iterate 4 refine go2 (k := ?_)
                      refine gs 88 (fun g8_24 => ?_) (fun g8_24 => ?_)
                      · try exact nope g8_24
                        all_goals have g8_24p := g8_24; try simp [F] at g8_24p
                        all_goals
                         replace F := aF g8_24 F; try replace F := aF g8_24p F
                         iterate 5 refine go2 (k := ?_)
                         refine gs 93 (fun g8_29 => ?_) (fun g8_29 => ?_)
                         · try exact nope g8_29
                           all_goals have g8_29p := g8_29; try simp [F] at g8_29p
                           all_goals
                            replace F := aF g8_29 F; try replace F := aF g8_29p F
                            iterate 4 refine go2 (k := ?_)
                            refine hJ28 _ _ ?_; refine hK27 _ _ ?_; refine run_ret ?_; try simp only [Then, InBlock, NoGoto]
                            refine answer_tmp rfl (.inr rfl) ?_
                            exact gcr (hA := by simp only [putA_get]; simp [rightB, hkn, F]; exact Wk.refl _)
                         try exact nope g8_29
                         all_goals have g8_29p := g8_29; try simp [F] at g8_29p
                         all_goals
                          replace F := aF g8_29 F; try replace F := aF g8_29p F
                          iterate 3 refine no2 (k := ?_)
                          refine go2 (k := ?_); refine hJ28 _ _ ?_; refine hK27 _ _ ?_; refine run_ret ?_; try simp only [Then, InBlock, NoGoto]
                          refine answer_tmp rfl (.inr rfl) ?_
                          exact gcr (hA := by simp only [putA_get]; simp [rightB, hkn, F]; exact Wk.refl _)
                      try exact nope g8_24
                      all_goals have g8_24p := g8_24; try simp [F] at g8_24p
                      all_goals
                       replace F := aF g8_24 F; try replace F := aF g8_24p F
                       iterate 3 refine no2 (k := ?_)
                       iterate 2 refine go2 (k := ?_)
                       iterate 3 refine no2 (k := ?_)
                       refine go2 (k := ?_); refine hJ28 _ _ ?_; refine hK27 _ _ ?_; refine run_ret ?_; try simp only [Then, InBlock, NoGoto]
                       refine answer_tmp rfl (.inr rfl) ?_
                       exact gcr (hA := by simp only [putA_get]; simp [rightB, hkn, F]; exact Wk.refl _)
                  try exact nope g8_14
                  all_goals have g8_14p := g8_14; try simp [F] at g8_14p
                  all_goals
                   replace F := aF g8_14 F; try replace F := aF g8_14p F
                   iterate 3 refine no2 (k := ?_)
                   iterate 5 refine go2 (k := ?_)
                   refine gs 88 (fun g8_24 => ?_) (fun g8_24 => ?_)
                   · try exact nope g8_24
                     all_goals have g8_24p := g8_24; try simp [F] at g8_24p
                     all_goals
                      replace F := aF g8_24 F; try replace F := aF g8_24p F
                      iterate 5 refine go2 (k := ?_)
                      refine gs 93 (fun g8_29 => ?_) (fun g8_29 => ?_)
                      · try exact nope g8_29
                        all_goals have g8_29p := g8_29; try simp [F] at g8_29p
                        all_goals
                         replace F := aF g8_29 F; try replace F := aF g8_29p F
                         iterate 4 refine go2 (k := ?_)
                         refine hJ28 _ _ ?_; refine hK27 _ _ ?_; refine run_ret ?_; try simp only [Then, InBlock, NoGoto]
                         refine answer_tmp rfl (.inr rfl) ?_
                         exact gcr (hA := by simp only [putA_get]; simp [rightB, hkn, F]; exact Wk.refl _)
                      try exact nope g8_29
                      all_goals have g8_29p := g8_29; try simp [F] at g8_29p
                      all_goals
                       replace F := aF g8_29 F; try replace F := aF g8_29p F
                       iterate 3 refine no2 (k := ?_)
                       refine go2 (k := ?_); refine hJ28 _ _ ?_; refine hK27 _ _ ?_; refine run_ret ?_; try simp only [Then, InBlock, NoGoto]
                       refine answer_tmp rfl (.inr rfl) ?_
                       exact gcr (hA := by simp only [putA_get]; simp [rightB, hkn, F]; exact Wk.refl _)
                   try exact nope g8_24
                   all_goals have g8_24p := g8_24; try simp [F] at g8_24p
                   all_goals
                    replace F := aF g8_24 F; try replace F := aF g8_24p F
                    iterate 3 refine no2 (k := ?_)
                    iterate 2 refine go2 (k := ?_)
                    iterate 3 refine no2 (k := ?_)
                    refine go2 (k := ?_); refine hJ28 _ _ ?_; refine hK27 _ _ ?_; refine run_ret ?_; try simp only [Then, InBlock, NoGoto]
                    refine answer_tmp rfl (.inr rfl) ?_
                    exact gcr (hA := by simp only [putA_get]; simp [rightB, hkn, F]; exact Wk.refl _)
              try exact nope g8_3
              all_goals have g8_3p := g8_3; try simp [F] at g8_3p
              all_goals
               replace F := aF g8_3 F; try replace F := aF g8_3p F
               iterate 5 refine no2 (k := ?_)
               iterate 4 refine go2 (k := ?_)
               refine gs 78 (fun g8_14 => ?_) (fun g8_14 => ?_)
               · try exact nope g8_14
                 all_goals have g8_14p := g8_14; try simp [F] at g8_14p
                 all_goals
                  replace F := aF g8_14 F; try replace F := aF g8_14p F
                  iterate 4 refine go2 (k := ?_)
                  refine gs 84 (fun g8_20 => ?_) (fun g8_20 => ?_)
                  · try exact nope g8_20
                    all_goals have g8_20p := g8_20; try simp [F] at g8_20p
                    all_goals
                     replace F := aF g8_20 F; try replace F := aF g8_20p F
                     iterate 13 refine no2 (k := ?_)
                     refine hJ28 _ _ ?_; refine hK27 _ _ ?_; refine run_ret ?_; try simp only [Then, InBlock, NoGoto]
                     refine answer_tmp rfl (.inr rfl) ?_
                     exact gcr (hA := by simp only [putA_get]; simp [rightB, hkn, F]; exact Wk.refl _)
                  try exact nope g8_20
                  all_goals have g8_20p := g8_20; try simp [F] at g8_20p
                  all_goals
                   replace F := aF g8_20 F; try replace F := aF g8_20p F
                   iterate 4 refine go2 (k := ?_)
                   refine gs 88 (fun g8_24 => ?_) (fun g8_24 => ?_)
                   · try exact nope g8_24
                     all_goals have g8_24p := g8_24; try simp [F] at g8_24p
                     all_goals
                      replace F := aF g8_24 F; try replace F := aF g8_24p F
                      iterate 5 refine go2 (k := ?_)
                      refine gs 93 (fun g8_29 => ?_) (fun g8_29 => ?_)
                      · try exact nope g8_29
                        all_goals have g8_29p := g8_29; try simp [F] at g8_29p
                        all_goals
                         replace F := aF g8_29 F; try replace F := aF g8_29p F
                         iterate 4 refine go2 (k := ?_)
                         refine hJ28 _ _ ?_; refine hK27 _ _ ?_; refine run_ret ?_; try simp only [Then, InBlock, NoGoto]
                         refine answer_tmp rfl (.inr rfl) ?_
                         exact gcr (hA := by simp only [putA_get]; simp [rightB, hkn, F]; exact Wk.refl _)
                      try exact nope g8_29
                      all_goals have g8_29p := g8_29; try simp [F] at g8_29p
                      all_goals
                       replace F := aF g8_29 F; try replace F := aF g8_29p F
                       iterate 3 refine no2 (k := ?_)
                       refine go2 (k := ?_); refine hJ28 _ _ ?_; refine hK27 _ _ ?_; refine run_ret ?_; try simp only [Then, InBlock, NoGoto]
                       refine answer_tmp rfl (.inr rfl) ?_
                       exact gcr (hA := by simp only [putA_get]; simp [rightB, hkn, F]; exact Wk.refl _)
                   try exact nope g8_24
                   all_goals have g8_24p := g8_24; try simp [F] at g8_24p
                   all_goals
                    replace F := aF g8_24 F; try replace F := aF g8_24p F
                    iterate 3 refine no2 (k := ?_)
                    iterate 2 refine go2 (k := ?_)
                    iterate 3 refine no2 (k := ?_)
                    refine go2 (k := ?_); refine hJ28 _ _ ?_; refine hK27 _ _ ?_; refine run_ret ?_; try simp only [Then, InBlock, NoGoto]
                    refine answer_tmp rfl (.inr rfl) ?_
                    exact gcr (hA := by simp only [putA_get]; simp [rightB, hkn, F]; exact Wk.refl _)
               try exact nope g8_14
               all_goals have g8_14p := g8_14; try simp [F] at g8_14p
               all_goals
                replace F := aF g8_14 F; try replace F := aF g8_14p F
                iterate 3 refine no2 (k := ?_)
                iterate 5 refine go2 (k := ?_)
                refine gs 88 (fun g8_24 => ?_) (fun g8_24 => ?_)
                · try exact nope g8_24
                  all_goals have g8_24p := g8_24; try simp [F] at g8_24p
                  all_goals
                   replace F := aF g8_24 F; try replace F := aF g8_24p F
                   iterate 5 refine go2 (k := ?_)
                   refine gs 93 (fun g8_29 => ?_) (fun g8_29 => ?_)
                   · try exact nope g8_29
                     all_goals have g8_29p := g8_29; try simp [F] at g8_29p
                     all_goals
                      replace F := aF g8_29 F; try replace F := aF g8_29p F
                      iterate 4 refine go2 (k := ?_)
                      refine hJ28 _ _ ?_; refine hK27 _ _ ?_; refine run_ret ?_; try simp only [Then, InBlock, NoGoto]
                      refine answer_tmp rfl (.inr rfl) ?_
                      exact gcr (hA := by simp only [putA_get]; simp [rightB, hkn, F]; exact Wk.refl _)
                   try exact nope g8_29
                   all_goals have g8_29p := g8_29; try simp [F] at g8_29p
                   all_goals
                    replace F := aF g8_29 F; try replace F := aF g8_29p F
                    iterate 3 refine no2 (k := ?_)
                    refine go2 (k := ?_); refine hJ28 _ _ ?_; refine hK27 _ _ ?_; refine run_ret ?_; try simp only [Then, InBlock, NoGoto]
                    refine answer_tmp rfl (.inr rfl) ?_
                    exact gcr (hA := by simp only [putA_get]; simp [rightB, hkn, F]; exact Wk.refl _)
                try exact nope g8_24
                all_goals have g8_24p := g8_24; try simp [F] at g8_24p
                all_goals
                 replace F := aF g8_24 F; try replace F := aF g8_24p F
                 iterate 3 refine no2 (k := ?_)
                 iterate 2 refine go2 (k := ?_)
                 iterate 3 refine no2 (k := ?_)
                 refine go2 (k := ?_); refine hJ28 _ _ ?_; refine hK27 _ _ ?_; refine run_ret ?_; try simp only [Then, InBlock, NoGoto]
                 refine answer_tmp rfl (.inr rfl) ?_
                 exact gcr (hA := by simp only [putA_get]; simp [rightB, hkn, F]; exact Wk.refl _)
          try exact nope c59
          all_goals have c59p := c59; try simp [F] at c59p
          all_goals
           replace F := aF c59 F; try replace F := aF c59p F
           refine run_skip ?_; refine hK19 _ _ ?_; refine sq fun K29 hK29 => ?_; refine sq fun K30 hK30 => ?_; refine rg' (h := fun J31 hJ31 => ?_); refine gs 103 (fun g9_4 => ?_) (fun g9_4 => ?_)
           · try exact nope g9_4
             all_goals have g9_4p := g9_4; try simp [F] at g9_4p
             all_goals
              replace F := aF g9_4 F; try replace F := aF g9_4p F
              have n0 : pp = [] := by simpa using g9_4
              have n2 : perB ⟨pk, ps, pe, pt, []⟩ = false := by rw [← n0, hb]; simp [n0]
              replace F := aF n2 F; iterate 9 refine no2 (k := ?_)
              refine hJ31 _ _ ?_; refine hK30 _ _ ?_; refine ct ?_; refine sq fun K32 hK32 => ?_; refine rg' (h := fun J33 hJ33 => ?_); refine hJ33 _ _ ?_; refine hK32 _ _ ?_; refine run_ret ?_; try simp only [Then, InBlock, NoGoto]
              refine answer_tmp rfl (.inr rfl) ?_
              exact gcr (hA := by simp only [putA_get]; simp [rightB, hkn, F]; exact Wk.refl _)
           try exact nope g9_4
           all_goals have g9_4p := g9_4; try simp [F] at g9_4p
           all_goals
            replace F := aF g9_4 F; try replace F := aF g9_4p F
            iterate 4 refine go2 (k := ?_)
            refine gs 109 (fun g9_10 => ?_) (fun g9_10 => ?_)
            · try exact nope g9_10
              all_goals have g9_10p := g9_10; try simp [F] at g9_10p
              all_goals
               replace F := aF g9_10 F; try replace F := aF g9_10p F
               have n1 : ¬ pp.length ≤ 16 := by have h := g9_10; simp at h; omega
               have n2 : perB ⟨pk, ps, pe, pt, pp⟩ = false := by rw [hb]; simp [n1]
               replace F := aF n2 F; iterate 5 refine no2 (k := ?_)
               refine hJ31 _ _ ?_; refine hK30 _ _ ?_; refine ct ?_; refine sq fun K34 hK34 => ?_; refine rg' (h := fun J35 hJ35 => ?_); refine hJ35 _ _ ?_; refine hK34 _ _ ?_; refine run_ret ?_; try simp only [Then, InBlock, NoGoto]
               refine answer_tmp rfl (.inr rfl) ?_
               exact gcr (hA := by simp only [putA_get]; simp [rightB, hkn, F]; exact Wk.refl _)
            try exact nope g9_10
            all_goals have g9_10p := g9_10; try simp [F] at g9_10p
            all_goals
             replace F := aF g9_10 F; try replace F := aF g9_10p F
             iterate 5 refine go2 (k := ?_)
             refine hJ31 _ _ ?_; refine hK30 _ _ ?_; refine cs (fun c115 => ?_) (fun c115 => ?_)
             · try exact nope c115
               all_goals have c115p := c115; try simp [F] at c115p
               all_goals
                replace F := aF c115 F; try replace F := aF c115p F
                have n1 : pp = [] ∨ ¬ pp.length ≤ 16 ∨ ¬ ps ≤ pe := by first | (have h := c115; simp at h; omega) | (have h := g9_10; simp at h; omega) | exact .inl (by simpa using g9_4)
                have n2 : perB ⟨pk, ps, pe, pt, pp⟩ = false := by rw [hb]; rcases n1 with h | h | h <;> simp [h]
                replace F := aF n2 F; refine sq fun K36 hK36 => ?_; refine rg' (h := fun J37 hJ37 => ?_); refine hJ37 _ _ ?_; refine hK36 _ _ ?_; refine run_ret ?_; try simp only [Then, InBlock, NoGoto]
                refine answer_tmp rfl (.inr rfl) ?_
                exact gcr (hA := by simp only [putA_get]; simp [rightB, hkn, F]; exact Wk.refl _)
             try exact nope c115
             all_goals have c115p := c115; try simp [F] at c115p
             all_goals
              replace F := aF c115 F; try replace F := aF c115p F
              refine run_skip ?_; refine hK29 _ _ ?_; refine sq fun K38 hK38 => ?_
              have hse : ps ≤ pe := by have h := c115; simp at h; omega
              have hp16 : pp.length ≤ 16 := by have h := g9_10; simp at h; omega
              have hpn : ¬ pp = [] := by simp [F]
              have hpB : perB ⟨pk, ps, pe, pt, pp⟩ = decide (perOk2 pp (pe - ps) [] = some (0, pt)) := by rw [hb]; simp [hse, hp16, hpn]
              have hw0 : IntKind.u64.wrap ((pe : Int) - ps) = ((pe - ps : Nat) : Int) := by rw [wrap_u64c (by omega)]; omega
              replace F := aF hpB (And.intro hw0 F); refine rg' (h := fun J39 hJ39 => ?_); refine hJ39 _ _ ?_; refine hK38 _ _ ?_; refine sq fun K40 hK40 => ?_; refine rg' (h := fun J41 hJ41 => ?_); refine hJ41 _ _ ?_; refine hK40 _ _ ?_; refine sq fun K42 hK42 => ?_; refine sq fun K43 hK43 => ?_; refine run_nilsh 4 5 (k := ?_); refine rg' (h := fun J44 hJ44 => ?_); refine hJ44 _ _ ?_; refine hK43 _ _ ?_; refine run_block_k ?_
              refine run_loopG (X := PerQ) [1] (fun q ρ σ1 => (q.i ≤ pp.length) ∧ (perOk2 pp (pe - ps) [] = perOk2 (pp.drop q.i) q.e q.a) ∧ (q.e < 2 ^ 64) ∧ (Right q.a) ∧ (ρ 3 = .v (.int .u64 q.e)) ∧ (ρ 4 = .sl 5 (coinsC q.a) q.a.length .shut) ∧ (ρ 5 = .v (.int .i64 q.i)) ∧ (σ1 = { σ with objs := σ.objs ++ [[.v (.int .u8 pk.toNat), .v (.int .u64 ps), .v (.int .u64 pe), .sl 5 (coinsC pt) pt.length .shut, .sl 2 (persC pp) pp.length .shut]] })) (fun q => pp.length - q.i) (⟨0, pe - ps, []⟩) ?st1 ?rd1
              case st1 =>
               refine ⟨lp, ?_, lp, ?_, lp, lp, lp, ?_⟩
               · rfl
               · exact Go.Vm.right_nil
               · simp [F]
              case rd1 =>
               rintro q ρ1 σ1 hF1 ⟨hi, hE, hqe, hqr, h3, h4, h17, hσ⟩; obtain rfl := hσ.symm
               have f1 := keepL hF1
               try simp [KeepL, F] at f1
               replace F := aF h3 F; replace F := aF h4 F; replace F := aF h17 F; try replace F := aF f1 F
               refine sq fun K45 hK45 => ?_; refine sq fun K46 hK46 => ?_; refine rg' (h := fun J47 hJ47 => ?_); refine hJ47 _ _ ?_; refine hK46 _ _ ?_; refine cs (fun c125 => ?_) (fun c125 => ?_)
               · try exact nope c125
                 all_goals have c125p := c125; try simp [F] at c125p
                 all_goals
                  replace F := aF c125 F; try replace F := aF c125p F
                  refine run_skip ?_; refine hK45 _ _ ?_; refine sq fun K48 hK48 => ?_; refine run_block_k ?_; refine sq fun K49 hK49 => ?_
                  obtain ⟨i, E, S⟩ := q
                  simp only at hi hE hqe hqr h3 h4 h17
                  have hlt : i < pp.length := by simp at c125; omega
                  have hat := persC_at hlt
                  have hb1 : i * 2 + 2 ≤ pp.length * 2 := by omega
                  have hx5 := h5 _ (List.getElem_mem hlt)
                  have hcons : pp.drop i = pp[i] :: pp.drop (i + 1) := List.drop_eq_getElem_cons hlt
                  obtain ⟨x, hx⟩ : ∃ x, x = pp[i] := ⟨_, rfl⟩
                  rw [← hx] at hat hx5 hcons
                  rw [hcons] at hE
                  obtain ⟨xl, xc⟩ := x
                  obtain ⟨hxl, hxc⟩ := hx5
                  simp only at hxl hxc
                  simp only [perOk2] at hE
                  have hnilx : ((xc.length : Int) == 0) = decide (xc = []) := by cases xc <;> simp <;> omega
                  replace F := aF hlt F; replace F := aF hat F; replace F := aF hb1 F; replace F := aF hnilx F; refine rg' (h := fun J50 hJ50 => ?_); refine hJ50 _ _ ?_; refine hK49 _ _ ?_; refine sq fun K51 hK51 => ?_; refine sq fun K52 hK52 => ?_; refine rg' (h := fun J53 hJ53 => ?_); refine gs 136 (fun g17_3 => ?_) (fun g17_3 => ?_)
                  · try exact nope g17_3
                    all_goals have g17_3p := g17_3; try simp [F] at g17_3p
                    all_goals
                     replace F := aF g17_3 F; try replace F := aF g17_3p F
                     have hbad : perOk2 pp (pe - ps) [] = none := by rw [hE]; exact if_pos (.inl (by have h := g17_3; simp at h; omega))
                     replace F := aF hbad F; iterate 12 refine no2 (k := ?_)
                     refine hJ53 _ _ ?_; refine hK52 _ _ ?_; refine ct ?_; refine sq fun K54 hK54 => ?_; refine rg' (h := fun J55 hJ55 => ?_); refine hJ55 _ _ ?_; refine hK54 _ _ ?_; refine run_ret ?_; try simp only [Then, InBlock, NoGoto]
                     refine answer_tmp rfl (.inr rfl) ?_
                     exact gcr (hA := by simp only [putA_get]; simp [rightB, hkn, F]; exact Wk.refl _)
                  try exact nope g17_3
                  all_goals have g17_3p := g17_3; try simp [F] at g17_3p
                  all_goals
                   replace F := aF g17_3 F; try replace F := aF g17_3p F
                   iterate 4 refine go2 (k := ?_)
                   refine gs 142 (fun g17_9 => ?_) (fun g17_9 => ?_)
                   · try exact nope g17_9
                     all_goals have g17_9p := g17_9; try simp [F] at g17_9p
                     all_goals
                      replace F := aF g17_9 F; try replace F := aF g17_9p F
                      have hbad : perOk2 pp (pe - ps) [] = none := by rw [hE]; exact if_pos (.inr (.inl (by have h := g17_9; simp at h; omega)))
                      replace F := aF hbad F; iterate 8 refine no2 (k := ?_)
                      refine hJ53 _ _ ?_; refine hK52 _ _ ?_; refine ct ?_; refine sq fun K56 hK56 => ?_; refine rg' (h := fun J57 hJ57 => ?_); refine hJ57 _ _ ?_; refine hK56 _ _ ?_; refine run_ret ?_; try simp only [Then, InBlock, NoGoto]
                      refine answer_tmp rfl (.inr rfl) ?_
                      exact gcr (hA := by simp only [putA_get]; simp [rightB, hkn, F]; exact Wk.refl _)
                   try exact nope g17_9
                   all_goals have g17_9p := g17_9; try simp [F] at g17_9p
                   all_goals
                    replace F := aF g17_9 F; try replace F := aF g17_9p F
                    iterate 4 refine go2 (k := ?_)
                    refine gs 148 (fun g17_15 => ?_) (fun g17_15 => ?_)
                    · try exact nope g17_15
                      all_goals have g17_15p := g17_15; try simp [F] at g17_15p
                      all_goals
                       replace F := aF g17_15 F; try replace F := aF g17_15p F
                       have hbad : perOk2 pp (pe - ps) [] = none := by rw [hE]; exact if_pos (.inr (.inr (.inl (by simpa using g17_15))))
                       replace F := aF hbad F; iterate 4 refine no2 (k := ?_)
                       refine hJ53 _ _ ?_; refine hK52 _ _ ?_; refine ct ?_; refine sq fun K58 hK58 => ?_; refine rg' (h := fun J59 hJ59 => ?_); refine hJ59 _ _ ?_; refine hK58 _ _ ?_; refine run_ret ?_; try simp only [Then, InBlock, NoGoto]
                       refine answer_tmp rfl (.inr rfl) ?_
                       exact gcr (hA := by simp only [putA_get]; simp [rightB, hkn, F]; exact Wk.refl _)
                    try exact nope g17_15
                    all_goals have g17_15p := g17_15; try simp [F] at g17_15p
                    all_goals
                     replace F := aF g17_15 F; try replace F := aF g17_15p F
                     iterate 2 refine go2 (k := ?_)
                     refine ca (c := rright_ok hxc) (k := ?_); rintro _ _ ⟨rfl, rfl⟩; repeat (first | simp [F] | simp (disch := omega) only [wC, if_pos, if_neg])
                     refine go2 (k := ?_); refine hJ53 _ _ ?_; refine hK52 _ _ ?_; refine cs (fun c153 => ?_) (fun c153 => ?_)
                     · try exact nope c153
                       all_goals have c153p := c153; try simp [F] at c153p
                       all_goals
                        replace F := aF c153 F; try replace F := aF c153p F
                        have hbad : perOk2 pp (pe - ps) [] = none := by rw [hE]; exact if_pos (.inr (.inr (.inr (by simpa using c153))))
                        replace F := aF hbad F; refine sq fun K60 hK60 => ?_; refine rg' (h := fun J61 hJ61 => ?_); refine hJ61 _ _ ?_; refine hK60 _ _ ?_; refine run_ret ?_; try simp only [Then, InBlock, NoGoto]
                        refine answer_tmp rfl (.inr rfl) ?_
                        exact gcr (hA := by simp only [putA_get]; simp [rightB, hkn, F]; exact Wk.refl _)
                     try exact nope c153
                     all_goals have c153p := c153; try simp [F] at c153p
                     all_goals
                      replace F := aF c153 F; try replace F := aF c153p F
                      have n1 : ¬ xl = 0 := by have h := g17_3; simp at h; omega
                      have n2 : ¬ E < xl := by have h := g17_9; simp at h; omega
                      have n3 : ¬ xc = [] := by simpa using g17_15
                      have hxr : Right xc := by simpa using c153
                      have hgood : ¬ (xl = 0 ∨ E < xl ∨ xc = [] ∨ ¬ Right xc) := fun h => h.elim n1 (fun h => h.elim n2 (fun h => h.elim n3 (fun h => h hxr)))
                      have hw2 : E - xl < 2 ^ 64 := by omega
                      obtain ⟨S2, hS2⟩ : ∃ S2, S2 = cAddL S xc := ⟨_, rfl⟩
                      have hS2r : Right S2 := by rw [hS2]; exact right_cAdd _ _
                      rw [← hS2] at hE
                      rw [if_neg hgood] at hE
                      have hw : IntKind.u64.wrap ((E : Int) - xl) = ((E - xl : Nat) : Int) := by rw [wrap_u64c (by omega)]; omega
                      replace F := aF hw F; refine run_skip ?_; refine hK51 _ _ ?_; refine sq fun K62 hK62 => ?_; refine rg' (h := fun J63 hJ63 => ?_); refine hJ63 _ _ ?_; refine hK62 _ _ ?_; refine sq fun K64 hK64 => ?_; refine rg' (h := fun J65 hJ65 => ?_); refine ca (c := (hS2 ▸ rpadd_ok hqr hxr)) (k := ?_); rintro _ _ ⟨rfl, rfl⟩; repeat (first | simp [F] | simp (disch := omega) only [wC, if_pos, if_neg])
                      refine hJ65 _ _ ?_; refine hK64 _ _ ?_; refine sq fun K66 hK66 => ?_; refine sq fun K67 hK67 => ?_; refine rg' (h := fun J68 hJ68 => ?_); refine hJ68 _ _ ?_; refine hK67 _ _ ?_; refine cs (fun c166 => ?_) (fun c166 => ?_)
                      · try exact nope c166
                        all_goals have c166p := c166; try simp [F] at c166p
                        all_goals
                         replace F := aF c166 F; try replace F := aF c166p F
                         have hne : ¬ cAddE S xc = 0 := by simpa using c166
                         rw [if_neg hne] at hE
                         replace F := aF hE F; refine sq fun K69 hK69 => ?_; refine rg' (h := fun J70 hJ70 => ?_); refine hJ70 _ _ ?_; refine hK69 _ _ ?_; refine run_ret ?_; try simp only [Then, InBlock, NoGoto]
                         refine answer_tmp rfl (.inr rfl) ?_
                         exact gcr (hA := by simp only [putA_get]; simp [rightB, hkn, F]; exact Wk.refl _)
                      try exact nope c166
                      all_goals have c166p := c166; try simp [F] at c166p
                      all_goals
                       replace F := aF c166 F; try replace F := aF c166p F
                       have hye : cAddE S xc = 0 := by simpa using c166
                       rw [if_pos hye] at hE
                       refine run_skip ?_; refine hK66 _ _ ?_; refine rg' (h := fun J71 hJ71 => ?_); refine hJ71 _ _ ?_; refine hK48 _ _ ?_; refine rg' (h := fun J72 hJ72 => ?_); refine hJ72 _ _ ?_; refine ⟨gk, (⟨i + 1, E - xl, S2⟩), ⟨kpG, lpG, ?_, ?_, ?_, lpG, lpG, lpG, lpG⟩, lpG⟩
                       · exact hE
                       · exact hw2
                       · exact hS2r
               try exact nope c125
               all_goals have c125p := c125; try simp [F] at c125p
               all_goals
                replace F := aF c125 F; try replace F := aF c125p F
                have hend : perOk2 pp (pe - ps) [] = some (q.e, q.a) := by rw [hE, List.drop_of_length_le (by have h := c125; simp at h; omega)]; rfl
                replace F := aF hend F; refine run_exit ?_; refine hK42 _ _ ?_; refine sq fun K73 hK73 => ?_; refine rg' (h := fun J74 hJ74 => ?_); refine gs 170 (fun g24_2 => ?_) (fun g24_2 => ?_)
                · try exact nope g24_2
                  all_goals have g24_2p := g24_2; try simp [F] at g24_2p
                  all_goals
                   replace F := aF g24_2 F; try replace F := aF g24_2p F
                   have hee : q.e = 0 := by have h := g24_2; simp at h; omega
                   replace F := aF hee F; iterate 3 refine go2 (k := ?_)
                   refine ca (c := rsame_ok (by have := right_len hqr; omega) k3) (k := ?_)
                   rintro _ _ ⟨rfl, rfl⟩; repeat (first | simp [F] | simp (disch := omega) only [wC, if_pos, if_neg])
                   refine hJ74 _ _ ?_; refine hK73 _ _ ?_; refine run_ret ?_; try simp only [Then, InBlock, NoGoto]
                   refine answer_tmp rfl (.inr rfl) ?_
                   exact gcr (hA := by simp only [putA_get]; simp [rightB, hkn, F]; exact Wk.refl _)
                try exact nope g24_2
                all_goals have g24_2p := g24_2; try simp [F] at g24_2p
                all_goals
                 replace F := aF g24_2 F; try replace F := aF g24_2p F
                 have hee : ¬ q.e = 0 := by have h := g24_2; simp at h; omega
                 replace F := aF hee F; iterate 4 refine no2 (k := ?_)
                 refine hJ74 _ _ ?_; refine hK73 _ _ ?_; refine run_ret ?_; try simp only [Then, InBlock, NoGoto]
                 refine answer_tmp rfl (.inr rfl) ?_
                 exact gcr (hA := by simp only [putA_get]; simp [rightB, hkn, F]; exact Wk.refl _)
       try exact nope g5_3
       all_goals have g5_3p := g5_3; try simp [F] at g5_3p
       all_goals
        replace F := aF g5_3 F; try replace F := aF g5_3p F
        iterate 3 refine no2 (k := ?_)
        refine hJ21 _ _ ?_; refine hK20 _ _ ?_; refine cf ?_; refine run_skip ?_; refine hK19 _ _ ?_; refine sq fun K75 hK75 => ?_; refine sq fun K76 hK76 => ?_; refine rg' (h := fun J77 hJ77 => ?_); refine gs 103 (fun g9_4 => ?_) (fun g9_4 => ?_)
        · try exact nope g9_4
          all_goals have g9_4p := g9_4; try simp [F] at g9_4p
          all_goals
           replace F := aF g9_4 F; try replace F := aF g9_4p F
           have n0 : pp = [] := by simpa using g9_4
           have n2 : perB ⟨pk, ps, pe, pt, []⟩ = false := by rw [← n0, hb]; simp [n0]
           replace F := aF n2 F; iterate 9 refine no2 (k := ?_)
           refine hJ77 _ _ ?_; refine hK76 _ _ ?_; refine ct ?_; refine sq fun K78 hK78 => ?_; refine rg' (h := fun J79 hJ79 => ?_); refine hJ79 _ _ ?_; refine hK78 _ _ ?_; refine run_ret ?_; try simp only [Then, InBlock, NoGoto]
           refine answer_tmp rfl (.inr rfl) ?_
           exact gcr (hA := by simp only [putA_get]; simp [rightB, hkn, F]; exact Wk.refl _)
        try exact nope g9_4
        all_goals have g9_4p := g9_4; try simp [F] at g9_4p
        all_goals
         replace F := aF g9_4 F; try replace F := aF g9_4p F
         iterate 4 refine go2 (k := ?_)
         refine gs 109 (fun g9_10 => ?_) (fun g9_10 => ?_)
         · try exact nope g9_10
           all_goals have g9_10p := g9_10; try simp [F] at g9_10p
           all_goals
            replace F := aF g9_10 F; try replace F := aF g9_10p F
            have n1 : ¬ pp.length ≤ 16 := by have h := g9_10; simp at h; omega
            have n2 : perB ⟨pk, ps, pe, pt, pp⟩ = false := by rw [hb]; simp [n1]
            replace F := aF n2 F; iterate 5 refine no2 (k := ?_)
            refine hJ77 _ _ ?_; refine hK76 _ _ ?_; refine ct ?_; refine sq fun K80 hK80 => ?_; refine rg' (h := fun J81 hJ81 => ?_); refine hJ81 _ _ ?_; refine hK80 _ _ ?_; refine run_ret ?_; try simp only [Then, InBlock, NoGoto]
            refine answer_tmp rfl (.inr rfl) ?_
            exact gcr (hA := by simp only [putA_get]; simp [rightB, hkn, F]; exact Wk.refl _)
         try exact nope g9_10
         all_goals have g9_10p := g9_10; try simp [F] at g9_10p
         all_goals
          replace F := aF g9_10 F; try replace F := aF g9_10p F
          iterate 5 refine go2 (k := ?_)
          refine hJ77 _ _ ?_; refine hK76 _ _ ?_; refine cs (fun c115 => ?_) (fun c115 => ?_)
          · try exact nope c115
            all_goals have c115p := c115; try simp [F] at c115p
            all_goals
             replace F := aF c115 F; try replace F := aF c115p F
             have n1 : pp = [] ∨ ¬ pp.length ≤ 16 ∨ ¬ ps ≤ pe := by first | (have h := c115; simp at h; omega) | (have h := g9_10; simp at h; omega) | exact .inl (by simpa using g9_4)
             have n2 : perB ⟨pk, ps, pe, pt, pp⟩ = false := by rw [hb]; rcases n1 with h | h | h <;> simp [h]
             replace F := aF n2 F; refine sq fun K82 hK82 => ?_; refine rg' (h := fun J83 hJ83 => ?_); refine hJ83 _ _ ?_; refine hK82 _ _ ?_; refine run_ret ?_; try simp only [Then, InBlock, NoGoto]
             refine answer_tmp rfl (.inr rfl) ?_
             exact gcr (hA := by simp only [putA_get]; simp [rightB, hkn, F]; exact Wk.refl _)
          try exact nope c115
          all_goals have c115p := c115; try simp [F] at c115p
          all_goals
           replace F := aF c115 F; try replace F := aF c115p F
           refine run_skip ?_; refine hK75 _ _ ?_; refine sq fun K84 hK84 => ?_
           have hse : ps ≤ pe := by have h := c115; simp at h; omega
           have hp16 : pp.length ≤ 16 := by have h := g9_10; simp at h; omega
           have hpn : ¬ pp = [] := by simp [F]
           have hpB : perB ⟨pk, ps, pe, pt, pp⟩ = decide (perOk2 pp (pe - ps) [] = some (0, pt)) := by rw [hb]; simp [hse, hp16, hpn]
           have hw0 : IntKind.u64.wrap ((pe : Int) - ps) = ((pe - ps : Nat) : Int) := by rw [wrap_u64c (by omega)]; omega
           replace F := aF hpB (And.intro hw0 F); refine rg' (h := fun J85 hJ85 => ?_); refine hJ85 _ _ ?_; refine hK84 _ _ ?_; refine sq fun K86 hK86 => ?_; refine rg' (h := fun J87 hJ87 => ?_); refine hJ87 _ _ ?_; refine hK86 _ _ ?_; refine sq fun K88 hK88 => ?_; refine sq fun K89 hK89 => ?_; refine run_nilsh 4 5 (k := ?_); refine rg' (h := fun J90 hJ90 => ?_); refine hJ90 _ _ ?_; refine hK89 _ _ ?_; refine run_block_k ?_
           refine run_loopG (X := PerQ) [1] (fun q ρ σ1 => (q.i ≤ pp.length) ∧ (perOk2 pp (pe - ps) [] = perOk2 (pp.drop q.i) q.e q.a) ∧ (q.e < 2 ^ 64) ∧ (Right q.a) ∧ (ρ 3 = .v (.int .u64 q.e)) ∧ (ρ 4 = .sl 5 (coinsC q.a) q.a.length .shut) ∧ (ρ 5 = .v (.int .i64 q.i)) ∧ (σ1 = { σ with objs := σ.objs ++ [[.v (.int .u8 pk.toNat), .v (.int .u64 ps), .v (.int .u64 pe), .sl 5 (coinsC pt) pt.length .shut, .sl 2 (persC pp) pp.length .shut]] })) (fun q => pp.length - q.i) (⟨0, pe - ps, []⟩) ?st1 ?rd1
           case st1 =>
            refine ⟨lp, ?_, lp, ?_, lp, lp, lp, ?_⟩
            · rfl
            · exact Go.Vm.right_nil
            · simp [F]
           case rd1 =>
            rintro q ρ1 σ1 hF1 ⟨hi, hE, hqe, hqr, h3, h4, h17, hσ⟩; obtain rfl := hσ.symm
            have f1 := keepL hF1
            try simp [KeepL, F] at f1
            replace F := aF h3 F; replace F := aF h4 F; replace F := aF h17 F; try replace F := aF f1 F
            refine sq fun K91 hK91 => ?_; refine sq fun K92 hK92 => ?_; refine rg' (h := fun J93 hJ93 => ?_); refine hJ93 _ _ ?_; refine hK92 _ _ ?_; refine cs (fun c125 => ?_) (fun c125 => ?_)
            · try exact nope c125
              all_goals have c125p := c125; try simp [F] at c125p
              all_goals
               replace F := aF c125 F; try replace F := aF c125p F
               refine run_skip ?_; refine hK91 _ _ ?_; refine sq fun K94 hK94 => ?_; refine run_block_k ?_; refine sq fun K95 hK95 => ?_
               obtain ⟨i, E, S⟩ := q
               simp only at hi hE hqe hqr h3 h4 h17
               have hlt : i < pp.length := by simp at c125; omega
               have hat := persC_at hlt
               have hb1 : i * 2 + 2 ≤ pp.length * 2 := by omega
               have hx5 := h5 _ (List.getElem_mem hlt)
               have hcons : pp.drop i = pp[i] :: pp.drop (i + 1) := List.drop_eq_getElem_cons hlt
               obtain ⟨x, hx⟩ : ∃ x, x = pp[i] := ⟨_, rfl⟩
               rw [← hx] at hat hx5 hcons
               rw [hcons] at hE
               obtain ⟨xl, xc⟩ := x
               obtain ⟨hxl, hxc⟩ := hx5
               simp only at hxl hxc
               simp only [perOk2] at hE
               have hnilx : ((xc.length : Int) == 0) = decide (xc = []) := by cases xc <;> simp <;> omega
               replace F := aF hlt F; replace F := aF hat F; replace F := aF hb1 F; replace F := aF hnilx F; refine rg' (h := fun J96 hJ96 => ?_); refine hJ96 _ _ ?_; refine hK95 _ _ ?_; refine sq fun K97 hK97 => ?_; refine sq fun K98 hK98 => ?_; refine rg' (h := fun J99 hJ99 => ?_); refine gs 136 (fun g17_3 => ?_) (fun g17_3 => ?_)
               · try exact nope g17_3
                 all_goals have g17_3p := g17_3; try simp [F] at g17_3p
                 all_goals
                  replace F := aF g17_3 F; try replace F := aF g17_3p F
                  have hbad : perOk2 pp (pe - ps) [] = none := by rw [hE]; exact if_pos (.inl (by have h := g17_3; simp at h; omega))
                  replace F := aF hbad F; iterate 12 refine no2 (k := ?_)
                  refine hJ99 _ _ ?_; refine hK98 _ _ ?_; refine ct ?_; refine sq fun K100 hK100 => ?_; refine rg' (h := fun J101 hJ101 => ?_); refine hJ101 _ _ ?_; refine hK100 _ _ ?_; refine run_ret ?_; try simp only [Then, InBlock, NoGoto]
                  refine answer_tmp rfl (.inr rfl) ?_
                  exact gcr (hA := by simp only [putA_get]; simp [rightB, hkn, F]; exact Wk.refl _)
               try exact nope g17_3
               all_goals have g17_3p := g17_3; try simp [F] at g17_3p
               all_goals
                replace F := aF g17_3 F; try replace F := aF g17_3p F
                iterate 4 refine go2 (k := ?_)
                refine gs 142 (fun g17_9 => ?_) (fun g17_9 => ?_)
                · try exact nope g17_9
                  all_goals have g17_9p := g17_9; try simp [F] at g17_9p
                  all_goals
                   replace F := aF g17_9 F; try replace F := aF g17_9p F
                   have hbad : perOk2 pp (pe - ps) [] = none := by rw [hE]; exact if_pos (.inr (.inl (by have h := g17_9; simp at h; omega)))
                   replace F := aF hbad F; iterate 8 refine no2 (k := ?_)
                   refine hJ99 _ _ ?_; refine hK98 _ _ ?_; refine ct ?_; refine sq fun K102 hK102 => ?_; refine rg' (h := fun J103 hJ103 => ?_); refine hJ103 _ _ ?_; refine hK102 _ _ ?_; refine run_ret ?_; try simp only [Then, InBlock, NoGoto]
                   refine answer_tmp rfl (.inr rfl) ?_
                   exact gcr (hA := by simp only [putA_get]; simp [rightB, hkn, F]; exact Wk.refl _)
                try exact nope g17_9
                all_goals have g17_9p := g17_9; try simp [F] at g17_9p
                all_goals
                 replace F := aF g17_9 F; try replace F := aF g17_9p F
                 iterate 4 refine go2 (k := ?_)
                 refine gs 148 (fun g17_15 => ?_) (fun g17_15 => ?_)
                 · try exact nope g17_15
                   all_goals have g17_15p := g17_15; try simp [F] at g17_15p
                   all_goals
                    replace F := aF g17_15 F; try replace F := aF g17_15p F
                    have hbad : perOk2 pp (pe - ps) [] = none := by rw [hE]; exact if_pos (.inr (.inr (.inl (by simpa using g17_15))))
                    replace F := aF hbad F; iterate 4 refine no2 (k := ?_)
                    refine hJ99 _ _ ?_; refine hK98 _ _ ?_; refine ct ?_; refine sq fun K104 hK104 => ?_; refine rg' (h := fun J105 hJ105 => ?_); refine hJ105 _ _ ?_; refine hK104 _ _ ?_; refine run_ret ?_; try simp only [Then, InBlock, NoGoto]
                    refine answer_tmp rfl (.inr rfl) ?_
                    exact gcr (hA := by simp only [putA_get]; simp [rightB, hkn, F]; exact Wk.refl _)
                 try exact nope g17_15
                 all_goals have g17_15p := g17_15; try simp [F] at g17_15p
                 all_goals
                  replace F := aF g17_15 F; try replace F := aF g17_15p F
                  iterate 2 refine go2 (k := ?_)
                  refine ca (c := rright_ok hxc) (k := ?_); rintro _ _ ⟨rfl, rfl⟩; repeat (first | simp [F] | simp (disch := omega) only [wC, if_pos, if_neg])
                  refine go2 (k := ?_); refine hJ99 _ _ ?_; refine hK98 _ _ ?_; refine cs (fun c153 => ?_) (fun c153 => ?_)
                  · try exact nope c153
                    all_goals have c153p := c153; try simp [F] at c153p
                    all_goals
                     replace F := aF c153 F; try replace F := aF c153p F
                     have hbad : perOk2 pp (pe - ps) [] = none := by rw [hE]; exact if_pos (.inr (.inr (.inr (by simpa using c153))))
                     replace F := aF hbad F; refine sq fun K106 hK106 => ?_; refine rg' (h := fun J107 hJ107 => ?_); refine hJ107 _ _ ?_; refine hK106 _ _ ?_; refine run_ret ?_; try simp only [Then, InBlock, NoGoto]
                     refine answer_tmp rfl (.inr rfl) ?_
                     exact gcr (hA := by simp only [putA_get]; simp [rightB, hkn, F]; exact Wk.refl _)
                  try exact nope c153
                  all_goals have c153p := c153; try simp [F] at c153p
                  all_goals
                   replace F := aF c153 F; try replace F := aF c153p F
                   have n1 : ¬ xl = 0 := by have h := g17_3; simp at h; omega
                   have n2 : ¬ E < xl := by have h := g17_9; simp at h; omega
                   have n3 : ¬ xc = [] := by simpa using g17_15
                   have hxr : Right xc := by simpa using c153
                   have hgood : ¬ (xl = 0 ∨ E < xl ∨ xc = [] ∨ ¬ Right xc) := fun h => h.elim n1 (fun h => h.elim n2 (fun h => h.elim n3 (fun h => h hxr)))
                   have hw2 : E - xl < 2 ^ 64 := by omega
                   obtain ⟨S2, hS2⟩ : ∃ S2, S2 = cAddL S xc := ⟨_, rfl⟩
                   have hS2r : Right S2 := by rw [hS2]; exact right_cAdd _ _
                   rw [← hS2] at hE
                   rw [if_neg hgood] at hE
                   have hw : IntKind.u64.wrap ((E : Int) - xl) = ((E - xl : Nat) : Int) := by rw [wrap_u64c (by omega)]; omega
                   replace F := aF hw F; refine run_skip ?_; refine hK97 _ _ ?_; refine sq fun K108 hK108 => ?_; refine rg' (h := fun J109 hJ109 => ?_); refine hJ109 _ _ ?_; refine hK108 _ _ ?_; refine sq fun K110 hK110 => ?_; refine rg' (h := fun J111 hJ111 => ?_); refine ca (c := (hS2 ▸ rpadd_ok hqr hxr)) (k := ?_); rintro _ _ ⟨rfl, rfl⟩; repeat (first | simp [F] | simp (disch := omega) only [wC, if_pos, if_neg])
                   refine hJ111 _ _ ?_; refine hK110 _ _ ?_; refine sq fun K112 hK112 => ?_; refine sq fun K113 hK113 => ?_; refine rg' (h := fun J114 hJ114 => ?_); refine hJ114 _ _ ?_; refine hK113 _ _ ?_; refine cs (fun c166 => ?_) (fun c166 => ?_)
                   · try exact nope c166
                     all_goals have c166p := c166; try simp [F] at c166p
                     all_goals
                      replace F := aF c166 F; try replace F := aF c166p F
                      have hne : ¬ cAddE S xc = 0 := by simpa using c166
                      rw [if_neg hne] at hE
                      replace F := aF hE F; refine sq fun K115 hK115 => ?_; refine rg' (h := fun J116 hJ116 => ?_); refine hJ116 _ _ ?_; refine hK115 _ _ ?_; refine run_ret ?_; try simp only [Then, InBlock, NoGoto]
                      refine answer_tmp rfl (.inr rfl) ?_
                      exact gcr (hA := by simp only [putA_get]; simp [rightB, hkn, F]; exact Wk.refl _)
                   try exact nope c166
                   all_goals have c166p := c166; try simp [F] at c166p
                   all_goals
                    replace F := aF c166 F; try replace F := aF c166p F
                    have hye : cAddE S xc = 0 := by simpa using c166
                    rw [if_pos hye] at hE
                    refine run_skip ?_; refine hK112 _ _ ?_; refine rg' (h := fun J117 hJ117 => ?_); refine hJ117 _ _ ?_; refine hK94 _ _ ?_; refine rg' (h := fun J118 hJ118 => ?_); refine hJ118 _ _ ?_; refine ⟨gk, (⟨i + 1, E - xl, S2⟩), ⟨kpG, lpG, ?_, ?_, ?_, lpG, lpG, lpG, lpG⟩, lpG⟩
                    · exact hE
                    · exact hw2
                    · exact hS2r
            try exact nope c125
            all_goals have c125p := c125; try simp [F] at c125p
            all_goals
             replace F := aF c125 F; try replace F := aF c125p F
             have hend : perOk2 pp (pe - ps) [] = some (q.e, q.a) := by rw [hE, List.drop_of_length_le (by have h := c125; simp at h; omega)]; rfl
             replace F := aF hend F; refine run_exit ?_; refine hK88 _ _ ?_; refine sq fun K119 hK119 => ?_; refine rg' (h := fun J120 hJ120 => ?_); refine gs 170 (fun g24_2 => ?_) (fun g24_2 => ?_)
             · try exact nope g24_2
               all_goals have g24_2p := g24_2; try simp [F] at g24_2p
               all_goals
                replace F := aF g24_2 F; try replace F := aF g24_2p F
                have hee : q.e = 0 := by have h := g24_2; simp at h; omega
                replace F := aF hee F; iterate 3 refine go2 (k := ?_)
                refine ca (c := rsame_ok (by have := right_len hqr; omega) k3) (k := ?_)
                rintro _ _ ⟨rfl, rfl⟩; repeat (first | simp [F] | simp (disch := omega) only [wC, if_pos, if_neg])
                refine hJ120 _ _ ?_; refine hK119 _ _ ?_; refine run_ret ?_; try simp only [Then, InBlock, NoGoto]
                refine answer_tmp rfl (.inr rfl) ?_
                exact gcr (hA := by simp only [putA_get]; simp [rightB, hkn, F]; exact Wk.refl _)
             try exact nope g24_2
             all_goals have g24_2p := g24_2; try simp [F] at g24_2p
             all_goals
              replace F := aF g24_2 F; try replace F := aF g24_2p F
              have hee : ¬ q.e = 0 := by have h := g24_2; simp at h; omega
              replace F := aF hee F; iterate 4 refine no2 (k := ?_)
              refine hJ120 _ _ ?_; refine hK119 _ _ ?_; refine run_ret ?_; try simp only [Then, InBlock, NoGoto]
              refine answer_tmp rfl (.inr rfl) ?_
              exact gcr (hA := by simp only [putA_get]; simp [rightB, hkn, F]; exact Wk.refl _)

end Go.Proofs.Ytdbaddholggkbaa

/-
  What a plan gives by a time.
-/
namespace Go.Vm
open Go

def lenS : List Per → Nat
  | [] => 0
  | x :: l => x.l + lenS l
def sumL : List Per → List Coin → List Coin
  | [], a => a
  | x :: l, a => sumL l (cAddL a x.c)
end Go.Vm

/-
  Plans that are made of numbers: they are right.
-/
namespace Go.Vm
set_option linter.unnecessarySimpa false
set_option linter.unusedSimpArgs false
set_option linter.unusedVariables false
open Go

structure Pc where
  l : Nat
  c : List Coin
structure Mad where
  k : UInt8
  s : Nat
  n : Nat
  c : List Coin
  ps : List Pc
def Mad.Ok (m : Mad) : Prop := m.s < 2 ^ 32 ∧ m.n < 2 ^ 16 ∧ ∀ x ∈ m.ps, x.l < 2 ^ 16
def pcC (x : Pc) : List AV := [.v (.int .u16 x.l), .sl 5 (coinsC x.c) x.c.length .shut]
def pcsC (l : List Pc) : List AV := l.flatMap pcC
@[simp] theorem pcsC_nil : pcsC [] = [] := rfl
@[simp] theorem pcsC_len (l : List Pc) : (pcsC l).length = l.length * 2 := flat_length pcC 2 (fun _ => rfl) l
end Go.Vm

/-
  Plans that are made of numbers..
-/
namespace Go.Proofs.Ytdbaddholggkbaa
set_option linter.unnecessarySimpa false
set_option maxRecDepth 100000
open Go Go.Vm
set_option linter.unusedSimpArgs false
set_option linter.unusedVariables false
attribute [local simp] evalL wantedA isCall opA evalA evalAll evalsA evalOpt ofValue ofCell plain binA_eql_pn binA_neq_pn binA_gtr binA_lss binA_geq binA_leq binA_add binA_sub binA_eql binA_neq binA_orI binA_andI binA_shl binA_shr binA_mul binA_quo binA_rem binA_agg_eql binA_agg_neq convA_int unA_not fieldAddrA loadA partA pickA_true pickA_false pickA_bb lenA builtinA storeA splice AV.cells AV.isCell sliceA boundA intA callOf indexAddrA newObjA buildA fillA zeroA ofCells buildSliceA indexA fieldA numA_len4 numA_take4 numA_drop4 set_appN get_appN take_appN List.getElem?_cons_zero List.getElem?_cons_succ makeA zeros64

def allA (b : Bool) (l : List Coin) : AV := bif b then .sl 5 (coinsC l) l.length .shut else .sl 0 [] 0 .full
@[simp] theorem allA_yes (l : List Coin) : allA true l = .sl 5 (coinsC l) l.length .shut := rfl
@[simp] theorem allA_no (l : List Coin) : allA false l = .sl 0 [] 0 .full := rfl
end Go.Proofs.Ytdbaddholggkbaa

/-
  What right plans give by a time: the plain laws.
-/
namespace Go.Vm
set_option linter.unnecessarySimpa false
set_option linter.unusedSimpArgs false
set_option linter.unusedVariables false
open Go

def PerOk (x : Per) : Prop := 0 < x.l ∧ x.l ≤ 2 ^ 16 ∧ x.c ≠ [] ∧ Right x.c ∧ ∀ d, d < 8 → amt x.c d < 2 ^ 250
structure Fine (p : Pln) : Prop where
  ok : p.Ok
  tot : Right p.tot
  kinds : p.k = 0 ∨ p.k = 1 ∨ p.k = 2 ∨ p.k = 3 ∨ p.k = 4 ∨ p.k = 5
  zero : p.k = 0 → p = ⟨0, 0, 0, [], []⟩
  even : p.k = 1 → p.s < p.e
  late : p.k = 2 → p.s = 0
  small : p.s + lenS p.ps ≤ 2 ^ 40
  pers : ∀ x ∈ p.ps, PerOk x
  steps : p.k = 3 ∨ p.k = 5 → p.e = p.s + lenS p.ps ∧ p.tot = sumL p.ps [] ∧ p.ps ≠ [] ∧ p.ps.length ≤ 16

end Go.Vm

/-
  Are two plans alike, by the document..
-/
namespace Go.Proofs.Ytdbaddholggkbaa
set_option linter.unnecessarySimpa false
set_option maxRecDepth 100000
open Go Go.Vm
set_option linter.unusedSimpArgs false
set_option linter.unusedVariables false
attribute [local simp] evalL wantedA isCall opA evalA evalAll evalsA evalOpt ofValue ofCell plain binA_eql_pn binA_neq_pn binA_gtr binA_lss binA_geq binA_leq binA_add binA_sub binA_eql binA_neq binA_orI binA_andI binA_shl binA_shr binA_mul binA_quo binA_rem binA_agg_eql binA_agg_neq convA_int unA_not fieldAddrA loadA partA pickA_true pickA_false pickA_bb lenA builtinA storeA splice AV.cells AV.isCell sliceA boundA intA callOf indexAddrA newObjA buildA fillA zeroA ofCells buildSliceA indexA fieldA numA_len4 numA_take4 numA_drop4 set_appN get_appN take_appN List.getElem?_cons_zero List.getElem?_cons_succ makeA zeros64

set_option maxHeartbeats 1600000 in
attribute [local simp] undefA List.getElem?_cons_zero List.getElem?_cons_succ plnC perC persC_noObj in
theorem rplsame_ok {σ : St} {a b : Pln} (ha : a.Ok) (hb : b.Ok) :
    CallsA Try.prog 31 [.agg (plnC a), .agg (plnC b)] σ (fun av σ' => av = .v (.bool (decide (a = b))) ∧ σ = σ') := by
  refine callsA_gcS ?_ rfl
  obtain ⟨D, hD⟩ : ∃ D, D = decide (a = b) := ⟨_, rfl⟩
  rw [← hD]
  obtain ⟨ak, a1, a2, a3, a4⟩ := a
  obtain ⟨bk, b1, b2, b3, b4⟩ := b
  obtain ⟨ha1, ha2, ha3, ha4, ha5⟩ := ha
  obtain ⟨hb1, hb2, hb3, hb4, hb5⟩ := hb
  simp only [Pln.mk.injEq] at *
  have hno : ¬ (ak = bk ∧ a1 = b1 ∧ a2 = b2 ∧ a3 = b3 ∧ a4 = b4) → D = false := fun h => by rw [hD]; exact decide_eq_false h
  have hyes : ak = bk → a1 = b1 → a2 = b2 → a3 = b3 → a4 = b4 → D = true := fun h1 h2 h3 h4 h5 => by rw [hD]; exact decide_eq_true ⟨h1, h2, h3, h4, h5⟩
  clear hD
  obtain ⟨B, hB⟩ : ∃ B, B = !(decide (ak = bk) && decide (a1 = b1) && decide (a2 = b2) && decide (a3 = b3) && decide (a4.length = b4.length)) := ⟨_, rfl⟩
  have F := True.intro
  refine callsA_body Try.func31 rfl rfl rfl ?_; refine sq fun K1 hK1 => ?_; refine rg' (h := fun J2 hJ2 => ?_); refine hJ2 _ _ ?_; refine hK1 _ _ ?_; refine sq fun K3 hK3 => ?_; refine sqc (X := Unit) [2, 3, 4] (fun k ρ σ1 => (ρ 41 = .v (.bool B)) ∧ (σ1 = { σ with objs := σ.objs ++ [[.v (.int .u8 ak.toNat), .v (.int .u64 a1), .v (.int .u64 a2), .sl 5 (coinsC a3) a3.length .shut, .sl 2 (persC a4) a4.length .shut], [.v (.int .u8 bk.toNat), .v (.int .u64 b1), .v (.int .u64 b2), .sl 5 (coinsC b3) b3.length .shut, .sl 2 (persC b4) b4.length .shut]] })) ?cy4 ?cx4
  case cy4 =>
   rintro k ρCr1 σ1 hFCr1 ⟨h41, hσ⟩; obtain rfl := hσ.symm
   have fCr1 := keepL hFCr1
   try simp [KeepL, F] at fCr1
   replace F := aF h41 F; try replace F := aF fCr1 F
   refine cs (t := B) (fun c41 => ?_) (fun c41 => ?_)
   · try exact nope c41
     all_goals have c41p := c41; try simp [F] at c41p
     all_goals
      replace F := aF c41 F; try replace F := aF c41p F
      have h0 : D = false := hno (fun ⟨e1, e2, e3, e4, e5⟩ => by rw [hB, e1, e2, e3, e4, e5] at c41; simp at c41)
      replace F := aF h0 F; refine sq fun K5 hK5 => ?_; refine rg' (h := fun J6 hJ6 => ?_); refine hJ6 _ _ ?_; refine hK5 _ _ ?_; refine run_ret ?_; try simp only [Then, InBlock, NoGoto]
      refine answer_tmp rfl (.inr rfl) ?_; exact gcr
   try exact nope c41
   all_goals have c41p := c41; try simp [F] at c41p
   all_goals
    replace F := aF c41 F; try replace F := aF c41p F
    obtain ⟨e1, e2, e3, e4, e5⟩ : ak = bk ∧ a1 = b1 ∧ a2 = b2 ∧ a3 = b3 ∧ a4.length = b4.length := by rw [hB] at c41; simp at c41; obtain ⟨⟨⟨⟨h1, h2⟩, h3⟩, h4⟩, h5⟩ := c41; exact ⟨h1, h2, h3, h4, h5⟩
    refine run_skip ?_; refine hK3 _ _ ?_; refine sq fun K7 hK7 => ?_; refine sq fun K8 hK8 => ?_; refine rg' (h := fun J9 hJ9 => ?_); refine hJ9 _ _ ?_; refine hK8 _ _ ?_; refine run_block_k ?_
    refine run_loopF (X := Nat) [2, 3] (fun i ρ σ1 => (i ≤ a4.length) ∧ (a4.take i = b4.take i) ∧ (ρ 5 = .v (.int .i64 i)) ∧ (σ1 = { σ with objs := σ.objs ++ [[.v (.int .u8 ak.toNat), .v (.int .u64 a1), .v (.int .u64 a2), .sl 5 (coinsC a3) a3.length .shut, .sl 2 (persC a4) a4.length .shut], [.v (.int .u8 bk.toNat), .v (.int .u64 b1), .v (.int .u64 b2), .sl 5 (coinsC b3) b3.length .shut, .sl 2 (persC b4) b4.length .shut]] })) (fun i => a4.length - i) (0) ?st1 ?rd1
    case st1 =>
     refine ⟨lp, ?_, lp, ?_⟩
     · rfl
     · rfl
    case rd1 =>
     rintro i ρ1 σ1 hF1 ⟨hi, hE, h5, hσ⟩; obtain rfl := hσ.symm
     have f1 := keepL hF1
     try simp [KeepL, F] at f1
     replace F := aF h5 F; try replace F := aF f1 F
     refine sq fun K10 hK10 => ?_; refine sq fun K11 hK11 => ?_; refine rg' (h := fun J12 hJ12 => ?_); refine hJ12 _ _ ?_; refine hK11 _ _ ?_; refine cs (fun c46 => ?_) (fun c46 => ?_)
     · try exact nope c46
       all_goals have c46p := c46; try simp [F] at c46p
       all_goals
        replace F := aF c46 F; try replace F := aF c46p F
        refine run_skip ?_; refine hK10 _ _ ?_; refine sq fun K13 hK13 => ?_; refine run_block_k ?_; refine sq fun K14 hK14 => ?_
        have hlt : i < a4.length := by have h := c46; simp at h; omega
        have hlt2 : i < b4.length := by omega
        have hat := persC_at hlt
        have hat2 := persC_at hlt2
        have hb1 : i * 2 + 2 ≤ a4.length * 2 := by omega
        have hb2 : i * 2 + 2 ≤ b4.length * 2 := by omega
        have hx5 := ha5 _ (List.getElem_mem hlt)
        have hy5 := hb5 _ (List.getElem_mem hlt2)
        have htx : a4.take (i + 1) = a4.take i ++ [a4[i]] := (List.take_append_getElem hlt).symm
        have hty : b4.take (i + 1) = b4.take i ++ [b4[i]] := (List.take_append_getElem hlt2).symm
        have hxy : a4 = b4 → a4[i] = b4[i] := fun e => by subst e; rfl
        obtain ⟨x, hx⟩ : ∃ x, x = a4[i] := ⟨_, rfl⟩
        obtain ⟨y, hy⟩ : ∃ y, y = b4[i] := ⟨_, rfl⟩
        rw [← hx] at hat hx5 htx hxy
        rw [← hy] at hat2 hy5 hty hxy
        obtain ⟨xl, xc⟩ := x
        obtain ⟨yl, yc⟩ := y
        simp only [Per.mk.injEq] at hx5 hy5 hxy
        replace F := aF hlt F; replace F := aF hlt2 F; replace F := aF hat F; replace F := aF hat2 F; replace F := aF hb1 F; replace F := aF hb2 F
        refine run_draw (by kernel_rfl) fun J15 hJ15 => ?_
        refine rp2 0 (k := ?_); refine rp2 1 (k := ?_); refine rp2 2 (k := ?_); refine rp2 3 (k := ?_); refine rp2 4 (k := ?_); refine rp2 5 (k := ?_); refine rp2 6 (k := ?_); refine rp2 7 (k := ?_); refine rp2 8 (k := ?_); refine rp2 9 (k := ?_); refine rp2 10 (k := ?_); refine rp2 11 (k := ?_); refine rp2 12 (k := ?_); refine rp2 13 (k := ?_); refine gd 62 (fun g6_13 => ?_) (fun g6_13 => ?_)
        · try exact nope g6_13
          all_goals have g6_13p := g6_13; try simp [F] at g6_13p
          all_goals
           replace F := aF g6_13 F; try replace F := aF g6_13p F
           have hm : ¬ xl = yl := by have h := g6_13; simp at h; omega
           have h0 : D = false := hno (fun e => hm (hxy e.2.2.2.2).1)
           replace F := aF h0 F; refine rp2 14 (k := ?_); refine rp2 15 (k := ?_); refine rp2 16 (k := ?_); refine rp2 17 (k := ?_); refine rp2 18 (k := ?_); refine rp2 19 (k := ?_); refine rp2 20 (k := ?_); refine rp2 21 (k := ?_); refine rp2 22 (k := ?_); refine rp2 23 (k := ?_); refine rp2 24 (k := ?_); refine rp2 25 (k := ?_); refine dop 26 rfl ?_; repeat (first | simp [F] | simp (disch := omega) only [wC, if_pos, if_neg])
           refine rp2 27 (k := ?_); refine rp2 28 (k := ?_); refine dd ?_; refine hJ15 _ _ ?_; refine hK14 _ _ ?_; refine ct ?_; refine sq fun K16 hK16 => ?_; refine rg' (h := fun J17 hJ17 => ?_); refine hJ17 _ _ ?_; refine hK16 _ _ ?_; refine run_ret ?_; try simp only [Then, InBlock, NoGoto]
           refine answer_tmp rfl (.inr rfl) ?_; exact gcr
        try exact nope g6_13
        all_goals have g6_13p := g6_13; try simp [F] at g6_13p
        all_goals
         replace F := aF g6_13 F; try replace F := aF g6_13p F
         have hm : xl = yl := by have h := g6_13; simp at h; omega
         refine rp2 14 (k := ?_); refine rp2 15 (k := ?_); refine rp2 16 (k := ?_); refine rp2 17 (k := ?_); refine rp2 18 (k := ?_); refine rp2 19 (k := ?_); refine rp2 20 (k := ?_); refine rp2 21 (k := ?_); refine rp2 22 (k := ?_); refine rp2 23 (k := ?_); refine rp2 24 (k := ?_); refine rp2 25 (k := ?_); refine dc 26 rfl (c := rsame_ok hx5.2 hy5.2) (k := ?_); rintro _ _ ⟨rfl, rfl⟩
         refine ⟨by first | exact fun _ _ h => h | (refine later_list [24, 23, 22, 21, 20, 18, 17, 16, 15, 14, 12, 11, 10, 9, 8, 7, 6, 5, 4, 3, 2, 1, 0] (by kernel_rfl) (List.forall_mem_cons.2 ⟨fun _ => fact2 rfl rfl ?_, List.forall_mem_cons.2 ⟨fun _ => fact2 rfl rfl ?_, List.forall_mem_cons.2 ⟨fun _ => fact2 rfl rfl ?_, List.forall_mem_cons.2 ⟨fun _ => fact2 rfl rfl ?_, List.forall_mem_cons.2 ⟨fun _ => fact2 rfl rfl ?_, List.forall_mem_cons.2 ⟨fun _ => fact2 rfl rfl ?_, List.forall_mem_cons.2 ⟨fun _ => fact2 rfl rfl ?_, List.forall_mem_cons.2 ⟨fun _ => fact2 rfl rfl ?_, List.forall_mem_cons.2 ⟨fun _ => fact2 rfl rfl ?_, List.forall_mem_cons.2 ⟨fun _ => fact2 rfl rfl ?_, List.forall_mem_cons.2 ⟨fun _ => fact2 rfl rfl ?_, List.forall_mem_cons.2 ⟨fun _ => fact2 rfl rfl ?_, List.forall_mem_cons.2 ⟨fun _ => fact2 rfl rfl ?_, List.forall_mem_cons.2 ⟨fun _ => fact2 rfl rfl ?_, List.forall_mem_cons.2 ⟨fun _ => fact2 rfl rfl ?_, List.forall_mem_cons.2 ⟨fun _ => fact2 rfl rfl ?_, List.forall_mem_cons.2 ⟨fun _ => fact2 rfl rfl ?_, List.forall_mem_cons.2 ⟨fun _ => fact2 rfl rfl ?_, List.forall_mem_cons.2 ⟨fun _ => fact2 rfl rfl ?_, List.forall_mem_cons.2 ⟨fun _ => fact2 rfl rfl ?_, List.forall_mem_cons.2 ⟨fun _ => fact2 rfl rfl ?_, List.forall_mem_cons.2 ⟨fun _ => fact2 rfl rfl ?_, List.forall_mem_cons.2 ⟨fun _ => fact2 rfl rfl ?_, fun _ h => absurd h List.not_mem_nil⟩⟩⟩⟩⟩⟩⟩⟩⟩⟩⟩⟩⟩⟩⟩⟩⟩⟩⟩⟩⟩⟩⟩) <;> constructor <;> first | rfl | (simp [F]; done)), ?_⟩
         repeat (first | simp [F] | simp (disch := omega) only [wC, if_pos, if_neg])
         refine rp2 27 (k := ?_); refine rp2 28 (k := ?_); refine dd ?_; refine hJ15 _ _ ?_; refine hK14 _ _ ?_; refine cs (fun c77 => ?_) (fun c77 => ?_)
         · try exact nope c77
           all_goals have c77p := c77; try simp [F] at c77p
           all_goals
            replace F := aF c77 F; try replace F := aF c77p F
            have h0 : D = false := hno (fun e => by have h := c77; simp at h; exact h (hxy e.2.2.2.2).2)
            replace F := aF h0 F; refine sq fun K18 hK18 => ?_; refine rg' (h := fun J19 hJ19 => ?_); refine hJ19 _ _ ?_; refine hK18 _ _ ?_; refine run_ret ?_; try simp only [Then, InBlock, NoGoto]
            refine answer_tmp rfl (.inr rfl) ?_; exact gcr
         try exact nope c77
         all_goals have c77p := c77; try simp [F] at c77p
         all_goals
          replace F := aF c77 F; try replace F := aF c77p F
          have hc : xc = yc := by have h := c77; simp at h; exact h
          refine run_skip ?_; refine hK13 _ _ ?_; refine rg' (h := fun J20 hJ20 => ?_); refine hJ20 _ _ ?_; refine ⟨(i + 1), ⟨kp, lp, ?_, lp, lp⟩, lp⟩
          · rw [htx, hty, hE, hm, hc]
     try exact nope c46
     all_goals have c46p := c46; try simp [F] at c46p
     all_goals
      replace F := aF c46 F; try replace F := aF c46p F
      have h0 : D = true := hyes e1 e2 e3 e4 (by rw [List.take_of_length_le (by have h := c46; simp at h; omega), List.take_of_length_le (by have h := c46; simp at h; omega)] at hE; exact hE)
      replace F := aF h0 F; refine run_exit ?_; refine hK7 _ _ ?_; refine sq fun K21 hK21 => ?_; refine rg' (h := fun J22 hJ22 => ?_); refine hJ22 _ _ ?_; refine hK21 _ _ ?_; refine run_ret ?_; try simp only [Then, InBlock, NoGoto]
      refine answer_tmp rfl (.inr rfl) ?_; exact gcr
  case cx4 =>
   intro K4 hK4
   refine rg' (h := fun J23 hJ23 => ?_); refine gs 11 (fun g1_5 => ?_) (fun g1_5 => ?_)
   · try exact nope g1_5
     all_goals have g1_5p := g1_5; try simp [F] at g1_5p
     all_goals
      replace F := aF g1_5 F; try replace F := aF g1_5p F
      have hl1 : ¬ ak = bk := by have h := g1_5; simp at h; intro e; subst e; exact h rfl
      replace F := aF hl1 F; iterate 23 refine no2 (k := ?_)
      refine hJ23 _ _ ?_; refine hK4 (()) _ _ ⟨kp, ?_, lp⟩
      · rw [hB]
        simp [F]
        try (rw [Bool.eq_iff_iff]; simp; omega)
   try exact nope g1_5
   all_goals have g1_5p := g1_5; try simp [F] at g1_5p
   all_goals
    replace F := aF g1_5 F; try replace F := aF g1_5p F
    have hl1 : ak = bk := by have h := g1_5; simp at h; exact UInt8.toNat_inj.1 (by omega)
    replace F := aF hl1 F; iterate 5 refine go2 (k := ?_)
    refine gs 18 (fun g1_12 => ?_) (fun g1_12 => ?_)
    · try exact nope g1_12
      all_goals have g1_12p := g1_12; try simp [F] at g1_12p
      all_goals
       replace F := aF g1_12 F; try replace F := aF g1_12p F
       have hl2 : ¬ a1 = b1 := by have h := g1_12; simp at h; omega
       replace F := aF hl2 F; iterate 18 refine no2 (k := ?_)
       refine hJ23 _ _ ?_; refine hK4 (()) _ _ ⟨kp, ?_, lp⟩
       · rw [hB]
         simp [F]
         try (rw [Bool.eq_iff_iff]; simp; omega)
    try exact nope g1_12
    all_goals have g1_12p := g1_12; try simp [F] at g1_12p
    all_goals
     replace F := aF g1_12 F; try replace F := aF g1_12p F
     have hl2 : a1 = b1 := by have h := g1_12; simp at h; omega
     replace F := aF hl2 F; iterate 5 refine go2 (k := ?_)
     refine gs 25 (fun g1_19 => ?_) (fun g1_19 => ?_)
     · try exact nope g1_19
       all_goals have g1_19p := g1_19; try simp [F] at g1_19p
       all_goals
        replace F := aF g1_19 F; try replace F := aF g1_19p F
        have hl3 : ¬ a2 = b2 := by have h := g1_19; simp at h; omega
        replace F := aF hl3 F; iterate 13 refine no2 (k := ?_)
        refine hJ23 _ _ ?_; refine hK4 (()) _ _ ⟨kp, ?_, lp⟩
        · rw [hB]
          simp [F]
          try (rw [Bool.eq_iff_iff]; simp; omega)
     try exact nope g1_19
     all_goals have g1_19p := g1_19; try simp [F] at g1_19p
     all_goals
      replace F := aF g1_19 F; try replace F := aF g1_19p F
      have hl3 : a2 = b2 := by have h := g1_19; simp at h; omega
      replace F := aF hl3 F; iterate 4 refine go2 (k := ?_)
      refine ca (c := rsame_ok ha3 hb3) (k := ?_); rintro _ _ ⟨rfl, rfl⟩; repeat (first | simp [F] | simp (disch := omega) only [wC, if_pos, if_neg])
      refine go2 (k := ?_); refine gs 33 (fun g1_27 => ?_) (fun g1_27 => ?_)
      · try exact nope g1_27
        all_goals have g1_27p := g1_27; try simp [F] at g1_27p
        all_goals
         replace F := aF g1_27 F; try replace F := aF g1_27p F
         iterate 7 refine no2 (k := ?_)
         refine hJ23 _ _ ?_; refine hK4 (()) _ _ ⟨kp, ?_, lp⟩
         · rw [hB]
           simp [F]
           try (rw [Bool.eq_iff_iff]; simp; omega)
      try exact nope g1_27
      all_goals have g1_27p := g1_27; try simp [F] at g1_27p
      all_goals
       replace F := aF g1_27 F; try replace F := aF g1_27p F
       iterate 7 refine go2 (k := ?_)
       refine hJ23 _ _ ?_; refine hK4 (()) _ _ ⟨kp, ?_, lp⟩
       · rw [hB]
         simp [F]
         try (rw [Bool.eq_iff_iff]; simp; omega)

end Go.Proofs.Ytdbaddholggkbaa

/-
  Messages: what they are, what a kind has, when they are right.
-/
namespace Go.Vm
set_option linter.unnecessarySimpa false
set_option linter.unusedSimpArgs false
open Go

structure Out where
  t : UInt8
  c : List Coin
deriving DecidableEq
structure Msg where
  k : UInt8
  f : UInt8
  s : Nat
  fee : List Coin
  t : UInt8
  v : UInt8
  o : UInt8
  n : Num
  c : List Coin
  outs : List Out
  p : Pln
  tm : Nat
  pt : Nat
  j : Bool
deriving DecidableEq

def outC (x : Out) : List AV := [.v (.int .u8 x.t.toNat), .sl 5 (coinsC x.c) x.c.length .shut]
def outsC (l : List Out) : List AV := l.flatMap outC
@[simp] theorem outsC_nil : outsC [] = [] := rfl
@[simp] theorem outsC_len (l : List Out) : (outsC l).length = l.length * 2 := flat_length outC 2 (fun _ => rfl) l
theorem outsC_at {l : List Out} {i : Nat} (h : i < l.length) : (outsC l).drop (i * 2) = outC l[i] ++ restC outC l i := flat_at outC 2 (fun _ => rfl) l i h
theorem outsC_noObj (n : Nat) : ∀ l : List Out, noObjL n (outsC l) = true := noObjL_flat (fun p => by simp [outC, noObjL, AV.noObj, coinsC, noObjL_flat, coinC, numA])
theorem outsC_under (B : Bd) : ∀ l : List Out, underL B (outsC l) = true := underL_flat (fun p => by simp [outC, underL, AV.under, coinsC, underL_flat, coinC, numA])
theorem outsC_append (l m : List Out) : outsC l ++ outsC m = outsC (l ++ m) := by simp [outsC]

def msgC (m : Msg) : List AV := [.v (.int .u8 m.k.toNat), .v (.int .u8 m.f.toNat), .v (.int .u64 m.s), .sl 5 (coinsC m.fee) m.fee.length .shut, .v (.int .u8 m.t.toNat), .v (.int .u8 m.v.toNat), .v (.int .u8 m.o.toNat),
  .v (.int .u64 (limb m.n.v 0)), .v (.int .u64 (limb m.n.v 1)), .v (.int .u64 (limb m.n.v 2)), .v (.int .u64 (limb m.n.v 3)), .sl 5 (coinsC m.c) m.c.length .shut, .sl 2 (outsC m.outs) m.outs.length .shut,
  .v (.int .u8 m.p.k.toNat), .v (.int .u64 m.p.s), .v (.int .u64 m.p.e), .sl 5 (coinsC m.p.tot) m.p.tot.length .shut, .sl 2 (persC m.p.ps) m.p.ps.length .shut, .v (.int .u64 m.tm), .v (.int .u16 m.pt), .v (.bool m.j)]

structure Msg.Ok (m : Msg) : Prop where
  s : m.s < 2 ^ 64
  fee : m.fee.length ≤ 9223372036854775807
  c : m.c.length ≤ 9223372036854775807
  outs : m.outs.length ≤ 9223372036854775807
  out : ∀ x ∈ m.outs, x.c.length ≤ 9223372036854775807
  p : m.p.Ok
  tm : m.tm < 2 ^ 64
  pt : m.pt < 2 ^ 16

def hasN (k : UInt8) : Nat :=
  if k = 1 then 17 else if k = 2 then 32 else if k = 3 ∨ k = 4 then 10 else if k = 5 then 14 else if k = 6 ∨ k = 7 ∨ k = 11 then 2 else if k = 8 ∨ k = 10 then 1 else if k = 9 then 65
  else if k = 32 then 1152 else if k = 33 then 1922 else if k = 34 then 1042 else if k = 35 then 1026 else if k = 36 then 1024 else 0
def hasK (k : UInt8) : Bool := decide (hasN k ≠ 0)
def hB (k : UInt8) (c : Nat) : Bool := decide (hasN k &&& c ≠ 0)
def onlyM (m : Msg) : Msg := ⟨m.k, bif hB m.k 1024 then 0 else m.f, bif hB m.k 1024 then 0 else m.s, bif hB m.k 1024 then [] else m.fee, bif hB m.k 1 then m.t else 0, bif hB m.k 2 then m.v else 0, bif hB m.k 4 then m.o else 0,
  bif hB m.k 8 then m.n else ⟨0, by decide⟩, bif hB m.k 16 then m.c else [], bif hB m.k 32 then m.outs else [], bif hB m.k 64 then m.p else ⟨0, 0, 0, [], []⟩, bif hB m.k 128 then m.tm else 0, bif hB m.k 256 then m.pt else 0, hB m.k 512 && m.j⟩
def outB (x : Out) : Bool := decide (x.t.toNat < 200) && decide (Right x.c)
def rightM (m : Msg) : Bool :=
  hasK m.k && decide (m = onlyM m) && decide (m.f.toNat < 200 ∧ m.t.toNat < 200 ∧ m.v.toNat < 16 ∧ m.o.toNat < 16) && decide (Right m.fee ∧ Right m.c)
  && !(hB m.k 32 && (decide (m.outs.length = 0) || decide (16 < m.outs.length))) && !(hB m.k 64 && decide (m.p.k = 0)) && m.outs.all outB && rightB m.p && decide (m.tm ≤ 2 ^ 40) && decide (m.pt ≤ 10000)

theorem onlyM_ok {m : Msg} (h : m.Ok) : (onlyM m).Ok := by
  obtain ⟨h1, h2, h3, h4, h5, h6, h7, h8⟩ := h
  refine ⟨?_, ?_, ?_, ?_, fun x hx => ?_, ?_, ?_, ?_⟩
  · simp only [onlyM]; cases hB m.k 1024 <;> simp [h1]
  · simp only [onlyM]; cases hB m.k 1024 <;> simp [h2]
  · simp only [onlyM]; cases hB m.k 16 <;> simp [h3]
  · simp only [onlyM]; cases hB m.k 32 <;> simp [h4]
  · simp only [onlyM] at hx
    cases hq : hB m.k 32 <;> rw [hq] at hx
    · simp at hx
    · exact h5 x hx
  · simp only [onlyM]; cases hB m.k 64
    · simp [Pln.Ok]
    · exact h6
  · simp only [onlyM]; cases hB m.k 128 <;> simp [h7]
  · simp only [onlyM]; cases hB m.k 256 <;> simp [h8]

def outA (b : Bool) (l : List Out) : AV := bif b then .sl 2 (outsC l) l.length .shut else .sl 0 [] 0 .full
@[simp] theorem outA_yes (l : List Out) : outA true l = .sl 2 (outsC l) l.length .shut := rfl
@[simp] theorem outA_no (l : List Out) : outA false l = .sl 0 [] 0 .full := rfl
def perA (b : Bool) (l : List Per) : AV := bif b then .sl 2 (persC l) l.length .shut else .sl 0 [] 0 .full
@[simp] theorem perA_yes (l : List Per) : perA true l = .sl 2 (persC l) l.length .shut := rfl
@[simp] theorem perA_no (l : List Per) : perA false l = .sl 0 [] 0 .full := rfl

theorem binA_andN {P : Program} (t : TypeId) (xo yo : Operand) {a b : Nat} (ha : a < 4096) (hb : b < 4096) : binA P .and t xo yo (.v (.int .i64 (a : Nat))) (.v (.int .i64 (b : Nat))) = some (.v (.int .i64 ((a &&& b : Nat)))) := by
  rw [binA_and]
  have e1 : BitVec.ofInt IntKind.i64.bits (a : Int) = BitVec.ofNat 64 a := by
    apply BitVec.eq_of_toNat_eq; simp [IntKind.bits]
  have e2 : BitVec.ofInt IntKind.i64.bits (b : Int) = BitVec.ofNat 64 b := by
    apply BitVec.eq_of_toNat_eq; simp [IntKind.bits]
  have hlt : a &&& b < 4096 := Nat.lt_of_le_of_lt Nat.and_le_left ha
  have e3 : (BitVec.ofNat 64 a &&& BitVec.ofNat 64 b).toNat = a &&& b := by
    rw [BitVec.toNat_and, BitVec.toNat_ofNat, BitVec.toNat_ofNat, Nat.mod_eq_of_lt (by omega), Nat.mod_eq_of_lt (by omega)]
  have e4 : ((BitVec.ofInt IntKind.i64.bits (a : Int) &&& BitVec.ofInt IntKind.i64.bits (b : Int)).toNat : Int) = ((a &&& b : Nat) : Int) := by
    have : (BitVec.ofInt IntKind.i64.bits (a : Int) &&& BitVec.ofInt IntKind.i64.bits (b : Int)).toNat = (BitVec.ofNat 64 a &&& BitVec.ofNat 64 b).toNat := by rw [e1, e2]; rfl
    rw [this, e3]
  rw [e4, wrap_i64 _ (by omega) (by omega)]
theorem hasN_lt (k : UInt8) : hasN k < 4096 := by unfold hasN; repeat (first | decide | split)

end Go.Vm

/-
  What a kind has; are two messages alike..
-/
namespace Go.Proofs.Ytdbaddholggkbaa
set_option linter.unnecessarySimpa false
set_option maxRecDepth 100000
open Go Go.Vm
set_option linter.unusedSimpArgs false
set_option linter.unusedVariables false
attribute [local simp] evalL wantedA isCall opA evalA evalAll evalsA evalOpt ofValue ofCell plain binA_eql_pn binA_neq_pn binA_gtr binA_lss binA_geq binA_leq binA_add binA_sub binA_eql binA_neq binA_orI binA_andI binA_shl binA_shr binA_mul binA_quo binA_rem binA_agg_eql binA_agg_neq convA_int unA_not fieldAddrA loadA partA pickA_true pickA_false pickA_bb lenA builtinA storeA splice AV.cells AV.isCell sliceA boundA intA callOf indexAddrA newObjA buildA fillA zeroA ofCells buildSliceA indexA fieldA numA_len4 numA_take4 numA_drop4 set_appN get_appN take_appN List.getElem?_cons_zero List.getElem?_cons_succ makeA zeros64

set_option maxHeartbeats 1600000 in
attribute [local simp] undefA List.getElem?_cons_zero List.getElem?_cons_succ in
theorem has_ok {σ : St} {k : UInt8} :
    CallsA Try.prog 95 [.v (.int .u8 k.toNat)] σ (fun av σ' => av = .tup [.v (.int .i64 (hasN k : Nat)), .v (.bool (hasK k))] ∧ σ = σ') := by
  obtain ⟨h, hh⟩ : ∃ h, h = hasN k := ⟨_, rfl⟩
  have hK : hasK k = decide (h ≠ 0) := by rw [hh]; rfl
  rw [← hh, hK]
  have hkn : ∀ n : UInt8, k = n ↔ (k.toNat : Int) = (n.toNat : Int) := fun n => ⟨fun e => by rw [e], fun e => UInt8.toNat_inj.1 (Int.ofNat_inj.1 e)⟩
  obtain ⟨B9, hB9⟩ : ∃ b, b = (decide (k = 3) || decide (k = 4)) := ⟨_, rfl⟩
  obtain ⟨B14, hB14⟩ : ∃ b, b = (decide (k = 6) || decide (k = 7) || decide (k = 11)) := ⟨_, rfl⟩
  obtain ⟨B18, hB18⟩ : ∃ b, b = (decide (k = 8) || decide (k = 10)) := ⟨_, rfl⟩
  have F := True.intro
  refine callsA_body Try.func95 rfl rfl rfl ?_; refine sq fun K1 hK1 => ?_; refine rg' (h := fun J2 hJ2 => ?_); refine hJ2 _ _ ?_; refine hK1 _ _ ?_; refine sq fun K3 hK3 => ?_; refine sq fun K4 hK4 => ?_; refine rg' (h := fun J5 hJ5 => ?_); refine hJ5 _ _ ?_; refine hK4 _ _ ?_; refine run_block_k ?_; refine sq fun K6 hK6 => ?_; refine rg' (h := fun J7 hJ7 => ?_); refine hJ7 _ _ ?_; refine hK6 _ _ ?_; refine cs (fun c5 => ?_) (fun c5 => ?_)
  · try exact nope c5
    all_goals have c5p := c5; try simp [F] at c5p
    all_goals
     replace F := aF c5 F; try replace F := aF c5p F
     refine sq fun K8 hK8 => ?_; refine rg' (h := fun J9 hJ9 => ?_); refine hJ9 _ _ ?_; refine hK8 _ _ ?_; refine run_ret ?_; try simp only [Then, InBlock, NoGoto]
     refine answer_tmp2 rfl (.inr rfl) ?_
     have hk : k = 1 := (hkn 1).2 (by simpa using c5)
     have hv : h = 17 := by rw [hh]; rw [hk]; decide
     subst hv
     exact ⟨by simp [F], rfl⟩
  try exact nope c5
  all_goals have c5p := c5; try simp [F] at c5p
  all_goals
   replace F := aF c5 F; try replace F := aF c5p F
   refine sq fun K10 hK10 => ?_; refine rg' (h := fun J11 hJ11 => ?_); refine hJ11 _ _ ?_; refine hK10 _ _ ?_; refine cs (fun c7 => ?_) (fun c7 => ?_)
   · try exact nope c7
     all_goals have c7p := c7; try simp [F] at c7p
     all_goals
      replace F := aF c7 F; try replace F := aF c7p F
      refine sq fun K12 hK12 => ?_; refine rg' (h := fun J13 hJ13 => ?_); refine hJ13 _ _ ?_; refine hK12 _ _ ?_; refine run_ret ?_; try simp only [Then, InBlock, NoGoto]
      refine answer_tmp2 rfl (.inr rfl) ?_
      have hk : k = 2 := (hkn 2).2 (by simpa using c7)
      have hv : h = 32 := by rw [hh]; rw [hk]; decide
      subst hv
      exact ⟨by simp [F], rfl⟩
   try exact nope c7
   all_goals have c7p := c7; try simp [F] at c7p
   all_goals
    replace F := aF c7 F; try replace F := aF c7p F
    refine sqc (X := Unit) [2, 3, 4] (fun z ρ σ1 => (ρ 9 = .v (.bool B9)) ∧ (σ1 = σ)) ?cy14 ?cx14
    case cy14 =>
     rintro z ρCc9 σ1 hFCc9 ⟨h9, hσ⟩; obtain rfl := hσ.symm
     have fCc9 := keepL hFCc9
     try simp [KeepL, F] at fCc9
     replace F := aF h9 F; try replace F := aF fCc9 F
     refine cs (t := B9) (fun c9 => ?_) (fun c9 => ?_)
     · try exact nope c9
       all_goals have c9p := c9; try simp [F] at c9p
       all_goals
        replace F := aF c9 F; try replace F := aF c9p F
        refine sq fun K15 hK15 => ?_; refine rg' (h := fun J16 hJ16 => ?_); refine hJ16 _ _ ?_; refine hK15 _ _ ?_; refine run_ret ?_; try simp only [Then, InBlock, NoGoto]
        refine answer_tmp2 rfl (.inr rfl) ?_
        have hk : k = 3 ∨ k = 4 := by rw [hB9] at c9; simpa using c9
        have hv : h = 10 := by rw [hh]; rcases hk with e | e <;> (rw [e]; decide)
        subst hv
        exact ⟨by simp [F], rfl⟩
     try exact nope c9
     all_goals have c9p := c9; try simp [F] at c9p
     all_goals
      replace F := aF c9 F; try replace F := aF c9p F
      refine sq fun K17 hK17 => ?_; refine rg' (h := fun J18 hJ18 => ?_); refine hJ18 _ _ ?_; refine hK17 _ _ ?_; refine cs (fun c12 => ?_) (fun c12 => ?_)
      · try exact nope c12
        all_goals have c12p := c12; try simp [F] at c12p
        all_goals
         replace F := aF c12 F; try replace F := aF c12p F
         refine sq fun K19 hK19 => ?_; refine rg' (h := fun J20 hJ20 => ?_); refine hJ20 _ _ ?_; refine hK19 _ _ ?_; refine run_ret ?_; try simp only [Then, InBlock, NoGoto]
         refine answer_tmp2 rfl (.inr rfl) ?_
         have hk : k = 5 := (hkn 5).2 (by simpa using c12)
         have hv : h = 14 := by rw [hh]; rw [hk]; decide
         subst hv
         exact ⟨by simp [F], rfl⟩
      try exact nope c12
      all_goals have c12p := c12; try simp [F] at c12p
      all_goals
       replace F := aF c12 F; try replace F := aF c12p F
       refine sqc (X := Unit) [2, 3, 4] (fun z ρ σ1 => (ρ 14 = .v (.bool B14)) ∧ (σ1 = σ)) ?cy21 ?cx21
       case cy21 =>
        rintro z ρCc14 σ1 hFCc14 ⟨h14, hσ⟩; obtain rfl := hσ.symm
        have fCc14 := keepL hFCc14
        try simp [KeepL, F] at fCc14
        replace F := aF h14 F; try replace F := aF fCc14 F
        refine cs (t := B14) (fun c14 => ?_) (fun c14 => ?_)
        · try exact nope c14
          all_goals have c14p := c14; try simp [F] at c14p
          all_goals
           replace F := aF c14 F; try replace F := aF c14p F
           refine sq fun K22 hK22 => ?_; refine rg' (h := fun J23 hJ23 => ?_); refine hJ23 _ _ ?_; refine hK22 _ _ ?_; refine run_ret ?_; try simp only [Then, InBlock, NoGoto]
           refine answer_tmp2 rfl (.inr rfl) ?_
           have hk : (k = 6 ∨ k = 7) ∨ k = 11 := by rw [hB14] at c14; simpa using c14
           have hv : h = 2 := by rw [hh]; rcases hk with (e | e) | e <;> (rw [e]; decide)
           subst hv
           exact ⟨by simp [F], rfl⟩
        try exact nope c14
        all_goals have c14p := c14; try simp [F] at c14p
        all_goals
         replace F := aF c14 F; try replace F := aF c14p F
         refine sqc (X := Unit) [2, 3, 4] (fun z ρ σ1 => (ρ 18 = .v (.bool B18)) ∧ (σ1 = σ)) ?cy24 ?cx24
         case cy24 =>
          rintro z ρCc18 σ1 hFCc18 ⟨h18, hσ⟩; obtain rfl := hσ.symm
          have fCc18 := keepL hFCc18
          try simp [KeepL, F] at fCc18
          replace F := aF h18 F; try replace F := aF fCc18 F
          refine cs (t := B18) (fun c18 => ?_) (fun c18 => ?_)
          · try exact nope c18
            all_goals have c18p := c18; try simp [F] at c18p
            all_goals
             replace F := aF c18 F; try replace F := aF c18p F
             refine sq fun K25 hK25 => ?_; refine rg' (h := fun J26 hJ26 => ?_); refine hJ26 _ _ ?_; refine hK25 _ _ ?_; refine run_ret ?_; try simp only [Then, InBlock, NoGoto]
             refine answer_tmp2 rfl (.inr rfl) ?_
             have hk : k = 8 ∨ k = 10 := by rw [hB18] at c18; simpa using c18
             have hv : h = 1 := by rw [hh]; rcases hk with e | e <;> (rw [e]; decide)
             subst hv
             exact ⟨by simp [F], rfl⟩
          try exact nope c18
          all_goals have c18p := c18; try simp [F] at c18p
          all_goals
           replace F := aF c18 F; try replace F := aF c18p F
           refine sq fun K27 hK27 => ?_; refine rg' (h := fun J28 hJ28 => ?_); refine hJ28 _ _ ?_; refine hK27 _ _ ?_; refine cs (fun c21 => ?_) (fun c21 => ?_)
           · try exact nope c21
             all_goals have c21p := c21; try simp [F] at c21p
             all_goals
              replace F := aF c21 F; try replace F := aF c21p F
              refine sq fun K29 hK29 => ?_; refine rg' (h := fun J30 hJ30 => ?_); refine hJ30 _ _ ?_; refine hK29 _ _ ?_; refine run_ret ?_; try simp only [Then, InBlock, NoGoto]
              refine answer_tmp2 rfl (.inr rfl) ?_
              have hk : k = 9 := (hkn 9).2 (by simpa using c21)
              have hv : h = 65 := by rw [hh]; rw [hk]; decide
              subst hv
              exact ⟨by simp [F], rfl⟩
           try exact nope c21
           all_goals have c21p := c21; try simp [F] at c21p
           all_goals
            replace F := aF c21 F; try replace F := aF c21p F
            refine sq fun K31 hK31 => ?_; refine rg' (h := fun J32 hJ32 => ?_); refine hJ32 _ _ ?_; refine hK31 _ _ ?_; refine cs (fun c23 => ?_) (fun c23 => ?_)
            · try exact nope c23
              all_goals have c23p := c23; try simp [F] at c23p
              all_goals
               replace F := aF c23 F; try replace F := aF c23p F
               refine sq fun K33 hK33 => ?_; refine rg' (h := fun J34 hJ34 => ?_); refine hJ34 _ _ ?_; refine hK33 _ _ ?_; refine run_ret ?_; try simp only [Then, InBlock, NoGoto]
               refine answer_tmp2 rfl (.inr rfl) ?_
               have hk : k = 32 := (hkn 32).2 (by simpa using c23)
               have hv : h = 1152 := by rw [hh]; rw [hk]; decide
               subst hv
               exact ⟨by simp [F], rfl⟩
            try exact nope c23
            all_goals have c23p := c23; try simp [F] at c23p
            all_goals
             replace F := aF c23 F; try replace F := aF c23p F
             refine sq fun K35 hK35 => ?_; refine rg' (h := fun J36 hJ36 => ?_); refine hJ36 _ _ ?_; refine hK35 _ _ ?_; refine cs (fun c25 => ?_) (fun c25 => ?_)
             · try exact nope c25
               all_goals have c25p := c25; try simp [F] at c25p
               all_goals
                replace F := aF c25 F; try replace F := aF c25p F
                refine sq fun K37 hK37 => ?_; refine rg' (h := fun J38 hJ38 => ?_); refine hJ38 _ _ ?_; refine hK37 _ _ ?_; refine run_ret ?_; try simp only [Then, InBlock, NoGoto]
                refine answer_tmp2 rfl (.inr rfl) ?_
                have hk : k = 33 := (hkn 33).2 (by simpa using c25)
                have hv : h = 1922 := by rw [hh]; rw [hk]; decide
                subst hv
                exact ⟨by simp [F], rfl⟩
             try exact nope c25
             all_goals have c25p := c25; try simp [F] at c25p
             all_goals
              replace F := aF c25 F; try replace F := aF c25p F
              refine sq fun K39 hK39 => ?_; refine rg' (h := fun J40 hJ40 => ?_); refine hJ40 _ _ ?_; refine hK39 _ _ ?_; refine cs (fun c27 => ?_) (fun c27 => ?_)
              · try exact nope c27
                all_goals have c27p := c27; try simp [F] at c27p
                all_goals
                 replace F := aF c27 F; try replace F := aF c27p F
                 refine sq fun K41 hK41 => ?_; refine rg' (h := fun J42 hJ42 => ?_); refine hJ42 _ _ ?_; refine hK41 _ _ ?_; refine run_ret ?_; try simp only [Then, InBlock, NoGoto]
                 refine answer_tmp2 rfl (.inr rfl) ?_
                 have hk : k = 34 := (hkn 34).2 (by simpa using c27)
                 have hv : h = 1042 := by rw [hh]; rw [hk]; decide
                 subst hv
                 exact ⟨by simp [F], rfl⟩
              try exact nope c27
              all_goals have c27p := c27; try simp [F] at c27p
              all_goals
               replace F := aF c27 F; try replace F := aF c27p F
               refine sq fun K43 hK43 => ?_; refine rg' (h := fun J44 hJ44 => ?_); refine hJ44 _ _ ?_; refine hK43 _ _ ?_; refine cs (fun c29 => ?_) (fun c29 => ?_)
               · try exact nope c29
                 all_goals have c29p := c29; try simp [F] at c29p
                 all_goals
                  replace F := aF c29 F; try replace F := aF c29p F
                  refine sq fun K45 hK45 => ?_; refine rg' (h := fun J46 hJ46 => ?_); refine hJ46 _ _ ?_; refine hK45 _ _ ?_; refine run_ret ?_; try simp only [Then, InBlock, NoGoto]
                  refine answer_tmp2 rfl (.inr rfl) ?_
                  have hk : k = 35 := (hkn 35).2 (by simpa using c29)
                  have hv : h = 1026 := by rw [hh]; rw [hk]; decide
                  subst hv
                  exact ⟨by simp [F], rfl⟩
               try exact nope c29
               all_goals have c29p := c29; try simp [F] at c29p
               all_goals
                replace F := aF c29 F; try replace F := aF c29p F
                refine sq fun K47 hK47 => ?_; refine rg' (h := fun J48 hJ48 => ?_); refine hJ48 _ _ ?_; refine hK47 _ _ ?_; refine cs (fun c31 => ?_) (fun c31 => ?_)
                · try exact nope c31
                  all_goals have c31p := c31; try simp [F] at c31p
                  all_goals
                   replace F := aF c31 F; try replace F := aF c31p F
                   refine sq fun K49 hK49 => ?_; refine rg' (h := fun J50 hJ50 => ?_); refine hJ50 _ _ ?_; refine hK49 _ _ ?_; refine run_ret ?_; try simp only [Then, InBlock, NoGoto]
                   refine answer_tmp2 rfl (.inr rfl) ?_
                   have hk : k = 36 := (hkn 36).2 (by simpa using c31)
                   have hv : h = 1024 := by rw [hh]; rw [hk]; decide
                   subst hv
                   exact ⟨by simp [F], rfl⟩
                try exact nope c31
                all_goals have c31p := c31; try simp [F] at c31p
                all_goals
                 replace F := aF c31 F; try replace F := aF c31p F
                 refine run_skip ?_; refine hK3 _ _ ?_; refine sq fun K51 hK51 => ?_; refine rg' (h := fun J52 hJ52 => ?_); refine hJ52 _ _ ?_; refine hK51 _ _ ?_; refine run_ret ?_; try simp only [Then, InBlock, NoGoto]
                 refine answer_tmp2 rfl (.inr rfl) ?_
                 have hv : h = 0 := by
                   rw [hB9] at c9; simp at c9
                   rw [hB14] at c14; simp at c14
                   rw [hB18] at c18; simp at c18
                   rw [hh]; unfold hasN; rw [if_neg (by simpa [hkn] using c5)]; rw [if_neg (by simpa [hkn] using c7)]; rw [if_neg (by simp [c9])]; rw [if_neg (by simpa [hkn] using c12)]; rw [if_neg (by simp [c14])]; rw [if_neg (by simp [c18])]; rw [if_neg (by simpa [hkn] using c21)]; rw [if_neg (by simpa [hkn] using c23)]; rw [if_neg (by simpa [hkn] using c25)]; rw [if_neg (by simpa [hkn] using c27)]; rw [if_neg (by simpa [hkn] using c29)]; rw [if_neg (by simpa [hkn] using c31)]
                 subst hv
                 exact ⟨by simp [F], rfl⟩
         case cx24 =>
          intro K24 hK24
          refine sq fun K53 hK53 => ?_; refine rg' (h := fun J54 hJ54 => ?_); refine hJ54 _ _ ?_; refine hK53 _ _ ?_; refine cs (fun c18 => ?_) (fun c18 => ?_)
          · try exact nope c18
            all_goals have c18p := c18; try simp [F] at c18p
            all_goals
             replace F := aF c18 F; try replace F := aF c18p F
             refine run_skip ?_; refine hK24 (()) _ _ ⟨kp, ?_, lp⟩
             · rw [hB18]
               simp [hkn, F]
               try rfl
          try exact nope c18
          all_goals have c18p := c18; try simp [F] at c18p
          all_goals
           replace F := aF c18 F; try replace F := aF c18p F
           refine rg' (h := fun J55 hJ55 => ?_); refine hJ55 _ _ ?_; refine hK24 (()) _ _ ⟨kp, ?_, lp⟩
           · rw [hB18]
             simp [hkn, F]
             try rfl
       case cx21 =>
        intro K21 hK21
        refine sq fun K56 hK56 => ?_; refine rg' (h := fun J57 hJ57 => ?_); refine hJ57 _ _ ?_; refine hK56 _ _ ?_; refine cs (fun c14 => ?_) (fun c14 => ?_)
        · try exact nope c14
          all_goals have c14p := c14; try simp [F] at c14p
          all_goals
           replace F := aF c14 F; try replace F := aF c14p F
           refine run_skip ?_; refine hK21 (()) _ _ ⟨kp, ?_, lp⟩
           · rw [hB14]
             simp [hkn, F]
             try rfl
        try exact nope c14
        all_goals have c14p := c14; try simp [F] at c14p
        all_goals
         replace F := aF c14 F; try replace F := aF c14p F
         refine sq fun K58 hK58 => ?_; refine rg' (h := fun J59 hJ59 => ?_); refine hJ59 _ _ ?_; refine hK58 _ _ ?_; refine cs (fun c14 => ?_) (fun c14 => ?_)
         · try exact nope c14
           all_goals have c14p := c14; try simp [F] at c14p
           all_goals
            replace F := aF c14 F; try replace F := aF c14p F
            refine run_skip ?_; refine hK21 (()) _ _ ⟨kp, ?_, lp⟩
            · rw [hB14]
              simp [hkn, F]
              try rfl
         try exact nope c14
         all_goals have c14p := c14; try simp [F] at c14p
         all_goals
          replace F := aF c14 F; try replace F := aF c14p F
          refine rg' (h := fun J60 hJ60 => ?_); refine hJ60 _ _ ?_; refine hK21 (()) _ _ ⟨kp, ?_, lp⟩
          · rw [hB14]
            simp [hkn, F]
            try rfl
    case cx14 =>
     intro K14 hK14
     refine sq fun K61 hK61 => ?_; refine rg' (h := fun J62 hJ62 => ?_); refine hJ62 _ _ ?_; refine hK61 _ _ ?_; refine cs (fun c9 => ?_) (fun c9 => ?_)
     · try exact nope c9
       all_goals have c9p := c9; try simp [F] at c9p
       all_goals
        replace F := aF c9 F; try replace F := aF c9p F
        refine run_skip ?_; refine hK14 (()) _ _ ⟨kp, ?_, lp⟩
        · rw [hB9]
          simp [hkn, F]
          try rfl
     try exact nope c9
     all_goals have c9p := c9; try simp [F] at c9p
     all_goals
      replace F := aF c9 F; try replace F := aF c9p F
      refine rg' (h := fun J63 hJ63 => ?_); refine hJ63 _ _ ?_; refine hK14 (()) _ _ ⟨kp, ?_, lp⟩
      · rw [hB9]
        simp [hkn, F]
        try rfl

set_option maxHeartbeats 1600000 in
attribute [local simp] undefA List.getElem?_cons_zero List.getElem?_cons_succ in
theorem osame1_ok {σ : St} {x y : Out} (hx : x.c.length ≤ 9223372036854775807) (hy : y.c.length ≤ 9223372036854775807) :
    CallsA Try.prog 110 [.agg (outC x), .agg (outC y)] σ (fun av σ' => av = .v (.bool (decide (x = y))) ∧ σ = σ') := by
  refine callsA_gcS ?_ rfl
  obtain ⟨l, c⟩ := x
  obtain ⟨l2, c2⟩ := y
  simp only [Out.mk.injEq, outC, Bool.decide_and]
  have F := True.intro
  refine callsA_body Try.func110 rfl rfl rfl ?_; refine sq fun K1 hK1 => ?_; refine rg' (h := fun J2 hJ2 => ?_); refine hJ2 _ _ ?_; refine hK1 _ _ ?_; refine sq fun K3 hK3 => ?_; refine rg' (h := fun J4 hJ4 => ?_); refine gs 10 (fun g1_5 => ?_) (fun g1_5 => ?_)
  · try exact nope g1_5
    all_goals have g1_5p := g1_5; try simp [F] at g1_5p
    all_goals
     replace F := aF g1_5 F; try replace F := aF g1_5p F
     have hl : l = l2 := by have h := g1_5; simp at h; exact UInt8.toNat_inj.1 (by omega)
     replace F := aF hl F; iterate 4 refine go2 (k := ?_)
     refine ca (c := csame_ok hx hy) (k := ?_); rintro _ _ ⟨rfl, rfl⟩; repeat (first | simp [F] | simp (disch := omega) only [wC, if_pos, if_neg])
     refine hJ4 _ _ ?_; refine hK3 _ _ ?_; refine run_ret ?_; try simp only [Then, InBlock, NoGoto]
     refine answer_tmp rfl (.inr rfl) ?_; exact gcr
  try exact nope g1_5
  all_goals have g1_5p := g1_5; try simp [F] at g1_5p
  all_goals
   replace F := aF g1_5 F; try replace F := aF g1_5p F
   have hl : ¬ l = l2 := by have h := g1_5; simp at h; intro e; subst e; exact h rfl
   replace F := aF hl F; iterate 5 refine no2 (k := ?_)
   refine hJ4 _ _ ?_; refine hK3 _ _ ?_; refine run_ret ?_; try simp only [Then, InBlock, NoGoto]
   refine answer_tmp rfl (.inr rfl) ?_; exact gcr

set_option maxHeartbeats 1600000 in
attribute [local simp] undefA List.getElem?_cons_zero List.getElem?_cons_succ outC outsC_noObj in
theorem oequal_ok {σ : St} {a b : List Out} {ta tb : Tail} (hla : a.length ≤ 9223372036854775807) (hlb : b.length ≤ 9223372036854775807) (ha : ∀ x ∈ a, x.c.length ≤ 9223372036854775807) (hb : ∀ x ∈ b, x.c.length ≤ 9223372036854775807) :
    CallsA Try.prog 109 [.sl 2 (outsC a) a.length ta, .sl 2 (outsC b) b.length tb, .fn 110 []] σ (fun av σ' => av = .v (.bool (decide (a = b))) ∧ σ = σ') := by
  refine callsA_gcS ?_ rfl
  have F := True.intro
  refine callsA_body Try.func109 rfl rfl rfl ?_; refine sq fun K1 hK1 => ?_; refine rg' (h := fun J2 hJ2 => ?_); refine hJ2 _ _ ?_; refine hK1 _ _ ?_; refine sq fun K3 hK3 => ?_; refine sq fun K4 hK4 => ?_; refine rg' (h := fun J5 hJ5 => ?_); refine hJ5 _ _ ?_; refine hK4 _ _ ?_; refine cs (fun c14 => ?_) (fun c14 => ?_)
  · try exact nope c14
    all_goals have c14p := c14; try simp [F] at c14p
    all_goals
     replace F := aF c14 F; try replace F := aF c14p F
     have hne : ¬ a = b := fun e => by subst e; simp at c14
     replace F := aF hne F; refine sq fun K6 hK6 => ?_; refine rg' (h := fun J7 hJ7 => ?_); refine hJ7 _ _ ?_; refine hK6 _ _ ?_; refine run_ret ?_; try simp only [Then, InBlock, NoGoto]
     refine answer_tmp rfl (.inr rfl) ?_; exact gcr
  try exact nope c14
  all_goals have c14p := c14; try simp [F] at c14p
  all_goals
   replace F := aF c14 F; try replace F := aF c14p F
   refine run_skip ?_; refine hK3 _ _ ?_; refine sq fun K8 hK8 => ?_; refine sq fun K9 hK9 => ?_
   have hlen : a.length = b.length := by have h := c14; simp at h; omega
   refine rg' (h := fun J10 hJ10 => ?_); refine hJ10 _ _ ?_; refine hK9 _ _ ?_; refine run_block_k ?_; refine run_loopG (X := Nat) [1, 2, 15, 16] (fun i ρ σ1 => (i ≤ a.length) ∧ (a.take i = b.take i) ∧ (ρ 17 = .v (.int .i64 i)) ∧ (σ1 = σ)) (fun i => a.length - i) (0) ?st1 ?rd1
   case st1 =>
    refine ⟨lp, ?_, lp, ?_⟩
    · rfl
    · rfl
   case rd1 =>
    rintro i ρ1 σ1 hF1 ⟨hi, hE, h13, hσ⟩; obtain rfl := hσ.symm
    have f1 := keepL hF1
    try simp [KeepL, F] at f1
    replace F := aF h13 F; try replace F := aF f1 F
    refine sq fun K11 hK11 => ?_; refine rg' (h := fun J12 hJ12 => ?_); refine hJ12 _ _ ?_; refine hK11 _ _ ?_; refine sq fun K13 hK13 => ?_; refine cs (fun c18 => ?_) (fun c18 => ?_)
    · try exact nope c18
      all_goals have c18p := c18; try simp [F] at c18p
      all_goals
       replace F := aF c18 F; try replace F := aF c18p F
       refine run_skip ?_; refine hK13 _ _ ?_; refine sq fun K14 hK14 => ?_; refine run_block_k ?_; refine sq fun K15 hK15 => ?_
       have hlt : i < a.length := by simp at c18; omega
       have hltb : i < b.length := by omega
       have hat := outsC_at hlt
       have hatb := outsC_at hltb
       have hb1 : i * 2 + 2 ≤ a.length * 2 := by omega
       have hb2 : i * 2 + 2 ≤ b.length * 2 := by omega
       obtain ⟨x, hx⟩ : ∃ x, x = a[i] := ⟨_, rfl⟩
       obtain ⟨y, hy⟩ : ∃ y, y = b[i] := ⟨_, rfl⟩
       rw [← hx] at hat
       rw [← hy] at hatb
       have hta : a.take (i + 1) = a.take i ++ [x] := by rw [hx]; exact (List.take_append_getElem hlt).symm
       have htb : b.take (i + 1) = b.take i ++ [y] := by rw [hy]; exact (List.take_append_getElem hltb).symm
       have hxl := ha x (by rw [hx]; exact List.getElem_mem _)
       have hyl := hb y (by rw [hy]; exact List.getElem_mem _)
       replace F := aF hlt F; replace F := aF hltb F; replace F := aF hat F; replace F := aF hatb F; replace F := aF hb1 F; replace F := aF hb2 F; refine rg' (h := fun J16 hJ16 => ?_); refine hJ16 _ _ ?_; refine hK15 _ _ ?_; refine sq fun K17 hK17 => ?_; refine rg' (h := fun J18 hJ18 => ?_); refine hJ18 _ _ ?_; refine hK17 _ _ ?_; refine sq fun K19 hK19 => ?_; refine rg' (h := fun J20 hJ20 => ?_); refine ca (c := (osame1_ok (x := x) (y := y) hxl hyl)) (k := ?_); rintro _ _ ⟨rfl, rfl⟩; repeat (first | simp [F] | simp (disch := omega) only [wC, if_pos, if_neg])
       refine hJ20 _ _ ?_; refine hK19 _ _ ?_; refine cs (fun c30 => ?_) (fun c30 => ?_)
       · try exact nope c30
         all_goals have c30p := c30; try simp [F] at c30p
         all_goals
          replace F := aF c30 F; try replace F := aF c30p F
          have hne : ¬ a = b := fun e => by subst e; rw [← hx] at hy; subst hy; simp at c30
          replace F := aF hne F; refine sq fun K21 hK21 => ?_; refine rg' (h := fun J22 hJ22 => ?_); refine hJ22 _ _ ?_; refine hK21 _ _ ?_; refine run_ret ?_; try simp only [Then, InBlock, NoGoto]
          refine answer_tmp rfl (.inr rfl) ?_; exact gcr
       try exact nope c30
       all_goals have c30p := c30; try simp [F] at c30p
       all_goals
        replace F := aF c30 F; try replace F := aF c30p F
        have hxy : x = y := by simpa using c30
        refine run_skip ?_; refine hK14 _ _ ?_; refine rg' (h := fun J23 hJ23 => ?_); refine hJ23 _ _ ?_; refine ⟨gk, (i + 1), ⟨kpG, lpG, ?_, lpG, lpG⟩, lpG⟩
        · rw [hta, htb, hE, hxy]
    try exact nope c18
    all_goals have c18p := c18; try simp [F] at c18p
    all_goals
     replace F := aF c18 F; try replace F := aF c18p F
     have he : a = b := by have h := c18; simp at h; rw [List.take_of_length_le (by omega), List.take_of_length_le (by omega)] at hE; exact hE
     replace F := aF he F; refine run_exit ?_; refine hK8 _ _ ?_; refine sq fun K24 hK24 => ?_; refine rg' (h := fun J25 hJ25 => ?_); refine hJ25 _ _ ?_; refine hK24 _ _ ?_; refine run_ret ?_; try simp only [Then, InBlock, NoGoto]
     refine answer_tmp rfl (.inr rfl) ?_; exact gcr

theorem cellsEq_numN (x y : Num) : cellsEqA (numA x.v) (numA y.v) = decide (x = y) := by
  exact cellsEq_num x y

set_option maxHeartbeats 1600000 in
attribute [local simp] undefA List.getElem?_cons_zero List.getElem?_cons_succ msgC outsC_noObj persC_noObj in
theorem msame_ok {σ : St} {a b : Msg} (ha : a.Ok) (hb : b.Ok) :
    CallsA Try.prog 58 [.agg (msgC a), .agg (msgC b)] σ (fun av σ' => av = .v (.bool (decide (a = b))) ∧ σ = σ') := by
  refine callsA_gcS ?_ rfl
  have hsp := fun σ => plsame_ok (σ := σ) ha.p hb.p
  obtain ⟨ha1, ha2, ha3, ha4, ha5, -, ha7, ha8⟩ := ha
  obtain ⟨hb1, hb2, hb3, hb4, hb5, -, hb7, hb8⟩ := hb
  obtain ⟨x1, x2, x3, x4, x5, x6, x7, x8, x9, x10, x11, x12, x13, x14⟩ := a
  obtain ⟨y1, y2, y3, y4, y5, y6, y7, y8, y9, y10, y11, y12, y13, y14⟩ := b
  simp only [Msg.mk.injEq] at *
  obtain ⟨D, hD⟩ : ∃ D, D = decide (x11 = y11) := ⟨_, rfl⟩
  simp only [Bool.decide_and]
  rw [← hD]
  simp only [← hD] at hsp
  clear hD
  have hbb : ∀ (o : BinOp) (xo yo : Operand) (a b : Bool), binA Try.prog .eql 4 xo yo (.v (.bool a)) (.v (.bool b)) = some (.v (.bool (a == b))) := by intro o xo yo a b; cases a <;> cases b <;> rfl
  have hbn : ∀ (o : BinOp) (xo yo : Operand) (a b : Bool), binA Try.prog .neq 4 xo yo (.v (.bool a)) (.v (.bool b)) = some (.v (.bool (a != b))) := by intro o xo yo a b; cases a <;> cases b <;> rfl
  have hnn : cellsEqA [.v (.int .u64 (limb x8.v 0)), .v (.int .u64 (limb x8.v 1)), .v (.int .u64 (limb x8.v 2)), .v (.int .u64 (limb x8.v 3))] [.v (.int .u64 (limb y8.v 0)), .v (.int .u64 (limb y8.v 1)), .v (.int .u64 (limb y8.v 2)), .v (.int .u64 (limb y8.v 3))] = decide (x8 = y8) := by
    have h := cellsEq_numN x8 y8
    simp only [numA] at h
    exact h
  obtain ⟨xpk, xps, xpe, xpt, xpq⟩ := x11
  obtain ⟨ypk, yps, ype, ypt, ypq⟩ := y11
  simp only [plnC] at hsp
  have F := And.intro hbb (And.intro hnn (True.intro))
  refine callsA_body Try.func58 rfl rfl rfl ?_; refine sq fun K1 hK1 => ?_; refine rg' (h := fun J2 hJ2 => ?_); refine hJ2 _ _ ?_; refine hK1 _ _ ?_; refine sq fun K3 hK3 => ?_; refine rg' (h := fun J4 hJ4 => ?_); refine gs 10 (fun g1_5 => ?_) (fun g1_5 => ?_)
  · try exact nope g1_5
    all_goals have g1_5p := g1_5; try simp [F] at g1_5p
    all_goals
     replace F := aF g1_5 F; try replace F := aF g1_5p F
     have hl1 : x1 = y1 := by have h := g1_5; simp at h; exact UInt8.toNat_inj.1 (by omega)
     replace F := aF hl1 F; iterate 5 refine go2 (k := ?_)
     refine gs 17 (fun g1_12 => ?_) (fun g1_12 => ?_)
     · try exact nope g1_12
       all_goals have g1_12p := g1_12; try simp [F] at g1_12p
       all_goals
        replace F := aF g1_12 F; try replace F := aF g1_12p F
        have hl2 : x2 = y2 := by have h := g1_12; simp at h; exact UInt8.toNat_inj.1 (by omega)
        replace F := aF hl2 F; iterate 5 refine go2 (k := ?_)
        refine gs 24 (fun g1_19 => ?_) (fun g1_19 => ?_)
        · try exact nope g1_19
          all_goals have g1_19p := g1_19; try simp [F] at g1_19p
          all_goals
           replace F := aF g1_19 F; try replace F := aF g1_19p F
           have hl3 : x3 = y3 := by have h := g1_19; simp at h; omega
           replace F := aF hl3 F; iterate 5 refine go2 (k := ?_)
           refine gs 31 (fun g1_26 => ?_) (fun g1_26 => ?_)
           · try exact nope g1_26
             all_goals have g1_26p := g1_26; try simp [F] at g1_26p
             all_goals
              replace F := aF g1_26 F; try replace F := aF g1_26p F
              have hl5 : x5 = y5 := by have h := g1_26; simp at h; exact UInt8.toNat_inj.1 (by omega)
              replace F := aF hl5 F; iterate 5 refine go2 (k := ?_)
              refine gs 38 (fun g1_33 => ?_) (fun g1_33 => ?_)
              · try exact nope g1_33
                all_goals have g1_33p := g1_33; try simp [F] at g1_33p
                all_goals
                 replace F := aF g1_33 F; try replace F := aF g1_33p F
                 have hl6 : x6 = y6 := by have h := g1_33; simp at h; exact UInt8.toNat_inj.1 (by omega)
                 replace F := aF hl6 F; iterate 5 refine go2 (k := ?_)
                 refine gs 45 (fun g1_40 => ?_) (fun g1_40 => ?_)
                 · try exact nope g1_40
                   all_goals have g1_40p := g1_40; try simp [F] at g1_40p
                   all_goals
                    replace F := aF g1_40 F; try replace F := aF g1_40p F
                    have hl7 : x7 = y7 := by have h := g1_40; simp at h; exact UInt8.toNat_inj.1 (by omega)
                    replace F := aF hl7 F; iterate 5 refine go2 (k := ?_)
                    refine gs 52 (fun g1_47 => ?_) (fun g1_47 => ?_)
                    · try exact nope g1_47
                      all_goals have g1_47p := g1_47; try simp [F] at g1_47p
                      all_goals
                       replace F := aF g1_47 F; try replace F := aF g1_47p F
                       have hl8 : x8 = y8 := by simpa using g1_47
                       replace F := aF hl8 F; iterate 5 refine go2 (k := ?_)
                       refine gs 59 (fun g1_54 => ?_) (fun g1_54 => ?_)
                       · try exact nope g1_54
                         all_goals have g1_54p := g1_54; try simp [F] at g1_54p
                         all_goals
                          replace F := aF g1_54 F; try replace F := aF g1_54p F
                          have hl12 : x12 = y12 := by have h := g1_54; simp at h; omega
                          replace F := aF hl12 F; iterate 5 refine go2 (k := ?_)
                          refine gs 66 (fun g1_61 => ?_) (fun g1_61 => ?_)
                          · try exact nope g1_61
                            all_goals have g1_61p := g1_61; try simp [F] at g1_61p
                            all_goals
                             replace F := aF g1_61 F; try replace F := aF g1_61p F
                             have hl13 : x13 = y13 := by have h := g1_61; simp at h; omega
                             replace F := aF hl13 F; iterate 5 refine go2 (k := ?_)
                             refine gs 73 (fun g1_68 => ?_) (fun g1_68 => ?_)
                             · try exact nope g1_68
                               all_goals have g1_68p := g1_68; try simp [F] at g1_68p
                               all_goals
                                replace F := aF g1_68 F; try replace F := aF g1_68p F
                                have hl14 : x14 = y14 := by have h := g1_68; simp at h; exact h
                                replace F := aF hl14 F; iterate 4 refine go2 (k := ?_)
                                refine ca (c := csame_ok ha2 hb2) (k := ?_); rintro _ _ ⟨rfl, rfl⟩; repeat (first | simp [F] | simp (disch := omega) only [wC, if_pos, if_neg])
                                refine gs 80 (fun g1_75 => ?_) (fun g1_75 => ?_)
                                · try exact nope g1_75
                                  all_goals have g1_75p := g1_75; try simp [F] at g1_75p
                                  all_goals
                                   replace F := aF g1_75 F; try replace F := aF g1_75p F
                                   have hl4 : x4 = y4 := by simpa using g1_75
                                   replace F := aF hl4 F; iterate 4 refine go2 (k := ?_)
                                   refine ca (c := csame_ok ha3 hb3) (k := ?_); rintro _ _ ⟨rfl, rfl⟩; repeat (first | simp [F] | simp (disch := omega) only [wC, if_pos, if_neg])
                                   refine gs 87 (fun g1_82 => ?_) (fun g1_82 => ?_)
                                   · try exact nope g1_82
                                     all_goals have g1_82p := g1_82; try simp [F] at g1_82p
                                     all_goals
                                      replace F := aF g1_82 F; try replace F := aF g1_82p F
                                      have hl9 : x9 = y9 := by simpa using g1_82
                                      replace F := aF hl9 F; iterate 4 refine go2 (k := ?_)
                                      refine ca (c := hsp _) (k := ?_); rintro _ _ ⟨rfl, rfl⟩; repeat (first | simp [F] | simp (disch := omega) only [wC, if_pos, if_neg])
                                      refine gs 94 (fun g1_89 => ?_) (fun g1_89 => ?_)
                                      · try exact nope g1_89
                                        all_goals have g1_89p := g1_89; try simp [F] at g1_89p
                                        all_goals
                                         replace F := aF g1_89 F; try replace F := aF g1_89p F
                                         iterate 4 refine go2 (k := ?_)
                                         refine ca (c := oequal_ok ha4 hb4 ha5 hb5) (k := ?_); rintro _ _ ⟨rfl, rfl⟩; repeat (first | simp [F] | simp (disch := omega) only [wC, if_pos, if_neg])
                                         refine hJ4 _ _ ?_; refine hK3 _ _ ?_; refine run_ret ?_; try simp only [Then, InBlock, NoGoto]
                                         refine answer_tmp rfl (.inr rfl) ?_; exact gcr
                                      try exact nope g1_89
                                      all_goals have g1_89p := g1_89; try simp [F] at g1_89p
                                      all_goals
                                       replace F := aF g1_89 F; try replace F := aF g1_89p F
                                       iterate 5 refine no2 (k := ?_)
                                       refine hJ4 _ _ ?_; refine hK3 _ _ ?_; refine run_ret ?_; try simp only [Then, InBlock, NoGoto]
                                       refine answer_tmp rfl (.inr rfl) ?_; exact gcr
                                   try exact nope g1_82
                                   all_goals have g1_82p := g1_82; try simp [F] at g1_82p
                                   all_goals
                                    replace F := aF g1_82 F; try replace F := aF g1_82p F
                                    have hl9 : ¬ x9 = y9 := by simpa using g1_82
                                    replace F := aF hl9 F; iterate 10 refine no2 (k := ?_)
                                    refine hJ4 _ _ ?_; refine hK3 _ _ ?_; refine run_ret ?_; try simp only [Then, InBlock, NoGoto]
                                    refine answer_tmp rfl (.inr rfl) ?_; exact gcr
                                try exact nope g1_75
                                all_goals have g1_75p := g1_75; try simp [F] at g1_75p
                                all_goals
                                 replace F := aF g1_75 F; try replace F := aF g1_75p F
                                 have hl4 : ¬ x4 = y4 := by simpa using g1_75
                                 replace F := aF hl4 F; iterate 15 refine no2 (k := ?_)
                                 refine hJ4 _ _ ?_; refine hK3 _ _ ?_; refine run_ret ?_; try simp only [Then, InBlock, NoGoto]
                                 refine answer_tmp rfl (.inr rfl) ?_; exact gcr
                             try exact nope g1_68
                             all_goals have g1_68p := g1_68; try simp [F] at g1_68p
                             all_goals
                              replace F := aF g1_68 F; try replace F := aF g1_68p F
                              have hl14 : ¬ x14 = y14 := by have h := g1_68; intro e; subst e; simp at h
                              replace F := aF hl14 F; iterate 20 refine no2 (k := ?_)
                              refine hJ4 _ _ ?_; refine hK3 _ _ ?_; refine run_ret ?_; try simp only [Then, InBlock, NoGoto]
                              refine answer_tmp rfl (.inr rfl) ?_; exact gcr
                          try exact nope g1_61
                          all_goals have g1_61p := g1_61; try simp [F] at g1_61p
                          all_goals
                           replace F := aF g1_61 F; try replace F := aF g1_61p F
                           have hl13 : ¬ x13 = y13 := by have h := g1_61; simp at h; omega
                           replace F := aF hl13 F; iterate 25 refine no2 (k := ?_)
                           refine hJ4 _ _ ?_; refine hK3 _ _ ?_; refine run_ret ?_; try simp only [Then, InBlock, NoGoto]
                           refine answer_tmp rfl (.inr rfl) ?_; exact gcr
                       try exact nope g1_54
                       all_goals have g1_54p := g1_54; try simp [F] at g1_54p
                       all_goals
                        replace F := aF g1_54 F; try replace F := aF g1_54p F
                        have hl12 : ¬ x12 = y12 := by have h := g1_54; simp at h; omega
                        replace F := aF hl12 F; iterate 30 refine no2 (k := ?_)
                        refine hJ4 _ _ ?_; refine hK3 _ _ ?_; refine run_ret ?_; try simp only [Then, InBlock, NoGoto]
                        refine answer_tmp rfl (.inr rfl) ?_; exact gcr
                    try exact nope g1_47
                    all_goals have g1_47p := g1_47; try simp [F] at g1_47p
                    all_goals
                     replace F := aF g1_47 F; try replace F := aF g1_47p F
                     have hl8 : ¬ x8 = y8 := by simpa using g1_47
                     replace F := aF hl8 F; iterate 35 refine no2 (k := ?_)
                     refine hJ4 _ _ ?_; refine hK3 _ _ ?_; refine run_ret ?_; try simp only [Then, InBlock, NoGoto]
                     refine answer_tmp rfl (.inr rfl) ?_; exact gcr
                 try exact nope g1_40
                 all_goals have g1_40p := g1_40; try simp [F] at g1_40p
                 all_goals
                  replace F := aF g1_40 F; try replace F := aF g1_40p F
                  have hl7 : ¬ x7 = y7 := by have h := g1_40; simp at h; intro e; subst e; exact h rfl
                  replace F := aF hl7 F; iterate 40 refine no2 (k := ?_)
                  refine hJ4 _ _ ?_; refine hK3 _ _ ?_; refine run_ret ?_; try simp only [Then, InBlock, NoGoto]
                  refine answer_tmp rfl (.inr rfl) ?_; exact gcr
              try exact nope g1_33
              all_goals have g1_33p := g1_33; try simp [F] at g1_33p
              all_goals
               replace F := aF g1_33 F; try replace F := aF g1_33p F
               have hl6 : ¬ x6 = y6 := by have h := g1_33; simp at h; intro e; subst e; exact h rfl
               replace F := aF hl6 F; iterate 45 refine no2 (k := ?_)
               refine hJ4 _ _ ?_; refine hK3 _ _ ?_; refine run_ret ?_; try simp only [Then, InBlock, NoGoto]
               refine answer_tmp rfl (.inr rfl) ?_; exact gcr
           try exact nope g1_26
           all_goals have g1_26p := g1_26; try simp [F] at g1_26p
           all_goals
            replace F := aF g1_26 F; try replace F := aF g1_26p F
            have hl5 : ¬ x5 = y5 := by have h := g1_26; simp at h; intro e; subst e; exact h rfl
            replace F := aF hl5 F; iterate 50 refine no2 (k := ?_)
            refine hJ4 _ _ ?_; refine hK3 _ _ ?_; refine run_ret ?_; try simp only [Then, InBlock, NoGoto]
            refine answer_tmp rfl (.inr rfl) ?_; exact gcr
        try exact nope g1_19
        all_goals have g1_19p := g1_19; try simp [F] at g1_19p
        all_goals
         replace F := aF g1_19 F; try replace F := aF g1_19p F
         have hl3 : ¬ x3 = y3 := by have h := g1_19; simp at h; omega
         replace F := aF hl3 F; iterate 55 refine no2 (k := ?_)
         refine hJ4 _ _ ?_; refine hK3 _ _ ?_; refine run_ret ?_; try simp only [Then, InBlock, NoGoto]
         refine answer_tmp rfl (.inr rfl) ?_; exact gcr
     try exact nope g1_12
     all_goals have g1_12p := g1_12; try simp [F] at g1_12p
     all_goals
      replace F := aF g1_12 F; try replace F := aF g1_12p F
      have hl2 : ¬ x2 = y2 := by have h := g1_12; simp at h; intro e; subst e; exact h rfl
      replace F := aF hl2 F; iterate 60 refine no2 (k := ?_)
      refine hJ4 _ _ ?_; refine hK3 _ _ ?_; refine run_ret ?_; try simp only [Then, InBlock, NoGoto]
      refine answer_tmp rfl (.inr rfl) ?_; exact gcr
  try exact nope g1_5
  all_goals have g1_5p := g1_5; try simp [F] at g1_5p
  all_goals
   replace F := aF g1_5 F; try replace F := aF g1_5p F
   have hl1 : ¬ x1 = y1 := by have h := g1_5; simp at h; intro e; subst e; exact h rfl
   replace F := aF hl1 F; iterate 65 refine no2 (k := ?_)
   refine hJ4 _ _ ?_; refine hK3 _ _ ?_; refine run_ret ?_; try simp only [Then, InBlock, NoGoto]
   refine answer_tmp rfl (.inr rfl) ?_; exact gcr
set_option maxHeartbeats 1600000 in
attribute [local simp] undefA List.getElem?_cons_zero List.getElem?_cons_succ msgC outsC_noObj persC_noObj outC in
theorem rmsame_ok {σ : St} {a b : Msg} (ha : a.Ok) (hb : b.Ok) :
    CallsA Try.prog 57 [.agg (msgC a), .agg (msgC b)] σ (fun av σ' => av = .v (.bool (decide (a = b))) ∧ σ = σ') := by
  obtain ⟨D0, hD0⟩ : ∃ D, D = decide (a = b) := ⟨_, rfl⟩
  rw [← hD0]
  refine callsA_gcS ?_ rfl
  have hsp := fun σ => rplsame_ok (σ := σ) ha.p hb.p
  obtain ⟨ha1, ha2, ha3, ha4, ha5, -, ha7, ha8⟩ := ha
  obtain ⟨hb1, hb2, hb3, hb4, hb5, -, hb7, hb8⟩ := hb
  obtain ⟨x1, x2, x3, x4, x5, x6, x7, x8, x9, x10, x11, x12, x13, x14⟩ := a
  obtain ⟨y1, y2, y3, y4, y5, y6, y7, y8, y9, y10, y11, y12, y13, y14⟩ := b
  simp only [Msg.mk.injEq] at *
  obtain ⟨D, hD⟩ : ∃ D, D = decide (x11 = y11) := ⟨_, rfl⟩
  have hno : ¬ (x1 = y1 ∧ x2 = y2 ∧ x3 = y3 ∧ x4 = y4 ∧ x5 = y5 ∧ x6 = y6 ∧ x7 = y7 ∧ x8 = y8 ∧ x9 = y9 ∧ x10 = y10 ∧ x11 = y11 ∧ x12 = y12 ∧ x13 = y13 ∧ x14 = y14) → D0 = false := fun h => by rw [hD0]; exact decide_eq_false h
  have hyes : (x1 = y1 ∧ x2 = y2 ∧ x3 = y3 ∧ x4 = y4 ∧ x5 = y5 ∧ x6 = y6 ∧ x7 = y7 ∧ x8 = y8 ∧ x9 = y9 ∧ x10 = y10 ∧ x11 = y11 ∧ x12 = y12 ∧ x13 = y13 ∧ x14 = y14) → D0 = true := fun h => by rw [hD0]; exact decide_eq_true h
  have hDe : D = true → x11 = y11 := fun h => by rw [hD] at h; exact of_decide_eq_true h
  have hDy : x11 = y11 → D = true := fun h => by rw [hD]; exact decide_eq_true h
  have hDn : D = false → ¬ x11 = y11 := fun h => by rw [hD] at h; exact of_decide_eq_false h
  simp only [← hD] at hsp
  clear hD hD0
  have hbb : ∀ (o : BinOp) (xo yo : Operand) (a b : Bool), binA Try.prog .eql 4 xo yo (.v (.bool a)) (.v (.bool b)) = some (.v (.bool (a == b))) := by intro o xo yo a b; cases a <;> cases b <;> rfl
  have hbn : ∀ (o : BinOp) (xo yo : Operand) (a b : Bool), binA Try.prog .neq 4 xo yo (.v (.bool a)) (.v (.bool b)) = some (.v (.bool (a != b))) := by intro o xo yo a b; cases a <;> cases b <;> rfl
  have hnn : cellsEqA [.v (.int .u64 (limb x8.v 0)), .v (.int .u64 (limb x8.v 1)), .v (.int .u64 (limb x8.v 2)), .v (.int .u64 (limb x8.v 3))] [.v (.int .u64 (limb y8.v 0)), .v (.int .u64 (limb y8.v 1)), .v (.int .u64 (limb y8.v 2)), .v (.int .u64 (limb y8.v 3))] = decide (x8 = y8) := by
    have h := cellsEq_numN x8 y8
    simp only [numA] at h
    exact h
  obtain ⟨xpk, xps, xpe, xpt, xpq⟩ := x11
  obtain ⟨ypk, yps, ype, ypt, ypq⟩ := y11
  simp only [plnC] at hsp
  obtain ⟨B1, hB1⟩ : ∃ B, B = !(decide (x1 = y1) && decide (x2 = y2) && decide (x3 = y3) && decide (x5 = y5) && decide (x6 = y6) && decide (x7 = y7) && decide (x8 = y8)) := ⟨_, rfl⟩
  obtain ⟨B2, hB2⟩ : ∃ B, B = !(decide (x12 = y12) && decide (x13 = y13) && decide (x14 = y14) && decide (x4 = y4) && decide (x9 = y9) && D && decide (x10.length = y10.length)) := ⟨_, rfl⟩
  have F := And.intro hbn (And.intro hnn (True.intro))
  refine callsA_body Try.func57 rfl rfl rfl ?_; refine sq fun K1 hK1 => ?_; refine rg' (h := fun J2 hJ2 => ?_); refine hJ2 _ _ ?_; refine hK1 _ _ ?_; refine sq fun K3 hK3 => ?_
  refine sqc (X := Unit) [2, 3, 4] (fun z ρ σ1 => (ρ 52 = .v (.bool B1)) ∧ (σ1 = { σ with objs := σ.objs ++ [[.v (.int .u8 x1.toNat), .v (.int .u8 x2.toNat), .v (.int .u64 x3), .sl 5 (coinsC x4) x4.length .shut, .v (.int .u8 x5.toNat), .v (.int .u8 x6.toNat), .v (.int .u8 x7.toNat), .v (.int .u64 (limb x8.v 0)), .v (.int .u64 (limb x8.v 1)), .v (.int .u64 (limb x8.v 2)), .v (.int .u64 (limb x8.v 3)), .sl 5 (coinsC x9) x9.length .shut, .sl 2 (outsC x10) x10.length .shut, .v (.int .u8 xpk.toNat), .v (.int .u64 xps), .v (.int .u64 xpe), .sl 5 (coinsC xpt) xpt.length .shut, .sl 2 (persC xpq) xpq.length .shut, .v (.int .u64 x12), .v (.int .u16 x13), .v (.bool x14)], [.v (.int .u8 y1.toNat), .v (.int .u8 y2.toNat), .v (.int .u64 y3), .sl 5 (coinsC y4) y4.length .shut, .v (.int .u8 y5.toNat), .v (.int .u8 y6.toNat), .v (.int .u8 y7.toNat), .v (.int .u64 (limb y8.v 0)), .v (.int .u64 (limb y8.v 1)), .v (.int .u64 (limb y8.v 2)), .v (.int .u64 (limb y8.v 3)), .sl 5 (coinsC y9) y9.length .shut, .sl 2 (outsC y10) y10.length .shut, .v (.int .u8 ypk.toNat), .v (.int .u64 yps), .v (.int .u64 ype), .sl 5 (coinsC ypt) ypt.length .shut, .sl 2 (persC ypq) ypq.length .shut, .v (.int .u64 y12), .v (.int .u16 y13), .v (.bool y14)]] })) ?cy4 ?cx4
  case cy4 =>
   rintro z ρCr1 σ1 hFCr1 ⟨h52, hσ⟩; obtain rfl := hσ.symm
   have fCr1 := keepL hFCr1
   try simp [KeepL, F] at fCr1
   replace F := aF h52 F; try replace F := aF fCr1 F
   refine cs (t := B1) (fun c52 => ?_) (fun c52 => ?_)
   · try exact nope c52
     all_goals have c52p := c52; try simp [F] at c52p
     all_goals
      replace F := aF c52 F; try replace F := aF c52p F
      have h0 : D0 = false := hno (fun e => by rw [hB1] at c52; simp [e] at c52)
      replace F := aF h0 F; refine sq fun K5 hK5 => ?_; refine rg' (h := fun J6 hJ6 => ?_); refine hJ6 _ _ ?_; refine hK5 _ _ ?_; refine run_ret ?_; try simp only [Then, InBlock, NoGoto]
      refine answer_tmp rfl (.inr rfl) ?_; exact gcr
   try exact nope c52
   all_goals have c52p := c52; try simp [F] at c52p
   all_goals
    replace F := aF c52 F; try replace F := aF c52p F
    have e1 : x1 = y1 ∧ x2 = y2 ∧ x3 = y3 ∧ x5 = y5 ∧ x6 = y6 ∧ x7 = y7 ∧ x8 = y8 := by rw [hB1] at c52; simp at c52; simp [c52]
    refine run_skip ?_; refine hK3 _ _ ?_; refine sq fun K7 hK7 => ?_
    refine sqc (X := Unit) [2, 3, 4] (fun z ρ σ1 => (ρ 104 = .v (.bool B2)) ∧ (σ1 = { σ with objs := σ.objs ++ [[.v (.int .u8 x1.toNat), .v (.int .u8 x2.toNat), .v (.int .u64 x3), .sl 5 (coinsC x4) x4.length .shut, .v (.int .u8 x5.toNat), .v (.int .u8 x6.toNat), .v (.int .u8 x7.toNat), .v (.int .u64 (limb x8.v 0)), .v (.int .u64 (limb x8.v 1)), .v (.int .u64 (limb x8.v 2)), .v (.int .u64 (limb x8.v 3)), .sl 5 (coinsC x9) x9.length .shut, .sl 2 (outsC x10) x10.length .shut, .v (.int .u8 xpk.toNat), .v (.int .u64 xps), .v (.int .u64 xpe), .sl 5 (coinsC xpt) xpt.length .shut, .sl 2 (persC xpq) xpq.length .shut, .v (.int .u64 x12), .v (.int .u16 x13), .v (.bool x14)], [.v (.int .u8 y1.toNat), .v (.int .u8 y2.toNat), .v (.int .u64 y3), .sl 5 (coinsC y4) y4.length .shut, .v (.int .u8 y5.toNat), .v (.int .u8 y6.toNat), .v (.int .u8 y7.toNat), .v (.int .u64 (limb y8.v 0)), .v (.int .u64 (limb y8.v 1)), .v (.int .u64 (limb y8.v 2)), .v (.int .u64 (limb y8.v 3)), .sl 5 (coinsC y9) y9.length .shut, .sl 2 (outsC y10) y10.length .shut, .v (.int .u8 ypk.toNat), .v (.int .u64 yps), .v (.int .u64 ype), .sl 5 (coinsC ypt) ypt.length .shut, .sl 2 (persC ypq) ypq.length .shut, .v (.int .u64 y12), .v (.int .u16 y13), .v (.bool y14)]] })) ?cy8 ?cx8
    case cy8 =>
     rintro z ρCr3 σ1 hFCr3 ⟨h104, hσ⟩; obtain rfl := hσ.symm
     have fCr3 := keepL hFCr3
     try simp [KeepL, F] at fCr3
     replace F := aF h104 F; try replace F := aF fCr3 F
     refine cs (t := B2) (fun c104 => ?_) (fun c104 => ?_)
     · try exact nope c104
       all_goals have c104p := c104; try simp [F] at c104p
       all_goals
        replace F := aF c104 F; try replace F := aF c104p F
        have h0 : D0 = false := hno (fun e => by have hd := hDy e.2.2.2.2.2.2.2.2.2.2.1; rw [hB2] at c104; simp [e, hd] at c104)
        replace F := aF h0 F; refine sq fun K9 hK9 => ?_; refine rg' (h := fun J10 hJ10 => ?_); refine hJ10 _ _ ?_; refine hK9 _ _ ?_; refine run_ret ?_; try simp only [Then, InBlock, NoGoto]
        refine answer_tmp rfl (.inr rfl) ?_; exact gcr
     try exact nope c104
     all_goals have c104p := c104; try simp [F] at c104p
     all_goals
      replace F := aF c104 F; try replace F := aF c104p F
      have e2 : x12 = y12 ∧ x13 = y13 ∧ x14 = y14 ∧ x4 = y4 ∧ x9 = y9 ∧ D = true ∧ x10.length = y10.length := by rw [hB2] at c104; simp at c104; simp [c104]
      have e3 := e2.2.2.2.2.2.2
      refine run_skip ?_; refine hK7 _ _ ?_; refine sq fun K11 hK11 => ?_; refine sq fun K12 hK12 => ?_; refine rg' (h := fun J13 hJ13 => ?_); refine hJ13 _ _ ?_; refine hK12 _ _ ?_; refine run_block_k ?_
      refine run_loopF (X := Nat) [2, 3] (fun i ρ σ1 => (i ≤ x10.length) ∧ (x10.take i = y10.take i) ∧ (ρ 5 = .v (.int .i64 i)) ∧ (σ1 = { σ with objs := σ.objs ++ [[.v (.int .u8 x1.toNat), .v (.int .u8 x2.toNat), .v (.int .u64 x3), .sl 5 (coinsC x4) x4.length .shut, .v (.int .u8 x5.toNat), .v (.int .u8 x6.toNat), .v (.int .u8 x7.toNat), .v (.int .u64 (limb x8.v 0)), .v (.int .u64 (limb x8.v 1)), .v (.int .u64 (limb x8.v 2)), .v (.int .u64 (limb x8.v 3)), .sl 5 (coinsC x9) x9.length .shut, .sl 2 (outsC x10) x10.length .shut, .v (.int .u8 xpk.toNat), .v (.int .u64 xps), .v (.int .u64 xpe), .sl 5 (coinsC xpt) xpt.length .shut, .sl 2 (persC xpq) xpq.length .shut, .v (.int .u64 x12), .v (.int .u16 x13), .v (.bool x14)], [.v (.int .u8 y1.toNat), .v (.int .u8 y2.toNat), .v (.int .u64 y3), .sl 5 (coinsC y4) y4.length .shut, .v (.int .u8 y5.toNat), .v (.int .u8 y6.toNat), .v (.int .u8 y7.toNat), .v (.int .u64 (limb y8.v 0)), .v (.int .u64 (limb y8.v 1)), .v (.int .u64 (limb y8.v 2)), .v (.int .u64 (limb y8.v 3)), .sl 5 (coinsC y9) y9.length .shut, .sl 2 (outsC y10) y10.length .shut, .v (.int .u8 ypk.toNat), .v (.int .u64 yps), .v (.int .u64 ype), .sl 5 (coinsC ypt) ypt.length .shut, .sl 2 (persC ypq) ypq.length .shut, .v (.int .u64 y12), .v (.int .u16 y13), .v (.bool y14)]] })) (fun i => x10.length - i) (0) ?st1 ?rd1
      case st1 =>
       refine ⟨lp, ?_, lp, ?_⟩
       · rfl
       · rfl
      case rd1 =>
       rintro i ρ1 σ1 hF1 ⟨hi, hE, h5, hσ⟩; obtain rfl := hσ.symm
       have f1 := keepL hF1
       try simp [KeepL, F] at f1
       replace F := aF h5 F; try replace F := aF f1 F
       refine sq fun K14 hK14 => ?_; refine sq fun K15 hK15 => ?_; refine rg' (h := fun J16 hJ16 => ?_); refine hJ16 _ _ ?_; refine hK15 _ _ ?_; refine cs (fun c109 => ?_) (fun c109 => ?_)
       · try exact nope c109
         all_goals have c109p := c109; try simp [F] at c109p
         all_goals
          replace F := aF c109 F; try replace F := aF c109p F
          refine run_skip ?_; refine hK14 _ _ ?_; refine sq fun K17 hK17 => ?_; refine run_block_k ?_; refine sq fun K18 hK18 => ?_
          have hlt : i < x10.length := by have h := c109; simp at h; omega
          have hlt2 : i < y10.length := by omega
          have hat := outsC_at hlt
          have hat2 := outsC_at hlt2
          have hq1 : i * 2 + 2 ≤ x10.length * 2 := by omega
          have hq2 : i * 2 + 2 ≤ y10.length * 2 := by omega
          have hx5 := ha5 _ (List.getElem_mem hlt)
          have hy5 := hb5 _ (List.getElem_mem hlt2)
          have htx : x10.take (i + 1) = x10.take i ++ [x10[i]] := (List.take_append_getElem hlt).symm
          have hty : y10.take (i + 1) = y10.take i ++ [y10[i]] := (List.take_append_getElem hlt2).symm
          have hxy : x10 = y10 → x10[i] = y10[i] := fun e => by subst e; rfl
          obtain ⟨x, hx⟩ : ∃ x, x = x10[i] := ⟨_, rfl⟩
          obtain ⟨y, hy⟩ : ∃ y, y = y10[i] := ⟨_, rfl⟩
          rw [← hx] at hat hx5 htx hxy
          rw [← hy] at hat2 hy5 hty hxy
          obtain ⟨xl, xc⟩ := x
          obtain ⟨yl, yc⟩ := y
          simp only [Out.mk.injEq] at hx5 hy5 hxy
          replace F := aF hlt F; replace F := aF hlt2 F; replace F := aF hat F; replace F := aF hat2 F; replace F := aF hq1 F; replace F := aF hq2 F
          refine run_draw (by kernel_rfl) fun J19 hJ19 => ?_
          refine rp2 0 (k := ?_); refine rp2 1 (k := ?_); refine rp2 2 (k := ?_); refine rp2 3 (k := ?_); refine rp2 4 (k := ?_); refine rp2 5 (k := ?_); refine rp2 6 (k := ?_); refine rp2 7 (k := ?_); refine rp2 8 (k := ?_); refine rp2 9 (k := ?_); refine rp2 10 (k := ?_); refine rp2 11 (k := ?_); refine rp2 12 (k := ?_); refine rp2 13 (k := ?_); refine gd 125 (fun g8_13 => ?_) (fun g8_13 => ?_)
          · try exact nope g8_13
            all_goals have g8_13p := g8_13; try simp [F] at g8_13p
            all_goals
             replace F := aF g8_13 F; try replace F := aF g8_13p F
             have hm : ¬ xl = yl := by have h := g8_13; simp at h; intro e; subst e; exact h rfl
             have h0 : D0 = false := hno (fun e => hm (hxy e.2.2.2.2.2.2.2.2.2.1).1)
             replace F := aF h0 F; refine rp2 14 (k := ?_); refine rp2 15 (k := ?_); refine rp2 16 (k := ?_); refine rp2 17 (k := ?_); refine rp2 18 (k := ?_); refine rp2 19 (k := ?_); refine rp2 20 (k := ?_); refine rp2 21 (k := ?_); refine rp2 22 (k := ?_); refine rp2 23 (k := ?_); refine rp2 24 (k := ?_); refine rp2 25 (k := ?_); refine dop 26 rfl ?_; repeat (first | simp [F] | simp (disch := omega) only [wC, if_pos, if_neg])
             refine rp2 27 (k := ?_); refine rp2 28 (k := ?_); refine dd ?_; refine hJ19 _ _ ?_; refine hK18 _ _ ?_; refine ct ?_; refine sq fun K20 hK20 => ?_; refine rg' (h := fun J21 hJ21 => ?_); refine hJ21 _ _ ?_; refine hK20 _ _ ?_; refine run_ret ?_; try simp only [Then, InBlock, NoGoto]
             refine answer_tmp rfl (.inr rfl) ?_; exact gcr
          try exact nope g8_13
          all_goals have g8_13p := g8_13; try simp [F] at g8_13p
          all_goals
           replace F := aF g8_13 F; try replace F := aF g8_13p F
           have hm : xl = yl := by have h := g8_13; simp at h; exact UInt8.toNat_inj.1 (by omega)
           refine rp2 14 (k := ?_); refine rp2 15 (k := ?_); refine rp2 16 (k := ?_); refine rp2 17 (k := ?_); refine rp2 18 (k := ?_); refine rp2 19 (k := ?_); refine rp2 20 (k := ?_); refine rp2 21 (k := ?_); refine rp2 22 (k := ?_); refine rp2 23 (k := ?_); refine rp2 24 (k := ?_); refine rp2 25 (k := ?_); refine dc 26 rfl (c := rsame_ok hx5 hy5) (k := ?_); rintro _ _ ⟨rfl, rfl⟩
           refine ⟨by first | exact fun _ _ h => h | (refine later_list [24, 23, 22, 21, 20, 18, 17, 16, 15, 14, 12, 11, 10, 9, 8, 7, 6, 5, 4, 3, 2, 1, 0] (by kernel_rfl) (List.forall_mem_cons.2 ⟨fun _ => fact2 rfl rfl ?_, List.forall_mem_cons.2 ⟨fun _ => fact2 rfl rfl ?_, List.forall_mem_cons.2 ⟨fun _ => fact2 rfl rfl ?_, List.forall_mem_cons.2 ⟨fun _ => fact2 rfl rfl ?_, List.forall_mem_cons.2 ⟨fun _ => fact2 rfl rfl ?_, List.forall_mem_cons.2 ⟨fun _ => fact2 rfl rfl ?_, List.forall_mem_cons.2 ⟨fun _ => fact2 rfl rfl ?_, List.forall_mem_cons.2 ⟨fun _ => fact2 rfl rfl ?_, List.forall_mem_cons.2 ⟨fun _ => fact2 rfl rfl ?_, List.forall_mem_cons.2 ⟨fun _ => fact2 rfl rfl ?_, List.forall_mem_cons.2 ⟨fun _ => fact2 rfl rfl ?_, List.forall_mem_cons.2 ⟨fun _ => fact2 rfl rfl ?_, List.forall_mem_cons.2 ⟨fun _ => fact2 rfl rfl ?_, List.forall_mem_cons.2 ⟨fun _ => fact2 rfl rfl ?_, List.forall_mem_cons.2 ⟨fun _ => fact2 rfl rfl ?_, List.forall_mem_cons.2 ⟨fun _ => fact2 rfl rfl ?_, List.forall_mem_cons.2 ⟨fun _ => fact2 rfl rfl ?_, List.forall_mem_cons.2 ⟨fun _ => fact2 rfl rfl ?_, List.forall_mem_cons.2 ⟨fun _ => fact2 rfl rfl ?_, List.forall_mem_cons.2 ⟨fun _ => fact2 rfl rfl ?_, List.forall_mem_cons.2 ⟨fun _ => fact2 rfl rfl ?_, List.forall_mem_cons.2 ⟨fun _ => fact2 rfl rfl ?_, List.forall_mem_cons.2 ⟨fun _ => fact2 rfl rfl ?_, fun _ h => absurd h List.not_mem_nil⟩⟩⟩⟩⟩⟩⟩⟩⟩⟩⟩⟩⟩⟩⟩⟩⟩⟩⟩⟩⟩⟩⟩) <;> constructor <;> first | rfl | (simp [F]; done)), ?_⟩
           repeat (first | simp [F] | simp (disch := omega) only [wC, if_pos, if_neg])
           refine rp2 27 (k := ?_); refine rp2 28 (k := ?_); refine dd ?_; refine hJ19 _ _ ?_; refine hK18 _ _ ?_; refine cs (fun c140 => ?_) (fun c140 => ?_)
           · try exact nope c140
             all_goals have c140p := c140; try simp [F] at c140p
             all_goals
              replace F := aF c140 F; try replace F := aF c140p F
              have h0 : D0 = false := hno (fun e => by have h := c140; simp at h; exact h (hxy e.2.2.2.2.2.2.2.2.2.1).2)
              replace F := aF h0 F; refine sq fun K22 hK22 => ?_; refine rg' (h := fun J23 hJ23 => ?_); refine hJ23 _ _ ?_; refine hK22 _ _ ?_; refine run_ret ?_; try simp only [Then, InBlock, NoGoto]
              refine answer_tmp rfl (.inr rfl) ?_; exact gcr
           try exact nope c140
           all_goals have c140p := c140; try simp [F] at c140p
           all_goals
            replace F := aF c140 F; try replace F := aF c140p F
            have hc : xc = yc := by have h := c140; simp at h; exact h
            refine run_skip ?_; refine hK17 _ _ ?_; refine rg' (h := fun J24 hJ24 => ?_); refine hJ24 _ _ ?_; refine ⟨(i + 1), ⟨kp, lp, ?_, lp, lp⟩, lp⟩
            · rw [htx, hty, hE, hm, hc]
       try exact nope c109
       all_goals have c109p := c109; try simp [F] at c109p
       all_goals
        replace F := aF c109 F; try replace F := aF c109p F
        have h0 : D0 = true := hyes ⟨e1.1, e1.2.1, e1.2.2.1, e2.2.2.2.1, e1.2.2.2.1, e1.2.2.2.2.1, e1.2.2.2.2.2.1, e1.2.2.2.2.2.2, e2.2.2.2.2.1, by rw [List.take_of_length_le (by have h := c109; simp at h; omega), List.take_of_length_le (by have h := c109; simp at h; omega)] at hE; exact hE, hDe e2.2.2.2.2.2.1, e2.1, e2.2.1, e2.2.2.1⟩
        replace F := aF h0 F; refine run_exit ?_; refine hK11 _ _ ?_; refine sq fun K25 hK25 => ?_; refine rg' (h := fun J26 hJ26 => ?_); refine hJ26 _ _ ?_; refine hK25 _ _ ?_; refine run_ret ?_; try simp only [Then, InBlock, NoGoto]
        refine answer_tmp rfl (.inr rfl) ?_; exact gcr
    case cx8 =>
     intro K8 hK8
     refine rg' (h := fun J27 hJ27 => ?_); refine gs 58 (fun g3_5 => ?_) (fun g3_5 => ?_)
     · try exact nope g3_5
       all_goals have g3_5p := g3_5; try simp [F] at g3_5p
       all_goals
        replace F := aF g3_5 F; try replace F := aF g3_5p F
        have hl12 : ¬ x12 = y12 := by have h := g3_5; simp at h; omega
        replace F := aF hl12 F; iterate 35 refine no2 (k := ?_)
        refine hJ27 _ _ ?_; refine hK8 (()) _ _ ⟨kp, ?_, lp⟩
        · rw [hB2]
          simp [F]
          try (rw [Bool.eq_iff_iff]; simp; omega)
     try exact nope g3_5
     all_goals have g3_5p := g3_5; try simp [F] at g3_5p
     all_goals
      replace F := aF g3_5 F; try replace F := aF g3_5p F
      have hl12 : x12 = y12 := by have h := g3_5; simp at h; omega
      replace F := aF hl12 F; iterate 5 refine go2 (k := ?_)
      refine gs 65 (fun g3_12 => ?_) (fun g3_12 => ?_)
      · try exact nope g3_12
        all_goals have g3_12p := g3_12; try simp [F] at g3_12p
        all_goals
         replace F := aF g3_12 F; try replace F := aF g3_12p F
         have hl13 : ¬ x13 = y13 := by have h := g3_12; simp at h; omega
         replace F := aF hl13 F; iterate 30 refine no2 (k := ?_)
         refine hJ27 _ _ ?_; refine hK8 (()) _ _ ⟨kp, ?_, lp⟩
         · rw [hB2]
           simp [F]
           try (rw [Bool.eq_iff_iff]; simp; omega)
      try exact nope g3_12
      all_goals have g3_12p := g3_12; try simp [F] at g3_12p
      all_goals
       replace F := aF g3_12 F; try replace F := aF g3_12p F
       have hl13 : x13 = y13 := by have h := g3_12; simp at h; omega
       replace F := aF hl13 F; iterate 5 refine go2 (k := ?_)
       refine gs 72 (fun g3_19 => ?_) (fun g3_19 => ?_)
       · try exact nope g3_19
         all_goals have g3_19p := g3_19; try simp [F] at g3_19p
         all_goals
          replace F := aF g3_19 F; try replace F := aF g3_19p F
          have hl14 : ¬ x14 = y14 := by have h := g3_19; intro e; subst e; simp at h
          replace F := aF hl14 F; iterate 25 refine no2 (k := ?_)
          refine hJ27 _ _ ?_; refine hK8 (()) _ _ ⟨kp, ?_, lp⟩
          · rw [hB2]
            simp [F]
            try (rw [Bool.eq_iff_iff]; simp; omega)
       try exact nope g3_19
       all_goals have g3_19p := g3_19; try simp [F] at g3_19p
       all_goals
        replace F := aF g3_19 F; try replace F := aF g3_19p F
        have hl14 : x14 = y14 := by have h := g3_19; simp at h; exact h
        replace F := aF hl14 F; iterate 4 refine go2 (k := ?_)
        refine ca (c := rsame_ok ha2 hb2) (k := ?_); rintro _ _ ⟨rfl, rfl⟩; repeat (first | simp [F] | simp (disch := omega) only [wC, if_pos, if_neg])
        refine go2 (k := ?_); refine gs 80 (fun g3_27 => ?_) (fun g3_27 => ?_)
        · try exact nope g3_27
          all_goals have g3_27p := g3_27; try simp [F] at g3_27p
          all_goals
           replace F := aF g3_27 F; try replace F := aF g3_27p F
           have hl4 : ¬ x4 = y4 := by simpa using g3_27
           replace F := aF hl4 F; iterate 19 refine no2 (k := ?_)
           refine hJ27 _ _ ?_; refine hK8 (()) _ _ ⟨kp, ?_, lp⟩
           · rw [hB2]
             simp [F]
             try (rw [Bool.eq_iff_iff]; simp; omega)
        try exact nope g3_27
        all_goals have g3_27p := g3_27; try simp [F] at g3_27p
        all_goals
         replace F := aF g3_27 F; try replace F := aF g3_27p F
         have hl4 : x4 = y4 := by simpa using g3_27
         replace F := aF hl4 F; iterate 4 refine go2 (k := ?_)
         refine ca (c := rsame_ok ha3 hb3) (k := ?_); rintro _ _ ⟨rfl, rfl⟩; repeat (first | simp [F] | simp (disch := omega) only [wC, if_pos, if_neg])
         refine go2 (k := ?_); refine gs 88 (fun g3_35 => ?_) (fun g3_35 => ?_)
         · try exact nope g3_35
           all_goals have g3_35p := g3_35; try simp [F] at g3_35p
           all_goals
            replace F := aF g3_35 F; try replace F := aF g3_35p F
            have hl9 : ¬ x9 = y9 := by simpa using g3_35
            replace F := aF hl9 F; iterate 13 refine no2 (k := ?_)
            refine hJ27 _ _ ?_; refine hK8 (()) _ _ ⟨kp, ?_, lp⟩
            · rw [hB2]
              simp [F]
              try (rw [Bool.eq_iff_iff]; simp; omega)
         try exact nope g3_35
         all_goals have g3_35p := g3_35; try simp [F] at g3_35p
         all_goals
          replace F := aF g3_35 F; try replace F := aF g3_35p F
          have hl9 : x9 = y9 := by simpa using g3_35
          replace F := aF hl9 F; iterate 4 refine go2 (k := ?_)
          refine ca (c := hsp _) (k := ?_); rintro _ _ ⟨rfl, rfl⟩; repeat (first | simp [F] | simp (disch := omega) only [wC, if_pos, if_neg])
          refine go2 (k := ?_); refine gs 96 (fun g3_43 => ?_) (fun g3_43 => ?_)
          · try exact nope g3_43
            all_goals have g3_43p := g3_43; try simp [F] at g3_43p
            all_goals
             replace F := aF g3_43 F; try replace F := aF g3_43p F
             have hDt : D = false := by simpa using g3_43
             replace F := aF hDt F; iterate 7 refine no2 (k := ?_)
             refine hJ27 _ _ ?_; refine hK8 (()) _ _ ⟨kp, ?_, lp⟩
             · rw [hB2]
               simp [F]
               try (rw [Bool.eq_iff_iff]; simp; omega)
          try exact nope g3_43
          all_goals have g3_43p := g3_43; try simp [F] at g3_43p
          all_goals
           replace F := aF g3_43 F; try replace F := aF g3_43p F
           have hDt : D = true := by simpa using g3_43
           replace F := aF hDt F; iterate 7 refine go2 (k := ?_)
           refine hJ27 _ _ ?_; refine hK8 (()) _ _ ⟨kp, ?_, lp⟩
           · rw [hB2]
             simp [F]
             try (rw [Bool.eq_iff_iff]; simp; omega)
  case cx4 =>
   intro K4 hK4
   refine rg' (h := fun J28 hJ28 => ?_); refine gs 11 (fun g1_5 => ?_) (fun g1_5 => ?_)
   · try exact nope g1_5
     all_goals have g1_5p := g1_5; try simp [F] at g1_5p
     all_goals
      replace F := aF g1_5 F; try replace F := aF g1_5p F
      have hl1 : ¬ x1 = y1 := by have h := g1_5; simp at h; intro e; subst e; exact h rfl
      replace F := aF hl1 F; iterate 30 refine no2 (k := ?_)
      refine hJ28 _ _ ?_; refine hK4 (()) _ _ ⟨kp, ?_, lp⟩
      · rw [hB1]
        simp [F]
        try rfl
   try exact nope g1_5
   all_goals have g1_5p := g1_5; try simp [F] at g1_5p
   all_goals
    replace F := aF g1_5 F; try replace F := aF g1_5p F
    have hl1 : x1 = y1 := by have h := g1_5; simp at h; exact UInt8.toNat_inj.1 (by omega)
    replace F := aF hl1 F; iterate 5 refine go2 (k := ?_)
    refine gs 18 (fun g1_12 => ?_) (fun g1_12 => ?_)
    · try exact nope g1_12
      all_goals have g1_12p := g1_12; try simp [F] at g1_12p
      all_goals
       replace F := aF g1_12 F; try replace F := aF g1_12p F
       have hl2 : ¬ x2 = y2 := by have h := g1_12; simp at h; intro e; subst e; exact h rfl
       replace F := aF hl2 F; iterate 25 refine no2 (k := ?_)
       refine hJ28 _ _ ?_; refine hK4 (()) _ _ ⟨kp, ?_, lp⟩
       · rw [hB1]
         simp [F]
         try rfl
    try exact nope g1_12
    all_goals have g1_12p := g1_12; try simp [F] at g1_12p
    all_goals
     replace F := aF g1_12 F; try replace F := aF g1_12p F
     have hl2 : x2 = y2 := by have h := g1_12; simp at h; exact UInt8.toNat_inj.1 (by omega)
     replace F := aF hl2 F; iterate 5 refine go2 (k := ?_)
     refine gs 25 (fun g1_19 => ?_) (fun g1_19 => ?_)
     · try exact nope g1_19
       all_goals have g1_19p := g1_19; try simp [F] at g1_19p
       all_goals
        replace F := aF g1_19 F; try replace F := aF g1_19p F
        have hl3 : ¬ x3 = y3 := by have h := g1_19; simp at h; omega
        replace F := aF hl3 F; iterate 20 refine no2 (k := ?_)
        refine hJ28 _ _ ?_; refine hK4 (()) _ _ ⟨kp, ?_, lp⟩
        · rw [hB1]
          simp [F]
          try rfl
     try exact nope g1_19
     all_goals have g1_19p := g1_19; try simp [F] at g1_19p
     all_goals
      replace F := aF g1_19 F; try replace F := aF g1_19p F
      have hl3 : x3 = y3 := by have h := g1_19; simp at h; omega
      replace F := aF hl3 F; iterate 5 refine go2 (k := ?_)
      refine gs 32 (fun g1_26 => ?_) (fun g1_26 => ?_)
      · try exact nope g1_26
        all_goals have g1_26p := g1_26; try simp [F] at g1_26p
        all_goals
         replace F := aF g1_26 F; try replace F := aF g1_26p F
         have hl5 : ¬ x5 = y5 := by have h := g1_26; simp at h; intro e; subst e; exact h rfl
         replace F := aF hl5 F; iterate 15 refine no2 (k := ?_)
         refine hJ28 _ _ ?_; refine hK4 (()) _ _ ⟨kp, ?_, lp⟩
         · rw [hB1]
           simp [F]
           try rfl
      try exact nope g1_26
      all_goals have g1_26p := g1_26; try simp [F] at g1_26p
      all_goals
       replace F := aF g1_26 F; try replace F := aF g1_26p F
       have hl5 : x5 = y5 := by have h := g1_26; simp at h; exact UInt8.toNat_inj.1 (by omega)
       replace F := aF hl5 F; iterate 5 refine go2 (k := ?_)
       refine gs 39 (fun g1_33 => ?_) (fun g1_33 => ?_)
       · try exact nope g1_33
         all_goals have g1_33p := g1_33; try simp [F] at g1_33p
         all_goals
          replace F := aF g1_33 F; try replace F := aF g1_33p F
          have hl6 : ¬ x6 = y6 := by have h := g1_33; simp at h; intro e; subst e; exact h rfl
          replace F := aF hl6 F; iterate 10 refine no2 (k := ?_)
          refine hJ28 _ _ ?_; refine hK4 (()) _ _ ⟨kp, ?_, lp⟩
          · rw [hB1]
            simp [F]
            try rfl
       try exact nope g1_33
       all_goals have g1_33p := g1_33; try simp [F] at g1_33p
       all_goals
        replace F := aF g1_33 F; try replace F := aF g1_33p F
        have hl6 : x6 = y6 := by have h := g1_33; simp at h; exact UInt8.toNat_inj.1 (by omega)
        replace F := aF hl6 F; iterate 5 refine go2 (k := ?_)
        refine gs 46 (fun g1_40 => ?_) (fun g1_40 => ?_)
        · try exact nope g1_40
          all_goals have g1_40p := g1_40; try simp [F] at g1_40p
          all_goals
           replace F := aF g1_40 F; try replace F := aF g1_40p F
           have hl7 : ¬ x7 = y7 := by have h := g1_40; simp at h; intro e; subst e; exact h rfl
           replace F := aF hl7 F; iterate 5 refine no2 (k := ?_)
           refine hJ28 _ _ ?_; refine hK4 (()) _ _ ⟨kp, ?_, lp⟩
           · rw [hB1]
             simp [F]
             try rfl
        try exact nope g1_40
        all_goals have g1_40p := g1_40; try simp [F] at g1_40p
        all_goals
         replace F := aF g1_40 F; try replace F := aF g1_40p F
         have hl7 : x7 = y7 := by have h := g1_40; simp at h; exact UInt8.toNat_inj.1 (by omega)
         replace F := aF hl7 F; iterate 5 refine go2 (k := ?_)
         refine hJ28 _ _ ?_; refine hK4 (()) _ _ ⟨kp, ?_, lp⟩
         · rw [hB1]
           simp [F]
           try rfl
end Go.Proofs.Ytdbaddholggkbaa
