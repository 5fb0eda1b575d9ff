import Derived.Test.YtdbaddholggkbaaVmU
import Derived.Test.YtdbaddholggkbaaJ4
import Derived.Test.YtdbaddholggkbaaVmMS
/-
  The document's right plans..
-/
namespace Go.Proofs.Ytdbaddholggkbaa
set_option linter.unnecessarySimpa false
set_option maxRecDepth 100000
open Go Go.Vm
set_option linter.unusedSimpArgs false
set_option linter.unusedVariables false

attribute [local simp] evalL wantedA isCall opA evalA evalAll evalsA evalOpt ofValue ofCell plain binA_eql_pn binA_neq_pn binA_gtr binA_lss binA_geq binA_leq binA_add binA_sub binA_eql binA_neq binA_orI binA_andI binA_shl binA_shr binA_mul binA_quo binA_rem binA_agg_eql binA_agg_neq convA_int unA_not fieldAddrA loadA partA pickA_true pickA_false pickA_bb lenA builtinA storeA splice AV.cells AV.isCell sliceA boundA intA callOf indexAddrA newObjA buildA fillA zeroA ofCells buildSliceA indexA fieldA numA_len4 numA_take4 numA_drop4 set_appN get_appN take_appN List.getElem?_cons_zero List.getElem?_cons_succ makeA zeros64

set_option maxHeartbeats 1600000 in
attribute [local simp] undefA List.getElem?_cons_zero List.getElem?_cons_succ perC plnC persC_noObj in
theorem rpright_ok {σ : St} {p : Pln} (hp : p.Ok) :
    CallsA Try.prog 19 [.agg (plnC p)] σ (fun av σ' => av = .v (.bool (rightB p)) ∧ σ = σ') := by
  refine callsA_gcS ?_ rfl
  have hp0 := hp
  have hp2 := @perB_two p
  obtain ⟨pk, ps, pe, pt, pp⟩ := p
  obtain ⟨k1, k2, k3, k4, h5⟩ := hp
  have hnil : ((pp.length : Int) == 0) = decide (pp = []) := by cases pp <;> simp <;> omega
  have hnilt : ((pt.length : Int) == 0) = decide (pt = []) := by cases pt <;> simp <;> omega
  have hkn : ∀ n : UInt8, pk = n ↔ (pk.toNat : Int) = (n.toNat : Int) := fun n => ⟨fun e => by rw [e], fun e => UInt8.toNat_inj.1 (Int.ofNat_inj.1 e)⟩
  simp only at hp2
  have hpe0 : ((pe : Int) == 0) = decide (pe = 0) := by rw [Bool.eq_iff_iff]; simp
  have F := And.intro hnil (And.intro hnilt (And.intro hpe0 (True.intro)))
  refine callsA_body Try.func19 rfl rfl rfl ?_
  refine sq fun K1 hK1 => ?_
  refine rg' (h := fun J2 hJ2 => ?_)
  refine hJ2 _ _ ?_
  refine hK1 _ _ ?_
  refine sq fun K3 hK3 => ?_
  refine sq fun K4 hK4 => ?_
  refine rg' (h := fun J5 hJ5 => ?_)
  refine hJ5 _ _ ?_
  refine hK4 _ _ ?_
  refine cs (fun c11 => ?_) (fun c11 => ?_)
  · try exact nope c11
    all_goals have c11p := c11
    all_goals try simp [F] at c11p
    all_goals
     replace F := And.intro c11 F
     try replace F := And.intro c11p F
     refine sq fun K6 hK6 => ?_
     refine rg' (h := fun J7 hJ7 => ?_)
     refine gs 15 (fun g2_3 => ?_) (fun g2_3 => ?_)
     · try exact nope g2_3
       all_goals have g2_3p := g2_3
       all_goals try simp [F] at g2_3p
       all_goals
        replace F := And.intro g2_3 F
        try replace F := And.intro g2_3p F
        refine go2 (k := ?_)
        refine go2 (k := ?_)
        refine go2 (k := ?_)
        refine gs 20 (fun g2_8 => ?_) (fun g2_8 => ?_)
        · try exact nope g2_8
          all_goals have g2_8p := g2_8
          all_goals try simp [F] at g2_8p
          all_goals
           replace F := And.intro g2_8 F
           try replace F := And.intro g2_8p F
           refine go2 (k := ?_)
           refine go2 (k := ?_)
           refine go2 (k := ?_)
           refine go2 (k := ?_)
           refine gs 26 (fun g2_14 => ?_) (fun g2_14 => ?_)
           · try exact nope g2_14
             all_goals have g2_14p := g2_14
             all_goals try simp [F] at g2_14p
             all_goals
              replace F := And.intro g2_14 F
              try replace F := And.intro g2_14p F
              refine go2 (k := ?_)
              refine go2 (k := ?_)
              refine go2 (k := ?_)
              refine go2 (k := ?_)
              refine hJ7 _ _ ?_
              refine hK6 _ _ ?_
              refine run_ret ?_
              try simp only [Then, InBlock, NoGoto]
              refine answer_tmp rfl (.inr rfl) ?_
              exact gcr (hA := by simp only [putA_get]; simp [rightB, hkn, F]; exact Wk.refl _)
           try exact nope g2_14
           all_goals have g2_14p := g2_14
           all_goals try simp [F] at g2_14p
           all_goals
            replace F := And.intro g2_14 F
            try replace F := And.intro g2_14p F
            refine no2 (k := ?_)
            refine no2 (k := ?_)
            refine no2 (k := ?_)
            refine no2 (k := ?_)
            refine hJ7 _ _ ?_
            refine hK6 _ _ ?_
            refine run_ret ?_
            try simp only [Then, InBlock, NoGoto]
            refine answer_tmp rfl (.inr rfl) ?_
            exact gcr (hA := by simp only [putA_get]; simp [rightB, hkn, F]; exact Wk.refl _)
        try exact nope g2_8
        all_goals have g2_8p := g2_8
        all_goals try simp [F] at g2_8p
        all_goals
         replace F := And.intro g2_8 F
         try replace F := And.intro g2_8p F
         refine no2 (k := ?_)
         refine no2 (k := ?_)
         refine no2 (k := ?_)
         refine no2 (k := ?_)
         refine no2 (k := ?_)
         refine no2 (k := ?_)
         refine no2 (k := ?_)
         refine no2 (k := ?_)
         refine hJ7 _ _ ?_
         refine hK6 _ _ ?_
         refine run_ret ?_
         try simp only [Then, InBlock, NoGoto]
         refine answer_tmp rfl (.inr rfl) ?_
         exact gcr (hA := by simp only [putA_get]; simp [rightB, hkn, F]; exact Wk.refl _)
     try exact nope g2_3
     all_goals have g2_3p := g2_3
     all_goals try simp [F] at g2_3p
     all_goals
      replace F := And.intro g2_3 F
      try replace F := And.intro g2_3p F
      refine no2 (k := ?_)
      refine no2 (k := ?_)
      refine no2 (k := ?_)
      refine no2 (k := ?_)
      refine no2 (k := ?_)
      refine no2 (k := ?_)
      refine no2 (k := ?_)
      refine no2 (k := ?_)
      refine no2 (k := ?_)
      refine no2 (k := ?_)
      refine no2 (k := ?_)
      refine hJ7 _ _ ?_
      refine hK6 _ _ ?_
      refine run_ret ?_
      try simp only [Then, InBlock, NoGoto]
      refine answer_tmp rfl (.inr rfl) ?_
      exact gcr (hA := by simp only [putA_get]; simp [rightB, hkn, F]; exact Wk.refl _)
  try exact nope c11
  all_goals have c11p := c11
  all_goals try simp [F] at c11p
  all_goals
   replace F := And.intro c11 F
   try replace F := And.intro c11p F
   refine run_skip ?_
   refine hK3 _ _ ?_
   refine sq fun K8 hK8 => ?_
   refine sq fun K9 hK9 => ?_
   refine rg' (h := fun J10 hJ10 => ?_)
   refine gs 35 (fun g3_3 => ?_) (fun g3_3 => ?_)
   · try exact nope g3_3
     all_goals have g3_3p := g3_3
     all_goals try simp [F] at g3_3p
     all_goals
      replace F := And.intro g3_3 F
      try replace F := And.intro g3_3p F
      have n1 : ¬ (pk.toNat : Int) = 1 ∧ ¬ (pk.toNat : Int) = 2 ∧ ¬ (pk.toNat : Int) = 3 ∧ ¬ (pk.toNat : Int) = 4 ∧ ¬ (pk.toNat : Int) = 5 := by have h := g3_3; simp at h; omega
      replace F := And.intro n1 F
      refine no2 (k := ?_)
      refine no2 (k := ?_)
      refine no2 (k := ?_)
      refine no2 (k := ?_)
      refine no2 (k := ?_)
      refine no2 (k := ?_)
      refine no2 (k := ?_)
      refine no2 (k := ?_)
      refine no2 (k := ?_)
      refine no2 (k := ?_)
      refine no2 (k := ?_)
      refine hJ10 _ _ ?_
      refine hK9 _ _ ?_
      refine ct ?_
      refine sq fun K11 hK11 => ?_
      refine rg' (h := fun J12 hJ12 => ?_)
      refine hJ12 _ _ ?_
      refine hK11 _ _ ?_
      refine run_ret ?_
      try simp only [Then, InBlock, NoGoto]
      refine answer_tmp rfl (.inr rfl) ?_
      exact gcr (hA := by simp only [putA_get]; simp [rightB, hkn, F]; exact Wk.refl _)
   try exact nope g3_3
   all_goals have g3_3p := g3_3
   all_goals try simp [F] at g3_3p
   all_goals
    replace F := And.intro g3_3 F
    try replace F := And.intro g3_3p F
    refine go2 (k := ?_)
    refine go2 (k := ?_)
    refine go2 (k := ?_)
    refine go2 (k := ?_)
    refine gs 41 (fun g3_9 => ?_) (fun g3_9 => ?_)
    · try exact nope g3_9
      all_goals have g3_9p := g3_9
      all_goals try simp [F] at g3_9p
      all_goals
       replace F := And.intro g3_9 F
       try replace F := And.intro g3_9p F
       refine no2 (k := ?_)
       refine no2 (k := ?_)
       refine no2 (k := ?_)
       refine no2 (k := ?_)
       refine no2 (k := ?_)
       refine no2 (k := ?_)
       refine no2 (k := ?_)
       refine hJ10 _ _ ?_
       refine hK9 _ _ ?_
       refine ct ?_
       refine sq fun K13 hK13 => ?_
       refine rg' (h := fun J14 hJ14 => ?_)
       refine hJ14 _ _ ?_
       refine hK13 _ _ ?_
       refine run_ret ?_
       try simp only [Then, InBlock, NoGoto]
       refine answer_tmp rfl (.inr rfl) ?_
       exact gcr (hA := by simp only [putA_get]; simp [rightB, hkn, F]; exact Wk.refl _)
    try exact nope g3_9
    all_goals have g3_9p := g3_9
    all_goals try simp [F] at g3_9p
    all_goals
     replace F := And.intro g3_9 F
     try replace F := And.intro g3_9p F
     refine go2 (k := ?_)
     refine go2 (k := ?_)
     refine ca (c := rright_ok k3) (k := ?_)
     rintro _ _ ⟨rfl, rfl⟩
     repeat (first | simp [F] | simp (disch := omega) only [wC, if_pos, if_neg])
     refine go2 (k := ?_)
     refine gs 47 (fun g3_15 => ?_) (fun g3_15 => ?_)
     · try exact nope g3_15
       all_goals have g3_15p := g3_15
       all_goals try simp [F] at g3_15p
       all_goals
        replace F := And.intro g3_15 F
        try replace F := And.intro g3_15p F
        refine no2 (k := ?_)
        refine no2 (k := ?_)
        refine no2 (k := ?_)
        refine hJ10 _ _ ?_
        refine hK9 _ _ ?_
        refine ct ?_
        refine sq fun K15 hK15 => ?_
        refine rg' (h := fun J16 hJ16 => ?_)
        refine hJ16 _ _ ?_
        refine hK15 _ _ ?_
        refine run_ret ?_
        try simp only [Then, InBlock, NoGoto]
        refine answer_tmp rfl (.inr rfl) ?_
        exact gcr (hA := by simp only [putA_get]; simp [rightB, hkn, F]; exact Wk.refl _)
     try exact nope g3_15
     all_goals have g3_15p := g3_15
     all_goals try simp [F] at g3_15p
     all_goals
      replace F := And.intro g3_15 F
      try replace F := And.intro g3_15p F
      refine go2 (k := ?_)
      refine go2 (k := ?_)
      refine go2 (k := ?_)
      refine hJ10 _ _ ?_
      refine hK9 _ _ ?_
      refine cs (fun c51 => ?_) (fun c51 => ?_)
      · try exact nope c51
        all_goals have c51p := c51
        all_goals try simp [F] at c51p
        all_goals
         replace F := And.intro c51 F
         try replace F := And.intro c51p F
         have n1 : 1099511627776 < pe := by have h := c51; simp at h; omega
         replace F := And.intro n1 F
         refine sq fun K17 hK17 => ?_
         refine rg' (h := fun J18 hJ18 => ?_)
         refine hJ18 _ _ ?_
         refine hK17 _ _ ?_
         refine run_ret ?_
         try simp only [Then, InBlock, NoGoto]
         refine answer_tmp rfl (.inr rfl) ?_
         exact gcr (hA := by simp only [putA_get]; simp [rightB, hkn, F]; exact Wk.refl _)
      try exact nope c51
      all_goals have c51p := c51
      all_goals try simp [F] at c51p
      all_goals
       replace F := And.intro c51 F
       try replace F := And.intro c51p F
       have hs3' : ¬ 1099511627776 < pe := by have h := c51; simp at h; omega
       have hs1 : ¬ pt = [] := by simp [F]
       have hs2 : Right pt := by simp [F]
       have hb := hp2 (by omega) hs1
       replace F := And.intro hb (And.intro hs3' F)
       refine run_skip ?_
       refine hK8 _ _ ?_
       refine sq fun K19 hK19 => ?_
       refine sq fun K20 hK20 => ?_
       refine rg' (h := fun J21 hJ21 => ?_)
       refine gs 55 (fun g5_3 => ?_) (fun g5_3 => ?_)
       · try exact nope g5_3
         all_goals have g5_3p := g5_3
         all_goals try simp [F] at g5_3p
         all_goals
          replace F := And.intro g5_3 F
          try replace F := And.intro g5_3p F
          refine go2 (k := ?_)
          refine go2 (k := ?_)
          refine go2 (k := ?_)
          refine hJ21 _ _ ?_
          refine hK20 _ _ ?_
          refine cs (fun c59 => ?_) (fun c59 => ?_)
          · try exact nope c59
            all_goals have c59p := c59
            all_goals try simp [F] at c59p
            all_goals
             replace F := And.intro c59 F
             try replace F := And.intro c59p F
             refine sq fun K22 hK22 => ?_
             refine sq fun K23 hK23 => ?_
             refine rg' (h := fun J24 hJ24 => ?_)
             refine hJ24 _ _ ?_
             refine hK23 _ _ ?_
             refine cs (fun c63 => ?_) (fun c63 => ?_)
             · try exact nope c63
               all_goals have c63p := c63
               all_goals try simp [F] at c63p
               all_goals
                replace F := And.intro c63 F
                try replace F := And.intro c63p F
                have n1 : ¬ pp = [] := fun e => by rw [e] at c63; simp at c63
                replace F := And.intro n1 F
                refine sq fun K25 hK25 => ?_
                refine rg' (h := fun J26 hJ26 => ?_)
                refine hJ26 _ _ ?_
                refine hK25 _ _ ?_
                refine run_ret ?_
                try simp only [Then, InBlock, NoGoto]
                refine answer_tmp rfl (.inr rfl) ?_
                exact gcr (hA := by simp only [putA_get]; simp [rightB, hkn, F]; exact Wk.refl _)
             try exact nope c63
             all_goals have c63p := c63
             all_goals try simp [F] at c63p
             all_goals
              replace F := And.intro c63 F
              try replace F := And.intro c63p F
              refine run_skip ?_
              refine hK22 _ _ ?_
              refine sq fun K27 hK27 => ?_
              refine rg' (h := fun J28 hJ28 => ?_)
              refine gs 67 (fun g8_3 => ?_) (fun g8_3 => ?_)
              · try exact nope g8_3
                all_goals have g8_3p := g8_3
                all_goals try simp [F] at g8_3p
                all_goals
                 replace F := And.intro g8_3 F
                 try replace F := And.intro g8_3p F
                 refine go2 (k := ?_)
                 refine go2 (k := ?_)
                 refine go2 (k := ?_)
                 refine go2 (k := ?_)
                 refine go2 (k := ?_)
                 refine gs 74 (fun g8_10 => ?_) (fun g8_10 => ?_)
                 · try exact nope g8_10
                   all_goals have g8_10p := g8_10
                   all_goals try simp [F] at g8_10p
                   all_goals
                    replace F := And.intro g8_10 F
                    try replace F := And.intro g8_10p F
                    refine no2 (k := ?_)
                    refine no2 (k := ?_)
                    refine no2 (k := ?_)
                    refine no2 (k := ?_)
                    refine no2 (k := ?_)
                    refine no2 (k := ?_)
                    refine no2 (k := ?_)
                    refine no2 (k := ?_)
                    refine no2 (k := ?_)
                    refine no2 (k := ?_)
                    refine no2 (k := ?_)
                    refine no2 (k := ?_)
                    refine no2 (k := ?_)
                    refine no2 (k := ?_)
                    refine no2 (k := ?_)
                    refine no2 (k := ?_)
                    refine no2 (k := ?_)
                    refine no2 (k := ?_)
                    refine no2 (k := ?_)
                    refine no2 (k := ?_)
                    refine no2 (k := ?_)
                    refine hJ28 _ _ ?_
                    refine hK27 _ _ ?_
                    refine run_ret ?_
                    try simp only [Then, InBlock, NoGoto]
                    refine answer_tmp rfl (.inr rfl) ?_
                    exact gcr (hA := by simp only [putA_get]; simp [rightB, hkn, F]; exact Wk.refl _)
                 try exact nope g8_10
                 all_goals have g8_10p := g8_10
                 all_goals try simp [F] at g8_10p
                 all_goals
                  replace F := And.intro g8_10 F
                  try replace F := And.intro g8_10p F
                  refine go2 (k := ?_)
                  refine go2 (k := ?_)
                  refine go2 (k := ?_)
                  refine go2 (k := ?_)
                  refine gs 78 (fun g8_14 => ?_) (fun g8_14 => ?_)
                  · try exact nope g8_14
                    all_goals have g8_14p := g8_14
                    all_goals try simp [F] at g8_14p
                    all_goals
                     replace F := And.intro g8_14 F
                     try replace F := And.intro g8_14p F
                     refine go2 (k := ?_)
                     refine go2 (k := ?_)
                     refine go2 (k := ?_)
                     refine go2 (k := ?_)
                     refine gs 84 (fun g8_20 => ?_) (fun g8_20 => ?_)
                     · try exact nope g8_20
                       all_goals have g8_20p := g8_20
                       all_goals try simp [F] at g8_20p
                       all_goals
                        replace F := And.intro g8_20 F
                        try replace F := And.intro g8_20p F
                        refine no2 (k := ?_)
                        refine no2 (k := ?_)
                        refine no2 (k := ?_)
                        refine no2 (k := ?_)
                        refine no2 (k := ?_)
                        refine no2 (k := ?_)
                        refine no2 (k := ?_)
                        refine no2 (k := ?_)
                        refine no2 (k := ?_)
                        refine no2 (k := ?_)
                        refine no2 (k := ?_)
                        refine no2 (k := ?_)
                        refine no2 (k := ?_)
                        refine hJ28 _ _ ?_
                        refine hK27 _ _ ?_
                        refine run_ret ?_
                        try simp only [Then, InBlock, NoGoto]
                        refine answer_tmp rfl (.inr rfl) ?_
                        exact gcr (hA := by simp only [putA_get]; simp [rightB, hkn, F]; exact Wk.refl _)
                     try exact nope g8_20
                     all_goals have g8_20p := g8_20
                     all_goals try simp [F] at g8_20p
                     all_goals
                      replace F := And.intro g8_20 F
                      try replace F := And.intro g8_20p F
                      refine go2 (k := ?_)
                      refine go2 (k := ?_)
                      refine go2 (k := ?_)
                      refine go2 (k := ?_)
                      refine gs 88 (fun g8_24 => ?_) (fun g8_24 => ?_)
                      · try exact nope g8_24
                        all_goals have g8_24p := g8_24
                        all_goals try simp [F] at g8_24p
                        all_goals
                         replace F := And.intro g8_24 F
                         try replace F := And.intro g8_24p F
                         refine go2 (k := ?_)
                         refine go2 (k := ?_)
                         refine go2 (k := ?_)
                         refine go2 (k := ?_)
                         refine go2 (k := ?_)
                         refine gs 93 (fun g8_29 => ?_) (fun g8_29 => ?_)
                         · try exact nope g8_29
                           all_goals have g8_29p := g8_29
                           all_goals try simp [F] at g8_29p
                           all_goals
                            replace F := And.intro g8_29 F
                            try replace F := And.intro g8_29p F
                            refine go2 (k := ?_)
                            refine go2 (k := ?_)
                            refine go2 (k := ?_)
                            refine go2 (k := ?_)
                            refine hJ28 _ _ ?_
                            refine hK27 _ _ ?_
                            refine run_ret ?_
                            try simp only [Then, InBlock, NoGoto]
                            refine answer_tmp rfl (.inr rfl) ?_
                            exact gcr (hA := by simp only [putA_get]; simp [rightB, hkn, F]; exact Wk.refl _)
                         try exact nope g8_29
                         all_goals have g8_29p := g8_29
                         all_goals try simp [F] at g8_29p
                         all_goals
                          replace F := And.intro g8_29 F
                          try replace F := And.intro g8_29p F
                          refine no2 (k := ?_)
                          refine no2 (k := ?_)
                          refine no2 (k := ?_)
                          refine go2 (k := ?_)
                          refine hJ28 _ _ ?_
                          refine hK27 _ _ ?_
                          refine run_ret ?_
                          try simp only [Then, InBlock, NoGoto]
                          refine answer_tmp rfl (.inr rfl) ?_
                          exact gcr (hA := by simp only [putA_get]; simp [rightB, hkn, F]; exact Wk.refl _)
                      try exact nope g8_24
                      all_goals have g8_24p := g8_24
                      all_goals try simp [F] at g8_24p
                      all_goals
                       replace F := And.intro g8_24 F
                       try replace F := And.intro g8_24p F
                       refine no2 (k := ?_)
                       refine no2 (k := ?_)
                       refine no2 (k := ?_)
                       refine go2 (k := ?_)
                       refine go2 (k := ?_)
                       refine no2 (k := ?_)
                       refine no2 (k := ?_)
                       refine no2 (k := ?_)
                       refine go2 (k := ?_)
                       refine hJ28 _ _ ?_
                       refine hK27 _ _ ?_
                       refine run_ret ?_
                       try simp only [Then, InBlock, NoGoto]
                       refine answer_tmp rfl (.inr rfl) ?_
                       exact gcr (hA := by simp only [putA_get]; simp [rightB, hkn, F]; exact Wk.refl _)
                  try exact nope g8_14
                  all_goals have g8_14p := g8_14
                  all_goals try simp [F] at g8_14p
                  all_goals
                   replace F := And.intro g8_14 F
                   try replace F := And.intro g8_14p F
                   refine no2 (k := ?_)
                   refine no2 (k := ?_)
                   refine no2 (k := ?_)
                   refine go2 (k := ?_)
                   refine go2 (k := ?_)
                   refine go2 (k := ?_)
                   refine go2 (k := ?_)
                   refine go2 (k := ?_)
                   refine gs 88 (fun g8_24 => ?_) (fun g8_24 => ?_)
                   · try exact nope g8_24
                     all_goals have g8_24p := g8_24
                     all_goals try simp [F] at g8_24p
                     all_goals
                      replace F := And.intro g8_24 F
                      try replace F := And.intro g8_24p F
                      refine go2 (k := ?_)
                      refine go2 (k := ?_)
                      refine go2 (k := ?_)
                      refine go2 (k := ?_)
                      refine go2 (k := ?_)
                      refine gs 93 (fun g8_29 => ?_) (fun g8_29 => ?_)
                      · try exact nope g8_29
                        all_goals have g8_29p := g8_29
                        all_goals try simp [F] at g8_29p
                        all_goals
                         replace F := And.intro g8_29 F
                         try replace F := And.intro g8_29p F
                         refine go2 (k := ?_)
                         refine go2 (k := ?_)
                         refine go2 (k := ?_)
                         refine go2 (k := ?_)
                         refine hJ28 _ _ ?_
                         refine hK27 _ _ ?_
                         refine run_ret ?_
                         try simp only [Then, InBlock, NoGoto]
                         refine answer_tmp rfl (.inr rfl) ?_
                         exact gcr (hA := by simp only [putA_get]; simp [rightB, hkn, F]; exact Wk.refl _)
                      try exact nope g8_29
                      all_goals have g8_29p := g8_29
                      all_goals try simp [F] at g8_29p
                      all_goals
                       replace F := And.intro g8_29 F
                       try replace F := And.intro g8_29p F
                       refine no2 (k := ?_)
                       refine no2 (k := ?_)
                       refine no2 (k := ?_)
                       refine go2 (k := ?_)
                       refine hJ28 _ _ ?_
                       refine hK27 _ _ ?_
                       refine run_ret ?_
                       try simp only [Then, InBlock, NoGoto]
                       refine answer_tmp rfl (.inr rfl) ?_
                       exact gcr (hA := by simp only [putA_get]; simp [rightB, hkn, F]; exact Wk.refl _)
                   try exact nope g8_24
                   all_goals have g8_24p := g8_24
                   all_goals try simp [F] at g8_24p
                   all_goals
                    replace F := And.intro g8_24 F
                    try replace F := And.intro g8_24p F
                    refine no2 (k := ?_)
                    refine no2 (k := ?_)
                    refine no2 (k := ?_)
                    refine go2 (k := ?_)
                    refine go2 (k := ?_)
                    refine no2 (k := ?_)
                    refine no2 (k := ?_)
                    refine no2 (k := ?_)
                    refine go2 (k := ?_)
                    refine hJ28 _ _ ?_
                    refine hK27 _ _ ?_
                    refine run_ret ?_
                    try simp only [Then, InBlock, NoGoto]
                    refine answer_tmp rfl (.inr rfl) ?_
                    exact gcr (hA := by simp only [putA_get]; simp [rightB, hkn, F]; exact Wk.refl _)
              try exact nope g8_3
              all_goals have g8_3p := g8_3
              all_goals try simp [F] at g8_3p
              all_goals
               replace F := And.intro g8_3 F
               try replace F := And.intro g8_3p F
               refine no2 (k := ?_)
               refine no2 (k := ?_)
               refine no2 (k := ?_)
               refine no2 (k := ?_)
               refine no2 (k := ?_)
               refine go2 (k := ?_)
               refine go2 (k := ?_)
               refine go2 (k := ?_)
               refine go2 (k := ?_)
               refine gs 78 (fun g8_14 => ?_) (fun g8_14 => ?_)
               · try exact nope g8_14
                 all_goals have g8_14p := g8_14
                 all_goals try simp [F] at g8_14p
                 all_goals
                  replace F := And.intro g8_14 F
                  try replace F := And.intro g8_14p F
                  refine go2 (k := ?_)
                  refine go2 (k := ?_)
                  refine go2 (k := ?_)
                  refine go2 (k := ?_)
                  refine gs 84 (fun g8_20 => ?_) (fun g8_20 => ?_)
                  · try exact nope g8_20
                    all_goals have g8_20p := g8_20
                    all_goals try simp [F] at g8_20p
                    all_goals
                     replace F := And.intro g8_20 F
                     try replace F := And.intro g8_20p F
                     refine no2 (k := ?_)
                     refine no2 (k := ?_)
                     refine no2 (k := ?_)
                     refine no2 (k := ?_)
                     refine no2 (k := ?_)
                     refine no2 (k := ?_)
                     refine no2 (k := ?_)
                     refine no2 (k := ?_)
                     refine no2 (k := ?_)
                     refine no2 (k := ?_)
                     refine no2 (k := ?_)
                     refine no2 (k := ?_)
                     refine no2 (k := ?_)
                     refine hJ28 _ _ ?_
                     refine hK27 _ _ ?_
                     refine run_ret ?_
                     try simp only [Then, InBlock, NoGoto]
                     refine answer_tmp rfl (.inr rfl) ?_
                     exact gcr (hA := by simp only [putA_get]; simp [rightB, hkn, F]; exact Wk.refl _)
                  try exact nope g8_20
                  all_goals have g8_20p := g8_20
                  all_goals try simp [F] at g8_20p
                  all_goals
                   replace F := And.intro g8_20 F
                   try replace F := And.intro g8_20p F
                   refine go2 (k := ?_)
                   refine go2 (k := ?_)
                   refine go2 (k := ?_)
                   refine go2 (k := ?_)
                   refine gs 88 (fun g8_24 => ?_) (fun g8_24 => ?_)
                   · try exact nope g8_24
                     all_goals have g8_24p := g8_24
                     all_goals try simp [F] at g8_24p
                     all_goals
                      replace F := And.intro g8_24 F
                      try replace F := And.intro g8_24p F
                      refine go2 (k := ?_)
                      refine go2 (k := ?_)
                      refine go2 (k := ?_)
                      refine go2 (k := ?_)
                      refine go2 (k := ?_)
                      refine gs 93 (fun g8_29 => ?_) (fun g8_29 => ?_)
                      · try exact nope g8_29
                        all_goals have g8_29p := g8_29
                        all_goals try simp [F] at g8_29p
                        all_goals
                         replace F := And.intro g8_29 F
                         try replace F := And.intro g8_29p F
                         refine go2 (k := ?_)
                         refine go2 (k := ?_)
                         refine go2 (k := ?_)
                         refine go2 (k := ?_)
                         refine hJ28 _ _ ?_
                         refine hK27 _ _ ?_
                         refine run_ret ?_
                         try simp only [Then, InBlock, NoGoto]
                         refine answer_tmp rfl (.inr rfl) ?_
                         exact gcr (hA := by simp only [putA_get]; simp [rightB, hkn, F]; exact Wk.refl _)
                      try exact nope g8_29
                      all_goals have g8_29p := g8_29
                      all_goals try simp [F] at g8_29p
                      all_goals
                       replace F := And.intro g8_29 F
                       try replace F := And.intro g8_29p F
                       refine no2 (k := ?_)
                       refine no2 (k := ?_)
                       refine no2 (k := ?_)
                       refine go2 (k := ?_)
                       refine hJ28 _ _ ?_
                       refine hK27 _ _ ?_
                       refine run_ret ?_
                       try simp only [Then, InBlock, NoGoto]
                       refine answer_tmp rfl (.inr rfl) ?_
                       exact gcr (hA := by simp only [putA_get]; simp [rightB, hkn, F]; exact Wk.refl _)
                   try exact nope g8_24
                   all_goals have g8_24p := g8_24
                   all_goals try simp [F] at g8_24p
                   all_goals
                    replace F := And.intro g8_24 F
                    try replace F := And.intro g8_24p F
                    refine no2 (k := ?_)
                    refine no2 (k := ?_)
                    refine no2 (k := ?_)
                    refine go2 (k := ?_)
                    refine go2 (k := ?_)
                    refine no2 (k := ?_)
                    refine no2 (k := ?_)
                    refine no2 (k := ?_)
                    refine go2 (k := ?_)
                    refine hJ28 _ _ ?_
                    refine hK27 _ _ ?_
                    refine run_ret ?_
                    try simp only [Then, InBlock, NoGoto]
                    refine answer_tmp rfl (.inr rfl) ?_
                    exact gcr (hA := by simp only [putA_get]; simp [rightB, hkn, F]; exact Wk.refl _)
               try exact nope g8_14
               all_goals have g8_14p := g8_14
               all_goals try simp [F] at g8_14p
               all_goals
                replace F := And.intro g8_14 F
                try replace F := And.intro g8_14p F
                refine no2 (k := ?_)
                refine no2 (k := ?_)
                refine no2 (k := ?_)
                refine go2 (k := ?_)
                refine go2 (k := ?_)
                refine go2 (k := ?_)
                refine go2 (k := ?_)
                refine go2 (k := ?_)
                refine gs 88 (fun g8_24 => ?_) (fun g8_24 => ?_)
                · try exact nope g8_24
                  all_goals have g8_24p := g8_24
                  all_goals try simp [F] at g8_24p
                  all_goals
                   replace F := And.intro g8_24 F
                   try replace F := And.intro g8_24p F
                   refine go2 (k := ?_)
                   refine go2 (k := ?_)
                   refine go2 (k := ?_)
                   refine go2 (k := ?_)
                   refine go2 (k := ?_)
                   refine gs 93 (fun g8_29 => ?_) (fun g8_29 => ?_)
                   · try exact nope g8_29
                     all_goals have g8_29p := g8_29
                     all_goals try simp [F] at g8_29p
                     all_goals
                      replace F := And.intro g8_29 F
                      try replace F := And.intro g8_29p F
                      refine go2 (k := ?_)
                      refine go2 (k := ?_)
                      refine go2 (k := ?_)
                      refine go2 (k := ?_)
                      refine hJ28 _ _ ?_
                      refine hK27 _ _ ?_
                      refine run_ret ?_
                      try simp only [Then, InBlock, NoGoto]
                      refine answer_tmp rfl (.inr rfl) ?_
                      exact gcr (hA := by simp only [putA_get]; simp [rightB, hkn, F]; exact Wk.refl _)
                   try exact nope g8_29
                   all_goals have g8_29p := g8_29
                   all_goals try simp [F] at g8_29p
                   all_goals
                    replace F := And.intro g8_29 F
                    try replace F := And.intro g8_29p F
                    refine no2 (k := ?_)
                    refine no2 (k := ?_)
                    refine no2 (k := ?_)
                    refine go2 (k := ?_)
                    refine hJ28 _ _ ?_
                    refine hK27 _ _ ?_
                    refine run_ret ?_
                    try simp only [Then, InBlock, NoGoto]
                    refine answer_tmp rfl (.inr rfl) ?_
                    exact gcr (hA := by simp only [putA_get]; simp [rightB, hkn, F]; exact Wk.refl _)
                try exact nope g8_24
                all_goals have g8_24p := g8_24
                all_goals try simp [F] at g8_24p
                all_goals
                 replace F := And.intro g8_24 F
                 try replace F := And.intro g8_24p F
                 refine no2 (k := ?_)
                 refine no2 (k := ?_)
                 refine no2 (k := ?_)
                 refine go2 (k := ?_)
                 refine go2 (k := ?_)
                 refine no2 (k := ?_)
                 refine no2 (k := ?_)
                 refine no2 (k := ?_)
                 refine go2 (k := ?_)
                 refine hJ28 _ _ ?_
                 refine hK27 _ _ ?_
                 refine run_ret ?_
                 try simp only [Then, InBlock, NoGoto]
                 refine answer_tmp rfl (.inr rfl) ?_
                 exact gcr (hA := by simp only [putA_get]; simp [rightB, hkn, F]; exact Wk.refl _)
          try exact nope c59
          all_goals have c59p := c59
          all_goals try simp [F] at c59p
          all_goals
           replace F := And.intro c59 F
           try replace F := And.intro c59p F
           refine run_skip ?_
           refine hK19 _ _ ?_
           refine sq fun K29 hK29 => ?_
           refine sq fun K30 hK30 => ?_
           refine rg' (h := fun J31 hJ31 => ?_)
           refine gs 103 (fun g9_4 => ?_) (fun g9_4 => ?_)
           · try exact nope g9_4
             all_goals have g9_4p := g9_4
             all_goals try simp [F] at g9_4p
             all_goals
              replace F := And.intro g9_4 F
              try replace F := And.intro g9_4p F
              have n0 : pp = [] := by simpa using g9_4
              have n2 : perB ⟨pk, ps, pe, pt, []⟩ = false := by rw [← n0, hb]; simp [n0]
              replace F := And.intro n2 F
              refine no2 (k := ?_)
              refine no2 (k := ?_)
              refine no2 (k := ?_)
              refine no2 (k := ?_)
              refine no2 (k := ?_)
              refine no2 (k := ?_)
              refine no2 (k := ?_)
              refine no2 (k := ?_)
              refine no2 (k := ?_)
              refine hJ31 _ _ ?_
              refine hK30 _ _ ?_
              refine ct ?_
              refine sq fun K32 hK32 => ?_
              refine rg' (h := fun J33 hJ33 => ?_)
              refine hJ33 _ _ ?_
              refine hK32 _ _ ?_
              refine run_ret ?_
              try simp only [Then, InBlock, NoGoto]
              refine answer_tmp rfl (.inr rfl) ?_
              exact gcr (hA := by simp only [putA_get]; simp [rightB, hkn, F]; exact Wk.refl _)
           try exact nope g9_4
           all_goals have g9_4p := g9_4
           all_goals try simp [F] at g9_4p
           all_goals
            replace F := And.intro g9_4 F
            try replace F := And.intro g9_4p F
            refine go2 (k := ?_)
            refine go2 (k := ?_)
            refine go2 (k := ?_)
            refine go2 (k := ?_)
            refine gs 109 (fun g9_10 => ?_) (fun g9_10 => ?_)
            · try exact nope g9_10
              all_goals have g9_10p := g9_10
              all_goals try simp [F] at g9_10p
              all_goals
               replace F := And.intro g9_10 F
               try replace F := And.intro g9_10p F
               have n1 : ¬ pp.length ≤ 16 := by have h := g9_10; simp at h; omega
               have n2 : perB ⟨pk, ps, pe, pt, pp⟩ = false := by rw [hb]; simp [n1]
               replace F := And.intro n2 F
               refine no2 (k := ?_)
               refine no2 (k := ?_)
               refine no2 (k := ?_)
               refine no2 (k := ?_)
               refine no2 (k := ?_)
               refine hJ31 _ _ ?_
               refine hK30 _ _ ?_
               refine ct ?_
               refine sq fun K34 hK34 => ?_
               refine rg' (h := fun J35 hJ35 => ?_)
               refine hJ35 _ _ ?_
               refine hK34 _ _ ?_
               refine run_ret ?_
               try simp only [Then, InBlock, NoGoto]
               refine answer_tmp rfl (.inr rfl) ?_
               exact gcr (hA := by simp only [putA_get]; simp [rightB, hkn, F]; exact Wk.refl _)
            try exact nope g9_10
            all_goals have g9_10p := g9_10
            all_goals try simp [F] at g9_10p
            all_goals
             replace F := And.intro g9_10 F
             try replace F := And.intro g9_10p F
             refine go2 (k := ?_)
             refine go2 (k := ?_)
             refine go2 (k := ?_)
             refine go2 (k := ?_)
             refine go2 (k := ?_)
             refine hJ31 _ _ ?_
             refine hK30 _ _ ?_
             refine cs (fun c115 => ?_) (fun c115 => ?_)
             · try exact nope c115
               all_goals have c115p := c115
               all_goals try simp [F] at c115p
               all_goals
                replace F := And.intro c115 F
                try replace F := And.intro c115p F
                have n1 : pp = [] ∨ ¬ pp.length ≤ 16 ∨ ¬ ps ≤ pe := by first | (have h := c115; simp at h; omega) | (have h := g9_10; simp at h; omega) | exact .inl (by simpa using g9_4)
                have n2 : perB ⟨pk, ps, pe, pt, pp⟩ = false := by rw [hb]; rcases n1 with h | h | h <;> simp [h]
                replace F := And.intro n2 F
                refine sq fun K36 hK36 => ?_
                refine rg' (h := fun J37 hJ37 => ?_)
                refine hJ37 _ _ ?_
                refine hK36 _ _ ?_
                refine run_ret ?_
                try simp only [Then, InBlock, NoGoto]
                refine answer_tmp rfl (.inr rfl) ?_
                exact gcr (hA := by simp only [putA_get]; simp [rightB, hkn, F]; exact Wk.refl _)
             try exact nope c115
             all_goals have c115p := c115
             all_goals try simp [F] at c115p
             all_goals
              replace F := And.intro c115 F
              try replace F := And.intro c115p F
              refine run_skip ?_
              refine hK29 _ _ ?_
              refine sq fun K38 hK38 => ?_
              have hse : ps ≤ pe := by have h := c115; simp at h; omega
              have hp16 : pp.length ≤ 16 := by have h := g9_10; simp at h; omega
              have hpn : ¬ pp = [] := by simp [F]
              have hpB : perB ⟨pk, ps, pe, pt, pp⟩ = decide (perOk2 pp (pe - ps) [] = some (0, pt)) := by rw [hb]; simp [hse, hp16, hpn]
              have hw0 : IntKind.u64.wrap ((pe : Int) - ps) = ((pe - ps : Nat) : Int) := by rw [wrap_u64c (by omega)]; omega
              replace F := And.intro hpB (And.intro hw0 F)
              refine rg' (h := fun J39 hJ39 => ?_)
              refine hJ39 _ _ ?_
              refine hK38 _ _ ?_
              refine sq fun K40 hK40 => ?_
              refine rg' (h := fun J41 hJ41 => ?_)
              refine hJ41 _ _ ?_
              refine hK40 _ _ ?_
              refine sq fun K42 hK42 => ?_
              refine sq fun K43 hK43 => ?_
              refine run_nilsh 4 5 (k := ?_)
              refine rg' (h := fun J44 hJ44 => ?_)
              refine hJ44 _ _ ?_
              refine hK43 _ _ ?_
              refine run_block_k ?_
              refine run_loopG (X := PerQ) [1] (fun q ρ σ1 => (q.i ≤ pp.length) ∧ (perOk2 pp (pe - ps) [] = perOk2 (pp.drop q.i) q.e q.a) ∧ (q.e < 2 ^ 64) ∧ (Right q.a) ∧ (ρ 3 = .v (.int .u64 q.e)) ∧ (ρ 4 = .sl 5 (coinsC q.a) q.a.length .shut) ∧ (ρ 5 = .v (.int .i64 q.i)) ∧ (σ1 = { σ with objs := σ.objs ++ [[.v (.int .u8 pk.toNat), .v (.int .u64 ps), .v (.int .u64 pe), .sl 5 (coinsC pt) pt.length .shut, .sl 2 (persC pp) pp.length .shut]] })) (fun q => pp.length - q.i) (⟨0, pe - ps, []⟩) ?st1 ?rd1
              case st1 =>
               refine ⟨lp, ?_, lp, ?_, lp, lp, lp, ?_⟩
               · rfl
               · exact Go.Vm.right_nil
               · simp [F]
              case rd1 =>
               rintro q ρ1 σ1 hF1 ⟨hi, hE, hqe, hqr, h3, h4, h17, hσ⟩
               obtain rfl := hσ.symm
               have f1 := keepL hF1
               try simp [KeepL, F] at f1
               replace F := And.intro h3 F
               replace F := And.intro h4 F
               replace F := And.intro h17 F
               try replace F := And.intro f1 F
               refine sq fun K45 hK45 => ?_
               refine sq fun K46 hK46 => ?_
               refine rg' (h := fun J47 hJ47 => ?_)
               refine hJ47 _ _ ?_
               refine hK46 _ _ ?_
               refine cs (fun c125 => ?_) (fun c125 => ?_)
               · try exact nope c125
                 all_goals have c125p := c125
                 all_goals try simp [F] at c125p
                 all_goals
                  replace F := And.intro c125 F
                  try replace F := And.intro c125p F
                  refine run_skip ?_
                  refine hK45 _ _ ?_
                  refine sq fun K48 hK48 => ?_
                  refine run_block_k ?_
                  refine sq fun K49 hK49 => ?_
                  obtain ⟨i, E, S⟩ := q
                  simp only at hi hE hqe hqr h3 h4 h17
                  have hlt : i < pp.length := by simp at c125; omega
                  have hat := persC_at hlt
                  have hb1 : i * 2 + 2 ≤ pp.length * 2 := by omega
                  have hx5 := h5 _ (List.getElem_mem hlt)
                  have hcons : pp.drop i = pp[i] :: pp.drop (i + 1) := List.drop_eq_getElem_cons hlt
                  obtain ⟨x, hx⟩ : ∃ x, x = pp[i] := ⟨_, rfl⟩
                  rw [← hx] at hat hx5 hcons
                  rw [hcons] at hE
                  obtain ⟨xl, xc⟩ := x
                  obtain ⟨hxl, hxc⟩ := hx5
                  simp only at hxl hxc
                  simp only [perOk2] at hE
                  have hnilx : ((xc.length : Int) == 0) = decide (xc = []) := by cases xc <;> simp <;> omega
                  replace F := And.intro hlt F
                  replace F := And.intro hat F
                  replace F := And.intro hb1 F
                  replace F := And.intro hnilx F
                  refine rg' (h := fun J50 hJ50 => ?_)
                  refine hJ50 _ _ ?_
                  refine hK49 _ _ ?_
                  refine sq fun K51 hK51 => ?_
                  refine sq fun K52 hK52 => ?_
                  refine rg' (h := fun J53 hJ53 => ?_)
                  refine gs 136 (fun g17_3 => ?_) (fun g17_3 => ?_)
                  · try exact nope g17_3
                    all_goals have g17_3p := g17_3
                    all_goals try simp [F] at g17_3p
                    all_goals
                     replace F := And.intro g17_3 F
                     try replace F := And.intro g17_3p F
                     have hbad : perOk2 pp (pe - ps) [] = none := by rw [hE]; exact if_pos (.inl (by have h := g17_3; simp at h; omega))
                     replace F := And.intro hbad F
                     refine no2 (k := ?_)
                     refine no2 (k := ?_)
                     refine no2 (k := ?_)
                     refine no2 (k := ?_)
                     refine no2 (k := ?_)
                     refine no2 (k := ?_)
                     refine no2 (k := ?_)
                     refine no2 (k := ?_)
                     refine no2 (k := ?_)
                     refine no2 (k := ?_)
                     refine no2 (k := ?_)
                     refine no2 (k := ?_)
                     refine hJ53 _ _ ?_
                     refine hK52 _ _ ?_
                     refine ct ?_
                     refine sq fun K54 hK54 => ?_
                     refine rg' (h := fun J55 hJ55 => ?_)
                     refine hJ55 _ _ ?_
                     refine hK54 _ _ ?_
                     refine run_ret ?_
                     try simp only [Then, InBlock, NoGoto]
                     refine answer_tmp rfl (.inr rfl) ?_
                     exact gcr (hA := by simp only [putA_get]; simp [rightB, hkn, F]; exact Wk.refl _)
                  try exact nope g17_3
                  all_goals have g17_3p := g17_3
                  all_goals try simp [F] at g17_3p
                  all_goals
                   replace F := And.intro g17_3 F
                   try replace F := And.intro g17_3p F
                   refine go2 (k := ?_)
                   refine go2 (k := ?_)
                   refine go2 (k := ?_)
                   refine go2 (k := ?_)
                   refine gs 142 (fun g17_9 => ?_) (fun g17_9 => ?_)
                   · try exact nope g17_9
                     all_goals have g17_9p := g17_9
                     all_goals try simp [F] at g17_9p
                     all_goals
                      replace F := And.intro g17_9 F
                      try replace F := And.intro g17_9p F
                      have hbad : perOk2 pp (pe - ps) [] = none := by rw [hE]; exact if_pos (.inr (.inl (by have h := g17_9; simp at h; omega)))
                      replace F := And.intro hbad F
                      refine no2 (k := ?_)
                      refine no2 (k := ?_)
                      refine no2 (k := ?_)
                      refine no2 (k := ?_)
                      refine no2 (k := ?_)
                      refine no2 (k := ?_)
                      refine no2 (k := ?_)
                      refine no2 (k := ?_)
                      refine hJ53 _ _ ?_
                      refine hK52 _ _ ?_
                      refine ct ?_
                      refine sq fun K56 hK56 => ?_
                      refine rg' (h := fun J57 hJ57 => ?_)
                      refine hJ57 _ _ ?_
                      refine hK56 _ _ ?_
                      refine run_ret ?_
                      try simp only [Then, InBlock, NoGoto]
                      refine answer_tmp rfl (.inr rfl) ?_
                      exact gcr (hA := by simp only [putA_get]; simp [rightB, hkn, F]; exact Wk.refl _)
                   try exact nope g17_9
                   all_goals have g17_9p := g17_9
                   all_goals try simp [F] at g17_9p
                   all_goals
                    replace F := And.intro g17_9 F
                    try replace F := And.intro g17_9p F
                    refine go2 (k := ?_)
                    refine go2 (k := ?_)
                    refine go2 (k := ?_)
                    refine go2 (k := ?_)
                    refine gs 148 (fun g17_15 => ?_) (fun g17_15 => ?_)
                    · try exact nope g17_15
                      all_goals have g17_15p := g17_15
                      all_goals try simp [F] at g17_15p
                      all_goals
                       replace F := And.intro g17_15 F
                       try replace F := And.intro g17_15p F
                       have hbad : perOk2 pp (pe - ps) [] = none := by rw [hE]; exact if_pos (.inr (.inr (.inl (by simpa using g17_15))))
                       replace F := And.intro hbad F
                       refine no2 (k := ?_)
                       refine no2 (k := ?_)
                       refine no2 (k := ?_)
                       refine no2 (k := ?_)
                       refine hJ53 _ _ ?_
                       refine hK52 _ _ ?_
                       refine ct ?_
                       refine sq fun K58 hK58 => ?_
                       refine rg' (h := fun J59 hJ59 => ?_)
                       refine hJ59 _ _ ?_
                       refine hK58 _ _ ?_
                       refine run_ret ?_
                       try simp only [Then, InBlock, NoGoto]
                       refine answer_tmp rfl (.inr rfl) ?_
                       exact gcr (hA := by simp only [putA_get]; simp [rightB, hkn, F]; exact Wk.refl _)
                    try exact nope g17_15
                    all_goals have g17_15p := g17_15
                    all_goals try simp [F] at g17_15p
                    all_goals
                     replace F := And.intro g17_15 F
                     try replace F := And.intro g17_15p F
                     refine go2 (k := ?_)
                     refine go2 (k := ?_)
                     refine ca (c := rright_ok hxc) (k := ?_)
                     rintro _ _ ⟨rfl, rfl⟩
                     repeat (first | simp [F] | simp (disch := omega) only [wC, if_pos, if_neg])
                     refine go2 (k := ?_)
                     refine hJ53 _ _ ?_
                     refine hK52 _ _ ?_
                     refine cs (fun c153 => ?_) (fun c153 => ?_)
                     · try exact nope c153
                       all_goals have c153p := c153
                       all_goals try simp [F] at c153p
                       all_goals
                        replace F := And.intro c153 F
                        try replace F := And.intro c153p F
                        have hbad : perOk2 pp (pe - ps) [] = none := by rw [hE]; exact if_pos (.inr (.inr (.inr (by simpa using c153))))
                        replace F := And.intro hbad F
                        refine sq fun K60 hK60 => ?_
                        refine rg' (h := fun J61 hJ61 => ?_)
                        refine hJ61 _ _ ?_
                        refine hK60 _ _ ?_
                        refine run_ret ?_
                        try simp only [Then, InBlock, NoGoto]
                        refine answer_tmp rfl (.inr rfl) ?_
                        exact gcr (hA := by simp only [putA_get]; simp [rightB, hkn, F]; exact Wk.refl _)
                     try exact nope c153
                     all_goals have c153p := c153
                     all_goals try simp [F] at c153p
                     all_goals
                      replace F := And.intro c153 F
                      try replace F := And.intro c153p F
                      have n1 : ¬ xl = 0 := by have h := g17_3; simp at h; omega
                      have n2 : ¬ E < xl := by have h := g17_9; simp at h; omega
                      have n3 : ¬ xc = [] := by simpa using g17_15
                      have hxr : Right xc := by simpa using c153
                      have hgood : ¬ (xl = 0 ∨ E < xl ∨ xc = [] ∨ ¬ Right xc) := fun h => h.elim n1 (fun h => h.elim n2 (fun h => h.elim n3 (fun h => h hxr)))
                      have hw2 : E - xl < 2 ^ 64 := by omega
                      obtain ⟨S2, hS2⟩ : ∃ S2, S2 = cAddL S xc := ⟨_, rfl⟩
                      have hS2r : Right S2 := by rw [hS2]; exact right_cAdd _ _
                      rw [← hS2] at hE
                      rw [if_neg hgood] at hE
                      have hw : IntKind.u64.wrap ((E : Int) - xl) = ((E - xl : Nat) : Int) := by rw [wrap_u64c (by omega)]; omega
                      replace F := And.intro hw F
                      refine run_skip ?_
                      refine hK51 _ _ ?_
                      refine sq fun K62 hK62 => ?_
                      refine rg' (h := fun J63 hJ63 => ?_)
                      refine hJ63 _ _ ?_
                      refine hK62 _ _ ?_
                      refine sq fun K64 hK64 => ?_
                      refine rg' (h := fun J65 hJ65 => ?_)
                      refine ca (c := (hS2 ▸ rpadd_ok hqr hxr)) (k := ?_)
                      rintro _ _ ⟨rfl, rfl⟩
                      repeat (first | simp [F] | simp (disch := omega) only [wC, if_pos, if_neg])
                      refine hJ65 _ _ ?_
                      refine hK64 _ _ ?_
                      refine sq fun K66 hK66 => ?_
                      refine sq fun K67 hK67 => ?_
                      refine rg' (h := fun J68 hJ68 => ?_)
                      refine hJ68 _ _ ?_
                      refine hK67 _ _ ?_
                      refine cs (fun c166 => ?_) (fun c166 => ?_)
                      · try exact nope c166
                        all_goals have c166p := c166
                        all_goals try simp [F] at c166p
                        all_goals
                         replace F := And.intro c166 F
                         try replace F := And.intro c166p F
                         have hne : ¬ cAddE S xc = 0 := by simpa using c166
                         rw [if_neg hne] at hE
                         replace F := And.intro hE F
                         refine sq fun K69 hK69 => ?_
                         refine rg' (h := fun J70 hJ70 => ?_)
                         refine hJ70 _ _ ?_
                         refine hK69 _ _ ?_
                         refine run_ret ?_
                         try simp only [Then, InBlock, NoGoto]
                         refine answer_tmp rfl (.inr rfl) ?_
                         exact gcr (hA := by simp only [putA_get]; simp [rightB, hkn, F]; exact Wk.refl _)
                      try exact nope c166
                      all_goals have c166p := c166
                      all_goals try simp [F] at c166p
                      all_goals
                       replace F := And.intro c166 F
                       try replace F := And.intro c166p F
                       have hye : cAddE S xc = 0 := by simpa using c166
                       rw [if_pos hye] at hE
                       refine run_skip ?_
                       refine hK66 _ _ ?_
                       refine rg' (h := fun J71 hJ71 => ?_)
                       refine hJ71 _ _ ?_
                       refine hK48 _ _ ?_
                       refine rg' (h := fun J72 hJ72 => ?_)
                       refine hJ72 _ _ ?_
                       refine ⟨gk, (⟨i + 1, E - xl, S2⟩), ⟨kpG, lpG, ?_, ?_, ?_, lpG, lpG, lpG, lpG⟩, lpG⟩
                       · exact hE
                       · exact hw2
                       · exact hS2r
               try exact nope c125
               all_goals have c125p := c125
               all_goals try simp [F] at c125p
               all_goals
                replace F := And.intro c125 F
                try replace F := And.intro c125p F
                have hend : perOk2 pp (pe - ps) [] = some (q.e, q.a) := by rw [hE, List.drop_of_length_le (by have h := c125; simp at h; omega)]; rfl
                replace F := And.intro hend F
                refine run_exit ?_
                refine hK42 _ _ ?_
                refine sq fun K73 hK73 => ?_
                refine rg' (h := fun J74 hJ74 => ?_)
                refine gs 170 (fun g24_2 => ?_) (fun g24_2 => ?_)
                · try exact nope g24_2
                  all_goals have g24_2p := g24_2
                  all_goals try simp [F] at g24_2p
                  all_goals
                   replace F := And.intro g24_2 F
                   try replace F := And.intro g24_2p F
                   have hee : q.e = 0 := by have h := g24_2; simp at h; omega
                   replace F := And.intro hee F
                   refine go2 (k := ?_)
                   refine go2 (k := ?_)
                   refine go2 (k := ?_)
                   refine ca (c := rsame_ok (by have := right_len hqr; omega) k3) (k := ?_)
                   rintro _ _ ⟨rfl, rfl⟩
                   repeat (first | simp [F] | simp (disch := omega) only [wC, if_pos, if_neg])
                   refine hJ74 _ _ ?_
                   refine hK73 _ _ ?_
                   refine run_ret ?_
                   try simp only [Then, InBlock, NoGoto]
                   refine answer_tmp rfl (.inr rfl) ?_
                   exact gcr (hA := by simp only [putA_get]; simp [rightB, hkn, F]; exact Wk.refl _)
                try exact nope g24_2
                all_goals have g24_2p := g24_2
                all_goals try simp [F] at g24_2p
                all_goals
                 replace F := And.intro g24_2 F
                 try replace F := And.intro g24_2p F
                 have hee : ¬ q.e = 0 := by have h := g24_2; simp at h; omega
                 replace F := And.intro hee F
                 refine no2 (k := ?_)
                 refine no2 (k := ?_)
                 refine no2 (k := ?_)
                 refine no2 (k := ?_)
                 refine hJ74 _ _ ?_
                 refine hK73 _ _ ?_
                 refine run_ret ?_
                 try simp only [Then, InBlock, NoGoto]
                 refine answer_tmp rfl (.inr rfl) ?_
                 exact gcr (hA := by simp only [putA_get]; simp [rightB, hkn, F]; exact Wk.refl _)
       try exact nope g5_3
       all_goals have g5_3p := g5_3
       all_goals try simp [F] at g5_3p
       all_goals
        replace F := And.intro g5_3 F
        try replace F := And.intro g5_3p F
        refine no2 (k := ?_)
        refine no2 (k := ?_)
        refine no2 (k := ?_)
        refine hJ21 _ _ ?_
        refine hK20 _ _ ?_
        refine cf ?_
        refine run_skip ?_
        refine hK19 _ _ ?_
        refine sq fun K75 hK75 => ?_
        refine sq fun K76 hK76 => ?_
        refine rg' (h := fun J77 hJ77 => ?_)
        refine gs 103 (fun g9_4 => ?_) (fun g9_4 => ?_)
        · try exact nope g9_4
          all_goals have g9_4p := g9_4
          all_goals try simp [F] at g9_4p
          all_goals
           replace F := And.intro g9_4 F
           try replace F := And.intro g9_4p F
           have n0 : pp = [] := by simpa using g9_4
           have n2 : perB ⟨pk, ps, pe, pt, []⟩ = false := by rw [← n0, hb]; simp [n0]
           replace F := And.intro n2 F
           refine no2 (k := ?_)
           refine no2 (k := ?_)
           refine no2 (k := ?_)
           refine no2 (k := ?_)
           refine no2 (k := ?_)
           refine no2 (k := ?_)
           refine no2 (k := ?_)
           refine no2 (k := ?_)
           refine no2 (k := ?_)
           refine hJ77 _ _ ?_
           refine hK76 _ _ ?_
           refine ct ?_
           refine sq fun K78 hK78 => ?_
           refine rg' (h := fun J79 hJ79 => ?_)
           refine hJ79 _ _ ?_
           refine hK78 _ _ ?_
           refine run_ret ?_
           try simp only [Then, InBlock, NoGoto]
           refine answer_tmp rfl (.inr rfl) ?_
           exact gcr (hA := by simp only [putA_get]; simp [rightB, hkn, F]; exact Wk.refl _)
        try exact nope g9_4
        all_goals have g9_4p := g9_4
        all_goals try simp [F] at g9_4p
        all_goals
         replace F := And.intro g9_4 F
         try replace F := And.intro g9_4p F
         refine go2 (k := ?_)
         refine go2 (k := ?_)
         refine go2 (k := ?_)
         refine go2 (k := ?_)
         refine gs 109 (fun g9_10 => ?_) (fun g9_10 => ?_)
         · try exact nope g9_10
           all_goals have g9_10p := g9_10
           all_goals try simp [F] at g9_10p
           all_goals
            replace F := And.intro g9_10 F
            try replace F := And.intro g9_10p F
            have n1 : ¬ pp.length ≤ 16 := by have h := g9_10; simp at h; omega
            have n2 : perB ⟨pk, ps, pe, pt, pp⟩ = false := by rw [hb]; simp [n1]
            replace F := And.intro n2 F
            refine no2 (k := ?_)
            refine no2 (k := ?_)
            refine no2 (k := ?_)
            refine no2 (k := ?_)
            refine no2 (k := ?_)
            refine hJ77 _ _ ?_
            refine hK76 _ _ ?_
            refine ct ?_
            refine sq fun K80 hK80 => ?_
            refine rg' (h := fun J81 hJ81 => ?_)
            refine hJ81 _ _ ?_
            refine hK80 _ _ ?_
            refine run_ret ?_
            try simp only [Then, InBlock, NoGoto]
            refine answer_tmp rfl (.inr rfl) ?_
            exact gcr (hA := by simp only [putA_get]; simp [rightB, hkn, F]; exact Wk.refl _)
         try exact nope g9_10
         all_goals have g9_10p := g9_10
         all_goals try simp [F] at g9_10p
         all_goals
          replace F := And.intro g9_10 F
          try replace F := And.intro g9_10p F
          refine go2 (k := ?_)
          refine go2 (k := ?_)
          refine go2 (k := ?_)
          refine go2 (k := ?_)
          refine go2 (k := ?_)
          refine hJ77 _ _ ?_
          refine hK76 _ _ ?_
          refine cs (fun c115 => ?_) (fun c115 => ?_)
          · try exact nope c115
            all_goals have c115p := c115
            all_goals try simp [F] at c115p
            all_goals
             replace F := And.intro c115 F
             try replace F := And.intro c115p F
             have n1 : pp = [] ∨ ¬ pp.length ≤ 16 ∨ ¬ ps ≤ pe := by first | (have h := c115; simp at h; omega) | (have h := g9_10; simp at h; omega) | exact .inl (by simpa using g9_4)
             have n2 : perB ⟨pk, ps, pe, pt, pp⟩ = false := by rw [hb]; rcases n1 with h | h | h <;> simp [h]
             replace F := And.intro n2 F
             refine sq fun K82 hK82 => ?_
             refine rg' (h := fun J83 hJ83 => ?_)
             refine hJ83 _ _ ?_
             refine hK82 _ _ ?_
             refine run_ret ?_
             try simp only [Then, InBlock, NoGoto]
             refine answer_tmp rfl (.inr rfl) ?_
             exact gcr (hA := by simp only [putA_get]; simp [rightB, hkn, F]; exact Wk.refl _)
          try exact nope c115
          all_goals have c115p := c115
          all_goals try simp [F] at c115p
          all_goals
           replace F := And.intro c115 F
           try replace F := And.intro c115p F
           refine run_skip ?_
           refine hK75 _ _ ?_
           refine sq fun K84 hK84 => ?_
           have hse : ps ≤ pe := by have h := c115; simp at h; omega
           have hp16 : pp.length ≤ 16 := by have h := g9_10; simp at h; omega
           have hpn : ¬ pp = [] := by simp [F]
           have hpB : perB ⟨pk, ps, pe, pt, pp⟩ = decide (perOk2 pp (pe - ps) [] = some (0, pt)) := by rw [hb]; simp [hse, hp16, hpn]
           have hw0 : IntKind.u64.wrap ((pe : Int) - ps) = ((pe - ps : Nat) : Int) := by rw [wrap_u64c (by omega)]; omega
           replace F := And.intro hpB (And.intro hw0 F)
           refine rg' (h := fun J85 hJ85 => ?_)
           refine hJ85 _ _ ?_
           refine hK84 _ _ ?_
           refine sq fun K86 hK86 => ?_
           refine rg' (h := fun J87 hJ87 => ?_)
           refine hJ87 _ _ ?_
           refine hK86 _ _ ?_
           refine sq fun K88 hK88 => ?_
           refine sq fun K89 hK89 => ?_
           refine run_nilsh 4 5 (k := ?_)
           refine rg' (h := fun J90 hJ90 => ?_)
           refine hJ90 _ _ ?_
           refine hK89 _ _ ?_
           refine run_block_k ?_
           refine run_loopG (X := PerQ) [1] (fun q ρ σ1 => (q.i ≤ pp.length) ∧ (perOk2 pp (pe - ps) [] = perOk2 (pp.drop q.i) q.e q.a) ∧ (q.e < 2 ^ 64) ∧ (Right q.a) ∧ (ρ 3 = .v (.int .u64 q.e)) ∧ (ρ 4 = .sl 5 (coinsC q.a) q.a.length .shut) ∧ (ρ 5 = .v (.int .i64 q.i)) ∧ (σ1 = { σ with objs := σ.objs ++ [[.v (.int .u8 pk.toNat), .v (.int .u64 ps), .v (.int .u64 pe), .sl 5 (coinsC pt) pt.length .shut, .sl 2 (persC pp) pp.length .shut]] })) (fun q => pp.length - q.i) (⟨0, pe - ps, []⟩) ?st1 ?rd1
           case st1 =>
            refine ⟨lp, ?_, lp, ?_, lp, lp, lp, ?_⟩
            · rfl
            · exact Go.Vm.right_nil
            · simp [F]
           case rd1 =>
            rintro q ρ1 σ1 hF1 ⟨hi, hE, hqe, hqr, h3, h4, h17, hσ⟩
            obtain rfl := hσ.symm
            have f1 := keepL hF1
            try simp [KeepL, F] at f1
            replace F := And.intro h3 F
            replace F := And.intro h4 F
            replace F := And.intro h17 F
            try replace F := And.intro f1 F
            refine sq fun K91 hK91 => ?_
            refine sq fun K92 hK92 => ?_
            refine rg' (h := fun J93 hJ93 => ?_)
            refine hJ93 _ _ ?_
            refine hK92 _ _ ?_
            refine cs (fun c125 => ?_) (fun c125 => ?_)
            · try exact nope c125
              all_goals have c125p := c125
              all_goals try simp [F] at c125p
              all_goals
               replace F := And.intro c125 F
               try replace F := And.intro c125p F
               refine run_skip ?_
               refine hK91 _ _ ?_
               refine sq fun K94 hK94 => ?_
               refine run_block_k ?_
               refine sq fun K95 hK95 => ?_
               obtain ⟨i, E, S⟩ := q
               simp only at hi hE hqe hqr h3 h4 h17
               have hlt : i < pp.length := by simp at c125; omega
               have hat := persC_at hlt
               have hb1 : i * 2 + 2 ≤ pp.length * 2 := by omega
               have hx5 := h5 _ (List.getElem_mem hlt)
               have hcons : pp.drop i = pp[i] :: pp.drop (i + 1) := List.drop_eq_getElem_cons hlt
               obtain ⟨x, hx⟩ : ∃ x, x = pp[i] := ⟨_, rfl⟩
               rw [← hx] at hat hx5 hcons
               rw [hcons] at hE
               obtain ⟨xl, xc⟩ := x
               obtain ⟨hxl, hxc⟩ := hx5
               simp only at hxl hxc
               simp only [perOk2] at hE
               have hnilx : ((xc.length : Int) == 0) = decide (xc = []) := by cases xc <;> simp <;> omega
               replace F := And.intro hlt F
               replace F := And.intro hat F
               replace F := And.intro hb1 F
               replace F := And.intro hnilx F
               refine rg' (h := fun J96 hJ96 => ?_)
               refine hJ96 _ _ ?_
               refine hK95 _ _ ?_
               refine sq fun K97 hK97 => ?_
               refine sq fun K98 hK98 => ?_
               refine rg' (h := fun J99 hJ99 => ?_)
               refine gs 136 (fun g17_3 => ?_) (fun g17_3 => ?_)
               · try exact nope g17_3
                 all_goals have g17_3p := g17_3
                 all_goals try simp [F] at g17_3p
                 all_goals
                  replace F := And.intro g17_3 F
                  try replace F := And.intro g17_3p F
                  have hbad : perOk2 pp (pe - ps) [] = none := by rw [hE]; exact if_pos (.inl (by have h := g17_3; simp at h; omega))
                  replace F := And.intro hbad F
                  refine no2 (k := ?_)
                  refine no2 (k := ?_)
                  refine no2 (k := ?_)
                  refine no2 (k := ?_)
                  refine no2 (k := ?_)
                  refine no2 (k := ?_)
                  refine no2 (k := ?_)
                  refine no2 (k := ?_)
                  refine no2 (k := ?_)
                  refine no2 (k := ?_)
                  refine no2 (k := ?_)
                  refine no2 (k := ?_)
                  refine hJ99 _ _ ?_
                  refine hK98 _ _ ?_
                  refine ct ?_
                  refine sq fun K100 hK100 => ?_
                  refine rg' (h := fun J101 hJ101 => ?_)
                  refine hJ101 _ _ ?_
                  refine hK100 _ _ ?_
                  refine run_ret ?_
                  try simp only [Then, InBlock, NoGoto]
                  refine answer_tmp rfl (.inr rfl) ?_
                  exact gcr (hA := by simp only [putA_get]; simp [rightB, hkn, F]; exact Wk.refl _)
               try exact nope g17_3
               all_goals have g17_3p := g17_3
               all_goals try simp [F] at g17_3p
               all_goals
                replace F := And.intro g17_3 F
                try replace F := And.intro g17_3p F
                refine go2 (k := ?_)
                refine go2 (k := ?_)
                refine go2 (k := ?_)
                refine go2 (k := ?_)
                refine gs 142 (fun g17_9 => ?_) (fun g17_9 => ?_)
                · try exact nope g17_9
                  all_goals have g17_9p := g17_9
                  all_goals try simp [F] at g17_9p
                  all_goals
                   replace F := And.intro g17_9 F
                   try replace F := And.intro g17_9p F
                   have hbad : perOk2 pp (pe - ps) [] = none := by rw [hE]; exact if_pos (.inr (.inl (by have h := g17_9; simp at h; omega)))
                   replace F := And.intro hbad F
                   refine no2 (k := ?_)
                   refine no2 (k := ?_)
                   refine no2 (k := ?_)
                   refine no2 (k := ?_)
                   refine no2 (k := ?_)
                   refine no2 (k := ?_)
                   refine no2 (k := ?_)
                   refine no2 (k := ?_)
                   refine hJ99 _ _ ?_
                   refine hK98 _ _ ?_
                   refine ct ?_
                   refine sq fun K102 hK102 => ?_
                   refine rg' (h := fun J103 hJ103 => ?_)
                   refine hJ103 _ _ ?_
                   refine hK102 _ _ ?_
                   refine run_ret ?_
                   try simp only [Then, InBlock, NoGoto]
                   refine answer_tmp rfl (.inr rfl) ?_
                   exact gcr (hA := by simp only [putA_get]; simp [rightB, hkn, F]; exact Wk.refl _)
                try exact nope g17_9
                all_goals have g17_9p := g17_9
                all_goals try simp [F] at g17_9p
                all_goals
                 replace F := And.intro g17_9 F
                 try replace F := And.intro g17_9p F
                 refine go2 (k := ?_)
                 refine go2 (k := ?_)
                 refine go2 (k := ?_)
                 refine go2 (k := ?_)
                 refine gs 148 (fun g17_15 => ?_) (fun g17_15 => ?_)
                 · try exact nope g17_15
                   all_goals have g17_15p := g17_15
                   all_goals try simp [F] at g17_15p
                   all_goals
                    replace F := And.intro g17_15 F
                    try replace F := And.intro g17_15p F
                    have hbad : perOk2 pp (pe - ps) [] = none := by rw [hE]; exact if_pos (.inr (.inr (.inl (by simpa using g17_15))))
                    replace F := And.intro hbad F
                    refine no2 (k := ?_)
                    refine no2 (k := ?_)
                    refine no2 (k := ?_)
                    refine no2 (k := ?_)
                    refine hJ99 _ _ ?_
                    refine hK98 _ _ ?_
                    refine ct ?_
                    refine sq fun K104 hK104 => ?_
                    refine rg' (h := fun J105 hJ105 => ?_)
                    refine hJ105 _ _ ?_
                    refine hK104 _ _ ?_
                    refine run_ret ?_
                    try simp only [Then, InBlock, NoGoto]
                    refine answer_tmp rfl (.inr rfl) ?_
                    exact gcr (hA := by simp only [putA_get]; simp [rightB, hkn, F]; exact Wk.refl _)
                 try exact nope g17_15
                 all_goals have g17_15p := g17_15
                 all_goals try simp [F] at g17_15p
                 all_goals
                  replace F := And.intro g17_15 F
                  try replace F := And.intro g17_15p F
                  refine go2 (k := ?_)
                  refine go2 (k := ?_)
                  refine ca (c := rright_ok hxc) (k := ?_)
                  rintro _ _ ⟨rfl, rfl⟩
                  repeat (first | simp [F] | simp (disch := omega) only [wC, if_pos, if_neg])
                  refine go2 (k := ?_)
                  refine hJ99 _ _ ?_
                  refine hK98 _ _ ?_
                  refine cs (fun c153 => ?_) (fun c153 => ?_)
                  · try exact nope c153
                    all_goals have c153p := c153
                    all_goals try simp [F] at c153p
                    all_goals
                     replace F := And.intro c153 F
                     try replace F := And.intro c153p F
                     have hbad : perOk2 pp (pe - ps) [] = none := by rw [hE]; exact if_pos (.inr (.inr (.inr (by simpa using c153))))
                     replace F := And.intro hbad F
                     refine sq fun K106 hK106 => ?_
                     refine rg' (h := fun J107 hJ107 => ?_)
                     refine hJ107 _ _ ?_
                     refine hK106 _ _ ?_
                     refine run_ret ?_
                     try simp only [Then, InBlock, NoGoto]
                     refine answer_tmp rfl (.inr rfl) ?_
                     exact gcr (hA := by simp only [putA_get]; simp [rightB, hkn, F]; exact Wk.refl _)
                  try exact nope c153
                  all_goals have c153p := c153
                  all_goals try simp [F] at c153p
                  all_goals
                   replace F := And.intro c153 F
                   try replace F := And.intro c153p F
                   have n1 : ¬ xl = 0 := by have h := g17_3; simp at h; omega
                   have n2 : ¬ E < xl := by have h := g17_9; simp at h; omega
                   have n3 : ¬ xc = [] := by simpa using g17_15
                   have hxr : Right xc := by simpa using c153
                   have hgood : ¬ (xl = 0 ∨ E < xl ∨ xc = [] ∨ ¬ Right xc) := fun h => h.elim n1 (fun h => h.elim n2 (fun h => h.elim n3 (fun h => h hxr)))
                   have hw2 : E - xl < 2 ^ 64 := by omega
                   obtain ⟨S2, hS2⟩ : ∃ S2, S2 = cAddL S xc := ⟨_, rfl⟩
                   have hS2r : Right S2 := by rw [hS2]; exact right_cAdd _ _
                   rw [← hS2] at hE
                   rw [if_neg hgood] at hE
                   have hw : IntKind.u64.wrap ((E : Int) - xl) = ((E - xl : Nat) : Int) := by rw [wrap_u64c (by omega)]; omega
                   replace F := And.intro hw F
                   refine run_skip ?_
                   refine hK97 _ _ ?_
                   refine sq fun K108 hK108 => ?_
                   refine rg' (h := fun J109 hJ109 => ?_)
                   refine hJ109 _ _ ?_
                   refine hK108 _ _ ?_
                   refine sq fun K110 hK110 => ?_
                   refine rg' (h := fun J111 hJ111 => ?_)
                   refine ca (c := (hS2 ▸ rpadd_ok hqr hxr)) (k := ?_)
                   rintro _ _ ⟨rfl, rfl⟩
                   repeat (first | simp [F] | simp (disch := omega) only [wC, if_pos, if_neg])
                   refine hJ111 _ _ ?_
                   refine hK110 _ _ ?_
                   refine sq fun K112 hK112 => ?_
                   refine sq fun K113 hK113 => ?_
                   refine rg' (h := fun J114 hJ114 => ?_)
                   refine hJ114 _ _ ?_
                   refine hK113 _ _ ?_
                   refine cs (fun c166 => ?_) (fun c166 => ?_)
                   · try exact nope c166
                     all_goals have c166p := c166
                     all_goals try simp [F] at c166p
                     all_goals
                      replace F := And.intro c166 F
                      try replace F := And.intro c166p F
                      have hne : ¬ cAddE S xc = 0 := by simpa using c166
                      rw [if_neg hne] at hE
                      replace F := And.intro hE F
                      refine sq fun K115 hK115 => ?_
                      refine rg' (h := fun J116 hJ116 => ?_)
                      refine hJ116 _ _ ?_
                      refine hK115 _ _ ?_
                      refine run_ret ?_
                      try simp only [Then, InBlock, NoGoto]
                      refine answer_tmp rfl (.inr rfl) ?_
                      exact gcr (hA := by simp only [putA_get]; simp [rightB, hkn, F]; exact Wk.refl _)
                   try exact nope c166
                   all_goals have c166p := c166
                   all_goals try simp [F] at c166p
                   all_goals
                    replace F := And.intro c166 F
                    try replace F := And.intro c166p F
                    have hye : cAddE S xc = 0 := by simpa using c166
                    rw [if_pos hye] at hE
                    refine run_skip ?_
                    refine hK112 _ _ ?_
                    refine rg' (h := fun J117 hJ117 => ?_)
                    refine hJ117 _ _ ?_
                    refine hK94 _ _ ?_
                    refine rg' (h := fun J118 hJ118 => ?_)
                    refine hJ118 _ _ ?_
                    refine ⟨gk, (⟨i + 1, E - xl, S2⟩), ⟨kpG, lpG, ?_, ?_, ?_, lpG, lpG, lpG, lpG⟩, lpG⟩
                    · exact hE
                    · exact hw2
                    · exact hS2r
            try exact nope c125
            all_goals have c125p := c125
            all_goals try simp [F] at c125p
            all_goals
             replace F := And.intro c125 F
             try replace F := And.intro c125p F
             have hend : perOk2 pp (pe - ps) [] = some (q.e, q.a) := by rw [hE, List.drop_of_length_le (by have h := c125; simp at h; omega)]; rfl
             replace F := And.intro hend F
             refine run_exit ?_
             refine hK88 _ _ ?_
             refine sq fun K119 hK119 => ?_
             refine rg' (h := fun J120 hJ120 => ?_)
             refine gs 170 (fun g24_2 => ?_) (fun g24_2 => ?_)
             · try exact nope g24_2
               all_goals have g24_2p := g24_2
               all_goals try simp [F] at g24_2p
               all_goals
                replace F := And.intro g24_2 F
                try replace F := And.intro g24_2p F
                have hee : q.e = 0 := by have h := g24_2; simp at h; omega
                replace F := And.intro hee F
                refine go2 (k := ?_)
                refine go2 (k := ?_)
                refine go2 (k := ?_)
                refine ca (c := rsame_ok (by have := right_len hqr; omega) k3) (k := ?_)
                rintro _ _ ⟨rfl, rfl⟩
                repeat (first | simp [F] | simp (disch := omega) only [wC, if_pos, if_neg])
                refine hJ120 _ _ ?_
                refine hK119 _ _ ?_
                refine run_ret ?_
                try simp only [Then, InBlock, NoGoto]
                refine answer_tmp rfl (.inr rfl) ?_
                exact gcr (hA := by simp only [putA_get]; simp [rightB, hkn, F]; exact Wk.refl _)
             try exact nope g24_2
             all_goals have g24_2p := g24_2
             all_goals try simp [F] at g24_2p
             all_goals
              replace F := And.intro g24_2 F
              try replace F := And.intro g24_2p F
              have hee : ¬ q.e = 0 := by have h := g24_2; simp at h; omega
              replace F := And.intro hee F
              refine no2 (k := ?_)
              refine no2 (k := ?_)
              refine no2 (k := ?_)
              refine no2 (k := ?_)
              refine hJ120 _ _ ?_
              refine hK119 _ _ ?_
              refine run_ret ?_
              try simp only [Then, InBlock, NoGoto]
              refine answer_tmp rfl (.inr rfl) ?_
              exact gcr (hA := by simp only [putA_get]; simp [rightB, hkn, F]; exact Wk.refl _)

end Go.Proofs.Ytdbaddholggkbaa
