import Derived.Test.YtdbaddholggkbaaVmU
import Derived.Test.YtdbaddholggkbaaJ1S
/-
  Right plans..
-/
namespace Go.Proofs.Ytdbaddholggkbaa
set_option linter.unnecessarySimpa false
set_option maxRecDepth 100000
open Go Go.Vm
set_option linter.unusedSimpArgs false
set_option linter.unusedVariables false

attribute [local simp] evalL wantedA isCall opA evalA evalAll evalsA evalOpt ofValue ofCell plain binA_eql_pn binA_neq_pn binA_gtr binA_lss binA_geq binA_leq binA_add binA_sub binA_eql binA_neq binA_orI binA_andI binA_shl binA_shr binA_mul binA_quo binA_rem binA_agg_eql binA_agg_neq convA_int unA_not fieldAddrA loadA partA pickA_true pickA_false pickA_bb lenA builtinA storeA splice AV.cells AV.isCell sliceA boundA intA callOf indexAddrA newObjA buildA fillA zeroA ofCells buildSliceA indexA fieldA numA_len4 numA_take4 numA_drop4 set_appN get_appN take_appN List.getElem?_cons_zero List.getElem?_cons_succ makeA zeros64

theorem okZero : (⟨0, 0, 0, [], []⟩ : Pln).Ok := ⟨by decide, by decide, by decide, by decide, fun x hx => absurd hx (by simp)⟩

theorem plsame0_ok {σ : St} {a : Pln} (ha : a.Ok) :
    CallsA Try.prog 47 [.agg (plnC a), .agg [.v (.int .u8 0), .v (.int .u64 0), .v (.int .u64 0), .sl 0 [] 0 .full, .sl 0 [] 0 .full]] σ (fun av σ' => av = .v (.bool (decide (a = ⟨0, 0, 0, [], []⟩))) ∧ σ = σ') :=
  callsA_wk (.cons (Wk.refl _) (.cons (WkL.agg (.cons (Wk.refl _) (.cons (Wk.refl _) (.cons (Wk.refl _) (.cons (Wk.nil _ _ _) (.cons (Wk.nil _ _ _) .nil)))))) .nil)) (plsame_ok ha okZero)

set_option maxHeartbeats 1600000 in
attribute [local simp] undefA List.getElem?_cons_zero List.getElem?_cons_succ perC plnC persC_noObj in
theorem plright_ok {σ : St} {p : Pln} (hp : p.Ok) :
    CallsA Try.prog 18 [.agg (plnC p)] σ (fun av σ' => av = .v (.bool (rightB p)) ∧ σ = σ') := by
  refine callsA_gcS ?_ rfl
  have hsame := plsame0_ok (σ := σ) hp
  obtain ⟨pk, ps, pe, pt, pp⟩ := p
  have hp0 := hp
  obtain ⟨k1, k2, k3, k4, h5⟩ := hp
  have hnil : ((pp.length : Int) == 0) = decide (pp = []) := by cases pp <;> simp <;> omega
  have hkn : ∀ n : UInt8, pk = n ↔ (pk.toNat : Int) = (n.toNat : Int) := fun n => ⟨fun e => by rw [e], fun e => UInt8.toNat_inj.1 (Int.ofNat_inj.1 e)⟩
  simp only [plnC] at *
  have F := And.intro hnil (True.intro)
  refine callsA_body Try.func18 rfl rfl rfl ?_
  refine sq fun K1 hK1 => ?_
  refine rg' (h := fun J2 hJ2 => ?_)
  refine hJ2 _ _ ?_
  refine hK1 _ _ ?_
  refine sq fun K3 hK3 => ?_
  refine sq fun K4 hK4 => ?_
  refine rg' (h := fun J5 hJ5 => ?_)
  refine hJ5 _ _ ?_
  refine hK4 _ _ ?_
  refine cs (fun c5 => ?_) (fun c5 => ?_)
  · try exact nope c5
    all_goals have c5p := c5
    all_goals try simp [F] at c5p
    all_goals
     replace F := And.intro c5 F
     try replace F := And.intro c5p F
     have hk0 : pk = 0 := (hkn 0).2 (by have h := c5; simp at h; simpa using h)
     have hB : rightB ⟨pk, ps, pe, pt, pp⟩ = decide ((⟨pk, ps, pe, pt, pp⟩ : Pln) = ⟨0, 0, 0, [], []⟩) := by rw [rightB, if_pos hk0]
     replace F := And.intro hB F
     refine sq fun K6 hK6 => ?_
     refine rg' (h := fun J7 hJ7 => ?_)
     refine ca (c := plsame0_ok hp0) (k := ?_)
     rintro _ _ ⟨rfl, rfl⟩
     repeat (first | simp [F] | simp (disch := omega) only [wC, if_pos, if_neg])
     refine hJ7 _ _ ?_
     refine hK6 _ _ ?_
     refine run_ret ?_
     try simp only [Then, InBlock, NoGoto]
     refine answer_tmp rfl (.inr rfl) ?_
     exact gcr
  try exact nope c5
  all_goals have c5p := c5
  all_goals try simp [F] at c5p
  all_goals
   replace F := And.intro c5 F
   try replace F := And.intro c5p F
   have hk0 : ¬ pk = 0 := fun e => by rw [hkn] at e; have h := c5; simp at h; exact h (by simpa using e)
   refine run_skip ?_
   refine hK3 _ _ ?_
   refine sq fun K8 hK8 => ?_
   refine sq fun K9 hK9 => ?_
   refine rg' (h := fun J10 hJ10 => ?_)
   refine ca (c := psome_ok k3) (k := ?_)
   rintro _ _ ⟨rfl, rfl⟩
   repeat (first | simp [F] | simp (disch := omega) only [wC, if_pos, if_neg])
   refine gs 13 (fun g3_4 => ?_) (fun g3_4 => ?_)
   · try exact nope g3_4
     all_goals have g3_4p := g3_4
     all_goals try simp [F] at g3_4p
     all_goals
      replace F := And.intro g3_4 F
      try replace F := And.intro g3_4p F
      have hB : rightB ⟨pk, ps, pe, pt, pp⟩ = false := by rw [rightB, if_neg hk0, if_pos (.inl (by have h := g3_4; simp at h; intro hh; rcases h with h | h; exact hh.1 h; exact h hh.2))]
      replace F := And.intro hB F
      refine no2 (k := ?_)
      refine no2 (k := ?_)
      refine no2 (k := ?_)
      refine hJ10 _ _ ?_
      refine hK9 _ _ ?_
      refine ct ?_
      refine sq fun K11 hK11 => ?_
      refine rg' (h := fun J12 hJ12 => ?_)
      refine hJ12 _ _ ?_
      refine hK11 _ _ ?_
      refine run_ret ?_
      try simp only [Then, InBlock, NoGoto]
      refine answer_tmp rfl (.inr rfl) ?_
      exact gcr
   try exact nope g3_4
   all_goals have g3_4p := g3_4
   all_goals try simp [F] at g3_4p
   all_goals
    replace F := And.intro g3_4 F
    try replace F := And.intro g3_4p F
    refine go2 (k := ?_)
    refine go2 (k := ?_)
    refine go2 (k := ?_)
    refine hJ10 _ _ ?_
    refine hK9 _ _ ?_
    refine cs (fun c17 => ?_) (fun c17 => ?_)
    · try exact nope c17
      all_goals have c17p := c17
      all_goals try simp [F] at c17p
      all_goals
       replace F := And.intro c17 F
       try replace F := And.intro c17p F
       have hB : rightB ⟨pk, ps, pe, pt, pp⟩ = false := by rw [rightB, if_neg hk0, if_pos (.inr (by show 2 ^ 40 < pe; have h := c17; simp at h; omega))]
       replace F := And.intro hB F
       refine sq fun K13 hK13 => ?_
       refine rg' (h := fun J14 hJ14 => ?_)
       refine hJ14 _ _ ?_
       refine hK13 _ _ ?_
       refine run_ret ?_
       try simp only [Then, InBlock, NoGoto]
       refine answer_tmp rfl (.inr rfl) ?_
       exact gcr
    try exact nope c17
    all_goals have c17p := c17
    all_goals try simp [F] at c17p
    all_goals
     replace F := And.intro c17 F
     try replace F := And.intro c17p F
     have hs1 : ¬ pt = [] := by have h := g3_4; simp at h; exact h.1
     have hs2 : Right pt := by have h := g3_4; simp at h; exact h.2
     have hs3 : pe ≤ 1099511627776 := by have h := c17; simp at h; omega
     have hs3' : ¬ 1099511627776 < pe := by omega
     replace F := And.intro hs1 (And.intro hs2 (And.intro hs3 (And.intro hs3' F)))
     refine run_skip ?_
     refine hK8 _ _ ?_
     refine sq fun K15 hK15 => ?_
     refine sq fun K16 hK16 => ?_
     refine rg' (h := fun J17 hJ17 => ?_)
     refine hJ17 _ _ ?_
     refine hK16 _ _ ?_
     refine run_block_k ?_
     refine sq fun K18 hK18 => ?_
     refine rg' (h := fun J19 hJ19 => ?_)
     refine hJ19 _ _ ?_
     refine hK18 _ _ ?_
     refine cs (fun c20 => ?_) (fun c20 => ?_)
     · try exact nope c20
       all_goals have c20p := c20
       all_goals try simp [F] at c20p
       all_goals
        replace F := And.intro c20 F
        try replace F := And.intro c20p F
        refine sq fun K20 hK20 => ?_
        refine rg' (h := fun J21 hJ21 => ?_)
        refine gs 27 (fun g7_5 => ?_) (fun g7_5 => ?_)
        · try exact nope g7_5
          all_goals have g7_5p := g7_5
          all_goals try simp [F] at g7_5p
          all_goals
           replace F := And.intro g7_5 F
           try replace F := And.intro g7_5p F
           have h1 : ps < pe := by have h := g7_5; simp at h; omega
           have hB : rightB ⟨pk, ps, pe, pt, pp⟩ = decide (pp = []) := by rw [rightB]; simp [hkn, F, h1]
           replace F := And.intro hB F
           refine go2 (k := ?_)
           refine go2 (k := ?_)
           refine go2 (k := ?_)
           refine go2 (k := ?_)
           refine hJ21 _ _ ?_
           refine hK20 _ _ ?_
           refine run_ret ?_
           try simp only [Then, InBlock, NoGoto]
           refine answer_tmp rfl (.inr rfl) ?_
           exact gcr
        try exact nope g7_5
        all_goals have g7_5p := g7_5
        all_goals try simp [F] at g7_5p
        all_goals
         replace F := And.intro g7_5 F
         try replace F := And.intro g7_5p F
         have h1 : ¬ ps < pe := by have h := g7_5; simp at h; omega
         have hB : rightB ⟨pk, ps, pe, pt, pp⟩ = false := by rw [rightB]; simp [hkn, F, h1]
         replace F := And.intro hB F
         refine no2 (k := ?_)
         refine no2 (k := ?_)
         refine no2 (k := ?_)
         refine no2 (k := ?_)
         refine hJ21 _ _ ?_
         refine hK20 _ _ ?_
         refine run_ret ?_
         try simp only [Then, InBlock, NoGoto]
         refine answer_tmp rfl (.inr rfl) ?_
         exact gcr
     try exact nope c20
     all_goals have c20p := c20
     all_goals try simp [F] at c20p
     all_goals
      replace F := And.intro c20 F
      try replace F := And.intro c20p F
      refine sq fun K22 hK22 => ?_
      refine rg' (h := fun J23 hJ23 => ?_)
      refine hJ23 _ _ ?_
      refine hK22 _ _ ?_
      refine cs (fun c33 => ?_) (fun c33 => ?_)
      · try exact nope c33
        all_goals have c33p := c33
        all_goals try simp [F] at c33p
        all_goals
         replace F := And.intro c33 F
         try replace F := And.intro c33p F
         refine sq fun K24 hK24 => ?_
         refine rg' (h := fun J25 hJ25 => ?_)
         refine gs 38 (fun g9_3 => ?_) (fun g9_3 => ?_)
         · try exact nope g9_3
           all_goals have g9_3p := g9_3
           all_goals try simp [F] at g9_3p
           all_goals
            replace F := And.intro g9_3 F
            try replace F := And.intro g9_3p F
            have h1 : ps = 0 := by have h := g9_3; simp at h; omega
            have hB : rightB ⟨pk, 0, pe, pt, pp⟩ = decide (pp = []) := by rw [rightB]; simp [hkn, F, h1]
            replace F := And.intro hB F
            refine go2 (k := ?_)
            refine go2 (k := ?_)
            refine go2 (k := ?_)
            refine go2 (k := ?_)
            refine hJ25 _ _ ?_
            refine hK24 _ _ ?_
            refine run_ret ?_
            try simp only [Then, InBlock, NoGoto]
            refine answer_tmp rfl (.inr rfl) ?_
            exact gcr
         try exact nope g9_3
         all_goals have g9_3p := g9_3
         all_goals try simp [F] at g9_3p
         all_goals
          replace F := And.intro g9_3 F
          try replace F := And.intro g9_3p F
          have h1 : ¬ ps = 0 := by have h := g9_3; simp at h; omega
          have hB : rightB ⟨pk, ps, pe, pt, pp⟩ = false := by rw [rightB]; simp [hkn, F, h1]
          replace F := And.intro hB F
          refine no2 (k := ?_)
          refine no2 (k := ?_)
          refine no2 (k := ?_)
          refine no2 (k := ?_)
          refine hJ25 _ _ ?_
          refine hK24 _ _ ?_
          refine run_ret ?_
          try simp only [Then, InBlock, NoGoto]
          refine answer_tmp rfl (.inr rfl) ?_
          exact gcr
      try exact nope c33
      all_goals have c33p := c33
      all_goals try simp [F] at c33p
      all_goals
       replace F := And.intro c33 F
       try replace F := And.intro c33p F
       refine sq fun K26 hK26 => ?_
       refine rg' (h := fun J27 hJ27 => ?_)
       refine hJ27 _ _ ?_
       refine hK26 _ _ ?_
       refine cs (fun c44 => ?_) (fun c44 => ?_)
       · try exact nope c44
         all_goals have c44p := c44
         all_goals try simp [F] at c44p
         all_goals
          replace F := And.intro c44 F
          try replace F := And.intro c44p F
          refine sq fun K28 hK28 => ?_
          refine rg' (h := fun J29 hJ29 => ?_)
          refine gs 49 (fun g11_3 => ?_) (fun g11_3 => ?_)
          · try exact nope g11_3
            all_goals have g11_3p := g11_3
            all_goals try simp [F] at g11_3p
            all_goals
             replace F := And.intro g11_3 F
             try replace F := And.intro g11_3p F
             have h1 : ps = 0 := by have h := g11_3; simp at h; omega
             replace F := And.intro h1 F
             refine go2 (k := ?_)
             refine go2 (k := ?_)
             refine go2 (k := ?_)
             refine gs 54 (fun g11_8 => ?_) (fun g11_8 => ?_)
             · try exact nope g11_8
               all_goals have g11_8p := g11_8
               all_goals try simp [F] at g11_8p
               all_goals
                replace F := And.intro g11_8 F
                try replace F := And.intro g11_8p F
                have h2 : pe = 0 := by have h := g11_8; simp at h; omega
                have hB : rightB ⟨pk, 0, 0, pt, pp⟩ = decide (pp = []) := by rw [rightB]; simp [hkn, F]
                replace F := And.intro hB F
                refine go2 (k := ?_)
                refine go2 (k := ?_)
                refine go2 (k := ?_)
                refine go2 (k := ?_)
                refine hJ29 _ _ ?_
                refine hK28 _ _ ?_
                refine run_ret ?_
                try simp only [Then, InBlock, NoGoto]
                refine answer_tmp rfl (.inr rfl) ?_
                exact gcr
             try exact nope g11_8
             all_goals have g11_8p := g11_8
             all_goals try simp [F] at g11_8p
             all_goals
              replace F := And.intro g11_8 F
              try replace F := And.intro g11_8p F
              have h2 : ¬ pe = 0 := by have h := g11_8; simp at h; omega
              have hB : rightB ⟨pk, 0, pe, pt, pp⟩ = false := by rw [rightB]; simp [hkn, F, h2]
              replace F := And.intro hB F
              refine no2 (k := ?_)
              refine no2 (k := ?_)
              refine no2 (k := ?_)
              refine no2 (k := ?_)
              refine hJ29 _ _ ?_
              refine hK28 _ _ ?_
              refine run_ret ?_
              try simp only [Then, InBlock, NoGoto]
              refine answer_tmp rfl (.inr rfl) ?_
              exact gcr
          try exact nope g11_3
          all_goals have g11_3p := g11_3
          all_goals try simp [F] at g11_3p
          all_goals
           replace F := And.intro g11_3 F
           try replace F := And.intro g11_3p F
           have h1 : ¬ ps = 0 := by have h := g11_3; simp at h; omega
           have hB : rightB ⟨pk, ps, pe, pt, pp⟩ = false := by rw [rightB]; simp [hkn, F, h1]
           replace F := And.intro hB F
           refine no2 (k := ?_)
           refine no2 (k := ?_)
           refine no2 (k := ?_)
           refine no2 (k := ?_)
           refine no2 (k := ?_)
           refine no2 (k := ?_)
           refine no2 (k := ?_)
           refine hJ29 _ _ ?_
           refine hK28 _ _ ?_
           refine run_ret ?_
           try simp only [Then, InBlock, NoGoto]
           refine answer_tmp rfl (.inr rfl) ?_
           exact gcr
       try exact nope c44
       all_goals have c44p := c44
       all_goals try simp [F] at c44p
       all_goals
        replace F := And.intro c44 F
        try replace F := And.intro c44p F
        refine sq fun K30 hK30 => ?_
        refine sq fun K31 hK31 => ?_
        refine rg' (h := fun J32 hJ32 => ?_)
        refine hJ32 _ _ ?_
        refine hK31 _ _ ?_
        refine cs (fun c60 => ?_) (fun c60 => ?_)
        · try exact nope c60
          all_goals have c60p := c60
          all_goals try simp [F] at c60p
          all_goals
           replace F := And.intro c60 F
           try replace F := And.intro c60p F
           refine run_skip ?_
           refine hK30 _ _ ?_
           refine cs (fun c60 => ?_) (fun c60 => ?_)
           · try exact nope c60
             all_goals have c60p := c60
             all_goals try simp [F] at c60p
             all_goals
              replace F := And.intro c60 F
              try replace F := And.intro c60p F
              refine sq fun K33 hK33 => ?_
              have h35 : (pk.toNat : Int) = 3 ∨ (pk.toNat : Int) = 5 := by have h := c60; simp at h; first | exact .inl (by simpa using h) | exact .inr (by simpa using h)
              have hB : rightB ⟨pk, ps, pe, pt, pp⟩ = perB ⟨pk, ps, pe, pt, pp⟩ := by rw [rightB]; rcases h35 with h35 | h35 <;> simp [hkn, hs1, hs2, hs3', h35]
              replace F := And.intro hB F
              refine rg' (h := fun J34 hJ34 => ?_)
              refine ca (c := periods_ok hp0 (by show pe ≤ 2 ^ 40; omega)) (k := ?_)
              rintro _ _ ⟨rfl, rfl⟩
              repeat (first | simp [F] | simp (disch := omega) only [wC, if_pos, if_neg])
              refine hJ34 _ _ ?_
              refine hK33 _ _ ?_
              refine run_ret ?_
              try simp only [Then, InBlock, NoGoto]
              refine answer_tmp rfl (.inr rfl) ?_
              exact gcr
           try exact nope c60
           all_goals have c60p := c60
           all_goals try simp [F] at c60p
           all_goals
            replace F := And.intro c60 F
            try replace F := And.intro c60p F
            refine run_skip ?_
            refine hK15 _ _ ?_
            refine sq fun K35 hK35 => ?_
            have hB : rightB ⟨pk, ps, pe, pt, pp⟩ = false := by rw [rightB]; simp [hkn, F]
            replace F := And.intro hB F
            refine rg' (h := fun J36 hJ36 => ?_)
            refine hJ36 _ _ ?_
            refine hK35 _ _ ?_
            refine run_ret ?_
            try simp only [Then, InBlock, NoGoto]
            refine answer_tmp rfl (.inr rfl) ?_
            exact gcr
        try exact nope c60
        all_goals have c60p := c60
        all_goals try simp [F] at c60p
        all_goals
         replace F := And.intro c60 F
         try replace F := And.intro c60p F
         refine rg' (h := fun J37 hJ37 => ?_)
         refine hJ37 _ _ ?_
         refine hK30 _ _ ?_
         refine cs (fun c60 => ?_) (fun c60 => ?_)
         · try exact nope c60
           all_goals have c60p := c60
           all_goals try simp [F] at c60p
           all_goals
            replace F := And.intro c60 F
            try replace F := And.intro c60p F
            refine sq fun K38 hK38 => ?_
            have h35 : (pk.toNat : Int) = 3 ∨ (pk.toNat : Int) = 5 := by have h := c60; simp at h; first | exact .inl (by simpa using h) | exact .inr (by simpa using h)
            have hB : rightB ⟨pk, ps, pe, pt, pp⟩ = perB ⟨pk, ps, pe, pt, pp⟩ := by rw [rightB]; rcases h35 with h35 | h35 <;> simp [hkn, hs1, hs2, hs3', h35]
            replace F := And.intro hB F
            refine rg' (h := fun J39 hJ39 => ?_)
            refine ca (c := periods_ok hp0 (by show pe ≤ 2 ^ 40; omega)) (k := ?_)
            rintro _ _ ⟨rfl, rfl⟩
            repeat (first | simp [F] | simp (disch := omega) only [wC, if_pos, if_neg])
            refine hJ39 _ _ ?_
            refine hK38 _ _ ?_
            refine run_ret ?_
            try simp only [Then, InBlock, NoGoto]
            refine answer_tmp rfl (.inr rfl) ?_
            exact gcr
         try exact nope c60
         all_goals have c60p := c60
         all_goals try simp [F] at c60p
         all_goals
          replace F := And.intro c60 F
          try replace F := And.intro c60p F
          refine run_skip ?_
          refine hK15 _ _ ?_
          refine sq fun K40 hK40 => ?_
          have hB : rightB ⟨pk, ps, pe, pt, pp⟩ = false := by rw [rightB]; simp [hkn, F]
          replace F := And.intro hB F
          refine rg' (h := fun J41 hJ41 => ?_)
          refine hJ41 _ _ ?_
          refine hK40 _ _ ?_
          refine run_ret ?_
          try simp only [Then, InBlock, NoGoto]
          refine answer_tmp rfl (.inr rfl) ?_
          exact gcr

end Go.Proofs.Ytdbaddholggkbaa
