import Derived.Test.YtdbaddholggkbaaZ7
import Derived.Test.YtdbaddholggkbaaZ12
/-
  Right plans..
-/
namespace Go.Proofs.Ytdbaddholggkbaa
set_option linter.unnecessarySimpa false
set_option maxRecDepth 100000
open Go Go.Vm
set_option linter.unusedSimpArgs false
set_option linter.unusedVariables false

attribute [local simp] evalL wantedA isCall opA evalA evalAll evalsA evalOpt ofValue ofCell plain binA_eql_pn binA_neq_pn binA_gtr binA_lss binA_geq binA_leq binA_add binA_sub binA_eql binA_neq binA_orI binA_andI binA_shl binA_shr binA_mul binA_quo binA_rem binA_agg_eql binA_agg_neq convA_int unA_not fieldAddrA loadA partA pickA_true pickA_false pickA_bb lenA builtinA storeA splice AV.cells AV.isCell sliceA boundA intA callOf indexAddrA newObjA buildA fillA zeroA ofCells buildSliceA indexA fieldA numA_len4 numA_take4 numA_drop4 set_appN get_appN take_appN List.getElem?_cons_zero List.getElem?_cons_succ makeA zeros64

set_option maxHeartbeats 1600000 in
attribute [local simp] undefA List.getElem?_cons_zero List.getElem?_cons_succ perC persC_noObj in
theorem periods_ok {σ : St} {p : Pln} (hp : p.Ok) (he : p.e ≤ 2 ^ 40) :
    CallsA Try.prog 61 [.agg (plnC p)] σ (fun av σ' => av = .v (.bool (perB p)) ∧ σ = σ') := by
  refine callsA_gcS ?_ rfl
  obtain ⟨pk, ps, pe, pt, pp⟩ := p
  obtain ⟨k1, k2, k3, k4, h5⟩ := hp
  simp only [plnC, perB] at *
  have F := True.intro
  refine callsA_body Try.func61 rfl rfl rfl ?_
  refine sq fun K1 hK1 => ?_
  refine rg' (h := fun J2 hJ2 => ?_)
  refine hJ2 _ _ ?_
  refine hK1 _ _ ?_
  refine sq fun K3 hK3 => ?_
  refine sq fun K4 hK4 => ?_
  refine rg' (h := fun J5 hJ5 => ?_)
  refine hJ5 _ _ ?_
  refine hK4 _ _ ?_
  refine cs (fun c11 => ?_) (fun c11 => ?_)
  · try exact nope c11
    all_goals have c11p := c11
    all_goals try simp [F] at c11p
    all_goals
     replace F := And.intro c11 F
     try replace F := And.intro c11p F
     have hbig : ¬ pp.length ≤ 16 := by have h := c11; simp at h; omega
     replace F := And.intro hbig F
     refine sq fun K6 hK6 => ?_
     refine rg' (h := fun J7 hJ7 => ?_)
     refine hJ7 _ _ ?_
     refine hK6 _ _ ?_
     refine run_ret ?_
     try simp only [Then, InBlock, NoGoto]
     refine answer_tmp rfl (.inr rfl) ?_
     exact gcr
  try exact nope c11
  all_goals have c11p := c11
  all_goals try simp [F] at c11p
  all_goals
   replace F := And.intro c11 F
   try replace F := And.intro c11p F
   have hbig : pp.length ≤ 16 := by have h := c11; simp at h; omega
   replace F := And.intro hbig F
   refine run_skip ?_
   refine hK3 _ _ ?_
   refine sq fun K8 hK8 => ?_
   refine rg' (h := fun J9 hJ9 => ?_)
   refine hJ9 _ _ ?_
   refine hK8 _ _ ?_
   refine sq fun K10 hK10 => ?_
   refine rg' (h := fun J11 hJ11 => ?_)
   refine hJ11 _ _ ?_
   refine hK10 _ _ ?_
   refine sq fun K12 hK12 => ?_
   refine sq fun K13 hK13 => ?_
   refine run_nilsh 4 5 (k := ?_)
   refine rg' (h := fun J14 hJ14 => ?_)
   refine hJ14 _ _ ?_
   refine hK13 _ _ ?_
   refine run_block_k ?_
   refine run_loopG (X := PerQ) [1, 15, 16] (fun q ρ σ1 => (q.i ≤ pp.length) ∧ (perOk pp ps [] = perOk (pp.drop q.i) q.e q.a) ∧ (q.e < 2 ^ 64) ∧ (q.a.length ≤ 8) ∧ (ρ 3 = .v (.int .u64 q.e)) ∧ (ρ 4 = .sl 5 (coinsC q.a) q.a.length .shut) ∧ (ρ 17 = .v (.int .i64 q.i)) ∧ (σ1 = { σ with objs := σ.objs ++ [[.v (.int .u8 pk.toNat), .v (.int .u64 ps), .v (.int .u64 pe), .sl 5 (coinsC pt) pt.length .shut, .sl 2 (persC pp) pp.length .shut]] })) (fun q => pp.length - q.i) (⟨0, ps, []⟩) ?st1 ?rd1
   case st1 =>
    refine ⟨lp, ?_, lp, lp, lp, lp, lp, ?_⟩
    · rfl
    · rfl
   case rd1 =>
    rintro q ρ1 σ1 hF1 ⟨hi, hE, hqe, hqa, h3, h4, h17, hσ⟩
    obtain rfl := hσ.symm
    have f1 := keepL hF1
    try simp [KeepL, F] at f1
    replace F := And.intro h3 F
    replace F := And.intro h4 F
    replace F := And.intro h17 F
    try replace F := And.intro f1 F
    refine sq fun K15 hK15 => ?_
    refine rg' (h := fun J16 hJ16 => ?_)
    refine hJ16 _ _ ?_
    refine hK15 _ _ ?_
    refine sq fun K17 hK17 => ?_
    refine cs (fun c18 => ?_) (fun c18 => ?_)
    · try exact nope c18
      all_goals have c18p := c18
      all_goals try simp [F] at c18p
      all_goals
       replace F := And.intro c18 F
       try replace F := And.intro c18p F
       refine run_skip ?_
       refine hK17 _ _ ?_
       refine sq fun K18 hK18 => ?_
       refine run_block_k ?_
       refine sq fun K19 hK19 => ?_
       obtain ⟨i, E, S⟩ := q
       simp only at hi hE hqe hqa h3 h4 h17
       have hlt : i < pp.length := by simp at c18; omega
       have hat := persC_at hlt
       have hb1 : i * 2 + 2 ≤ pp.length * 2 := by omega
       have hx5 := h5 _ (List.getElem_mem hlt)
       have hcons : pp.drop i = pp[i] :: pp.drop (i + 1) := List.drop_eq_getElem_cons hlt
       obtain ⟨x, hx⟩ : ∃ x, x = pp[i] := ⟨_, rfl⟩
       rw [← hx] at hat hx5 hcons
       rw [hcons] at hE
       obtain ⟨xl, xc⟩ := x
       obtain ⟨hxl, hxc⟩ := hx5
       simp only at hxl hxc
       simp only [perOk] at hE
       replace F := And.intro hlt F
       replace F := And.intro hat F
       replace F := And.intro hb1 F
       refine rg' (h := fun J20 hJ20 => ?_)
       refine hJ20 _ _ ?_
       refine hK19 _ _ ?_
       refine sq fun K21 hK21 => ?_
       refine sq fun K22 hK22 => ?_
       refine rg' (h := fun J23 hJ23 => ?_)
       refine gs 24 (fun g8_3 => ?_) (fun g8_3 => ?_)
       · try exact nope g8_3
         all_goals have g8_3p := g8_3
         all_goals try simp [F] at g8_3p
         all_goals
          replace F := And.intro g8_3 F
          try replace F := And.intro g8_3p F
          have hbad : perOk pp ps [] = none := by rw [hE]; exact if_pos (.inl (by have h := g8_3; simp at h; omega))
          replace F := And.intro hbad F
          refine no2 (k := ?_)
          refine no2 (k := ?_)
          refine no2 (k := ?_)
          refine no2 (k := ?_)
          refine no2 (k := ?_)
          refine no2 (k := ?_)
          refine no2 (k := ?_)
          refine no2 (k := ?_)
          refine no2 (k := ?_)
          refine hJ23 _ _ ?_
          refine hK22 _ _ ?_
          refine ct ?_
          refine sq fun K24 hK24 => ?_
          refine rg' (h := fun J25 hJ25 => ?_)
          refine hJ25 _ _ ?_
          refine hK24 _ _ ?_
          refine run_ret ?_
          try simp only [Then, InBlock, NoGoto]
          refine answer_tmp rfl (.inr rfl) ?_
          exact gcr
       try exact nope g8_3
       all_goals have g8_3p := g8_3
       all_goals try simp [F] at g8_3p
       all_goals
        replace F := And.intro g8_3 F
        try replace F := And.intro g8_3p F
        refine go2 (k := ?_)
        refine go2 (k := ?_)
        refine go2 (k := ?_)
        refine gs 29 (fun g8_8 => ?_) (fun g8_8 => ?_)
        · try exact nope g8_8
          all_goals have g8_8p := g8_8
          all_goals try simp [F] at g8_8p
          all_goals
           replace F := And.intro g8_8 F
           try replace F := And.intro g8_8p F
           have hbad : perOk pp ps [] = none := by rw [hE]; exact if_pos (.inr (.inl (by have h := g8_8; simp at h; omega)))
           replace F := And.intro hbad F
           refine no2 (k := ?_)
           refine no2 (k := ?_)
           refine no2 (k := ?_)
           refine no2 (k := ?_)
           refine no2 (k := ?_)
           refine no2 (k := ?_)
           refine hJ23 _ _ ?_
           refine hK22 _ _ ?_
           refine ct ?_
           refine sq fun K26 hK26 => ?_
           refine rg' (h := fun J27 hJ27 => ?_)
           refine hJ27 _ _ ?_
           refine hK26 _ _ ?_
           refine run_ret ?_
           try simp only [Then, InBlock, NoGoto]
           refine answer_tmp rfl (.inr rfl) ?_
           exact gcr
        try exact nope g8_8
        all_goals have g8_8p := g8_8
        all_goals try simp [F] at g8_8p
        all_goals
         replace F := And.intro g8_8 F
         try replace F := And.intro g8_8p F
         refine go2 (k := ?_)
         refine go2 (k := ?_)
         refine gs 33 (fun g8_12 => ?_) (fun g8_12 => ?_)
         · try exact nope g8_12
           all_goals have g8_12p := g8_12
           all_goals try simp [F] at g8_12p
           all_goals
            replace F := And.intro g8_12 F
            try replace F := And.intro g8_12p F
            have hbad : perOk pp ps [] = none := by rw [hE]; exact if_pos (.inr (.inr (.inl (by have h := g8_12; simp at h; omega))))
            replace F := And.intro hbad F
            refine no2 (k := ?_)
            refine no2 (k := ?_)
            refine no2 (k := ?_)
            refine no2 (k := ?_)
            refine hJ23 _ _ ?_
            refine hK22 _ _ ?_
            refine ct ?_
            refine sq fun K28 hK28 => ?_
            refine rg' (h := fun J29 hJ29 => ?_)
            refine hJ29 _ _ ?_
            refine hK28 _ _ ?_
            refine run_ret ?_
            try simp only [Then, InBlock, NoGoto]
            refine answer_tmp rfl (.inr rfl) ?_
            exact gcr
         try exact nope g8_12
         all_goals have g8_12p := g8_12
         all_goals try simp [F] at g8_12p
         all_goals
          replace F := And.intro g8_12 F
          try replace F := And.intro g8_12p F
          refine go2 (k := ?_)
          refine go2 (k := ?_)
          refine ca (c := psome_ok hxc) (k := ?_)
          rintro _ _ ⟨rfl, rfl⟩
          repeat (first | simp [F] | simp (disch := omega) only [wC, if_pos, if_neg])
          refine go2 (k := ?_)
          refine hJ23 _ _ ?_
          refine hK22 _ _ ?_
          refine cs (fun c38 => ?_) (fun c38 => ?_)
          · try exact nope c38
            all_goals have c38p := c38
            all_goals try simp [F] at c38p
            all_goals
             replace F := And.intro c38 F
             try replace F := And.intro c38p F
             have hbad : perOk pp ps [] = none := by rw [hE]; exact if_pos (.inr (.inr (.inr (by have h := c38; simp at h; intro hh; rcases h with h | h; exact hh.1 h; exact h hh.2))))
             replace F := And.intro hbad F
             refine sq fun K30 hK30 => ?_
             refine rg' (h := fun J31 hJ31 => ?_)
             refine hJ31 _ _ ?_
             refine hK30 _ _ ?_
             refine run_ret ?_
             try simp only [Then, InBlock, NoGoto]
             refine answer_tmp rfl (.inr rfl) ?_
             exact gcr
          try exact nope c38
          all_goals have c38p := c38
          all_goals try simp [F] at c38p
          all_goals
           replace F := And.intro c38 F
           try replace F := And.intro c38p F
           have n1 : ¬ xl = 0 := by have h := g8_3; simp at h; omega
           have n2 : ¬ 2 ^ 40 < xl := by have h := g8_8; simp at h; omega
           have n3 : ¬ 2 ^ 40 < E := by have h := g8_12; simp at h; omega
           have n4 : ¬ ¬ (xc ≠ [] ∧ Right xc) := by have h := c38; simp at h; exact fun hn => hn ⟨h.1, h.2⟩
           have hgood : ¬ (xl = 0 ∨ 2 ^ 40 < xl ∨ 2 ^ 40 < E ∨ ¬ (xc ≠ [] ∧ Right xc)) := fun h => h.elim n1 (fun h => h.elim n2 (fun h => h.elim n3 n4))
           have hw2 : E + xl < 2 ^ 64 := by omega
           obtain ⟨S2, hS2⟩ : ∃ S2, S2 = cAddL S xc := ⟨_, rfl⟩
           have hS2l : S2.length ≤ 8 := by rw [hS2]; exact right_len (right_cAdd _ _)
           rw [← hS2] at hE
           rw [if_neg hgood] at hE
           have hw : IntKind.u64.wrap ((E : Int) + xl) = ((E + xl : Nat) : Int) := by rw [wrap_u64c (by omega)]; rfl
           replace F := And.intro hw F
           refine run_skip ?_
           refine hK21 _ _ ?_
           refine sq fun K32 hK32 => ?_
           refine rg' (h := fun J33 hJ33 => ?_)
           refine hJ33 _ _ ?_
           refine hK32 _ _ ?_
           refine sq fun K34 hK34 => ?_
           refine rg' (h := fun J35 hJ35 => ?_)
           refine hJ35 _ _ ?_
           refine hK34 _ _ ?_
           refine sq fun K36 hK36 => ?_
           refine rg' (h := fun J37 hJ37 => ?_)
           refine ca (c := (hS2 ▸ cadd_ok (by omega) hxc)) (k := ?_)
           rintro _ _ ⟨rfl, rfl⟩
           repeat (first | simp [F] | simp (disch := omega) only [wC, if_pos, if_neg])
           refine hJ37 _ _ ?_
           refine hK36 _ _ ?_
           refine sq fun K38 hK38 => ?_
           refine rg' (h := fun J39 hJ39 => ?_)
           refine hJ39 _ _ ?_
           refine hK38 _ _ ?_
           refine cs (fun c51 => ?_) (fun c51 => ?_)
           · try exact nope c51
             all_goals have c51p := c51
             all_goals try simp [F] at c51p
             all_goals
              replace F := And.intro c51 F
              try replace F := And.intro c51p F
              have hne : ¬ cAddE S xc = 0 := by have h := c51; simp at h; omega
              rw [if_neg hne] at hE
              replace F := And.intro hE F
              refine sq fun K40 hK40 => ?_
              refine rg' (h := fun J41 hJ41 => ?_)
              refine hJ41 _ _ ?_
              refine hK40 _ _ ?_
              refine run_ret ?_
              try simp only [Then, InBlock, NoGoto]
              refine answer_tmp rfl (.inr rfl) ?_
              exact gcr
           try exact nope c51
           all_goals have c51p := c51
           all_goals try simp [F] at c51p
           all_goals
            replace F := And.intro c51 F
            try replace F := And.intro c51p F
            have hye : cAddE S xc = 0 := by have h := c51; simp at h; omega
            rw [if_pos hye] at hE
            refine run_skip ?_
            refine hK18 _ _ ?_
            refine rg' (h := fun J42 hJ42 => ?_)
            refine hJ42 _ _ ?_
            refine ⟨gk, (⟨i + 1, E + xl, S2⟩), ⟨kpG, lpG, ?_, ?_, ?_, lpG, lpG, lpG, lpG⟩, lpG⟩
            · exact hE
            · exact hw2
            · exact hS2l
    try exact nope c18
    all_goals have c18p := c18
    all_goals try simp [F] at c18p
    all_goals
     replace F := And.intro c18 F
     try replace F := And.intro c18p F
     have hend : perOk pp ps [] = some (q.e, q.a) := by rw [hE, List.drop_of_length_le (by have h := c18; simp at h; omega)]; rfl
     replace F := And.intro hend F
     refine run_exit ?_
     refine hK12 _ _ ?_
     refine sq fun K43 hK43 => ?_
     refine rg' (h := fun J44 hJ44 => ?_)
     refine gs 57 (fun g16_4 => ?_) (fun g16_4 => ?_)
     · try exact nope g16_4
       all_goals have g16_4p := g16_4
       all_goals try simp [F] at g16_4p
       all_goals
        replace F := And.intro g16_4 F
        try replace F := And.intro g16_4p F
        have hee : q.e = pe := by have h := g16_4; simp at h; omega
        replace F := And.intro hee F
        refine go2 (k := ?_)
        refine go2 (k := ?_)
        refine go2 (k := ?_)
        refine ca (c := csame_ok (by omega) k3) (k := ?_)
        rintro _ _ ⟨rfl, rfl⟩
        repeat (first | simp [F] | simp (disch := omega) only [wC, if_pos, if_neg])
        refine hJ44 _ _ ?_
        refine hK43 _ _ ?_
        refine run_ret ?_
        try simp only [Then, InBlock, NoGoto]
        refine answer_tmp rfl (.inr rfl) ?_
        exact gcr
     try exact nope g16_4
     all_goals have g16_4p := g16_4
     all_goals try simp [F] at g16_4p
     all_goals
      replace F := And.intro g16_4 F
      try replace F := And.intro g16_4p F
      have hee : ¬ q.e = pe := by have h := g16_4; simp at h; omega
      replace F := And.intro hee F
      refine no2 (k := ?_)
      refine no2 (k := ?_)
      refine no2 (k := ?_)
      refine no2 (k := ?_)
      refine hJ44 _ _ ?_
      refine hK43 _ _ ?_
      refine run_ret ?_
      try simp only [Then, InBlock, NoGoto]
      refine answer_tmp rfl (.inr rfl) ?_
      exact gcr

end Go.Proofs.Ytdbaddholggkbaa

/-
  Right plans..
-/
namespace Go.Proofs.Ytdbaddholggkbaa
set_option linter.unnecessarySimpa false
set_option maxRecDepth 100000
open Go Go.Vm
set_option linter.unusedSimpArgs false
set_option linter.unusedVariables false

attribute [local simp] evalL wantedA isCall opA evalA evalAll evalsA evalOpt ofValue ofCell plain binA_eql_pn binA_neq_pn binA_gtr binA_lss binA_geq binA_leq binA_add binA_sub binA_eql binA_neq binA_orI binA_andI binA_shl binA_shr binA_mul binA_quo binA_rem binA_agg_eql binA_agg_neq convA_int unA_not fieldAddrA loadA partA pickA_true pickA_false pickA_bb lenA builtinA storeA splice AV.cells AV.isCell sliceA boundA intA callOf indexAddrA newObjA buildA fillA zeroA ofCells buildSliceA indexA fieldA numA_len4 numA_take4 numA_drop4 set_appN get_appN take_appN List.getElem?_cons_zero List.getElem?_cons_succ makeA zeros64

theorem okZero : (⟨0, 0, 0, [], []⟩ : Pln).Ok := ⟨by decide, by decide, by decide, by decide, fun x hx => absurd hx (by simp)⟩

theorem plsame0_ok {σ : St} {a : Pln} (ha : a.Ok) :
    CallsA Try.prog 47 [.agg (plnC a), .agg [.v (.int .u8 0), .v (.int .u64 0), .v (.int .u64 0), .sl 0 [] 0 .full, .sl 0 [] 0 .full]] σ (fun av σ' => av = .v (.bool (decide (a = ⟨0, 0, 0, [], []⟩))) ∧ σ = σ') :=
  callsA_wk (.cons (Wk.refl _) (.cons (WkL.agg (.cons (Wk.refl _) (.cons (Wk.refl _) (.cons (Wk.refl _) (.cons (Wk.nil _ _ _) (.cons (Wk.nil _ _ _) .nil)))))) .nil)) (plsame_ok ha okZero)

set_option maxHeartbeats 1600000 in
attribute [local simp] undefA List.getElem?_cons_zero List.getElem?_cons_succ perC plnC persC_noObj in
theorem plright_ok {σ : St} {p : Pln} (hp : p.Ok) :
    CallsA Try.prog 18 [.agg (plnC p)] σ (fun av σ' => av = .v (.bool (rightB p)) ∧ σ = σ') := by
  refine callsA_gcS ?_ rfl
  have hsame := plsame0_ok (σ := σ) hp
  obtain ⟨pk, ps, pe, pt, pp⟩ := p
  have hp0 := hp
  obtain ⟨k1, k2, k3, k4, h5⟩ := hp
  have hnil : ((pp.length : Int) == 0) = decide (pp = []) := by cases pp <;> simp <;> omega
  have hkn : ∀ n : UInt8, pk = n ↔ (pk.toNat : Int) = (n.toNat : Int) := fun n => ⟨fun e => by rw [e], fun e => UInt8.toNat_inj.1 (Int.ofNat_inj.1 e)⟩
  simp only [plnC] at *
  have F := And.intro hnil (True.intro)
  refine callsA_body Try.func18 rfl rfl rfl ?_
  refine sq fun K1 hK1 => ?_
  refine rg' (h := fun J2 hJ2 => ?_)
  refine hJ2 _ _ ?_
  refine hK1 _ _ ?_
  refine sq fun K3 hK3 => ?_
  refine sq fun K4 hK4 => ?_
  refine rg' (h := fun J5 hJ5 => ?_)
  refine hJ5 _ _ ?_
  refine hK4 _ _ ?_
  refine cs (fun c5 => ?_) (fun c5 => ?_)
  · try exact nope c5
    all_goals have c5p := c5
    all_goals try simp [F] at c5p
    all_goals
     replace F := And.intro c5 F
     try replace F := And.intro c5p F
     have hk0 : pk = 0 := (hkn 0).2 (by have h := c5; simp at h; simpa using h)
     have hB : rightB ⟨pk, ps, pe, pt, pp⟩ = decide ((⟨pk, ps, pe, pt, pp⟩ : Pln) = ⟨0, 0, 0, [], []⟩) := by rw [rightB, if_pos hk0]
     replace F := And.intro hB F
     refine sq fun K6 hK6 => ?_
     refine rg' (h := fun J7 hJ7 => ?_)
     refine ca (c := plsame0_ok hp0) (k := ?_)
     rintro _ _ ⟨rfl, rfl⟩
     repeat (first | simp [F] | simp (disch := omega) only [wC, if_pos, if_neg])
     refine hJ7 _ _ ?_
     refine hK6 _ _ ?_
     refine run_ret ?_
     try simp only [Then, InBlock, NoGoto]
     refine answer_tmp rfl (.inr rfl) ?_
     exact gcr
  try exact nope c5
  all_goals have c5p := c5
  all_goals try simp [F] at c5p
  all_goals
   replace F := And.intro c5 F
   try replace F := And.intro c5p F
   have hk0 : ¬ pk = 0 := fun e => by rw [hkn] at e; have h := c5; simp at h; exact h (by simpa using e)
   refine run_skip ?_
   refine hK3 _ _ ?_
   refine sq fun K8 hK8 => ?_
   refine sq fun K9 hK9 => ?_
   refine rg' (h := fun J10 hJ10 => ?_)
   refine ca (c := psome_ok k3) (k := ?_)
   rintro _ _ ⟨rfl, rfl⟩
   repeat (first | simp [F] | simp (disch := omega) only [wC, if_pos, if_neg])
   refine gs 13 (fun g3_4 => ?_) (fun g3_4 => ?_)
   · try exact nope g3_4
     all_goals have g3_4p := g3_4
     all_goals try simp [F] at g3_4p
     all_goals
      replace F := And.intro g3_4 F
      try replace F := And.intro g3_4p F
      have hB : rightB ⟨pk, ps, pe, pt, pp⟩ = false := by rw [rightB, if_neg hk0, if_pos (.inl (by have h := g3_4; simp at h; intro hh; rcases h with h | h; exact hh.1 h; exact h hh.2))]
      replace F := And.intro hB F
      refine no2 (k := ?_)
      refine no2 (k := ?_)
      refine no2 (k := ?_)
      refine hJ10 _ _ ?_
      refine hK9 _ _ ?_
      refine ct ?_
      refine sq fun K11 hK11 => ?_
      refine rg' (h := fun J12 hJ12 => ?_)
      refine hJ12 _ _ ?_
      refine hK11 _ _ ?_
      refine run_ret ?_
      try simp only [Then, InBlock, NoGoto]
      refine answer_tmp rfl (.inr rfl) ?_
      exact gcr
   try exact nope g3_4
   all_goals have g3_4p := g3_4
   all_goals try simp [F] at g3_4p
   all_goals
    replace F := And.intro g3_4 F
    try replace F := And.intro g3_4p F
    refine go2 (k := ?_)
    refine go2 (k := ?_)
    refine go2 (k := ?_)
    refine hJ10 _ _ ?_
    refine hK9 _ _ ?_
    refine cs (fun c17 => ?_) (fun c17 => ?_)
    · try exact nope c17
      all_goals have c17p := c17
      all_goals try simp [F] at c17p
      all_goals
       replace F := And.intro c17 F
       try replace F := And.intro c17p F
       have hB : rightB ⟨pk, ps, pe, pt, pp⟩ = false := by rw [rightB, if_neg hk0, if_pos (.inr (by show 2 ^ 40 < pe; have h := c17; simp at h; omega))]
       replace F := And.intro hB F
       refine sq fun K13 hK13 => ?_
       refine rg' (h := fun J14 hJ14 => ?_)
       refine hJ14 _ _ ?_
       refine hK13 _ _ ?_
       refine run_ret ?_
       try simp only [Then, InBlock, NoGoto]
       refine answer_tmp rfl (.inr rfl) ?_
       exact gcr
    try exact nope c17
    all_goals have c17p := c17
    all_goals try simp [F] at c17p
    all_goals
     replace F := And.intro c17 F
     try replace F := And.intro c17p F
     have hs1 : ¬ pt = [] := by have h := g3_4; simp at h; exact h.1
     have hs2 : Right pt := by have h := g3_4; simp at h; exact h.2
     have hs3 : pe ≤ 1099511627776 := by have h := c17; simp at h; omega
     have hs3' : ¬ 1099511627776 < pe := by omega
     replace F := And.intro hs1 (And.intro hs2 (And.intro hs3 (And.intro hs3' F)))
     refine run_skip ?_
     refine hK8 _ _ ?_
     refine sq fun K15 hK15 => ?_
     refine sq fun K16 hK16 => ?_
     refine rg' (h := fun J17 hJ17 => ?_)
     refine hJ17 _ _ ?_
     refine hK16 _ _ ?_
     refine run_block_k ?_
     refine sq fun K18 hK18 => ?_
     refine rg' (h := fun J19 hJ19 => ?_)
     refine hJ19 _ _ ?_
     refine hK18 _ _ ?_
     refine cs (fun c20 => ?_) (fun c20 => ?_)
     · try exact nope c20
       all_goals have c20p := c20
       all_goals try simp [F] at c20p
       all_goals
        replace F := And.intro c20 F
        try replace F := And.intro c20p F
        refine sq fun K20 hK20 => ?_
        refine rg' (h := fun J21 hJ21 => ?_)
        refine gs 27 (fun g7_5 => ?_) (fun g7_5 => ?_)
        · try exact nope g7_5
          all_goals have g7_5p := g7_5
          all_goals try simp [F] at g7_5p
          all_goals
           replace F := And.intro g7_5 F
           try replace F := And.intro g7_5p F
           have h1 : ps < pe := by have h := g7_5; simp at h; omega
           have hB : rightB ⟨pk, ps, pe, pt, pp⟩ = decide (pp = []) := by rw [rightB]; simp [hkn, F, h1]
           replace F := And.intro hB F
           refine go2 (k := ?_)
           refine go2 (k := ?_)
           refine go2 (k := ?_)
           refine go2 (k := ?_)
           refine hJ21 _ _ ?_
           refine hK20 _ _ ?_
           refine run_ret ?_
           try simp only [Then, InBlock, NoGoto]
           refine answer_tmp rfl (.inr rfl) ?_
           exact gcr
        try exact nope g7_5
        all_goals have g7_5p := g7_5
        all_goals try simp [F] at g7_5p
        all_goals
         replace F := And.intro g7_5 F
         try replace F := And.intro g7_5p F
         have h1 : ¬ ps < pe := by have h := g7_5; simp at h; omega
         have hB : rightB ⟨pk, ps, pe, pt, pp⟩ = false := by rw [rightB]; simp [hkn, F, h1]
         replace F := And.intro hB F
         refine no2 (k := ?_)
         refine no2 (k := ?_)
         refine no2 (k := ?_)
         refine no2 (k := ?_)
         refine hJ21 _ _ ?_
         refine hK20 _ _ ?_
         refine run_ret ?_
         try simp only [Then, InBlock, NoGoto]
         refine answer_tmp rfl (.inr rfl) ?_
         exact gcr
     try exact nope c20
     all_goals have c20p := c20
     all_goals try simp [F] at c20p
     all_goals
      replace F := And.intro c20 F
      try replace F := And.intro c20p F
      refine sq fun K22 hK22 => ?_
      refine rg' (h := fun J23 hJ23 => ?_)
      refine hJ23 _ _ ?_
      refine hK22 _ _ ?_
      refine cs (fun c33 => ?_) (fun c33 => ?_)
      · try exact nope c33
        all_goals have c33p := c33
        all_goals try simp [F] at c33p
        all_goals
         replace F := And.intro c33 F
         try replace F := And.intro c33p F
         refine sq fun K24 hK24 => ?_
         refine rg' (h := fun J25 hJ25 => ?_)
         refine gs 38 (fun g9_3 => ?_) (fun g9_3 => ?_)
         · try exact nope g9_3
           all_goals have g9_3p := g9_3
           all_goals try simp [F] at g9_3p
           all_goals
            replace F := And.intro g9_3 F
            try replace F := And.intro g9_3p F
            have h1 : ps = 0 := by have h := g9_3; simp at h; omega
            have hB : rightB ⟨pk, 0, pe, pt, pp⟩ = decide (pp = []) := by rw [rightB]; simp [hkn, F, h1]
            replace F := And.intro hB F
            refine go2 (k := ?_)
            refine go2 (k := ?_)
            refine go2 (k := ?_)
            refine go2 (k := ?_)
            refine hJ25 _ _ ?_
            refine hK24 _ _ ?_
            refine run_ret ?_
            try simp only [Then, InBlock, NoGoto]
            refine answer_tmp rfl (.inr rfl) ?_
            exact gcr
         try exact nope g9_3
         all_goals have g9_3p := g9_3
         all_goals try simp [F] at g9_3p
         all_goals
          replace F := And.intro g9_3 F
          try replace F := And.intro g9_3p F
          have h1 : ¬ ps = 0 := by have h := g9_3; simp at h; omega
          have hB : rightB ⟨pk, ps, pe, pt, pp⟩ = false := by rw [rightB]; simp [hkn, F, h1]
          replace F := And.intro hB F
          refine no2 (k := ?_)
          refine no2 (k := ?_)
          refine no2 (k := ?_)
          refine no2 (k := ?_)
          refine hJ25 _ _ ?_
          refine hK24 _ _ ?_
          refine run_ret ?_
          try simp only [Then, InBlock, NoGoto]
          refine answer_tmp rfl (.inr rfl) ?_
          exact gcr
      try exact nope c33
      all_goals have c33p := c33
      all_goals try simp [F] at c33p
      all_goals
       replace F := And.intro c33 F
       try replace F := And.intro c33p F
       refine sq fun K26 hK26 => ?_
       refine rg' (h := fun J27 hJ27 => ?_)
       refine hJ27 _ _ ?_
       refine hK26 _ _ ?_
       refine cs (fun c44 => ?_) (fun c44 => ?_)
       · try exact nope c44
         all_goals have c44p := c44
         all_goals try simp [F] at c44p
         all_goals
          replace F := And.intro c44 F
          try replace F := And.intro c44p F
          refine sq fun K28 hK28 => ?_
          refine rg' (h := fun J29 hJ29 => ?_)
          refine gs 49 (fun g11_3 => ?_) (fun g11_3 => ?_)
          · try exact nope g11_3
            all_goals have g11_3p := g11_3
            all_goals try simp [F] at g11_3p
            all_goals
             replace F := And.intro g11_3 F
             try replace F := And.intro g11_3p F
             have h1 : ps = 0 := by have h := g11_3; simp at h; omega
             replace F := And.intro h1 F
             refine go2 (k := ?_)
             refine go2 (k := ?_)
             refine go2 (k := ?_)
             refine gs 54 (fun g11_8 => ?_) (fun g11_8 => ?_)
             · try exact nope g11_8
               all_goals have g11_8p := g11_8
               all_goals try simp [F] at g11_8p
               all_goals
                replace F := And.intro g11_8 F
                try replace F := And.intro g11_8p F
                have h2 : pe = 0 := by have h := g11_8; simp at h; omega
                have hB : rightB ⟨pk, 0, 0, pt, pp⟩ = decide (pp = []) := by rw [rightB]; simp [hkn, F]
                replace F := And.intro hB F
                refine go2 (k := ?_)
                refine go2 (k := ?_)
                refine go2 (k := ?_)
                refine go2 (k := ?_)
                refine hJ29 _ _ ?_
                refine hK28 _ _ ?_
                refine run_ret ?_
                try simp only [Then, InBlock, NoGoto]
                refine answer_tmp rfl (.inr rfl) ?_
                exact gcr
             try exact nope g11_8
             all_goals have g11_8p := g11_8
             all_goals try simp [F] at g11_8p
             all_goals
              replace F := And.intro g11_8 F
              try replace F := And.intro g11_8p F
              have h2 : ¬ pe = 0 := by have h := g11_8; simp at h; omega
              have hB : rightB ⟨pk, 0, pe, pt, pp⟩ = false := by rw [rightB]; simp [hkn, F, h2]
              replace F := And.intro hB F
              refine no2 (k := ?_)
              refine no2 (k := ?_)
              refine no2 (k := ?_)
              refine no2 (k := ?_)
              refine hJ29 _ _ ?_
              refine hK28 _ _ ?_
              refine run_ret ?_
              try simp only [Then, InBlock, NoGoto]
              refine answer_tmp rfl (.inr rfl) ?_
              exact gcr
          try exact nope g11_3
          all_goals have g11_3p := g11_3
          all_goals try simp [F] at g11_3p
          all_goals
           replace F := And.intro g11_3 F
           try replace F := And.intro g11_3p F
           have h1 : ¬ ps = 0 := by have h := g11_3; simp at h; omega
           have hB : rightB ⟨pk, ps, pe, pt, pp⟩ = false := by rw [rightB]; simp [hkn, F, h1]
           replace F := And.intro hB F
           refine no2 (k := ?_)
           refine no2 (k := ?_)
           refine no2 (k := ?_)
           refine no2 (k := ?_)
           refine no2 (k := ?_)
           refine no2 (k := ?_)
           refine no2 (k := ?_)
           refine hJ29 _ _ ?_
           refine hK28 _ _ ?_
           refine run_ret ?_
           try simp only [Then, InBlock, NoGoto]
           refine answer_tmp rfl (.inr rfl) ?_
           exact gcr
       try exact nope c44
       all_goals have c44p := c44
       all_goals try simp [F] at c44p
       all_goals
        replace F := And.intro c44 F
        try replace F := And.intro c44p F
        refine sq fun K30 hK30 => ?_
        refine sq fun K31 hK31 => ?_
        refine rg' (h := fun J32 hJ32 => ?_)
        refine hJ32 _ _ ?_
        refine hK31 _ _ ?_
        refine cs (fun c60 => ?_) (fun c60 => ?_)
        · try exact nope c60
          all_goals have c60p := c60
          all_goals try simp [F] at c60p
          all_goals
           replace F := And.intro c60 F
           try replace F := And.intro c60p F
           refine run_skip ?_
           refine hK30 _ _ ?_
           refine cs (fun c60 => ?_) (fun c60 => ?_)
           · try exact nope c60
             all_goals have c60p := c60
             all_goals try simp [F] at c60p
             all_goals
              replace F := And.intro c60 F
              try replace F := And.intro c60p F
              refine sq fun K33 hK33 => ?_
              have h35 : (pk.toNat : Int) = 3 ∨ (pk.toNat : Int) = 5 := by have h := c60; simp at h; first | exact .inl (by simpa using h) | exact .inr (by simpa using h)
              have hB : rightB ⟨pk, ps, pe, pt, pp⟩ = perB ⟨pk, ps, pe, pt, pp⟩ := by rw [rightB]; rcases h35 with h35 | h35 <;> simp [hkn, hs1, hs2, hs3', h35]
              replace F := And.intro hB F
              refine rg' (h := fun J34 hJ34 => ?_)
              refine ca (c := periods_ok hp0 (by show pe ≤ 2 ^ 40; omega)) (k := ?_)
              rintro _ _ ⟨rfl, rfl⟩
              repeat (first | simp [F] | simp (disch := omega) only [wC, if_pos, if_neg])
              refine hJ34 _ _ ?_
              refine hK33 _ _ ?_
              refine run_ret ?_
              try simp only [Then, InBlock, NoGoto]
              refine answer_tmp rfl (.inr rfl) ?_
              exact gcr
           try exact nope c60
           all_goals have c60p := c60
           all_goals try simp [F] at c60p
           all_goals
            replace F := And.intro c60 F
            try replace F := And.intro c60p F
            refine run_skip ?_
            refine hK15 _ _ ?_
            refine sq fun K35 hK35 => ?_
            have hB : rightB ⟨pk, ps, pe, pt, pp⟩ = false := by rw [rightB]; simp [hkn, F]
            replace F := And.intro hB F
            refine rg' (h := fun J36 hJ36 => ?_)
            refine hJ36 _ _ ?_
            refine hK35 _ _ ?_
            refine run_ret ?_
            try simp only [Then, InBlock, NoGoto]
            refine answer_tmp rfl (.inr rfl) ?_
            exact gcr
        try exact nope c60
        all_goals have c60p := c60
        all_goals try simp [F] at c60p
        all_goals
         replace F := And.intro c60 F
         try replace F := And.intro c60p F
         refine rg' (h := fun J37 hJ37 => ?_)
         refine hJ37 _ _ ?_
         refine hK30 _ _ ?_
         refine cs (fun c60 => ?_) (fun c60 => ?_)
         · try exact nope c60
           all_goals have c60p := c60
           all_goals try simp [F] at c60p
           all_goals
            replace F := And.intro c60 F
            try replace F := And.intro c60p F
            refine sq fun K38 hK38 => ?_
            have h35 : (pk.toNat : Int) = 3 ∨ (pk.toNat : Int) = 5 := by have h := c60; simp at h; first | exact .inl (by simpa using h) | exact .inr (by simpa using h)
            have hB : rightB ⟨pk, ps, pe, pt, pp⟩ = perB ⟨pk, ps, pe, pt, pp⟩ := by rw [rightB]; rcases h35 with h35 | h35 <;> simp [hkn, hs1, hs2, hs3', h35]
            replace F := And.intro hB F
            refine rg' (h := fun J39 hJ39 => ?_)
            refine ca (c := periods_ok hp0 (by show pe ≤ 2 ^ 40; omega)) (k := ?_)
            rintro _ _ ⟨rfl, rfl⟩
            repeat (first | simp [F] | simp (disch := omega) only [wC, if_pos, if_neg])
            refine hJ39 _ _ ?_
            refine hK38 _ _ ?_
            refine run_ret ?_
            try simp only [Then, InBlock, NoGoto]
            refine answer_tmp rfl (.inr rfl) ?_
            exact gcr
         try exact nope c60
         all_goals have c60p := c60
         all_goals try simp [F] at c60p
         all_goals
          replace F := And.intro c60 F
          try replace F := And.intro c60p F
          refine run_skip ?_
          refine hK15 _ _ ?_
          refine sq fun K40 hK40 => ?_
          have hB : rightB ⟨pk, ps, pe, pt, pp⟩ = false := by rw [rightB]; simp [hkn, F]
          replace F := And.intro hB F
          refine rg' (h := fun J41 hJ41 => ?_)
          refine hJ41 _ _ ?_
          refine hK40 _ _ ?_
          refine run_ret ?_
          try simp only [Then, InBlock, NoGoto]
          refine answer_tmp rfl (.inr rfl) ?_
          exact gcr

end Go.Proofs.Ytdbaddholggkbaa

/-
  The document's right plans are the right plans.
-/
namespace Go.Vm
open Go

/-- What the document looks at, part by part. -/
def perOk2 : List Per → Nat → List Coin → Option (Nat × List Coin)
  | [], e, a => some (e, a)
  | x :: l, e, a => if x.l = 0 ∨ e < x.l ∨ x.c = [] ∨ ¬ Right x.c then none else if cAddE a x.c = 0 then perOk2 l (e - x.l) (cAddL a x.c) else none

theorem perOk_two : ∀ (l : List Per) (E : Nat) (a : List Coin) (e : Nat) (t : List Coin), e ≤ 2 ^ 40 → (perOk l E a = some (e, t) ↔ E ≤ e ∧ perOk2 l (e - E) a = some (0, t))
  | [], E, a, e, t, he => by
    simp only [perOk, perOk2, Option.some.injEq, Prod.mk.injEq]
    constructor
    · rintro ⟨h1, h2⟩; exact ⟨by omega, by omega, h2⟩
    · rintro ⟨h1, h2, h3⟩; exact ⟨by omega, h3⟩
  | x :: l, E, a, e, t, he => by
    have ih := perOk_two l (E + x.l) (cAddL a x.c) e t he
    have e1 : e - (E + x.l) = e - E - x.l := by omega
    rw [e1] at ih
    have e2 : x.l ≤ e - E ∧ E ≤ e ↔ E + x.l ≤ e := by omega
    simp only [perOk, perOk2]
    by_cases h0 : x.l = 0
    · rw [if_pos (.inl h0), if_pos (.inl h0)]; simp
    by_cases h1 : x.c = []
    · rw [if_pos (.inr (.inr (.inr (fun h => h.1 h1)))), if_pos (.inr (.inr (.inl h1)))]; simp
    by_cases h2 : Right x.c
    · by_cases h3 : cAddE a x.c = 0
      · rw [if_pos h3, if_pos h3]
        by_cases h4 : E + x.l ≤ e
        · rw [if_neg (by rintro (h | h | h | h); exact h0 h; omega; omega; exact h ⟨h1, h2⟩), if_neg (by rintro (h | h | h | h); exact h0 h; omega; exact h1 h; exact h h2), ih]
          constructor
          · rintro ⟨_, h⟩; exact ⟨by omega, h⟩
          · rintro ⟨_, h⟩; exact ⟨h4, h⟩
        · constructor
          · intro h
            split at h
            · cases h
            · exact absurd (ih.1 h).1 h4
          · rintro ⟨h5, h⟩
            split at h
            · cases h
            · rename_i hn
              exact absurd (by omega : E + x.l ≤ e) h4
      · rw [if_neg h3, if_neg h3]
        constructor
        · intro h; split at h <;> cases h
        · rintro ⟨_, h⟩; split at h <;> cases h
    · rw [if_pos (.inr (.inr (.inr (fun h => h2 h.2)))), if_pos (.inr (.inr (.inr h2)))]; simp

theorem perB_two {p : Pln} (he : p.e ≤ 2 ^ 40) (ht : p.tot ≠ []) : perB p = (decide (p.ps ≠ []) && decide (p.ps.length ≤ 16) && decide (p.s ≤ p.e) && decide (perOk2 p.ps (p.e - p.s) [] = some (0, p.tot))) := by
  unfold perB
  have h := perOk_two p.ps p.s [] p.e p.tot he
  by_cases h0 : p.ps = []
  · have : ¬ perOk p.ps p.s [] = some (p.e, p.tot) := by
      rw [h0]; simp only [perOk, Option.some.injEq, Prod.mk.injEq]
      rintro ⟨_, h2⟩; exact ht h2.symm
    rw [decide_eq_false this]; simp [h0]
  · rw [Bool.eq_iff_iff]
    simp only [Bool.and_eq_true, decide_eq_true_eq, h]
    constructor
    · rintro ⟨a, b, c⟩; exact ⟨⟨⟨h0, a⟩, b⟩, c⟩
    · rintro ⟨⟨⟨_, a⟩, b⟩, c⟩; exact ⟨a, b, c⟩

end Go.Vm

/-
  The document's right plans..
-/
namespace Go.Proofs.Ytdbaddholggkbaa
set_option linter.unnecessarySimpa false
set_option maxRecDepth 100000
open Go Go.Vm
set_option linter.unusedSimpArgs false
set_option linter.unusedVariables false

attribute [local simp] evalL wantedA isCall opA evalA evalAll evalsA evalOpt ofValue ofCell plain binA_eql_pn binA_neq_pn binA_gtr binA_lss binA_geq binA_leq binA_add binA_sub binA_eql binA_neq binA_orI binA_andI binA_shl binA_shr binA_mul binA_quo binA_rem binA_agg_eql binA_agg_neq convA_int unA_not fieldAddrA loadA partA pickA_true pickA_false pickA_bb lenA builtinA storeA splice AV.cells AV.isCell sliceA boundA intA callOf indexAddrA newObjA buildA fillA zeroA ofCells buildSliceA indexA fieldA numA_len4 numA_take4 numA_drop4 set_appN get_appN take_appN List.getElem?_cons_zero List.getElem?_cons_succ makeA zeros64

set_option maxHeartbeats 1600000 in
attribute [local simp] undefA List.getElem?_cons_zero List.getElem?_cons_succ perC plnC persC_noObj in
theorem rpright_ok {σ : St} {p : Pln} (hp : p.Ok) :
    CallsA Try.prog 19 [.agg (plnC p)] σ (fun av σ' => av = .v (.bool (rightB p)) ∧ σ = σ') := by
  refine callsA_gcS ?_ rfl
  have hp0 := hp
  have hp2 := @perB_two p
  obtain ⟨pk, ps, pe, pt, pp⟩ := p
  obtain ⟨k1, k2, k3, k4, h5⟩ := hp
  have hnil : ((pp.length : Int) == 0) = decide (pp = []) := by cases pp <;> simp <;> omega
  have hnilt : ((pt.length : Int) == 0) = decide (pt = []) := by cases pt <;> simp <;> omega
  have hkn : ∀ n : UInt8, pk = n ↔ (pk.toNat : Int) = (n.toNat : Int) := fun n => ⟨fun e => by rw [e], fun e => UInt8.toNat_inj.1 (Int.ofNat_inj.1 e)⟩
  simp only at hp2
  have hpe0 : ((pe : Int) == 0) = decide (pe = 0) := by rw [Bool.eq_iff_iff]; simp
  have F := And.intro hnil (And.intro hnilt (And.intro hpe0 (True.intro)))
  refine callsA_body Try.func19 rfl rfl rfl ?_
  refine sq fun K1 hK1 => ?_
  refine rg' (h := fun J2 hJ2 => ?_)
  refine hJ2 _ _ ?_
  refine hK1 _ _ ?_
  refine sq fun K3 hK3 => ?_
  refine sq fun K4 hK4 => ?_
  refine rg' (h := fun J5 hJ5 => ?_)
  refine hJ5 _ _ ?_
  refine hK4 _ _ ?_
  refine cs (fun c11 => ?_) (fun c11 => ?_)
  · try exact nope c11
    all_goals have c11p := c11
    all_goals try simp [F] at c11p
    all_goals
     replace F := And.intro c11 F
     try replace F := And.intro c11p F
     refine sq fun K6 hK6 => ?_
     refine rg' (h := fun J7 hJ7 => ?_)
     refine gs 15 (fun g2_3 => ?_) (fun g2_3 => ?_)
     · try exact nope g2_3
       all_goals have g2_3p := g2_3
       all_goals try simp [F] at g2_3p
       all_goals
        replace F := And.intro g2_3 F
        try replace F := And.intro g2_3p F
        refine go2 (k := ?_)
        refine go2 (k := ?_)
        refine go2 (k := ?_)
        refine gs 20 (fun g2_8 => ?_) (fun g2_8 => ?_)
        · try exact nope g2_8
          all_goals have g2_8p := g2_8
          all_goals try simp [F] at g2_8p
          all_goals
           replace F := And.intro g2_8 F
           try replace F := And.intro g2_8p F
           refine go2 (k := ?_)
           refine go2 (k := ?_)
           refine go2 (k := ?_)
           refine go2 (k := ?_)
           refine gs 26 (fun g2_14 => ?_) (fun g2_14 => ?_)
           · try exact nope g2_14
             all_goals have g2_14p := g2_14
             all_goals try simp [F] at g2_14p
             all_goals
              replace F := And.intro g2_14 F
              try replace F := And.intro g2_14p F
              refine go2 (k := ?_)
              refine go2 (k := ?_)
              refine go2 (k := ?_)
              refine go2 (k := ?_)
              refine hJ7 _ _ ?_
              refine hK6 _ _ ?_
              refine run_ret ?_
              try simp only [Then, InBlock, NoGoto]
              refine answer_tmp rfl (.inr rfl) ?_
              exact gcr (hA := by simp only [putA_get]; simp [rightB, hkn, F]; exact Wk.refl _)
           try exact nope g2_14
           all_goals have g2_14p := g2_14
           all_goals try simp [F] at g2_14p
           all_goals
            replace F := And.intro g2_14 F
            try replace F := And.intro g2_14p F
            refine no2 (k := ?_)
            refine no2 (k := ?_)
            refine no2 (k := ?_)
            refine no2 (k := ?_)
            refine hJ7 _ _ ?_
            refine hK6 _ _ ?_
            refine run_ret ?_
            try simp only [Then, InBlock, NoGoto]
            refine answer_tmp rfl (.inr rfl) ?_
            exact gcr (hA := by simp only [putA_get]; simp [rightB, hkn, F]; exact Wk.refl _)
        try exact nope g2_8
        all_goals have g2_8p := g2_8
        all_goals try simp [F] at g2_8p
        all_goals
         replace F := And.intro g2_8 F
         try replace F := And.intro g2_8p F
         refine no2 (k := ?_)
         refine no2 (k := ?_)
         refine no2 (k := ?_)
         refine no2 (k := ?_)
         refine no2 (k := ?_)
         refine no2 (k := ?_)
         refine no2 (k := ?_)
         refine no2 (k := ?_)
         refine hJ7 _ _ ?_
         refine hK6 _ _ ?_
         refine run_ret ?_
         try simp only [Then, InBlock, NoGoto]
         refine answer_tmp rfl (.inr rfl) ?_
         exact gcr (hA := by simp only [putA_get]; simp [rightB, hkn, F]; exact Wk.refl _)
     try exact nope g2_3
     all_goals have g2_3p := g2_3
     all_goals try simp [F] at g2_3p
     all_goals
      replace F := And.intro g2_3 F
      try replace F := And.intro g2_3p F
      refine no2 (k := ?_)
      refine no2 (k := ?_)
      refine no2 (k := ?_)
      refine no2 (k := ?_)
      refine no2 (k := ?_)
      refine no2 (k := ?_)
      refine no2 (k := ?_)
      refine no2 (k := ?_)
      refine no2 (k := ?_)
      refine no2 (k := ?_)
      refine no2 (k := ?_)
      refine hJ7 _ _ ?_
      refine hK6 _ _ ?_
      refine run_ret ?_
      try simp only [Then, InBlock, NoGoto]
      refine answer_tmp rfl (.inr rfl) ?_
      exact gcr (hA := by simp only [putA_get]; simp [rightB, hkn, F]; exact Wk.refl _)
  try exact nope c11
  all_goals have c11p := c11
  all_goals try simp [F] at c11p
  all_goals
   replace F := And.intro c11 F
   try replace F := And.intro c11p F
   refine run_skip ?_
   refine hK3 _ _ ?_
   refine sq fun K8 hK8 => ?_
   refine sq fun K9 hK9 => ?_
   refine rg' (h := fun J10 hJ10 => ?_)
   refine gs 35 (fun g3_3 => ?_) (fun g3_3 => ?_)
   · try exact nope g3_3
     all_goals have g3_3p := g3_3
     all_goals try simp [F] at g3_3p
     all_goals
      replace F := And.intro g3_3 F
      try replace F := And.intro g3_3p F
      have n1 : ¬ (pk.toNat : Int) = 1 ∧ ¬ (pk.toNat : Int) = 2 ∧ ¬ (pk.toNat : Int) = 3 ∧ ¬ (pk.toNat : Int) = 4 ∧ ¬ (pk.toNat : Int) = 5 := by have h := g3_3; simp at h; omega
      replace F := And.intro n1 F
      refine no2 (k := ?_)
      refine no2 (k := ?_)
      refine no2 (k := ?_)
      refine no2 (k := ?_)
      refine no2 (k := ?_)
      refine no2 (k := ?_)
      refine no2 (k := ?_)
      refine no2 (k := ?_)
      refine no2 (k := ?_)
      refine no2 (k := ?_)
      refine no2 (k := ?_)
      refine hJ10 _ _ ?_
      refine hK9 _ _ ?_
      refine ct ?_
      refine sq fun K11 hK11 => ?_
      refine rg' (h := fun J12 hJ12 => ?_)
      refine hJ12 _ _ ?_
      refine hK11 _ _ ?_
      refine run_ret ?_
      try simp only [Then, InBlock, NoGoto]
      refine answer_tmp rfl (.inr rfl) ?_
      exact gcr (hA := by simp only [putA_get]; simp [rightB, hkn, F]; exact Wk.refl _)
   try exact nope g3_3
   all_goals have g3_3p := g3_3
   all_goals try simp [F] at g3_3p
   all_goals
    replace F := And.intro g3_3 F
    try replace F := And.intro g3_3p F
    refine go2 (k := ?_)
    refine go2 (k := ?_)
    refine go2 (k := ?_)
    refine go2 (k := ?_)
    refine gs 41 (fun g3_9 => ?_) (fun g3_9 => ?_)
    · try exact nope g3_9
      all_goals have g3_9p := g3_9
      all_goals try simp [F] at g3_9p
      all_goals
       replace F := And.intro g3_9 F
       try replace F := And.intro g3_9p F
       refine no2 (k := ?_)
       refine no2 (k := ?_)
       refine no2 (k := ?_)
       refine no2 (k := ?_)
       refine no2 (k := ?_)
       refine no2 (k := ?_)
       refine no2 (k := ?_)
       refine hJ10 _ _ ?_
       refine hK9 _ _ ?_
       refine ct ?_
       refine sq fun K13 hK13 => ?_
       refine rg' (h := fun J14 hJ14 => ?_)
       refine hJ14 _ _ ?_
       refine hK13 _ _ ?_
       refine run_ret ?_
       try simp only [Then, InBlock, NoGoto]
       refine answer_tmp rfl (.inr rfl) ?_
       exact gcr (hA := by simp only [putA_get]; simp [rightB, hkn, F]; exact Wk.refl _)
    try exact nope g3_9
    all_goals have g3_9p := g3_9
    all_goals try simp [F] at g3_9p
    all_goals
     replace F := And.intro g3_9 F
     try replace F := And.intro g3_9p F
     refine go2 (k := ?_)
     refine go2 (k := ?_)
     refine ca (c := rright_ok k3) (k := ?_)
     rintro _ _ ⟨rfl, rfl⟩
     repeat (first | simp [F] | simp (disch := omega) only [wC, if_pos, if_neg])
     refine go2 (k := ?_)
     refine gs 47 (fun g3_15 => ?_) (fun g3_15 => ?_)
     · try exact nope g3_15
       all_goals have g3_15p := g3_15
       all_goals try simp [F] at g3_15p
       all_goals
        replace F := And.intro g3_15 F
        try replace F := And.intro g3_15p F
        refine no2 (k := ?_)
        refine no2 (k := ?_)
        refine no2 (k := ?_)
        refine hJ10 _ _ ?_
        refine hK9 _ _ ?_
        refine ct ?_
        refine sq fun K15 hK15 => ?_
        refine rg' (h := fun J16 hJ16 => ?_)
        refine hJ16 _ _ ?_
        refine hK15 _ _ ?_
        refine run_ret ?_
        try simp only [Then, InBlock, NoGoto]
        refine answer_tmp rfl (.inr rfl) ?_
        exact gcr (hA := by simp only [putA_get]; simp [rightB, hkn, F]; exact Wk.refl _)
     try exact nope g3_15
     all_goals have g3_15p := g3_15
     all_goals try simp [F] at g3_15p
     all_goals
      replace F := And.intro g3_15 F
      try replace F := And.intro g3_15p F
      refine go2 (k := ?_)
      refine go2 (k := ?_)
      refine go2 (k := ?_)
      refine hJ10 _ _ ?_
      refine hK9 _ _ ?_
      refine cs (fun c51 => ?_) (fun c51 => ?_)
      · try exact nope c51
        all_goals have c51p := c51
        all_goals try simp [F] at c51p
        all_goals
         replace F := And.intro c51 F
         try replace F := And.intro c51p F
         have n1 : 1099511627776 < pe := by have h := c51; simp at h; omega
         replace F := And.intro n1 F
         refine sq fun K17 hK17 => ?_
         refine rg' (h := fun J18 hJ18 => ?_)
         refine hJ18 _ _ ?_
         refine hK17 _ _ ?_
         refine run_ret ?_
         try simp only [Then, InBlock, NoGoto]
         refine answer_tmp rfl (.inr rfl) ?_
         exact gcr (hA := by simp only [putA_get]; simp [rightB, hkn, F]; exact Wk.refl _)
      try exact nope c51
      all_goals have c51p := c51
      all_goals try simp [F] at c51p
      all_goals
       replace F := And.intro c51 F
       try replace F := And.intro c51p F
       have hs3' : ¬ 1099511627776 < pe := by have h := c51; simp at h; omega
       have hs1 : ¬ pt = [] := by simp [F]
       have hs2 : Right pt := by simp [F]
       have hb := hp2 (by omega) hs1
       replace F := And.intro hb (And.intro hs3' F)
       refine run_skip ?_
       refine hK8 _ _ ?_
       refine sq fun K19 hK19 => ?_
       refine sq fun K20 hK20 => ?_
       refine rg' (h := fun J21 hJ21 => ?_)
       refine gs 55 (fun g5_3 => ?_) (fun g5_3 => ?_)
       · try exact nope g5_3
         all_goals have g5_3p := g5_3
         all_goals try simp [F] at g5_3p
         all_goals
          replace F := And.intro g5_3 F
          try replace F := And.intro g5_3p F
          refine go2 (k := ?_)
          refine go2 (k := ?_)
          refine go2 (k := ?_)
          refine hJ21 _ _ ?_
          refine hK20 _ _ ?_
          refine cs (fun c59 => ?_) (fun c59 => ?_)
          · try exact nope c59
            all_goals have c59p := c59
            all_goals try simp [F] at c59p
            all_goals
             replace F := And.intro c59 F
             try replace F := And.intro c59p F
             refine sq fun K22 hK22 => ?_
             refine sq fun K23 hK23 => ?_
             refine rg' (h := fun J24 hJ24 => ?_)
             refine hJ24 _ _ ?_
             refine hK23 _ _ ?_
             refine cs (fun c63 => ?_) (fun c63 => ?_)
             · try exact nope c63
               all_goals have c63p := c63
               all_goals try simp [F] at c63p
               all_goals
                replace F := And.intro c63 F
                try replace F := And.intro c63p F
                have n1 : ¬ pp = [] := fun e => by rw [e] at c63; simp at c63
                replace F := And.intro n1 F
                refine sq fun K25 hK25 => ?_
                refine rg' (h := fun J26 hJ26 => ?_)
                refine hJ26 _ _ ?_
                refine hK25 _ _ ?_
                refine run_ret ?_
                try simp only [Then, InBlock, NoGoto]
                refine answer_tmp rfl (.inr rfl) ?_
                exact gcr (hA := by simp only [putA_get]; simp [rightB, hkn, F]; exact Wk.refl _)
             try exact nope c63
             all_goals have c63p := c63
             all_goals try simp [F] at c63p
             all_goals
              replace F := And.intro c63 F
              try replace F := And.intro c63p F
              refine run_skip ?_
              refine hK22 _ _ ?_
              refine sq fun K27 hK27 => ?_
              refine rg' (h := fun J28 hJ28 => ?_)
              refine gs 67 (fun g8_3 => ?_) (fun g8_3 => ?_)
              · try exact nope g8_3
                all_goals have g8_3p := g8_3
                all_goals try simp [F] at g8_3p
                all_goals
                 replace F := And.intro g8_3 F
                 try replace F := And.intro g8_3p F
                 refine go2 (k := ?_)
                 refine go2 (k := ?_)
                 refine go2 (k := ?_)
                 refine go2 (k := ?_)
                 refine go2 (k := ?_)
                 refine gs 74 (fun g8_10 => ?_) (fun g8_10 => ?_)
                 · try exact nope g8_10
                   all_goals have g8_10p := g8_10
                   all_goals try simp [F] at g8_10p
                   all_goals
                    replace F := And.intro g8_10 F
                    try replace F := And.intro g8_10p F
                    refine no2 (k := ?_)
                    refine no2 (k := ?_)
                    refine no2 (k := ?_)
                    refine no2 (k := ?_)
                    refine no2 (k := ?_)
                    refine no2 (k := ?_)
                    refine no2 (k := ?_)
                    refine no2 (k := ?_)
                    refine no2 (k := ?_)
                    refine no2 (k := ?_)
                    refine no2 (k := ?_)
                    refine no2 (k := ?_)
                    refine no2 (k := ?_)
                    refine no2 (k := ?_)
                    refine no2 (k := ?_)
                    refine no2 (k := ?_)
                    refine no2 (k := ?_)
                    refine no2 (k := ?_)
                    refine no2 (k := ?_)
                    refine no2 (k := ?_)
                    refine no2 (k := ?_)
                    refine hJ28 _ _ ?_
                    refine hK27 _ _ ?_
                    refine run_ret ?_
                    try simp only [Then, InBlock, NoGoto]
                    refine answer_tmp rfl (.inr rfl) ?_
                    exact gcr (hA := by simp only [putA_get]; simp [rightB, hkn, F]; exact Wk.refl _)
                 try exact nope g8_10
                 all_goals have g8_10p := g8_10
                 all_goals try simp [F] at g8_10p
                 all_goals
                  replace F := And.intro g8_10 F
                  try replace F := And.intro g8_10p F
                  refine go2 (k := ?_)
                  refine go2 (k := ?_)
                  refine go2 (k := ?_)
                  refine go2 (k := ?_)
                  refine gs 78 (fun g8_14 => ?_) (fun g8_14 => ?_)
                  · try exact nope g8_14
                    all_goals have g8_14p := g8_14
                    all_goals try simp [F] at g8_14p
                    all_goals
                     replace F := And.intro g8_14 F
                     try replace F := And.intro g8_14p F
                     refine go2 (k := ?_)
                     refine go2 (k := ?_)
                     refine go2 (k := ?_)
                     refine go2 (k := ?_)
                     refine gs 84 (fun g8_20 => ?_) (fun g8_20 => ?_)
                     · try exact nope g8_20
                       all_goals have g8_20p := g8_20
                       all_goals try simp [F] at g8_20p
                       all_goals
                        replace F := And.intro g8_20 F
                        try replace F := And.intro g8_20p F
                        refine no2 (k := ?_)
                        refine no2 (k := ?_)
                        refine no2 (k := ?_)
                        refine no2 (k := ?_)
                        refine no2 (k := ?_)
                        refine no2 (k := ?_)
                        refine no2 (k := ?_)
                        refine no2 (k := ?_)
                        refine no2 (k := ?_)
                        refine no2 (k := ?_)
                        refine no2 (k := ?_)
                        refine no2 (k := ?_)
                        refine no2 (k := ?_)
                        refine hJ28 _ _ ?_
                        refine hK27 _ _ ?_
                        refine run_ret ?_
                        try simp only [Then, InBlock, NoGoto]
                        refine answer_tmp rfl (.inr rfl) ?_
                        exact gcr (hA := by simp only [putA_get]; simp [rightB, hkn, F]; exact Wk.refl _)
                     try exact nope g8_20
                     all_goals have g8_20p := g8_20
                     all_goals try simp [F] at g8_20p
                     all_goals
                      replace F := And.intro g8_20 F
                      try replace F := And.intro g8_20p F
                      refine go2 (k := ?_)
                      refine go2 (k := ?_)
                      refine go2 (k := ?_)
                      refine go2 (k := ?_)
                      refine gs 88 (fun g8_24 => ?_) (fun g8_24 => ?_)
                      · try exact nope g8_24
                        all_goals have g8_24p := g8_24
                        all_goals try simp [F] at g8_24p
                        all_goals
                         replace F := And.intro g8_24 F
                         try replace F := And.intro g8_24p F
                         refine go2 (k := ?_)
                         refine go2 (k := ?_)
                         refine go2 (k := ?_)
                         refine go2 (k := ?_)
                         refine go2 (k := ?_)
                         refine gs 93 (fun g8_29 => ?_) (fun g8_29 => ?_)
                         · try exact nope g8_29
                           all_goals have g8_29p := g8_29
                           all_goals try simp [F] at g8_29p
                           all_goals
                            replace F := And.intro g8_29 F
                            try replace F := And.intro g8_29p F
                            refine go2 (k := ?_)
                            refine go2 (k := ?_)
                            refine go2 (k := ?_)
                            refine go2 (k := ?_)
                            refine hJ28 _ _ ?_
                            refine hK27 _ _ ?_
                            refine run_ret ?_
                            try simp only [Then, InBlock, NoGoto]
                            refine answer_tmp rfl (.inr rfl) ?_
                            exact gcr (hA := by simp only [putA_get]; simp [rightB, hkn, F]; exact Wk.refl _)
                         try exact nope g8_29
                         all_goals have g8_29p := g8_29
                         all_goals try simp [F] at g8_29p
                         all_goals
                          replace F := And.intro g8_29 F
                          try replace F := And.intro g8_29p F
                          refine no2 (k := ?_)
                          refine no2 (k := ?_)
                          refine no2 (k := ?_)
                          refine go2 (k := ?_)
                          refine hJ28 _ _ ?_
                          refine hK27 _ _ ?_
                          refine run_ret ?_
                          try simp only [Then, InBlock, NoGoto]
                          refine answer_tmp rfl (.inr rfl) ?_
                          exact gcr (hA := by simp only [putA_get]; simp [rightB, hkn, F]; exact Wk.refl _)
                      try exact nope g8_24
                      all_goals have g8_24p := g8_24
                      all_goals try simp [F] at g8_24p
                      all_goals
                       replace F := And.intro g8_24 F
                       try replace F := And.intro g8_24p F
                       refine no2 (k := ?_)
                       refine no2 (k := ?_)
                       refine no2 (k := ?_)
                       refine go2 (k := ?_)
                       refine go2 (k := ?_)
                       refine no2 (k := ?_)
                       refine no2 (k := ?_)
                       refine no2 (k := ?_)
                       refine go2 (k := ?_)
                       refine hJ28 _ _ ?_
                       refine hK27 _ _ ?_
                       refine run_ret ?_
                       try simp only [Then, InBlock, NoGoto]
                       refine answer_tmp rfl (.inr rfl) ?_
                       exact gcr (hA := by simp only [putA_get]; simp [rightB, hkn, F]; exact Wk.refl _)
                  try exact nope g8_14
                  all_goals have g8_14p := g8_14
                  all_goals try simp [F] at g8_14p
                  all_goals
                   replace F := And.intro g8_14 F
                   try replace F := And.intro g8_14p F
                   refine no2 (k := ?_)
                   refine no2 (k := ?_)
                   refine no2 (k := ?_)
                   refine go2 (k := ?_)
                   refine go2 (k := ?_)
                   refine go2 (k := ?_)
                   refine go2 (k := ?_)
                   refine go2 (k := ?_)
                   refine gs 88 (fun g8_24 => ?_) (fun g8_24 => ?_)
                   · try exact nope g8_24
                     all_goals have g8_24p := g8_24
                     all_goals try simp [F] at g8_24p
                     all_goals
                      replace F := And.intro g8_24 F
                      try replace F := And.intro g8_24p F
                      refine go2 (k := ?_)
                      refine go2 (k := ?_)
                      refine go2 (k := ?_)
                      refine go2 (k := ?_)
                      refine go2 (k := ?_)
                      refine gs 93 (fun g8_29 => ?_) (fun g8_29 => ?_)
                      · try exact nope g8_29
                        all_goals have g8_29p := g8_29
                        all_goals try simp [F] at g8_29p
                        all_goals
                         replace F := And.intro g8_29 F
                         try replace F := And.intro g8_29p F
                         refine go2 (k := ?_)
                         refine go2 (k := ?_)
                         refine go2 (k := ?_)
                         refine go2 (k := ?_)
                         refine hJ28 _ _ ?_
                         refine hK27 _ _ ?_
                         refine run_ret ?_
                         try simp only [Then, InBlock, NoGoto]
                         refine answer_tmp rfl (.inr rfl) ?_
                         exact gcr (hA := by simp only [putA_get]; simp [rightB, hkn, F]; exact Wk.refl _)
                      try exact nope g8_29
                      all_goals have g8_29p := g8_29
                      all_goals try simp [F] at g8_29p
                      all_goals
                       replace F := And.intro g8_29 F
                       try replace F := And.intro g8_29p F
                       refine no2 (k := ?_)
                       refine no2 (k := ?_)
                       refine no2 (k := ?_)
                       refine go2 (k := ?_)
                       refine hJ28 _ _ ?_
                       refine hK27 _ _ ?_
                       refine run_ret ?_
                       try simp only [Then, InBlock, NoGoto]
                       refine answer_tmp rfl (.inr rfl) ?_
                       exact gcr (hA := by simp only [putA_get]; simp [rightB, hkn, F]; exact Wk.refl _)
                   try exact nope g8_24
                   all_goals have g8_24p := g8_24
                   all_goals try simp [F] at g8_24p
                   all_goals
                    replace F := And.intro g8_24 F
                    try replace F := And.intro g8_24p F
                    refine no2 (k := ?_)
                    refine no2 (k := ?_)
                    refine no2 (k := ?_)
                    refine go2 (k := ?_)
                    refine go2 (k := ?_)
                    refine no2 (k := ?_)
                    refine no2 (k := ?_)
                    refine no2 (k := ?_)
                    refine go2 (k := ?_)
                    refine hJ28 _ _ ?_
                    refine hK27 _ _ ?_
                    refine run_ret ?_
                    try simp only [Then, InBlock, NoGoto]
                    refine answer_tmp rfl (.inr rfl) ?_
                    exact gcr (hA := by simp only [putA_get]; simp [rightB, hkn, F]; exact Wk.refl _)
              try exact nope g8_3
              all_goals have g8_3p := g8_3
              all_goals try simp [F] at g8_3p
              all_goals
               replace F := And.intro g8_3 F
               try replace F := And.intro g8_3p F
               refine no2 (k := ?_)
               refine no2 (k := ?_)
               refine no2 (k := ?_)
               refine no2 (k := ?_)
               refine no2 (k := ?_)
               refine go2 (k := ?_)
               refine go2 (k := ?_)
               refine go2 (k := ?_)
               refine go2 (k := ?_)
               refine gs 78 (fun g8_14 => ?_) (fun g8_14 => ?_)
               · try exact nope g8_14
                 all_goals have g8_14p := g8_14
                 all_goals try simp [F] at g8_14p
                 all_goals
                  replace F := And.intro g8_14 F
                  try replace F := And.intro g8_14p F
                  refine go2 (k := ?_)
                  refine go2 (k := ?_)
                  refine go2 (k := ?_)
                  refine go2 (k := ?_)
                  refine gs 84 (fun g8_20 => ?_) (fun g8_20 => ?_)
                  · try exact nope g8_20
                    all_goals have g8_20p := g8_20
                    all_goals try simp [F] at g8_20p
                    all_goals
                     replace F := And.intro g8_20 F
                     try replace F := And.intro g8_20p F
                     refine no2 (k := ?_)
                     refine no2 (k := ?_)
                     refine no2 (k := ?_)
                     refine no2 (k := ?_)
                     refine no2 (k := ?_)
                     refine no2 (k := ?_)
                     refine no2 (k := ?_)
                     refine no2 (k := ?_)
                     refine no2 (k := ?_)
                     refine no2 (k := ?_)
                     refine no2 (k := ?_)
                     refine no2 (k := ?_)
                     refine no2 (k := ?_)
                     refine hJ28 _ _ ?_
                     refine hK27 _ _ ?_
                     refine run_ret ?_
                     try simp only [Then, InBlock, NoGoto]
                     refine answer_tmp rfl (.inr rfl) ?_
                     exact gcr (hA := by simp only [putA_get]; simp [rightB, hkn, F]; exact Wk.refl _)
                  try exact nope g8_20
                  all_goals have g8_20p := g8_20
                  all_goals try simp [F] at g8_20p
                  all_goals
                   replace F := And.intro g8_20 F
                   try replace F := And.intro g8_20p F
                   refine go2 (k := ?_)
                   refine go2 (k := ?_)
                   refine go2 (k := ?_)
                   refine go2 (k := ?_)
                   refine gs 88 (fun g8_24 => ?_) (fun g8_24 => ?_)
                   · try exact nope g8_24
                     all_goals have g8_24p := g8_24
                     all_goals try simp [F] at g8_24p
                     all_goals
                      replace F := And.intro g8_24 F
                      try replace F := And.intro g8_24p F
                      refine go2 (k := ?_)
                      refine go2 (k := ?_)
                      refine go2 (k := ?_)
                      refine go2 (k := ?_)
                      refine go2 (k := ?_)
                      refine gs 93 (fun g8_29 => ?_) (fun g8_29 => ?_)
                      · try exact nope g8_29
                        all_goals have g8_29p := g8_29
                        all_goals try simp [F] at g8_29p
                        all_goals
                         replace F := And.intro g8_29 F
                         try replace F := And.intro g8_29p F
                         refine go2 (k := ?_)
                         refine go2 (k := ?_)
                         refine go2 (k := ?_)
                         refine go2 (k := ?_)
                         refine hJ28 _ _ ?_
                         refine hK27 _ _ ?_
                         refine run_ret ?_
                         try simp only [Then, InBlock, NoGoto]
                         refine answer_tmp rfl (.inr rfl) ?_
                         exact gcr (hA := by simp only [putA_get]; simp [rightB, hkn, F]; exact Wk.refl _)
                      try exact nope g8_29
                      all_goals have g8_29p := g8_29
                      all_goals try simp [F] at g8_29p
                      all_goals
                       replace F := And.intro g8_29 F
                       try replace F := And.intro g8_29p F
                       refine no2 (k := ?_)
                       refine no2 (k := ?_)
                       refine no2 (k := ?_)
                       refine go2 (k := ?_)
                       refine hJ28 _ _ ?_
                       refine hK27 _ _ ?_
                       refine run_ret ?_
                       try simp only [Then, InBlock, NoGoto]
                       refine answer_tmp rfl (.inr rfl) ?_
                       exact gcr (hA := by simp only [putA_get]; simp [rightB, hkn, F]; exact Wk.refl _)
                   try exact nope g8_24
                   all_goals have g8_24p := g8_24
                   all_goals try simp [F] at g8_24p
                   all_goals
                    replace F := And.intro g8_24 F
                    try replace F := And.intro g8_24p F
                    refine no2 (k := ?_)
                    refine no2 (k := ?_)
                    refine no2 (k := ?_)
                    refine go2 (k := ?_)
                    refine go2 (k := ?_)
                    refine no2 (k := ?_)
                    refine no2 (k := ?_)
                    refine no2 (k := ?_)
                    refine go2 (k := ?_)
                    refine hJ28 _ _ ?_
                    refine hK27 _ _ ?_
                    refine run_ret ?_
                    try simp only [Then, InBlock, NoGoto]
                    refine answer_tmp rfl (.inr rfl) ?_
                    exact gcr (hA := by simp only [putA_get]; simp [rightB, hkn, F]; exact Wk.refl _)
               try exact nope g8_14
               all_goals have g8_14p := g8_14
               all_goals try simp [F] at g8_14p
               all_goals
                replace F := And.intro g8_14 F
                try replace F := And.intro g8_14p F
                refine no2 (k := ?_)
                refine no2 (k := ?_)
                refine no2 (k := ?_)
                refine go2 (k := ?_)
                refine go2 (k := ?_)
                refine go2 (k := ?_)
                refine go2 (k := ?_)
                refine go2 (k := ?_)
                refine gs 88 (fun g8_24 => ?_) (fun g8_24 => ?_)
                · try exact nope g8_24
                  all_goals have g8_24p := g8_24
                  all_goals try simp [F] at g8_24p
                  all_goals
                   replace F := And.intro g8_24 F
                   try replace F := And.intro g8_24p F
                   refine go2 (k := ?_)
                   refine go2 (k := ?_)
                   refine go2 (k := ?_)
                   refine go2 (k := ?_)
                   refine go2 (k := ?_)
                   refine gs 93 (fun g8_29 => ?_) (fun g8_29 => ?_)
                   · try exact nope g8_29
                     all_goals have g8_29p := g8_29
                     all_goals try simp [F] at g8_29p
                     all_goals
                      replace F := And.intro g8_29 F
                      try replace F := And.intro g8_29p F
                      refine go2 (k := ?_)
                      refine go2 (k := ?_)
                      refine go2 (k := ?_)
                      refine go2 (k := ?_)
                      refine hJ28 _ _ ?_
                      refine hK27 _ _ ?_
                      refine run_ret ?_
                      try simp only [Then, InBlock, NoGoto]
                      refine answer_tmp rfl (.inr rfl) ?_
                      exact gcr (hA := by simp only [putA_get]; simp [rightB, hkn, F]; exact Wk.refl _)
                   try exact nope g8_29
                   all_goals have g8_29p := g8_29
                   all_goals try simp [F] at g8_29p
                   all_goals
                    replace F := And.intro g8_29 F
                    try replace F := And.intro g8_29p F
                    refine no2 (k := ?_)
                    refine no2 (k := ?_)
                    refine no2 (k := ?_)
                    refine go2 (k := ?_)
                    refine hJ28 _ _ ?_
                    refine hK27 _ _ ?_
                    refine run_ret ?_
                    try simp only [Then, InBlock, NoGoto]
                    refine answer_tmp rfl (.inr rfl) ?_
                    exact gcr (hA := by simp only [putA_get]; simp [rightB, hkn, F]; exact Wk.refl _)
                try exact nope g8_24
                all_goals have g8_24p := g8_24
                all_goals try simp [F] at g8_24p
                all_goals
                 replace F := And.intro g8_24 F
                 try replace F := And.intro g8_24p F
                 refine no2 (k := ?_)
                 refine no2 (k := ?_)
                 refine no2 (k := ?_)
                 refine go2 (k := ?_)
                 refine go2 (k := ?_)
                 refine no2 (k := ?_)
                 refine no2 (k := ?_)
                 refine no2 (k := ?_)
                 refine go2 (k := ?_)
                 refine hJ28 _ _ ?_
                 refine hK27 _ _ ?_
                 refine run_ret ?_
                 try simp only [Then, InBlock, NoGoto]
                 refine answer_tmp rfl (.inr rfl) ?_
                 exact gcr (hA := by simp only [putA_get]; simp [rightB, hkn, F]; exact Wk.refl _)
          try exact nope c59
          all_goals have c59p := c59
          all_goals try simp [F] at c59p
          all_goals
           replace F := And.intro c59 F
           try replace F := And.intro c59p F
           refine run_skip ?_
           refine hK19 _ _ ?_
           refine sq fun K29 hK29 => ?_
           refine sq fun K30 hK30 => ?_
           refine rg' (h := fun J31 hJ31 => ?_)
           refine gs 103 (fun g9_4 => ?_) (fun g9_4 => ?_)
           · try exact nope g9_4
             all_goals have g9_4p := g9_4
             all_goals try simp [F] at g9_4p
             all_goals
              replace F := And.intro g9_4 F
              try replace F := And.intro g9_4p F
              have n0 : pp = [] := by simpa using g9_4
              have n2 : perB ⟨pk, ps, pe, pt, []⟩ = false := by rw [← n0, hb]; simp [n0]
              replace F := And.intro n2 F
              refine no2 (k := ?_)
              refine no2 (k := ?_)
              refine no2 (k := ?_)
              refine no2 (k := ?_)
              refine no2 (k := ?_)
              refine no2 (k := ?_)
              refine no2 (k := ?_)
              refine no2 (k := ?_)
              refine no2 (k := ?_)
              refine hJ31 _ _ ?_
              refine hK30 _ _ ?_
              refine ct ?_
              refine sq fun K32 hK32 => ?_
              refine rg' (h := fun J33 hJ33 => ?_)
              refine hJ33 _ _ ?_
              refine hK32 _ _ ?_
              refine run_ret ?_
              try simp only [Then, InBlock, NoGoto]
              refine answer_tmp rfl (.inr rfl) ?_
              exact gcr (hA := by simp only [putA_get]; simp [rightB, hkn, F]; exact Wk.refl _)
           try exact nope g9_4
           all_goals have g9_4p := g9_4
           all_goals try simp [F] at g9_4p
           all_goals
            replace F := And.intro g9_4 F
            try replace F := And.intro g9_4p F
            refine go2 (k := ?_)
            refine go2 (k := ?_)
            refine go2 (k := ?_)
            refine go2 (k := ?_)
            refine gs 109 (fun g9_10 => ?_) (fun g9_10 => ?_)
            · try exact nope g9_10
              all_goals have g9_10p := g9_10
              all_goals try simp [F] at g9_10p
              all_goals
               replace F := And.intro g9_10 F
               try replace F := And.intro g9_10p F
               have n1 : ¬ pp.length ≤ 16 := by have h := g9_10; simp at h; omega
               have n2 : perB ⟨pk, ps, pe, pt, pp⟩ = false := by rw [hb]; simp [n1]
               replace F := And.intro n2 F
               refine no2 (k := ?_)
               refine no2 (k := ?_)
               refine no2 (k := ?_)
               refine no2 (k := ?_)
               refine no2 (k := ?_)
               refine hJ31 _ _ ?_
               refine hK30 _ _ ?_
               refine ct ?_
               refine sq fun K34 hK34 => ?_
               refine rg' (h := fun J35 hJ35 => ?_)
               refine hJ35 _ _ ?_
               refine hK34 _ _ ?_
               refine run_ret ?_
               try simp only [Then, InBlock, NoGoto]
               refine answer_tmp rfl (.inr rfl) ?_
               exact gcr (hA := by simp only [putA_get]; simp [rightB, hkn, F]; exact Wk.refl _)
            try exact nope g9_10
            all_goals have g9_10p := g9_10
            all_goals try simp [F] at g9_10p
            all_goals
             replace F := And.intro g9_10 F
             try replace F := And.intro g9_10p F
             refine go2 (k := ?_)
             refine go2 (k := ?_)
             refine go2 (k := ?_)
             refine go2 (k := ?_)
             refine go2 (k := ?_)
             refine hJ31 _ _ ?_
             refine hK30 _ _ ?_
             refine cs (fun c115 => ?_) (fun c115 => ?_)
             · try exact nope c115
               all_goals have c115p := c115
               all_goals try simp [F] at c115p
               all_goals
                replace F := And.intro c115 F
                try replace F := And.intro c115p F
                have n1 : pp = [] ∨ ¬ pp.length ≤ 16 ∨ ¬ ps ≤ pe := by first | (have h := c115; simp at h; omega) | (have h := g9_10; simp at h; omega) | exact .inl (by simpa using g9_4)
                have n2 : perB ⟨pk, ps, pe, pt, pp⟩ = false := by rw [hb]; rcases n1 with h | h | h <;> simp [h]
                replace F := And.intro n2 F
                refine sq fun K36 hK36 => ?_
                refine rg' (h := fun J37 hJ37 => ?_)
                refine hJ37 _ _ ?_
                refine hK36 _ _ ?_
                refine run_ret ?_
                try simp only [Then, InBlock, NoGoto]
                refine answer_tmp rfl (.inr rfl) ?_
                exact gcr (hA := by simp only [putA_get]; simp [rightB, hkn, F]; exact Wk.refl _)
             try exact nope c115
             all_goals have c115p := c115
             all_goals try simp [F] at c115p
             all_goals
              replace F := And.intro c115 F
              try replace F := And.intro c115p F
              refine run_skip ?_
              refine hK29 _ _ ?_
              refine sq fun K38 hK38 => ?_
              have hse : ps ≤ pe := by have h := c115; simp at h; omega
              have hp16 : pp.length ≤ 16 := by have h := g9_10; simp at h; omega
              have hpn : ¬ pp = [] := by simp [F]
              have hpB : perB ⟨pk, ps, pe, pt, pp⟩ = decide (perOk2 pp (pe - ps) [] = some (0, pt)) := by rw [hb]; simp [hse, hp16, hpn]
              have hw0 : IntKind.u64.wrap ((pe : Int) - ps) = ((pe - ps : Nat) : Int) := by rw [wrap_u64c (by omega)]; omega
              replace F := And.intro hpB (And.intro hw0 F)
              refine rg' (h := fun J39 hJ39 => ?_)
              refine hJ39 _ _ ?_
              refine hK38 _ _ ?_
              refine sq fun K40 hK40 => ?_
              refine rg' (h := fun J41 hJ41 => ?_)
              refine hJ41 _ _ ?_
              refine hK40 _ _ ?_
              refine sq fun K42 hK42 => ?_
              refine sq fun K43 hK43 => ?_
              refine run_nilsh 4 5 (k := ?_)
              refine rg' (h := fun J44 hJ44 => ?_)
              refine hJ44 _ _ ?_
              refine hK43 _ _ ?_
              refine run_block_k ?_
              refine run_loopG (X := PerQ) [1] (fun q ρ σ1 => (q.i ≤ pp.length) ∧ (perOk2 pp (pe - ps) [] = perOk2 (pp.drop q.i) q.e q.a) ∧ (q.e < 2 ^ 64) ∧ (Right q.a) ∧ (ρ 3 = .v (.int .u64 q.e)) ∧ (ρ 4 = .sl 5 (coinsC q.a) q.a.length .shut) ∧ (ρ 5 = .v (.int .i64 q.i)) ∧ (σ1 = { σ with objs := σ.objs ++ [[.v (.int .u8 pk.toNat), .v (.int .u64 ps), .v (.int .u64 pe), .sl 5 (coinsC pt) pt.length .shut, .sl 2 (persC pp) pp.length .shut]] })) (fun q => pp.length - q.i) (⟨0, pe - ps, []⟩) ?st1 ?rd1
              case st1 =>
               refine ⟨lp, ?_, lp, ?_, lp, lp, lp, ?_⟩
               · rfl
               · exact Go.Vm.right_nil
               · simp [F]
              case rd1 =>
               rintro q ρ1 σ1 hF1 ⟨hi, hE, hqe, hqr, h3, h4, h17, hσ⟩
               obtain rfl := hσ.symm
               have f1 := keepL hF1
               try simp [KeepL, F] at f1
               replace F := And.intro h3 F
               replace F := And.intro h4 F
               replace F := And.intro h17 F
               try replace F := And.intro f1 F
               refine sq fun K45 hK45 => ?_
               refine sq fun K46 hK46 => ?_
               refine rg' (h := fun J47 hJ47 => ?_)
               refine hJ47 _ _ ?_
               refine hK46 _ _ ?_
               refine cs (fun c125 => ?_) (fun c125 => ?_)
               · try exact nope c125
                 all_goals have c125p := c125
                 all_goals try simp [F] at c125p
                 all_goals
                  replace F := And.intro c125 F
                  try replace F := And.intro c125p F
                  refine run_skip ?_
                  refine hK45 _ _ ?_
                  refine sq fun K48 hK48 => ?_
                  refine run_block_k ?_
                  refine sq fun K49 hK49 => ?_
                  obtain ⟨i, E, S⟩ := q
                  simp only at hi hE hqe hqr h3 h4 h17
                  have hlt : i < pp.length := by simp at c125; omega
                  have hat := persC_at hlt
                  have hb1 : i * 2 + 2 ≤ pp.length * 2 := by omega
                  have hx5 := h5 _ (List.getElem_mem hlt)
                  have hcons : pp.drop i = pp[i] :: pp.drop (i + 1) := List.drop_eq_getElem_cons hlt
                  obtain ⟨x, hx⟩ : ∃ x, x = pp[i] := ⟨_, rfl⟩
                  rw [← hx] at hat hx5 hcons
                  rw [hcons] at hE
                  obtain ⟨xl, xc⟩ := x
                  obtain ⟨hxl, hxc⟩ := hx5
                  simp only at hxl hxc
                  simp only [perOk2] at hE
                  have hnilx : ((xc.length : Int) == 0) = decide (xc = []) := by cases xc <;> simp <;> omega
                  replace F := And.intro hlt F
                  replace F := And.intro hat F
                  replace F := And.intro hb1 F
                  replace F := And.intro hnilx F
                  refine rg' (h := fun J50 hJ50 => ?_)
                  refine hJ50 _ _ ?_
                  refine hK49 _ _ ?_
                  refine sq fun K51 hK51 => ?_
                  refine sq fun K52 hK52 => ?_
                  refine rg' (h := fun J53 hJ53 => ?_)
                  refine gs 136 (fun g17_3 => ?_) (fun g17_3 => ?_)
                  · try exact nope g17_3
                    all_goals have g17_3p := g17_3
                    all_goals try simp [F] at g17_3p
                    all_goals
                     replace F := And.intro g17_3 F
                     try replace F := And.intro g17_3p F
                     have hbad : perOk2 pp (pe - ps) [] = none := by rw [hE]; exact if_pos (.inl (by have h := g17_3; simp at h; omega))
                     replace F := And.intro hbad F
                     refine no2 (k := ?_)
                     refine no2 (k := ?_)
                     refine no2 (k := ?_)
                     refine no2 (k := ?_)
                     refine no2 (k := ?_)
                     refine no2 (k := ?_)
                     refine no2 (k := ?_)
                     refine no2 (k := ?_)
                     refine no2 (k := ?_)
                     refine no2 (k := ?_)
                     refine no2 (k := ?_)
                     refine no2 (k := ?_)
                     refine hJ53 _ _ ?_
                     refine hK52 _ _ ?_
                     refine ct ?_
                     refine sq fun K54 hK54 => ?_
                     refine rg' (h := fun J55 hJ55 => ?_)
                     refine hJ55 _ _ ?_
                     refine hK54 _ _ ?_
                     refine run_ret ?_
                     try simp only [Then, InBlock, NoGoto]
                     refine answer_tmp rfl (.inr rfl) ?_
                     exact gcr (hA := by simp only [putA_get]; simp [rightB, hkn, F]; exact Wk.refl _)
                  try exact nope g17_3
                  all_goals have g17_3p := g17_3
                  all_goals try simp [F] at g17_3p
                  all_goals
                   replace F := And.intro g17_3 F
                   try replace F := And.intro g17_3p F
                   refine go2 (k := ?_)
                   refine go2 (k := ?_)
                   refine go2 (k := ?_)
                   refine go2 (k := ?_)
                   refine gs 142 (fun g17_9 => ?_) (fun g17_9 => ?_)
                   · try exact nope g17_9
                     all_goals have g17_9p := g17_9
                     all_goals try simp [F] at g17_9p
                     all_goals
                      replace F := And.intro g17_9 F
                      try replace F := And.intro g17_9p F
                      have hbad : perOk2 pp (pe - ps) [] = none := by rw [hE]; exact if_pos (.inr (.inl (by have h := g17_9; simp at h; omega)))
                      replace F := And.intro hbad F
                      refine no2 (k := ?_)
                      refine no2 (k := ?_)
                      refine no2 (k := ?_)
                      refine no2 (k := ?_)
                      refine no2 (k := ?_)
                      refine no2 (k := ?_)
                      refine no2 (k := ?_)
                      refine no2 (k := ?_)
                      refine hJ53 _ _ ?_
                      refine hK52 _ _ ?_
                      refine ct ?_
                      refine sq fun K56 hK56 => ?_
                      refine rg' (h := fun J57 hJ57 => ?_)
                      refine hJ57 _ _ ?_
                      refine hK56 _ _ ?_
                      refine run_ret ?_
                      try simp only [Then, InBlock, NoGoto]
                      refine answer_tmp rfl (.inr rfl) ?_
                      exact gcr (hA := by simp only [putA_get]; simp [rightB, hkn, F]; exact Wk.refl _)
                   try exact nope g17_9
                   all_goals have g17_9p := g17_9
                   all_goals try simp [F] at g17_9p
                   all_goals
                    replace F := And.intro g17_9 F
                    try replace F := And.intro g17_9p F
                    refine go2 (k := ?_)
                    refine go2 (k := ?_)
                    refine go2 (k := ?_)
                    refine go2 (k := ?_)
                    refine gs 148 (fun g17_15 => ?_) (fun g17_15 => ?_)
                    · try exact nope g17_15
                      all_goals have g17_15p := g17_15
                      all_goals try simp [F] at g17_15p
                      all_goals
                       replace F := And.intro g17_15 F
                       try replace F := And.intro g17_15p F
                       have hbad : perOk2 pp (pe - ps) [] = none := by rw [hE]; exact if_pos (.inr (.inr (.inl (by simpa using g17_15))))
                       replace F := And.intro hbad F
                       refine no2 (k := ?_)
                       refine no2 (k := ?_)
                       refine no2 (k := ?_)
                       refine no2 (k := ?_)
                       refine hJ53 _ _ ?_
                       refine hK52 _ _ ?_
                       refine ct ?_
                       refine sq fun K58 hK58 => ?_
                       refine rg' (h := fun J59 hJ59 => ?_)
                       refine hJ59 _ _ ?_
                       refine hK58 _ _ ?_
                       refine run_ret ?_
                       try simp only [Then, InBlock, NoGoto]
                       refine answer_tmp rfl (.inr rfl) ?_
                       exact gcr (hA := by simp only [putA_get]; simp [rightB, hkn, F]; exact Wk.refl _)
                    try exact nope g17_15
                    all_goals have g17_15p := g17_15
                    all_goals try simp [F] at g17_15p
                    all_goals
                     replace F := And.intro g17_15 F
                     try replace F := And.intro g17_15p F
                     refine go2 (k := ?_)
                     refine go2 (k := ?_)
                     refine ca (c := rright_ok hxc) (k := ?_)
                     rintro _ _ ⟨rfl, rfl⟩
                     repeat (first | simp [F] | simp (disch := omega) only [wC, if_pos, if_neg])
                     refine go2 (k := ?_)
                     refine hJ53 _ _ ?_
                     refine hK52 _ _ ?_
                     refine cs (fun c153 => ?_) (fun c153 => ?_)
                     · try exact nope c153
                       all_goals have c153p := c153
                       all_goals try simp [F] at c153p
                       all_goals
                        replace F := And.intro c153 F
                        try replace F := And.intro c153p F
                        have hbad : perOk2 pp (pe - ps) [] = none := by rw [hE]; exact if_pos (.inr (.inr (.inr (by simpa using c153))))
                        replace F := And.intro hbad F
                        refine sq fun K60 hK60 => ?_
                        refine rg' (h := fun J61 hJ61 => ?_)
                        refine hJ61 _ _ ?_
                        refine hK60 _ _ ?_
                        refine run_ret ?_
                        try simp only [Then, InBlock, NoGoto]
                        refine answer_tmp rfl (.inr rfl) ?_
                        exact gcr (hA := by simp only [putA_get]; simp [rightB, hkn, F]; exact Wk.refl _)
                     try exact nope c153
                     all_goals have c153p := c153
                     all_goals try simp [F] at c153p
                     all_goals
                      replace F := And.intro c153 F
                      try replace F := And.intro c153p F
                      have n1 : ¬ xl = 0 := by have h := g17_3; simp at h; omega
                      have n2 : ¬ E < xl := by have h := g17_9; simp at h; omega
                      have n3 : ¬ xc = [] := by simpa using g17_15
                      have hxr : Right xc := by simpa using c153
                      have hgood : ¬ (xl = 0 ∨ E < xl ∨ xc = [] ∨ ¬ Right xc) := fun h => h.elim n1 (fun h => h.elim n2 (fun h => h.elim n3 (fun h => h hxr)))
                      have hw2 : E - xl < 2 ^ 64 := by omega
                      obtain ⟨S2, hS2⟩ : ∃ S2, S2 = cAddL S xc := ⟨_, rfl⟩
                      have hS2r : Right S2 := by rw [hS2]; exact right_cAdd _ _
                      rw [← hS2] at hE
                      rw [if_neg hgood] at hE
                      have hw : IntKind.u64.wrap ((E : Int) - xl) = ((E - xl : Nat) : Int) := by rw [wrap_u64c (by omega)]; omega
                      replace F := And.intro hw F
                      refine run_skip ?_
                      refine hK51 _ _ ?_
                      refine sq fun K62 hK62 => ?_
                      refine rg' (h := fun J63 hJ63 => ?_)
                      refine hJ63 _ _ ?_
                      refine hK62 _ _ ?_
                      refine sq fun K64 hK64 => ?_
                      refine rg' (h := fun J65 hJ65 => ?_)
                      refine ca (c := (hS2 ▸ rpadd_ok hqr hxr)) (k := ?_)
                      rintro _ _ ⟨rfl, rfl⟩
                      repeat (first | simp [F] | simp (disch := omega) only [wC, if_pos, if_neg])
                      refine hJ65 _ _ ?_
                      refine hK64 _ _ ?_
                      refine sq fun K66 hK66 => ?_
                      refine sq fun K67 hK67 => ?_
                      refine rg' (h := fun J68 hJ68 => ?_)
                      refine hJ68 _ _ ?_
                      refine hK67 _ _ ?_
                      refine cs (fun c166 => ?_) (fun c166 => ?_)
                      · try exact nope c166
                        all_goals have c166p := c166
                        all_goals try simp [F] at c166p
                        all_goals
                         replace F := And.intro c166 F
                         try replace F := And.intro c166p F
                         have hne : ¬ cAddE S xc = 0 := by simpa using c166
                         rw [if_neg hne] at hE
                         replace F := And.intro hE F
                         refine sq fun K69 hK69 => ?_
                         refine rg' (h := fun J70 hJ70 => ?_)
                         refine hJ70 _ _ ?_
                         refine hK69 _ _ ?_
                         refine run_ret ?_
                         try simp only [Then, InBlock, NoGoto]
                         refine answer_tmp rfl (.inr rfl) ?_
                         exact gcr (hA := by simp only [putA_get]; simp [rightB, hkn, F]; exact Wk.refl _)
                      try exact nope c166
                      all_goals have c166p := c166
                      all_goals try simp [F] at c166p
                      all_goals
                       replace F := And.intro c166 F
                       try replace F := And.intro c166p F
                       have hye : cAddE S xc = 0 := by simpa using c166
                       rw [if_pos hye] at hE
                       refine run_skip ?_
                       refine hK66 _ _ ?_
                       refine rg' (h := fun J71 hJ71 => ?_)
                       refine hJ71 _ _ ?_
                       refine hK48 _ _ ?_
                       refine rg' (h := fun J72 hJ72 => ?_)
                       refine hJ72 _ _ ?_
                       refine ⟨gk, (⟨i + 1, E - xl, S2⟩), ⟨kpG, lpG, ?_, ?_, ?_, lpG, lpG, lpG, lpG⟩, lpG⟩
                       · exact hE
                       · exact hw2
                       · exact hS2r
               try exact nope c125
               all_goals have c125p := c125
               all_goals try simp [F] at c125p
               all_goals
                replace F := And.intro c125 F
                try replace F := And.intro c125p F
                have hend : perOk2 pp (pe - ps) [] = some (q.e, q.a) := by rw [hE, List.drop_of_length_le (by have h := c125; simp at h; omega)]; rfl
                replace F := And.intro hend F
                refine run_exit ?_
                refine hK42 _ _ ?_
                refine sq fun K73 hK73 => ?_
                refine rg' (h := fun J74 hJ74 => ?_)
                refine gs 170 (fun g24_2 => ?_) (fun g24_2 => ?_)
                · try exact nope g24_2
                  all_goals have g24_2p := g24_2
                  all_goals try simp [F] at g24_2p
                  all_goals
                   replace F := And.intro g24_2 F
                   try replace F := And.intro g24_2p F
                   have hee : q.e = 0 := by have h := g24_2; simp at h; omega
                   replace F := And.intro hee F
                   refine go2 (k := ?_)
                   refine go2 (k := ?_)
                   refine go2 (k := ?_)
                   refine ca (c := rsame_ok (by have := right_len hqr; omega) k3) (k := ?_)
                   rintro _ _ ⟨rfl, rfl⟩
                   repeat (first | simp [F] | simp (disch := omega) only [wC, if_pos, if_neg])
                   refine hJ74 _ _ ?_
                   refine hK73 _ _ ?_
                   refine run_ret ?_
                   try simp only [Then, InBlock, NoGoto]
                   refine answer_tmp rfl (.inr rfl) ?_
                   exact gcr (hA := by simp only [putA_get]; simp [rightB, hkn, F]; exact Wk.refl _)
                try exact nope g24_2
                all_goals have g24_2p := g24_2
                all_goals try simp [F] at g24_2p
                all_goals
                 replace F := And.intro g24_2 F
                 try replace F := And.intro g24_2p F
                 have hee : ¬ q.e = 0 := by have h := g24_2; simp at h; omega
                 replace F := And.intro hee F
                 refine no2 (k := ?_)
                 refine no2 (k := ?_)
                 refine no2 (k := ?_)
                 refine no2 (k := ?_)
                 refine hJ74 _ _ ?_
                 refine hK73 _ _ ?_
                 refine run_ret ?_
                 try simp only [Then, InBlock, NoGoto]
                 refine answer_tmp rfl (.inr rfl) ?_
                 exact gcr (hA := by simp only [putA_get]; simp [rightB, hkn, F]; exact Wk.refl _)
       try exact nope g5_3
       all_goals have g5_3p := g5_3
       all_goals try simp [F] at g5_3p
       all_goals
        replace F := And.intro g5_3 F
        try replace F := And.intro g5_3p F
        refine no2 (k := ?_)
        refine no2 (k := ?_)
        refine no2 (k := ?_)
        refine hJ21 _ _ ?_
        refine hK20 _ _ ?_
        refine cf ?_
        refine run_skip ?_
        refine hK19 _ _ ?_
        refine sq fun K75 hK75 => ?_
        refine sq fun K76 hK76 => ?_
        refine rg' (h := fun J77 hJ77 => ?_)
        refine gs 103 (fun g9_4 => ?_) (fun g9_4 => ?_)
        · try exact nope g9_4
          all_goals have g9_4p := g9_4
          all_goals try simp [F] at g9_4p
          all_goals
           replace F := And.intro g9_4 F
           try replace F := And.intro g9_4p F
           have n0 : pp = [] := by simpa using g9_4
           have n2 : perB ⟨pk, ps, pe, pt, []⟩ = false := by rw [← n0, hb]; simp [n0]
           replace F := And.intro n2 F
           refine no2 (k := ?_)
           refine no2 (k := ?_)
           refine no2 (k := ?_)
           refine no2 (k := ?_)
           refine no2 (k := ?_)
           refine no2 (k := ?_)
           refine no2 (k := ?_)
           refine no2 (k := ?_)
           refine no2 (k := ?_)
           refine hJ77 _ _ ?_
           refine hK76 _ _ ?_
           refine ct ?_
           refine sq fun K78 hK78 => ?_
           refine rg' (h := fun J79 hJ79 => ?_)
           refine hJ79 _ _ ?_
           refine hK78 _ _ ?_
           refine run_ret ?_
           try simp only [Then, InBlock, NoGoto]
           refine answer_tmp rfl (.inr rfl) ?_
           exact gcr (hA := by simp only [putA_get]; simp [rightB, hkn, F]; exact Wk.refl _)
        try exact nope g9_4
        all_goals have g9_4p := g9_4
        all_goals try simp [F] at g9_4p
        all_goals
         replace F := And.intro g9_4 F
         try replace F := And.intro g9_4p F
         refine go2 (k := ?_)
         refine go2 (k := ?_)
         refine go2 (k := ?_)
         refine go2 (k := ?_)
         refine gs 109 (fun g9_10 => ?_) (fun g9_10 => ?_)
         · try exact nope g9_10
           all_goals have g9_10p := g9_10
           all_goals try simp [F] at g9_10p
           all_goals
            replace F := And.intro g9_10 F
            try replace F := And.intro g9_10p F
            have n1 : ¬ pp.length ≤ 16 := by have h := g9_10; simp at h; omega
            have n2 : perB ⟨pk, ps, pe, pt, pp⟩ = false := by rw [hb]; simp [n1]
            replace F := And.intro n2 F
            refine no2 (k := ?_)
            refine no2 (k := ?_)
            refine no2 (k := ?_)
            refine no2 (k := ?_)
            refine no2 (k := ?_)
            refine hJ77 _ _ ?_
            refine hK76 _ _ ?_
            refine ct ?_
            refine sq fun K80 hK80 => ?_
            refine rg' (h := fun J81 hJ81 => ?_)
            refine hJ81 _ _ ?_
            refine hK80 _ _ ?_
            refine run_ret ?_
            try simp only [Then, InBlock, NoGoto]
            refine answer_tmp rfl (.inr rfl) ?_
            exact gcr (hA := by simp only [putA_get]; simp [rightB, hkn, F]; exact Wk.refl _)
         try exact nope g9_10
         all_goals have g9_10p := g9_10
         all_goals try simp [F] at g9_10p
         all_goals
          replace F := And.intro g9_10 F
          try replace F := And.intro g9_10p F
          refine go2 (k := ?_)
          refine go2 (k := ?_)
          refine go2 (k := ?_)
          refine go2 (k := ?_)
          refine go2 (k := ?_)
          refine hJ77 _ _ ?_
          refine hK76 _ _ ?_
          refine cs (fun c115 => ?_) (fun c115 => ?_)
          · try exact nope c115
            all_goals have c115p := c115
            all_goals try simp [F] at c115p
            all_goals
             replace F := And.intro c115 F
             try replace F := And.intro c115p F
             have n1 : pp = [] ∨ ¬ pp.length ≤ 16 ∨ ¬ ps ≤ pe := by first | (have h := c115; simp at h; omega) | (have h := g9_10; simp at h; omega) | exact .inl (by simpa using g9_4)
             have n2 : perB ⟨pk, ps, pe, pt, pp⟩ = false := by rw [hb]; rcases n1 with h | h | h <;> simp [h]
             replace F := And.intro n2 F
             refine sq fun K82 hK82 => ?_
             refine rg' (h := fun J83 hJ83 => ?_)
             refine hJ83 _ _ ?_
             refine hK82 _ _ ?_
             refine run_ret ?_
             try simp only [Then, InBlock, NoGoto]
             refine answer_tmp rfl (.inr rfl) ?_
             exact gcr (hA := by simp only [putA_get]; simp [rightB, hkn, F]; exact Wk.refl _)
          try exact nope c115
          all_goals have c115p := c115
          all_goals try simp [F] at c115p
          all_goals
           replace F := And.intro c115 F
           try replace F := And.intro c115p F
           refine run_skip ?_
           refine hK75 _ _ ?_
           refine sq fun K84 hK84 => ?_
           have hse : ps ≤ pe := by have h := c115; simp at h; omega
           have hp16 : pp.length ≤ 16 := by have h := g9_10; simp at h; omega
           have hpn : ¬ pp = [] := by simp [F]
           have hpB : perB ⟨pk, ps, pe, pt, pp⟩ = decide (perOk2 pp (pe - ps) [] = some (0, pt)) := by rw [hb]; simp [hse, hp16, hpn]
           have hw0 : IntKind.u64.wrap ((pe : Int) - ps) = ((pe - ps : Nat) : Int) := by rw [wrap_u64c (by omega)]; omega
           replace F := And.intro hpB (And.intro hw0 F)
           refine rg' (h := fun J85 hJ85 => ?_)
           refine hJ85 _ _ ?_
           refine hK84 _ _ ?_
           refine sq fun K86 hK86 => ?_
           refine rg' (h := fun J87 hJ87 => ?_)
           refine hJ87 _ _ ?_
           refine hK86 _ _ ?_
           refine sq fun K88 hK88 => ?_
           refine sq fun K89 hK89 => ?_
           refine run_nilsh 4 5 (k := ?_)
           refine rg' (h := fun J90 hJ90 => ?_)
           refine hJ90 _ _ ?_
           refine hK89 _ _ ?_
           refine run_block_k ?_
           refine run_loopG (X := PerQ) [1] (fun q ρ σ1 => (q.i ≤ pp.length) ∧ (perOk2 pp (pe - ps) [] = perOk2 (pp.drop q.i) q.e q.a) ∧ (q.e < 2 ^ 64) ∧ (Right q.a) ∧ (ρ 3 = .v (.int .u64 q.e)) ∧ (ρ 4 = .sl 5 (coinsC q.a) q.a.length .shut) ∧ (ρ 5 = .v (.int .i64 q.i)) ∧ (σ1 = { σ with objs := σ.objs ++ [[.v (.int .u8 pk.toNat), .v (.int .u64 ps), .v (.int .u64 pe), .sl 5 (coinsC pt) pt.length .shut, .sl 2 (persC pp) pp.length .shut]] })) (fun q => pp.length - q.i) (⟨0, pe - ps, []⟩) ?st1 ?rd1
           case st1 =>
            refine ⟨lp, ?_, lp, ?_, lp, lp, lp, ?_⟩
            · rfl
            · exact Go.Vm.right_nil
            · simp [F]
           case rd1 =>
            rintro q ρ1 σ1 hF1 ⟨hi, hE, hqe, hqr, h3, h4, h17, hσ⟩
            obtain rfl := hσ.symm
            have f1 := keepL hF1
            try simp [KeepL, F] at f1
            replace F := And.intro h3 F
            replace F := And.intro h4 F
            replace F := And.intro h17 F
            try replace F := And.intro f1 F
            refine sq fun K91 hK91 => ?_
            refine sq fun K92 hK92 => ?_
            refine rg' (h := fun J93 hJ93 => ?_)
            refine hJ93 _ _ ?_
            refine hK92 _ _ ?_
            refine cs (fun c125 => ?_) (fun c125 => ?_)
            · try exact nope c125
              all_goals have c125p := c125
              all_goals try simp [F] at c125p
              all_goals
               replace F := And.intro c125 F
               try replace F := And.intro c125p F
               refine run_skip ?_
               refine hK91 _ _ ?_
               refine sq fun K94 hK94 => ?_
               refine run_block_k ?_
               refine sq fun K95 hK95 => ?_
               obtain ⟨i, E, S⟩ := q
               simp only at hi hE hqe hqr h3 h4 h17
               have hlt : i < pp.length := by simp at c125; omega
               have hat := persC_at hlt
               have hb1 : i * 2 + 2 ≤ pp.length * 2 := by omega
               have hx5 := h5 _ (List.getElem_mem hlt)
               have hcons : pp.drop i = pp[i] :: pp.drop (i + 1) := List.drop_eq_getElem_cons hlt
               obtain ⟨x, hx⟩ : ∃ x, x = pp[i] := ⟨_, rfl⟩
               rw [← hx] at hat hx5 hcons
               rw [hcons] at hE
               obtain ⟨xl, xc⟩ := x
               obtain ⟨hxl, hxc⟩ := hx5
               simp only at hxl hxc
               simp only [perOk2] at hE
               have hnilx : ((xc.length : Int) == 0) = decide (xc = []) := by cases xc <;> simp <;> omega
               replace F := And.intro hlt F
               replace F := And.intro hat F
               replace F := And.intro hb1 F
               replace F := And.intro hnilx F
               refine rg' (h := fun J96 hJ96 => ?_)
               refine hJ96 _ _ ?_
               refine hK95 _ _ ?_
               refine sq fun K97 hK97 => ?_
               refine sq fun K98 hK98 => ?_
               refine rg' (h := fun J99 hJ99 => ?_)
               refine gs 136 (fun g17_3 => ?_) (fun g17_3 => ?_)
               · try exact nope g17_3
                 all_goals have g17_3p := g17_3
                 all_goals try simp [F] at g17_3p
                 all_goals
                  replace F := And.intro g17_3 F
                  try replace F := And.intro g17_3p F
                  have hbad : perOk2 pp (pe - ps) [] = none := by rw [hE]; exact if_pos (.inl (by have h := g17_3; simp at h; omega))
                  replace F := And.intro hbad F
                  refine no2 (k := ?_)
                  refine no2 (k := ?_)
                  refine no2 (k := ?_)
                  refine no2 (k := ?_)
                  refine no2 (k := ?_)
                  refine no2 (k := ?_)
                  refine no2 (k := ?_)
                  refine no2 (k := ?_)
                  refine no2 (k := ?_)
                  refine no2 (k := ?_)
                  refine no2 (k := ?_)
                  refine no2 (k := ?_)
                  refine hJ99 _ _ ?_
                  refine hK98 _ _ ?_
                  refine ct ?_
                  refine sq fun K100 hK100 => ?_
                  refine rg' (h := fun J101 hJ101 => ?_)
                  refine hJ101 _ _ ?_
                  refine hK100 _ _ ?_
                  refine run_ret ?_
                  try simp only [Then, InBlock, NoGoto]
                  refine answer_tmp rfl (.inr rfl) ?_
                  exact gcr (hA := by simp only [putA_get]; simp [rightB, hkn, F]; exact Wk.refl _)
               try exact nope g17_3
               all_goals have g17_3p := g17_3
               all_goals try simp [F] at g17_3p
               all_goals
                replace F := And.intro g17_3 F
                try replace F := And.intro g17_3p F
                refine go2 (k := ?_)
                refine go2 (k := ?_)
                refine go2 (k := ?_)
                refine go2 (k := ?_)
                refine gs 142 (fun g17_9 => ?_) (fun g17_9 => ?_)
                · try exact nope g17_9
                  all_goals have g17_9p := g17_9
                  all_goals try simp [F] at g17_9p
                  all_goals
                   replace F := And.intro g17_9 F
                   try replace F := And.intro g17_9p F
                   have hbad : perOk2 pp (pe - ps) [] = none := by rw [hE]; exact if_pos (.inr (.inl (by have h := g17_9; simp at h; omega)))
                   replace F := And.intro hbad F
                   refine no2 (k := ?_)
                   refine no2 (k := ?_)
                   refine no2 (k := ?_)
                   refine no2 (k := ?_)
                   refine no2 (k := ?_)
                   refine no2 (k := ?_)
                   refine no2 (k := ?_)
                   refine no2 (k := ?_)
                   refine hJ99 _ _ ?_
                   refine hK98 _ _ ?_
                   refine ct ?_
                   refine sq fun K102 hK102 => ?_
                   refine rg' (h := fun J103 hJ103 => ?_)
                   refine hJ103 _ _ ?_
                   refine hK102 _ _ ?_
                   refine run_ret ?_
                   try simp only [Then, InBlock, NoGoto]
                   refine answer_tmp rfl (.inr rfl) ?_
                   exact gcr (hA := by simp only [putA_get]; simp [rightB, hkn, F]; exact Wk.refl _)
                try exact nope g17_9
                all_goals have g17_9p := g17_9
                all_goals try simp [F] at g17_9p
                all_goals
                 replace F := And.intro g17_9 F
                 try replace F := And.intro g17_9p F
                 refine go2 (k := ?_)
                 refine go2 (k := ?_)
                 refine go2 (k := ?_)
                 refine go2 (k := ?_)
                 refine gs 148 (fun g17_15 => ?_) (fun g17_15 => ?_)
                 · try exact nope g17_15
                   all_goals have g17_15p := g17_15
                   all_goals try simp [F] at g17_15p
                   all_goals
                    replace F := And.intro g17_15 F
                    try replace F := And.intro g17_15p F
                    have hbad : perOk2 pp (pe - ps) [] = none := by rw [hE]; exact if_pos (.inr (.inr (.inl (by simpa using g17_15))))
                    replace F := And.intro hbad F
                    refine no2 (k := ?_)
                    refine no2 (k := ?_)
                    refine no2 (k := ?_)
                    refine no2 (k := ?_)
                    refine hJ99 _ _ ?_
                    refine hK98 _ _ ?_
                    refine ct ?_
                    refine sq fun K104 hK104 => ?_
                    refine rg' (h := fun J105 hJ105 => ?_)
                    refine hJ105 _ _ ?_
                    refine hK104 _ _ ?_
                    refine run_ret ?_
                    try simp only [Then, InBlock, NoGoto]
                    refine answer_tmp rfl (.inr rfl) ?_
                    exact gcr (hA := by simp only [putA_get]; simp [rightB, hkn, F]; exact Wk.refl _)
                 try exact nope g17_15
                 all_goals have g17_15p := g17_15
                 all_goals try simp [F] at g17_15p
                 all_goals
                  replace F := And.intro g17_15 F
                  try replace F := And.intro g17_15p F
                  refine go2 (k := ?_)
                  refine go2 (k := ?_)
                  refine ca (c := rright_ok hxc) (k := ?_)
                  rintro _ _ ⟨rfl, rfl⟩
                  repeat (first | simp [F] | simp (disch := omega) only [wC, if_pos, if_neg])
                  refine go2 (k := ?_)
                  refine hJ99 _ _ ?_
                  refine hK98 _ _ ?_
                  refine cs (fun c153 => ?_) (fun c153 => ?_)
                  · try exact nope c153
                    all_goals have c153p := c153
                    all_goals try simp [F] at c153p
                    all_goals
                     replace F := And.intro c153 F
                     try replace F := And.intro c153p F
                     have hbad : perOk2 pp (pe - ps) [] = none := by rw [hE]; exact if_pos (.inr (.inr (.inr (by simpa using c153))))
                     replace F := And.intro hbad F
                     refine sq fun K106 hK106 => ?_
                     refine rg' (h := fun J107 hJ107 => ?_)
                     refine hJ107 _ _ ?_
                     refine hK106 _ _ ?_
                     refine run_ret ?_
                     try simp only [Then, InBlock, NoGoto]
                     refine answer_tmp rfl (.inr rfl) ?_
                     exact gcr (hA := by simp only [putA_get]; simp [rightB, hkn, F]; exact Wk.refl _)
                  try exact nope c153
                  all_goals have c153p := c153
                  all_goals try simp [F] at c153p
                  all_goals
                   replace F := And.intro c153 F
                   try replace F := And.intro c153p F
                   have n1 : ¬ xl = 0 := by have h := g17_3; simp at h; omega
                   have n2 : ¬ E < xl := by have h := g17_9; simp at h; omega
                   have n3 : ¬ xc = [] := by simpa using g17_15
                   have hxr : Right xc := by simpa using c153
                   have hgood : ¬ (xl = 0 ∨ E < xl ∨ xc = [] ∨ ¬ Right xc) := fun h => h.elim n1 (fun h => h.elim n2 (fun h => h.elim n3 (fun h => h hxr)))
                   have hw2 : E - xl < 2 ^ 64 := by omega
                   obtain ⟨S2, hS2⟩ : ∃ S2, S2 = cAddL S xc := ⟨_, rfl⟩
                   have hS2r : Right S2 := by rw [hS2]; exact right_cAdd _ _
                   rw [← hS2] at hE
                   rw [if_neg hgood] at hE
                   have hw : IntKind.u64.wrap ((E : Int) - xl) = ((E - xl : Nat) : Int) := by rw [wrap_u64c (by omega)]; omega
                   replace F := And.intro hw F
                   refine run_skip ?_
                   refine hK97 _ _ ?_
                   refine sq fun K108 hK108 => ?_
                   refine rg' (h := fun J109 hJ109 => ?_)
                   refine hJ109 _ _ ?_
                   refine hK108 _ _ ?_
                   refine sq fun K110 hK110 => ?_
                   refine rg' (h := fun J111 hJ111 => ?_)
                   refine ca (c := (hS2 ▸ rpadd_ok hqr hxr)) (k := ?_)
                   rintro _ _ ⟨rfl, rfl⟩
                   repeat (first | simp [F] | simp (disch := omega) only [wC, if_pos, if_neg])
                   refine hJ111 _ _ ?_
                   refine hK110 _ _ ?_
                   refine sq fun K112 hK112 => ?_
                   refine sq fun K113 hK113 => ?_
                   refine rg' (h := fun J114 hJ114 => ?_)
                   refine hJ114 _ _ ?_
                   refine hK113 _ _ ?_
                   refine cs (fun c166 => ?_) (fun c166 => ?_)
                   · try exact nope c166
                     all_goals have c166p := c166
                     all_goals try simp [F] at c166p
                     all_goals
                      replace F := And.intro c166 F
                      try replace F := And.intro c166p F
                      have hne : ¬ cAddE S xc = 0 := by simpa using c166
                      rw [if_neg hne] at hE
                      replace F := And.intro hE F
                      refine sq fun K115 hK115 => ?_
                      refine rg' (h := fun J116 hJ116 => ?_)
                      refine hJ116 _ _ ?_
                      refine hK115 _ _ ?_
                      refine run_ret ?_
                      try simp only [Then, InBlock, NoGoto]
                      refine answer_tmp rfl (.inr rfl) ?_
                      exact gcr (hA := by simp only [putA_get]; simp [rightB, hkn, F]; exact Wk.refl _)
                   try exact nope c166
                   all_goals have c166p := c166
                   all_goals try simp [F] at c166p
                   all_goals
                    replace F := And.intro c166 F
                    try replace F := And.intro c166p F
                    have hye : cAddE S xc = 0 := by simpa using c166
                    rw [if_pos hye] at hE
                    refine run_skip ?_
                    refine hK112 _ _ ?_
                    refine rg' (h := fun J117 hJ117 => ?_)
                    refine hJ117 _ _ ?_
                    refine hK94 _ _ ?_
                    refine rg' (h := fun J118 hJ118 => ?_)
                    refine hJ118 _ _ ?_
                    refine ⟨gk, (⟨i + 1, E - xl, S2⟩), ⟨kpG, lpG, ?_, ?_, ?_, lpG, lpG, lpG, lpG⟩, lpG⟩
                    · exact hE
                    · exact hw2
                    · exact hS2r
            try exact nope c125
            all_goals have c125p := c125
            all_goals try simp [F] at c125p
            all_goals
             replace F := And.intro c125 F
             try replace F := And.intro c125p F
             have hend : perOk2 pp (pe - ps) [] = some (q.e, q.a) := by rw [hE, List.drop_of_length_le (by have h := c125; simp at h; omega)]; rfl
             replace F := And.intro hend F
             refine run_exit ?_
             refine hK88 _ _ ?_
             refine sq fun K119 hK119 => ?_
             refine rg' (h := fun J120 hJ120 => ?_)
             refine gs 170 (fun g24_2 => ?_) (fun g24_2 => ?_)
             · try exact nope g24_2
               all_goals have g24_2p := g24_2
               all_goals try simp [F] at g24_2p
               all_goals
                replace F := And.intro g24_2 F
                try replace F := And.intro g24_2p F
                have hee : q.e = 0 := by have h := g24_2; simp at h; omega
                replace F := And.intro hee F
                refine go2 (k := ?_)
                refine go2 (k := ?_)
                refine go2 (k := ?_)
                refine ca (c := rsame_ok (by have := right_len hqr; omega) k3) (k := ?_)
                rintro _ _ ⟨rfl, rfl⟩
                repeat (first | simp [F] | simp (disch := omega) only [wC, if_pos, if_neg])
                refine hJ120 _ _ ?_
                refine hK119 _ _ ?_
                refine run_ret ?_
                try simp only [Then, InBlock, NoGoto]
                refine answer_tmp rfl (.inr rfl) ?_
                exact gcr (hA := by simp only [putA_get]; simp [rightB, hkn, F]; exact Wk.refl _)
             try exact nope g24_2
             all_goals have g24_2p := g24_2
             all_goals try simp [F] at g24_2p
             all_goals
              replace F := And.intro g24_2 F
              try replace F := And.intro g24_2p F
              have hee : ¬ q.e = 0 := by have h := g24_2; simp at h; omega
              replace F := And.intro hee F
              refine no2 (k := ?_)
              refine no2 (k := ?_)
              refine no2 (k := ?_)
              refine no2 (k := ?_)
              refine hJ120 _ _ ?_
              refine hK119 _ _ ?_
              refine run_ret ?_
              try simp only [Then, InBlock, NoGoto]
              refine answer_tmp rfl (.inr rfl) ?_
              exact gcr (hA := by simp only [putA_get]; simp [rightB, hkn, F]; exact Wk.refl _)

end Go.Proofs.Ytdbaddholggkbaa

/-
  What a plan gives by a time.
-/
namespace Go.Vm
open Go

/-- How many parts are over by a time. -/
def overN : List Per → Nat → Nat → Nat
  | [], _, _ => 0
  | x :: l, E, t => if t < E + x.l then 0 else overN l (E + x.l) t + 1
theorem overN_le : ∀ (l : List Per) (E t : Nat), overN l E t ≤ l.length
  | [], _, _ => Nat.le_refl _
  | x :: l, E, t => by
    unfold overN
    split
    · exact Nat.zero_le _
    · have := overN_le l (E + x.l) t; simp; omega
/-- The lengths' sum. -/
def lenS : List Per → Nat
  | [] => 0
  | x :: l => x.l + lenS l
/-- The sum of the parts' coins, as it is added up. -/
def sumL : List Per → List Coin → List Coin
  | [], a => a
  | x :: l, a => sumL l (cAddL a x.c)
/-- A coin's part that is given by a time. -/
def partN (c : Coin) (s e t : Nat) : Nat := c.n.v * (t - s) / (e - s)
theorem partN_lt {c : Coin} {s e t : Nat} (h : t ≤ e) : partN c s e t < 2 ^ 256 := by
  unfold partN
  have h1 : c.n.v * (t - s) ≤ c.n.v * (e - s) := Nat.mul_le_mul_left _ (by omega)
  have h2 : c.n.v * (t - s) / (e - s) ≤ c.n.v := by
    by_cases h0 : e - s = 0
    · rw [h0]; simp
    · exact Nat.le_trans (Nat.div_le_div_right h1) (by rw [Nat.mul_div_cancel _ (by omega)]; exact Nat.le_refl _)
  have := c.n.h
  omega
def partL (s e t : Nat) : List Coin → List Coin
  | [] => []
  | c :: l => oneL c.d (Num.of (partN c s e t)) ++ partL s e t l
theorem partL_snoc (s e t : Nat) (c : Coin) : ∀ l, partL s e t (l ++ [c]) = partL s e t l ++ oneL c.d (Num.of (partN c s e t))
  | [] => by simp [partL]
  | x :: l => by simp [partL, partL_snoc s e t c l]
theorem partL_len (s e t : Nat) : ∀ l, (partL s e t l).length ≤ l.length
  | [] => Nat.le_refl _
  | c :: l => by
    have := partL_len s e t l
    simp only [partL, List.length_append, List.length_cons]
    have : (oneL c.d (Num.of (partN c s e t))).length ≤ 1 := by unfold oneL; split <;> simp
    omega
theorem persC_take (l : List Per) (i : Nat) : (persC l).take (i * 2) = persC (l.take i) := by
  conv => lhs; rw [← List.take_append_drop i l, ← persC_append]
  by_cases h : i ≤ l.length
  · rw [List.take_append_of_le_length (by simp; omega), List.take_of_length_le (by simp; omega)]
  · rw [List.drop_of_length_le (by omega), persC_nil, List.append_nil, List.take_of_length_le (by simp; omega)]
def vestL (p : Pln) (t : Nat) : List Coin :=
  if p.k = 3 ∨ p.k = 5 then sumL (p.ps.take (overN p.ps p.s t)) []
  else if (¬ p.k = 1 ∧ ¬ p.k = 2) ∨ (p.k = 1 ∧ t ≤ p.s) then []
  else if p.e ≤ t then p.tot
  else if p.k = 2 then []
  else partL p.s p.e t p.tot

end Go.Vm

/-
  What a plan gives: sums, lists..
-/
namespace Go.Proofs.Ytdbaddholggkbaa
set_option linter.unnecessarySimpa false
set_option maxRecDepth 100000
open Go Go.Vm
set_option linter.unusedSimpArgs false
set_option linter.unusedVariables false

attribute [local simp] evalL wantedA isCall opA evalA evalAll evalsA evalOpt ofValue ofCell plain binA_eql_pn binA_neq_pn binA_gtr binA_lss binA_geq binA_leq binA_add binA_sub binA_eql binA_neq binA_orI binA_andI binA_shl binA_shr binA_mul binA_quo binA_rem binA_agg_eql binA_agg_neq convA_int unA_not fieldAddrA loadA partA pickA_true pickA_false pickA_bb lenA builtinA storeA splice AV.cells AV.isCell sliceA boundA intA callOf indexAddrA newObjA buildA fillA zeroA ofCells buildSliceA indexA fieldA numA_len4 numA_take4 numA_drop4 set_appN get_appN take_appN List.getElem?_cons_zero List.getElem?_cons_succ makeA zeros64

section
attribute [local simp] readA rowAppA appendA roomA maxLen
set_option maxHeartbeats 1600000 in
attribute [local simp] undefA List.getElem?_cons_zero List.getElem?_cons_succ in
theorem cclone_ok {σ : St} {l : List Coin} {tl : Tail} (hl : l.length ≤ 1000000) :
    CallsA Try.prog 65 [.sl 5 (coinsC l) l.length tl] σ (fun av σ' => av = .sl 5 (coinsC l) l.length .shut ∧ σ = σ') := by
  refine callsA_gcS ?_ (by simp [AV.under])
  have h1 : l.length * 40 ≤ 140737488355328 := by omega
  have h2 : l.length ≤ 9223372036854775807 := by omega
  have F := And.intro h1 (And.intro h2 (True.intro))
  refine callsA_body Try.func65 rfl rfl rfl ?_
  refine sq fun K1 hK1 => ?_
  refine rg' (h := fun J2 hJ2 => ?_)
  refine hJ2 _ _ ?_
  refine hK1 _ _ ?_
  refine sq fun K3 hK3 => ?_
  refine sq fun K4 hK4 => ?_
  refine rg' (h := fun J5 hJ5 => ?_)
  refine sn rfl rfl (fun b4 hb4 => ?_)
  repeat (first | simp [F] | simp (disch := omega) only [wC, if_pos, if_neg])
  refine hJ5 _ _ ?_
  refine hK4 _ _ ?_
  refine cs (fun c4 => ?_) (fun c4 => ?_)
  · try exact nope c4
    all_goals have c4p := c4
    all_goals try simp [F] at c4p
    all_goals
     replace F := And.intro c4 F
     try replace F := And.intro c4p F
     have hl0 : l = [] := by cases l with | nil => rfl | cons x l => (exfalso; simp_all)
     subst hl0
     refine sq fun K6 hK6 => ?_
     refine rg' (h := fun J7 hJ7 => ?_)
     refine hJ7 _ _ ?_
     refine hK6 _ _ ?_
     refine run_ret ?_
     try simp only [Then, InBlock, NoGoto]
     refine answer_tmp rfl (.inr rfl) ?_
     exact gcr
  try exact nope c4
  all_goals have c4p := c4
  all_goals try simp [F] at c4p
  all_goals
   replace F := And.intro c4 F
   try replace F := And.intro c4p F
   refine run_skip ?_
   refine hK3 _ _ ?_
   refine sq fun K8 hK8 => ?_
   refine rg' (h := fun J9 hJ9 => ?_)
   refine hJ9 _ _ ?_
   refine hK8 _ _ ?_
   refine run_ret ?_
   try simp only [Then, InBlock, NoGoto]
   refine answer_tmp rfl (.inr rfl) ?_
   exact gcr
end

set_option maxHeartbeats 1600000 in
attribute [local simp] undefA List.getElem?_cons_zero List.getElem?_cons_succ perC persC_noObj in
theorem psum_ok {σ : St} {l : List Per} {tl : Tail} (hl : l.length ≤ 9223372036854775807) (h5 : ∀ x ∈ l, x.c.length ≤ 9223372036854775807) :
    CallsA Try.prog 63 [.sl 2 (persC l) l.length tl] σ (fun av σ' => av = .sl 5 (coinsC (sumL l [])) (sumL l []).length .shut ∧ σ = σ') := by
  refine callsA_gcS ?_ (by simp [AV.under])
  have F := True.intro
  refine callsA_body Try.func63 rfl rfl rfl ?_
  refine sq fun K1 hK1 => ?_
  refine rg' (h := fun J2 hJ2 => ?_)
  refine hJ2 _ _ ?_
  refine hK1 _ _ ?_
  refine sq fun K3 hK3 => ?_
  refine rg' (h := fun J4 hJ4 => ?_)
  refine hJ4 _ _ ?_
  refine hK3 _ _ ?_
  refine sq fun K5 hK5 => ?_
  refine sq fun K6 hK6 => ?_
  refine run_nilsh 3 5 (k := ?_)
  refine rg' (h := fun J7 hJ7 => ?_)
  refine hJ7 _ _ ?_
  refine hK6 _ _ ?_
  refine run_block_k ?_
  refine run_loopG (X := PerQ) [2, 6, 7] (fun q ρ σ1 => (q.i ≤ l.length) ∧ (sumL l [] = sumL (l.drop q.i) q.a) ∧ (q.a.length ≤ 8) ∧ (ρ 3 = .sl 5 (coinsC q.a) q.a.length .shut) ∧ (ρ 8 = .v (.int .i64 q.i)) ∧ (σ1 = σ)) (fun q => l.length - q.i) (⟨0, 0, []⟩) ?st1 ?rd1
  case st1 =>
   refine ⟨lp, ?_, lp, lp, lp, ?_⟩
   · rfl
   · rfl
  case rd1 =>
   rintro q ρ1 σ1 hF1 ⟨hi, hE, hqa, h4, h17, hσ⟩
   obtain rfl := hσ.symm
   have f1 := keepL hF1
   try simp [KeepL, F] at f1
   replace F := And.intro h4 F
   replace F := And.intro h17 F
   try replace F := And.intro f1 F
   refine sq fun K8 hK8 => ?_
   refine rg' (h := fun J9 hJ9 => ?_)
   refine hJ9 _ _ ?_
   refine hK8 _ _ ?_
   refine sq fun K10 hK10 => ?_
   refine cs (fun c9 => ?_) (fun c9 => ?_)
   · try exact nope c9
     all_goals have c9p := c9
     all_goals try simp [F] at c9p
     all_goals
      replace F := And.intro c9 F
      try replace F := And.intro c9p F
      refine run_skip ?_
      refine hK10 _ _ ?_
      refine sq fun K11 hK11 => ?_
      refine run_block_k ?_
      refine sq fun K12 hK12 => ?_
      obtain ⟨i, E, S⟩ := q
      simp only at hi hE hqa h4 h17
      have hlt : i < l.length := by simp at c9; omega
      have hat := persC_at hlt
      have hb1 : i * 2 + 2 ≤ l.length * 2 := by omega
      have hxc := h5 _ (List.getElem_mem hlt)
      have hcons : l.drop i = l[i] :: l.drop (i + 1) := List.drop_eq_getElem_cons hlt
      obtain ⟨x, hx⟩ : ∃ x, x = l[i] := ⟨_, rfl⟩
      rw [← hx] at hat hxc hcons
      rw [hcons] at hE
      obtain ⟨xl, xc⟩ := x
      simp only at hxc
      simp only [sumL] at hE
      obtain ⟨S2, hS2⟩ : ∃ S2, S2 = cAddL S xc := ⟨_, rfl⟩
      have hS2l : S2.length ≤ 8 := by rw [hS2]; exact right_len (right_cAdd _ _)
      rw [← hS2] at hE
      replace F := And.intro hlt F
      replace F := And.intro hat F
      replace F := And.intro hb1 F
      refine rg' (h := fun J13 hJ13 => ?_)
      refine hJ13 _ _ ?_
      refine hK12 _ _ ?_
      refine rg' (h := fun J14 hJ14 => ?_)
      refine ca (c := (hS2 ▸ cadd_ok (by omega) hxc)) (k := ?_)
      rintro _ _ ⟨rfl, rfl⟩
      repeat (first | simp [F] | simp (disch := omega) only [wC, if_pos, if_neg])
      refine hJ14 _ _ ?_
      refine hK11 _ _ ?_
      refine rg' (h := fun J15 hJ15 => ?_)
      refine hJ15 _ _ ?_
      refine ⟨gk, (⟨i + 1, E, S2⟩), ⟨kpG, lpG, ?_, ?_, lpG, lpG, lpG⟩, lpG⟩
      · exact hE
      · exact hS2l
   try exact nope c9
   all_goals have c9p := c9
   all_goals try simp [F] at c9p
   all_goals
    replace F := And.intro c9 F
    try replace F := And.intro c9p F
    have hend : sumL l [] = q.a := by rw [hE, List.drop_of_length_le (by have h := c9; simp at h; omega)]; rfl
    replace F := And.intro hend F
    refine run_exit ?_
    refine hK5 _ _ ?_
    refine sq fun K16 hK16 => ?_
    refine rg' (h := fun J17 hJ17 => ?_)
    refine hJ17 _ _ ?_
    refine hK16 _ _ ?_
    refine run_ret ?_
    try simp only [Then, InBlock, NoGoto]
    refine answer_tmp rfl (.inr rfl) ?_
    exact gcr

set_option maxHeartbeats 1600000 in
attribute [local simp] undefA List.getElem?_cons_zero List.getElem?_cons_succ perC plnC persC_noObj in
theorem pover_ok {σ : St} {p : Pln} {t : Nat} (hp : p.Ok) (hs : p.s + lenS p.ps < 2 ^ 64) :
    CallsA Try.prog 64 [.agg (plnC p), .v (.int .u64 t)] σ (fun av σ' => av = .sl 2 (persC (p.ps.take (overN p.ps p.s t))) (overN p.ps p.s t) .shut ∧ σ = σ') := by
  refine callsA_gcS ?_ (by simp [AV.under, persC_under])
  obtain ⟨pk, ps, pe, pt, pp⟩ := p
  obtain ⟨k1, k2, k3, k4, h5⟩ := hp
  simp only at hs k4 k1 h5
  have F := True.intro
  refine callsA_body Try.func64 rfl rfl rfl ?_
  refine sq fun K1 hK1 => ?_
  refine rg' (h := fun J2 hJ2 => ?_)
  refine hJ2 _ _ ?_
  refine hK1 _ _ ?_
  refine sq fun K3 hK3 => ?_
  refine rg' (h := fun J4 hJ4 => ?_)
  refine hJ4 _ _ ?_
  refine hK3 _ _ ?_
  refine sq fun K5 hK5 => ?_
  refine sq fun K6 hK6 => ?_
  refine rg' (h := fun J7 hJ7 => ?_)
  refine hJ7 _ _ ?_
  refine hK6 _ _ ?_
  refine run_block_k ?_
  refine run_loopG (X := PerQ) [1, 2, 11, 12] (fun q ρ σ1 => (q.i ≤ pp.length) ∧ (overN pp ps t = overN (pp.drop q.i) q.e t + q.i) ∧ (q.e + lenS (pp.drop q.i) < 2 ^ 64) ∧ (ρ 5 = .v (.int .u64 q.e)) ∧ (ρ 13 = .v (.int .i64 q.i)) ∧ (σ1 = { σ with objs := σ.objs ++ [[.v (.int .u8 pk.toNat), .v (.int .u64 ps), .v (.int .u64 pe), .sl 5 (coinsC pt) pt.length .shut, .sl 2 (persC pp) pp.length .shut]] })) (fun q => pp.length - q.i) (⟨0, ps, []⟩) ?st1 ?rd1
  case st1 =>
   refine ⟨lp, ?_, ?_, lp, lp, ?_⟩
   · rfl
   · exact hs
   · rfl
  case rd1 =>
   rintro q ρ1 σ1 hF1 ⟨hi, hE, hqe, h4, h17, hσ⟩
   obtain rfl := hσ.symm
   have f1 := keepL hF1
   try simp [KeepL, F] at f1
   replace F := And.intro h4 F
   replace F := And.intro h17 F
   try replace F := And.intro f1 F
   refine sq fun K8 hK8 => ?_
   refine rg' (h := fun J9 hJ9 => ?_)
   refine hJ9 _ _ ?_
   refine hK8 _ _ ?_
   refine sq fun K10 hK10 => ?_
   refine cs (fun c14 => ?_) (fun c14 => ?_)
   · try exact nope c14
     all_goals have c14p := c14
     all_goals try simp [F] at c14p
     all_goals
      replace F := And.intro c14 F
      try replace F := And.intro c14p F
      refine run_skip ?_
      refine hK10 _ _ ?_
      refine sq fun K11 hK11 => ?_
      refine run_block_k ?_
      refine sq fun K12 hK12 => ?_
      obtain ⟨i, E, S⟩ := q
      simp only at hi hE hqe h4 h17
      have hlt : i < pp.length := by simp at c14; omega
      have hat := persC_at hlt
      have hb1 : i * 2 + 2 ≤ pp.length * 2 := by omega
      have hcons : pp.drop i = pp[i] :: pp.drop (i + 1) := List.drop_eq_getElem_cons hlt
      obtain ⟨x, hx⟩ : ∃ x, x = pp[i] := ⟨_, rfl⟩
      rw [← hx] at hat hcons
      rw [hcons] at hE hqe
      obtain ⟨xl, xc⟩ := x
      simp only [overN] at hE
      simp only [lenS] at hqe
      have hw : IntKind.u64.wrap ((E : Int) + xl) = ((E + xl : Nat) : Int) := by rw [wrap_u64c (by omega)]; rfl
      replace F := And.intro hlt F
      replace F := And.intro hat F
      replace F := And.intro hb1 F
      replace F := And.intro hw F
      refine rg' (h := fun J13 hJ13 => ?_)
      refine hJ13 _ _ ?_
      refine hK12 _ _ ?_
      refine sq fun K14 hK14 => ?_
      refine rg' (h := fun J15 hJ15 => ?_)
      refine hJ15 _ _ ?_
      refine hK14 _ _ ?_
      refine sq fun K16 hK16 => ?_
      refine rg' (h := fun J17 hJ17 => ?_)
      refine hJ17 _ _ ?_
      refine hK16 _ _ ?_
      refine cs (fun c24 => ?_) (fun c24 => ?_)
      · try exact nope c24
        all_goals have c24p := c24
        all_goals try simp [F] at c24p
        all_goals
         replace F := And.intro c24 F
         try replace F := And.intro c24p F
         have h1 : t < E + xl := by have h := c24; simp at h; omega
         rw [if_pos h1, Nat.zero_add] at hE
         have hpt := persC_take pp i
         replace F := And.intro hE (And.intro hpt F)
         refine sq fun K18 hK18 => ?_
         refine rg' (h := fun J19 hJ19 => ?_)
         refine hJ19 _ _ ?_
         refine hK18 _ _ ?_
         refine run_ret ?_
         try simp only [Then, InBlock, NoGoto]
         refine answer_tmp rfl (.inr rfl) ?_
         exact gcr
      try exact nope c24
      all_goals have c24p := c24
      all_goals try simp [F] at c24p
      all_goals
       replace F := And.intro c24 F
       try replace F := And.intro c24p F
       have h1 : ¬ t < E + xl := by have h := c24; simp at h; omega
       rw [if_neg h1] at hE
       have hE2 : overN pp ps t = overN (pp.drop (i + 1)) (E + xl) t + (i + 1) := by rw [hE]; omega
       have hqe2 : E + xl + lenS (pp.drop (i + 1)) < 2 ^ 64 := by omega
       refine run_skip ?_
       refine hK11 _ _ ?_
       refine rg' (h := fun J20 hJ20 => ?_)
       refine hJ20 _ _ ?_
       refine ⟨gk, (⟨i + 1, E + xl, []⟩), ⟨kpG, lpG, ?_, ?_, lpG, lpG, lpG⟩, lpG⟩
       · exact hE2
       · exact hqe2
   try exact nope c14
   all_goals have c14p := c14
   all_goals try simp [F] at c14p
   all_goals
    replace F := And.intro c14 F
    try replace F := And.intro c14p F
    have hii : q.i = pp.length := by have h := c14; simp at h; omega
    have hend : overN pp ps t = pp.length := by rw [hE, List.drop_of_length_le (by omega)]; simp [overN, hii]
    have htk : pp.take pp.length = pp := List.take_length
    replace F := And.intro hend (And.intro htk F)
    refine run_exit ?_
    refine hK5 _ _ ?_
    refine sq fun K21 hK21 => ?_
    refine rg' (h := fun J22 hJ22 => ?_)
    refine hJ22 _ _ ?_
    refine hK21 _ _ ?_
    refine run_ret ?_
    try simp only [Then, InBlock, NoGoto]
    refine answer_tmp rfl (.inr rfl) ?_
    exact gcr

end Go.Proofs.Ytdbaddholggkbaa

/-
  What a plan gives..
-/
namespace Go.Proofs.Ytdbaddholggkbaa
set_option linter.unnecessarySimpa false
set_option maxRecDepth 100000
open Go Go.Vm
set_option linter.unusedSimpArgs false
set_option linter.unusedVariables false

attribute [local simp] evalL wantedA isCall opA evalA evalAll evalsA evalOpt ofValue ofCell plain binA_eql_pn binA_neq_pn binA_gtr binA_lss binA_geq binA_leq binA_add binA_sub binA_eql binA_neq binA_orI binA_andI binA_shl binA_shr binA_mul binA_quo binA_rem binA_agg_eql binA_agg_neq convA_int unA_not fieldAddrA loadA partA pickA_true pickA_false pickA_bb lenA builtinA storeA splice AV.cells AV.isCell sliceA boundA intA callOf indexAddrA newObjA buildA fillA zeroA ofCells buildSliceA indexA fieldA numA_len4 numA_take4 numA_drop4 set_appN get_appN take_appN List.getElem?_cons_zero List.getElem?_cons_succ makeA zeros64

set_option maxHeartbeats 1600000 in
attribute [local simp] undefA List.getElem?_cons_zero List.getElem?_cons_succ plnC persC_noObj coinC in
theorem pvested_ok {σ : St} {p : Pln} {t : Nat} (hp : p.Ok) (hc : p.tot.length ≤ 1000000) (hs : p.s + lenS p.ps < 2 ^ 64) (ht : t < 2 ^ 64) :
    CallsA Try.prog 23 [.agg (plnC p), .v (.int .u64 t)] σ (fun av σ' => av = .sl 5 (coinsC (vestL p t)) (vestL p t).length .shut ∧ σ = σ') := by
  refine callsA_gcS ?_ (by simp [AV.under])
  have hp0 := hp
  obtain ⟨pk, ps, pe, pt, pp⟩ := p
  obtain ⟨k1, k2, k3, k4, h5⟩ := hp
  simp only at hc hs k1 k2 k3 k4 h5
  have hkn : ∀ n : UInt8, pk = n ↔ (pk.toNat : Int) = (n.toNat : Int) := fun n => ⟨fun e => by rw [e], fun e => UInt8.toNat_inj.1 (Int.ofNat_inj.1 e)⟩
  have hon := overN_le pp ps t
  have hol : (pp.take (overN pp ps t)).length = overN pp ps t := by simp; omega
  have hsum : ∀ σ, CallsA Try.prog 63 [.sl 2 (persC (pp.take (overN pp ps t))) (overN pp ps t) .shut] σ (fun av σ' => av = .sl 5 (coinsC (sumL (pp.take (overN pp ps t)) [])) (sumL (pp.take (overN pp ps t)) []).length .shut ∧ σ = σ') := fun σ => by
    have h := psum_ok (σ := σ) (l := pp.take (overN pp ps t)) (tl := .shut) (by rw [hol]; omega) (fun x hx => (h5 x (List.mem_of_mem_take hx)).2)
    rw [hol] at h; exact h
  have F := True.intro
  refine callsA_body Try.func23 rfl rfl rfl ?_
  refine sq fun K1 hK1 => ?_
  refine rg' (h := fun J2 hJ2 => ?_)
  refine hJ2 _ _ ?_
  refine hK1 _ _ ?_
  refine sq fun K3 hK3 => ?_
  refine run_block_k ?_
  refine sq fun K4 hK4 => ?_
  refine rg' (h := fun J5 hJ5 => ?_)
  refine gs 14 (fun g1_3 => ?_) (fun g1_3 => ?_)
  · try exact nope g1_3
    all_goals have g1_3p := g1_3
    all_goals try simp [F] at g1_3p
    all_goals
     replace F := And.intro g1_3 F
     try replace F := And.intro g1_3p F
     refine no2 (k := ?_)
     refine no2 (k := ?_)
     refine no2 (k := ?_)
     refine hJ5 _ _ ?_
     refine hK4 _ _ ?_
     refine ct ?_
     refine sq fun K6 hK6 => ?_
     have h35 : (pk.toNat : Int) = 3 ∨ (pk.toNat : Int) = 5 := by first | exact .inl (by simpa using g1_3) | exact .inr (by simpa using c10)
     have hv : vestL ⟨pk, ps, pe, pt, pp⟩ t = sumL (pp.take (overN pp ps t)) [] := by rw [vestL]; rcases h35 with h | h <;> simp [hkn, h]
     replace F := And.intro hv F
     refine rg' (h := fun J7 hJ7 => ?_)
     refine ca (c := (pover_ok (t := t) hp0 hs)) (k := ?_)
     rintro _ _ ⟨rfl, rfl⟩
     repeat (first | simp [F] | simp (disch := omega) only [wC, if_pos, if_neg])
     refine ca (c := hsum _) (k := ?_)
     rintro _ _ ⟨rfl, rfl⟩
     repeat (first | simp [F] | simp (disch := omega) only [wC, if_pos, if_neg])
     refine hJ7 _ _ ?_
     refine hK6 _ _ ?_
     refine run_ret ?_
     try simp only [Then, InBlock, NoGoto]
     refine answer_tmp rfl (.inr rfl) ?_
     exact gcr (hA := by simp only [putA_get]; simp [vestL, hkn, F]; first | exact Wk.refl _ | exact Wk.nil _ _ _)
  try exact nope g1_3
  all_goals have g1_3p := g1_3
  all_goals try simp [F] at g1_3p
  all_goals
   replace F := And.intro g1_3 F
   try replace F := And.intro g1_3p F
   refine go2 (k := ?_)
   refine go2 (k := ?_)
   refine go2 (k := ?_)
   refine hJ5 _ _ ?_
   refine hK4 _ _ ?_
   refine cs (fun c10 => ?_) (fun c10 => ?_)
   · try exact nope c10
     all_goals have c10p := c10
     all_goals try simp [F] at c10p
     all_goals
      replace F := And.intro c10 F
      try replace F := And.intro c10p F
      refine sq fun K8 hK8 => ?_
      have h35 : (pk.toNat : Int) = 3 ∨ (pk.toNat : Int) = 5 := by first | exact .inl (by simpa using g1_3) | exact .inr (by simpa using c10)
      have hv : vestL ⟨pk, ps, pe, pt, pp⟩ t = sumL (pp.take (overN pp ps t)) [] := by rw [vestL]; rcases h35 with h | h <;> simp [hkn, h]
      replace F := And.intro hv F
      refine rg' (h := fun J9 hJ9 => ?_)
      refine ca (c := (pover_ok (t := t) hp0 hs)) (k := ?_)
      rintro _ _ ⟨rfl, rfl⟩
      repeat (first | simp [F] | simp (disch := omega) only [wC, if_pos, if_neg])
      refine ca (c := hsum _) (k := ?_)
      rintro _ _ ⟨rfl, rfl⟩
      repeat (first | simp [F] | simp (disch := omega) only [wC, if_pos, if_neg])
      refine hJ9 _ _ ?_
      refine hK8 _ _ ?_
      refine run_ret ?_
      try simp only [Then, InBlock, NoGoto]
      refine answer_tmp rfl (.inr rfl) ?_
      exact gcr (hA := by simp only [putA_get]; simp [vestL, hkn, F]; first | exact Wk.refl _ | exact Wk.nil _ _ _)
   try exact nope c10
   all_goals have c10p := c10
   all_goals try simp [F] at c10p
   all_goals
    replace F := And.intro c10 F
    try replace F := And.intro c10p F
    refine sq fun K10 hK10 => ?_
    refine rg' (h := fun J11 hJ11 => ?_)
    refine gs 27 (fun g3_3 => ?_) (fun g3_3 => ?_)
    · try exact nope g3_3
      all_goals have g3_3p := g3_3
      all_goals try simp [F] at g3_3p
      all_goals
       replace F := And.intro g3_3 F
       try replace F := And.intro g3_3p F
       refine go2 (k := ?_)
       refine go2 (k := ?_)
       refine go2 (k := ?_)
       refine gs 32 (fun g3_8 => ?_) (fun g3_8 => ?_)
       · try exact nope g3_8
         all_goals have g3_8p := g3_8
         all_goals try simp [F] at g3_8p
         all_goals
          replace F := And.intro g3_8 F
          try replace F := And.intro g3_8p F
          refine no2 (k := ?_)
          refine no2 (k := ?_)
          refine no2 (k := ?_)
          refine no2 (k := ?_)
          refine no2 (k := ?_)
          refine no2 (k := ?_)
          refine no2 (k := ?_)
          refine no2 (k := ?_)
          refine no2 (k := ?_)
          refine hJ11 _ _ ?_
          refine hK10 _ _ ?_
          refine ct ?_
          refine sq fun K12 hK12 => ?_
          refine rg' (h := fun J13 hJ13 => ?_)
          refine hJ13 _ _ ?_
          refine hK12 _ _ ?_
          refine run_ret ?_
          try simp only [Then, InBlock, NoGoto]
          refine answer_tmp rfl (.inr rfl) ?_
          exact gcr (hA := by simp only [putA_get]; simp [vestL, hkn, F]; first | exact Wk.refl _ | exact Wk.nil _ _ _)
       try exact nope g3_8
       all_goals have g3_8p := g3_8
       all_goals try simp [F] at g3_8p
       all_goals
        replace F := And.intro g3_8 F
        try replace F := And.intro g3_8p F
        refine go2 (k := ?_)
        refine go2 (k := ?_)
        refine go2 (k := ?_)
        refine go2 (k := ?_)
        refine gs 36 (fun g3_12 => ?_) (fun g3_12 => ?_)
        · try exact nope g3_12
          all_goals have g3_12p := g3_12
          all_goals try simp [F] at g3_12p
          all_goals
           replace F := And.intro g3_12 F
           try replace F := And.intro g3_12p F
           refine go2 (k := ?_)
           refine go2 (k := ?_)
           refine go2 (k := ?_)
           refine go2 (k := ?_)
           refine go2 (k := ?_)
           refine hJ11 _ _ ?_
           refine hK10 _ _ ?_
           refine cs (fun c23 => ?_) (fun c23 => ?_)
           · try exact nope c23
             all_goals have c23p := c23
             all_goals try simp [F] at c23p
             all_goals
              replace F := And.intro c23 F
              try replace F := And.intro c23p F
              have n1 : t ≤ ps := by have h := c23; simp at h; omega
              replace F := And.intro n1 F
              refine sq fun K14 hK14 => ?_
              refine rg' (h := fun J15 hJ15 => ?_)
              refine hJ15 _ _ ?_
              refine hK14 _ _ ?_
              refine run_ret ?_
              try simp only [Then, InBlock, NoGoto]
              refine answer_tmp rfl (.inr rfl) ?_
              exact gcr (hA := by simp only [putA_get]; simp [vestL, hkn, F]; first | exact Wk.refl _ | exact Wk.nil _ _ _)
           try exact nope c23
           all_goals have c23p := c23
           all_goals try simp [F] at c23p
           all_goals
            replace F := And.intro c23 F
            try replace F := And.intro c23p F
            have n1 : ¬ t ≤ ps := by have h := c23; simp at h; omega
            replace F := And.intro n1 F
            refine sq fun K16 hK16 => ?_
            refine rg' (h := fun J17 hJ17 => ?_)
            refine hJ17 _ _ ?_
            refine hK16 _ _ ?_
            refine cs (fun c43 => ?_) (fun c43 => ?_)
            · try exact nope c43
              all_goals have c43p := c43
              all_goals try simp [F] at c43p
              all_goals
               replace F := And.intro c43 F
               try replace F := And.intro c43p F
               have n2 : pe ≤ t := by have h := c43; simp at h; omega
               replace F := And.intro n2 F
               refine sq fun K18 hK18 => ?_
               refine rg' (h := fun J19 hJ19 => ?_)
               refine ca (c := cclone_ok hc) (k := ?_)
               rintro _ _ ⟨rfl, rfl⟩
               repeat (first | simp [F] | simp (disch := omega) only [wC, if_pos, if_neg])
               refine hJ19 _ _ ?_
               refine hK18 _ _ ?_
               refine run_ret ?_
               try simp only [Then, InBlock, NoGoto]
               refine answer_tmp rfl (.inr rfl) ?_
               exact gcr (hA := by simp only [putA_get]; simp [vestL, hkn, F]; first | exact Wk.refl _ | exact Wk.nil _ _ _)
            try exact nope c43
            all_goals have c43p := c43
            all_goals try simp [F] at c43p
            all_goals
             replace F := And.intro c43 F
             try replace F := And.intro c43p F
             have n2 : ¬ pe ≤ t := by have h := c43; simp at h; omega
             replace F := And.intro n2 F
             refine sq fun K20 hK20 => ?_
             refine rg' (h := fun J21 hJ21 => ?_)
             refine hJ21 _ _ ?_
             refine hK20 _ _ ?_
             refine cs (fun c51 => ?_) (fun c51 => ?_)
             · try exact nope c51
               all_goals have c51p := c51
               all_goals try simp [F] at c51p
               all_goals
                replace F := And.intro c51 F
                try replace F := And.intro c51p F
                refine sq fun K22 hK22 => ?_
                refine rg' (h := fun J23 hJ23 => ?_)
                refine hJ23 _ _ ?_
                refine hK22 _ _ ?_
                refine run_ret ?_
                try simp only [Then, InBlock, NoGoto]
                refine answer_tmp rfl (.inr rfl) ?_
                exact gcr (hA := by simp only [putA_get]; simp [vestL, hkn, F]; first | exact Wk.refl _ | exact Wk.nil _ _ _)
             try exact nope c51
             all_goals have c51p := c51
             all_goals try simp [F] at c51p
             all_goals
              replace F := And.intro c51 F
              try replace F := And.intro c51p F
              refine run_skip ?_
              refine hK3 _ _ ?_
              refine sq fun K24 hK24 => ?_
              refine rg' (h := fun J25 hJ25 => ?_)
              refine hJ25 _ _ ?_
              refine hK24 _ _ ?_
              refine sq fun K26 hK26 => ?_
              refine sq fun K27 hK27 => ?_
              refine rg' (h := fun J28 hJ28 => ?_)
              refine hJ28 _ _ ?_
              refine hK27 _ _ ?_
              refine run_block_k ?_
              refine run_loopG (X := Nat) [1, 2, 4, 56, 57] (fun i ρ σ1 => (i ≤ pt.length) ∧ (ρ 5 = grA σ.toks.length 5 (posB i) (coinsC (partL ps pe t (pt.take i))) (partL ps pe t (pt.take i)).length) ∧ (ρ 58 = .v (.int .i64 i)) ∧ (σ1 = { σ with objs := σ.objs ++ [[.v (.int .u8 pk.toNat), .v (.int .u64 ps), .v (.int .u64 pe), .sl 5 (coinsC pt) pt.length .shut, .sl 2 (persC pp) pp.length .shut]], toks := σ.toks ++ grT (posB i) (partL ps pe t (pt.take i)).length })) (fun i => pt.length - i) (0) ?st1 ?rd1
              case st1 =>
               refine ⟨lp, lp, lp, ?_⟩
               · simp [F]
              case rd1 =>
               rintro i ρ1 σ1 hF1 ⟨hi, h8, h12, hσ⟩
               obtain rfl := hσ.symm
               have f1 := keepL hF1
               try simp [KeepL, F] at f1
               replace F := And.intro h8 F
               replace F := And.intro h12 F
               try replace F := And.intro f1 F
               refine sq fun K29 hK29 => ?_
               refine rg' (h := fun J30 hJ30 => ?_)
               refine hJ30 _ _ ?_
               refine hK29 _ _ ?_
               refine sq fun K31 hK31 => ?_
               refine cs (fun c59 => ?_) (fun c59 => ?_)
               · try exact nope c59
                 all_goals have c59p := c59
                 all_goals try simp [F] at c59p
                 all_goals
                  replace F := And.intro c59 F
                  try replace F := And.intro c59p F
                  refine run_skip ?_
                  refine hK31 _ _ ?_
                  refine sq fun K32 hK32 => ?_
                  refine run_block_k ?_
                  refine sq fun K33 hK33 => ?_
                  have hlt : i < pt.length := by simp at c59; omega
                  have hat := coinsC_at hlt
                  have hb1 : i * 5 + 5 ≤ pt.length * 5 := by omega
                  obtain ⟨x, hx⟩ : ∃ x, x = pt[i] := ⟨_, rfl⟩
                  rw [← hx] at hat
                  simp only [coinC] at hat
                  have hse : ps < t := by have h := c23; simp at h; omega
                  have hte : t < pe := by have h := c43; simp at h; omega
                  have hw1 : IntKind.u64.wrap ((t : Int) - ps) = ((t - ps : Nat) : Int) := by rw [wrap_u64c (by omega)]; omega
                  have hw2 : IntKind.u64.wrap ((pe : Int) - ps) = ((pe - ps : Nat) : Int) := by rw [wrap_u64c (by omega)]; omega
                  have hpn : partN x ps pe t < 2 ^ 256 := partN_lt (by omega)
                  have hmd : mdN x.n.v (t - ps) (pe - ps) false = (Num.of (partN x ps pe t)).v := by rw [Num.of_v hpn, mdN, if_neg (by omega), show mdQ x.n.v (t - ps) (pe - ps) false = partN x ps pe t by simp [mdQ, partN], if_pos hpn]
                  obtain ⟨n, hn⟩ : ∃ n, n = Num.of (partN x ps pe t) := ⟨_, rfl⟩
                  rw [← hn] at hmd
                  obtain ⟨L, hL⟩ : ∃ L, L = partL ps pe t (pt.take i) := ⟨_, rfl⟩
                  obtain ⟨M, hM⟩ : ∃ M, M = oneL x.d n := ⟨_, rfl⟩
                  have hnx : partL ps pe t (pt.take (i + 1)) = L ++ M := by rw [hL, hM, hn, ← partL_snoc, hx, List.take_append_getElem hlt]
                  have hLl : L.length ≤ i := by rw [hL]; exact Nat.le_trans (partL_len _ _ _ _) (by simp; omega)
                  have hMl : M.length ≤ 1 := by rw [hM]; unfold oneL; split <;> simp
                  rw [← hL] at h8 F
                  rw [← hL]
                  have hb0 : posB i = false → coinsC L = [] ∧ L.length = 0 := fun h => by have h0 := posB_no h; subst h0; rw [hL]; simp [partL]
                  have happ : ∀ objs, appendA Try.prog 23 (grA σ.toks.length 5 (posB i) (coinsC L) L.length) (.sl 5 (coinsC M) M.length .shut) ⟨objs, σ.toks ++ grT (posB i) L.length, σ.gl, σ.rows⟩ = some (grA σ.toks.length 5 true (coinsC L ++ coinsC M) (L.length + M.length), ⟨objs, σ.toks ++ grT true (L.length + M.length), σ.gl, σ.rows⟩) := fun objs => append_gr elemT_23 ti_86 (by decide) rfl hb0 (.inl rfl) (by simp [roomA]; omega) (by simp [maxLen]; omega)
                  replace F := And.intro hlt F
                  replace F := And.intro hat F
                  replace F := And.intro hb1 F
                  replace F := And.intro hw1 F
                  replace F := And.intro hw2 F
                  replace F := And.intro happ F
                  refine rg' (h := fun J34 hJ34 => ?_)
                  refine hJ34 _ _ ?_
                  refine hK33 _ _ ?_
                  refine sq fun K35 hK35 => ?_
                  refine run_draw (by kernel_rfl) fun J36 hJ36 => ?_
                  refine rp2 0 (k := ?_)
                  refine rp2 1 (k := ?_)
                  refine rp2 2 (k := ?_)
                  refine rp2 3 (k := ?_)
                  refine rp2 4 (k := ?_)
                  refine rp2 5 (k := ?_)
                  refine rp2 7 (k := ?_)
                  refine rp2 8 (k := ?_)
                  refine rp2 9 (k := ?_)
                  refine rp2 10 (k := ?_)
                  refine rp2 11 (k := ?_)
                  refine d2 6 17 ?_ ?_
                  · refine ac 6 rfl (c := nOf_ok (n := t - ps) (by omega)) (k := ?_)
                    rintro _ _ ⟨rfl, rfl⟩
                    refine ⟨by first | exact fun _ _ h => h | (refine later_list [11, 10, 9, 8, 7, 4, 3, 2, 1, 0] (by kernel_rfl) (List.forall_mem_cons.2 ⟨fun _ => fact2 rfl rfl ?_, List.forall_mem_cons.2 ⟨fun _ => fact2 rfl rfl ?_, List.forall_mem_cons.2 ⟨fun _ => fact2 rfl rfl ?_, List.forall_mem_cons.2 ⟨fun _ => fact2 rfl rfl ?_, List.forall_mem_cons.2 ⟨fun _ => fact2 rfl rfl ?_, List.forall_mem_cons.2 ⟨fun _ => fact2 rfl rfl ?_, List.forall_mem_cons.2 ⟨fun _ => fact2 rfl rfl ?_, List.forall_mem_cons.2 ⟨fun _ => fact2 rfl rfl ?_, List.forall_mem_cons.2 ⟨fun _ => fact2 rfl rfl ?_, List.forall_mem_cons.2 ⟨fun _ => fact2 rfl rfl ?_, fun _ h => absurd h List.not_mem_nil⟩⟩⟩⟩⟩⟩⟩⟩⟩⟩) <;> constructor <;> first | rfl | (simp [F]; done)), ?_⟩
                    repeat (first | simp [F] | simp (disch := omega) only [wC, if_pos, if_neg])
                    refine d2 12 17 ?_ ?_
                    · refine ac 12 rfl (c := nOf_ok (n := pe - ps) (by omega)) (k := ?_)
                      rintro _ _ ⟨rfl, rfl⟩
                      refine ⟨by first | exact fun _ _ h => h | (refine later_list [10, 9, 8, 7, 4, 3, 2, 1, 0] (by kernel_rfl) (List.forall_mem_cons.2 ⟨fun _ => fact2 rfl rfl ?_, List.forall_mem_cons.2 ⟨fun _ => fact2 rfl rfl ?_, List.forall_mem_cons.2 ⟨fun _ => fact2 rfl rfl ?_, List.forall_mem_cons.2 ⟨fun _ => fact2 rfl rfl ?_, List.forall_mem_cons.2 ⟨fun _ => fact2 rfl rfl ?_, List.forall_mem_cons.2 ⟨fun _ => fact2 rfl rfl ?_, List.forall_mem_cons.2 ⟨fun _ => fact2 rfl rfl ?_, List.forall_mem_cons.2 ⟨fun _ => fact2 rfl rfl ?_, List.forall_mem_cons.2 ⟨fun _ => fact2 rfl rfl ?_, fun _ h => absurd h List.not_mem_nil⟩⟩⟩⟩⟩⟩⟩⟩⟩) <;> constructor <;> first | rfl | (simp [F]; done)), ?_⟩
                      repeat (first | simp [F] | simp (disch := omega) only [wC, if_pos, if_neg])
                      refine d2 13 17 ?_ ?_
                      · refine ac 13 rfl (c := (hmd ▸ muldiv_ok x.n.h (by omega) (by omega))) (k := ?_)
                        rintro _ _ ⟨rfl, rfl⟩
                        refine ⟨by first | exact fun _ _ h => h | (refine later_list [10, 9, 8, 7, 4, 3, 2, 0] (by kernel_rfl) (List.forall_mem_cons.2 ⟨fun _ => fact2 rfl rfl ?_, List.forall_mem_cons.2 ⟨fun _ => fact2 rfl rfl ?_, List.forall_mem_cons.2 ⟨fun _ => fact2 rfl rfl ?_, List.forall_mem_cons.2 ⟨fun _ => fact2 rfl rfl ?_, List.forall_mem_cons.2 ⟨fun _ => fact2 rfl rfl ?_, List.forall_mem_cons.2 ⟨fun _ => fact2 rfl rfl ?_, List.forall_mem_cons.2 ⟨fun _ => fact2 rfl rfl ?_, List.forall_mem_cons.2 ⟨fun _ => fact2 rfl rfl ?_, fun _ h => absurd h List.not_mem_nil⟩⟩⟩⟩⟩⟩⟩⟩) <;> constructor <;> first | rfl | (simp [F]; done)), ?_⟩
                        repeat (first | simp [F] | simp (disch := omega) only [wC, if_pos, if_neg])
                        refine rp2 14 (k := ?_)
                        refine rp2 15 (k := ?_)
                        refine rp2 16 (k := ?_)
                        refine dop 17 rfl ?_
                        repeat (first | simp [F] | simp (disch := omega) only [wC, if_pos, if_neg])
                        refine ⟨by first | exact later_more _ (by kernel_rfl) | exact later_more2 (by kernel_rfl) rfl, ?_⟩
                        refine dop 18 rfl ?_
                        repeat (first | simp [F] | simp (disch := omega) only [wC, if_pos, if_neg])
                        refine ⟨later_tmp (by kernel_rfl), ?_⟩
                        refine rp2 19 (k := ?_)
                        refine dd ?_
                        refine hJ36 _ _ ?_
                        refine hK35 _ _ ?_
                        refine rg' (h := fun J37 hJ37 => ?_)
                        refine ca (c := (hM ▸ one_ok (d := x.d) (n := n))) (k := ?_)
                        rintro _ _ ⟨rfl, rfl⟩
                        repeat (first | simp [F] | simp (disch := omega) only [wC, if_pos, if_neg])
                        refine hJ37 _ _ ?_
                        refine hK32 _ _ ?_
                        refine rg' (h := fun J38 hJ38 => ?_)
                        refine hJ38 _ _ ?_
                        refine ⟨gk, (i + 1), ⟨kpG, lpG, ?_, lpG, ?_⟩, lpG⟩
                        · rw [hnx, ← coinsC_append]
                          simp [F, AV.gcO, noObjL_append]
                        · rw [hnx]
                          simp [F, St.trimO]
                      · refine ao 17 rfl ?_
                        repeat (first | simp [F] | simp (disch := omega) only [wC, if_pos, if_neg])
                        refine ⟨by first | exact later_more _ (by kernel_rfl) | exact later_more2 (by kernel_rfl) rfl, ?_⟩
                        refine dc 13 rfl (c := (hmd ▸ muldiv_ok x.n.h (by omega) (by omega))) (k := ?_)
                        rintro _ _ ⟨rfl, rfl⟩
                        refine ⟨by first | exact fun _ _ h => h | (refine later_list [10, 9, 8, 7, 4, 3, 2, 0] (by kernel_rfl) (List.forall_mem_cons.2 ⟨fun _ => fact2 rfl rfl ?_, List.forall_mem_cons.2 ⟨fun _ => fact2 rfl rfl ?_, List.forall_mem_cons.2 ⟨fun _ => fact2 rfl rfl ?_, List.forall_mem_cons.2 ⟨fun _ => fact2 rfl rfl ?_, List.forall_mem_cons.2 ⟨fun _ => fact2 rfl rfl ?_, List.forall_mem_cons.2 ⟨fun _ => fact2 rfl rfl ?_, List.forall_mem_cons.2 ⟨fun _ => fact2 rfl rfl ?_, List.forall_mem_cons.2 ⟨fun _ => fact2 rfl rfl ?_, fun _ h => absurd h List.not_mem_nil⟩⟩⟩⟩⟩⟩⟩⟩) <;> constructor <;> first | rfl | (simp [F]; done)), ?_⟩
                        repeat (first | simp [F] | simp (disch := omega) only [wC, if_pos, if_neg])
                        refine rp2 14 (k := ?_)
                        refine rp2 15 (k := ?_)
                        refine rp2 16 (k := ?_)
                        refine dop 18 rfl ?_
                        repeat (first | simp [F] | simp (disch := omega) only [wC, if_pos, if_neg])
                        refine ⟨later_tmp (by kernel_rfl), ?_⟩
                        refine rp2 19 (k := ?_)
                        refine dd ?_
                        refine hJ36 _ _ ?_
                        refine hK35 _ _ ?_
                        refine rg' (h := fun J39 hJ39 => ?_)
                        refine ca (c := (hM ▸ one_ok (d := x.d) (n := n))) (k := ?_)
                        rintro _ _ ⟨rfl, rfl⟩
                        repeat (first | simp [F] | simp (disch := omega) only [wC, if_pos, if_neg])
                        refine hJ39 _ _ ?_
                        refine hK32 _ _ ?_
                        refine rg' (h := fun J40 hJ40 => ?_)
                        refine hJ40 _ _ ?_
                        refine ⟨gk, (i + 1), ⟨kpG, lpG, ?_, lpG, ?_⟩, lpG⟩
                        · rw [hnx, ← coinsC_append]
                          simp [F, AV.gcO, noObjL_append]
                        · rw [hnx]
                          simp [F, St.trimO]
                    · refine ao 17 rfl ?_
                      repeat (first | simp [F] | simp (disch := omega) only [wC, if_pos, if_neg])
                      refine ⟨by first | exact later_more _ (by kernel_rfl) | exact later_more2 (by kernel_rfl) rfl, ?_⟩
                      refine dc 12 rfl (c := nOf_ok (n := pe - ps) (by omega)) (k := ?_)
                      rintro _ _ ⟨rfl, rfl⟩
                      refine ⟨by first | exact fun _ _ h => h | (refine later_list [10, 9, 8, 7, 4, 3, 2, 1, 0] (by kernel_rfl) (List.forall_mem_cons.2 ⟨fun _ => fact2 rfl rfl ?_, List.forall_mem_cons.2 ⟨fun _ => fact2 rfl rfl ?_, List.forall_mem_cons.2 ⟨fun _ => fact2 rfl rfl ?_, List.forall_mem_cons.2 ⟨fun _ => fact2 rfl rfl ?_, List.forall_mem_cons.2 ⟨fun _ => fact2 rfl rfl ?_, List.forall_mem_cons.2 ⟨fun _ => fact2 rfl rfl ?_, List.forall_mem_cons.2 ⟨fun _ => fact2 rfl rfl ?_, List.forall_mem_cons.2 ⟨fun _ => fact2 rfl rfl ?_, List.forall_mem_cons.2 ⟨fun _ => fact2 rfl rfl ?_, fun _ h => absurd h List.not_mem_nil⟩⟩⟩⟩⟩⟩⟩⟩⟩) <;> constructor <;> first | rfl | (simp [F]; done)), ?_⟩
                      repeat (first | simp [F] | simp (disch := omega) only [wC, if_pos, if_neg])
                      refine dc 13 rfl (c := (hmd ▸ muldiv_ok x.n.h (by omega) (by omega))) (k := ?_)
                      rintro _ _ ⟨rfl, rfl⟩
                      refine ⟨by first | exact fun _ _ h => h | (refine later_list [10, 9, 8, 7, 4, 3, 2, 0] (by kernel_rfl) (List.forall_mem_cons.2 ⟨fun _ => fact2 rfl rfl ?_, List.forall_mem_cons.2 ⟨fun _ => fact2 rfl rfl ?_, List.forall_mem_cons.2 ⟨fun _ => fact2 rfl rfl ?_, List.forall_mem_cons.2 ⟨fun _ => fact2 rfl rfl ?_, List.forall_mem_cons.2 ⟨fun _ => fact2 rfl rfl ?_, List.forall_mem_cons.2 ⟨fun _ => fact2 rfl rfl ?_, List.forall_mem_cons.2 ⟨fun _ => fact2 rfl rfl ?_, List.forall_mem_cons.2 ⟨fun _ => fact2 rfl rfl ?_, fun _ h => absurd h List.not_mem_nil⟩⟩⟩⟩⟩⟩⟩⟩) <;> constructor <;> first | rfl | (simp [F]; done)), ?_⟩
                      repeat (first | simp [F] | simp (disch := omega) only [wC, if_pos, if_neg])
                      refine rp2 14 (k := ?_)
                      refine rp2 15 (k := ?_)
                      refine rp2 16 (k := ?_)
                      refine dop 18 rfl ?_
                      repeat (first | simp [F] | simp (disch := omega) only [wC, if_pos, if_neg])
                      refine ⟨later_tmp (by kernel_rfl), ?_⟩
                      refine rp2 19 (k := ?_)
                      refine dd ?_
                      refine hJ36 _ _ ?_
                      refine hK35 _ _ ?_
                      refine rg' (h := fun J41 hJ41 => ?_)
                      refine ca (c := (hM ▸ one_ok (d := x.d) (n := n))) (k := ?_)
                      rintro _ _ ⟨rfl, rfl⟩
                      repeat (first | simp [F] | simp (disch := omega) only [wC, if_pos, if_neg])
                      refine hJ41 _ _ ?_
                      refine hK32 _ _ ?_
                      refine rg' (h := fun J42 hJ42 => ?_)
                      refine hJ42 _ _ ?_
                      refine ⟨gk, (i + 1), ⟨kpG, lpG, ?_, lpG, ?_⟩, lpG⟩
                      · rw [hnx, ← coinsC_append]
                        simp [F, AV.gcO, noObjL_append]
                      · rw [hnx]
                        simp [F, St.trimO]
                  · refine ao 17 rfl ?_
                    repeat (first | simp [F] | simp (disch := omega) only [wC, if_pos, if_neg])
                    refine ⟨by first | exact later_more _ (by kernel_rfl) | exact later_more2 (by kernel_rfl) rfl, ?_⟩
                    refine dc 6 rfl (c := nOf_ok (n := t - ps) (by omega)) (k := ?_)
                    rintro _ _ ⟨rfl, rfl⟩
                    refine ⟨by first | exact fun _ _ h => h | (refine later_list [11, 10, 9, 8, 7, 4, 3, 2, 1, 0] (by kernel_rfl) (List.forall_mem_cons.2 ⟨fun _ => fact2 rfl rfl ?_, List.forall_mem_cons.2 ⟨fun _ => fact2 rfl rfl ?_, List.forall_mem_cons.2 ⟨fun _ => fact2 rfl rfl ?_, List.forall_mem_cons.2 ⟨fun _ => fact2 rfl rfl ?_, List.forall_mem_cons.2 ⟨fun _ => fact2 rfl rfl ?_, List.forall_mem_cons.2 ⟨fun _ => fact2 rfl rfl ?_, List.forall_mem_cons.2 ⟨fun _ => fact2 rfl rfl ?_, List.forall_mem_cons.2 ⟨fun _ => fact2 rfl rfl ?_, List.forall_mem_cons.2 ⟨fun _ => fact2 rfl rfl ?_, List.forall_mem_cons.2 ⟨fun _ => fact2 rfl rfl ?_, fun _ h => absurd h List.not_mem_nil⟩⟩⟩⟩⟩⟩⟩⟩⟩⟩) <;> constructor <;> first | rfl | (simp [F]; done)), ?_⟩
                    repeat (first | simp [F] | simp (disch := omega) only [wC, if_pos, if_neg])
                    refine dc 12 rfl (c := nOf_ok (n := pe - ps) (by omega)) (k := ?_)
                    rintro _ _ ⟨rfl, rfl⟩
                    refine ⟨by first | exact fun _ _ h => h | (refine later_list [10, 9, 8, 7, 4, 3, 2, 1, 0] (by kernel_rfl) (List.forall_mem_cons.2 ⟨fun _ => fact2 rfl rfl ?_, List.forall_mem_cons.2 ⟨fun _ => fact2 rfl rfl ?_, List.forall_mem_cons.2 ⟨fun _ => fact2 rfl rfl ?_, List.forall_mem_cons.2 ⟨fun _ => fact2 rfl rfl ?_, List.forall_mem_cons.2 ⟨fun _ => fact2 rfl rfl ?_, List.forall_mem_cons.2 ⟨fun _ => fact2 rfl rfl ?_, List.forall_mem_cons.2 ⟨fun _ => fact2 rfl rfl ?_, List.forall_mem_cons.2 ⟨fun _ => fact2 rfl rfl ?_, List.forall_mem_cons.2 ⟨fun _ => fact2 rfl rfl ?_, fun _ h => absurd h List.not_mem_nil⟩⟩⟩⟩⟩⟩⟩⟩⟩) <;> constructor <;> first | rfl | (simp [F]; done)), ?_⟩
                    repeat (first | simp [F] | simp (disch := omega) only [wC, if_pos, if_neg])
                    refine dc 13 rfl (c := (hmd ▸ muldiv_ok x.n.h (by omega) (by omega))) (k := ?_)
                    rintro _ _ ⟨rfl, rfl⟩
                    refine ⟨by first | exact fun _ _ h => h | (refine later_list [10, 9, 8, 7, 4, 3, 2, 0] (by kernel_rfl) (List.forall_mem_cons.2 ⟨fun _ => fact2 rfl rfl ?_, List.forall_mem_cons.2 ⟨fun _ => fact2 rfl rfl ?_, List.forall_mem_cons.2 ⟨fun _ => fact2 rfl rfl ?_, List.forall_mem_cons.2 ⟨fun _ => fact2 rfl rfl ?_, List.forall_mem_cons.2 ⟨fun _ => fact2 rfl rfl ?_, List.forall_mem_cons.2 ⟨fun _ => fact2 rfl rfl ?_, List.forall_mem_cons.2 ⟨fun _ => fact2 rfl rfl ?_, List.forall_mem_cons.2 ⟨fun _ => fact2 rfl rfl ?_, fun _ h => absurd h List.not_mem_nil⟩⟩⟩⟩⟩⟩⟩⟩) <;> constructor <;> first | rfl | (simp [F]; done)), ?_⟩
                    repeat (first | simp [F] | simp (disch := omega) only [wC, if_pos, if_neg])
                    refine rp2 14 (k := ?_)
                    refine rp2 15 (k := ?_)
                    refine rp2 16 (k := ?_)
                    refine dop 18 rfl ?_
                    repeat (first | simp [F] | simp (disch := omega) only [wC, if_pos, if_neg])
                    refine ⟨later_tmp (by kernel_rfl), ?_⟩
                    refine rp2 19 (k := ?_)
                    refine dd ?_
                    refine hJ36 _ _ ?_
                    refine hK35 _ _ ?_
                    refine rg' (h := fun J43 hJ43 => ?_)
                    refine ca (c := (hM ▸ one_ok (d := x.d) (n := n))) (k := ?_)
                    rintro _ _ ⟨rfl, rfl⟩
                    repeat (first | simp [F] | simp (disch := omega) only [wC, if_pos, if_neg])
                    refine hJ43 _ _ ?_
                    refine hK32 _ _ ?_
                    refine rg' (h := fun J44 hJ44 => ?_)
                    refine hJ44 _ _ ?_
                    refine ⟨gk, (i + 1), ⟨kpG, lpG, ?_, lpG, ?_⟩, lpG⟩
                    · rw [hnx, ← coinsC_append]
                      simp [F, AV.gcO, noObjL_append]
                    · rw [hnx]
                      simp [F, St.trimO]
               try exact nope c59
               all_goals have c59p := c59
               all_goals try simp [F] at c59p
               all_goals
                replace F := And.intro c59 F
                try replace F := And.intro c59p F
                have hii : i = pt.length := by have h := c59; simp at h; omega
                have hv : vestL ⟨pk, ps, pe, pt, pp⟩ t = partL ps pe t (pt.take i) := by rw [hii, List.take_length, vestL]; simp [hkn, F]
                replace F := And.intro hv F
                refine run_exit ?_
                refine hK26 _ _ ?_
                refine sq fun K45 hK45 => ?_
                refine rg' (h := fun J46 hJ46 => ?_)
                refine hJ46 _ _ ?_
                refine hK45 _ _ ?_
                refine run_ret ?_
                try simp only [Then, InBlock, NoGoto]
                refine answer_tmp rfl (.inr rfl) ?_
                rw [hv]
                exact gcr (hA := by simp only [putA_get]; simp [F]; exact wk_grA (fun h => by have h0 := posB_no h; subst h0; simp [partL]))
        try exact nope g3_12
        all_goals have g3_12p := g3_12
        all_goals try simp [F] at g3_12p
        all_goals
         replace F := And.intro g3_12 F
         try replace F := And.intro g3_12p F
         refine no2 (k := ?_)
         refine no2 (k := ?_)
         refine no2 (k := ?_)
         refine no2 (k := ?_)
         refine go2 (k := ?_)
         refine hJ11 _ _ ?_
         refine hK10 _ _ ?_
         refine cf ?_
         refine sq fun K47 hK47 => ?_
         refine rg' (h := fun J48 hJ48 => ?_)
         refine hJ48 _ _ ?_
         refine hK47 _ _ ?_
         refine cs (fun c43 => ?_) (fun c43 => ?_)
         · try exact nope c43
           all_goals have c43p := c43
           all_goals try simp [F] at c43p
           all_goals
            replace F := And.intro c43 F
            try replace F := And.intro c43p F
            have n2 : pe ≤ t := by have h := c43; simp at h; omega
            replace F := And.intro n2 F
            refine sq fun K49 hK49 => ?_
            refine rg' (h := fun J50 hJ50 => ?_)
            refine ca (c := cclone_ok hc) (k := ?_)
            rintro _ _ ⟨rfl, rfl⟩
            repeat (first | simp [F] | simp (disch := omega) only [wC, if_pos, if_neg])
            refine hJ50 _ _ ?_
            refine hK49 _ _ ?_
            refine run_ret ?_
            try simp only [Then, InBlock, NoGoto]
            refine answer_tmp rfl (.inr rfl) ?_
            exact gcr (hA := by simp only [putA_get]; simp [vestL, hkn, F]; first | exact Wk.refl _ | exact Wk.nil _ _ _)
         try exact nope c43
         all_goals have c43p := c43
         all_goals try simp [F] at c43p
         all_goals
          replace F := And.intro c43 F
          try replace F := And.intro c43p F
          have n2 : ¬ pe ≤ t := by have h := c43; simp at h; omega
          replace F := And.intro n2 F
          refine sq fun K51 hK51 => ?_
          refine rg' (h := fun J52 hJ52 => ?_)
          refine hJ52 _ _ ?_
          refine hK51 _ _ ?_
          refine cs (fun c51 => ?_) (fun c51 => ?_)
          · try exact nope c51
            all_goals have c51p := c51
            all_goals try simp [F] at c51p
            all_goals
             replace F := And.intro c51 F
             try replace F := And.intro c51p F
             refine sq fun K53 hK53 => ?_
             refine rg' (h := fun J54 hJ54 => ?_)
             refine hJ54 _ _ ?_
             refine hK53 _ _ ?_
             refine run_ret ?_
             try simp only [Then, InBlock, NoGoto]
             refine answer_tmp rfl (.inr rfl) ?_
             exact gcr (hA := by simp only [putA_get]; simp [vestL, hkn, F]; first | exact Wk.refl _ | exact Wk.nil _ _ _)
          try exact nope c51
          all_goals have c51p := c51
          all_goals try simp [F] at c51p
          all_goals
           replace F := And.intro c51 F
           try replace F := And.intro c51p F
           refine run_skip ?_
           refine hK3 _ _ ?_
           refine sq fun K55 hK55 => ?_
           refine rg' (h := fun J56 hJ56 => ?_)
           refine hJ56 _ _ ?_
           refine hK55 _ _ ?_
           refine sq fun K57 hK57 => ?_
           refine sq fun K58 hK58 => ?_
           refine rg' (h := fun J59 hJ59 => ?_)
           refine hJ59 _ _ ?_
           refine hK58 _ _ ?_
           refine run_block_k ?_
           refine run_loopG (X := Nat) [1, 2, 4, 56, 57] (fun i ρ σ1 => (i ≤ pt.length) ∧ (ρ 5 = grA σ.toks.length 5 (posB i) (coinsC (partL ps pe t (pt.take i))) (partL ps pe t (pt.take i)).length) ∧ (ρ 58 = .v (.int .i64 i)) ∧ (σ1 = { σ with objs := σ.objs ++ [[.v (.int .u8 pk.toNat), .v (.int .u64 ps), .v (.int .u64 pe), .sl 5 (coinsC pt) pt.length .shut, .sl 2 (persC pp) pp.length .shut]], toks := σ.toks ++ grT (posB i) (partL ps pe t (pt.take i)).length })) (fun i => pt.length - i) (0) ?st1 ?rd1
           case st1 =>
            refine ⟨lp, lp, lp, ?_⟩
            · simp [F]
           case rd1 =>
            rintro i ρ1 σ1 hF1 ⟨hi, h8, h12, hσ⟩
            obtain rfl := hσ.symm
            have f1 := keepL hF1
            try simp [KeepL, F] at f1
            replace F := And.intro h8 F
            replace F := And.intro h12 F
            try replace F := And.intro f1 F
            refine sq fun K60 hK60 => ?_
            refine rg' (h := fun J61 hJ61 => ?_)
            refine hJ61 _ _ ?_
            refine hK60 _ _ ?_
            refine sq fun K62 hK62 => ?_
            refine cs (fun c59 => ?_) (fun c59 => ?_)
            · try exact nope c59
              all_goals have c59p := c59
              all_goals try simp [F] at c59p
              all_goals
               replace F := And.intro c59 F
               try replace F := And.intro c59p F
               refine run_skip ?_
               refine hK62 _ _ ?_
               refine sq fun K63 hK63 => ?_
               refine run_block_k ?_
               refine sq fun K64 hK64 => ?_
               have hlt : i < pt.length := by simp at c59; omega
               have hat := coinsC_at hlt
               have hb1 : i * 5 + 5 ≤ pt.length * 5 := by omega
               obtain ⟨x, hx⟩ : ∃ x, x = pt[i] := ⟨_, rfl⟩
               rw [← hx] at hat
               simp only [coinC] at hat
               have hse : ps < t := by have h := c23; simp at h; omega
               have hte : t < pe := by have h := c43; simp at h; omega
               have hw1 : IntKind.u64.wrap ((t : Int) - ps) = ((t - ps : Nat) : Int) := by rw [wrap_u64c (by omega)]; omega
               have hw2 : IntKind.u64.wrap ((pe : Int) - ps) = ((pe - ps : Nat) : Int) := by rw [wrap_u64c (by omega)]; omega
               have hpn : partN x ps pe t < 2 ^ 256 := partN_lt (by omega)
               have hmd : mdN x.n.v (t - ps) (pe - ps) false = (Num.of (partN x ps pe t)).v := by rw [Num.of_v hpn, mdN, if_neg (by omega), show mdQ x.n.v (t - ps) (pe - ps) false = partN x ps pe t by simp [mdQ, partN], if_pos hpn]
               obtain ⟨n, hn⟩ : ∃ n, n = Num.of (partN x ps pe t) := ⟨_, rfl⟩
               rw [← hn] at hmd
               obtain ⟨L, hL⟩ : ∃ L, L = partL ps pe t (pt.take i) := ⟨_, rfl⟩
               obtain ⟨M, hM⟩ : ∃ M, M = oneL x.d n := ⟨_, rfl⟩
               have hnx : partL ps pe t (pt.take (i + 1)) = L ++ M := by rw [hL, hM, hn, ← partL_snoc, hx, List.take_append_getElem hlt]
               have hLl : L.length ≤ i := by rw [hL]; exact Nat.le_trans (partL_len _ _ _ _) (by simp; omega)
               have hMl : M.length ≤ 1 := by rw [hM]; unfold oneL; split <;> simp
               rw [← hL] at h8 F
               rw [← hL]
               have hb0 : posB i = false → coinsC L = [] ∧ L.length = 0 := fun h => by have h0 := posB_no h; subst h0; rw [hL]; simp [partL]
               have happ : ∀ objs, appendA Try.prog 23 (grA σ.toks.length 5 (posB i) (coinsC L) L.length) (.sl 5 (coinsC M) M.length .shut) ⟨objs, σ.toks ++ grT (posB i) L.length, σ.gl, σ.rows⟩ = some (grA σ.toks.length 5 true (coinsC L ++ coinsC M) (L.length + M.length), ⟨objs, σ.toks ++ grT true (L.length + M.length), σ.gl, σ.rows⟩) := fun objs => append_gr elemT_23 ti_86 (by decide) rfl hb0 (.inl rfl) (by simp [roomA]; omega) (by simp [maxLen]; omega)
               replace F := And.intro hlt F
               replace F := And.intro hat F
               replace F := And.intro hb1 F
               replace F := And.intro hw1 F
               replace F := And.intro hw2 F
               replace F := And.intro happ F
               refine rg' (h := fun J65 hJ65 => ?_)
               refine hJ65 _ _ ?_
               refine hK64 _ _ ?_
               refine sq fun K66 hK66 => ?_
               refine run_draw (by kernel_rfl) fun J67 hJ67 => ?_
               refine rp2 0 (k := ?_)
               refine rp2 1 (k := ?_)
               refine rp2 2 (k := ?_)
               refine rp2 3 (k := ?_)
               refine rp2 4 (k := ?_)
               refine rp2 5 (k := ?_)
               refine rp2 7 (k := ?_)
               refine rp2 8 (k := ?_)
               refine rp2 9 (k := ?_)
               refine rp2 10 (k := ?_)
               refine rp2 11 (k := ?_)
               refine d2 6 17 ?_ ?_
               · refine ac 6 rfl (c := nOf_ok (n := t - ps) (by omega)) (k := ?_)
                 rintro _ _ ⟨rfl, rfl⟩
                 refine ⟨by first | exact fun _ _ h => h | (refine later_list [11, 10, 9, 8, 7, 4, 3, 2, 1, 0] (by kernel_rfl) (List.forall_mem_cons.2 ⟨fun _ => fact2 rfl rfl ?_, List.forall_mem_cons.2 ⟨fun _ => fact2 rfl rfl ?_, List.forall_mem_cons.2 ⟨fun _ => fact2 rfl rfl ?_, List.forall_mem_cons.2 ⟨fun _ => fact2 rfl rfl ?_, List.forall_mem_cons.2 ⟨fun _ => fact2 rfl rfl ?_, List.forall_mem_cons.2 ⟨fun _ => fact2 rfl rfl ?_, List.forall_mem_cons.2 ⟨fun _ => fact2 rfl rfl ?_, List.forall_mem_cons.2 ⟨fun _ => fact2 rfl rfl ?_, List.forall_mem_cons.2 ⟨fun _ => fact2 rfl rfl ?_, List.forall_mem_cons.2 ⟨fun _ => fact2 rfl rfl ?_, fun _ h => absurd h List.not_mem_nil⟩⟩⟩⟩⟩⟩⟩⟩⟩⟩) <;> constructor <;> first | rfl | (simp [F]; done)), ?_⟩
                 repeat (first | simp [F] | simp (disch := omega) only [wC, if_pos, if_neg])
                 refine d2 12 17 ?_ ?_
                 · refine ac 12 rfl (c := nOf_ok (n := pe - ps) (by omega)) (k := ?_)
                   rintro _ _ ⟨rfl, rfl⟩
                   refine ⟨by first | exact fun _ _ h => h | (refine later_list [10, 9, 8, 7, 4, 3, 2, 1, 0] (by kernel_rfl) (List.forall_mem_cons.2 ⟨fun _ => fact2 rfl rfl ?_, List.forall_mem_cons.2 ⟨fun _ => fact2 rfl rfl ?_, List.forall_mem_cons.2 ⟨fun _ => fact2 rfl rfl ?_, List.forall_mem_cons.2 ⟨fun _ => fact2 rfl rfl ?_, List.forall_mem_cons.2 ⟨fun _ => fact2 rfl rfl ?_, List.forall_mem_cons.2 ⟨fun _ => fact2 rfl rfl ?_, List.forall_mem_cons.2 ⟨fun _ => fact2 rfl rfl ?_, List.forall_mem_cons.2 ⟨fun _ => fact2 rfl rfl ?_, List.forall_mem_cons.2 ⟨fun _ => fact2 rfl rfl ?_, fun _ h => absurd h List.not_mem_nil⟩⟩⟩⟩⟩⟩⟩⟩⟩) <;> constructor <;> first | rfl | (simp [F]; done)), ?_⟩
                   repeat (first | simp [F] | simp (disch := omega) only [wC, if_pos, if_neg])
                   refine d2 13 17 ?_ ?_
                   · refine ac 13 rfl (c := (hmd ▸ muldiv_ok x.n.h (by omega) (by omega))) (k := ?_)
                     rintro _ _ ⟨rfl, rfl⟩
                     refine ⟨by first | exact fun _ _ h => h | (refine later_list [10, 9, 8, 7, 4, 3, 2, 0] (by kernel_rfl) (List.forall_mem_cons.2 ⟨fun _ => fact2 rfl rfl ?_, List.forall_mem_cons.2 ⟨fun _ => fact2 rfl rfl ?_, List.forall_mem_cons.2 ⟨fun _ => fact2 rfl rfl ?_, List.forall_mem_cons.2 ⟨fun _ => fact2 rfl rfl ?_, List.forall_mem_cons.2 ⟨fun _ => fact2 rfl rfl ?_, List.forall_mem_cons.2 ⟨fun _ => fact2 rfl rfl ?_, List.forall_mem_cons.2 ⟨fun _ => fact2 rfl rfl ?_, List.forall_mem_cons.2 ⟨fun _ => fact2 rfl rfl ?_, fun _ h => absurd h List.not_mem_nil⟩⟩⟩⟩⟩⟩⟩⟩) <;> constructor <;> first | rfl | (simp [F]; done)), ?_⟩
                     repeat (first | simp [F] | simp (disch := omega) only [wC, if_pos, if_neg])
                     refine rp2 14 (k := ?_)
                     refine rp2 15 (k := ?_)
                     refine rp2 16 (k := ?_)
                     refine dop 17 rfl ?_
                     repeat (first | simp [F] | simp (disch := omega) only [wC, if_pos, if_neg])
                     refine ⟨by first | exact later_more _ (by kernel_rfl) | exact later_more2 (by kernel_rfl) rfl, ?_⟩
                     refine dop 18 rfl ?_
                     repeat (first | simp [F] | simp (disch := omega) only [wC, if_pos, if_neg])
                     refine ⟨later_tmp (by kernel_rfl), ?_⟩
                     refine rp2 19 (k := ?_)
                     refine dd ?_
                     refine hJ67 _ _ ?_
                     refine hK66 _ _ ?_
                     refine rg' (h := fun J68 hJ68 => ?_)
                     refine ca (c := (hM ▸ one_ok (d := x.d) (n := n))) (k := ?_)
                     rintro _ _ ⟨rfl, rfl⟩
                     repeat (first | simp [F] | simp (disch := omega) only [wC, if_pos, if_neg])
                     refine hJ68 _ _ ?_
                     refine hK63 _ _ ?_
                     refine rg' (h := fun J69 hJ69 => ?_)
                     refine hJ69 _ _ ?_
                     refine ⟨gk, (i + 1), ⟨kpG, lpG, ?_, lpG, ?_⟩, lpG⟩
                     · rw [hnx, ← coinsC_append]
                       simp [F, AV.gcO, noObjL_append]
                     · rw [hnx]
                       simp [F, St.trimO]
                   · refine ao 17 rfl ?_
                     repeat (first | simp [F] | simp (disch := omega) only [wC, if_pos, if_neg])
                     refine ⟨by first | exact later_more _ (by kernel_rfl) | exact later_more2 (by kernel_rfl) rfl, ?_⟩
                     refine dc 13 rfl (c := (hmd ▸ muldiv_ok x.n.h (by omega) (by omega))) (k := ?_)
                     rintro _ _ ⟨rfl, rfl⟩
                     refine ⟨by first | exact fun _ _ h => h | (refine later_list [10, 9, 8, 7, 4, 3, 2, 0] (by kernel_rfl) (List.forall_mem_cons.2 ⟨fun _ => fact2 rfl rfl ?_, List.forall_mem_cons.2 ⟨fun _ => fact2 rfl rfl ?_, List.forall_mem_cons.2 ⟨fun _ => fact2 rfl rfl ?_, List.forall_mem_cons.2 ⟨fun _ => fact2 rfl rfl ?_, List.forall_mem_cons.2 ⟨fun _ => fact2 rfl rfl ?_, List.forall_mem_cons.2 ⟨fun _ => fact2 rfl rfl ?_, List.forall_mem_cons.2 ⟨fun _ => fact2 rfl rfl ?_, List.forall_mem_cons.2 ⟨fun _ => fact2 rfl rfl ?_, fun _ h => absurd h List.not_mem_nil⟩⟩⟩⟩⟩⟩⟩⟩) <;> constructor <;> first | rfl | (simp [F]; done)), ?_⟩
                     repeat (first | simp [F] | simp (disch := omega) only [wC, if_pos, if_neg])
                     refine rp2 14 (k := ?_)
                     refine rp2 15 (k := ?_)
                     refine rp2 16 (k := ?_)
                     refine dop 18 rfl ?_
                     repeat (first | simp [F] | simp (disch := omega) only [wC, if_pos, if_neg])
                     refine ⟨later_tmp (by kernel_rfl), ?_⟩
                     refine rp2 19 (k := ?_)
                     refine dd ?_
                     refine hJ67 _ _ ?_
                     refine hK66 _ _ ?_
                     refine rg' (h := fun J70 hJ70 => ?_)
                     refine ca (c := (hM ▸ one_ok (d := x.d) (n := n))) (k := ?_)
                     rintro _ _ ⟨rfl, rfl⟩
                     repeat (first | simp [F] | simp (disch := omega) only [wC, if_pos, if_neg])
                     refine hJ70 _ _ ?_
                     refine hK63 _ _ ?_
                     refine rg' (h := fun J71 hJ71 => ?_)
                     refine hJ71 _ _ ?_
                     refine ⟨gk, (i + 1), ⟨kpG, lpG, ?_, lpG, ?_⟩, lpG⟩
                     · rw [hnx, ← coinsC_append]
                       simp [F, AV.gcO, noObjL_append]
                     · rw [hnx]
                       simp [F, St.trimO]
                 · refine ao 17 rfl ?_
                   repeat (first | simp [F] | simp (disch := omega) only [wC, if_pos, if_neg])
                   refine ⟨by first | exact later_more _ (by kernel_rfl) | exact later_more2 (by kernel_rfl) rfl, ?_⟩
                   refine dc 12 rfl (c := nOf_ok (n := pe - ps) (by omega)) (k := ?_)
                   rintro _ _ ⟨rfl, rfl⟩
                   refine ⟨by first | exact fun _ _ h => h | (refine later_list [10, 9, 8, 7, 4, 3, 2, 1, 0] (by kernel_rfl) (List.forall_mem_cons.2 ⟨fun _ => fact2 rfl rfl ?_, List.forall_mem_cons.2 ⟨fun _ => fact2 rfl rfl ?_, List.forall_mem_cons.2 ⟨fun _ => fact2 rfl rfl ?_, List.forall_mem_cons.2 ⟨fun _ => fact2 rfl rfl ?_, List.forall_mem_cons.2 ⟨fun _ => fact2 rfl rfl ?_, List.forall_mem_cons.2 ⟨fun _ => fact2 rfl rfl ?_, List.forall_mem_cons.2 ⟨fun _ => fact2 rfl rfl ?_, List.forall_mem_cons.2 ⟨fun _ => fact2 rfl rfl ?_, List.forall_mem_cons.2 ⟨fun _ => fact2 rfl rfl ?_, fun _ h => absurd h List.not_mem_nil⟩⟩⟩⟩⟩⟩⟩⟩⟩) <;> constructor <;> first | rfl | (simp [F]; done)), ?_⟩
                   repeat (first | simp [F] | simp (disch := omega) only [wC, if_pos, if_neg])
                   refine dc 13 rfl (c := (hmd ▸ muldiv_ok x.n.h (by omega) (by omega))) (k := ?_)
                   rintro _ _ ⟨rfl, rfl⟩
                   refine ⟨by first | exact fun _ _ h => h | (refine later_list [10, 9, 8, 7, 4, 3, 2, 0] (by kernel_rfl) (List.forall_mem_cons.2 ⟨fun _ => fact2 rfl rfl ?_, List.forall_mem_cons.2 ⟨fun _ => fact2 rfl rfl ?_, List.forall_mem_cons.2 ⟨fun _ => fact2 rfl rfl ?_, List.forall_mem_cons.2 ⟨fun _ => fact2 rfl rfl ?_, List.forall_mem_cons.2 ⟨fun _ => fact2 rfl rfl ?_, List.forall_mem_cons.2 ⟨fun _ => fact2 rfl rfl ?_, List.forall_mem_cons.2 ⟨fun _ => fact2 rfl rfl ?_, List.forall_mem_cons.2 ⟨fun _ => fact2 rfl rfl ?_, fun _ h => absurd h List.not_mem_nil⟩⟩⟩⟩⟩⟩⟩⟩) <;> constructor <;> first | rfl | (simp [F]; done)), ?_⟩
                   repeat (first | simp [F] | simp (disch := omega) only [wC, if_pos, if_neg])
                   refine rp2 14 (k := ?_)
                   refine rp2 15 (k := ?_)
                   refine rp2 16 (k := ?_)
                   refine dop 18 rfl ?_
                   repeat (first | simp [F] | simp (disch := omega) only [wC, if_pos, if_neg])
                   refine ⟨later_tmp (by kernel_rfl), ?_⟩
                   refine rp2 19 (k := ?_)
                   refine dd ?_
                   refine hJ67 _ _ ?_
                   refine hK66 _ _ ?_
                   refine rg' (h := fun J72 hJ72 => ?_)
                   refine ca (c := (hM ▸ one_ok (d := x.d) (n := n))) (k := ?_)
                   rintro _ _ ⟨rfl, rfl⟩
                   repeat (first | simp [F] | simp (disch := omega) only [wC, if_pos, if_neg])
                   refine hJ72 _ _ ?_
                   refine hK63 _ _ ?_
                   refine rg' (h := fun J73 hJ73 => ?_)
                   refine hJ73 _ _ ?_
                   refine ⟨gk, (i + 1), ⟨kpG, lpG, ?_, lpG, ?_⟩, lpG⟩
                   · rw [hnx, ← coinsC_append]
                     simp [F, AV.gcO, noObjL_append]
                   · rw [hnx]
                     simp [F, St.trimO]
               · refine ao 17 rfl ?_
                 repeat (first | simp [F] | simp (disch := omega) only [wC, if_pos, if_neg])
                 refine ⟨by first | exact later_more _ (by kernel_rfl) | exact later_more2 (by kernel_rfl) rfl, ?_⟩
                 refine dc 6 rfl (c := nOf_ok (n := t - ps) (by omega)) (k := ?_)
                 rintro _ _ ⟨rfl, rfl⟩
                 refine ⟨by first | exact fun _ _ h => h | (refine later_list [11, 10, 9, 8, 7, 4, 3, 2, 1, 0] (by kernel_rfl) (List.forall_mem_cons.2 ⟨fun _ => fact2 rfl rfl ?_, List.forall_mem_cons.2 ⟨fun _ => fact2 rfl rfl ?_, List.forall_mem_cons.2 ⟨fun _ => fact2 rfl rfl ?_, List.forall_mem_cons.2 ⟨fun _ => fact2 rfl rfl ?_, List.forall_mem_cons.2 ⟨fun _ => fact2 rfl rfl ?_, List.forall_mem_cons.2 ⟨fun _ => fact2 rfl rfl ?_, List.forall_mem_cons.2 ⟨fun _ => fact2 rfl rfl ?_, List.forall_mem_cons.2 ⟨fun _ => fact2 rfl rfl ?_, List.forall_mem_cons.2 ⟨fun _ => fact2 rfl rfl ?_, List.forall_mem_cons.2 ⟨fun _ => fact2 rfl rfl ?_, fun _ h => absurd h List.not_mem_nil⟩⟩⟩⟩⟩⟩⟩⟩⟩⟩) <;> constructor <;> first | rfl | (simp [F]; done)), ?_⟩
                 repeat (first | simp [F] | simp (disch := omega) only [wC, if_pos, if_neg])
                 refine dc 12 rfl (c := nOf_ok (n := pe - ps) (by omega)) (k := ?_)
                 rintro _ _ ⟨rfl, rfl⟩
                 refine ⟨by first | exact fun _ _ h => h | (refine later_list [10, 9, 8, 7, 4, 3, 2, 1, 0] (by kernel_rfl) (List.forall_mem_cons.2 ⟨fun _ => fact2 rfl rfl ?_, List.forall_mem_cons.2 ⟨fun _ => fact2 rfl rfl ?_, List.forall_mem_cons.2 ⟨fun _ => fact2 rfl rfl ?_, List.forall_mem_cons.2 ⟨fun _ => fact2 rfl rfl ?_, List.forall_mem_cons.2 ⟨fun _ => fact2 rfl rfl ?_, List.forall_mem_cons.2 ⟨fun _ => fact2 rfl rfl ?_, List.forall_mem_cons.2 ⟨fun _ => fact2 rfl rfl ?_, List.forall_mem_cons.2 ⟨fun _ => fact2 rfl rfl ?_, List.forall_mem_cons.2 ⟨fun _ => fact2 rfl rfl ?_, fun _ h => absurd h List.not_mem_nil⟩⟩⟩⟩⟩⟩⟩⟩⟩) <;> constructor <;> first | rfl | (simp [F]; done)), ?_⟩
                 repeat (first | simp [F] | simp (disch := omega) only [wC, if_pos, if_neg])
                 refine dc 13 rfl (c := (hmd ▸ muldiv_ok x.n.h (by omega) (by omega))) (k := ?_)
                 rintro _ _ ⟨rfl, rfl⟩
                 refine ⟨by first | exact fun _ _ h => h | (refine later_list [10, 9, 8, 7, 4, 3, 2, 0] (by kernel_rfl) (List.forall_mem_cons.2 ⟨fun _ => fact2 rfl rfl ?_, List.forall_mem_cons.2 ⟨fun _ => fact2 rfl rfl ?_, List.forall_mem_cons.2 ⟨fun _ => fact2 rfl rfl ?_, List.forall_mem_cons.2 ⟨fun _ => fact2 rfl rfl ?_, List.forall_mem_cons.2 ⟨fun _ => fact2 rfl rfl ?_, List.forall_mem_cons.2 ⟨fun _ => fact2 rfl rfl ?_, List.forall_mem_cons.2 ⟨fun _ => fact2 rfl rfl ?_, List.forall_mem_cons.2 ⟨fun _ => fact2 rfl rfl ?_, fun _ h => absurd h List.not_mem_nil⟩⟩⟩⟩⟩⟩⟩⟩) <;> constructor <;> first | rfl | (simp [F]; done)), ?_⟩
                 repeat (first | simp [F] | simp (disch := omega) only [wC, if_pos, if_neg])
                 refine rp2 14 (k := ?_)
                 refine rp2 15 (k := ?_)
                 refine rp2 16 (k := ?_)
                 refine dop 18 rfl ?_
                 repeat (first | simp [F] | simp (disch := omega) only [wC, if_pos, if_neg])
                 refine ⟨later_tmp (by kernel_rfl), ?_⟩
                 refine rp2 19 (k := ?_)
                 refine dd ?_
                 refine hJ67 _ _ ?_
                 refine hK66 _ _ ?_
                 refine rg' (h := fun J74 hJ74 => ?_)
                 refine ca (c := (hM ▸ one_ok (d := x.d) (n := n))) (k := ?_)
                 rintro _ _ ⟨rfl, rfl⟩
                 repeat (first | simp [F] | simp (disch := omega) only [wC, if_pos, if_neg])
                 refine hJ74 _ _ ?_
                 refine hK63 _ _ ?_
                 refine rg' (h := fun J75 hJ75 => ?_)
                 refine hJ75 _ _ ?_
                 refine ⟨gk, (i + 1), ⟨kpG, lpG, ?_, lpG, ?_⟩, lpG⟩
                 · rw [hnx, ← coinsC_append]
                   simp [F, AV.gcO, noObjL_append]
                 · rw [hnx]
                   simp [F, St.trimO]
            try exact nope c59
            all_goals have c59p := c59
            all_goals try simp [F] at c59p
            all_goals
             replace F := And.intro c59 F
             try replace F := And.intro c59p F
             have hii : i = pt.length := by have h := c59; simp at h; omega
             have hv : vestL ⟨pk, ps, pe, pt, pp⟩ t = partL ps pe t (pt.take i) := by rw [hii, List.take_length, vestL]; simp [hkn, F]
             replace F := And.intro hv F
             refine run_exit ?_
             refine hK57 _ _ ?_
             refine sq fun K76 hK76 => ?_
             refine rg' (h := fun J77 hJ77 => ?_)
             refine hJ77 _ _ ?_
             refine hK76 _ _ ?_
             refine run_ret ?_
             try simp only [Then, InBlock, NoGoto]
             refine answer_tmp rfl (.inr rfl) ?_
             rw [hv]
             exact gcr (hA := by simp only [putA_get]; simp [F]; exact wk_grA (fun h => by have h0 := posB_no h; subst h0; simp [partL]))
    try exact nope g3_3
    all_goals have g3_3p := g3_3
    all_goals try simp [F] at g3_3p
    all_goals
     replace F := And.intro g3_3 F
     try replace F := And.intro g3_3p F
     refine no2 (k := ?_)
     refine no2 (k := ?_)
     refine no2 (k := ?_)
     refine go2 (k := ?_)
     refine go2 (k := ?_)
     refine go2 (k := ?_)
     refine go2 (k := ?_)
     refine gs 36 (fun g3_12 => ?_) (fun g3_12 => ?_)
     · try exact nope g3_12
       all_goals have g3_12p := g3_12
       all_goals try simp [F] at g3_12p
       all_goals
        replace F := And.intro g3_12 F
        try replace F := And.intro g3_12p F
        refine go2 (k := ?_)
        refine go2 (k := ?_)
        refine go2 (k := ?_)
        refine go2 (k := ?_)
        refine go2 (k := ?_)
        refine hJ11 _ _ ?_
        refine hK10 _ _ ?_
        refine cs (fun c23 => ?_) (fun c23 => ?_)
        · try exact nope c23
          all_goals have c23p := c23
          all_goals try simp [F] at c23p
          all_goals
           replace F := And.intro c23 F
           try replace F := And.intro c23p F
           have n1 : t ≤ ps := by have h := c23; simp at h; omega
           replace F := And.intro n1 F
           refine sq fun K78 hK78 => ?_
           refine rg' (h := fun J79 hJ79 => ?_)
           refine hJ79 _ _ ?_
           refine hK78 _ _ ?_
           refine run_ret ?_
           try simp only [Then, InBlock, NoGoto]
           refine answer_tmp rfl (.inr rfl) ?_
           exact gcr (hA := by simp only [putA_get]; simp [vestL, hkn, F]; first | exact Wk.refl _ | exact Wk.nil _ _ _)
        try exact nope c23
        all_goals have c23p := c23
        all_goals try simp [F] at c23p
        all_goals
         replace F := And.intro c23 F
         try replace F := And.intro c23p F
         have n1 : ¬ t ≤ ps := by have h := c23; simp at h; omega
         replace F := And.intro n1 F
         refine sq fun K80 hK80 => ?_
         refine rg' (h := fun J81 hJ81 => ?_)
         refine hJ81 _ _ ?_
         refine hK80 _ _ ?_
         refine cs (fun c43 => ?_) (fun c43 => ?_)
         · try exact nope c43
           all_goals have c43p := c43
           all_goals try simp [F] at c43p
           all_goals
            replace F := And.intro c43 F
            try replace F := And.intro c43p F
            have n2 : pe ≤ t := by have h := c43; simp at h; omega
            replace F := And.intro n2 F
            refine sq fun K82 hK82 => ?_
            refine rg' (h := fun J83 hJ83 => ?_)
            refine ca (c := cclone_ok hc) (k := ?_)
            rintro _ _ ⟨rfl, rfl⟩
            repeat (first | simp [F] | simp (disch := omega) only [wC, if_pos, if_neg])
            refine hJ83 _ _ ?_
            refine hK82 _ _ ?_
            refine run_ret ?_
            try simp only [Then, InBlock, NoGoto]
            refine answer_tmp rfl (.inr rfl) ?_
            exact gcr (hA := by simp only [putA_get]; simp [vestL, hkn, F]; first | exact Wk.refl _ | exact Wk.nil _ _ _)
         try exact nope c43
         all_goals have c43p := c43
         all_goals try simp [F] at c43p
         all_goals
          replace F := And.intro c43 F
          try replace F := And.intro c43p F
          have n2 : ¬ pe ≤ t := by have h := c43; simp at h; omega
          replace F := And.intro n2 F
          refine sq fun K84 hK84 => ?_
          refine rg' (h := fun J85 hJ85 => ?_)
          refine hJ85 _ _ ?_
          refine hK84 _ _ ?_
          refine cs (fun c51 => ?_) (fun c51 => ?_)
          · try exact nope c51
            all_goals have c51p := c51
            all_goals try simp [F] at c51p
            all_goals
             replace F := And.intro c51 F
             try replace F := And.intro c51p F
             refine sq fun K86 hK86 => ?_
             refine rg' (h := fun J87 hJ87 => ?_)
             refine hJ87 _ _ ?_
             refine hK86 _ _ ?_
             refine run_ret ?_
             try simp only [Then, InBlock, NoGoto]
             refine answer_tmp rfl (.inr rfl) ?_
             exact gcr (hA := by simp only [putA_get]; simp [vestL, hkn, F]; first | exact Wk.refl _ | exact Wk.nil _ _ _)
          try exact nope c51
          all_goals have c51p := c51
          all_goals try simp [F] at c51p
          all_goals
           replace F := And.intro c51 F
           try replace F := And.intro c51p F
           refine run_skip ?_
           refine hK3 _ _ ?_
           refine sq fun K88 hK88 => ?_
           refine rg' (h := fun J89 hJ89 => ?_)
           refine hJ89 _ _ ?_
           refine hK88 _ _ ?_
           refine sq fun K90 hK90 => ?_
           refine sq fun K91 hK91 => ?_
           refine rg' (h := fun J92 hJ92 => ?_)
           refine hJ92 _ _ ?_
           refine hK91 _ _ ?_
           refine run_block_k ?_
           refine run_loopG (X := Nat) [1, 2, 4, 56, 57] (fun i ρ σ1 => (i ≤ pt.length) ∧ (ρ 5 = grA σ.toks.length 5 (posB i) (coinsC (partL ps pe t (pt.take i))) (partL ps pe t (pt.take i)).length) ∧ (ρ 58 = .v (.int .i64 i)) ∧ (σ1 = { σ with objs := σ.objs ++ [[.v (.int .u8 pk.toNat), .v (.int .u64 ps), .v (.int .u64 pe), .sl 5 (coinsC pt) pt.length .shut, .sl 2 (persC pp) pp.length .shut]], toks := σ.toks ++ grT (posB i) (partL ps pe t (pt.take i)).length })) (fun i => pt.length - i) (0) ?st1 ?rd1
           case st1 =>
            refine ⟨lp, lp, lp, ?_⟩
            · simp [F]
           case rd1 =>
            rintro i ρ1 σ1 hF1 ⟨hi, h8, h12, hσ⟩
            obtain rfl := hσ.symm
            have f1 := keepL hF1
            try simp [KeepL, F] at f1
            replace F := And.intro h8 F
            replace F := And.intro h12 F
            try replace F := And.intro f1 F
            refine sq fun K93 hK93 => ?_
            refine rg' (h := fun J94 hJ94 => ?_)
            refine hJ94 _ _ ?_
            refine hK93 _ _ ?_
            refine sq fun K95 hK95 => ?_
            refine cs (fun c59 => ?_) (fun c59 => ?_)
            · try exact nope c59
              all_goals have c59p := c59
              all_goals try simp [F] at c59p
              all_goals
               replace F := And.intro c59 F
               try replace F := And.intro c59p F
               refine run_skip ?_
               refine hK95 _ _ ?_
               refine sq fun K96 hK96 => ?_
               refine run_block_k ?_
               refine sq fun K97 hK97 => ?_
               have hlt : i < pt.length := by simp at c59; omega
               have hat := coinsC_at hlt
               have hb1 : i * 5 + 5 ≤ pt.length * 5 := by omega
               obtain ⟨x, hx⟩ : ∃ x, x = pt[i] := ⟨_, rfl⟩
               rw [← hx] at hat
               simp only [coinC] at hat
               have hse : ps < t := by have h := c23; simp at h; omega
               have hte : t < pe := by have h := c43; simp at h; omega
               have hw1 : IntKind.u64.wrap ((t : Int) - ps) = ((t - ps : Nat) : Int) := by rw [wrap_u64c (by omega)]; omega
               have hw2 : IntKind.u64.wrap ((pe : Int) - ps) = ((pe - ps : Nat) : Int) := by rw [wrap_u64c (by omega)]; omega
               have hpn : partN x ps pe t < 2 ^ 256 := partN_lt (by omega)
               have hmd : mdN x.n.v (t - ps) (pe - ps) false = (Num.of (partN x ps pe t)).v := by rw [Num.of_v hpn, mdN, if_neg (by omega), show mdQ x.n.v (t - ps) (pe - ps) false = partN x ps pe t by simp [mdQ, partN], if_pos hpn]
               obtain ⟨n, hn⟩ : ∃ n, n = Num.of (partN x ps pe t) := ⟨_, rfl⟩
               rw [← hn] at hmd
               obtain ⟨L, hL⟩ : ∃ L, L = partL ps pe t (pt.take i) := ⟨_, rfl⟩
               obtain ⟨M, hM⟩ : ∃ M, M = oneL x.d n := ⟨_, rfl⟩
               have hnx : partL ps pe t (pt.take (i + 1)) = L ++ M := by rw [hL, hM, hn, ← partL_snoc, hx, List.take_append_getElem hlt]
               have hLl : L.length ≤ i := by rw [hL]; exact Nat.le_trans (partL_len _ _ _ _) (by simp; omega)
               have hMl : M.length ≤ 1 := by rw [hM]; unfold oneL; split <;> simp
               rw [← hL] at h8 F
               rw [← hL]
               have hb0 : posB i = false → coinsC L = [] ∧ L.length = 0 := fun h => by have h0 := posB_no h; subst h0; rw [hL]; simp [partL]
               have happ : ∀ objs, appendA Try.prog 23 (grA σ.toks.length 5 (posB i) (coinsC L) L.length) (.sl 5 (coinsC M) M.length .shut) ⟨objs, σ.toks ++ grT (posB i) L.length, σ.gl, σ.rows⟩ = some (grA σ.toks.length 5 true (coinsC L ++ coinsC M) (L.length + M.length), ⟨objs, σ.toks ++ grT true (L.length + M.length), σ.gl, σ.rows⟩) := fun objs => append_gr elemT_23 ti_86 (by decide) rfl hb0 (.inl rfl) (by simp [roomA]; omega) (by simp [maxLen]; omega)
               replace F := And.intro hlt F
               replace F := And.intro hat F
               replace F := And.intro hb1 F
               replace F := And.intro hw1 F
               replace F := And.intro hw2 F
               replace F := And.intro happ F
               refine rg' (h := fun J98 hJ98 => ?_)
               refine hJ98 _ _ ?_
               refine hK97 _ _ ?_
               refine sq fun K99 hK99 => ?_
               refine run_draw (by kernel_rfl) fun J100 hJ100 => ?_
               refine rp2 0 (k := ?_)
               refine rp2 1 (k := ?_)
               refine rp2 2 (k := ?_)
               refine rp2 3 (k := ?_)
               refine rp2 4 (k := ?_)
               refine rp2 5 (k := ?_)
               refine rp2 7 (k := ?_)
               refine rp2 8 (k := ?_)
               refine rp2 9 (k := ?_)
               refine rp2 10 (k := ?_)
               refine rp2 11 (k := ?_)
               refine d2 6 17 ?_ ?_
               · refine ac 6 rfl (c := nOf_ok (n := t - ps) (by omega)) (k := ?_)
                 rintro _ _ ⟨rfl, rfl⟩
                 refine ⟨by first | exact fun _ _ h => h | (refine later_list [11, 10, 9, 8, 7, 4, 3, 2, 1, 0] (by kernel_rfl) (List.forall_mem_cons.2 ⟨fun _ => fact2 rfl rfl ?_, List.forall_mem_cons.2 ⟨fun _ => fact2 rfl rfl ?_, List.forall_mem_cons.2 ⟨fun _ => fact2 rfl rfl ?_, List.forall_mem_cons.2 ⟨fun _ => fact2 rfl rfl ?_, List.forall_mem_cons.2 ⟨fun _ => fact2 rfl rfl ?_, List.forall_mem_cons.2 ⟨fun _ => fact2 rfl rfl ?_, List.forall_mem_cons.2 ⟨fun _ => fact2 rfl rfl ?_, List.forall_mem_cons.2 ⟨fun _ => fact2 rfl rfl ?_, List.forall_mem_cons.2 ⟨fun _ => fact2 rfl rfl ?_, List.forall_mem_cons.2 ⟨fun _ => fact2 rfl rfl ?_, fun _ h => absurd h List.not_mem_nil⟩⟩⟩⟩⟩⟩⟩⟩⟩⟩) <;> constructor <;> first | rfl | (simp [F]; done)), ?_⟩
                 repeat (first | simp [F] | simp (disch := omega) only [wC, if_pos, if_neg])
                 refine d2 12 17 ?_ ?_
                 · refine ac 12 rfl (c := nOf_ok (n := pe - ps) (by omega)) (k := ?_)
                   rintro _ _ ⟨rfl, rfl⟩
                   refine ⟨by first | exact fun _ _ h => h | (refine later_list [10, 9, 8, 7, 4, 3, 2, 1, 0] (by kernel_rfl) (List.forall_mem_cons.2 ⟨fun _ => fact2 rfl rfl ?_, List.forall_mem_cons.2 ⟨fun _ => fact2 rfl rfl ?_, List.forall_mem_cons.2 ⟨fun _ => fact2 rfl rfl ?_, List.forall_mem_cons.2 ⟨fun _ => fact2 rfl rfl ?_, List.forall_mem_cons.2 ⟨fun _ => fact2 rfl rfl ?_, List.forall_mem_cons.2 ⟨fun _ => fact2 rfl rfl ?_, List.forall_mem_cons.2 ⟨fun _ => fact2 rfl rfl ?_, List.forall_mem_cons.2 ⟨fun _ => fact2 rfl rfl ?_, List.forall_mem_cons.2 ⟨fun _ => fact2 rfl rfl ?_, fun _ h => absurd h List.not_mem_nil⟩⟩⟩⟩⟩⟩⟩⟩⟩) <;> constructor <;> first | rfl | (simp [F]; done)), ?_⟩
                   repeat (first | simp [F] | simp (disch := omega) only [wC, if_pos, if_neg])
                   refine d2 13 17 ?_ ?_
                   · refine ac 13 rfl (c := (hmd ▸ muldiv_ok x.n.h (by omega) (by omega))) (k := ?_)
                     rintro _ _ ⟨rfl, rfl⟩
                     refine ⟨by first | exact fun _ _ h => h | (refine later_list [10, 9, 8, 7, 4, 3, 2, 0] (by kernel_rfl) (List.forall_mem_cons.2 ⟨fun _ => fact2 rfl rfl ?_, List.forall_mem_cons.2 ⟨fun _ => fact2 rfl rfl ?_, List.forall_mem_cons.2 ⟨fun _ => fact2 rfl rfl ?_, List.forall_mem_cons.2 ⟨fun _ => fact2 rfl rfl ?_, List.forall_mem_cons.2 ⟨fun _ => fact2 rfl rfl ?_, List.forall_mem_cons.2 ⟨fun _ => fact2 rfl rfl ?_, List.forall_mem_cons.2 ⟨fun _ => fact2 rfl rfl ?_, List.forall_mem_cons.2 ⟨fun _ => fact2 rfl rfl ?_, fun _ h => absurd h List.not_mem_nil⟩⟩⟩⟩⟩⟩⟩⟩) <;> constructor <;> first | rfl | (simp [F]; done)), ?_⟩
                     repeat (first | simp [F] | simp (disch := omega) only [wC, if_pos, if_neg])
                     refine rp2 14 (k := ?_)
                     refine rp2 15 (k := ?_)
                     refine rp2 16 (k := ?_)
                     refine dop 17 rfl ?_
                     repeat (first | simp [F] | simp (disch := omega) only [wC, if_pos, if_neg])
                     refine ⟨by first | exact later_more _ (by kernel_rfl) | exact later_more2 (by kernel_rfl) rfl, ?_⟩
                     refine dop 18 rfl ?_
                     repeat (first | simp [F] | simp (disch := omega) only [wC, if_pos, if_neg])
                     refine ⟨later_tmp (by kernel_rfl), ?_⟩
                     refine rp2 19 (k := ?_)
                     refine dd ?_
                     refine hJ100 _ _ ?_
                     refine hK99 _ _ ?_
                     refine rg' (h := fun J101 hJ101 => ?_)
                     refine ca (c := (hM ▸ one_ok (d := x.d) (n := n))) (k := ?_)
                     rintro _ _ ⟨rfl, rfl⟩
                     repeat (first | simp [F] | simp (disch := omega) only [wC, if_pos, if_neg])
                     refine hJ101 _ _ ?_
                     refine hK96 _ _ ?_
                     refine rg' (h := fun J102 hJ102 => ?_)
                     refine hJ102 _ _ ?_
                     refine ⟨gk, (i + 1), ⟨kpG, lpG, ?_, lpG, ?_⟩, lpG⟩
                     · rw [hnx, ← coinsC_append]
                       simp [F, AV.gcO, noObjL_append]
                     · rw [hnx]
                       simp [F, St.trimO]
                   · refine ao 17 rfl ?_
                     repeat (first | simp [F] | simp (disch := omega) only [wC, if_pos, if_neg])
                     refine ⟨by first | exact later_more _ (by kernel_rfl) | exact later_more2 (by kernel_rfl) rfl, ?_⟩
                     refine dc 13 rfl (c := (hmd ▸ muldiv_ok x.n.h (by omega) (by omega))) (k := ?_)
                     rintro _ _ ⟨rfl, rfl⟩
                     refine ⟨by first | exact fun _ _ h => h | (refine later_list [10, 9, 8, 7, 4, 3, 2, 0] (by kernel_rfl) (List.forall_mem_cons.2 ⟨fun _ => fact2 rfl rfl ?_, List.forall_mem_cons.2 ⟨fun _ => fact2 rfl rfl ?_, List.forall_mem_cons.2 ⟨fun _ => fact2 rfl rfl ?_, List.forall_mem_cons.2 ⟨fun _ => fact2 rfl rfl ?_, List.forall_mem_cons.2 ⟨fun _ => fact2 rfl rfl ?_, List.forall_mem_cons.2 ⟨fun _ => fact2 rfl rfl ?_, List.forall_mem_cons.2 ⟨fun _ => fact2 rfl rfl ?_, List.forall_mem_cons.2 ⟨fun _ => fact2 rfl rfl ?_, fun _ h => absurd h List.not_mem_nil⟩⟩⟩⟩⟩⟩⟩⟩) <;> constructor <;> first | rfl | (simp [F]; done)), ?_⟩
                     repeat (first | simp [F] | simp (disch := omega) only [wC, if_pos, if_neg])
                     refine rp2 14 (k := ?_)
                     refine rp2 15 (k := ?_)
                     refine rp2 16 (k := ?_)
                     refine dop 18 rfl ?_
                     repeat (first | simp [F] | simp (disch := omega) only [wC, if_pos, if_neg])
                     refine ⟨later_tmp (by kernel_rfl), ?_⟩
                     refine rp2 19 (k := ?_)
                     refine dd ?_
                     refine hJ100 _ _ ?_
                     refine hK99 _ _ ?_
                     refine rg' (h := fun J103 hJ103 => ?_)
                     refine ca (c := (hM ▸ one_ok (d := x.d) (n := n))) (k := ?_)
                     rintro _ _ ⟨rfl, rfl⟩
                     repeat (first | simp [F] | simp (disch := omega) only [wC, if_pos, if_neg])
                     refine hJ103 _ _ ?_
                     refine hK96 _ _ ?_
                     refine rg' (h := fun J104 hJ104 => ?_)
                     refine hJ104 _ _ ?_
                     refine ⟨gk, (i + 1), ⟨kpG, lpG, ?_, lpG, ?_⟩, lpG⟩
                     · rw [hnx, ← coinsC_append]
                       simp [F, AV.gcO, noObjL_append]
                     · rw [hnx]
                       simp [F, St.trimO]
                 · refine ao 17 rfl ?_
                   repeat (first | simp [F] | simp (disch := omega) only [wC, if_pos, if_neg])
                   refine ⟨by first | exact later_more _ (by kernel_rfl) | exact later_more2 (by kernel_rfl) rfl, ?_⟩
                   refine dc 12 rfl (c := nOf_ok (n := pe - ps) (by omega)) (k := ?_)
                   rintro _ _ ⟨rfl, rfl⟩
                   refine ⟨by first | exact fun _ _ h => h | (refine later_list [10, 9, 8, 7, 4, 3, 2, 1, 0] (by kernel_rfl) (List.forall_mem_cons.2 ⟨fun _ => fact2 rfl rfl ?_, List.forall_mem_cons.2 ⟨fun _ => fact2 rfl rfl ?_, List.forall_mem_cons.2 ⟨fun _ => fact2 rfl rfl ?_, List.forall_mem_cons.2 ⟨fun _ => fact2 rfl rfl ?_, List.forall_mem_cons.2 ⟨fun _ => fact2 rfl rfl ?_, List.forall_mem_cons.2 ⟨fun _ => fact2 rfl rfl ?_, List.forall_mem_cons.2 ⟨fun _ => fact2 rfl rfl ?_, List.forall_mem_cons.2 ⟨fun _ => fact2 rfl rfl ?_, List.forall_mem_cons.2 ⟨fun _ => fact2 rfl rfl ?_, fun _ h => absurd h List.not_mem_nil⟩⟩⟩⟩⟩⟩⟩⟩⟩) <;> constructor <;> first | rfl | (simp [F]; done)), ?_⟩
                   repeat (first | simp [F] | simp (disch := omega) only [wC, if_pos, if_neg])
                   refine dc 13 rfl (c := (hmd ▸ muldiv_ok x.n.h (by omega) (by omega))) (k := ?_)
                   rintro _ _ ⟨rfl, rfl⟩
                   refine ⟨by first | exact fun _ _ h => h | (refine later_list [10, 9, 8, 7, 4, 3, 2, 0] (by kernel_rfl) (List.forall_mem_cons.2 ⟨fun _ => fact2 rfl rfl ?_, List.forall_mem_cons.2 ⟨fun _ => fact2 rfl rfl ?_, List.forall_mem_cons.2 ⟨fun _ => fact2 rfl rfl ?_, List.forall_mem_cons.2 ⟨fun _ => fact2 rfl rfl ?_, List.forall_mem_cons.2 ⟨fun _ => fact2 rfl rfl ?_, List.forall_mem_cons.2 ⟨fun _ => fact2 rfl rfl ?_, List.forall_mem_cons.2 ⟨fun _ => fact2 rfl rfl ?_, List.forall_mem_cons.2 ⟨fun _ => fact2 rfl rfl ?_, fun _ h => absurd h List.not_mem_nil⟩⟩⟩⟩⟩⟩⟩⟩) <;> constructor <;> first | rfl | (simp [F]; done)), ?_⟩
                   repeat (first | simp [F] | simp (disch := omega) only [wC, if_pos, if_neg])
                   refine rp2 14 (k := ?_)
                   refine rp2 15 (k := ?_)
                   refine rp2 16 (k := ?_)
                   refine dop 18 rfl ?_
                   repeat (first | simp [F] | simp (disch := omega) only [wC, if_pos, if_neg])
                   refine ⟨later_tmp (by kernel_rfl), ?_⟩
                   refine rp2 19 (k := ?_)
                   refine dd ?_
                   refine hJ100 _ _ ?_
                   refine hK99 _ _ ?_
                   refine rg' (h := fun J105 hJ105 => ?_)
                   refine ca (c := (hM ▸ one_ok (d := x.d) (n := n))) (k := ?_)
                   rintro _ _ ⟨rfl, rfl⟩
                   repeat (first | simp [F] | simp (disch := omega) only [wC, if_pos, if_neg])
                   refine hJ105 _ _ ?_
                   refine hK96 _ _ ?_
                   refine rg' (h := fun J106 hJ106 => ?_)
                   refine hJ106 _ _ ?_
                   refine ⟨gk, (i + 1), ⟨kpG, lpG, ?_, lpG, ?_⟩, lpG⟩
                   · rw [hnx, ← coinsC_append]
                     simp [F, AV.gcO, noObjL_append]
                   · rw [hnx]
                     simp [F, St.trimO]
               · refine ao 17 rfl ?_
                 repeat (first | simp [F] | simp (disch := omega) only [wC, if_pos, if_neg])
                 refine ⟨by first | exact later_more _ (by kernel_rfl) | exact later_more2 (by kernel_rfl) rfl, ?_⟩
                 refine dc 6 rfl (c := nOf_ok (n := t - ps) (by omega)) (k := ?_)
                 rintro _ _ ⟨rfl, rfl⟩
                 refine ⟨by first | exact fun _ _ h => h | (refine later_list [11, 10, 9, 8, 7, 4, 3, 2, 1, 0] (by kernel_rfl) (List.forall_mem_cons.2 ⟨fun _ => fact2 rfl rfl ?_, List.forall_mem_cons.2 ⟨fun _ => fact2 rfl rfl ?_, List.forall_mem_cons.2 ⟨fun _ => fact2 rfl rfl ?_, List.forall_mem_cons.2 ⟨fun _ => fact2 rfl rfl ?_, List.forall_mem_cons.2 ⟨fun _ => fact2 rfl rfl ?_, List.forall_mem_cons.2 ⟨fun _ => fact2 rfl rfl ?_, List.forall_mem_cons.2 ⟨fun _ => fact2 rfl rfl ?_, List.forall_mem_cons.2 ⟨fun _ => fact2 rfl rfl ?_, List.forall_mem_cons.2 ⟨fun _ => fact2 rfl rfl ?_, List.forall_mem_cons.2 ⟨fun _ => fact2 rfl rfl ?_, fun _ h => absurd h List.not_mem_nil⟩⟩⟩⟩⟩⟩⟩⟩⟩⟩) <;> constructor <;> first | rfl | (simp [F]; done)), ?_⟩
                 repeat (first | simp [F] | simp (disch := omega) only [wC, if_pos, if_neg])
                 refine dc 12 rfl (c := nOf_ok (n := pe - ps) (by omega)) (k := ?_)
                 rintro _ _ ⟨rfl, rfl⟩
                 refine ⟨by first | exact fun _ _ h => h | (refine later_list [10, 9, 8, 7, 4, 3, 2, 1, 0] (by kernel_rfl) (List.forall_mem_cons.2 ⟨fun _ => fact2 rfl rfl ?_, List.forall_mem_cons.2 ⟨fun _ => fact2 rfl rfl ?_, List.forall_mem_cons.2 ⟨fun _ => fact2 rfl rfl ?_, List.forall_mem_cons.2 ⟨fun _ => fact2 rfl rfl ?_, List.forall_mem_cons.2 ⟨fun _ => fact2 rfl rfl ?_, List.forall_mem_cons.2 ⟨fun _ => fact2 rfl rfl ?_, List.forall_mem_cons.2 ⟨fun _ => fact2 rfl rfl ?_, List.forall_mem_cons.2 ⟨fun _ => fact2 rfl rfl ?_, List.forall_mem_cons.2 ⟨fun _ => fact2 rfl rfl ?_, fun _ h => absurd h List.not_mem_nil⟩⟩⟩⟩⟩⟩⟩⟩⟩) <;> constructor <;> first | rfl | (simp [F]; done)), ?_⟩
                 repeat (first | simp [F] | simp (disch := omega) only [wC, if_pos, if_neg])
                 refine dc 13 rfl (c := (hmd ▸ muldiv_ok x.n.h (by omega) (by omega))) (k := ?_)
                 rintro _ _ ⟨rfl, rfl⟩
                 refine ⟨by first | exact fun _ _ h => h | (refine later_list [10, 9, 8, 7, 4, 3, 2, 0] (by kernel_rfl) (List.forall_mem_cons.2 ⟨fun _ => fact2 rfl rfl ?_, List.forall_mem_cons.2 ⟨fun _ => fact2 rfl rfl ?_, List.forall_mem_cons.2 ⟨fun _ => fact2 rfl rfl ?_, List.forall_mem_cons.2 ⟨fun _ => fact2 rfl rfl ?_, List.forall_mem_cons.2 ⟨fun _ => fact2 rfl rfl ?_, List.forall_mem_cons.2 ⟨fun _ => fact2 rfl rfl ?_, List.forall_mem_cons.2 ⟨fun _ => fact2 rfl rfl ?_, List.forall_mem_cons.2 ⟨fun _ => fact2 rfl rfl ?_, fun _ h => absurd h List.not_mem_nil⟩⟩⟩⟩⟩⟩⟩⟩) <;> constructor <;> first | rfl | (simp [F]; done)), ?_⟩
                 repeat (first | simp [F] | simp (disch := omega) only [wC, if_pos, if_neg])
                 refine rp2 14 (k := ?_)
                 refine rp2 15 (k := ?_)
                 refine rp2 16 (k := ?_)
                 refine dop 18 rfl ?_
                 repeat (first | simp [F] | simp (disch := omega) only [wC, if_pos, if_neg])
                 refine ⟨later_tmp (by kernel_rfl), ?_⟩
                 refine rp2 19 (k := ?_)
                 refine dd ?_
                 refine hJ100 _ _ ?_
                 refine hK99 _ _ ?_
                 refine rg' (h := fun J107 hJ107 => ?_)
                 refine ca (c := (hM ▸ one_ok (d := x.d) (n := n))) (k := ?_)
                 rintro _ _ ⟨rfl, rfl⟩
                 repeat (first | simp [F] | simp (disch := omega) only [wC, if_pos, if_neg])
                 refine hJ107 _ _ ?_
                 refine hK96 _ _ ?_
                 refine rg' (h := fun J108 hJ108 => ?_)
                 refine hJ108 _ _ ?_
                 refine ⟨gk, (i + 1), ⟨kpG, lpG, ?_, lpG, ?_⟩, lpG⟩
                 · rw [hnx, ← coinsC_append]
                   simp [F, AV.gcO, noObjL_append]
                 · rw [hnx]
                   simp [F, St.trimO]
            try exact nope c59
            all_goals have c59p := c59
            all_goals try simp [F] at c59p
            all_goals
             replace F := And.intro c59 F
             try replace F := And.intro c59p F
             have hii : i = pt.length := by have h := c59; simp at h; omega
             have hv : vestL ⟨pk, ps, pe, pt, pp⟩ t = partL ps pe t (pt.take i) := by rw [hii, List.take_length, vestL]; simp [hkn, F]
             replace F := And.intro hv F
             refine run_exit ?_
             refine hK90 _ _ ?_
             refine sq fun K109 hK109 => ?_
             refine rg' (h := fun J110 hJ110 => ?_)
             refine hJ110 _ _ ?_
             refine hK109 _ _ ?_
             refine run_ret ?_
             try simp only [Then, InBlock, NoGoto]
             refine answer_tmp rfl (.inr rfl) ?_
             rw [hv]
             exact gcr (hA := by simp only [putA_get]; simp [F]; exact wk_grA (fun h => by have h0 := posB_no h; subst h0; simp [partL]))
     try exact nope g3_12
     all_goals have g3_12p := g3_12
     all_goals try simp [F] at g3_12p
     all_goals
      replace F := And.intro g3_12 F
      try replace F := And.intro g3_12p F
      refine no2 (k := ?_)
      refine no2 (k := ?_)
      refine no2 (k := ?_)
      refine no2 (k := ?_)
      refine go2 (k := ?_)
      refine hJ11 _ _ ?_
      refine hK10 _ _ ?_
      refine cf ?_
      refine sq fun K111 hK111 => ?_
      refine rg' (h := fun J112 hJ112 => ?_)
      refine hJ112 _ _ ?_
      refine hK111 _ _ ?_
      refine cs (fun c43 => ?_) (fun c43 => ?_)
      · try exact nope c43
        all_goals have c43p := c43
        all_goals try simp [F] at c43p
        all_goals
         replace F := And.intro c43 F
         try replace F := And.intro c43p F
         have n2 : pe ≤ t := by have h := c43; simp at h; omega
         replace F := And.intro n2 F
         refine sq fun K113 hK113 => ?_
         refine rg' (h := fun J114 hJ114 => ?_)
         refine ca (c := cclone_ok hc) (k := ?_)
         rintro _ _ ⟨rfl, rfl⟩
         repeat (first | simp [F] | simp (disch := omega) only [wC, if_pos, if_neg])
         refine hJ114 _ _ ?_
         refine hK113 _ _ ?_
         refine run_ret ?_
         try simp only [Then, InBlock, NoGoto]
         refine answer_tmp rfl (.inr rfl) ?_
         exact gcr (hA := by simp only [putA_get]; simp [vestL, hkn, F]; first | exact Wk.refl _ | exact Wk.nil _ _ _)
      try exact nope c43
      all_goals have c43p := c43
      all_goals try simp [F] at c43p
      all_goals
       replace F := And.intro c43 F
       try replace F := And.intro c43p F
       have n2 : ¬ pe ≤ t := by have h := c43; simp at h; omega
       replace F := And.intro n2 F
       refine sq fun K115 hK115 => ?_
       refine rg' (h := fun J116 hJ116 => ?_)
       refine hJ116 _ _ ?_
       refine hK115 _ _ ?_
       refine cs (fun c51 => ?_) (fun c51 => ?_)
       · try exact nope c51
         all_goals have c51p := c51
         all_goals try simp [F] at c51p
         all_goals
          replace F := And.intro c51 F
          try replace F := And.intro c51p F
          refine sq fun K117 hK117 => ?_
          refine rg' (h := fun J118 hJ118 => ?_)
          refine hJ118 _ _ ?_
          refine hK117 _ _ ?_
          refine run_ret ?_
          try simp only [Then, InBlock, NoGoto]
          refine answer_tmp rfl (.inr rfl) ?_
          exact gcr (hA := by simp only [putA_get]; simp [vestL, hkn, F]; first | exact Wk.refl _ | exact Wk.nil _ _ _)
       try exact nope c51
       all_goals have c51p := c51
       all_goals try simp [F] at c51p
       all_goals
        replace F := And.intro c51 F
        try replace F := And.intro c51p F
        refine run_skip ?_
        refine hK3 _ _ ?_
        refine sq fun K119 hK119 => ?_
        refine rg' (h := fun J120 hJ120 => ?_)
        refine hJ120 _ _ ?_
        refine hK119 _ _ ?_
        refine sq fun K121 hK121 => ?_
        refine sq fun K122 hK122 => ?_
        refine rg' (h := fun J123 hJ123 => ?_)
        refine hJ123 _ _ ?_
        refine hK122 _ _ ?_
        refine run_block_k ?_
        refine run_loopG (X := Nat) [1, 2, 4, 56, 57] (fun i ρ σ1 => (i ≤ pt.length) ∧ (ρ 5 = grA σ.toks.length 5 (posB i) (coinsC (partL ps pe t (pt.take i))) (partL ps pe t (pt.take i)).length) ∧ (ρ 58 = .v (.int .i64 i)) ∧ (σ1 = { σ with objs := σ.objs ++ [[.v (.int .u8 pk.toNat), .v (.int .u64 ps), .v (.int .u64 pe), .sl 5 (coinsC pt) pt.length .shut, .sl 2 (persC pp) pp.length .shut]], toks := σ.toks ++ grT (posB i) (partL ps pe t (pt.take i)).length })) (fun i => pt.length - i) (0) ?st1 ?rd1
        case st1 =>
         refine ⟨lp, lp, lp, ?_⟩
         · simp [F]
        case rd1 =>
         rintro i ρ1 σ1 hF1 ⟨hi, h8, h12, hσ⟩
         obtain rfl := hσ.symm
         have f1 := keepL hF1
         try simp [KeepL, F] at f1
         replace F := And.intro h8 F
         replace F := And.intro h12 F
         try replace F := And.intro f1 F
         refine sq fun K124 hK124 => ?_
         refine rg' (h := fun J125 hJ125 => ?_)
         refine hJ125 _ _ ?_
         refine hK124 _ _ ?_
         refine sq fun K126 hK126 => ?_
         refine cs (fun c59 => ?_) (fun c59 => ?_)
         · try exact nope c59
           all_goals have c59p := c59
           all_goals try simp [F] at c59p
           all_goals
            replace F := And.intro c59 F
            try replace F := And.intro c59p F
            refine run_skip ?_
            refine hK126 _ _ ?_
            refine sq fun K127 hK127 => ?_
            refine run_block_k ?_
            refine sq fun K128 hK128 => ?_
            have hlt : i < pt.length := by simp at c59; omega
            have hat := coinsC_at hlt
            have hb1 : i * 5 + 5 ≤ pt.length * 5 := by omega
            obtain ⟨x, hx⟩ : ∃ x, x = pt[i] := ⟨_, rfl⟩
            rw [← hx] at hat
            simp only [coinC] at hat
            have hse : ps < t := by have h := c23; simp at h; omega
            have hte : t < pe := by have h := c43; simp at h; omega
            have hw1 : IntKind.u64.wrap ((t : Int) - ps) = ((t - ps : Nat) : Int) := by rw [wrap_u64c (by omega)]; omega
            have hw2 : IntKind.u64.wrap ((pe : Int) - ps) = ((pe - ps : Nat) : Int) := by rw [wrap_u64c (by omega)]; omega
            have hpn : partN x ps pe t < 2 ^ 256 := partN_lt (by omega)
            have hmd : mdN x.n.v (t - ps) (pe - ps) false = (Num.of (partN x ps pe t)).v := by rw [Num.of_v hpn, mdN, if_neg (by omega), show mdQ x.n.v (t - ps) (pe - ps) false = partN x ps pe t by simp [mdQ, partN], if_pos hpn]
            obtain ⟨n, hn⟩ : ∃ n, n = Num.of (partN x ps pe t) := ⟨_, rfl⟩
            rw [← hn] at hmd
            obtain ⟨L, hL⟩ : ∃ L, L = partL ps pe t (pt.take i) := ⟨_, rfl⟩
            obtain ⟨M, hM⟩ : ∃ M, M = oneL x.d n := ⟨_, rfl⟩
            have hnx : partL ps pe t (pt.take (i + 1)) = L ++ M := by rw [hL, hM, hn, ← partL_snoc, hx, List.take_append_getElem hlt]
            have hLl : L.length ≤ i := by rw [hL]; exact Nat.le_trans (partL_len _ _ _ _) (by simp; omega)
            have hMl : M.length ≤ 1 := by rw [hM]; unfold oneL; split <;> simp
            rw [← hL] at h8 F
            rw [← hL]
            have hb0 : posB i = false → coinsC L = [] ∧ L.length = 0 := fun h => by have h0 := posB_no h; subst h0; rw [hL]; simp [partL]
            have happ : ∀ objs, appendA Try.prog 23 (grA σ.toks.length 5 (posB i) (coinsC L) L.length) (.sl 5 (coinsC M) M.length .shut) ⟨objs, σ.toks ++ grT (posB i) L.length, σ.gl, σ.rows⟩ = some (grA σ.toks.length 5 true (coinsC L ++ coinsC M) (L.length + M.length), ⟨objs, σ.toks ++ grT true (L.length + M.length), σ.gl, σ.rows⟩) := fun objs => append_gr elemT_23 ti_86 (by decide) rfl hb0 (.inl rfl) (by simp [roomA]; omega) (by simp [maxLen]; omega)
            replace F := And.intro hlt F
            replace F := And.intro hat F
            replace F := And.intro hb1 F
            replace F := And.intro hw1 F
            replace F := And.intro hw2 F
            replace F := And.intro happ F
            refine rg' (h := fun J129 hJ129 => ?_)
            refine hJ129 _ _ ?_
            refine hK128 _ _ ?_
            refine sq fun K130 hK130 => ?_
            refine run_draw (by kernel_rfl) fun J131 hJ131 => ?_
            refine rp2 0 (k := ?_)
            refine rp2 1 (k := ?_)
            refine rp2 2 (k := ?_)
            refine rp2 3 (k := ?_)
            refine rp2 4 (k := ?_)
            refine rp2 5 (k := ?_)
            refine rp2 7 (k := ?_)
            refine rp2 8 (k := ?_)
            refine rp2 9 (k := ?_)
            refine rp2 10 (k := ?_)
            refine rp2 11 (k := ?_)
            refine d2 6 17 ?_ ?_
            · refine ac 6 rfl (c := nOf_ok (n := t - ps) (by omega)) (k := ?_)
              rintro _ _ ⟨rfl, rfl⟩
              refine ⟨by first | exact fun _ _ h => h | (refine later_list [11, 10, 9, 8, 7, 4, 3, 2, 1, 0] (by kernel_rfl) (List.forall_mem_cons.2 ⟨fun _ => fact2 rfl rfl ?_, List.forall_mem_cons.2 ⟨fun _ => fact2 rfl rfl ?_, List.forall_mem_cons.2 ⟨fun _ => fact2 rfl rfl ?_, List.forall_mem_cons.2 ⟨fun _ => fact2 rfl rfl ?_, List.forall_mem_cons.2 ⟨fun _ => fact2 rfl rfl ?_, List.forall_mem_cons.2 ⟨fun _ => fact2 rfl rfl ?_, List.forall_mem_cons.2 ⟨fun _ => fact2 rfl rfl ?_, List.forall_mem_cons.2 ⟨fun _ => fact2 rfl rfl ?_, List.forall_mem_cons.2 ⟨fun _ => fact2 rfl rfl ?_, List.forall_mem_cons.2 ⟨fun _ => fact2 rfl rfl ?_, fun _ h => absurd h List.not_mem_nil⟩⟩⟩⟩⟩⟩⟩⟩⟩⟩) <;> constructor <;> first | rfl | (simp [F]; done)), ?_⟩
              repeat (first | simp [F] | simp (disch := omega) only [wC, if_pos, if_neg])
              refine d2 12 17 ?_ ?_
              · refine ac 12 rfl (c := nOf_ok (n := pe - ps) (by omega)) (k := ?_)
                rintro _ _ ⟨rfl, rfl⟩
                refine ⟨by first | exact fun _ _ h => h | (refine later_list [10, 9, 8, 7, 4, 3, 2, 1, 0] (by kernel_rfl) (List.forall_mem_cons.2 ⟨fun _ => fact2 rfl rfl ?_, List.forall_mem_cons.2 ⟨fun _ => fact2 rfl rfl ?_, List.forall_mem_cons.2 ⟨fun _ => fact2 rfl rfl ?_, List.forall_mem_cons.2 ⟨fun _ => fact2 rfl rfl ?_, List.forall_mem_cons.2 ⟨fun _ => fact2 rfl rfl ?_, List.forall_mem_cons.2 ⟨fun _ => fact2 rfl rfl ?_, List.forall_mem_cons.2 ⟨fun _ => fact2 rfl rfl ?_, List.forall_mem_cons.2 ⟨fun _ => fact2 rfl rfl ?_, List.forall_mem_cons.2 ⟨fun _ => fact2 rfl rfl ?_, fun _ h => absurd h List.not_mem_nil⟩⟩⟩⟩⟩⟩⟩⟩⟩) <;> constructor <;> first | rfl | (simp [F]; done)), ?_⟩
                repeat (first | simp [F] | simp (disch := omega) only [wC, if_pos, if_neg])
                refine d2 13 17 ?_ ?_
                · refine ac 13 rfl (c := (hmd ▸ muldiv_ok x.n.h (by omega) (by omega))) (k := ?_)
                  rintro _ _ ⟨rfl, rfl⟩
                  refine ⟨by first | exact fun _ _ h => h | (refine later_list [10, 9, 8, 7, 4, 3, 2, 0] (by kernel_rfl) (List.forall_mem_cons.2 ⟨fun _ => fact2 rfl rfl ?_, List.forall_mem_cons.2 ⟨fun _ => fact2 rfl rfl ?_, List.forall_mem_cons.2 ⟨fun _ => fact2 rfl rfl ?_, List.forall_mem_cons.2 ⟨fun _ => fact2 rfl rfl ?_, List.forall_mem_cons.2 ⟨fun _ => fact2 rfl rfl ?_, List.forall_mem_cons.2 ⟨fun _ => fact2 rfl rfl ?_, List.forall_mem_cons.2 ⟨fun _ => fact2 rfl rfl ?_, List.forall_mem_cons.2 ⟨fun _ => fact2 rfl rfl ?_, fun _ h => absurd h List.not_mem_nil⟩⟩⟩⟩⟩⟩⟩⟩) <;> constructor <;> first | rfl | (simp [F]; done)), ?_⟩
                  repeat (first | simp [F] | simp (disch := omega) only [wC, if_pos, if_neg])
                  refine rp2 14 (k := ?_)
                  refine rp2 15 (k := ?_)
                  refine rp2 16 (k := ?_)
                  refine dop 17 rfl ?_
                  repeat (first | simp [F] | simp (disch := omega) only [wC, if_pos, if_neg])
                  refine ⟨by first | exact later_more _ (by kernel_rfl) | exact later_more2 (by kernel_rfl) rfl, ?_⟩
                  refine dop 18 rfl ?_
                  repeat (first | simp [F] | simp (disch := omega) only [wC, if_pos, if_neg])
                  refine ⟨later_tmp (by kernel_rfl), ?_⟩
                  refine rp2 19 (k := ?_)
                  refine dd ?_
                  refine hJ131 _ _ ?_
                  refine hK130 _ _ ?_
                  refine rg' (h := fun J132 hJ132 => ?_)
                  refine ca (c := (hM ▸ one_ok (d := x.d) (n := n))) (k := ?_)
                  rintro _ _ ⟨rfl, rfl⟩
                  repeat (first | simp [F] | simp (disch := omega) only [wC, if_pos, if_neg])
                  refine hJ132 _ _ ?_
                  refine hK127 _ _ ?_
                  refine rg' (h := fun J133 hJ133 => ?_)
                  refine hJ133 _ _ ?_
                  refine ⟨gk, (i + 1), ⟨kpG, lpG, ?_, lpG, ?_⟩, lpG⟩
                  · rw [hnx, ← coinsC_append]
                    simp [F, AV.gcO, noObjL_append]
                  · rw [hnx]
                    simp [F, St.trimO]
                · refine ao 17 rfl ?_
                  repeat (first | simp [F] | simp (disch := omega) only [wC, if_pos, if_neg])
                  refine ⟨by first | exact later_more _ (by kernel_rfl) | exact later_more2 (by kernel_rfl) rfl, ?_⟩
                  refine dc 13 rfl (c := (hmd ▸ muldiv_ok x.n.h (by omega) (by omega))) (k := ?_)
                  rintro _ _ ⟨rfl, rfl⟩
                  refine ⟨by first | exact fun _ _ h => h | (refine later_list [10, 9, 8, 7, 4, 3, 2, 0] (by kernel_rfl) (List.forall_mem_cons.2 ⟨fun _ => fact2 rfl rfl ?_, List.forall_mem_cons.2 ⟨fun _ => fact2 rfl rfl ?_, List.forall_mem_cons.2 ⟨fun _ => fact2 rfl rfl ?_, List.forall_mem_cons.2 ⟨fun _ => fact2 rfl rfl ?_, List.forall_mem_cons.2 ⟨fun _ => fact2 rfl rfl ?_, List.forall_mem_cons.2 ⟨fun _ => fact2 rfl rfl ?_, List.forall_mem_cons.2 ⟨fun _ => fact2 rfl rfl ?_, List.forall_mem_cons.2 ⟨fun _ => fact2 rfl rfl ?_, fun _ h => absurd h List.not_mem_nil⟩⟩⟩⟩⟩⟩⟩⟩) <;> constructor <;> first | rfl | (simp [F]; done)), ?_⟩
                  repeat (first | simp [F] | simp (disch := omega) only [wC, if_pos, if_neg])
                  refine rp2 14 (k := ?_)
                  refine rp2 15 (k := ?_)
                  refine rp2 16 (k := ?_)
                  refine dop 18 rfl ?_
                  repeat (first | simp [F] | simp (disch := omega) only [wC, if_pos, if_neg])
                  refine ⟨later_tmp (by kernel_rfl), ?_⟩
                  refine rp2 19 (k := ?_)
                  refine dd ?_
                  refine hJ131 _ _ ?_
                  refine hK130 _ _ ?_
                  refine rg' (h := fun J134 hJ134 => ?_)
                  refine ca (c := (hM ▸ one_ok (d := x.d) (n := n))) (k := ?_)
                  rintro _ _ ⟨rfl, rfl⟩
                  repeat (first | simp [F] | simp (disch := omega) only [wC, if_pos, if_neg])
                  refine hJ134 _ _ ?_
                  refine hK127 _ _ ?_
                  refine rg' (h := fun J135 hJ135 => ?_)
                  refine hJ135 _ _ ?_
                  refine ⟨gk, (i + 1), ⟨kpG, lpG, ?_, lpG, ?_⟩, lpG⟩
                  · rw [hnx, ← coinsC_append]
                    simp [F, AV.gcO, noObjL_append]
                  · rw [hnx]
                    simp [F, St.trimO]
              · refine ao 17 rfl ?_
                repeat (first | simp [F] | simp (disch := omega) only [wC, if_pos, if_neg])
                refine ⟨by first | exact later_more _ (by kernel_rfl) | exact later_more2 (by kernel_rfl) rfl, ?_⟩
                refine dc 12 rfl (c := nOf_ok (n := pe - ps) (by omega)) (k := ?_)
                rintro _ _ ⟨rfl, rfl⟩
                refine ⟨by first | exact fun _ _ h => h | (refine later_list [10, 9, 8, 7, 4, 3, 2, 1, 0] (by kernel_rfl) (List.forall_mem_cons.2 ⟨fun _ => fact2 rfl rfl ?_, List.forall_mem_cons.2 ⟨fun _ => fact2 rfl rfl ?_, List.forall_mem_cons.2 ⟨fun _ => fact2 rfl rfl ?_, List.forall_mem_cons.2 ⟨fun _ => fact2 rfl rfl ?_, List.forall_mem_cons.2 ⟨fun _ => fact2 rfl rfl ?_, List.forall_mem_cons.2 ⟨fun _ => fact2 rfl rfl ?_, List.forall_mem_cons.2 ⟨fun _ => fact2 rfl rfl ?_, List.forall_mem_cons.2 ⟨fun _ => fact2 rfl rfl ?_, List.forall_mem_cons.2 ⟨fun _ => fact2 rfl rfl ?_, fun _ h => absurd h List.not_mem_nil⟩⟩⟩⟩⟩⟩⟩⟩⟩) <;> constructor <;> first | rfl | (simp [F]; done)), ?_⟩
                repeat (first | simp [F] | simp (disch := omega) only [wC, if_pos, if_neg])
                refine dc 13 rfl (c := (hmd ▸ muldiv_ok x.n.h (by omega) (by omega))) (k := ?_)
                rintro _ _ ⟨rfl, rfl⟩
                refine ⟨by first | exact fun _ _ h => h | (refine later_list [10, 9, 8, 7, 4, 3, 2, 0] (by kernel_rfl) (List.forall_mem_cons.2 ⟨fun _ => fact2 rfl rfl ?_, List.forall_mem_cons.2 ⟨fun _ => fact2 rfl rfl ?_, List.forall_mem_cons.2 ⟨fun _ => fact2 rfl rfl ?_, List.forall_mem_cons.2 ⟨fun _ => fact2 rfl rfl ?_, List.forall_mem_cons.2 ⟨fun _ => fact2 rfl rfl ?_, List.forall_mem_cons.2 ⟨fun _ => fact2 rfl rfl ?_, List.forall_mem_cons.2 ⟨fun _ => fact2 rfl rfl ?_, List.forall_mem_cons.2 ⟨fun _ => fact2 rfl rfl ?_, fun _ h => absurd h List.not_mem_nil⟩⟩⟩⟩⟩⟩⟩⟩) <;> constructor <;> first | rfl | (simp [F]; done)), ?_⟩
                repeat (first | simp [F] | simp (disch := omega) only [wC, if_pos, if_neg])
                refine rp2 14 (k := ?_)
                refine rp2 15 (k := ?_)
                refine rp2 16 (k := ?_)
                refine dop 18 rfl ?_
                repeat (first | simp [F] | simp (disch := omega) only [wC, if_pos, if_neg])
                refine ⟨later_tmp (by kernel_rfl), ?_⟩
                refine rp2 19 (k := ?_)
                refine dd ?_
                refine hJ131 _ _ ?_
                refine hK130 _ _ ?_
                refine rg' (h := fun J136 hJ136 => ?_)
                refine ca (c := (hM ▸ one_ok (d := x.d) (n := n))) (k := ?_)
                rintro _ _ ⟨rfl, rfl⟩
                repeat (first | simp [F] | simp (disch := omega) only [wC, if_pos, if_neg])
                refine hJ136 _ _ ?_
                refine hK127 _ _ ?_
                refine rg' (h := fun J137 hJ137 => ?_)
                refine hJ137 _ _ ?_
                refine ⟨gk, (i + 1), ⟨kpG, lpG, ?_, lpG, ?_⟩, lpG⟩
                · rw [hnx, ← coinsC_append]
                  simp [F, AV.gcO, noObjL_append]
                · rw [hnx]
                  simp [F, St.trimO]
            · refine ao 17 rfl ?_
              repeat (first | simp [F] | simp (disch := omega) only [wC, if_pos, if_neg])
              refine ⟨by first | exact later_more _ (by kernel_rfl) | exact later_more2 (by kernel_rfl) rfl, ?_⟩
              refine dc 6 rfl (c := nOf_ok (n := t - ps) (by omega)) (k := ?_)
              rintro _ _ ⟨rfl, rfl⟩
              refine ⟨by first | exact fun _ _ h => h | (refine later_list [11, 10, 9, 8, 7, 4, 3, 2, 1, 0] (by kernel_rfl) (List.forall_mem_cons.2 ⟨fun _ => fact2 rfl rfl ?_, List.forall_mem_cons.2 ⟨fun _ => fact2 rfl rfl ?_, List.forall_mem_cons.2 ⟨fun _ => fact2 rfl rfl ?_, List.forall_mem_cons.2 ⟨fun _ => fact2 rfl rfl ?_, List.forall_mem_cons.2 ⟨fun _ => fact2 rfl rfl ?_, List.forall_mem_cons.2 ⟨fun _ => fact2 rfl rfl ?_, List.forall_mem_cons.2 ⟨fun _ => fact2 rfl rfl ?_, List.forall_mem_cons.2 ⟨fun _ => fact2 rfl rfl ?_, List.forall_mem_cons.2 ⟨fun _ => fact2 rfl rfl ?_, List.forall_mem_cons.2 ⟨fun _ => fact2 rfl rfl ?_, fun _ h => absurd h List.not_mem_nil⟩⟩⟩⟩⟩⟩⟩⟩⟩⟩) <;> constructor <;> first | rfl | (simp [F]; done)), ?_⟩
              repeat (first | simp [F] | simp (disch := omega) only [wC, if_pos, if_neg])
              refine dc 12 rfl (c := nOf_ok (n := pe - ps) (by omega)) (k := ?_)
              rintro _ _ ⟨rfl, rfl⟩
              refine ⟨by first | exact fun _ _ h => h | (refine later_list [10, 9, 8, 7, 4, 3, 2, 1, 0] (by kernel_rfl) (List.forall_mem_cons.2 ⟨fun _ => fact2 rfl rfl ?_, List.forall_mem_cons.2 ⟨fun _ => fact2 rfl rfl ?_, List.forall_mem_cons.2 ⟨fun _ => fact2 rfl rfl ?_, List.forall_mem_cons.2 ⟨fun _ => fact2 rfl rfl ?_, List.forall_mem_cons.2 ⟨fun _ => fact2 rfl rfl ?_, List.forall_mem_cons.2 ⟨fun _ => fact2 rfl rfl ?_, List.forall_mem_cons.2 ⟨fun _ => fact2 rfl rfl ?_, List.forall_mem_cons.2 ⟨fun _ => fact2 rfl rfl ?_, List.forall_mem_cons.2 ⟨fun _ => fact2 rfl rfl ?_, fun _ h => absurd h List.not_mem_nil⟩⟩⟩⟩⟩⟩⟩⟩⟩) <;> constructor <;> first | rfl | (simp [F]; done)), ?_⟩
              repeat (first | simp [F] | simp (disch := omega) only [wC, if_pos, if_neg])
              refine dc 13 rfl (c := (hmd ▸ muldiv_ok x.n.h (by omega) (by omega))) (k := ?_)
              rintro _ _ ⟨rfl, rfl⟩
              refine ⟨by first | exact fun _ _ h => h | (refine later_list [10, 9, 8, 7, 4, 3, 2, 0] (by kernel_rfl) (List.forall_mem_cons.2 ⟨fun _ => fact2 rfl rfl ?_, List.forall_mem_cons.2 ⟨fun _ => fact2 rfl rfl ?_, List.forall_mem_cons.2 ⟨fun _ => fact2 rfl rfl ?_, List.forall_mem_cons.2 ⟨fun _ => fact2 rfl rfl ?_, List.forall_mem_cons.2 ⟨fun _ => fact2 rfl rfl ?_, List.forall_mem_cons.2 ⟨fun _ => fact2 rfl rfl ?_, List.forall_mem_cons.2 ⟨fun _ => fact2 rfl rfl ?_, List.forall_mem_cons.2 ⟨fun _ => fact2 rfl rfl ?_, fun _ h => absurd h List.not_mem_nil⟩⟩⟩⟩⟩⟩⟩⟩) <;> constructor <;> first | rfl | (simp [F]; done)), ?_⟩
              repeat (first | simp [F] | simp (disch := omega) only [wC, if_pos, if_neg])
              refine rp2 14 (k := ?_)
              refine rp2 15 (k := ?_)
              refine rp2 16 (k := ?_)
              refine dop 18 rfl ?_
              repeat (first | simp [F] | simp (disch := omega) only [wC, if_pos, if_neg])
              refine ⟨later_tmp (by kernel_rfl), ?_⟩
              refine rp2 19 (k := ?_)
              refine dd ?_
              refine hJ131 _ _ ?_
              refine hK130 _ _ ?_
              refine rg' (h := fun J138 hJ138 => ?_)
              refine ca (c := (hM ▸ one_ok (d := x.d) (n := n))) (k := ?_)
              rintro _ _ ⟨rfl, rfl⟩
              repeat (first | simp [F] | simp (disch := omega) only [wC, if_pos, if_neg])
              refine hJ138 _ _ ?_
              refine hK127 _ _ ?_
              refine rg' (h := fun J139 hJ139 => ?_)
              refine hJ139 _ _ ?_
              refine ⟨gk, (i + 1), ⟨kpG, lpG, ?_, lpG, ?_⟩, lpG⟩
              · rw [hnx, ← coinsC_append]
                simp [F, AV.gcO, noObjL_append]
              · rw [hnx]
                simp [F, St.trimO]
         try exact nope c59
         all_goals have c59p := c59
         all_goals try simp [F] at c59p
         all_goals
          replace F := And.intro c59 F
          try replace F := And.intro c59p F
          have hii : i = pt.length := by have h := c59; simp at h; omega
          have hv : vestL ⟨pk, ps, pe, pt, pp⟩ t = partL ps pe t (pt.take i) := by rw [hii, List.take_length, vestL]; simp [hkn, F]
          replace F := And.intro hv F
          refine run_exit ?_
          refine hK121 _ _ ?_
          refine sq fun K140 hK140 => ?_
          refine rg' (h := fun J141 hJ141 => ?_)
          refine hJ141 _ _ ?_
          refine hK140 _ _ ?_
          refine run_ret ?_
          try simp only [Then, InBlock, NoGoto]
          refine answer_tmp rfl (.inr rfl) ?_
          rw [hv]
          exact gcr (hA := by simp only [putA_get]; simp [F]; exact wk_grA (fun h => by have h0 := posB_no h; subst h0; simp [partL]))

end Go.Proofs.Ytdbaddholggkbaa
