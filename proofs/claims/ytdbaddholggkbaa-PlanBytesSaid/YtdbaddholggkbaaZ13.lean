import Derived.Test.YtdbaddholggkbaaZ7
import Derived.Test.YtdbaddholggkbaaZ12
import Derived.Test.YtdbaddholggkbaaZ10
/-
  Right plans..
-/
namespace Go.Proofs.Ytdbaddholggkbaa
set_option linter.unnecessarySimpa false
set_option maxRecDepth 100000
open Go Go.Vm
set_option linter.unusedSimpArgs false
set_option linter.unusedVariables false

attribute [local simp] evalL wantedA isCall opA evalA evalAll evalsA evalOpt ofValue ofCell plain binA_eql_pn binA_neq_pn binA_gtr binA_lss binA_geq binA_leq binA_add binA_sub binA_eql binA_neq binA_orI binA_andI binA_shl binA_shr binA_mul binA_quo binA_rem binA_agg_eql binA_agg_neq convA_int unA_not fieldAddrA loadA partA pickA_true pickA_false pickA_bb lenA builtinA storeA splice AV.cells AV.isCell sliceA boundA intA callOf indexAddrA newObjA buildA fillA zeroA ofCells buildSliceA indexA fieldA numA_len4 numA_take4 numA_drop4 set_appN get_appN take_appN List.getElem?_cons_zero List.getElem?_cons_succ makeA zeros64

set_option maxHeartbeats 1600000 in
attribute [local simp] undefA List.getElem?_cons_zero List.getElem?_cons_succ perC persC_noObj in
theorem periods_ok {σ : St} {p : Pln} (hp : p.Ok) (he : p.e ≤ 2 ^ 40) :
    CallsA Try.prog 61 [.agg (plnC p)] σ (fun av σ' => av = .v (.bool (perB p)) ∧ σ = σ') := by
  refine callsA_gcS ?_ rfl
  obtain ⟨pk, ps, pe, pt, pp⟩ := p
  obtain ⟨k1, k2, k3, k4, h5⟩ := hp
  simp only [plnC, perB] at *
  have F := True.intro
  refine callsA_body Try.func61 rfl rfl rfl ?_
  refine sq fun K1 hK1 => ?_
  refine rg' (h := fun J2 hJ2 => ?_)
  refine hJ2 _ _ ?_
  refine hK1 _ _ ?_
  refine sq fun K3 hK3 => ?_
  refine sq fun K4 hK4 => ?_
  refine rg' (h := fun J5 hJ5 => ?_)
  refine hJ5 _ _ ?_
  refine hK4 _ _ ?_
  refine cs (fun c11 => ?_) (fun c11 => ?_)
  · try exact nope c11
    all_goals have c11p := c11
    all_goals try simp [F] at c11p
    all_goals
     replace F := And.intro c11 F
     try replace F := And.intro c11p F
     have hbig : ¬ pp.length ≤ 16 := by have h := c11; simp at h; omega
     replace F := And.intro hbig F
     refine sq fun K6 hK6 => ?_
     refine rg' (h := fun J7 hJ7 => ?_)
     refine hJ7 _ _ ?_
     refine hK6 _ _ ?_
     refine run_ret ?_
     try simp only [Then, InBlock, NoGoto]
     refine answer_tmp rfl (.inr rfl) ?_
     exact gcr
  try exact nope c11
  all_goals have c11p := c11
  all_goals try simp [F] at c11p
  all_goals
   replace F := And.intro c11 F
   try replace F := And.intro c11p F
   have hbig : pp.length ≤ 16 := by have h := c11; simp at h; omega
   replace F := And.intro hbig F
   refine run_skip ?_
   refine hK3 _ _ ?_
   refine sq fun K8 hK8 => ?_
   refine rg' (h := fun J9 hJ9 => ?_)
   refine hJ9 _ _ ?_
   refine hK8 _ _ ?_
   refine sq fun K10 hK10 => ?_
   refine rg' (h := fun J11 hJ11 => ?_)
   refine hJ11 _ _ ?_
   refine hK10 _ _ ?_
   refine sq fun K12 hK12 => ?_
   refine sq fun K13 hK13 => ?_
   refine run_nilsh 4 5 (k := ?_)
   refine rg' (h := fun J14 hJ14 => ?_)
   refine hJ14 _ _ ?_
   refine hK13 _ _ ?_
   refine run_block_k ?_
   refine run_loopG (X := PerQ) [1, 15, 16] (fun q ρ σ1 => (q.i ≤ pp.length) ∧ (perOk pp ps [] = perOk (pp.drop q.i) q.e q.a) ∧ (q.e < 2 ^ 64) ∧ (q.a.length ≤ 8) ∧ (ρ 3 = .v (.int .u64 q.e)) ∧ (ρ 4 = .sl 5 (coinsC q.a) q.a.length .shut) ∧ (ρ 17 = .v (.int .i64 q.i)) ∧ (σ1 = { σ with objs := σ.objs ++ [[.v (.int .u8 pk.toNat), .v (.int .u64 ps), .v (.int .u64 pe), .sl 5 (coinsC pt) pt.length .shut, .sl 2 (persC pp) pp.length .shut]] })) (fun q => pp.length - q.i) (⟨0, ps, []⟩) ?st1 ?rd1
   case st1 =>
    refine ⟨lp, ?_, lp, lp, lp, lp, lp, ?_⟩
    · rfl
    · rfl
   case rd1 =>
    rintro q ρ1 σ1 hF1 ⟨hi, hE, hqe, hqa, h3, h4, h17, hσ⟩
    obtain rfl := hσ.symm
    have f1 := keepL hF1
    try simp [KeepL, F] at f1
    replace F := And.intro h3 F
    replace F := And.intro h4 F
    replace F := And.intro h17 F
    try replace F := And.intro f1 F
    refine sq fun K15 hK15 => ?_
    refine rg' (h := fun J16 hJ16 => ?_)
    refine hJ16 _ _ ?_
    refine hK15 _ _ ?_
    refine sq fun K17 hK17 => ?_
    refine cs (fun c18 => ?_) (fun c18 => ?_)
    · try exact nope c18
      all_goals have c18p := c18
      all_goals try simp [F] at c18p
      all_goals
       replace F := And.intro c18 F
       try replace F := And.intro c18p F
       refine run_skip ?_
       refine hK17 _ _ ?_
       refine sq fun K18 hK18 => ?_
       refine run_block_k ?_
       refine sq fun K19 hK19 => ?_
       obtain ⟨i, E, S⟩ := q
       simp only at hi hE hqe hqa h3 h4 h17
       have hlt : i < pp.length := by simp at c18; omega
       have hat := persC_at hlt
       have hb1 : i * 2 + 2 ≤ pp.length * 2 := by omega
       have hx5 := h5 _ (List.getElem_mem hlt)
       have hcons : pp.drop i = pp[i] :: pp.drop (i + 1) := List.drop_eq_getElem_cons hlt
       obtain ⟨x, hx⟩ : ∃ x, x = pp[i] := ⟨_, rfl⟩
       rw [← hx] at hat hx5 hcons
       rw [hcons] at hE
       obtain ⟨xl, xc⟩ := x
       obtain ⟨hxl, hxc⟩ := hx5
       simp only at hxl hxc
       simp only [perOk] at hE
       replace F := And.intro hlt F
       replace F := And.intro hat F
       replace F := And.intro hb1 F
       refine rg' (h := fun J20 hJ20 => ?_)
       refine hJ20 _ _ ?_
       refine hK19 _ _ ?_
       refine sq fun K21 hK21 => ?_
       refine sq fun K22 hK22 => ?_
       refine rg' (h := fun J23 hJ23 => ?_)
       refine gs 24 (fun g8_3 => ?_) (fun g8_3 => ?_)
       · try exact nope g8_3
         all_goals have g8_3p := g8_3
         all_goals try simp [F] at g8_3p
         all_goals
          replace F := And.intro g8_3 F
          try replace F := And.intro g8_3p F
          have hbad : perOk pp ps [] = none := by rw [hE]; exact if_pos (.inl (by have h := g8_3; simp at h; omega))
          replace F := And.intro hbad F
          refine no2 (k := ?_)
          refine no2 (k := ?_)
          refine no2 (k := ?_)
          refine no2 (k := ?_)
          refine no2 (k := ?_)
          refine no2 (k := ?_)
          refine no2 (k := ?_)
          refine no2 (k := ?_)
          refine no2 (k := ?_)
          refine hJ23 _ _ ?_
          refine hK22 _ _ ?_
          refine ct ?_
          refine sq fun K24 hK24 => ?_
          refine rg' (h := fun J25 hJ25 => ?_)
          refine hJ25 _ _ ?_
          refine hK24 _ _ ?_
          refine run_ret ?_
          try simp only [Then, InBlock, NoGoto]
          refine answer_tmp rfl (.inr rfl) ?_
          exact gcr
       try exact nope g8_3
       all_goals have g8_3p := g8_3
       all_goals try simp [F] at g8_3p
       all_goals
        replace F := And.intro g8_3 F
        try replace F := And.intro g8_3p F
        refine go2 (k := ?_)
        refine go2 (k := ?_)
        refine go2 (k := ?_)
        refine gs 29 (fun g8_8 => ?_) (fun g8_8 => ?_)
        · try exact nope g8_8
          all_goals have g8_8p := g8_8
          all_goals try simp [F] at g8_8p
          all_goals
           replace F := And.intro g8_8 F
           try replace F := And.intro g8_8p F
           have hbad : perOk pp ps [] = none := by rw [hE]; exact if_pos (.inr (.inl (by have h := g8_8; simp at h; omega)))
           replace F := And.intro hbad F
           refine no2 (k := ?_)
           refine no2 (k := ?_)
           refine no2 (k := ?_)
           refine no2 (k := ?_)
           refine no2 (k := ?_)
           refine no2 (k := ?_)
           refine hJ23 _ _ ?_
           refine hK22 _ _ ?_
           refine ct ?_
           refine sq fun K26 hK26 => ?_
           refine rg' (h := fun J27 hJ27 => ?_)
           refine hJ27 _ _ ?_
           refine hK26 _ _ ?_
           refine run_ret ?_
           try simp only [Then, InBlock, NoGoto]
           refine answer_tmp rfl (.inr rfl) ?_
           exact gcr
        try exact nope g8_8
        all_goals have g8_8p := g8_8
        all_goals try simp [F] at g8_8p
        all_goals
         replace F := And.intro g8_8 F
         try replace F := And.intro g8_8p F
         refine go2 (k := ?_)
         refine go2 (k := ?_)
         refine gs 33 (fun g8_12 => ?_) (fun g8_12 => ?_)
         · try exact nope g8_12
           all_goals have g8_12p := g8_12
           all_goals try simp [F] at g8_12p
           all_goals
            replace F := And.intro g8_12 F
            try replace F := And.intro g8_12p F
            have hbad : perOk pp ps [] = none := by rw [hE]; exact if_pos (.inr (.inr (.inl (by have h := g8_12; simp at h; omega))))
            replace F := And.intro hbad F
            refine no2 (k := ?_)
            refine no2 (k := ?_)
            refine no2 (k := ?_)
            refine no2 (k := ?_)
            refine hJ23 _ _ ?_
            refine hK22 _ _ ?_
            refine ct ?_
            refine sq fun K28 hK28 => ?_
            refine rg' (h := fun J29 hJ29 => ?_)
            refine hJ29 _ _ ?_
            refine hK28 _ _ ?_
            refine run_ret ?_
            try simp only [Then, InBlock, NoGoto]
            refine answer_tmp rfl (.inr rfl) ?_
            exact gcr
         try exact nope g8_12
         all_goals have g8_12p := g8_12
         all_goals try simp [F] at g8_12p
         all_goals
          replace F := And.intro g8_12 F
          try replace F := And.intro g8_12p F
          refine go2 (k := ?_)
          refine go2 (k := ?_)
          refine ca (c := psome_ok hxc) (k := ?_)
          rintro _ _ ⟨rfl, rfl⟩
          repeat (first | simp [F] | simp (disch := omega) only [wC, if_pos, if_neg])
          refine go2 (k := ?_)
          refine hJ23 _ _ ?_
          refine hK22 _ _ ?_
          refine cs (fun c38 => ?_) (fun c38 => ?_)
          · try exact nope c38
            all_goals have c38p := c38
            all_goals try simp [F] at c38p
            all_goals
             replace F := And.intro c38 F
             try replace F := And.intro c38p F
             have hbad : perOk pp ps [] = none := by rw [hE]; exact if_pos (.inr (.inr (.inr (by have h := c38; simp at h; intro hh; rcases h with h | h; exact hh.1 h; exact h hh.2))))
             replace F := And.intro hbad F
             refine sq fun K30 hK30 => ?_
             refine rg' (h := fun J31 hJ31 => ?_)
             refine hJ31 _ _ ?_
             refine hK30 _ _ ?_
             refine run_ret ?_
             try simp only [Then, InBlock, NoGoto]
             refine answer_tmp rfl (.inr rfl) ?_
             exact gcr
          try exact nope c38
          all_goals have c38p := c38
          all_goals try simp [F] at c38p
          all_goals
           replace F := And.intro c38 F
           try replace F := And.intro c38p F
           have n1 : ¬ xl = 0 := by have h := g8_3; simp at h; omega
           have n2 : ¬ 2 ^ 40 < xl := by have h := g8_8; simp at h; omega
           have n3 : ¬ 2 ^ 40 < E := by have h := g8_12; simp at h; omega
           have n4 : ¬ ¬ (xc ≠ [] ∧ Right xc) := by have h := c38; simp at h; exact fun hn => hn ⟨h.1, h.2⟩
           have hgood : ¬ (xl = 0 ∨ 2 ^ 40 < xl ∨ 2 ^ 40 < E ∨ ¬ (xc ≠ [] ∧ Right xc)) := fun h => h.elim n1 (fun h => h.elim n2 (fun h => h.elim n3 n4))
           have hw2 : E + xl < 2 ^ 64 := by omega
           obtain ⟨S2, hS2⟩ : ∃ S2, S2 = cAddL S xc := ⟨_, rfl⟩
           have hS2l : S2.length ≤ 8 := by rw [hS2]; exact right_len (right_cAdd _ _)
           rw [← hS2] at hE
           rw [if_neg hgood] at hE
           have hw : IntKind.u64.wrap ((E : Int) + xl) = ((E + xl : Nat) : Int) := by rw [wrap_u64c (by omega)]; rfl
           replace F := And.intro hw F
           refine run_skip ?_
           refine hK21 _ _ ?_
           refine sq fun K32 hK32 => ?_
           refine rg' (h := fun J33 hJ33 => ?_)
           refine hJ33 _ _ ?_
           refine hK32 _ _ ?_
           refine sq fun K34 hK34 => ?_
           refine rg' (h := fun J35 hJ35 => ?_)
           refine hJ35 _ _ ?_
           refine hK34 _ _ ?_
           refine sq fun K36 hK36 => ?_
           refine rg' (h := fun J37 hJ37 => ?_)
           refine ca (c := (hS2 ▸ cadd_ok (by omega) hxc)) (k := ?_)
           rintro _ _ ⟨rfl, rfl⟩
           repeat (first | simp [F] | simp (disch := omega) only [wC, if_pos, if_neg])
           refine hJ37 _ _ ?_
           refine hK36 _ _ ?_
           refine sq fun K38 hK38 => ?_
           refine rg' (h := fun J39 hJ39 => ?_)
           refine hJ39 _ _ ?_
           refine hK38 _ _ ?_
           refine cs (fun c51 => ?_) (fun c51 => ?_)
           · try exact nope c51
             all_goals have c51p := c51
             all_goals try simp [F] at c51p
             all_goals
              replace F := And.intro c51 F
              try replace F := And.intro c51p F
              have hne : ¬ cAddE S xc = 0 := by have h := c51; simp at h; omega
              rw [if_neg hne] at hE
              replace F := And.intro hE F
              refine sq fun K40 hK40 => ?_
              refine rg' (h := fun J41 hJ41 => ?_)
              refine hJ41 _ _ ?_
              refine hK40 _ _ ?_
              refine run_ret ?_
              try simp only [Then, InBlock, NoGoto]
              refine answer_tmp rfl (.inr rfl) ?_
              exact gcr
           try exact nope c51
           all_goals have c51p := c51
           all_goals try simp [F] at c51p
           all_goals
            replace F := And.intro c51 F
            try replace F := And.intro c51p F
            have hye : cAddE S xc = 0 := by have h := c51; simp at h; omega
            rw [if_pos hye] at hE
            refine run_skip ?_
            refine hK18 _ _ ?_
            refine rg' (h := fun J42 hJ42 => ?_)
            refine hJ42 _ _ ?_
            refine ⟨gk, (⟨i + 1, E + xl, S2⟩), ⟨kpG, lpG, ?_, ?_, ?_, lpG, lpG, lpG, lpG⟩, lpG⟩
            · exact hE
            · exact hw2
            · exact hS2l
    try exact nope c18
    all_goals have c18p := c18
    all_goals try simp [F] at c18p
    all_goals
     replace F := And.intro c18 F
     try replace F := And.intro c18p F
     have hend : perOk pp ps [] = some (q.e, q.a) := by rw [hE, List.drop_of_length_le (by have h := c18; simp at h; omega)]; rfl
     replace F := And.intro hend F
     refine run_exit ?_
     refine hK12 _ _ ?_
     refine sq fun K43 hK43 => ?_
     refine rg' (h := fun J44 hJ44 => ?_)
     refine gs 57 (fun g16_4 => ?_) (fun g16_4 => ?_)
     · try exact nope g16_4
       all_goals have g16_4p := g16_4
       all_goals try simp [F] at g16_4p
       all_goals
        replace F := And.intro g16_4 F
        try replace F := And.intro g16_4p F
        have hee : q.e = pe := by have h := g16_4; simp at h; omega
        replace F := And.intro hee F
        refine go2 (k := ?_)
        refine go2 (k := ?_)
        refine go2 (k := ?_)
        refine ca (c := csame_ok (by omega) k3) (k := ?_)
        rintro _ _ ⟨rfl, rfl⟩
        repeat (first | simp [F] | simp (disch := omega) only [wC, if_pos, if_neg])
        refine hJ44 _ _ ?_
        refine hK43 _ _ ?_
        refine run_ret ?_
        try simp only [Then, InBlock, NoGoto]
        refine answer_tmp rfl (.inr rfl) ?_
        exact gcr
     try exact nope g16_4
     all_goals have g16_4p := g16_4
     all_goals try simp [F] at g16_4p
     all_goals
      replace F := And.intro g16_4 F
      try replace F := And.intro g16_4p F
      have hee : ¬ q.e = pe := by have h := g16_4; simp at h; omega
      replace F := And.intro hee F
      refine no2 (k := ?_)
      refine no2 (k := ?_)
      refine no2 (k := ?_)
      refine no2 (k := ?_)
      refine hJ44 _ _ ?_
      refine hK43 _ _ ?_
      refine run_ret ?_
      try simp only [Then, InBlock, NoGoto]
      refine answer_tmp rfl (.inr rfl) ?_
      exact gcr

end Go.Proofs.Ytdbaddholggkbaa

/-
  Right plans..
-/
namespace Go.Proofs.Ytdbaddholggkbaa
set_option linter.unnecessarySimpa false
set_option maxRecDepth 100000
open Go Go.Vm
set_option linter.unusedSimpArgs false
set_option linter.unusedVariables false

attribute [local simp] evalL wantedA isCall opA evalA evalAll evalsA evalOpt ofValue ofCell plain binA_eql_pn binA_neq_pn binA_gtr binA_lss binA_geq binA_leq binA_add binA_sub binA_eql binA_neq binA_orI binA_andI binA_shl binA_shr binA_mul binA_quo binA_rem binA_agg_eql binA_agg_neq convA_int unA_not fieldAddrA loadA partA pickA_true pickA_false pickA_bb lenA builtinA storeA splice AV.cells AV.isCell sliceA boundA intA callOf indexAddrA newObjA buildA fillA zeroA ofCells buildSliceA indexA fieldA numA_len4 numA_take4 numA_drop4 set_appN get_appN take_appN List.getElem?_cons_zero List.getElem?_cons_succ makeA zeros64

theorem okZero : (⟨0, 0, 0, [], []⟩ : Pln).Ok := ⟨by decide, by decide, by decide, by decide, fun x hx => absurd hx (by simp)⟩

theorem plsame0_ok {σ : St} {a : Pln} (ha : a.Ok) :
    CallsA Try.prog 47 [.agg (plnC a), .agg [.v (.int .u8 0), .v (.int .u64 0), .v (.int .u64 0), .sl 0 [] 0 .full, .sl 0 [] 0 .full]] σ (fun av σ' => av = .v (.bool (decide (a = ⟨0, 0, 0, [], []⟩))) ∧ σ = σ') :=
  callsA_wk (.cons (Wk.refl _) (.cons (WkL.agg (.cons (Wk.refl _) (.cons (Wk.refl _) (.cons (Wk.refl _) (.cons (Wk.nil _ _ _) (.cons (Wk.nil _ _ _) .nil)))))) .nil)) (plsame_ok ha okZero)

set_option maxHeartbeats 1600000 in
attribute [local simp] undefA List.getElem?_cons_zero List.getElem?_cons_succ perC plnC persC_noObj in
theorem plright_ok {σ : St} {p : Pln} (hp : p.Ok) :
    CallsA Try.prog 18 [.agg (plnC p)] σ (fun av σ' => av = .v (.bool (rightB p)) ∧ σ = σ') := by
  refine callsA_gcS ?_ rfl
  have hsame := plsame0_ok (σ := σ) hp
  obtain ⟨pk, ps, pe, pt, pp⟩ := p
  have hp0 := hp
  obtain ⟨k1, k2, k3, k4, h5⟩ := hp
  have hnil : ((pp.length : Int) == 0) = decide (pp = []) := by cases pp <;> simp <;> omega
  have hkn : ∀ n : UInt8, pk = n ↔ (pk.toNat : Int) = (n.toNat : Int) := fun n => ⟨fun e => by rw [e], fun e => UInt8.toNat_inj.1 (Int.ofNat_inj.1 e)⟩
  simp only [plnC] at *
  have F := And.intro hnil (True.intro)
  refine callsA_body Try.func18 rfl rfl rfl ?_
  refine sq fun K1 hK1 => ?_
  refine rg' (h := fun J2 hJ2 => ?_)
  refine hJ2 _ _ ?_
  refine hK1 _ _ ?_
  refine sq fun K3 hK3 => ?_
  refine sq fun K4 hK4 => ?_
  refine rg' (h := fun J5 hJ5 => ?_)
  refine hJ5 _ _ ?_
  refine hK4 _ _ ?_
  refine cs (fun c5 => ?_) (fun c5 => ?_)
  · try exact nope c5
    all_goals have c5p := c5
    all_goals try simp [F] at c5p
    all_goals
     replace F := And.intro c5 F
     try replace F := And.intro c5p F
     have hk0 : pk = 0 := (hkn 0).2 (by have h := c5; simp at h; simpa using h)
     have hB : rightB ⟨pk, ps, pe, pt, pp⟩ = decide ((⟨pk, ps, pe, pt, pp⟩ : Pln) = ⟨0, 0, 0, [], []⟩) := by rw [rightB, if_pos hk0]
     replace F := And.intro hB F
     refine sq fun K6 hK6 => ?_
     refine rg' (h := fun J7 hJ7 => ?_)
     refine ca (c := plsame0_ok hp0) (k := ?_)
     rintro _ _ ⟨rfl, rfl⟩
     repeat (first | simp [F] | simp (disch := omega) only [wC, if_pos, if_neg])
     refine hJ7 _ _ ?_
     refine hK6 _ _ ?_
     refine run_ret ?_
     try simp only [Then, InBlock, NoGoto]
     refine answer_tmp rfl (.inr rfl) ?_
     exact gcr
  try exact nope c5
  all_goals have c5p := c5
  all_goals try simp [F] at c5p
  all_goals
   replace F := And.intro c5 F
   try replace F := And.intro c5p F
   have hk0 : ¬ pk = 0 := fun e => by rw [hkn] at e; have h := c5; simp at h; exact h (by simpa using e)
   refine run_skip ?_
   refine hK3 _ _ ?_
   refine sq fun K8 hK8 => ?_
   refine sq fun K9 hK9 => ?_
   refine rg' (h := fun J10 hJ10 => ?_)
   refine ca (c := psome_ok k3) (k := ?_)
   rintro _ _ ⟨rfl, rfl⟩
   repeat (first | simp [F] | simp (disch := omega) only [wC, if_pos, if_neg])
   refine gs 13 (fun g3_4 => ?_) (fun g3_4 => ?_)
   · try exact nope g3_4
     all_goals have g3_4p := g3_4
     all_goals try simp [F] at g3_4p
     all_goals
      replace F := And.intro g3_4 F
      try replace F := And.intro g3_4p F
      have hB : rightB ⟨pk, ps, pe, pt, pp⟩ = false := by rw [rightB, if_neg hk0, if_pos (.inl (by have h := g3_4; simp at h; intro hh; rcases h with h | h; exact hh.1 h; exact h hh.2))]
      replace F := And.intro hB F
      refine no2 (k := ?_)
      refine no2 (k := ?_)
      refine no2 (k := ?_)
      refine hJ10 _ _ ?_
      refine hK9 _ _ ?_
      refine ct ?_
      refine sq fun K11 hK11 => ?_
      refine rg' (h := fun J12 hJ12 => ?_)
      refine hJ12 _ _ ?_
      refine hK11 _ _ ?_
      refine run_ret ?_
      try simp only [Then, InBlock, NoGoto]
      refine answer_tmp rfl (.inr rfl) ?_
      exact gcr
   try exact nope g3_4
   all_goals have g3_4p := g3_4
   all_goals try simp [F] at g3_4p
   all_goals
    replace F := And.intro g3_4 F
    try replace F := And.intro g3_4p F
    refine go2 (k := ?_)
    refine go2 (k := ?_)
    refine go2 (k := ?_)
    refine hJ10 _ _ ?_
    refine hK9 _ _ ?_
    refine cs (fun c17 => ?_) (fun c17 => ?_)
    · try exact nope c17
      all_goals have c17p := c17
      all_goals try simp [F] at c17p
      all_goals
       replace F := And.intro c17 F
       try replace F := And.intro c17p F
       have hB : rightB ⟨pk, ps, pe, pt, pp⟩ = false := by rw [rightB, if_neg hk0, if_pos (.inr (by show 2 ^ 40 < pe; have h := c17; simp at h; omega))]
       replace F := And.intro hB F
       refine sq fun K13 hK13 => ?_
       refine rg' (h := fun J14 hJ14 => ?_)
       refine hJ14 _ _ ?_
       refine hK13 _ _ ?_
       refine run_ret ?_
       try simp only [Then, InBlock, NoGoto]
       refine answer_tmp rfl (.inr rfl) ?_
       exact gcr
    try exact nope c17
    all_goals have c17p := c17
    all_goals try simp [F] at c17p
    all_goals
     replace F := And.intro c17 F
     try replace F := And.intro c17p F
     have hs1 : ¬ pt = [] := by have h := g3_4; simp at h; exact h.1
     have hs2 : Right pt := by have h := g3_4; simp at h; exact h.2
     have hs3 : pe ≤ 1099511627776 := by have h := c17; simp at h; omega
     have hs3' : ¬ 1099511627776 < pe := by omega
     replace F := And.intro hs1 (And.intro hs2 (And.intro hs3 (And.intro hs3' F)))
     refine run_skip ?_
     refine hK8 _ _ ?_
     refine sq fun K15 hK15 => ?_
     refine sq fun K16 hK16 => ?_
     refine rg' (h := fun J17 hJ17 => ?_)
     refine hJ17 _ _ ?_
     refine hK16 _ _ ?_
     refine run_block_k ?_
     refine sq fun K18 hK18 => ?_
     refine rg' (h := fun J19 hJ19 => ?_)
     refine hJ19 _ _ ?_
     refine hK18 _ _ ?_
     refine cs (fun c20 => ?_) (fun c20 => ?_)
     · try exact nope c20
       all_goals have c20p := c20
       all_goals try simp [F] at c20p
       all_goals
        replace F := And.intro c20 F
        try replace F := And.intro c20p F
        refine sq fun K20 hK20 => ?_
        refine rg' (h := fun J21 hJ21 => ?_)
        refine gs 27 (fun g7_5 => ?_) (fun g7_5 => ?_)
        · try exact nope g7_5
          all_goals have g7_5p := g7_5
          all_goals try simp [F] at g7_5p
          all_goals
           replace F := And.intro g7_5 F
           try replace F := And.intro g7_5p F
           have h1 : ps < pe := by have h := g7_5; simp at h; omega
           have hB : rightB ⟨pk, ps, pe, pt, pp⟩ = decide (pp = []) := by rw [rightB]; simp [hkn, F, h1]
           replace F := And.intro hB F
           refine go2 (k := ?_)
           refine go2 (k := ?_)
           refine go2 (k := ?_)
           refine go2 (k := ?_)
           refine hJ21 _ _ ?_
           refine hK20 _ _ ?_
           refine run_ret ?_
           try simp only [Then, InBlock, NoGoto]
           refine answer_tmp rfl (.inr rfl) ?_
           exact gcr
        try exact nope g7_5
        all_goals have g7_5p := g7_5
        all_goals try simp [F] at g7_5p
        all_goals
         replace F := And.intro g7_5 F
         try replace F := And.intro g7_5p F
         have h1 : ¬ ps < pe := by have h := g7_5; simp at h; omega
         have hB : rightB ⟨pk, ps, pe, pt, pp⟩ = false := by rw [rightB]; simp [hkn, F, h1]
         replace F := And.intro hB F
         refine no2 (k := ?_)
         refine no2 (k := ?_)
         refine no2 (k := ?_)
         refine no2 (k := ?_)
         refine hJ21 _ _ ?_
         refine hK20 _ _ ?_
         refine run_ret ?_
         try simp only [Then, InBlock, NoGoto]
         refine answer_tmp rfl (.inr rfl) ?_
         exact gcr
     try exact nope c20
     all_goals have c20p := c20
     all_goals try simp [F] at c20p
     all_goals
      replace F := And.intro c20 F
      try replace F := And.intro c20p F
      refine sq fun K22 hK22 => ?_
      refine rg' (h := fun J23 hJ23 => ?_)
      refine hJ23 _ _ ?_
      refine hK22 _ _ ?_
      refine cs (fun c33 => ?_) (fun c33 => ?_)
      · try exact nope c33
        all_goals have c33p := c33
        all_goals try simp [F] at c33p
        all_goals
         replace F := And.intro c33 F
         try replace F := And.intro c33p F
         refine sq fun K24 hK24 => ?_
         refine rg' (h := fun J25 hJ25 => ?_)
         refine gs 38 (fun g9_3 => ?_) (fun g9_3 => ?_)
         · try exact nope g9_3
           all_goals have g9_3p := g9_3
           all_goals try simp [F] at g9_3p
           all_goals
            replace F := And.intro g9_3 F
            try replace F := And.intro g9_3p F
            have h1 : ps = 0 := by have h := g9_3; simp at h; omega
            have hB : rightB ⟨pk, 0, pe, pt, pp⟩ = decide (pp = []) := by rw [rightB]; simp [hkn, F, h1]
            replace F := And.intro hB F
            refine go2 (k := ?_)
            refine go2 (k := ?_)
            refine go2 (k := ?_)
            refine go2 (k := ?_)
            refine hJ25 _ _ ?_
            refine hK24 _ _ ?_
            refine run_ret ?_
            try simp only [Then, InBlock, NoGoto]
            refine answer_tmp rfl (.inr rfl) ?_
            exact gcr
         try exact nope g9_3
         all_goals have g9_3p := g9_3
         all_goals try simp [F] at g9_3p
         all_goals
          replace F := And.intro g9_3 F
          try replace F := And.intro g9_3p F
          have h1 : ¬ ps = 0 := by have h := g9_3; simp at h; omega
          have hB : rightB ⟨pk, ps, pe, pt, pp⟩ = false := by rw [rightB]; simp [hkn, F, h1]
          replace F := And.intro hB F
          refine no2 (k := ?_)
          refine no2 (k := ?_)
          refine no2 (k := ?_)
          refine no2 (k := ?_)
          refine hJ25 _ _ ?_
          refine hK24 _ _ ?_
          refine run_ret ?_
          try simp only [Then, InBlock, NoGoto]
          refine answer_tmp rfl (.inr rfl) ?_
          exact gcr
      try exact nope c33
      all_goals have c33p := c33
      all_goals try simp [F] at c33p
      all_goals
       replace F := And.intro c33 F
       try replace F := And.intro c33p F
       refine sq fun K26 hK26 => ?_
       refine rg' (h := fun J27 hJ27 => ?_)
       refine hJ27 _ _ ?_
       refine hK26 _ _ ?_
       refine cs (fun c44 => ?_) (fun c44 => ?_)
       · try exact nope c44
         all_goals have c44p := c44
         all_goals try simp [F] at c44p
         all_goals
          replace F := And.intro c44 F
          try replace F := And.intro c44p F
          refine sq fun K28 hK28 => ?_
          refine rg' (h := fun J29 hJ29 => ?_)
          refine gs 49 (fun g11_3 => ?_) (fun g11_3 => ?_)
          · try exact nope g11_3
            all_goals have g11_3p := g11_3
            all_goals try simp [F] at g11_3p
            all_goals
             replace F := And.intro g11_3 F
             try replace F := And.intro g11_3p F
             have h1 : ps = 0 := by have h := g11_3; simp at h; omega
             replace F := And.intro h1 F
             refine go2 (k := ?_)
             refine go2 (k := ?_)
             refine go2 (k := ?_)
             refine gs 54 (fun g11_8 => ?_) (fun g11_8 => ?_)
             · try exact nope g11_8
               all_goals have g11_8p := g11_8
               all_goals try simp [F] at g11_8p
               all_goals
                replace F := And.intro g11_8 F
                try replace F := And.intro g11_8p F
                have h2 : pe = 0 := by have h := g11_8; simp at h; omega
                have hB : rightB ⟨pk, 0, 0, pt, pp⟩ = decide (pp = []) := by rw [rightB]; simp [hkn, F]
                replace F := And.intro hB F
                refine go2 (k := ?_)
                refine go2 (k := ?_)
                refine go2 (k := ?_)
                refine go2 (k := ?_)
                refine hJ29 _ _ ?_
                refine hK28 _ _ ?_
                refine run_ret ?_
                try simp only [Then, InBlock, NoGoto]
                refine answer_tmp rfl (.inr rfl) ?_
                exact gcr
             try exact nope g11_8
             all_goals have g11_8p := g11_8
             all_goals try simp [F] at g11_8p
             all_goals
              replace F := And.intro g11_8 F
              try replace F := And.intro g11_8p F
              have h2 : ¬ pe = 0 := by have h := g11_8; simp at h; omega
              have hB : rightB ⟨pk, 0, pe, pt, pp⟩ = false := by rw [rightB]; simp [hkn, F, h2]
              replace F := And.intro hB F
              refine no2 (k := ?_)
              refine no2 (k := ?_)
              refine no2 (k := ?_)
              refine no2 (k := ?_)
              refine hJ29 _ _ ?_
              refine hK28 _ _ ?_
              refine run_ret ?_
              try simp only [Then, InBlock, NoGoto]
              refine answer_tmp rfl (.inr rfl) ?_
              exact gcr
          try exact nope g11_3
          all_goals have g11_3p := g11_3
          all_goals try simp [F] at g11_3p
          all_goals
           replace F := And.intro g11_3 F
           try replace F := And.intro g11_3p F
           have h1 : ¬ ps = 0 := by have h := g11_3; simp at h; omega
           have hB : rightB ⟨pk, ps, pe, pt, pp⟩ = false := by rw [rightB]; simp [hkn, F, h1]
           replace F := And.intro hB F
           refine no2 (k := ?_)
           refine no2 (k := ?_)
           refine no2 (k := ?_)
           refine no2 (k := ?_)
           refine no2 (k := ?_)
           refine no2 (k := ?_)
           refine no2 (k := ?_)
           refine hJ29 _ _ ?_
           refine hK28 _ _ ?_
           refine run_ret ?_
           try simp only [Then, InBlock, NoGoto]
           refine answer_tmp rfl (.inr rfl) ?_
           exact gcr
       try exact nope c44
       all_goals have c44p := c44
       all_goals try simp [F] at c44p
       all_goals
        replace F := And.intro c44 F
        try replace F := And.intro c44p F
        refine sq fun K30 hK30 => ?_
        refine sq fun K31 hK31 => ?_
        refine rg' (h := fun J32 hJ32 => ?_)
        refine hJ32 _ _ ?_
        refine hK31 _ _ ?_
        refine cs (fun c60 => ?_) (fun c60 => ?_)
        · try exact nope c60
          all_goals have c60p := c60
          all_goals try simp [F] at c60p
          all_goals
           replace F := And.intro c60 F
           try replace F := And.intro c60p F
           refine run_skip ?_
           refine hK30 _ _ ?_
           refine cs (fun c60 => ?_) (fun c60 => ?_)
           · try exact nope c60
             all_goals have c60p := c60
             all_goals try simp [F] at c60p
             all_goals
              replace F := And.intro c60 F
              try replace F := And.intro c60p F
              refine sq fun K33 hK33 => ?_
              have h35 : (pk.toNat : Int) = 3 ∨ (pk.toNat : Int) = 5 := by have h := c60; simp at h; first | exact .inl (by simpa using h) | exact .inr (by simpa using h)
              have hB : rightB ⟨pk, ps, pe, pt, pp⟩ = perB ⟨pk, ps, pe, pt, pp⟩ := by rw [rightB]; rcases h35 with h35 | h35 <;> simp [hkn, hs1, hs2, hs3', h35]
              replace F := And.intro hB F
              refine rg' (h := fun J34 hJ34 => ?_)
              refine ca (c := periods_ok hp0 (by show pe ≤ 2 ^ 40; omega)) (k := ?_)
              rintro _ _ ⟨rfl, rfl⟩
              repeat (first | simp [F] | simp (disch := omega) only [wC, if_pos, if_neg])
              refine hJ34 _ _ ?_
              refine hK33 _ _ ?_
              refine run_ret ?_
              try simp only [Then, InBlock, NoGoto]
              refine answer_tmp rfl (.inr rfl) ?_
              exact gcr
           try exact nope c60
           all_goals have c60p := c60
           all_goals try simp [F] at c60p
           all_goals
            replace F := And.intro c60 F
            try replace F := And.intro c60p F
            refine run_skip ?_
            refine hK15 _ _ ?_
            refine sq fun K35 hK35 => ?_
            have hB : rightB ⟨pk, ps, pe, pt, pp⟩ = false := by rw [rightB]; simp [hkn, F]
            replace F := And.intro hB F
            refine rg' (h := fun J36 hJ36 => ?_)
            refine hJ36 _ _ ?_
            refine hK35 _ _ ?_
            refine run_ret ?_
            try simp only [Then, InBlock, NoGoto]
            refine answer_tmp rfl (.inr rfl) ?_
            exact gcr
        try exact nope c60
        all_goals have c60p := c60
        all_goals try simp [F] at c60p
        all_goals
         replace F := And.intro c60 F
         try replace F := And.intro c60p F
         refine rg' (h := fun J37 hJ37 => ?_)
         refine hJ37 _ _ ?_
         refine hK30 _ _ ?_
         refine cs (fun c60 => ?_) (fun c60 => ?_)
         · try exact nope c60
           all_goals have c60p := c60
           all_goals try simp [F] at c60p
           all_goals
            replace F := And.intro c60 F
            try replace F := And.intro c60p F
            refine sq fun K38 hK38 => ?_
            have h35 : (pk.toNat : Int) = 3 ∨ (pk.toNat : Int) = 5 := by have h := c60; simp at h; first | exact .inl (by simpa using h) | exact .inr (by simpa using h)
            have hB : rightB ⟨pk, ps, pe, pt, pp⟩ = perB ⟨pk, ps, pe, pt, pp⟩ := by rw [rightB]; rcases h35 with h35 | h35 <;> simp [hkn, hs1, hs2, hs3', h35]
            replace F := And.intro hB F
            refine rg' (h := fun J39 hJ39 => ?_)
            refine ca (c := periods_ok hp0 (by show pe ≤ 2 ^ 40; omega)) (k := ?_)
            rintro _ _ ⟨rfl, rfl⟩
            repeat (first | simp [F] | simp (disch := omega) only [wC, if_pos, if_neg])
            refine hJ39 _ _ ?_
            refine hK38 _ _ ?_
            refine run_ret ?_
            try simp only [Then, InBlock, NoGoto]
            refine answer_tmp rfl (.inr rfl) ?_
            exact gcr
         try exact nope c60
         all_goals have c60p := c60
         all_goals try simp [F] at c60p
         all_goals
          replace F := And.intro c60 F
          try replace F := And.intro c60p F
          refine run_skip ?_
          refine hK15 _ _ ?_
          refine sq fun K40 hK40 => ?_
          have hB : rightB ⟨pk, ps, pe, pt, pp⟩ = false := by rw [rightB]; simp [hkn, F]
          replace F := And.intro hB F
          refine rg' (h := fun J41 hJ41 => ?_)
          refine hJ41 _ _ ?_
          refine hK40 _ _ ?_
          refine run_ret ?_
          try simp only [Then, InBlock, NoGoto]
          refine answer_tmp rfl (.inr rfl) ?_
          exact gcr

end Go.Proofs.Ytdbaddholggkbaa

/-
  What a plan gives by a time.
-/
namespace Go.Vm
open Go

/-- How many parts are over by a time. -/
def overN : List Per → Nat → Nat → Nat
  | [], _, _ => 0
  | x :: l, E, t => if t < E + x.l then 0 else overN l (E + x.l) t + 1
theorem overN_le : ∀ (l : List Per) (E t : Nat), overN l E t ≤ l.length
  | [], _, _ => Nat.le_refl _
  | x :: l, E, t => by
    unfold overN
    split
    · exact Nat.zero_le _
    · have := overN_le l (E + x.l) t; simp; omega
/-- The lengths' sum. -/
def lenS : List Per → Nat
  | [] => 0
  | x :: l => x.l + lenS l
/-- The sum of the parts' coins, as it is added up. -/
def sumL : List Per → List Coin → List Coin
  | [], a => a
  | x :: l, a => sumL l (cAddL a x.c)
theorem right_sumL : ∀ (l : List Per) (a : List Coin), Right a → Right (sumL l a)
  | [], _, h => h
  | _ :: l, _, _ => right_sumL l _ (right_cAdd _ _)
/-- A coin's part that is given by a time. -/
def partN (c : Coin) (s e t : Nat) : Nat := c.n.v * (t - s) / (e - s)
theorem partN_lt {c : Coin} {s e t : Nat} (h : t ≤ e) : partN c s e t < 2 ^ 256 := by
  unfold partN
  have h1 : c.n.v * (t - s) ≤ c.n.v * (e - s) := Nat.mul_le_mul_left _ (by omega)
  have h2 : c.n.v * (t - s) / (e - s) ≤ c.n.v := by
    by_cases h0 : e - s = 0
    · rw [h0]; simp
    · exact Nat.le_trans (Nat.div_le_div_right h1) (by rw [Nat.mul_div_cancel _ (by omega)]; exact Nat.le_refl _)
  have := c.n.h
  omega
def partL (s e t : Nat) : List Coin → List Coin
  | [] => []
  | c :: l => oneL c.d (Num.of (partN c s e t)) ++ partL s e t l
theorem partL_snoc (s e t : Nat) (c : Coin) : ∀ l, partL s e t (l ++ [c]) = partL s e t l ++ oneL c.d (Num.of (partN c s e t))
  | [] => by simp [partL]
  | x :: l => by simp [partL, partL_snoc s e t c l]
theorem partL_len (s e t : Nat) : ∀ l, (partL s e t l).length ≤ l.length
  | [] => Nat.le_refl _
  | c :: l => by
    have := partL_len s e t l
    simp only [partL, List.length_append, List.length_cons]
    have : (oneL c.d (Num.of (partN c s e t))).length ≤ 1 := by unfold oneL; split <;> simp
    omega
theorem persC_take (l : List Per) (i : Nat) : (persC l).take (i * 2) = persC (l.take i) := by
  conv => lhs; rw [← List.take_append_drop i l, ← persC_append]
  by_cases h : i ≤ l.length
  · rw [List.take_append_of_le_length (by simp; omega), List.take_of_length_le (by simp; omega)]
  · rw [List.drop_of_length_le (by omega), persC_nil, List.append_nil, List.take_of_length_le (by simp; omega)]
def vestL (p : Pln) (t : Nat) : List Coin :=
  if p.k = 3 ∨ p.k = 5 then sumL (p.ps.take (overN p.ps p.s t)) []
  else if (¬ p.k = 1 ∧ ¬ p.k = 2) ∨ (p.k = 1 ∧ t ≤ p.s) then []
  else if p.e ≤ t then p.tot
  else if p.k = 2 then []
  else partL p.s p.e t p.tot

end Go.Vm

/-
  What a plan gives: sums, lists..
-/
namespace Go.Proofs.Ytdbaddholggkbaa
set_option linter.unnecessarySimpa false
set_option maxRecDepth 100000
open Go Go.Vm
set_option linter.unusedSimpArgs false
set_option linter.unusedVariables false

attribute [local simp] evalL wantedA isCall opA evalA evalAll evalsA evalOpt ofValue ofCell plain binA_eql_pn binA_neq_pn binA_gtr binA_lss binA_geq binA_leq binA_add binA_sub binA_eql binA_neq binA_orI binA_andI binA_shl binA_shr binA_mul binA_quo binA_rem binA_agg_eql binA_agg_neq convA_int unA_not fieldAddrA loadA partA pickA_true pickA_false pickA_bb lenA builtinA storeA splice AV.cells AV.isCell sliceA boundA intA callOf indexAddrA newObjA buildA fillA zeroA ofCells buildSliceA indexA fieldA numA_len4 numA_take4 numA_drop4 set_appN get_appN take_appN List.getElem?_cons_zero List.getElem?_cons_succ makeA zeros64

section
attribute [local simp] readA rowAppA appendA roomA maxLen
set_option maxHeartbeats 1600000 in
attribute [local simp] undefA List.getElem?_cons_zero List.getElem?_cons_succ in
theorem cclone_ok {σ : St} {l : List Coin} {tl : Tail} (hl : l.length ≤ 1000000) :
    CallsA Try.prog 65 [.sl 5 (coinsC l) l.length tl] σ (fun av σ' => av = .sl 5 (coinsC l) l.length .shut ∧ σ = σ') := by
  refine callsA_gcS ?_ (by simp [AV.under])
  have h1 : l.length * 40 ≤ 140737488355328 := by omega
  have h2 : l.length ≤ 9223372036854775807 := by omega
  have F := And.intro h1 (And.intro h2 (True.intro))
  refine callsA_body Try.func65 rfl rfl rfl ?_
  refine sq fun K1 hK1 => ?_
  refine rg' (h := fun J2 hJ2 => ?_)
  refine hJ2 _ _ ?_
  refine hK1 _ _ ?_
  refine sq fun K3 hK3 => ?_
  refine sq fun K4 hK4 => ?_
  refine rg' (h := fun J5 hJ5 => ?_)
  refine sn rfl rfl (fun b4 hb4 => ?_)
  repeat (first | simp [F] | simp (disch := omega) only [wC, if_pos, if_neg])
  refine hJ5 _ _ ?_
  refine hK4 _ _ ?_
  refine cs (fun c4 => ?_) (fun c4 => ?_)
  · try exact nope c4
    all_goals have c4p := c4
    all_goals try simp [F] at c4p
    all_goals
     replace F := And.intro c4 F
     try replace F := And.intro c4p F
     have hl0 : l = [] := by cases l with | nil => rfl | cons x l => (exfalso; simp_all)
     subst hl0
     refine sq fun K6 hK6 => ?_
     refine rg' (h := fun J7 hJ7 => ?_)
     refine hJ7 _ _ ?_
     refine hK6 _ _ ?_
     refine run_ret ?_
     try simp only [Then, InBlock, NoGoto]
     refine answer_tmp rfl (.inr rfl) ?_
     exact gcr
  try exact nope c4
  all_goals have c4p := c4
  all_goals try simp [F] at c4p
  all_goals
   replace F := And.intro c4 F
   try replace F := And.intro c4p F
   refine run_skip ?_
   refine hK3 _ _ ?_
   refine sq fun K8 hK8 => ?_
   refine rg' (h := fun J9 hJ9 => ?_)
   refine hJ9 _ _ ?_
   refine hK8 _ _ ?_
   refine run_ret ?_
   try simp only [Then, InBlock, NoGoto]
   refine answer_tmp rfl (.inr rfl) ?_
   exact gcr
end

set_option maxHeartbeats 1600000 in
attribute [local simp] undefA List.getElem?_cons_zero List.getElem?_cons_succ perC persC_noObj in
theorem psum_ok {σ : St} {l : List Per} {tl : Tail} (hl : l.length ≤ 9223372036854775807) (h5 : ∀ x ∈ l, x.c.length ≤ 9223372036854775807) :
    CallsA Try.prog 63 [.sl 2 (persC l) l.length tl] σ (fun av σ' => av = .sl 5 (coinsC (sumL l [])) (sumL l []).length .shut ∧ σ = σ') := by
  refine callsA_gcS ?_ (by simp [AV.under])
  have F := True.intro
  refine callsA_body Try.func63 rfl rfl rfl ?_
  refine sq fun K1 hK1 => ?_
  refine rg' (h := fun J2 hJ2 => ?_)
  refine hJ2 _ _ ?_
  refine hK1 _ _ ?_
  refine sq fun K3 hK3 => ?_
  refine rg' (h := fun J4 hJ4 => ?_)
  refine hJ4 _ _ ?_
  refine hK3 _ _ ?_
  refine sq fun K5 hK5 => ?_
  refine sq fun K6 hK6 => ?_
  refine run_nilsh 3 5 (k := ?_)
  refine rg' (h := fun J7 hJ7 => ?_)
  refine hJ7 _ _ ?_
  refine hK6 _ _ ?_
  refine run_block_k ?_
  refine run_loopG (X := PerQ) [2, 6, 7] (fun q ρ σ1 => (q.i ≤ l.length) ∧ (sumL l [] = sumL (l.drop q.i) q.a) ∧ (q.a.length ≤ 8) ∧ (ρ 3 = .sl 5 (coinsC q.a) q.a.length .shut) ∧ (ρ 8 = .v (.int .i64 q.i)) ∧ (σ1 = σ)) (fun q => l.length - q.i) (⟨0, 0, []⟩) ?st1 ?rd1
  case st1 =>
   refine ⟨lp, ?_, lp, lp, lp, ?_⟩
   · rfl
   · rfl
  case rd1 =>
   rintro q ρ1 σ1 hF1 ⟨hi, hE, hqa, h4, h17, hσ⟩
   obtain rfl := hσ.symm
   have f1 := keepL hF1
   try simp [KeepL, F] at f1
   replace F := And.intro h4 F
   replace F := And.intro h17 F
   try replace F := And.intro f1 F
   refine sq fun K8 hK8 => ?_
   refine rg' (h := fun J9 hJ9 => ?_)
   refine hJ9 _ _ ?_
   refine hK8 _ _ ?_
   refine sq fun K10 hK10 => ?_
   refine cs (fun c9 => ?_) (fun c9 => ?_)
   · try exact nope c9
     all_goals have c9p := c9
     all_goals try simp [F] at c9p
     all_goals
      replace F := And.intro c9 F
      try replace F := And.intro c9p F
      refine run_skip ?_
      refine hK10 _ _ ?_
      refine sq fun K11 hK11 => ?_
      refine run_block_k ?_
      refine sq fun K12 hK12 => ?_
      obtain ⟨i, E, S⟩ := q
      simp only at hi hE hqa h4 h17
      have hlt : i < l.length := by simp at c9; omega
      have hat := persC_at hlt
      have hb1 : i * 2 + 2 ≤ l.length * 2 := by omega
      have hxc := h5 _ (List.getElem_mem hlt)
      have hcons : l.drop i = l[i] :: l.drop (i + 1) := List.drop_eq_getElem_cons hlt
      obtain ⟨x, hx⟩ : ∃ x, x = l[i] := ⟨_, rfl⟩
      rw [← hx] at hat hxc hcons
      rw [hcons] at hE
      obtain ⟨xl, xc⟩ := x
      simp only at hxc
      simp only [sumL] at hE
      obtain ⟨S2, hS2⟩ : ∃ S2, S2 = cAddL S xc := ⟨_, rfl⟩
      have hS2l : S2.length ≤ 8 := by rw [hS2]; exact right_len (right_cAdd _ _)
      rw [← hS2] at hE
      replace F := And.intro hlt F
      replace F := And.intro hat F
      replace F := And.intro hb1 F
      refine rg' (h := fun J13 hJ13 => ?_)
      refine hJ13 _ _ ?_
      refine hK12 _ _ ?_
      refine rg' (h := fun J14 hJ14 => ?_)
      refine ca (c := (hS2 ▸ cadd_ok (by omega) hxc)) (k := ?_)
      rintro _ _ ⟨rfl, rfl⟩
      repeat (first | simp [F] | simp (disch := omega) only [wC, if_pos, if_neg])
      refine hJ14 _ _ ?_
      refine hK11 _ _ ?_
      refine rg' (h := fun J15 hJ15 => ?_)
      refine hJ15 _ _ ?_
      refine ⟨gk, (⟨i + 1, E, S2⟩), ⟨kpG, lpG, ?_, ?_, lpG, lpG, lpG⟩, lpG⟩
      · exact hE
      · exact hS2l
   try exact nope c9
   all_goals have c9p := c9
   all_goals try simp [F] at c9p
   all_goals
    replace F := And.intro c9 F
    try replace F := And.intro c9p F
    have hend : sumL l [] = q.a := by rw [hE, List.drop_of_length_le (by have h := c9; simp at h; omega)]; rfl
    replace F := And.intro hend F
    refine run_exit ?_
    refine hK5 _ _ ?_
    refine sq fun K16 hK16 => ?_
    refine rg' (h := fun J17 hJ17 => ?_)
    refine hJ17 _ _ ?_
    refine hK16 _ _ ?_
    refine run_ret ?_
    try simp only [Then, InBlock, NoGoto]
    refine answer_tmp rfl (.inr rfl) ?_
    exact gcr

set_option maxHeartbeats 1600000 in
attribute [local simp] undefA List.getElem?_cons_zero List.getElem?_cons_succ perC plnC persC_noObj in
theorem pover_ok {σ : St} {p : Pln} {t : Nat} (hp : p.Ok) (hs : p.s + lenS p.ps < 2 ^ 64) :
    CallsA Try.prog 64 [.agg (plnC p), .v (.int .u64 t)] σ (fun av σ' => av = .sl 2 (persC (p.ps.take (overN p.ps p.s t))) (overN p.ps p.s t) .shut ∧ σ = σ') := by
  refine callsA_gcS ?_ (by simp [AV.under, persC_under])
  obtain ⟨pk, ps, pe, pt, pp⟩ := p
  obtain ⟨k1, k2, k3, k4, h5⟩ := hp
  simp only at hs k4 k1 h5
  have F := True.intro
  refine callsA_body Try.func64 rfl rfl rfl ?_
  refine sq fun K1 hK1 => ?_
  refine rg' (h := fun J2 hJ2 => ?_)
  refine hJ2 _ _ ?_
  refine hK1 _ _ ?_
  refine sq fun K3 hK3 => ?_
  refine rg' (h := fun J4 hJ4 => ?_)
  refine hJ4 _ _ ?_
  refine hK3 _ _ ?_
  refine sq fun K5 hK5 => ?_
  refine sq fun K6 hK6 => ?_
  refine rg' (h := fun J7 hJ7 => ?_)
  refine hJ7 _ _ ?_
  refine hK6 _ _ ?_
  refine run_block_k ?_
  refine run_loopG (X := PerQ) [1, 2, 11, 12] (fun q ρ σ1 => (q.i ≤ pp.length) ∧ (overN pp ps t = overN (pp.drop q.i) q.e t + q.i) ∧ (q.e + lenS (pp.drop q.i) < 2 ^ 64) ∧ (ρ 5 = .v (.int .u64 q.e)) ∧ (ρ 13 = .v (.int .i64 q.i)) ∧ (σ1 = { σ with objs := σ.objs ++ [[.v (.int .u8 pk.toNat), .v (.int .u64 ps), .v (.int .u64 pe), .sl 5 (coinsC pt) pt.length .shut, .sl 2 (persC pp) pp.length .shut]] })) (fun q => pp.length - q.i) (⟨0, ps, []⟩) ?st1 ?rd1
  case st1 =>
   refine ⟨lp, ?_, ?_, lp, lp, ?_⟩
   · rfl
   · exact hs
   · rfl
  case rd1 =>
   rintro q ρ1 σ1 hF1 ⟨hi, hE, hqe, h4, h17, hσ⟩
   obtain rfl := hσ.symm
   have f1 := keepL hF1
   try simp [KeepL, F] at f1
   replace F := And.intro h4 F
   replace F := And.intro h17 F
   try replace F := And.intro f1 F
   refine sq fun K8 hK8 => ?_
   refine rg' (h := fun J9 hJ9 => ?_)
   refine hJ9 _ _ ?_
   refine hK8 _ _ ?_
   refine sq fun K10 hK10 => ?_
   refine cs (fun c14 => ?_) (fun c14 => ?_)
   · try exact nope c14
     all_goals have c14p := c14
     all_goals try simp [F] at c14p
     all_goals
      replace F := And.intro c14 F
      try replace F := And.intro c14p F
      refine run_skip ?_
      refine hK10 _ _ ?_
      refine sq fun K11 hK11 => ?_
      refine run_block_k ?_
      refine sq fun K12 hK12 => ?_
      obtain ⟨i, E, S⟩ := q
      simp only at hi hE hqe h4 h17
      have hlt : i < pp.length := by simp at c14; omega
      have hat := persC_at hlt
      have hb1 : i * 2 + 2 ≤ pp.length * 2 := by omega
      have hcons : pp.drop i = pp[i] :: pp.drop (i + 1) := List.drop_eq_getElem_cons hlt
      obtain ⟨x, hx⟩ : ∃ x, x = pp[i] := ⟨_, rfl⟩
      rw [← hx] at hat hcons
      rw [hcons] at hE hqe
      obtain ⟨xl, xc⟩ := x
      simp only [overN] at hE
      simp only [lenS] at hqe
      have hw : IntKind.u64.wrap ((E : Int) + xl) = ((E + xl : Nat) : Int) := by rw [wrap_u64c (by omega)]; rfl
      replace F := And.intro hlt F
      replace F := And.intro hat F
      replace F := And.intro hb1 F
      replace F := And.intro hw F
      refine rg' (h := fun J13 hJ13 => ?_)
      refine hJ13 _ _ ?_
      refine hK12 _ _ ?_
      refine sq fun K14 hK14 => ?_
      refine rg' (h := fun J15 hJ15 => ?_)
      refine hJ15 _ _ ?_
      refine hK14 _ _ ?_
      refine sq fun K16 hK16 => ?_
      refine rg' (h := fun J17 hJ17 => ?_)
      refine hJ17 _ _ ?_
      refine hK16 _ _ ?_
      refine cs (fun c24 => ?_) (fun c24 => ?_)
      · try exact nope c24
        all_goals have c24p := c24
        all_goals try simp [F] at c24p
        all_goals
         replace F := And.intro c24 F
         try replace F := And.intro c24p F
         have h1 : t < E + xl := by have h := c24; simp at h; omega
         rw [if_pos h1, Nat.zero_add] at hE
         have hpt := persC_take pp i
         replace F := And.intro hE (And.intro hpt F)
         refine sq fun K18 hK18 => ?_
         refine rg' (h := fun J19 hJ19 => ?_)
         refine hJ19 _ _ ?_
         refine hK18 _ _ ?_
         refine run_ret ?_
         try simp only [Then, InBlock, NoGoto]
         refine answer_tmp rfl (.inr rfl) ?_
         exact gcr
      try exact nope c24
      all_goals have c24p := c24
      all_goals try simp [F] at c24p
      all_goals
       replace F := And.intro c24 F
       try replace F := And.intro c24p F
       have h1 : ¬ t < E + xl := by have h := c24; simp at h; omega
       rw [if_neg h1] at hE
       have hE2 : overN pp ps t = overN (pp.drop (i + 1)) (E + xl) t + (i + 1) := by rw [hE]; omega
       have hqe2 : E + xl + lenS (pp.drop (i + 1)) < 2 ^ 64 := by omega
       refine run_skip ?_
       refine hK11 _ _ ?_
       refine rg' (h := fun J20 hJ20 => ?_)
       refine hJ20 _ _ ?_
       refine ⟨gk, (⟨i + 1, E + xl, []⟩), ⟨kpG, lpG, ?_, ?_, lpG, lpG, lpG⟩, lpG⟩
       · exact hE2
       · exact hqe2
   try exact nope c14
   all_goals have c14p := c14
   all_goals try simp [F] at c14p
   all_goals
    replace F := And.intro c14 F
    try replace F := And.intro c14p F
    have hii : q.i = pp.length := by have h := c14; simp at h; omega
    have hend : overN pp ps t = pp.length := by rw [hE, List.drop_of_length_le (by omega)]; simp [overN, hii]
    have htk : pp.take pp.length = pp := List.take_length
    replace F := And.intro hend (And.intro htk F)
    refine run_exit ?_
    refine hK5 _ _ ?_
    refine sq fun K21 hK21 => ?_
    refine rg' (h := fun J22 hJ22 => ?_)
    refine hJ22 _ _ ?_
    refine hK21 _ _ ?_
    refine run_ret ?_
    try simp only [Then, InBlock, NoGoto]
    refine answer_tmp rfl (.inr rfl) ?_
    exact gcr

end Go.Proofs.Ytdbaddholggkbaa

/-
  What a plan gives..
-/
namespace Go.Proofs.Ytdbaddholggkbaa
set_option linter.unnecessarySimpa false
set_option maxRecDepth 100000
open Go Go.Vm
set_option linter.unusedSimpArgs false
set_option linter.unusedVariables false

attribute [local simp] evalL wantedA isCall opA evalA evalAll evalsA evalOpt ofValue ofCell plain binA_eql_pn binA_neq_pn binA_gtr binA_lss binA_geq binA_leq binA_add binA_sub binA_eql binA_neq binA_orI binA_andI binA_shl binA_shr binA_mul binA_quo binA_rem binA_agg_eql binA_agg_neq convA_int unA_not fieldAddrA loadA partA pickA_true pickA_false pickA_bb lenA builtinA storeA splice AV.cells AV.isCell sliceA boundA intA callOf indexAddrA newObjA buildA fillA zeroA ofCells buildSliceA indexA fieldA numA_len4 numA_take4 numA_drop4 set_appN get_appN take_appN List.getElem?_cons_zero List.getElem?_cons_succ makeA zeros64

set_option maxHeartbeats 1600000 in
attribute [local simp] undefA List.getElem?_cons_zero List.getElem?_cons_succ plnC persC_noObj coinC in
theorem pvested_ok {σ : St} {p : Pln} {t : Nat} (hp : p.Ok) (hc : p.tot.length ≤ 1000000) (hs : p.s + lenS p.ps < 2 ^ 64) (ht : t < 2 ^ 64) :
    CallsA Try.prog 23 [.agg (plnC p), .v (.int .u64 t)] σ (fun av σ' => av = .sl 5 (coinsC (vestL p t)) (vestL p t).length .shut ∧ σ = σ') := by
  refine callsA_gcS ?_ (by simp [AV.under])
  have hp0 := hp
  obtain ⟨pk, ps, pe, pt, pp⟩ := p
  obtain ⟨k1, k2, k3, k4, h5⟩ := hp
  simp only at hc hs k1 k2 k3 k4 h5
  have hkn : ∀ n : UInt8, pk = n ↔ (pk.toNat : Int) = (n.toNat : Int) := fun n => ⟨fun e => by rw [e], fun e => UInt8.toNat_inj.1 (Int.ofNat_inj.1 e)⟩
  have hon := overN_le pp ps t
  have hol : (pp.take (overN pp ps t)).length = overN pp ps t := by simp; omega
  have hsum : ∀ σ, CallsA Try.prog 63 [.sl 2 (persC (pp.take (overN pp ps t))) (overN pp ps t) .shut] σ (fun av σ' => av = .sl 5 (coinsC (sumL (pp.take (overN pp ps t)) [])) (sumL (pp.take (overN pp ps t)) []).length .shut ∧ σ = σ') := fun σ => by
    have h := psum_ok (σ := σ) (l := pp.take (overN pp ps t)) (tl := .shut) (by rw [hol]; omega) (fun x hx => (h5 x (List.mem_of_mem_take hx)).2)
    rw [hol] at h; exact h
  have F := True.intro
  refine callsA_body Try.func23 rfl rfl rfl ?_
  refine sq fun K1 hK1 => ?_
  refine rg' (h := fun J2 hJ2 => ?_)
  refine hJ2 _ _ ?_
  refine hK1 _ _ ?_
  refine sq fun K3 hK3 => ?_
  refine run_block_k ?_
  refine sq fun K4 hK4 => ?_
  refine rg' (h := fun J5 hJ5 => ?_)
  refine gs 14 (fun g1_3 => ?_) (fun g1_3 => ?_)
  · try exact nope g1_3
    all_goals have g1_3p := g1_3
    all_goals try simp [F] at g1_3p
    all_goals
     replace F := And.intro g1_3 F
     try replace F := And.intro g1_3p F
     refine no2 (k := ?_)
     refine no2 (k := ?_)
     refine no2 (k := ?_)
     refine hJ5 _ _ ?_
     refine hK4 _ _ ?_
     refine ct ?_
     refine sq fun K6 hK6 => ?_
     have h35 : (pk.toNat : Int) = 3 ∨ (pk.toNat : Int) = 5 := by first | exact .inl (by simpa using g1_3) | exact .inr (by simpa using c10)
     have hv : vestL ⟨pk, ps, pe, pt, pp⟩ t = sumL (pp.take (overN pp ps t)) [] := by rw [vestL]; rcases h35 with h | h <;> simp [hkn, h]
     replace F := And.intro hv F
     refine rg' (h := fun J7 hJ7 => ?_)
     refine ca (c := (pover_ok (t := t) hp0 hs)) (k := ?_)
     rintro _ _ ⟨rfl, rfl⟩
     repeat (first | simp [F] | simp (disch := omega) only [wC, if_pos, if_neg])
     refine ca (c := hsum _) (k := ?_)
     rintro _ _ ⟨rfl, rfl⟩
     repeat (first | simp [F] | simp (disch := omega) only [wC, if_pos, if_neg])
     refine hJ7 _ _ ?_
     refine hK6 _ _ ?_
     refine run_ret ?_
     try simp only [Then, InBlock, NoGoto]
     refine answer_tmp rfl (.inr rfl) ?_
     exact gcr (hA := by simp only [putA_get]; simp [vestL, hkn, F]; first | exact Wk.refl _ | exact Wk.nil _ _ _)
  try exact nope g1_3
  all_goals have g1_3p := g1_3
  all_goals try simp [F] at g1_3p
  all_goals
   replace F := And.intro g1_3 F
   try replace F := And.intro g1_3p F
   refine go2 (k := ?_)
   refine go2 (k := ?_)
   refine go2 (k := ?_)
   refine hJ5 _ _ ?_
   refine hK4 _ _ ?_
   refine cs (fun c10 => ?_) (fun c10 => ?_)
   · try exact nope c10
     all_goals have c10p := c10
     all_goals try simp [F] at c10p
     all_goals
      replace F := And.intro c10 F
      try replace F := And.intro c10p F
      refine sq fun K8 hK8 => ?_
      have h35 : (pk.toNat : Int) = 3 ∨ (pk.toNat : Int) = 5 := by first | exact .inl (by simpa using g1_3) | exact .inr (by simpa using c10)
      have hv : vestL ⟨pk, ps, pe, pt, pp⟩ t = sumL (pp.take (overN pp ps t)) [] := by rw [vestL]; rcases h35 with h | h <;> simp [hkn, h]
      replace F := And.intro hv F
      refine rg' (h := fun J9 hJ9 => ?_)
      refine ca (c := (pover_ok (t := t) hp0 hs)) (k := ?_)
      rintro _ _ ⟨rfl, rfl⟩
      repeat (first | simp [F] | simp (disch := omega) only [wC, if_pos, if_neg])
      refine ca (c := hsum _) (k := ?_)
      rintro _ _ ⟨rfl, rfl⟩
      repeat (first | simp [F] | simp (disch := omega) only [wC, if_pos, if_neg])
      refine hJ9 _ _ ?_
      refine hK8 _ _ ?_
      refine run_ret ?_
      try simp only [Then, InBlock, NoGoto]
      refine answer_tmp rfl (.inr rfl) ?_
      exact gcr (hA := by simp only [putA_get]; simp [vestL, hkn, F]; first | exact Wk.refl _ | exact Wk.nil _ _ _)
   try exact nope c10
   all_goals have c10p := c10
   all_goals try simp [F] at c10p
   all_goals
    replace F := And.intro c10 F
    try replace F := And.intro c10p F
    refine sq fun K10 hK10 => ?_
    refine rg' (h := fun J11 hJ11 => ?_)
    refine gs 27 (fun g3_3 => ?_) (fun g3_3 => ?_)
    · try exact nope g3_3
      all_goals have g3_3p := g3_3
      all_goals try simp [F] at g3_3p
      all_goals
       replace F := And.intro g3_3 F
       try replace F := And.intro g3_3p F
       refine go2 (k := ?_)
       refine go2 (k := ?_)
       refine go2 (k := ?_)
       refine gs 32 (fun g3_8 => ?_) (fun g3_8 => ?_)
       · try exact nope g3_8
         all_goals have g3_8p := g3_8
         all_goals try simp [F] at g3_8p
         all_goals
          replace F := And.intro g3_8 F
          try replace F := And.intro g3_8p F
          refine no2 (k := ?_)
          refine no2 (k := ?_)
          refine no2 (k := ?_)
          refine no2 (k := ?_)
          refine no2 (k := ?_)
          refine no2 (k := ?_)
          refine no2 (k := ?_)
          refine no2 (k := ?_)
          refine no2 (k := ?_)
          refine hJ11 _ _ ?_
          refine hK10 _ _ ?_
          refine ct ?_
          refine sq fun K12 hK12 => ?_
          refine rg' (h := fun J13 hJ13 => ?_)
          refine hJ13 _ _ ?_
          refine hK12 _ _ ?_
          refine run_ret ?_
          try simp only [Then, InBlock, NoGoto]
          refine answer_tmp rfl (.inr rfl) ?_
          exact gcr (hA := by simp only [putA_get]; simp [vestL, hkn, F]; first | exact Wk.refl _ | exact Wk.nil _ _ _)
       try exact nope g3_8
       all_goals have g3_8p := g3_8
       all_goals try simp [F] at g3_8p
       all_goals
        replace F := And.intro g3_8 F
        try replace F := And.intro g3_8p F
        refine go2 (k := ?_)
        refine go2 (k := ?_)
        refine go2 (k := ?_)
        refine go2 (k := ?_)
        refine gs 36 (fun g3_12 => ?_) (fun g3_12 => ?_)
        · try exact nope g3_12
          all_goals have g3_12p := g3_12
          all_goals try simp [F] at g3_12p
          all_goals
           replace F := And.intro g3_12 F
           try replace F := And.intro g3_12p F
           refine go2 (k := ?_)
           refine go2 (k := ?_)
           refine go2 (k := ?_)
           refine go2 (k := ?_)
           refine go2 (k := ?_)
           refine hJ11 _ _ ?_
           refine hK10 _ _ ?_
           refine cs (fun c23 => ?_) (fun c23 => ?_)
           · try exact nope c23
             all_goals have c23p := c23
             all_goals try simp [F] at c23p
             all_goals
              replace F := And.intro c23 F
              try replace F := And.intro c23p F
              have n1 : t ≤ ps := by have h := c23; simp at h; omega
              replace F := And.intro n1 F
              refine sq fun K14 hK14 => ?_
              refine rg' (h := fun J15 hJ15 => ?_)
              refine hJ15 _ _ ?_
              refine hK14 _ _ ?_
              refine run_ret ?_
              try simp only [Then, InBlock, NoGoto]
              refine answer_tmp rfl (.inr rfl) ?_
              exact gcr (hA := by simp only [putA_get]; simp [vestL, hkn, F]; first | exact Wk.refl _ | exact Wk.nil _ _ _)
           try exact nope c23
           all_goals have c23p := c23
           all_goals try simp [F] at c23p
           all_goals
            replace F := And.intro c23 F
            try replace F := And.intro c23p F
            have n1 : ¬ t ≤ ps := by have h := c23; simp at h; omega
            replace F := And.intro n1 F
            refine sq fun K16 hK16 => ?_
            refine rg' (h := fun J17 hJ17 => ?_)
            refine hJ17 _ _ ?_
            refine hK16 _ _ ?_
            refine cs (fun c43 => ?_) (fun c43 => ?_)
            · try exact nope c43
              all_goals have c43p := c43
              all_goals try simp [F] at c43p
              all_goals
               replace F := And.intro c43 F
               try replace F := And.intro c43p F
               have n2 : pe ≤ t := by have h := c43; simp at h; omega
               replace F := And.intro n2 F
               refine sq fun K18 hK18 => ?_
               refine rg' (h := fun J19 hJ19 => ?_)
               refine ca (c := cclone_ok hc) (k := ?_)
               rintro _ _ ⟨rfl, rfl⟩
               repeat (first | simp [F] | simp (disch := omega) only [wC, if_pos, if_neg])
               refine hJ19 _ _ ?_
               refine hK18 _ _ ?_
               refine run_ret ?_
               try simp only [Then, InBlock, NoGoto]
               refine answer_tmp rfl (.inr rfl) ?_
               exact gcr (hA := by simp only [putA_get]; simp [vestL, hkn, F]; first | exact Wk.refl _ | exact Wk.nil _ _ _)
            try exact nope c43
            all_goals have c43p := c43
            all_goals try simp [F] at c43p
            all_goals
             replace F := And.intro c43 F
             try replace F := And.intro c43p F
             have n2 : ¬ pe ≤ t := by have h := c43; simp at h; omega
             replace F := And.intro n2 F
             refine sq fun K20 hK20 => ?_
             refine rg' (h := fun J21 hJ21 => ?_)
             refine hJ21 _ _ ?_
             refine hK20 _ _ ?_
             refine cs (fun c51 => ?_) (fun c51 => ?_)
             · try exact nope c51
               all_goals have c51p := c51
               all_goals try simp [F] at c51p
               all_goals
                replace F := And.intro c51 F
                try replace F := And.intro c51p F
                refine sq fun K22 hK22 => ?_
                refine rg' (h := fun J23 hJ23 => ?_)
                refine hJ23 _ _ ?_
                refine hK22 _ _ ?_
                refine run_ret ?_
                try simp only [Then, InBlock, NoGoto]
                refine answer_tmp rfl (.inr rfl) ?_
                exact gcr (hA := by simp only [putA_get]; simp [vestL, hkn, F]; first | exact Wk.refl _ | exact Wk.nil _ _ _)
             try exact nope c51
             all_goals have c51p := c51
             all_goals try simp [F] at c51p
             all_goals
              replace F := And.intro c51 F
              try replace F := And.intro c51p F
              refine run_skip ?_
              refine hK3 _ _ ?_
              refine sq fun K24 hK24 => ?_
              refine rg' (h := fun J25 hJ25 => ?_)
              refine hJ25 _ _ ?_
              refine hK24 _ _ ?_
              refine sq fun K26 hK26 => ?_
              refine sq fun K27 hK27 => ?_
              refine rg' (h := fun J28 hJ28 => ?_)
              refine hJ28 _ _ ?_
              refine hK27 _ _ ?_
              refine run_block_k ?_
              refine run_loopG (X := Nat) [1, 2, 4, 56, 57] (fun i ρ σ1 => (i ≤ pt.length) ∧ (ρ 5 = grA σ.toks.length 5 (posB i) (coinsC (partL ps pe t (pt.take i))) (partL ps pe t (pt.take i)).length) ∧ (ρ 58 = .v (.int .i64 i)) ∧ (σ1 = { σ with objs := σ.objs ++ [[.v (.int .u8 pk.toNat), .v (.int .u64 ps), .v (.int .u64 pe), .sl 5 (coinsC pt) pt.length .shut, .sl 2 (persC pp) pp.length .shut]], toks := σ.toks ++ grT (posB i) (partL ps pe t (pt.take i)).length })) (fun i => pt.length - i) (0) ?st1 ?rd1
              case st1 =>
               refine ⟨lp, lp, lp, ?_⟩
               · simp [F]
              case rd1 =>
               rintro i ρ1 σ1 hF1 ⟨hi, h8, h12, hσ⟩
               obtain rfl := hσ.symm
               have f1 := keepL hF1
               try simp [KeepL, F] at f1
               replace F := And.intro h8 F
               replace F := And.intro h12 F
               try replace F := And.intro f1 F
               refine sq fun K29 hK29 => ?_
               refine rg' (h := fun J30 hJ30 => ?_)
               refine hJ30 _ _ ?_
               refine hK29 _ _ ?_
               refine sq fun K31 hK31 => ?_
               refine cs (fun c59 => ?_) (fun c59 => ?_)
               · try exact nope c59
                 all_goals have c59p := c59
                 all_goals try simp [F] at c59p
                 all_goals
                  replace F := And.intro c59 F
                  try replace F := And.intro c59p F
                  refine run_skip ?_
                  refine hK31 _ _ ?_
                  refine sq fun K32 hK32 => ?_
                  refine run_block_k ?_
                  refine sq fun K33 hK33 => ?_
                  have hlt : i < pt.length := by simp at c59; omega
                  have hat := coinsC_at hlt
                  have hb1 : i * 5 + 5 ≤ pt.length * 5 := by omega
                  obtain ⟨x, hx⟩ : ∃ x, x = pt[i] := ⟨_, rfl⟩
                  rw [← hx] at hat
                  simp only [coinC] at hat
                  have hse : ps < t := by have h := c23; simp at h; omega
                  have hte : t < pe := by have h := c43; simp at h; omega
                  have hw1 : IntKind.u64.wrap ((t : Int) - ps) = ((t - ps : Nat) : Int) := by rw [wrap_u64c (by omega)]; omega
                  have hw2 : IntKind.u64.wrap ((pe : Int) - ps) = ((pe - ps : Nat) : Int) := by rw [wrap_u64c (by omega)]; omega
                  have hpn : partN x ps pe t < 2 ^ 256 := partN_lt (by omega)
                  have hmd : mdN x.n.v (t - ps) (pe - ps) false = (Num.of (partN x ps pe t)).v := by rw [Num.of_v hpn, mdN, if_neg (by omega), show mdQ x.n.v (t - ps) (pe - ps) false = partN x ps pe t by simp [mdQ, partN], if_pos hpn]
                  obtain ⟨n, hn⟩ : ∃ n, n = Num.of (partN x ps pe t) := ⟨_, rfl⟩
                  rw [← hn] at hmd
                  obtain ⟨L, hL⟩ : ∃ L, L = partL ps pe t (pt.take i) := ⟨_, rfl⟩
                  obtain ⟨M, hM⟩ : ∃ M, M = oneL x.d n := ⟨_, rfl⟩
                  have hnx : partL ps pe t (pt.take (i + 1)) = L ++ M := by rw [hL, hM, hn, ← partL_snoc, hx, List.take_append_getElem hlt]
                  have hLl : L.length ≤ i := by rw [hL]; exact Nat.le_trans (partL_len _ _ _ _) (by simp; omega)
                  have hMl : M.length ≤ 1 := by rw [hM]; unfold oneL; split <;> simp
                  rw [← hL] at h8 F
                  rw [← hL]
                  have hb0 : posB i = false → coinsC L = [] ∧ L.length = 0 := fun h => by have h0 := posB_no h; subst h0; rw [hL]; simp [partL]
                  have happ : ∀ objs, appendA Try.prog 23 (grA σ.toks.length 5 (posB i) (coinsC L) L.length) (.sl 5 (coinsC M) M.length .shut) ⟨objs, σ.toks ++ grT (posB i) L.length, σ.gl, σ.rows⟩ = some (grA σ.toks.length 5 true (coinsC L ++ coinsC M) (L.length + M.length), ⟨objs, σ.toks ++ grT true (L.length + M.length), σ.gl, σ.rows⟩) := fun objs => append_gr elemT_23 ti_86 (by decide) rfl hb0 (.inl rfl) (by simp [roomA]; omega) (by simp [maxLen]; omega)
                  replace F := And.intro hlt F
                  replace F := And.intro hat F
                  replace F := And.intro hb1 F
                  replace F := And.intro hw1 F
                  replace F := And.intro hw2 F
                  replace F := And.intro happ F
                  refine rg' (h := fun J34 hJ34 => ?_)
                  refine hJ34 _ _ ?_
                  refine hK33 _ _ ?_
                  refine sq fun K35 hK35 => ?_
                  refine run_draw (by kernel_rfl) fun J36 hJ36 => ?_
                  refine rp2 0 (k := ?_)
                  refine rp2 1 (k := ?_)
                  refine rp2 2 (k := ?_)
                  refine rp2 3 (k := ?_)
                  refine rp2 4 (k := ?_)
                  refine rp2 5 (k := ?_)
                  refine rp2 7 (k := ?_)
                  refine rp2 8 (k := ?_)
                  refine rp2 9 (k := ?_)
                  refine rp2 10 (k := ?_)
                  refine rp2 11 (k := ?_)
                  refine d2 6 17 ?_ ?_
                  · refine ac 6 rfl (c := nOf_ok (n := t - ps) (by omega)) (k := ?_)
                    rintro _ _ ⟨rfl, rfl⟩
                    refine ⟨by first | exact fun _ _ h => h | (refine later_list [11, 10, 9, 8, 7, 4, 3, 2, 1, 0] (by kernel_rfl) (List.forall_mem_cons.2 ⟨fun _ => fact2 rfl rfl ?_, List.forall_mem_cons.2 ⟨fun _ => fact2 rfl rfl ?_, List.forall_mem_cons.2 ⟨fun _ => fact2 rfl rfl ?_, List.forall_mem_cons.2 ⟨fun _ => fact2 rfl rfl ?_, List.forall_mem_cons.2 ⟨fun _ => fact2 rfl rfl ?_, List.forall_mem_cons.2 ⟨fun _ => fact2 rfl rfl ?_, List.forall_mem_cons.2 ⟨fun _ => fact2 rfl rfl ?_, List.forall_mem_cons.2 ⟨fun _ => fact2 rfl rfl ?_, List.forall_mem_cons.2 ⟨fun _ => fact2 rfl rfl ?_, List.forall_mem_cons.2 ⟨fun _ => fact2 rfl rfl ?_, fun _ h => absurd h List.not_mem_nil⟩⟩⟩⟩⟩⟩⟩⟩⟩⟩) <;> constructor <;> first | rfl | (simp [F]; done)), ?_⟩
                    repeat (first | simp [F] | simp (disch := omega) only [wC, if_pos, if_neg])
                    refine d2 12 17 ?_ ?_
                    · refine ac 12 rfl (c := nOf_ok (n := pe - ps) (by omega)) (k := ?_)
                      rintro _ _ ⟨rfl, rfl⟩
                      refine ⟨by first | exact fun _ _ h => h | (refine later_list [10, 9, 8, 7, 4, 3, 2, 1, 0] (by kernel_rfl) (List.forall_mem_cons.2 ⟨fun _ => fact2 rfl rfl ?_, List.forall_mem_cons.2 ⟨fun _ => fact2 rfl rfl ?_, List.forall_mem_cons.2 ⟨fun _ => fact2 rfl rfl ?_, List.forall_mem_cons.2 ⟨fun _ => fact2 rfl rfl ?_, List.forall_mem_cons.2 ⟨fun _ => fact2 rfl rfl ?_, List.forall_mem_cons.2 ⟨fun _ => fact2 rfl rfl ?_, List.forall_mem_cons.2 ⟨fun _ => fact2 rfl rfl ?_, List.forall_mem_cons.2 ⟨fun _ => fact2 rfl rfl ?_, List.forall_mem_cons.2 ⟨fun _ => fact2 rfl rfl ?_, fun _ h => absurd h List.not_mem_nil⟩⟩⟩⟩⟩⟩⟩⟩⟩) <;> constructor <;> first | rfl | (simp [F]; done)), ?_⟩
                      repeat (first | simp [F] | simp (disch := omega) only [wC, if_pos, if_neg])
                      refine d2 13 17 ?_ ?_
                      · refine ac 13 rfl (c := (hmd ▸ muldiv_ok x.n.h (by omega) (by omega))) (k := ?_)
                        rintro _ _ ⟨rfl, rfl⟩
                        refine ⟨by first | exact fun _ _ h => h | (refine later_list [10, 9, 8, 7, 4, 3, 2, 0] (by kernel_rfl) (List.forall_mem_cons.2 ⟨fun _ => fact2 rfl rfl ?_, List.forall_mem_cons.2 ⟨fun _ => fact2 rfl rfl ?_, List.forall_mem_cons.2 ⟨fun _ => fact2 rfl rfl ?_, List.forall_mem_cons.2 ⟨fun _ => fact2 rfl rfl ?_, List.forall_mem_cons.2 ⟨fun _ => fact2 rfl rfl ?_, List.forall_mem_cons.2 ⟨fun _ => fact2 rfl rfl ?_, List.forall_mem_cons.2 ⟨fun _ => fact2 rfl rfl ?_, List.forall_mem_cons.2 ⟨fun _ => fact2 rfl rfl ?_, fun _ h => absurd h List.not_mem_nil⟩⟩⟩⟩⟩⟩⟩⟩) <;> constructor <;> first | rfl | (simp [F]; done)), ?_⟩
                        repeat (first | simp [F] | simp (disch := omega) only [wC, if_pos, if_neg])
                        refine rp2 14 (k := ?_)
                        refine rp2 15 (k := ?_)
                        refine rp2 16 (k := ?_)
                        refine dop 17 rfl ?_
                        repeat (first | simp [F] | simp (disch := omega) only [wC, if_pos, if_neg])
                        refine ⟨by first | exact later_more _ (by kernel_rfl) | exact later_more2 (by kernel_rfl) rfl, ?_⟩
                        refine dop 18 rfl ?_
                        repeat (first | simp [F] | simp (disch := omega) only [wC, if_pos, if_neg])
                        refine ⟨later_tmp (by kernel_rfl), ?_⟩
                        refine rp2 19 (k := ?_)
                        refine dd ?_
                        refine hJ36 _ _ ?_
                        refine hK35 _ _ ?_
                        refine rg' (h := fun J37 hJ37 => ?_)
                        refine ca (c := (hM ▸ one_ok (d := x.d) (n := n))) (k := ?_)
                        rintro _ _ ⟨rfl, rfl⟩
                        repeat (first | simp [F] | simp (disch := omega) only [wC, if_pos, if_neg])
                        refine hJ37 _ _ ?_
                        refine hK32 _ _ ?_
                        refine rg' (h := fun J38 hJ38 => ?_)
                        refine hJ38 _ _ ?_
                        refine ⟨gk, (i + 1), ⟨kpG, lpG, ?_, lpG, ?_⟩, lpG⟩
                        · rw [hnx, ← coinsC_append]
                          simp [F, AV.gcO, noObjL_append]
                        · rw [hnx]
                          simp [F, St.trimO]
                      · refine ao 17 rfl ?_
                        repeat (first | simp [F] | simp (disch := omega) only [wC, if_pos, if_neg])
                        refine ⟨by first | exact later_more _ (by kernel_rfl) | exact later_more2 (by kernel_rfl) rfl, ?_⟩
                        refine dc 13 rfl (c := (hmd ▸ muldiv_ok x.n.h (by omega) (by omega))) (k := ?_)
                        rintro _ _ ⟨rfl, rfl⟩
                        refine ⟨by first | exact fun _ _ h => h | (refine later_list [10, 9, 8, 7, 4, 3, 2, 0] (by kernel_rfl) (List.forall_mem_cons.2 ⟨fun _ => fact2 rfl rfl ?_, List.forall_mem_cons.2 ⟨fun _ => fact2 rfl rfl ?_, List.forall_mem_cons.2 ⟨fun _ => fact2 rfl rfl ?_, List.forall_mem_cons.2 ⟨fun _ => fact2 rfl rfl ?_, List.forall_mem_cons.2 ⟨fun _ => fact2 rfl rfl ?_, List.forall_mem_cons.2 ⟨fun _ => fact2 rfl rfl ?_, List.forall_mem_cons.2 ⟨fun _ => fact2 rfl rfl ?_, List.forall_mem_cons.2 ⟨fun _ => fact2 rfl rfl ?_, fun _ h => absurd h List.not_mem_nil⟩⟩⟩⟩⟩⟩⟩⟩) <;> constructor <;> first | rfl | (simp [F]; done)), ?_⟩
                        repeat (first | simp [F] | simp (disch := omega) only [wC, if_pos, if_neg])
                        refine rp2 14 (k := ?_)
                        refine rp2 15 (k := ?_)
                        refine rp2 16 (k := ?_)
                        refine dop 18 rfl ?_
                        repeat (first | simp [F] | simp (disch := omega) only [wC, if_pos, if_neg])
                        refine ⟨later_tmp (by kernel_rfl), ?_⟩
                        refine rp2 19 (k := ?_)
                        refine dd ?_
                        refine hJ36 _ _ ?_
                        refine hK35 _ _ ?_
                        refine rg' (h := fun J39 hJ39 => ?_)
                        refine ca (c := (hM ▸ one_ok (d := x.d) (n := n))) (k := ?_)
                        rintro _ _ ⟨rfl, rfl⟩
                        repeat (first | simp [F] | simp (disch := omega) only [wC, if_pos, if_neg])
                        refine hJ39 _ _ ?_
                        refine hK32 _ _ ?_
                        refine rg' (h := fun J40 hJ40 => ?_)
                        refine hJ40 _ _ ?_
                        refine ⟨gk, (i + 1), ⟨kpG, lpG, ?_, lpG, ?_⟩, lpG⟩
                        · rw [hnx, ← coinsC_append]
                          simp [F, AV.gcO, noObjL_append]
                        · rw [hnx]
                          simp [F, St.trimO]
                    · refine ao 17 rfl ?_
                      repeat (first | simp [F] | simp (disch := omega) only [wC, if_pos, if_neg])
                      refine ⟨by first | exact later_more _ (by kernel_rfl) | exact later_more2 (by kernel_rfl) rfl, ?_⟩
                      refine dc 12 rfl (c := nOf_ok (n := pe - ps) (by omega)) (k := ?_)
                      rintro _ _ ⟨rfl, rfl⟩
                      refine ⟨by first | exact fun _ _ h => h | (refine later_list [10, 9, 8, 7, 4, 3, 2, 1, 0] (by kernel_rfl) (List.forall_mem_cons.2 ⟨fun _ => fact2 rfl rfl ?_, List.forall_mem_cons.2 ⟨fun _ => fact2 rfl rfl ?_, List.forall_mem_cons.2 ⟨fun _ => fact2 rfl rfl ?_, List.forall_mem_cons.2 ⟨fun _ => fact2 rfl rfl ?_, List.forall_mem_cons.2 ⟨fun _ => fact2 rfl rfl ?_, List.forall_mem_cons.2 ⟨fun _ => fact2 rfl rfl ?_, List.forall_mem_cons.2 ⟨fun _ => fact2 rfl rfl ?_, List.forall_mem_cons.2 ⟨fun _ => fact2 rfl rfl ?_, List.forall_mem_cons.2 ⟨fun _ => fact2 rfl rfl ?_, fun _ h => absurd h List.not_mem_nil⟩⟩⟩⟩⟩⟩⟩⟩⟩) <;> constructor <;> first | rfl | (simp [F]; done)), ?_⟩
                      repeat (first | simp [F] | simp (disch := omega) only [wC, if_pos, if_neg])
                      refine dc 13 rfl (c := (hmd ▸ muldiv_ok x.n.h (by omega) (by omega))) (k := ?_)
                      rintro _ _ ⟨rfl, rfl⟩
                      refine ⟨by first | exact fun _ _ h => h | (refine later_list [10, 9, 8, 7, 4, 3, 2, 0] (by kernel_rfl) (List.forall_mem_cons.2 ⟨fun _ => fact2 rfl rfl ?_, List.forall_mem_cons.2 ⟨fun _ => fact2 rfl rfl ?_, List.forall_mem_cons.2 ⟨fun _ => fact2 rfl rfl ?_, List.forall_mem_cons.2 ⟨fun _ => fact2 rfl rfl ?_, List.forall_mem_cons.2 ⟨fun _ => fact2 rfl rfl ?_, List.forall_mem_cons.2 ⟨fun _ => fact2 rfl rfl ?_, List.forall_mem_cons.2 ⟨fun _ => fact2 rfl rfl ?_, List.forall_mem_cons.2 ⟨fun _ => fact2 rfl rfl ?_, fun _ h => absurd h List.not_mem_nil⟩⟩⟩⟩⟩⟩⟩⟩) <;> constructor <;> first | rfl | (simp [F]; done)), ?_⟩
                      repeat (first | simp [F] | simp (disch := omega) only [wC, if_pos, if_neg])
                      refine rp2 14 (k := ?_)
                      refine rp2 15 (k := ?_)
                      refine rp2 16 (k := ?_)
                      refine dop 18 rfl ?_
                      repeat (first | simp [F] | simp (disch := omega) only [wC, if_pos, if_neg])
                      refine ⟨later_tmp (by kernel_rfl), ?_⟩
                      refine rp2 19 (k := ?_)
                      refine dd ?_
                      refine hJ36 _ _ ?_
                      refine hK35 _ _ ?_
                      refine rg' (h := fun J41 hJ41 => ?_)
                      refine ca (c := (hM ▸ one_ok (d := x.d) (n := n))) (k := ?_)
                      rintro _ _ ⟨rfl, rfl⟩
                      repeat (first | simp [F] | simp (disch := omega) only [wC, if_pos, if_neg])
                      refine hJ41 _ _ ?_
                      refine hK32 _ _ ?_
                      refine rg' (h := fun J42 hJ42 => ?_)
                      refine hJ42 _ _ ?_
                      refine ⟨gk, (i + 1), ⟨kpG, lpG, ?_, lpG, ?_⟩, lpG⟩
                      · rw [hnx, ← coinsC_append]
                        simp [F, AV.gcO, noObjL_append]
                      · rw [hnx]
                        simp [F, St.trimO]
                  · refine ao 17 rfl ?_
                    repeat (first | simp [F] | simp (disch := omega) only [wC, if_pos, if_neg])
                    refine ⟨by first | exact later_more _ (by kernel_rfl) | exact later_more2 (by kernel_rfl) rfl, ?_⟩
                    refine dc 6 rfl (c := nOf_ok (n := t - ps) (by omega)) (k := ?_)
                    rintro _ _ ⟨rfl, rfl⟩
                    refine ⟨by first | exact fun _ _ h => h | (refine later_list [11, 10, 9, 8, 7, 4, 3, 2, 1, 0] (by kernel_rfl) (List.forall_mem_cons.2 ⟨fun _ => fact2 rfl rfl ?_, List.forall_mem_cons.2 ⟨fun _ => fact2 rfl rfl ?_, List.forall_mem_cons.2 ⟨fun _ => fact2 rfl rfl ?_, List.forall_mem_cons.2 ⟨fun _ => fact2 rfl rfl ?_, List.forall_mem_cons.2 ⟨fun _ => fact2 rfl rfl ?_, List.forall_mem_cons.2 ⟨fun _ => fact2 rfl rfl ?_, List.forall_mem_cons.2 ⟨fun _ => fact2 rfl rfl ?_, List.forall_mem_cons.2 ⟨fun _ => fact2 rfl rfl ?_, List.forall_mem_cons.2 ⟨fun _ => fact2 rfl rfl ?_, List.forall_mem_cons.2 ⟨fun _ => fact2 rfl rfl ?_, fun _ h => absurd h List.not_mem_nil⟩⟩⟩⟩⟩⟩⟩⟩⟩⟩) <;> constructor <;> first | rfl | (simp [F]; done)), ?_⟩
                    repeat (first | simp [F] | simp (disch := omega) only [wC, if_pos, if_neg])
                    refine dc 12 rfl (c := nOf_ok (n := pe - ps) (by omega)) (k := ?_)
                    rintro _ _ ⟨rfl, rfl⟩
                    refine ⟨by first | exact fun _ _ h => h | (refine later_list [10, 9, 8, 7, 4, 3, 2, 1, 0] (by kernel_rfl) (List.forall_mem_cons.2 ⟨fun _ => fact2 rfl rfl ?_, List.forall_mem_cons.2 ⟨fun _ => fact2 rfl rfl ?_, List.forall_mem_cons.2 ⟨fun _ => fact2 rfl rfl ?_, List.forall_mem_cons.2 ⟨fun _ => fact2 rfl rfl ?_, List.forall_mem_cons.2 ⟨fun _ => fact2 rfl rfl ?_, List.forall_mem_cons.2 ⟨fun _ => fact2 rfl rfl ?_, List.forall_mem_cons.2 ⟨fun _ => fact2 rfl rfl ?_, List.forall_mem_cons.2 ⟨fun _ => fact2 rfl rfl ?_, List.forall_mem_cons.2 ⟨fun _ => fact2 rfl rfl ?_, fun _ h => absurd h List.not_mem_nil⟩⟩⟩⟩⟩⟩⟩⟩⟩) <;> constructor <;> first | rfl | (simp [F]; done)), ?_⟩
                    repeat (first | simp [F] | simp (disch := omega) only [wC, if_pos, if_neg])
                    refine dc 13 rfl (c := (hmd ▸ muldiv_ok x.n.h (by omega) (by omega))) (k := ?_)
                    rintro _ _ ⟨rfl, rfl⟩
                    refine ⟨by first | exact fun _ _ h => h | (refine later_list [10, 9, 8, 7, 4, 3, 2, 0] (by kernel_rfl) (List.forall_mem_cons.2 ⟨fun _ => fact2 rfl rfl ?_, List.forall_mem_cons.2 ⟨fun _ => fact2 rfl rfl ?_, List.forall_mem_cons.2 ⟨fun _ => fact2 rfl rfl ?_, List.forall_mem_cons.2 ⟨fun _ => fact2 rfl rfl ?_, List.forall_mem_cons.2 ⟨fun _ => fact2 rfl rfl ?_, List.forall_mem_cons.2 ⟨fun _ => fact2 rfl rfl ?_, List.forall_mem_cons.2 ⟨fun _ => fact2 rfl rfl ?_, List.forall_mem_cons.2 ⟨fun _ => fact2 rfl rfl ?_, fun _ h => absurd h List.not_mem_nil⟩⟩⟩⟩⟩⟩⟩⟩) <;> constructor <;> first | rfl | (simp [F]; done)), ?_⟩
                    repeat (first | simp [F] | simp (disch := omega) only [wC, if_pos, if_neg])
                    refine rp2 14 (k := ?_)
                    refine rp2 15 (k := ?_)
                    refine rp2 16 (k := ?_)
                    refine dop 18 rfl ?_
                    repeat (first | simp [F] | simp (disch := omega) only [wC, if_pos, if_neg])
                    refine ⟨later_tmp (by kernel_rfl), ?_⟩
                    refine rp2 19 (k := ?_)
                    refine dd ?_
                    refine hJ36 _ _ ?_
                    refine hK35 _ _ ?_
                    refine rg' (h := fun J43 hJ43 => ?_)
                    refine ca (c := (hM ▸ one_ok (d := x.d) (n := n))) (k := ?_)
                    rintro _ _ ⟨rfl, rfl⟩
                    repeat (first | simp [F] | simp (disch := omega) only [wC, if_pos, if_neg])
                    refine hJ43 _ _ ?_
                    refine hK32 _ _ ?_
                    refine rg' (h := fun J44 hJ44 => ?_)
                    refine hJ44 _ _ ?_
                    refine ⟨gk, (i + 1), ⟨kpG, lpG, ?_, lpG, ?_⟩, lpG⟩
                    · rw [hnx, ← coinsC_append]
                      simp [F, AV.gcO, noObjL_append]
                    · rw [hnx]
                      simp [F, St.trimO]
               try exact nope c59
               all_goals have c59p := c59
               all_goals try simp [F] at c59p
               all_goals
                replace F := And.intro c59 F
                try replace F := And.intro c59p F
                have hii : i = pt.length := by have h := c59; simp at h; omega
                have hv : vestL ⟨pk, ps, pe, pt, pp⟩ t = partL ps pe t (pt.take i) := by rw [hii, List.take_length, vestL]; simp [hkn, F]
                replace F := And.intro hv F
                refine run_exit ?_
                refine hK26 _ _ ?_
                refine sq fun K45 hK45 => ?_
                refine rg' (h := fun J46 hJ46 => ?_)
                refine hJ46 _ _ ?_
                refine hK45 _ _ ?_
                refine run_ret ?_
                try simp only [Then, InBlock, NoGoto]
                refine answer_tmp rfl (.inr rfl) ?_
                rw [hv]
                exact gcr (hA := by simp only [putA_get]; simp [F]; exact wk_grA (fun h => by have h0 := posB_no h; subst h0; simp [partL]))
        try exact nope g3_12
        all_goals have g3_12p := g3_12
        all_goals try simp [F] at g3_12p
        all_goals
         replace F := And.intro g3_12 F
         try replace F := And.intro g3_12p F
         refine no2 (k := ?_)
         refine no2 (k := ?_)
         refine no2 (k := ?_)
         refine no2 (k := ?_)
         refine go2 (k := ?_)
         refine hJ11 _ _ ?_
         refine hK10 _ _ ?_
         refine cf ?_
         refine sq fun K47 hK47 => ?_
         refine rg' (h := fun J48 hJ48 => ?_)
         refine hJ48 _ _ ?_
         refine hK47 _ _ ?_
         refine cs (fun c43 => ?_) (fun c43 => ?_)
         · try exact nope c43
           all_goals have c43p := c43
           all_goals try simp [F] at c43p
           all_goals
            replace F := And.intro c43 F
            try replace F := And.intro c43p F
            have n2 : pe ≤ t := by have h := c43; simp at h; omega
            replace F := And.intro n2 F
            refine sq fun K49 hK49 => ?_
            refine rg' (h := fun J50 hJ50 => ?_)
            refine ca (c := cclone_ok hc) (k := ?_)
            rintro _ _ ⟨rfl, rfl⟩
            repeat (first | simp [F] | simp (disch := omega) only [wC, if_pos, if_neg])
            refine hJ50 _ _ ?_
            refine hK49 _ _ ?_
            refine run_ret ?_
            try simp only [Then, InBlock, NoGoto]
            refine answer_tmp rfl (.inr rfl) ?_
            exact gcr (hA := by simp only [putA_get]; simp [vestL, hkn, F]; first | exact Wk.refl _ | exact Wk.nil _ _ _)
         try exact nope c43
         all_goals have c43p := c43
         all_goals try simp [F] at c43p
         all_goals
          replace F := And.intro c43 F
          try replace F := And.intro c43p F
          have n2 : ¬ pe ≤ t := by have h := c43; simp at h; omega
          replace F := And.intro n2 F
          refine sq fun K51 hK51 => ?_
          refine rg' (h := fun J52 hJ52 => ?_)
          refine hJ52 _ _ ?_
          refine hK51 _ _ ?_
          refine cs (fun c51 => ?_) (fun c51 => ?_)
          · try exact nope c51
            all_goals have c51p := c51
            all_goals try simp [F] at c51p
            all_goals
             replace F := And.intro c51 F
             try replace F := And.intro c51p F
             refine sq fun K53 hK53 => ?_
             refine rg' (h := fun J54 hJ54 => ?_)
             refine hJ54 _ _ ?_
             refine hK53 _ _ ?_
             refine run_ret ?_
             try simp only [Then, InBlock, NoGoto]
             refine answer_tmp rfl (.inr rfl) ?_
             exact gcr (hA := by simp only [putA_get]; simp [vestL, hkn, F]; first | exact Wk.refl _ | exact Wk.nil _ _ _)
          try exact nope c51
          all_goals have c51p := c51
          all_goals try simp [F] at c51p
          all_goals
           replace F := And.intro c51 F
           try replace F := And.intro c51p F
           refine run_skip ?_
           refine hK3 _ _ ?_
           refine sq fun K55 hK55 => ?_
           refine rg' (h := fun J56 hJ56 => ?_)
           refine hJ56 _ _ ?_
           refine hK55 _ _ ?_
           refine sq fun K57 hK57 => ?_
           refine sq fun K58 hK58 => ?_
           refine rg' (h := fun J59 hJ59 => ?_)
           refine hJ59 _ _ ?_
           refine hK58 _ _ ?_
           refine run_block_k ?_
           refine run_loopG (X := Nat) [1, 2, 4, 56, 57] (fun i ρ σ1 => (i ≤ pt.length) ∧ (ρ 5 = grA σ.toks.length 5 (posB i) (coinsC (partL ps pe t (pt.take i))) (partL ps pe t (pt.take i)).length) ∧ (ρ 58 = .v (.int .i64 i)) ∧ (σ1 = { σ with objs := σ.objs ++ [[.v (.int .u8 pk.toNat), .v (.int .u64 ps), .v (.int .u64 pe), .sl 5 (coinsC pt) pt.length .shut, .sl 2 (persC pp) pp.length .shut]], toks := σ.toks ++ grT (posB i) (partL ps pe t (pt.take i)).length })) (fun i => pt.length - i) (0) ?st1 ?rd1
           case st1 =>
            refine ⟨lp, lp, lp, ?_⟩
            · simp [F]
           case rd1 =>
            rintro i ρ1 σ1 hF1 ⟨hi, h8, h12, hσ⟩
            obtain rfl := hσ.symm
            have f1 := keepL hF1
            try simp [KeepL, F] at f1
            replace F := And.intro h8 F
            replace F := And.intro h12 F
            try replace F := And.intro f1 F
            refine sq fun K60 hK60 => ?_
            refine rg' (h := fun J61 hJ61 => ?_)
            refine hJ61 _ _ ?_
            refine hK60 _ _ ?_
            refine sq fun K62 hK62 => ?_
            refine cs (fun c59 => ?_) (fun c59 => ?_)
            · try exact nope c59
              all_goals have c59p := c59
              all_goals try simp [F] at c59p
              all_goals
               replace F := And.intro c59 F
               try replace F := And.intro c59p F
               refine run_skip ?_
               refine hK62 _ _ ?_
               refine sq fun K63 hK63 => ?_
               refine run_block_k ?_
               refine sq fun K64 hK64 => ?_
               have hlt : i < pt.length := by simp at c59; omega
               have hat := coinsC_at hlt
               have hb1 : i * 5 + 5 ≤ pt.length * 5 := by omega
               obtain ⟨x, hx⟩ : ∃ x, x = pt[i] := ⟨_, rfl⟩
               rw [← hx] at hat
               simp only [coinC] at hat
               have hse : ps < t := by have h := c23; simp at h; omega
               have hte : t < pe := by have h := c43; simp at h; omega
               have hw1 : IntKind.u64.wrap ((t : Int) - ps) = ((t - ps : Nat) : Int) := by rw [wrap_u64c (by omega)]; omega
               have hw2 : IntKind.u64.wrap ((pe : Int) - ps) = ((pe - ps : Nat) : Int) := by rw [wrap_u64c (by omega)]; omega
               have hpn : partN x ps pe t < 2 ^ 256 := partN_lt (by omega)
               have hmd : mdN x.n.v (t - ps) (pe - ps) false = (Num.of (partN x ps pe t)).v := by rw [Num.of_v hpn, mdN, if_neg (by omega), show mdQ x.n.v (t - ps) (pe - ps) false = partN x ps pe t by simp [mdQ, partN], if_pos hpn]
               obtain ⟨n, hn⟩ : ∃ n, n = Num.of (partN x ps pe t) := ⟨_, rfl⟩
               rw [← hn] at hmd
               obtain ⟨L, hL⟩ : ∃ L, L = partL ps pe t (pt.take i) := ⟨_, rfl⟩
               obtain ⟨M, hM⟩ : ∃ M, M = oneL x.d n := ⟨_, rfl⟩
               have hnx : partL ps pe t (pt.take (i + 1)) = L ++ M := by rw [hL, hM, hn, ← partL_snoc, hx, List.take_append_getElem hlt]
               have hLl : L.length ≤ i := by rw [hL]; exact Nat.le_trans (partL_len _ _ _ _) (by simp; omega)
               have hMl : M.length ≤ 1 := by rw [hM]; unfold oneL; split <;> simp
               rw [← hL] at h8 F
               rw [← hL]
               have hb0 : posB i = false → coinsC L = [] ∧ L.length = 0 := fun h => by have h0 := posB_no h; subst h0; rw [hL]; simp [partL]
               have happ : ∀ objs, appendA Try.prog 23 (grA σ.toks.length 5 (posB i) (coinsC L) L.length) (.sl 5 (coinsC M) M.length .shut) ⟨objs, σ.toks ++ grT (posB i) L.length, σ.gl, σ.rows⟩ = some (grA σ.toks.length 5 true (coinsC L ++ coinsC M) (L.length + M.length), ⟨objs, σ.toks ++ grT true (L.length + M.length), σ.gl, σ.rows⟩) := fun objs => append_gr elemT_23 ti_86 (by decide) rfl hb0 (.inl rfl) (by simp [roomA]; omega) (by simp [maxLen]; omega)
               replace F := And.intro hlt F
               replace F := And.intro hat F
               replace F := And.intro hb1 F
               replace F := And.intro hw1 F
               replace F := And.intro hw2 F
               replace F := And.intro happ F
               refine rg' (h := fun J65 hJ65 => ?_)
               refine hJ65 _ _ ?_
               refine hK64 _ _ ?_
               refine sq fun K66 hK66 => ?_
               refine run_draw (by kernel_rfl) fun J67 hJ67 => ?_
               refine rp2 0 (k := ?_)
               refine rp2 1 (k := ?_)
               refine rp2 2 (k := ?_)
               refine rp2 3 (k := ?_)
               refine rp2 4 (k := ?_)
               refine rp2 5 (k := ?_)
               refine rp2 7 (k := ?_)
               refine rp2 8 (k := ?_)
               refine rp2 9 (k := ?_)
               refine rp2 10 (k := ?_)
               refine rp2 11 (k := ?_)
               refine d2 6 17 ?_ ?_
               · refine ac 6 rfl (c := nOf_ok (n := t - ps) (by omega)) (k := ?_)
                 rintro _ _ ⟨rfl, rfl⟩
                 refine ⟨by first | exact fun _ _ h => h | (refine later_list [11, 10, 9, 8, 7, 4, 3, 2, 1, 0] (by kernel_rfl) (List.forall_mem_cons.2 ⟨fun _ => fact2 rfl rfl ?_, List.forall_mem_cons.2 ⟨fun _ => fact2 rfl rfl ?_, List.forall_mem_cons.2 ⟨fun _ => fact2 rfl rfl ?_, List.forall_mem_cons.2 ⟨fun _ => fact2 rfl rfl ?_, List.forall_mem_cons.2 ⟨fun _ => fact2 rfl rfl ?_, List.forall_mem_cons.2 ⟨fun _ => fact2 rfl rfl ?_, List.forall_mem_cons.2 ⟨fun _ => fact2 rfl rfl ?_, List.forall_mem_cons.2 ⟨fun _ => fact2 rfl rfl ?_, List.forall_mem_cons.2 ⟨fun _ => fact2 rfl rfl ?_, List.forall_mem_cons.2 ⟨fun _ => fact2 rfl rfl ?_, fun _ h => absurd h List.not_mem_nil⟩⟩⟩⟩⟩⟩⟩⟩⟩⟩) <;> constructor <;> first | rfl | (simp [F]; done)), ?_⟩
                 repeat (first | simp [F] | simp (disch := omega) only [wC, if_pos, if_neg])
                 refine d2 12 17 ?_ ?_
                 · refine ac 12 rfl (c := nOf_ok (n := pe - ps) (by omega)) (k := ?_)
                   rintro _ _ ⟨rfl, rfl⟩
                   refine ⟨by first | exact fun _ _ h => h | (refine later_list [10, 9, 8, 7, 4, 3, 2, 1, 0] (by kernel_rfl) (List.forall_mem_cons.2 ⟨fun _ => fact2 rfl rfl ?_, List.forall_mem_cons.2 ⟨fun _ => fact2 rfl rfl ?_, List.forall_mem_cons.2 ⟨fun _ => fact2 rfl rfl ?_, List.forall_mem_cons.2 ⟨fun _ => fact2 rfl rfl ?_, List.forall_mem_cons.2 ⟨fun _ => fact2 rfl rfl ?_, List.forall_mem_cons.2 ⟨fun _ => fact2 rfl rfl ?_, List.forall_mem_cons.2 ⟨fun _ => fact2 rfl rfl ?_, List.forall_mem_cons.2 ⟨fun _ => fact2 rfl rfl ?_, List.forall_mem_cons.2 ⟨fun _ => fact2 rfl rfl ?_, fun _ h => absurd h List.not_mem_nil⟩⟩⟩⟩⟩⟩⟩⟩⟩) <;> constructor <;> first | rfl | (simp [F]; done)), ?_⟩
                   repeat (first | simp [F] | simp (disch := omega) only [wC, if_pos, if_neg])
                   refine d2 13 17 ?_ ?_
                   · refine ac 13 rfl (c := (hmd ▸ muldiv_ok x.n.h (by omega) (by omega))) (k := ?_)
                     rintro _ _ ⟨rfl, rfl⟩
                     refine ⟨by first | exact fun _ _ h => h | (refine later_list [10, 9, 8, 7, 4, 3, 2, 0] (by kernel_rfl) (List.forall_mem_cons.2 ⟨fun _ => fact2 rfl rfl ?_, List.forall_mem_cons.2 ⟨fun _ => fact2 rfl rfl ?_, List.forall_mem_cons.2 ⟨fun _ => fact2 rfl rfl ?_, List.forall_mem_cons.2 ⟨fun _ => fact2 rfl rfl ?_, List.forall_mem_cons.2 ⟨fun _ => fact2 rfl rfl ?_, List.forall_mem_cons.2 ⟨fun _ => fact2 rfl rfl ?_, List.forall_mem_cons.2 ⟨fun _ => fact2 rfl rfl ?_, List.forall_mem_cons.2 ⟨fun _ => fact2 rfl rfl ?_, fun _ h => absurd h List.not_mem_nil⟩⟩⟩⟩⟩⟩⟩⟩) <;> constructor <;> first | rfl | (simp [F]; done)), ?_⟩
                     repeat (first | simp [F] | simp (disch := omega) only [wC, if_pos, if_neg])
                     refine rp2 14 (k := ?_)
                     refine rp2 15 (k := ?_)
                     refine rp2 16 (k := ?_)
                     refine dop 17 rfl ?_
                     repeat (first | simp [F] | simp (disch := omega) only [wC, if_pos, if_neg])
                     refine ⟨by first | exact later_more _ (by kernel_rfl) | exact later_more2 (by kernel_rfl) rfl, ?_⟩
                     refine dop 18 rfl ?_
                     repeat (first | simp [F] | simp (disch := omega) only [wC, if_pos, if_neg])
                     refine ⟨later_tmp (by kernel_rfl), ?_⟩
                     refine rp2 19 (k := ?_)
                     refine dd ?_
                     refine hJ67 _ _ ?_
                     refine hK66 _ _ ?_
                     refine rg' (h := fun J68 hJ68 => ?_)
                     refine ca (c := (hM ▸ one_ok (d := x.d) (n := n))) (k := ?_)
                     rintro _ _ ⟨rfl, rfl⟩
                     repeat (first | simp [F] | simp (disch := omega) only [wC, if_pos, if_neg])
                     refine hJ68 _ _ ?_
                     refine hK63 _ _ ?_
                     refine rg' (h := fun J69 hJ69 => ?_)
                     refine hJ69 _ _ ?_
                     refine ⟨gk, (i + 1), ⟨kpG, lpG, ?_, lpG, ?_⟩, lpG⟩
                     · rw [hnx, ← coinsC_append]
                       simp [F, AV.gcO, noObjL_append]
                     · rw [hnx]
                       simp [F, St.trimO]
                   · refine ao 17 rfl ?_
                     repeat (first | simp [F] | simp (disch := omega) only [wC, if_pos, if_neg])
                     refine ⟨by first | exact later_more _ (by kernel_rfl) | exact later_more2 (by kernel_rfl) rfl, ?_⟩
                     refine dc 13 rfl (c := (hmd ▸ muldiv_ok x.n.h (by omega) (by omega))) (k := ?_)
                     rintro _ _ ⟨rfl, rfl⟩
                     refine ⟨by first | exact fun _ _ h => h | (refine later_list [10, 9, 8, 7, 4, 3, 2, 0] (by kernel_rfl) (List.forall_mem_cons.2 ⟨fun _ => fact2 rfl rfl ?_, List.forall_mem_cons.2 ⟨fun _ => fact2 rfl rfl ?_, List.forall_mem_cons.2 ⟨fun _ => fact2 rfl rfl ?_, List.forall_mem_cons.2 ⟨fun _ => fact2 rfl rfl ?_, List.forall_mem_cons.2 ⟨fun _ => fact2 rfl rfl ?_, List.forall_mem_cons.2 ⟨fun _ => fact2 rfl rfl ?_, List.forall_mem_cons.2 ⟨fun _ => fact2 rfl rfl ?_, List.forall_mem_cons.2 ⟨fun _ => fact2 rfl rfl ?_, fun _ h => absurd h List.not_mem_nil⟩⟩⟩⟩⟩⟩⟩⟩) <;> constructor <;> first | rfl | (simp [F]; done)), ?_⟩
                     repeat (first | simp [F] | simp (disch := omega) only [wC, if_pos, if_neg])
                     refine rp2 14 (k := ?_)
                     refine rp2 15 (k := ?_)
                     refine rp2 16 (k := ?_)
                     refine dop 18 rfl ?_
                     repeat (first | simp [F] | simp (disch := omega) only [wC, if_pos, if_neg])
                     refine ⟨later_tmp (by kernel_rfl), ?_⟩
                     refine rp2 19 (k := ?_)
                     refine dd ?_
                     refine hJ67 _ _ ?_
                     refine hK66 _ _ ?_
                     refine rg' (h := fun J70 hJ70 => ?_)
                     refine ca (c := (hM ▸ one_ok (d := x.d) (n := n))) (k := ?_)
                     rintro _ _ ⟨rfl, rfl⟩
                     repeat (first | simp [F] | simp (disch := omega) only [wC, if_pos, if_neg])
                     refine hJ70 _ _ ?_
                     refine hK63 _ _ ?_
                     refine rg' (h := fun J71 hJ71 => ?_)
                     refine hJ71 _ _ ?_
                     refine ⟨gk, (i + 1), ⟨kpG, lpG, ?_, lpG, ?_⟩, lpG⟩
                     · rw [hnx, ← coinsC_append]
                       simp [F, AV.gcO, noObjL_append]
                     · rw [hnx]
                       simp [F, St.trimO]
                 · refine ao 17 rfl ?_
                   repeat (first | simp [F] | simp (disch := omega) only [wC, if_pos, if_neg])
                   refine ⟨by first | exact later_more _ (by kernel_rfl) | exact later_more2 (by kernel_rfl) rfl, ?_⟩
                   refine dc 12 rfl (c := nOf_ok (n := pe - ps) (by omega)) (k := ?_)
                   rintro _ _ ⟨rfl, rfl⟩
                   refine ⟨by first | exact fun _ _ h => h | (refine later_list [10, 9, 8, 7, 4, 3, 2, 1, 0] (by kernel_rfl) (List.forall_mem_cons.2 ⟨fun _ => fact2 rfl rfl ?_, List.forall_mem_cons.2 ⟨fun _ => fact2 rfl rfl ?_, List.forall_mem_cons.2 ⟨fun _ => fact2 rfl rfl ?_, List.forall_mem_cons.2 ⟨fun _ => fact2 rfl rfl ?_, List.forall_mem_cons.2 ⟨fun _ => fact2 rfl rfl ?_, List.forall_mem_cons.2 ⟨fun _ => fact2 rfl rfl ?_, List.forall_mem_cons.2 ⟨fun _ => fact2 rfl rfl ?_, List.forall_mem_cons.2 ⟨fun _ => fact2 rfl rfl ?_, List.forall_mem_cons.2 ⟨fun _ => fact2 rfl rfl ?_, fun _ h => absurd h List.not_mem_nil⟩⟩⟩⟩⟩⟩⟩⟩⟩) <;> constructor <;> first | rfl | (simp [F]; done)), ?_⟩
                   repeat (first | simp [F] | simp (disch := omega) only [wC, if_pos, if_neg])
                   refine dc 13 rfl (c := (hmd ▸ muldiv_ok x.n.h (by omega) (by omega))) (k := ?_)
                   rintro _ _ ⟨rfl, rfl⟩
                   refine ⟨by first | exact fun _ _ h => h | (refine later_list [10, 9, 8, 7, 4, 3, 2, 0] (by kernel_rfl) (List.forall_mem_cons.2 ⟨fun _ => fact2 rfl rfl ?_, List.forall_mem_cons.2 ⟨fun _ => fact2 rfl rfl ?_, List.forall_mem_cons.2 ⟨fun _ => fact2 rfl rfl ?_, List.forall_mem_cons.2 ⟨fun _ => fact2 rfl rfl ?_, List.forall_mem_cons.2 ⟨fun _ => fact2 rfl rfl ?_, List.forall_mem_cons.2 ⟨fun _ => fact2 rfl rfl ?_, List.forall_mem_cons.2 ⟨fun _ => fact2 rfl rfl ?_, List.forall_mem_cons.2 ⟨fun _ => fact2 rfl rfl ?_, fun _ h => absurd h List.not_mem_nil⟩⟩⟩⟩⟩⟩⟩⟩) <;> constructor <;> first | rfl | (simp [F]; done)), ?_⟩
                   repeat (first | simp [F] | simp (disch := omega) only [wC, if_pos, if_neg])
                   refine rp2 14 (k := ?_)
                   refine rp2 15 (k := ?_)
                   refine rp2 16 (k := ?_)
                   refine dop 18 rfl ?_
                   repeat (first | simp [F] | simp (disch := omega) only [wC, if_pos, if_neg])
                   refine ⟨later_tmp (by kernel_rfl), ?_⟩
                   refine rp2 19 (k := ?_)
                   refine dd ?_
                   refine hJ67 _ _ ?_
                   refine hK66 _ _ ?_
                   refine rg' (h := fun J72 hJ72 => ?_)
                   refine ca (c := (hM ▸ one_ok (d := x.d) (n := n))) (k := ?_)
                   rintro _ _ ⟨rfl, rfl⟩
                   repeat (first | simp [F] | simp (disch := omega) only [wC, if_pos, if_neg])
                   refine hJ72 _ _ ?_
                   refine hK63 _ _ ?_
                   refine rg' (h := fun J73 hJ73 => ?_)
                   refine hJ73 _ _ ?_
                   refine ⟨gk, (i + 1), ⟨kpG, lpG, ?_, lpG, ?_⟩, lpG⟩
                   · rw [hnx, ← coinsC_append]
                     simp [F, AV.gcO, noObjL_append]
                   · rw [hnx]
                     simp [F, St.trimO]
               · refine ao 17 rfl ?_
                 repeat (first | simp [F] | simp (disch := omega) only [wC, if_pos, if_neg])
                 refine ⟨by first | exact later_more _ (by kernel_rfl) | exact later_more2 (by kernel_rfl) rfl, ?_⟩
                 refine dc 6 rfl (c := nOf_ok (n := t - ps) (by omega)) (k := ?_)
                 rintro _ _ ⟨rfl, rfl⟩
                 refine ⟨by first | exact fun _ _ h => h | (refine later_list [11, 10, 9, 8, 7, 4, 3, 2, 1, 0] (by kernel_rfl) (List.forall_mem_cons.2 ⟨fun _ => fact2 rfl rfl ?_, List.forall_mem_cons.2 ⟨fun _ => fact2 rfl rfl ?_, List.forall_mem_cons.2 ⟨fun _ => fact2 rfl rfl ?_, List.forall_mem_cons.2 ⟨fun _ => fact2 rfl rfl ?_, List.forall_mem_cons.2 ⟨fun _ => fact2 rfl rfl ?_, List.forall_mem_cons.2 ⟨fun _ => fact2 rfl rfl ?_, List.forall_mem_cons.2 ⟨fun _ => fact2 rfl rfl ?_, List.forall_mem_cons.2 ⟨fun _ => fact2 rfl rfl ?_, List.forall_mem_cons.2 ⟨fun _ => fact2 rfl rfl ?_, List.forall_mem_cons.2 ⟨fun _ => fact2 rfl rfl ?_, fun _ h => absurd h List.not_mem_nil⟩⟩⟩⟩⟩⟩⟩⟩⟩⟩) <;> constructor <;> first | rfl | (simp [F]; done)), ?_⟩
                 repeat (first | simp [F] | simp (disch := omega) only [wC, if_pos, if_neg])
                 refine dc 12 rfl (c := nOf_ok (n := pe - ps) (by omega)) (k := ?_)
                 rintro _ _ ⟨rfl, rfl⟩
                 refine ⟨by first | exact fun _ _ h => h | (refine later_list [10, 9, 8, 7, 4, 3, 2, 1, 0] (by kernel_rfl) (List.forall_mem_cons.2 ⟨fun _ => fact2 rfl rfl ?_, List.forall_mem_cons.2 ⟨fun _ => fact2 rfl rfl ?_, List.forall_mem_cons.2 ⟨fun _ => fact2 rfl rfl ?_, List.forall_mem_cons.2 ⟨fun _ => fact2 rfl rfl ?_, List.forall_mem_cons.2 ⟨fun _ => fact2 rfl rfl ?_, List.forall_mem_cons.2 ⟨fun _ => fact2 rfl rfl ?_, List.forall_mem_cons.2 ⟨fun _ => fact2 rfl rfl ?_, List.forall_mem_cons.2 ⟨fun _ => fact2 rfl rfl ?_, List.forall_mem_cons.2 ⟨fun _ => fact2 rfl rfl ?_, fun _ h => absurd h List.not_mem_nil⟩⟩⟩⟩⟩⟩⟩⟩⟩) <;> constructor <;> first | rfl | (simp [F]; done)), ?_⟩
                 repeat (first | simp [F] | simp (disch := omega) only [wC, if_pos, if_neg])
                 refine dc 13 rfl (c := (hmd ▸ muldiv_ok x.n.h (by omega) (by omega))) (k := ?_)
                 rintro _ _ ⟨rfl, rfl⟩
                 refine ⟨by first | exact fun _ _ h => h | (refine later_list [10, 9, 8, 7, 4, 3, 2, 0] (by kernel_rfl) (List.forall_mem_cons.2 ⟨fun _ => fact2 rfl rfl ?_, List.forall_mem_cons.2 ⟨fun _ => fact2 rfl rfl ?_, List.forall_mem_cons.2 ⟨fun _ => fact2 rfl rfl ?_, List.forall_mem_cons.2 ⟨fun _ => fact2 rfl rfl ?_, List.forall_mem_cons.2 ⟨fun _ => fact2 rfl rfl ?_, List.forall_mem_cons.2 ⟨fun _ => fact2 rfl rfl ?_, List.forall_mem_cons.2 ⟨fun _ => fact2 rfl rfl ?_, List.forall_mem_cons.2 ⟨fun _ => fact2 rfl rfl ?_, fun _ h => absurd h List.not_mem_nil⟩⟩⟩⟩⟩⟩⟩⟩) <;> constructor <;> first | rfl | (simp [F]; done)), ?_⟩
                 repeat (first | simp [F] | simp (disch := omega) only [wC, if_pos, if_neg])
                 refine rp2 14 (k := ?_)
                 refine rp2 15 (k := ?_)
                 refine rp2 16 (k := ?_)
                 refine dop 18 rfl ?_
                 repeat (first | simp [F] | simp (disch := omega) only [wC, if_pos, if_neg])
                 refine ⟨later_tmp (by kernel_rfl), ?_⟩
                 refine rp2 19 (k := ?_)
                 refine dd ?_
                 refine hJ67 _ _ ?_
                 refine hK66 _ _ ?_
                 refine rg' (h := fun J74 hJ74 => ?_)
                 refine ca (c := (hM ▸ one_ok (d := x.d) (n := n))) (k := ?_)
                 rintro _ _ ⟨rfl, rfl⟩
                 repeat (first | simp [F] | simp (disch := omega) only [wC, if_pos, if_neg])
                 refine hJ74 _ _ ?_
                 refine hK63 _ _ ?_
                 refine rg' (h := fun J75 hJ75 => ?_)
                 refine hJ75 _ _ ?_
                 refine ⟨gk, (i + 1), ⟨kpG, lpG, ?_, lpG, ?_⟩, lpG⟩
                 · rw [hnx, ← coinsC_append]
                   simp [F, AV.gcO, noObjL_append]
                 · rw [hnx]
                   simp [F, St.trimO]
            try exact nope c59
            all_goals have c59p := c59
            all_goals try simp [F] at c59p
            all_goals
             replace F := And.intro c59 F
             try replace F := And.intro c59p F
             have hii : i = pt.length := by have h := c59; simp at h; omega
             have hv : vestL ⟨pk, ps, pe, pt, pp⟩ t = partL ps pe t (pt.take i) := by rw [hii, List.take_length, vestL]; simp [hkn, F]
             replace F := And.intro hv F
             refine run_exit ?_
             refine hK57 _ _ ?_
             refine sq fun K76 hK76 => ?_
             refine rg' (h := fun J77 hJ77 => ?_)
             refine hJ77 _ _ ?_
             refine hK76 _ _ ?_
             refine run_ret ?_
             try simp only [Then, InBlock, NoGoto]
             refine answer_tmp rfl (.inr rfl) ?_
             rw [hv]
             exact gcr (hA := by simp only [putA_get]; simp [F]; exact wk_grA (fun h => by have h0 := posB_no h; subst h0; simp [partL]))
    try exact nope g3_3
    all_goals have g3_3p := g3_3
    all_goals try simp [F] at g3_3p
    all_goals
     replace F := And.intro g3_3 F
     try replace F := And.intro g3_3p F
     refine no2 (k := ?_)
     refine no2 (k := ?_)
     refine no2 (k := ?_)
     refine go2 (k := ?_)
     refine go2 (k := ?_)
     refine go2 (k := ?_)
     refine go2 (k := ?_)
     refine gs 36 (fun g3_12 => ?_) (fun g3_12 => ?_)
     · try exact nope g3_12
       all_goals have g3_12p := g3_12
       all_goals try simp [F] at g3_12p
       all_goals
        replace F := And.intro g3_12 F
        try replace F := And.intro g3_12p F
        refine go2 (k := ?_)
        refine go2 (k := ?_)
        refine go2 (k := ?_)
        refine go2 (k := ?_)
        refine go2 (k := ?_)
        refine hJ11 _ _ ?_
        refine hK10 _ _ ?_
        refine cs (fun c23 => ?_) (fun c23 => ?_)
        · try exact nope c23
          all_goals have c23p := c23
          all_goals try simp [F] at c23p
          all_goals
           replace F := And.intro c23 F
           try replace F := And.intro c23p F
           have n1 : t ≤ ps := by have h := c23; simp at h; omega
           replace F := And.intro n1 F
           refine sq fun K78 hK78 => ?_
           refine rg' (h := fun J79 hJ79 => ?_)
           refine hJ79 _ _ ?_
           refine hK78 _ _ ?_
           refine run_ret ?_
           try simp only [Then, InBlock, NoGoto]
           refine answer_tmp rfl (.inr rfl) ?_
           exact gcr (hA := by simp only [putA_get]; simp [vestL, hkn, F]; first | exact Wk.refl _ | exact Wk.nil _ _ _)
        try exact nope c23
        all_goals have c23p := c23
        all_goals try simp [F] at c23p
        all_goals
         replace F := And.intro c23 F
         try replace F := And.intro c23p F
         have n1 : ¬ t ≤ ps := by have h := c23; simp at h; omega
         replace F := And.intro n1 F
         refine sq fun K80 hK80 => ?_
         refine rg' (h := fun J81 hJ81 => ?_)
         refine hJ81 _ _ ?_
         refine hK80 _ _ ?_
         refine cs (fun c43 => ?_) (fun c43 => ?_)
         · try exact nope c43
           all_goals have c43p := c43
           all_goals try simp [F] at c43p
           all_goals
            replace F := And.intro c43 F
            try replace F := And.intro c43p F
            have n2 : pe ≤ t := by have h := c43; simp at h; omega
            replace F := And.intro n2 F
            refine sq fun K82 hK82 => ?_
            refine rg' (h := fun J83 hJ83 => ?_)
            refine ca (c := cclone_ok hc) (k := ?_)
            rintro _ _ ⟨rfl, rfl⟩
            repeat (first | simp [F] | simp (disch := omega) only [wC, if_pos, if_neg])
            refine hJ83 _ _ ?_
            refine hK82 _ _ ?_
            refine run_ret ?_
            try simp only [Then, InBlock, NoGoto]
            refine answer_tmp rfl (.inr rfl) ?_
            exact gcr (hA := by simp only [putA_get]; simp [vestL, hkn, F]; first | exact Wk.refl _ | exact Wk.nil _ _ _)
         try exact nope c43
         all_goals have c43p := c43
         all_goals try simp [F] at c43p
         all_goals
          replace F := And.intro c43 F
          try replace F := And.intro c43p F
          have n2 : ¬ pe ≤ t := by have h := c43; simp at h; omega
          replace F := And.intro n2 F
          refine sq fun K84 hK84 => ?_
          refine rg' (h := fun J85 hJ85 => ?_)
          refine hJ85 _ _ ?_
          refine hK84 _ _ ?_
          refine cs (fun c51 => ?_) (fun c51 => ?_)
          · try exact nope c51
            all_goals have c51p := c51
            all_goals try simp [F] at c51p
            all_goals
             replace F := And.intro c51 F
             try replace F := And.intro c51p F
             refine sq fun K86 hK86 => ?_
             refine rg' (h := fun J87 hJ87 => ?_)
             refine hJ87 _ _ ?_
             refine hK86 _ _ ?_
             refine run_ret ?_
             try simp only [Then, InBlock, NoGoto]
             refine answer_tmp rfl (.inr rfl) ?_
             exact gcr (hA := by simp only [putA_get]; simp [vestL, hkn, F]; first | exact Wk.refl _ | exact Wk.nil _ _ _)
          try exact nope c51
          all_goals have c51p := c51
          all_goals try simp [F] at c51p
          all_goals
           replace F := And.intro c51 F
           try replace F := And.intro c51p F
           refine run_skip ?_
           refine hK3 _ _ ?_
           refine sq fun K88 hK88 => ?_
           refine rg' (h := fun J89 hJ89 => ?_)
           refine hJ89 _ _ ?_
           refine hK88 _ _ ?_
           refine sq fun K90 hK90 => ?_
           refine sq fun K91 hK91 => ?_
           refine rg' (h := fun J92 hJ92 => ?_)
           refine hJ92 _ _ ?_
           refine hK91 _ _ ?_
           refine run_block_k ?_
           refine run_loopG (X := Nat) [1, 2, 4, 56, 57] (fun i ρ σ1 => (i ≤ pt.length) ∧ (ρ 5 = grA σ.toks.length 5 (posB i) (coinsC (partL ps pe t (pt.take i))) (partL ps pe t (pt.take i)).length) ∧ (ρ 58 = .v (.int .i64 i)) ∧ (σ1 = { σ with objs := σ.objs ++ [[.v (.int .u8 pk.toNat), .v (.int .u64 ps), .v (.int .u64 pe), .sl 5 (coinsC pt) pt.length .shut, .sl 2 (persC pp) pp.length .shut]], toks := σ.toks ++ grT (posB i) (partL ps pe t (pt.take i)).length })) (fun i => pt.length - i) (0) ?st1 ?rd1
           case st1 =>
            refine ⟨lp, lp, lp, ?_⟩
            · simp [F]
           case rd1 =>
            rintro i ρ1 σ1 hF1 ⟨hi, h8, h12, hσ⟩
            obtain rfl := hσ.symm
            have f1 := keepL hF1
            try simp [KeepL, F] at f1
            replace F := And.intro h8 F
            replace F := And.intro h12 F
            try replace F := And.intro f1 F
            refine sq fun K93 hK93 => ?_
            refine rg' (h := fun J94 hJ94 => ?_)
            refine hJ94 _ _ ?_
            refine hK93 _ _ ?_
            refine sq fun K95 hK95 => ?_
            refine cs (fun c59 => ?_) (fun c59 => ?_)
            · try exact nope c59
              all_goals have c59p := c59
              all_goals try simp [F] at c59p
              all_goals
               replace F := And.intro c59 F
               try replace F := And.intro c59p F
               refine run_skip ?_
               refine hK95 _ _ ?_
               refine sq fun K96 hK96 => ?_
               refine run_block_k ?_
               refine sq fun K97 hK97 => ?_
               have hlt : i < pt.length := by simp at c59; omega
               have hat := coinsC_at hlt
               have hb1 : i * 5 + 5 ≤ pt.length * 5 := by omega
               obtain ⟨x, hx⟩ : ∃ x, x = pt[i] := ⟨_, rfl⟩
               rw [← hx] at hat
               simp only [coinC] at hat
               have hse : ps < t := by have h := c23; simp at h; omega
               have hte : t < pe := by have h := c43; simp at h; omega
               have hw1 : IntKind.u64.wrap ((t : Int) - ps) = ((t - ps : Nat) : Int) := by rw [wrap_u64c (by omega)]; omega
               have hw2 : IntKind.u64.wrap ((pe : Int) - ps) = ((pe - ps : Nat) : Int) := by rw [wrap_u64c (by omega)]; omega
               have hpn : partN x ps pe t < 2 ^ 256 := partN_lt (by omega)
               have hmd : mdN x.n.v (t - ps) (pe - ps) false = (Num.of (partN x ps pe t)).v := by rw [Num.of_v hpn, mdN, if_neg (by omega), show mdQ x.n.v (t - ps) (pe - ps) false = partN x ps pe t by simp [mdQ, partN], if_pos hpn]
               obtain ⟨n, hn⟩ : ∃ n, n = Num.of (partN x ps pe t) := ⟨_, rfl⟩
               rw [← hn] at hmd
               obtain ⟨L, hL⟩ : ∃ L, L = partL ps pe t (pt.take i) := ⟨_, rfl⟩
               obtain ⟨M, hM⟩ : ∃ M, M = oneL x.d n := ⟨_, rfl⟩
               have hnx : partL ps pe t (pt.take (i + 1)) = L ++ M := by rw [hL, hM, hn, ← partL_snoc, hx, List.take_append_getElem hlt]
               have hLl : L.length ≤ i := by rw [hL]; exact Nat.le_trans (partL_len _ _ _ _) (by simp; omega)
               have hMl : M.length ≤ 1 := by rw [hM]; unfold oneL; split <;> simp
               rw [← hL] at h8 F
               rw [← hL]
               have hb0 : posB i = false → coinsC L = [] ∧ L.length = 0 := fun h => by have h0 := posB_no h; subst h0; rw [hL]; simp [partL]
               have happ : ∀ objs, appendA Try.prog 23 (grA σ.toks.length 5 (posB i) (coinsC L) L.length) (.sl 5 (coinsC M) M.length .shut) ⟨objs, σ.toks ++ grT (posB i) L.length, σ.gl, σ.rows⟩ = some (grA σ.toks.length 5 true (coinsC L ++ coinsC M) (L.length + M.length), ⟨objs, σ.toks ++ grT true (L.length + M.length), σ.gl, σ.rows⟩) := fun objs => append_gr elemT_23 ti_86 (by decide) rfl hb0 (.inl rfl) (by simp [roomA]; omega) (by simp [maxLen]; omega)
               replace F := And.intro hlt F
               replace F := And.intro hat F
               replace F := And.intro hb1 F
               replace F := And.intro hw1 F
               replace F := And.intro hw2 F
               replace F := And.intro happ F
               refine rg' (h := fun J98 hJ98 => ?_)
               refine hJ98 _ _ ?_
               refine hK97 _ _ ?_
               refine sq fun K99 hK99 => ?_
               refine run_draw (by kernel_rfl) fun J100 hJ100 => ?_
               refine rp2 0 (k := ?_)
               refine rp2 1 (k := ?_)
               refine rp2 2 (k := ?_)
               refine rp2 3 (k := ?_)
               refine rp2 4 (k := ?_)
               refine rp2 5 (k := ?_)
               refine rp2 7 (k := ?_)
               refine rp2 8 (k := ?_)
               refine rp2 9 (k := ?_)
               refine rp2 10 (k := ?_)
               refine rp2 11 (k := ?_)
               refine d2 6 17 ?_ ?_
               · refine ac 6 rfl (c := nOf_ok (n := t - ps) (by omega)) (k := ?_)
                 rintro _ _ ⟨rfl, rfl⟩
                 refine ⟨by first | exact fun _ _ h => h | (refine later_list [11, 10, 9, 8, 7, 4, 3, 2, 1, 0] (by kernel_rfl) (List.forall_mem_cons.2 ⟨fun _ => fact2 rfl rfl ?_, List.forall_mem_cons.2 ⟨fun _ => fact2 rfl rfl ?_, List.forall_mem_cons.2 ⟨fun _ => fact2 rfl rfl ?_, List.forall_mem_cons.2 ⟨fun _ => fact2 rfl rfl ?_, List.forall_mem_cons.2 ⟨fun _ => fact2 rfl rfl ?_, List.forall_mem_cons.2 ⟨fun _ => fact2 rfl rfl ?_, List.forall_mem_cons.2 ⟨fun _ => fact2 rfl rfl ?_, List.forall_mem_cons.2 ⟨fun _ => fact2 rfl rfl ?_, List.forall_mem_cons.2 ⟨fun _ => fact2 rfl rfl ?_, List.forall_mem_cons.2 ⟨fun _ => fact2 rfl rfl ?_, fun _ h => absurd h List.not_mem_nil⟩⟩⟩⟩⟩⟩⟩⟩⟩⟩) <;> constructor <;> first | rfl | (simp [F]; done)), ?_⟩
                 repeat (first | simp [F] | simp (disch := omega) only [wC, if_pos, if_neg])
                 refine d2 12 17 ?_ ?_
                 · refine ac 12 rfl (c := nOf_ok (n := pe - ps) (by omega)) (k := ?_)
                   rintro _ _ ⟨rfl, rfl⟩
                   refine ⟨by first | exact fun _ _ h => h | (refine later_list [10, 9, 8, 7, 4, 3, 2, 1, 0] (by kernel_rfl) (List.forall_mem_cons.2 ⟨fun _ => fact2 rfl rfl ?_, List.forall_mem_cons.2 ⟨fun _ => fact2 rfl rfl ?_, List.forall_mem_cons.2 ⟨fun _ => fact2 rfl rfl ?_, List.forall_mem_cons.2 ⟨fun _ => fact2 rfl rfl ?_, List.forall_mem_cons.2 ⟨fun _ => fact2 rfl rfl ?_, List.forall_mem_cons.2 ⟨fun _ => fact2 rfl rfl ?_, List.forall_mem_cons.2 ⟨fun _ => fact2 rfl rfl ?_, List.forall_mem_cons.2 ⟨fun _ => fact2 rfl rfl ?_, List.forall_mem_cons.2 ⟨fun _ => fact2 rfl rfl ?_, fun _ h => absurd h List.not_mem_nil⟩⟩⟩⟩⟩⟩⟩⟩⟩) <;> constructor <;> first | rfl | (simp [F]; done)), ?_⟩
                   repeat (first | simp [F] | simp (disch := omega) only [wC, if_pos, if_neg])
                   refine d2 13 17 ?_ ?_
                   · refine ac 13 rfl (c := (hmd ▸ muldiv_ok x.n.h (by omega) (by omega))) (k := ?_)
                     rintro _ _ ⟨rfl, rfl⟩
                     refine ⟨by first | exact fun _ _ h => h | (refine later_list [10, 9, 8, 7, 4, 3, 2, 0] (by kernel_rfl) (List.forall_mem_cons.2 ⟨fun _ => fact2 rfl rfl ?_, List.forall_mem_cons.2 ⟨fun _ => fact2 rfl rfl ?_, List.forall_mem_cons.2 ⟨fun _ => fact2 rfl rfl ?_, List.forall_mem_cons.2 ⟨fun _ => fact2 rfl rfl ?_, List.forall_mem_cons.2 ⟨fun _ => fact2 rfl rfl ?_, List.forall_mem_cons.2 ⟨fun _ => fact2 rfl rfl ?_, List.forall_mem_cons.2 ⟨fun _ => fact2 rfl rfl ?_, List.forall_mem_cons.2 ⟨fun _ => fact2 rfl rfl ?_, fun _ h => absurd h List.not_mem_nil⟩⟩⟩⟩⟩⟩⟩⟩) <;> constructor <;> first | rfl | (simp [F]; done)), ?_⟩
                     repeat (first | simp [F] | simp (disch := omega) only [wC, if_pos, if_neg])
                     refine rp2 14 (k := ?_)
                     refine rp2 15 (k := ?_)
                     refine rp2 16 (k := ?_)
                     refine dop 17 rfl ?_
                     repeat (first | simp [F] | simp (disch := omega) only [wC, if_pos, if_neg])
                     refine ⟨by first | exact later_more _ (by kernel_rfl) | exact later_more2 (by kernel_rfl) rfl, ?_⟩
                     refine dop 18 rfl ?_
                     repeat (first | simp [F] | simp (disch := omega) only [wC, if_pos, if_neg])
                     refine ⟨later_tmp (by kernel_rfl), ?_⟩
                     refine rp2 19 (k := ?_)
                     refine dd ?_
                     refine hJ100 _ _ ?_
                     refine hK99 _ _ ?_
                     refine rg' (h := fun J101 hJ101 => ?_)
                     refine ca (c := (hM ▸ one_ok (d := x.d) (n := n))) (k := ?_)
                     rintro _ _ ⟨rfl, rfl⟩
                     repeat (first | simp [F] | simp (disch := omega) only [wC, if_pos, if_neg])
                     refine hJ101 _ _ ?_
                     refine hK96 _ _ ?_
                     refine rg' (h := fun J102 hJ102 => ?_)
                     refine hJ102 _ _ ?_
                     refine ⟨gk, (i + 1), ⟨kpG, lpG, ?_, lpG, ?_⟩, lpG⟩
                     · rw [hnx, ← coinsC_append]
                       simp [F, AV.gcO, noObjL_append]
                     · rw [hnx]
                       simp [F, St.trimO]
                   · refine ao 17 rfl ?_
                     repeat (first | simp [F] | simp (disch := omega) only [wC, if_pos, if_neg])
                     refine ⟨by first | exact later_more _ (by kernel_rfl) | exact later_more2 (by kernel_rfl) rfl, ?_⟩
                     refine dc 13 rfl (c := (hmd ▸ muldiv_ok x.n.h (by omega) (by omega))) (k := ?_)
                     rintro _ _ ⟨rfl, rfl⟩
                     refine ⟨by first | exact fun _ _ h => h | (refine later_list [10, 9, 8, 7, 4, 3, 2, 0] (by kernel_rfl) (List.forall_mem_cons.2 ⟨fun _ => fact2 rfl rfl ?_, List.forall_mem_cons.2 ⟨fun _ => fact2 rfl rfl ?_, List.forall_mem_cons.2 ⟨fun _ => fact2 rfl rfl ?_, List.forall_mem_cons.2 ⟨fun _ => fact2 rfl rfl ?_, List.forall_mem_cons.2 ⟨fun _ => fact2 rfl rfl ?_, List.forall_mem_cons.2 ⟨fun _ => fact2 rfl rfl ?_, List.forall_mem_cons.2 ⟨fun _ => fact2 rfl rfl ?_, List.forall_mem_cons.2 ⟨fun _ => fact2 rfl rfl ?_, fun _ h => absurd h List.not_mem_nil⟩⟩⟩⟩⟩⟩⟩⟩) <;> constructor <;> first | rfl | (simp [F]; done)), ?_⟩
                     repeat (first | simp [F] | simp (disch := omega) only [wC, if_pos, if_neg])
                     refine rp2 14 (k := ?_)
                     refine rp2 15 (k := ?_)
                     refine rp2 16 (k := ?_)
                     refine dop 18 rfl ?_
                     repeat (first | simp [F] | simp (disch := omega) only [wC, if_pos, if_neg])
                     refine ⟨later_tmp (by kernel_rfl), ?_⟩
                     refine rp2 19 (k := ?_)
                     refine dd ?_
                     refine hJ100 _ _ ?_
                     refine hK99 _ _ ?_
                     refine rg' (h := fun J103 hJ103 => ?_)
                     refine ca (c := (hM ▸ one_ok (d := x.d) (n := n))) (k := ?_)
                     rintro _ _ ⟨rfl, rfl⟩
                     repeat (first | simp [F] | simp (disch := omega) only [wC, if_pos, if_neg])
                     refine hJ103 _ _ ?_
                     refine hK96 _ _ ?_
                     refine rg' (h := fun J104 hJ104 => ?_)
                     refine hJ104 _ _ ?_
                     refine ⟨gk, (i + 1), ⟨kpG, lpG, ?_, lpG, ?_⟩, lpG⟩
                     · rw [hnx, ← coinsC_append]
                       simp [F, AV.gcO, noObjL_append]
                     · rw [hnx]
                       simp [F, St.trimO]
                 · refine ao 17 rfl ?_
                   repeat (first | simp [F] | simp (disch := omega) only [wC, if_pos, if_neg])
                   refine ⟨by first | exact later_more _ (by kernel_rfl) | exact later_more2 (by kernel_rfl) rfl, ?_⟩
                   refine dc 12 rfl (c := nOf_ok (n := pe - ps) (by omega)) (k := ?_)
                   rintro _ _ ⟨rfl, rfl⟩
                   refine ⟨by first | exact fun _ _ h => h | (refine later_list [10, 9, 8, 7, 4, 3, 2, 1, 0] (by kernel_rfl) (List.forall_mem_cons.2 ⟨fun _ => fact2 rfl rfl ?_, List.forall_mem_cons.2 ⟨fun _ => fact2 rfl rfl ?_, List.forall_mem_cons.2 ⟨fun _ => fact2 rfl rfl ?_, List.forall_mem_cons.2 ⟨fun _ => fact2 rfl rfl ?_, List.forall_mem_cons.2 ⟨fun _ => fact2 rfl rfl ?_, List.forall_mem_cons.2 ⟨fun _ => fact2 rfl rfl ?_, List.forall_mem_cons.2 ⟨fun _ => fact2 rfl rfl ?_, List.forall_mem_cons.2 ⟨fun _ => fact2 rfl rfl ?_, List.forall_mem_cons.2 ⟨fun _ => fact2 rfl rfl ?_, fun _ h => absurd h List.not_mem_nil⟩⟩⟩⟩⟩⟩⟩⟩⟩) <;> constructor <;> first | rfl | (simp [F]; done)), ?_⟩
                   repeat (first | simp [F] | simp (disch := omega) only [wC, if_pos, if_neg])
                   refine dc 13 rfl (c := (hmd ▸ muldiv_ok x.n.h (by omega) (by omega))) (k := ?_)
                   rintro _ _ ⟨rfl, rfl⟩
                   refine ⟨by first | exact fun _ _ h => h | (refine later_list [10, 9, 8, 7, 4, 3, 2, 0] (by kernel_rfl) (List.forall_mem_cons.2 ⟨fun _ => fact2 rfl rfl ?_, List.forall_mem_cons.2 ⟨fun _ => fact2 rfl rfl ?_, List.forall_mem_cons.2 ⟨fun _ => fact2 rfl rfl ?_, List.forall_mem_cons.2 ⟨fun _ => fact2 rfl rfl ?_, List.forall_mem_cons.2 ⟨fun _ => fact2 rfl rfl ?_, List.forall_mem_cons.2 ⟨fun _ => fact2 rfl rfl ?_, List.forall_mem_cons.2 ⟨fun _ => fact2 rfl rfl ?_, List.forall_mem_cons.2 ⟨fun _ => fact2 rfl rfl ?_, fun _ h => absurd h List.not_mem_nil⟩⟩⟩⟩⟩⟩⟩⟩) <;> constructor <;> first | rfl | (simp [F]; done)), ?_⟩
                   repeat (first | simp [F] | simp (disch := omega) only [wC, if_pos, if_neg])
                   refine rp2 14 (k := ?_)
                   refine rp2 15 (k := ?_)
                   refine rp2 16 (k := ?_)
                   refine dop 18 rfl ?_
                   repeat (first | simp [F] | simp (disch := omega) only [wC, if_pos, if_neg])
                   refine ⟨later_tmp (by kernel_rfl), ?_⟩
                   refine rp2 19 (k := ?_)
                   refine dd ?_
                   refine hJ100 _ _ ?_
                   refine hK99 _ _ ?_
                   refine rg' (h := fun J105 hJ105 => ?_)
                   refine ca (c := (hM ▸ one_ok (d := x.d) (n := n))) (k := ?_)
                   rintro _ _ ⟨rfl, rfl⟩
                   repeat (first | simp [F] | simp (disch := omega) only [wC, if_pos, if_neg])
                   refine hJ105 _ _ ?_
                   refine hK96 _ _ ?_
                   refine rg' (h := fun J106 hJ106 => ?_)
                   refine hJ106 _ _ ?_
                   refine ⟨gk, (i + 1), ⟨kpG, lpG, ?_, lpG, ?_⟩, lpG⟩
                   · rw [hnx, ← coinsC_append]
                     simp [F, AV.gcO, noObjL_append]
                   · rw [hnx]
                     simp [F, St.trimO]
               · refine ao 17 rfl ?_
                 repeat (first | simp [F] | simp (disch := omega) only [wC, if_pos, if_neg])
                 refine ⟨by first | exact later_more _ (by kernel_rfl) | exact later_more2 (by kernel_rfl) rfl, ?_⟩
                 refine dc 6 rfl (c := nOf_ok (n := t - ps) (by omega)) (k := ?_)
                 rintro _ _ ⟨rfl, rfl⟩
                 refine ⟨by first | exact fun _ _ h => h | (refine later_list [11, 10, 9, 8, 7, 4, 3, 2, 1, 0] (by kernel_rfl) (List.forall_mem_cons.2 ⟨fun _ => fact2 rfl rfl ?_, List.forall_mem_cons.2 ⟨fun _ => fact2 rfl rfl ?_, List.forall_mem_cons.2 ⟨fun _ => fact2 rfl rfl ?_, List.forall_mem_cons.2 ⟨fun _ => fact2 rfl rfl ?_, List.forall_mem_cons.2 ⟨fun _ => fact2 rfl rfl ?_, List.forall_mem_cons.2 ⟨fun _ => fact2 rfl rfl ?_, List.forall_mem_cons.2 ⟨fun _ => fact2 rfl rfl ?_, List.forall_mem_cons.2 ⟨fun _ => fact2 rfl rfl ?_, List.forall_mem_cons.2 ⟨fun _ => fact2 rfl rfl ?_, List.forall_mem_cons.2 ⟨fun _ => fact2 rfl rfl ?_, fun _ h => absurd h List.not_mem_nil⟩⟩⟩⟩⟩⟩⟩⟩⟩⟩) <;> constructor <;> first | rfl | (simp [F]; done)), ?_⟩
                 repeat (first | simp [F] | simp (disch := omega) only [wC, if_pos, if_neg])
                 refine dc 12 rfl (c := nOf_ok (n := pe - ps) (by omega)) (k := ?_)
                 rintro _ _ ⟨rfl, rfl⟩
                 refine ⟨by first | exact fun _ _ h => h | (refine later_list [10, 9, 8, 7, 4, 3, 2, 1, 0] (by kernel_rfl) (List.forall_mem_cons.2 ⟨fun _ => fact2 rfl rfl ?_, List.forall_mem_cons.2 ⟨fun _ => fact2 rfl rfl ?_, List.forall_mem_cons.2 ⟨fun _ => fact2 rfl rfl ?_, List.forall_mem_cons.2 ⟨fun _ => fact2 rfl rfl ?_, List.forall_mem_cons.2 ⟨fun _ => fact2 rfl rfl ?_, List.forall_mem_cons.2 ⟨fun _ => fact2 rfl rfl ?_, List.forall_mem_cons.2 ⟨fun _ => fact2 rfl rfl ?_, List.forall_mem_cons.2 ⟨fun _ => fact2 rfl rfl ?_, List.forall_mem_cons.2 ⟨fun _ => fact2 rfl rfl ?_, fun _ h => absurd h List.not_mem_nil⟩⟩⟩⟩⟩⟩⟩⟩⟩) <;> constructor <;> first | rfl | (simp [F]; done)), ?_⟩
                 repeat (first | simp [F] | simp (disch := omega) only [wC, if_pos, if_neg])
                 refine dc 13 rfl (c := (hmd ▸ muldiv_ok x.n.h (by omega) (by omega))) (k := ?_)
                 rintro _ _ ⟨rfl, rfl⟩
                 refine ⟨by first | exact fun _ _ h => h | (refine later_list [10, 9, 8, 7, 4, 3, 2, 0] (by kernel_rfl) (List.forall_mem_cons.2 ⟨fun _ => fact2 rfl rfl ?_, List.forall_mem_cons.2 ⟨fun _ => fact2 rfl rfl ?_, List.forall_mem_cons.2 ⟨fun _ => fact2 rfl rfl ?_, List.forall_mem_cons.2 ⟨fun _ => fact2 rfl rfl ?_, List.forall_mem_cons.2 ⟨fun _ => fact2 rfl rfl ?_, List.forall_mem_cons.2 ⟨fun _ => fact2 rfl rfl ?_, List.forall_mem_cons.2 ⟨fun _ => fact2 rfl rfl ?_, List.forall_mem_cons.2 ⟨fun _ => fact2 rfl rfl ?_, fun _ h => absurd h List.not_mem_nil⟩⟩⟩⟩⟩⟩⟩⟩) <;> constructor <;> first | rfl | (simp [F]; done)), ?_⟩
                 repeat (first | simp [F] | simp (disch := omega) only [wC, if_pos, if_neg])
                 refine rp2 14 (k := ?_)
                 refine rp2 15 (k := ?_)
                 refine rp2 16 (k := ?_)
                 refine dop 18 rfl ?_
                 repeat (first | simp [F] | simp (disch := omega) only [wC, if_pos, if_neg])
                 refine ⟨later_tmp (by kernel_rfl), ?_⟩
                 refine rp2 19 (k := ?_)
                 refine dd ?_
                 refine hJ100 _ _ ?_
                 refine hK99 _ _ ?_
                 refine rg' (h := fun J107 hJ107 => ?_)
                 refine ca (c := (hM ▸ one_ok (d := x.d) (n := n))) (k := ?_)
                 rintro _ _ ⟨rfl, rfl⟩
                 repeat (first | simp [F] | simp (disch := omega) only [wC, if_pos, if_neg])
                 refine hJ107 _ _ ?_
                 refine hK96 _ _ ?_
                 refine rg' (h := fun J108 hJ108 => ?_)
                 refine hJ108 _ _ ?_
                 refine ⟨gk, (i + 1), ⟨kpG, lpG, ?_, lpG, ?_⟩, lpG⟩
                 · rw [hnx, ← coinsC_append]
                   simp [F, AV.gcO, noObjL_append]
                 · rw [hnx]
                   simp [F, St.trimO]
            try exact nope c59
            all_goals have c59p := c59
            all_goals try simp [F] at c59p
            all_goals
             replace F := And.intro c59 F
             try replace F := And.intro c59p F
             have hii : i = pt.length := by have h := c59; simp at h; omega
             have hv : vestL ⟨pk, ps, pe, pt, pp⟩ t = partL ps pe t (pt.take i) := by rw [hii, List.take_length, vestL]; simp [hkn, F]
             replace F := And.intro hv F
             refine run_exit ?_
             refine hK90 _ _ ?_
             refine sq fun K109 hK109 => ?_
             refine rg' (h := fun J110 hJ110 => ?_)
             refine hJ110 _ _ ?_
             refine hK109 _ _ ?_
             refine run_ret ?_
             try simp only [Then, InBlock, NoGoto]
             refine answer_tmp rfl (.inr rfl) ?_
             rw [hv]
             exact gcr (hA := by simp only [putA_get]; simp [F]; exact wk_grA (fun h => by have h0 := posB_no h; subst h0; simp [partL]))
     try exact nope g3_12
     all_goals have g3_12p := g3_12
     all_goals try simp [F] at g3_12p
     all_goals
      replace F := And.intro g3_12 F
      try replace F := And.intro g3_12p F
      refine no2 (k := ?_)
      refine no2 (k := ?_)
      refine no2 (k := ?_)
      refine no2 (k := ?_)
      refine go2 (k := ?_)
      refine hJ11 _ _ ?_
      refine hK10 _ _ ?_
      refine cf ?_
      refine sq fun K111 hK111 => ?_
      refine rg' (h := fun J112 hJ112 => ?_)
      refine hJ112 _ _ ?_
      refine hK111 _ _ ?_
      refine cs (fun c43 => ?_) (fun c43 => ?_)
      · try exact nope c43
        all_goals have c43p := c43
        all_goals try simp [F] at c43p
        all_goals
         replace F := And.intro c43 F
         try replace F := And.intro c43p F
         have n2 : pe ≤ t := by have h := c43; simp at h; omega
         replace F := And.intro n2 F
         refine sq fun K113 hK113 => ?_
         refine rg' (h := fun J114 hJ114 => ?_)
         refine ca (c := cclone_ok hc) (k := ?_)
         rintro _ _ ⟨rfl, rfl⟩
         repeat (first | simp [F] | simp (disch := omega) only [wC, if_pos, if_neg])
         refine hJ114 _ _ ?_
         refine hK113 _ _ ?_
         refine run_ret ?_
         try simp only [Then, InBlock, NoGoto]
         refine answer_tmp rfl (.inr rfl) ?_
         exact gcr (hA := by simp only [putA_get]; simp [vestL, hkn, F]; first | exact Wk.refl _ | exact Wk.nil _ _ _)
      try exact nope c43
      all_goals have c43p := c43
      all_goals try simp [F] at c43p
      all_goals
       replace F := And.intro c43 F
       try replace F := And.intro c43p F
       have n2 : ¬ pe ≤ t := by have h := c43; simp at h; omega
       replace F := And.intro n2 F
       refine sq fun K115 hK115 => ?_
       refine rg' (h := fun J116 hJ116 => ?_)
       refine hJ116 _ _ ?_
       refine hK115 _ _ ?_
       refine cs (fun c51 => ?_) (fun c51 => ?_)
       · try exact nope c51
         all_goals have c51p := c51
         all_goals try simp [F] at c51p
         all_goals
          replace F := And.intro c51 F
          try replace F := And.intro c51p F
          refine sq fun K117 hK117 => ?_
          refine rg' (h := fun J118 hJ118 => ?_)
          refine hJ118 _ _ ?_
          refine hK117 _ _ ?_
          refine run_ret ?_
          try simp only [Then, InBlock, NoGoto]
          refine answer_tmp rfl (.inr rfl) ?_
          exact gcr (hA := by simp only [putA_get]; simp [vestL, hkn, F]; first | exact Wk.refl _ | exact Wk.nil _ _ _)
       try exact nope c51
       all_goals have c51p := c51
       all_goals try simp [F] at c51p
       all_goals
        replace F := And.intro c51 F
        try replace F := And.intro c51p F
        refine run_skip ?_
        refine hK3 _ _ ?_
        refine sq fun K119 hK119 => ?_
        refine rg' (h := fun J120 hJ120 => ?_)
        refine hJ120 _ _ ?_
        refine hK119 _ _ ?_
        refine sq fun K121 hK121 => ?_
        refine sq fun K122 hK122 => ?_
        refine rg' (h := fun J123 hJ123 => ?_)
        refine hJ123 _ _ ?_
        refine hK122 _ _ ?_
        refine run_block_k ?_
        refine run_loopG (X := Nat) [1, 2, 4, 56, 57] (fun i ρ σ1 => (i ≤ pt.length) ∧ (ρ 5 = grA σ.toks.length 5 (posB i) (coinsC (partL ps pe t (pt.take i))) (partL ps pe t (pt.take i)).length) ∧ (ρ 58 = .v (.int .i64 i)) ∧ (σ1 = { σ with objs := σ.objs ++ [[.v (.int .u8 pk.toNat), .v (.int .u64 ps), .v (.int .u64 pe), .sl 5 (coinsC pt) pt.length .shut, .sl 2 (persC pp) pp.length .shut]], toks := σ.toks ++ grT (posB i) (partL ps pe t (pt.take i)).length })) (fun i => pt.length - i) (0) ?st1 ?rd1
        case st1 =>
         refine ⟨lp, lp, lp, ?_⟩
         · simp [F]
        case rd1 =>
         rintro i ρ1 σ1 hF1 ⟨hi, h8, h12, hσ⟩
         obtain rfl := hσ.symm
         have f1 := keepL hF1
         try simp [KeepL, F] at f1
         replace F := And.intro h8 F
         replace F := And.intro h12 F
         try replace F := And.intro f1 F
         refine sq fun K124 hK124 => ?_
         refine rg' (h := fun J125 hJ125 => ?_)
         refine hJ125 _ _ ?_
         refine hK124 _ _ ?_
         refine sq fun K126 hK126 => ?_
         refine cs (fun c59 => ?_) (fun c59 => ?_)
         · try exact nope c59
           all_goals have c59p := c59
           all_goals try simp [F] at c59p
           all_goals
            replace F := And.intro c59 F
            try replace F := And.intro c59p F
            refine run_skip ?_
            refine hK126 _ _ ?_
            refine sq fun K127 hK127 => ?_
            refine run_block_k ?_
            refine sq fun K128 hK128 => ?_
            have hlt : i < pt.length := by simp at c59; omega
            have hat := coinsC_at hlt
            have hb1 : i * 5 + 5 ≤ pt.length * 5 := by omega
            obtain ⟨x, hx⟩ : ∃ x, x = pt[i] := ⟨_, rfl⟩
            rw [← hx] at hat
            simp only [coinC] at hat
            have hse : ps < t := by have h := c23; simp at h; omega
            have hte : t < pe := by have h := c43; simp at h; omega
            have hw1 : IntKind.u64.wrap ((t : Int) - ps) = ((t - ps : Nat) : Int) := by rw [wrap_u64c (by omega)]; omega
            have hw2 : IntKind.u64.wrap ((pe : Int) - ps) = ((pe - ps : Nat) : Int) := by rw [wrap_u64c (by omega)]; omega
            have hpn : partN x ps pe t < 2 ^ 256 := partN_lt (by omega)
            have hmd : mdN x.n.v (t - ps) (pe - ps) false = (Num.of (partN x ps pe t)).v := by rw [Num.of_v hpn, mdN, if_neg (by omega), show mdQ x.n.v (t - ps) (pe - ps) false = partN x ps pe t by simp [mdQ, partN], if_pos hpn]
            obtain ⟨n, hn⟩ : ∃ n, n = Num.of (partN x ps pe t) := ⟨_, rfl⟩
            rw [← hn] at hmd
            obtain ⟨L, hL⟩ : ∃ L, L = partL ps pe t (pt.take i) := ⟨_, rfl⟩
            obtain ⟨M, hM⟩ : ∃ M, M = oneL x.d n := ⟨_, rfl⟩
            have hnx : partL ps pe t (pt.take (i + 1)) = L ++ M := by rw [hL, hM, hn, ← partL_snoc, hx, List.take_append_getElem hlt]
            have hLl : L.length ≤ i := by rw [hL]; exact Nat.le_trans (partL_len _ _ _ _) (by simp; omega)
            have hMl : M.length ≤ 1 := by rw [hM]; unfold oneL; split <;> simp
            rw [← hL] at h8 F
            rw [← hL]
            have hb0 : posB i = false → coinsC L = [] ∧ L.length = 0 := fun h => by have h0 := posB_no h; subst h0; rw [hL]; simp [partL]
            have happ : ∀ objs, appendA Try.prog 23 (grA σ.toks.length 5 (posB i) (coinsC L) L.length) (.sl 5 (coinsC M) M.length .shut) ⟨objs, σ.toks ++ grT (posB i) L.length, σ.gl, σ.rows⟩ = some (grA σ.toks.length 5 true (coinsC L ++ coinsC M) (L.length + M.length), ⟨objs, σ.toks ++ grT true (L.length + M.length), σ.gl, σ.rows⟩) := fun objs => append_gr elemT_23 ti_86 (by decide) rfl hb0 (.inl rfl) (by simp [roomA]; omega) (by simp [maxLen]; omega)
            replace F := And.intro hlt F
            replace F := And.intro hat F
            replace F := And.intro hb1 F
            replace F := And.intro hw1 F
            replace F := And.intro hw2 F
            replace F := And.intro happ F
            refine rg' (h := fun J129 hJ129 => ?_)
            refine hJ129 _ _ ?_
            refine hK128 _ _ ?_
            refine sq fun K130 hK130 => ?_
            refine run_draw (by kernel_rfl) fun J131 hJ131 => ?_
            refine rp2 0 (k := ?_)
            refine rp2 1 (k := ?_)
            refine rp2 2 (k := ?_)
            refine rp2 3 (k := ?_)
            refine rp2 4 (k := ?_)
            refine rp2 5 (k := ?_)
            refine rp2 7 (k := ?_)
            refine rp2 8 (k := ?_)
            refine rp2 9 (k := ?_)
            refine rp2 10 (k := ?_)
            refine rp2 11 (k := ?_)
            refine d2 6 17 ?_ ?_
            · refine ac 6 rfl (c := nOf_ok (n := t - ps) (by omega)) (k := ?_)
              rintro _ _ ⟨rfl, rfl⟩
              refine ⟨by first | exact fun _ _ h => h | (refine later_list [11, 10, 9, 8, 7, 4, 3, 2, 1, 0] (by kernel_rfl) (List.forall_mem_cons.2 ⟨fun _ => fact2 rfl rfl ?_, List.forall_mem_cons.2 ⟨fun _ => fact2 rfl rfl ?_, List.forall_mem_cons.2 ⟨fun _ => fact2 rfl rfl ?_, List.forall_mem_cons.2 ⟨fun _ => fact2 rfl rfl ?_, List.forall_mem_cons.2 ⟨fun _ => fact2 rfl rfl ?_, List.forall_mem_cons.2 ⟨fun _ => fact2 rfl rfl ?_, List.forall_mem_cons.2 ⟨fun _ => fact2 rfl rfl ?_, List.forall_mem_cons.2 ⟨fun _ => fact2 rfl rfl ?_, List.forall_mem_cons.2 ⟨fun _ => fact2 rfl rfl ?_, List.forall_mem_cons.2 ⟨fun _ => fact2 rfl rfl ?_, fun _ h => absurd h List.not_mem_nil⟩⟩⟩⟩⟩⟩⟩⟩⟩⟩) <;> constructor <;> first | rfl | (simp [F]; done)), ?_⟩
              repeat (first | simp [F] | simp (disch := omega) only [wC, if_pos, if_neg])
              refine d2 12 17 ?_ ?_
              · refine ac 12 rfl (c := nOf_ok (n := pe - ps) (by omega)) (k := ?_)
                rintro _ _ ⟨rfl, rfl⟩
                refine ⟨by first | exact fun _ _ h => h | (refine later_list [10, 9, 8, 7, 4, 3, 2, 1, 0] (by kernel_rfl) (List.forall_mem_cons.2 ⟨fun _ => fact2 rfl rfl ?_, List.forall_mem_cons.2 ⟨fun _ => fact2 rfl rfl ?_, List.forall_mem_cons.2 ⟨fun _ => fact2 rfl rfl ?_, List.forall_mem_cons.2 ⟨fun _ => fact2 rfl rfl ?_, List.forall_mem_cons.2 ⟨fun _ => fact2 rfl rfl ?_, List.forall_mem_cons.2 ⟨fun _ => fact2 rfl rfl ?_, List.forall_mem_cons.2 ⟨fun _ => fact2 rfl rfl ?_, List.forall_mem_cons.2 ⟨fun _ => fact2 rfl rfl ?_, List.forall_mem_cons.2 ⟨fun _ => fact2 rfl rfl ?_, fun _ h => absurd h List.not_mem_nil⟩⟩⟩⟩⟩⟩⟩⟩⟩) <;> constructor <;> first | rfl | (simp [F]; done)), ?_⟩
                repeat (first | simp [F] | simp (disch := omega) only [wC, if_pos, if_neg])
                refine d2 13 17 ?_ ?_
                · refine ac 13 rfl (c := (hmd ▸ muldiv_ok x.n.h (by omega) (by omega))) (k := ?_)
                  rintro _ _ ⟨rfl, rfl⟩
                  refine ⟨by first | exact fun _ _ h => h | (refine later_list [10, 9, 8, 7, 4, 3, 2, 0] (by kernel_rfl) (List.forall_mem_cons.2 ⟨fun _ => fact2 rfl rfl ?_, List.forall_mem_cons.2 ⟨fun _ => fact2 rfl rfl ?_, List.forall_mem_cons.2 ⟨fun _ => fact2 rfl rfl ?_, List.forall_mem_cons.2 ⟨fun _ => fact2 rfl rfl ?_, List.forall_mem_cons.2 ⟨fun _ => fact2 rfl rfl ?_, List.forall_mem_cons.2 ⟨fun _ => fact2 rfl rfl ?_, List.forall_mem_cons.2 ⟨fun _ => fact2 rfl rfl ?_, List.forall_mem_cons.2 ⟨fun _ => fact2 rfl rfl ?_, fun _ h => absurd h List.not_mem_nil⟩⟩⟩⟩⟩⟩⟩⟩) <;> constructor <;> first | rfl | (simp [F]; done)), ?_⟩
                  repeat (first | simp [F] | simp (disch := omega) only [wC, if_pos, if_neg])
                  refine rp2 14 (k := ?_)
                  refine rp2 15 (k := ?_)
                  refine rp2 16 (k := ?_)
                  refine dop 17 rfl ?_
                  repeat (first | simp [F] | simp (disch := omega) only [wC, if_pos, if_neg])
                  refine ⟨by first | exact later_more _ (by kernel_rfl) | exact later_more2 (by kernel_rfl) rfl, ?_⟩
                  refine dop 18 rfl ?_
                  repeat (first | simp [F] | simp (disch := omega) only [wC, if_pos, if_neg])
                  refine ⟨later_tmp (by kernel_rfl), ?_⟩
                  refine rp2 19 (k := ?_)
                  refine dd ?_
                  refine hJ131 _ _ ?_
                  refine hK130 _ _ ?_
                  refine rg' (h := fun J132 hJ132 => ?_)
                  refine ca (c := (hM ▸ one_ok (d := x.d) (n := n))) (k := ?_)
                  rintro _ _ ⟨rfl, rfl⟩
                  repeat (first | simp [F] | simp (disch := omega) only [wC, if_pos, if_neg])
                  refine hJ132 _ _ ?_
                  refine hK127 _ _ ?_
                  refine rg' (h := fun J133 hJ133 => ?_)
                  refine hJ133 _ _ ?_
                  refine ⟨gk, (i + 1), ⟨kpG, lpG, ?_, lpG, ?_⟩, lpG⟩
                  · rw [hnx, ← coinsC_append]
                    simp [F, AV.gcO, noObjL_append]
                  · rw [hnx]
                    simp [F, St.trimO]
                · refine ao 17 rfl ?_
                  repeat (first | simp [F] | simp (disch := omega) only [wC, if_pos, if_neg])
                  refine ⟨by first | exact later_more _ (by kernel_rfl) | exact later_more2 (by kernel_rfl) rfl, ?_⟩
                  refine dc 13 rfl (c := (hmd ▸ muldiv_ok x.n.h (by omega) (by omega))) (k := ?_)
                  rintro _ _ ⟨rfl, rfl⟩
                  refine ⟨by first | exact fun _ _ h => h | (refine later_list [10, 9, 8, 7, 4, 3, 2, 0] (by kernel_rfl) (List.forall_mem_cons.2 ⟨fun _ => fact2 rfl rfl ?_, List.forall_mem_cons.2 ⟨fun _ => fact2 rfl rfl ?_, List.forall_mem_cons.2 ⟨fun _ => fact2 rfl rfl ?_, List.forall_mem_cons.2 ⟨fun _ => fact2 rfl rfl ?_, List.forall_mem_cons.2 ⟨fun _ => fact2 rfl rfl ?_, List.forall_mem_cons.2 ⟨fun _ => fact2 rfl rfl ?_, List.forall_mem_cons.2 ⟨fun _ => fact2 rfl rfl ?_, List.forall_mem_cons.2 ⟨fun _ => fact2 rfl rfl ?_, fun _ h => absurd h List.not_mem_nil⟩⟩⟩⟩⟩⟩⟩⟩) <;> constructor <;> first | rfl | (simp [F]; done)), ?_⟩
                  repeat (first | simp [F] | simp (disch := omega) only [wC, if_pos, if_neg])
                  refine rp2 14 (k := ?_)
                  refine rp2 15 (k := ?_)
                  refine rp2 16 (k := ?_)
                  refine dop 18 rfl ?_
                  repeat (first | simp [F] | simp (disch := omega) only [wC, if_pos, if_neg])
                  refine ⟨later_tmp (by kernel_rfl), ?_⟩
                  refine rp2 19 (k := ?_)
                  refine dd ?_
                  refine hJ131 _ _ ?_
                  refine hK130 _ _ ?_
                  refine rg' (h := fun J134 hJ134 => ?_)
                  refine ca (c := (hM ▸ one_ok (d := x.d) (n := n))) (k := ?_)
                  rintro _ _ ⟨rfl, rfl⟩
                  repeat (first | simp [F] | simp (disch := omega) only [wC, if_pos, if_neg])
                  refine hJ134 _ _ ?_
                  refine hK127 _ _ ?_
                  refine rg' (h := fun J135 hJ135 => ?_)
                  refine hJ135 _ _ ?_
                  refine ⟨gk, (i + 1), ⟨kpG, lpG, ?_, lpG, ?_⟩, lpG⟩
                  · rw [hnx, ← coinsC_append]
                    simp [F, AV.gcO, noObjL_append]
                  · rw [hnx]
                    simp [F, St.trimO]
              · refine ao 17 rfl ?_
                repeat (first | simp [F] | simp (disch := omega) only [wC, if_pos, if_neg])
                refine ⟨by first | exact later_more _ (by kernel_rfl) | exact later_more2 (by kernel_rfl) rfl, ?_⟩
                refine dc 12 rfl (c := nOf_ok (n := pe - ps) (by omega)) (k := ?_)
                rintro _ _ ⟨rfl, rfl⟩
                refine ⟨by first | exact fun _ _ h => h | (refine later_list [10, 9, 8, 7, 4, 3, 2, 1, 0] (by kernel_rfl) (List.forall_mem_cons.2 ⟨fun _ => fact2 rfl rfl ?_, List.forall_mem_cons.2 ⟨fun _ => fact2 rfl rfl ?_, List.forall_mem_cons.2 ⟨fun _ => fact2 rfl rfl ?_, List.forall_mem_cons.2 ⟨fun _ => fact2 rfl rfl ?_, List.forall_mem_cons.2 ⟨fun _ => fact2 rfl rfl ?_, List.forall_mem_cons.2 ⟨fun _ => fact2 rfl rfl ?_, List.forall_mem_cons.2 ⟨fun _ => fact2 rfl rfl ?_, List.forall_mem_cons.2 ⟨fun _ => fact2 rfl rfl ?_, List.forall_mem_cons.2 ⟨fun _ => fact2 rfl rfl ?_, fun _ h => absurd h List.not_mem_nil⟩⟩⟩⟩⟩⟩⟩⟩⟩) <;> constructor <;> first | rfl | (simp [F]; done)), ?_⟩
                repeat (first | simp [F] | simp (disch := omega) only [wC, if_pos, if_neg])
                refine dc 13 rfl (c := (hmd ▸ muldiv_ok x.n.h (by omega) (by omega))) (k := ?_)
                rintro _ _ ⟨rfl, rfl⟩
                refine ⟨by first | exact fun _ _ h => h | (refine later_list [10, 9, 8, 7, 4, 3, 2, 0] (by kernel_rfl) (List.forall_mem_cons.2 ⟨fun _ => fact2 rfl rfl ?_, List.forall_mem_cons.2 ⟨fun _ => fact2 rfl rfl ?_, List.forall_mem_cons.2 ⟨fun _ => fact2 rfl rfl ?_, List.forall_mem_cons.2 ⟨fun _ => fact2 rfl rfl ?_, List.forall_mem_cons.2 ⟨fun _ => fact2 rfl rfl ?_, List.forall_mem_cons.2 ⟨fun _ => fact2 rfl rfl ?_, List.forall_mem_cons.2 ⟨fun _ => fact2 rfl rfl ?_, List.forall_mem_cons.2 ⟨fun _ => fact2 rfl rfl ?_, fun _ h => absurd h List.not_mem_nil⟩⟩⟩⟩⟩⟩⟩⟩) <;> constructor <;> first | rfl | (simp [F]; done)), ?_⟩
                repeat (first | simp [F] | simp (disch := omega) only [wC, if_pos, if_neg])
                refine rp2 14 (k := ?_)
                refine rp2 15 (k := ?_)
                refine rp2 16 (k := ?_)
                refine dop 18 rfl ?_
                repeat (first | simp [F] | simp (disch := omega) only [wC, if_pos, if_neg])
                refine ⟨later_tmp (by kernel_rfl), ?_⟩
                refine rp2 19 (k := ?_)
                refine dd ?_
                refine hJ131 _ _ ?_
                refine hK130 _ _ ?_
                refine rg' (h := fun J136 hJ136 => ?_)
                refine ca (c := (hM ▸ one_ok (d := x.d) (n := n))) (k := ?_)
                rintro _ _ ⟨rfl, rfl⟩
                repeat (first | simp [F] | simp (disch := omega) only [wC, if_pos, if_neg])
                refine hJ136 _ _ ?_
                refine hK127 _ _ ?_
                refine rg' (h := fun J137 hJ137 => ?_)
                refine hJ137 _ _ ?_
                refine ⟨gk, (i + 1), ⟨kpG, lpG, ?_, lpG, ?_⟩, lpG⟩
                · rw [hnx, ← coinsC_append]
                  simp [F, AV.gcO, noObjL_append]
                · rw [hnx]
                  simp [F, St.trimO]
            · refine ao 17 rfl ?_
              repeat (first | simp [F] | simp (disch := omega) only [wC, if_pos, if_neg])
              refine ⟨by first | exact later_more _ (by kernel_rfl) | exact later_more2 (by kernel_rfl) rfl, ?_⟩
              refine dc 6 rfl (c := nOf_ok (n := t - ps) (by omega)) (k := ?_)
              rintro _ _ ⟨rfl, rfl⟩
              refine ⟨by first | exact fun _ _ h => h | (refine later_list [11, 10, 9, 8, 7, 4, 3, 2, 1, 0] (by kernel_rfl) (List.forall_mem_cons.2 ⟨fun _ => fact2 rfl rfl ?_, List.forall_mem_cons.2 ⟨fun _ => fact2 rfl rfl ?_, List.forall_mem_cons.2 ⟨fun _ => fact2 rfl rfl ?_, List.forall_mem_cons.2 ⟨fun _ => fact2 rfl rfl ?_, List.forall_mem_cons.2 ⟨fun _ => fact2 rfl rfl ?_, List.forall_mem_cons.2 ⟨fun _ => fact2 rfl rfl ?_, List.forall_mem_cons.2 ⟨fun _ => fact2 rfl rfl ?_, List.forall_mem_cons.2 ⟨fun _ => fact2 rfl rfl ?_, List.forall_mem_cons.2 ⟨fun _ => fact2 rfl rfl ?_, List.forall_mem_cons.2 ⟨fun _ => fact2 rfl rfl ?_, fun _ h => absurd h List.not_mem_nil⟩⟩⟩⟩⟩⟩⟩⟩⟩⟩) <;> constructor <;> first | rfl | (simp [F]; done)), ?_⟩
              repeat (first | simp [F] | simp (disch := omega) only [wC, if_pos, if_neg])
              refine dc 12 rfl (c := nOf_ok (n := pe - ps) (by omega)) (k := ?_)
              rintro _ _ ⟨rfl, rfl⟩
              refine ⟨by first | exact fun _ _ h => h | (refine later_list [10, 9, 8, 7, 4, 3, 2, 1, 0] (by kernel_rfl) (List.forall_mem_cons.2 ⟨fun _ => fact2 rfl rfl ?_, List.forall_mem_cons.2 ⟨fun _ => fact2 rfl rfl ?_, List.forall_mem_cons.2 ⟨fun _ => fact2 rfl rfl ?_, List.forall_mem_cons.2 ⟨fun _ => fact2 rfl rfl ?_, List.forall_mem_cons.2 ⟨fun _ => fact2 rfl rfl ?_, List.forall_mem_cons.2 ⟨fun _ => fact2 rfl rfl ?_, List.forall_mem_cons.2 ⟨fun _ => fact2 rfl rfl ?_, List.forall_mem_cons.2 ⟨fun _ => fact2 rfl rfl ?_, List.forall_mem_cons.2 ⟨fun _ => fact2 rfl rfl ?_, fun _ h => absurd h List.not_mem_nil⟩⟩⟩⟩⟩⟩⟩⟩⟩) <;> constructor <;> first | rfl | (simp [F]; done)), ?_⟩
              repeat (first | simp [F] | simp (disch := omega) only [wC, if_pos, if_neg])
              refine dc 13 rfl (c := (hmd ▸ muldiv_ok x.n.h (by omega) (by omega))) (k := ?_)
              rintro _ _ ⟨rfl, rfl⟩
              refine ⟨by first | exact fun _ _ h => h | (refine later_list [10, 9, 8, 7, 4, 3, 2, 0] (by kernel_rfl) (List.forall_mem_cons.2 ⟨fun _ => fact2 rfl rfl ?_, List.forall_mem_cons.2 ⟨fun _ => fact2 rfl rfl ?_, List.forall_mem_cons.2 ⟨fun _ => fact2 rfl rfl ?_, List.forall_mem_cons.2 ⟨fun _ => fact2 rfl rfl ?_, List.forall_mem_cons.2 ⟨fun _ => fact2 rfl rfl ?_, List.forall_mem_cons.2 ⟨fun _ => fact2 rfl rfl ?_, List.forall_mem_cons.2 ⟨fun _ => fact2 rfl rfl ?_, List.forall_mem_cons.2 ⟨fun _ => fact2 rfl rfl ?_, fun _ h => absurd h List.not_mem_nil⟩⟩⟩⟩⟩⟩⟩⟩) <;> constructor <;> first | rfl | (simp [F]; done)), ?_⟩
              repeat (first | simp [F] | simp (disch := omega) only [wC, if_pos, if_neg])
              refine rp2 14 (k := ?_)
              refine rp2 15 (k := ?_)
              refine rp2 16 (k := ?_)
              refine dop 18 rfl ?_
              repeat (first | simp [F] | simp (disch := omega) only [wC, if_pos, if_neg])
              refine ⟨later_tmp (by kernel_rfl), ?_⟩
              refine rp2 19 (k := ?_)
              refine dd ?_
              refine hJ131 _ _ ?_
              refine hK130 _ _ ?_
              refine rg' (h := fun J138 hJ138 => ?_)
              refine ca (c := (hM ▸ one_ok (d := x.d) (n := n))) (k := ?_)
              rintro _ _ ⟨rfl, rfl⟩
              repeat (first | simp [F] | simp (disch := omega) only [wC, if_pos, if_neg])
              refine hJ138 _ _ ?_
              refine hK127 _ _ ?_
              refine rg' (h := fun J139 hJ139 => ?_)
              refine hJ139 _ _ ?_
              refine ⟨gk, (i + 1), ⟨kpG, lpG, ?_, lpG, ?_⟩, lpG⟩
              · rw [hnx, ← coinsC_append]
                simp [F, AV.gcO, noObjL_append]
              · rw [hnx]
                simp [F, St.trimO]
         try exact nope c59
         all_goals have c59p := c59
         all_goals try simp [F] at c59p
         all_goals
          replace F := And.intro c59 F
          try replace F := And.intro c59p F
          have hii : i = pt.length := by have h := c59; simp at h; omega
          have hv : vestL ⟨pk, ps, pe, pt, pp⟩ t = partL ps pe t (pt.take i) := by rw [hii, List.take_length, vestL]; simp [hkn, F]
          replace F := And.intro hv F
          refine run_exit ?_
          refine hK121 _ _ ?_
          refine sq fun K140 hK140 => ?_
          refine rg' (h := fun J141 hJ141 => ?_)
          refine hJ141 _ _ ?_
          refine hK140 _ _ ?_
          refine run_ret ?_
          try simp only [Then, InBlock, NoGoto]
          refine answer_tmp rfl (.inr rfl) ?_
          rw [hv]
          exact gcr (hA := by simp only [putA_get]; simp [F]; exact wk_grA (fun h => by have h0 := posB_no h; subst h0; simp [partL]))

end Go.Proofs.Ytdbaddholggkbaa

/-
  A plan at hand..
-/
namespace Go.Proofs.Ytdbaddholggkbaa
set_option linter.unnecessarySimpa false
set_option maxRecDepth 100000
open Go Go.Vm
set_option linter.unusedSimpArgs false
set_option linter.unusedVariables false

attribute [local simp] evalL wantedA isCall opA evalA evalAll evalsA evalOpt ofValue ofCell plain binA_eql_pn binA_neq_pn binA_gtr binA_lss binA_geq binA_leq binA_add binA_sub binA_eql binA_neq binA_orI binA_andI binA_shl binA_shr binA_mul binA_quo binA_rem binA_agg_eql binA_agg_neq convA_int unA_not fieldAddrA loadA partA pickA_true pickA_false pickA_bb lenA builtinA storeA splice AV.cells AV.isCell sliceA boundA intA callOf indexAddrA newObjA buildA fillA zeroA ofCells buildSliceA indexA fieldA numA_len4 numA_take4 numA_drop4 set_appN get_appN take_appN List.getElem?_cons_zero List.getElem?_cons_succ makeA zeros64

def evenP : Pln := ⟨1, 10, 20, [⟨0, Num.of 5⟩], []⟩
theorem evenOk : evenP.Ok := ⟨by decide, by decide, by decide, by decide, fun x hx => absurd hx (by simp [evenP])⟩
theorem evenRight : rightB evenP = true := by decide
theorem evenVest : vestL evenP 13 = [⟨0, Num.of 1⟩] := by decide
def sixP : Pln := ⟨6, 0, 0, [], []⟩
theorem sixOk : sixP.Ok := ⟨by decide, by decide, by decide, by decide, fun x hx => absurd hx (by simp [sixP])⟩
theorem nilAgg {k : Int} : WkL [.agg [.v (.int .u8 k), .v (.int .u64 0), .v (.int .u64 0), .sl 0 [] 0 .full, .sl 0 [] 0 .full]] [.agg [.v (.int .u8 k), .v (.int .u64 0), .v (.int .u64 0), .sl 5 [] 0 .shut, .sl 2 [] 0 .shut]] :=
  .cons (WkL.agg (.cons (Wk.refl _) (.cons (Wk.refl _) (.cons (Wk.refl _) (.cons (Wk.nil _ _ _) (.cons (Wk.nil _ _ _) .nil)))))) .nil
theorem plrightZ_ok {σ : St} : CallsA Try.prog 18 [.agg [.v (.int .u8 0), .v (.int .u64 0), .v (.int .u64 0), .sl 0 [] 0 .full, .sl 0 [] 0 .full]] σ (fun av σ' => av = .v (.bool true) ∧ σ = σ') := by
  have h := plright_ok (σ := σ) okZero
  rw [show rightB ⟨0, 0, 0, [], []⟩ = true by decide] at h
  exact callsA_wk nilAgg h
theorem plrightS_ok {σ : St} : CallsA Try.prog 18 [.agg [.v (.int .u8 6), .v (.int .u64 0), .v (.int .u64 0), .sl 0 [] 0 .full, .sl 0 [] 0 .full]] σ (fun av σ' => av = .v (.bool false) ∧ σ = σ') := by
  have h := plright_ok (σ := σ) sixOk
  rw [show rightB sixP = false by decide] at h
  exact callsA_wk nilAgg h
theorem evenAgg {tl : Tail} : WkL [.agg [.v (.int .u8 1), .v (.int .u64 10), .v (.int .u64 20), .sl 5 [.v (.int .u8 0), .v (.int .u64 5), .v (.int .u64 0), .v (.int .u64 0), .v (.int .u64 0)] 1 tl, .sl 0 [] 0 .full]] [.agg (plnC evenP)] :=
  .cons (WkL.agg (.cons (Wk.refl _) (.cons (Wk.refl _) (.cons (Wk.refl _) (.cons (Wk.shut _ _ _ _) (.cons (Wk.nil _ _ _) .nil)))))) .nil
theorem plrightE_ok {σ : St} {tl : Tail} : CallsA Try.prog 18 [.agg [.v (.int .u8 1), .v (.int .u64 10), .v (.int .u64 20), .sl 5 [.v (.int .u8 0), .v (.int .u64 5), .v (.int .u64 0), .v (.int .u64 0), .v (.int .u64 0)] 1 tl, .sl 0 [] 0 .full]] σ (fun av σ' => av = .v (.bool true) ∧ σ = σ') := by
  have h := plright_ok (σ := σ) evenOk
  rw [evenRight] at h
  exact callsA_wk evenAgg h
theorem pvestedE_ok {σ : St} {tl : Tail} : CallsA Try.prog 23 [.agg [.v (.int .u8 1), .v (.int .u64 10), .v (.int .u64 20), .sl 5 [.v (.int .u8 0), .v (.int .u64 5), .v (.int .u64 0), .v (.int .u64 0), .v (.int .u64 0)] 1 tl, .sl 0 [] 0 .full], .v (.int .u64 13)] σ (fun av σ' => av = .sl 5 [.v (.int .u8 0), .v (.int .u64 1), .v (.int .u64 0), .v (.int .u64 0), .v (.int .u64 0)] 1 .shut ∧ σ = σ') := by
  have h := pvested_ok (σ := σ) (t := 13) evenOk (by decide) (by decide) (by decide)
  rw [evenVest] at h
  refine callsA_wk (bs := [.agg (plnC evenP), .v (.int .u64 13)]) ?_ h
  exact .cons (WkL.agg (.cons (Wk.refl _) (.cons (Wk.refl _) (.cons (Wk.refl _) (.cons (Wk.shut _ _ _ _) (.cons (Wk.nil _ _ _) .nil)))))) (.cons (Wk.refl _) .nil)

set_option maxHeartbeats 1600000 in
attribute [local simp] undefA List.getElem?_cons_zero List.getElem?_cons_succ in
theorem even_ok {σ : St} : CallsA Try.prog 17 [] σ (fun av σ' => av = .v (.bool true) ∧ σ = σ') := by
  refine callsA_gcS ?_ rfl
  have hdr : ∀ f : Nat → AV, List.drop 5 (List.map f (List.range 5)) = [] := fun _ => rfl
  have heq : cellsEqA [.v (.int .u64 1), .v (.int .u64 0), .v (.int .u64 0), .v (.int .u64 0)] [.v (.int .u64 1), .v (.int .u64 0), .v (.int .u64 0), .v (.int .u64 0)] = true := by decide
  have F := And.intro hdr (And.intro heq (True.intro))
  refine callsA_body Try.func17 rfl rfl rfl ?_
  refine sq fun K1 hK1 => ?_
  refine rg' (h := fun J2 hJ2 => ?_)
  refine hJ2 _ _ ?_
  refine hK1 _ _ ?_
  refine sq fun K3 hK3 => ?_
  refine rg' (h := fun J4 hJ4 => ?_)
  refine hJ4 _ _ ?_
  refine hK3 _ _ ?_
  refine sq fun K5 hK5 => ?_
  refine rg' (h := fun J6 hJ6 => ?_)
  refine ca (c := pvestedE_ok) (k := ?_)
  rintro _ _ ⟨rfl, rfl⟩
  repeat (first | simp [F] | simp (disch := omega) only [wC, if_pos, if_neg])
  refine hJ6 _ _ ?_
  refine hK5 _ _ ?_
  refine sq fun K7 hK7 => ?_
  refine rg' (h := fun J8 hJ8 => ?_)
  refine ca (c := plrightE_ok) (k := ?_)
  rintro _ _ ⟨rfl, rfl⟩
  repeat (first | simp [F] | simp (disch := omega) only [wC, if_pos, if_neg])
  refine gs 11 (fun g3_2 => ?_) (fun g3_2 => ?_)
  · try exact nope g3_2
    all_goals have g3_2p := g3_2
    all_goals try simp [F] at g3_2p
    all_goals
     replace F := And.intro g3_2 F
     try replace F := And.intro g3_2p F
     refine go2 (k := ?_)
     refine go2 (k := ?_)
     refine go2 (k := ?_)
     refine gs 16 (fun g3_7 => ?_) (fun g3_7 => ?_)
     · try exact nope g3_7
       all_goals have g3_7p := g3_7
       all_goals try simp [F] at g3_7p
       all_goals
        replace F := And.intro g3_7 F
        try replace F := And.intro g3_7p F
        refine go2 (k := ?_)
        refine go2 (k := ?_)
        refine go2 (k := ?_)
        refine go2 (k := ?_)
        refine go2 (k := ?_)
        refine go2 (k := ?_)
        refine gs 24 (fun g3_15 => ?_) (fun g3_15 => ?_)
        · try exact nope g3_15
          all_goals have g3_15p := g3_15
          all_goals try simp [F] at g3_15p
          all_goals
           replace F := And.intro g3_15 F
           try replace F := And.intro g3_15p F
           refine go2 (k := ?_)
           refine ca (c := plrightZ_ok) (k := ?_)
           rintro _ _ ⟨rfl, rfl⟩
           repeat (first | simp [F] | simp (disch := omega) only [wC, if_pos, if_neg])
           refine gs 28 (fun g3_19 => ?_) (fun g3_19 => ?_)
           · try exact nope g3_19
             all_goals have g3_19p := g3_19
             all_goals try simp [F] at g3_19p
             all_goals
              replace F := And.intro g3_19 F
              try replace F := And.intro g3_19p F
              refine go2 (k := ?_)
              refine ca (c := plrightS_ok) (k := ?_)
              rintro _ _ ⟨rfl, rfl⟩
              repeat (first | simp [F] | simp (disch := omega) only [wC, if_pos, if_neg])
              refine go2 (k := ?_)
              refine hJ8 _ _ ?_
              refine hK7 _ _ ?_
              refine run_ret ?_
              try simp only [Then, InBlock, NoGoto]
              refine answer_tmp rfl (.inr rfl) ?_
              exact gcr
           try exact nope g3_19
           all_goals have g3_19p := g3_19
           all_goals try simp [F] at g3_19p
           all_goals
            replace F := And.intro g3_19 F
            try replace F := And.intro g3_19p F
            refine no2 (k := ?_)
            refine no2 (k := ?_)
            refine no2 (k := ?_)
            refine hJ8 _ _ ?_
            refine hK7 _ _ ?_
            refine run_ret ?_
            try simp only [Then, InBlock, NoGoto]
            refine answer_tmp rfl (.inr rfl) ?_
            exact gcr
        try exact nope g3_15
        all_goals have g3_15p := g3_15
        all_goals try simp [F] at g3_15p
        all_goals
         replace F := And.intro g3_15 F
         try replace F := And.intro g3_15p F
         refine no2 (k := ?_)
         refine no2 (k := ?_)
         refine no2 (k := ?_)
         refine no2 (k := ?_)
         refine no2 (k := ?_)
         refine hJ8 _ _ ?_
         refine hK7 _ _ ?_
         refine run_ret ?_
         try simp only [Then, InBlock, NoGoto]
         refine answer_tmp rfl (.inr rfl) ?_
         exact gcr
     try exact nope g3_7
     all_goals have g3_7p := g3_7
     all_goals try simp [F] at g3_7p
     all_goals
      replace F := And.intro g3_7 F
      try replace F := And.intro g3_7p F
      refine no2 (k := ?_)
      refine no2 (k := ?_)
      refine no2 (k := ?_)
      refine no2 (k := ?_)
      refine no2 (k := ?_)
      refine no2 (k := ?_)
      refine no2 (k := ?_)
      refine no2 (k := ?_)
      refine no2 (k := ?_)
      refine no2 (k := ?_)
      refine no2 (k := ?_)
      refine hJ8 _ _ ?_
      refine hK7 _ _ ?_
      refine run_ret ?_
      try simp only [Then, InBlock, NoGoto]
      refine answer_tmp rfl (.inr rfl) ?_
      exact gcr
  try exact nope g3_2
  all_goals have g3_2p := g3_2
  all_goals try simp [F] at g3_2p
  all_goals
   replace F := And.intro g3_2 F
   try replace F := And.intro g3_2p F
   refine no2 (k := ?_)
   refine no2 (k := ?_)
   refine no2 (k := ?_)
   refine no2 (k := ?_)
   refine no2 (k := ?_)
   refine no2 (k := ?_)
   refine no2 (k := ?_)
   refine no2 (k := ?_)
   refine no2 (k := ?_)
   refine no2 (k := ?_)
   refine no2 (k := ?_)
   refine no2 (k := ?_)
   refine no2 (k := ?_)
   refine no2 (k := ?_)
   refine hJ8 _ _ ?_
   refine hK7 _ _ ?_
   refine run_ret ?_
   try simp only [Then, InBlock, NoGoto]
   refine answer_tmp rfl (.inr rfl) ?_
   exact gcr

end Go.Proofs.Ytdbaddholggkbaa

/-
  Plans that are made of numbers: they are right.
-/
namespace Go.Vm
set_option linter.unnecessarySimpa false
set_option linter.unusedSimpArgs false
set_option linter.unusedVariables false
open Go

/-- What the list's coins put into a purse, the last of a kind counting. -/
def ofF : List Coin → Nat → Nat
  | [], _ => 0
  | c :: l, j => if ∃ b ∈ l, b.d.toNat % 8 = j then ofF l j else if c.d.toNat % 8 = j then c.n.v % 2 ^ 250 else 0
theorem ofF_lt : ∀ (l : List Coin) (j : Nat), ofF l j < 2 ^ 250
  | [], _ => by simp [ofF]
  | c :: l, j => by
    unfold ofF
    split
    · exact ofF_lt l j
    · split
      · exact Nat.mod_lt _ (by decide)
      · decide
theorem ofF_snoc : ∀ (l : List Coin) (c : Coin) (j : Nat), ofF (l ++ [c]) j = if j = c.d.toNat % 8 then c.n.v % 2 ^ 250 else ofF l j
  | [], c, j => by
    simp only [List.nil_append, ofF]
    by_cases h : j = c.d.toNat % 8
    · rw [if_pos h, if_neg (by simp), if_pos h.symm]
    · rw [if_neg h, if_neg (by simp), if_neg (fun e => h e.symm)]
  | x :: l, c, j => by
    have ih := ofF_snoc l c j
    rw [List.cons_append]
    unfold ofF
    rw [ih]
    by_cases h : j = c.d.toNat % 8
    · rw [if_pos h, if_pos h, if_pos ⟨c, by simp, h.symm⟩]
    · rw [if_neg h, if_neg h]
      have : (∃ b ∈ l ++ [c], b.d.toNat % 8 = j) ↔ ∃ b ∈ l, b.d.toNat % 8 = j := by
        constructor
        · rintro ⟨b, hb, e⟩
          rcases List.mem_append.1 hb with hb | hb
          · exact ⟨b, hb, e⟩
          · simp at hb; subst hb; exact absurd e.symm h
        · rintro ⟨b, hb, e⟩; exact ⟨b, by simp [hb], e⟩
      by_cases h2 : ∃ b ∈ l, b.d.toNat % 8 = j
      · rw [if_pos (this.2 h2), if_pos h2]
      · rw [if_neg (fun h3 => h2 (this.1 h3)), if_neg h2]
def oneC : List Coin := [⟨0, Num.of 1⟩]
def ofL (l : List Coin) : List Coin := if lstF (ofF l) 8 = [] then oneC else lstF (ofF l) 8
theorem right_ofL (l : List Coin) : Right (ofL l) := by
  unfold ofL
  split
  · unfold oneC; simp [Right]
  · exact right_lstF (fun d _ => Nat.lt_trans (ofF_lt l d) (by decide)) 8 (by omega)
theorem ofL_ne (l : List Coin) : ofL l ≠ [] := by
  unfold ofL
  split
  · simp [oneC]
  · assumption
theorem ofL_lt (l : List Coin) {d : Nat} (hd : d < 8) : amt (ofL l) d < 2 ^ 250 := by
  unfold ofL
  split
  · unfold oneC; simp only [amt]; split
    · rw [Num.of_v (by decide)]; decide
    · decide
  · rw [amt_lstF (fun d _ => Nat.lt_trans (ofF_lt l d) (by decide)) (by omega) hd]; exact ofF_lt l d

/-- A piece: a length and coins. -/
structure Pc where
  l : Nat
  c : List Coin
/-- What a plan is made of. -/
structure Mad where
  k : UInt8
  s : Nat
  n : Nat
  c : List Coin
  ps : List Pc
def Mad.Ok (m : Mad) : Prop := m.s < 2 ^ 32 ∧ m.n < 2 ^ 16 ∧ ∀ x ∈ m.ps, x.l < 2 ^ 16
def persL (m : Mad) : List Per := if m.ps = [] then [⟨m.n + 1, ofL []⟩] else (m.ps.take 16).map (fun x => ⟨x.l + 1, ofL x.c⟩)
def kindM (m : Mad) : UInt8 := m.k % 6
def plansL (m : Mad) : Pln :=
  if kindM m = 0 then ⟨0, 0, 0, [], []⟩
  else if kindM m = 1 then ⟨1, m.s, m.s + (m.n + 1), ofL m.c, []⟩
  else if kindM m = 2 then ⟨2, 0, m.s, ofL m.c, []⟩
  else if kindM m = 3 ∨ kindM m = 5 then ⟨kindM m, m.s, m.s + lenS (persL m), sumL (persL m) [], persL m⟩
  else ⟨kindM m, 0, 0, ofL m.c, []⟩

/-- Parts that are right, and few enough, add up. -/
theorem perOk_ok : ∀ (l : List Per) (E n : Nat) (a : List Coin), E + lenS l ≤ 2 ^ 40 → (∀ x ∈ l, 0 < x.l ∧ x.l ≤ 2 ^ 16 ∧ x.c ≠ [] ∧ Right x.c ∧ ∀ d, d < 8 → amt x.c d < 2 ^ 250) → n + l.length ≤ 32 → (∀ d, d < 8 → amt a d ≤ n * 2 ^ 250) →
    perOk l E a = some (E + lenS l, sumL l a)
  | [], E, n, a, _, _, _, _ => rfl
  | x :: l, E, n, a, hE, hx, hn, ha => by
    obtain ⟨h1, h2, h3, h4, h5⟩ := hx x (by simp)
    simp only [lenS, List.length_cons] at hE hn
    have hz : cAddE a x.c = 0 := cAddE_zero.2 (fun d hd => by
      have := ha d hd; have := h5 d hd
      have : n * 2 ^ 250 ≤ 31 * 2 ^ 250 := Nat.mul_le_mul_right _ (by omega)
      omega)
    simp only [perOk, sumL, lenS]
    rw [if_neg (by rintro (h | h | h | h); omega; omega; omega; exact h ⟨h3, h4⟩), if_pos hz]
    rw [perOk_ok l (E + x.l) (n + 1) (cAddL a x.c) (by omega) (fun y hy => hx y (by simp [hy])) (by omega) (fun d hd => by
      rw [amt_cAdd hz hd]
      have := ha d hd; have := h5 d hd
      rw [Nat.add_mul]; omega)]
    rw [Nat.add_assoc]

theorem persL_mem {m : Mad} (hm : m.Ok) : ∀ x ∈ persL m, 0 < x.l ∧ x.l ≤ 2 ^ 16 ∧ x.c ≠ [] ∧ Right x.c ∧ ∀ d, d < 8 → amt x.c d < 2 ^ 250 := by
  intro x hx
  unfold persL at hx
  split at hx
  · simp at hx; subst hx
    have h16 := hm.2.1
    generalize hq : ofL [] = q at *
    have hq1 := ofL_ne []; have hq2 := right_ofL []; have hq3 := @ofL_lt []
    rw [hq] at hq1 hq2 hq3
    exact ⟨Nat.succ_pos _, Nat.succ_le_of_lt h16, hq1, hq2, fun d hd => hq3 hd⟩
  · obtain ⟨y, hy, rfl⟩ := List.mem_map.1 hx
    have := hm.2.2 y (List.mem_of_mem_take hy)
    have hq1 := ofL_ne y.c; have hq2 := right_ofL y.c; have hq3 := @ofL_lt y.c
    exact ⟨Nat.succ_pos _, Nat.succ_le_of_lt this, hq1, hq2, fun d hd => hq3 hd⟩
theorem persL_len (m : Mad) : (persL m).length ≤ 16 := by
  unfold persL; split
  · simp
  · simp; omega
theorem persL_ne (m : Mad) : persL m ≠ [] := by
  unfold persL; split
  · simp
  · rename_i h
    cases hq : m.ps with
    | nil => exact absurd hq h
    | cons x l => simp
theorem lenS_le : ∀ (l : List Per), (∀ x ∈ l, x.l ≤ 2 ^ 16) → lenS l ≤ l.length * 2 ^ 16
  | [], _ => by simp [lenS]
  | x :: l, h => by
    have h1 := h x (by simp)
    have h2 := lenS_le l (fun y hy => h y (by simp [hy]))
    simp only [lenS, List.length_cons, Nat.add_mul]
    omega
theorem lenS_persL {m : Mad} (hm : m.Ok) : lenS (persL m) ≤ 2 ^ 20 := by
  have := lenS_le (persL m) (fun x hx => (persL_mem hm x hx).2.1)
  have := persL_len m
  have : (persL m).length * 2 ^ 16 ≤ 16 * 2 ^ 16 := Nat.mul_le_mul_right _ this
  omega
theorem perOk_persL {m : Mad} (hm : m.Ok) : perOk (persL m) m.s [] = some (m.s + lenS (persL m), sumL (persL m) []) :=
  perOk_ok (persL m) m.s 0 [] (by have := lenS_persL hm; have := hm.1; omega) (persL_mem hm) (by have := persL_len m; omega) (fun d _ => by simp [amt])
theorem amt_ne {l : List Coin} (h : Right l) (hn : l ≠ []) : ∃ d, d < 8 ∧ amt l d ≠ 0 := by
  cases l with
  | nil => exact absurd rfl hn
  | cons c l =>
    have h1 := h.1 c (by simp)
    refine ⟨c.d.toNat, h1.1, ?_⟩
    rw [amt_mem h.2 (by simp)]
    exact h1.2
theorem sumL_le : ∀ (l : List Per) (n : Nat) (a : List Coin), (∀ x ∈ l, 0 < x.l ∧ x.l ≤ 2 ^ 16 ∧ x.c ≠ [] ∧ Right x.c ∧ ∀ d, d < 8 → amt x.c d < 2 ^ 250) → n + l.length ≤ 32 → (∀ d, d < 8 → amt a d ≤ n * 2 ^ 250) → ∀ d, d < 8 → amt a d ≤ amt (sumL l a) d
  | [], _, _, _, _, _, _, _ => Nat.le_refl _
  | x :: l, n, a, hx, hn, ha, d, hd => by
    obtain ⟨h1, h2, h3, h4, h5⟩ := hx x (by simp)
    simp only [List.length_cons] at hn
    have hz : cAddE a x.c = 0 := cAddE_zero.2 (fun d hd => by
      have := ha d hd; have := h5 d hd
      have : n * 2 ^ 250 ≤ 31 * 2 ^ 250 := Nat.mul_le_mul_right _ (by omega)
      omega)
    have := sumL_le l (n + 1) (cAddL a x.c) (fun y hy => hx y (by simp [hy])) (by omega) (fun d hd => by
      rw [amt_cAdd hz hd]
      have := ha d hd; have := h5 d hd
      rw [Nat.add_mul]; omega) d hd
    rw [amt_cAdd hz hd] at this
    simp only [sumL]; omega
theorem sumL_ne {m : Mad} (hm : m.Ok) : sumL (persL m) [] ≠ [] := by
  intro h0
  have hx := persL_mem hm
  have hl := persL_len m
  cases hq : persL m with
  | nil => exact persL_ne m hq
  | cons x l =>
    rw [hq] at hx hl h0
    obtain ⟨h1, h2, h3, h4, h5⟩ := hx x (by simp)
    obtain ⟨d, hd, hz⟩ := amt_ne h4 h3
    have hz0 : cAddE [] x.c = 0 := cAddE_zero.2 (fun d hd => by have := h5 d hd; simp only [amt]; omega)
    have hle := sumL_le l 1 (cAddL [] x.c) (fun y hy => hx y (by simp [hy])) (by simp at hl; omega) (fun d hd => by rw [amt_cAdd hz0 hd]; have := h5 d hd; simp only [amt]; omega) d hd
    simp only [sumL] at h0
    rw [h0, amt_cAdd hz0 hd] at hle
    simp only [amt] at hle
    omega

theorem right_plansL {m : Mad} (hm : m.Ok) : rightB (plansL m) = true := by
  have h3 := lenS_persL hm
  have h4 := perOk_persL hm
  have h5 := persL_len m
  have h6 : kindM m < 6 := by
    unfold kindM; exact UInt8.mod_lt _ (by decide)
  unfold plansL
  by_cases k0 : kindM m = 0
  · rw [if_pos k0]; decide
  rw [if_neg k0]
  by_cases k1 : kindM m = 1
  · rw [if_pos k1]; simp [rightB, ofL_ne, right_ofL]; have := hm.1; have := hm.2.1; omega
  rw [if_neg k1]
  by_cases k2 : kindM m = 2
  · rw [if_pos k2]; simp [rightB, ofL_ne, right_ofL]; have := hm.1; omega
  rw [if_neg k2]
  by_cases k3 : kindM m = 3 ∨ kindM m = 5
  · rw [if_pos k3]
    have e1 : ¬ 2 ^ 40 < m.s + lenS (persL m) := by have := hm.1; omega
    have hr : Right (sumL (persL m) []) := right_sumL _ _ right_nil
    rw [rightB, if_neg k0, if_neg (by rintro (h | h); exact h ⟨sumL_ne hm, hr⟩; exact e1 h), if_neg k1, if_neg k2, if_neg (by rcases k3 with h | h <;> simp only [h] <;> decide), if_pos k3]
    simp [perB, h4, h5]
  · rw [if_neg k3]
    have k4 : kindM m = 4 := by
      have a0 : ∀ n : UInt8, kindM m = n ↔ (kindM m).toNat = n.toNat := fun n => ⟨fun e => by rw [e], fun e => UInt8.toNat_inj.1 e⟩
      simp only [a0] at k0 k1 k2 k3 ⊢
      have : (kindM m).toNat < 6 := h6
      simp at k0 k1 k2 k3 ⊢
      omega
    rw [k4]; simp [rightB, ofL_ne, right_ofL]

/-- A piece's cells, and those of what a plan is made of. -/
def pcC (x : Pc) : List AV := [.v (.int .u16 x.l), .sl 5 (coinsC x.c) x.c.length .shut]
def pcsC (l : List Pc) : List AV := l.flatMap pcC
def madC (m : Mad) : List AV := [.v (.int .u8 m.k.toNat), .v (.int .u32 m.s), .v (.int .u16 m.n), .sl 5 (coinsC m.c) m.c.length .shut, .sl 2 (pcsC m.ps) m.ps.length .shut]
@[simp] theorem pcsC_nil : pcsC [] = [] := rfl
@[simp] theorem pcsC_len (l : List Pc) : (pcsC l).length = l.length * 2 := flat_length pcC 2 (fun _ => rfl) l
theorem pcsC_at {l : List Pc} {i : Nat} (h : i < l.length) : (pcsC l).drop (i * 2) = pcC l[i] ++ restC pcC l i := flat_at pcC 2 (fun _ => rfl) l i h
theorem pcsC_noObj (n : Nat) : ∀ l : List Pc, noObjL n (pcsC l) = true := noObjL_flat (fun p => by simp [pcC, noObjL, AV.noObj, coinsC, noObjL_flat, coinC, numA])
def fewP (m : Mad) : Prop := m.c.length ≤ 20 ∧ m.ps.length ≤ 20 ∧ ∀ x ∈ m.ps, x.c.length ≤ 20
instance (m : Mad) : Decidable (fewP m) := inferInstanceAs (Decidable (_ ∧ _ ∧ _))

end Go.Vm

/-
  What plans are made of..
-/
namespace Go.Proofs.Ytdbaddholggkbaa
set_option linter.unnecessarySimpa false
set_option maxRecDepth 100000
open Go Go.Vm
set_option linter.unusedSimpArgs false
set_option linter.unusedVariables false

attribute [local simp] evalL wantedA isCall opA evalA evalAll evalsA evalOpt ofValue ofCell plain binA_eql_pn binA_neq_pn binA_gtr binA_lss binA_geq binA_leq binA_add binA_sub binA_eql binA_neq binA_orI binA_andI binA_shl binA_shr binA_mul binA_quo binA_rem binA_agg_eql binA_agg_neq convA_int unA_not fieldAddrA loadA partA pickA_true pickA_false pickA_bb lenA builtinA storeA splice AV.cells AV.isCell sliceA boundA intA callOf indexAddrA newObjA buildA fillA zeroA ofCells buildSliceA indexA fieldA numA_len4 numA_take4 numA_drop4 set_appN get_appN take_appN List.getElem?_cons_zero List.getElem?_cons_succ makeA zeros64

set_option maxHeartbeats 1600000 in
attribute [local simp] undefA List.getElem?_cons_zero List.getElem?_cons_succ madC pcC pcsC_noObj in
theorem few_ok {σ : St} {m : Mad} (h1 : m.c.length ≤ 9223372036854775807) (h2 : m.ps.length ≤ 9223372036854775807) (h3 : ∀ x ∈ m.ps, x.c.length ≤ 9223372036854775807) :
    CallsA Try.prog 20 [.agg (madC m)] σ (fun av σ' => av = .v (.bool (decide (fewP m))) ∧ σ = σ') := by
  refine callsA_gcS ?_ rfl
  obtain ⟨mk, ms, mn, mc, mp⟩ := m
  simp only at h1 h2 h3
  have F := True.intro
  refine callsA_body Try.func20 rfl rfl rfl ?_
  refine sq fun K1 hK1 => ?_
  refine rg' (h := fun J2 hJ2 => ?_)
  refine hJ2 _ _ ?_
  refine hK1 _ _ ?_
  refine sq fun K3 hK3 => ?_
  refine sq fun K4 hK4 => ?_
  refine rg' (h := fun J5 hJ5 => ?_)
  refine gs 8 (fun g1_4 => ?_) (fun g1_4 => ?_)
  · try exact nope g1_4
    all_goals have g1_4p := g1_4
    all_goals try simp [F] at g1_4p
    all_goals
     replace F := And.intro g1_4 F
     try replace F := And.intro g1_4p F
     have hn : ¬ fewP ⟨mk, ms, mn, mc, mp⟩ := fun h => by have h0 := h.1; have h := g1_4; simp at h; simp only at h0; omega
     replace F := And.intro hn F
     refine no2 (k := ?_)
     refine no2 (k := ?_)
     refine no2 (k := ?_)
     refine no2 (k := ?_)
     refine hJ5 _ _ ?_
     refine hK4 _ _ ?_
     refine ct ?_
     refine sq fun K6 hK6 => ?_
     refine rg' (h := fun J7 hJ7 => ?_)
     refine hJ7 _ _ ?_
     refine hK6 _ _ ?_
     refine run_ret ?_
     try simp only [Then, InBlock, NoGoto]
     refine answer_tmp rfl (.inr rfl) ?_
     exact gcr
  try exact nope g1_4
  all_goals have g1_4p := g1_4
  all_goals try simp [F] at g1_4p
  all_goals
   replace F := And.intro g1_4 F
   try replace F := And.intro g1_4p F
   refine go2 (k := ?_)
   refine go2 (k := ?_)
   refine go2 (k := ?_)
   refine go2 (k := ?_)
   refine hJ5 _ _ ?_
   refine hK4 _ _ ?_
   refine cs (fun c13 => ?_) (fun c13 => ?_)
   · try exact nope c13
     all_goals have c13p := c13
     all_goals try simp [F] at c13p
     all_goals
      replace F := And.intro c13 F
      try replace F := And.intro c13p F
      have hn : ¬ fewP ⟨mk, ms, mn, mc, mp⟩ := fun h => by have h0 := h.2.1; have h := c13; simp at h; simp only at h0; omega
      replace F := And.intro hn F
      refine sq fun K8 hK8 => ?_
      refine rg' (h := fun J9 hJ9 => ?_)
      refine hJ9 _ _ ?_
      refine hK8 _ _ ?_
      refine run_ret ?_
      try simp only [Then, InBlock, NoGoto]
      refine answer_tmp rfl (.inr rfl) ?_
      exact gcr
   try exact nope c13
   all_goals have c13p := c13
   all_goals try simp [F] at c13p
   all_goals
    replace F := And.intro c13 F
    try replace F := And.intro c13p F
    refine run_skip ?_
    refine hK3 _ _ ?_
    refine sq fun K10 hK10 => ?_
    refine sq fun K11 hK11 => ?_
    refine rg' (h := fun J12 hJ12 => ?_)
    refine hJ12 _ _ ?_
    refine hK11 _ _ ?_
    refine run_block_k ?_
    refine run_loopF (X := Nat) [1] (fun i ρ σ1 => (i ≤ mp.length) ∧ (∀ x ∈ mp.take i, x.c.length ≤ 20) ∧ (ρ 3 = .v (.int .i64 i)) ∧ (σ1 = { σ with objs := σ.objs ++ [[.v (.int .u8 mk.toNat), .v (.int .u32 ms), .v (.int .u16 mn), .sl 5 (coinsC mc) mc.length .shut, .sl 2 (pcsC mp) mp.length .shut]] })) (fun i => mp.length - i) (0) ?st1 ?rd1
    case st1 =>
     refine ⟨lp, ?_, lp, ?_⟩
     · intro x hx
       simp at hx
     · rfl
    case rd1 =>
     rintro i ρ1 σ1 hF1 ⟨hi, hE, h4, hσ⟩
     obtain rfl := hσ.symm
     have f1 := keepL hF1
     try simp [KeepL, F] at f1
     replace F := And.intro h4 F
     try replace F := And.intro f1 F
     refine sq fun K13 hK13 => ?_
     refine sq fun K14 hK14 => ?_
     refine rg' (h := fun J15 hJ15 => ?_)
     refine hJ15 _ _ ?_
     refine hK14 _ _ ?_
     refine cs (fun c18 => ?_) (fun c18 => ?_)
     · try exact nope c18
       all_goals have c18p := c18
       all_goals try simp [F] at c18p
       all_goals
        replace F := And.intro c18 F
        try replace F := And.intro c18p F
        refine run_skip ?_
        refine hK13 _ _ ?_
        refine sq fun K16 hK16 => ?_
        refine run_block_k ?_
        refine sq fun K17 hK17 => ?_
        have hlt : i < mp.length := by simp at c18; omega
        have hat := pcsC_at hlt
        have hb1 : i * 2 + 2 ≤ mp.length * 2 := by omega
        have hx3 := h3 _ (List.getElem_mem hlt)
        obtain ⟨x, hx⟩ : ∃ x, x = mp[i] := ⟨_, rfl⟩
        rw [← hx] at hat hx3
        have hta : mp.take (i + 1) = mp.take i ++ [x] := by rw [hx]; exact (List.take_append_getElem hlt).symm
        replace F := And.intro hlt F
        replace F := And.intro hat F
        replace F := And.intro hb1 F
        refine rg' (h := fun J18 hJ18 => ?_)
        refine hJ18 _ _ ?_
        refine hK17 _ _ ?_
        refine cs (fun c28 => ?_) (fun c28 => ?_)
        · try exact nope c28
          all_goals have c28p := c28
          all_goals try simp [F] at c28p
          all_goals
           replace F := And.intro c28 F
           try replace F := And.intro c28p F
           have hn : ¬ fewP ⟨mk, ms, mn, mc, mp⟩ := fun h => by have h0 := h.2.2 x (by rw [hx]; exact List.getElem_mem _); have h := c28; simp at h; omega
           replace F := And.intro hn F
           refine sq fun K19 hK19 => ?_
           refine rg' (h := fun J20 hJ20 => ?_)
           refine hJ20 _ _ ?_
           refine hK19 _ _ ?_
           refine run_ret ?_
           try simp only [Then, InBlock, NoGoto]
           refine answer_tmp rfl (.inr rfl) ?_
           exact gcr
        try exact nope c28
        all_goals have c28p := c28
        all_goals try simp [F] at c28p
        all_goals
         replace F := And.intro c28 F
         try replace F := And.intro c28p F
         have hxs : x.c.length ≤ 20 := by have h := c28; simp at h; omega
         refine run_skip ?_
         refine hK16 _ _ ?_
         refine rg' (h := fun J21 hJ21 => ?_)
         refine hJ21 _ _ ?_
         refine ⟨(i + 1), ⟨kp, lp, ?_, lp, lp⟩, lp⟩
         · rw [hta]
           intro y hy
           rcases List.mem_append.1 hy with h | h
           · exact hE y h
           · simp at h; subst h; exact hxs
     try exact nope c18
     all_goals have c18p := c18
     all_goals try simp [F] at c18p
     all_goals
      replace F := And.intro c18 F
      try replace F := And.intro c18p F
      have hy : fewP ⟨mk, ms, mn, mc, mp⟩ := by
        refine ⟨?_, ?_, ?_⟩
        · show mc.length ≤ 20; have h := g1_4; simp at h; omega
        · show mp.length ≤ 20; have h := c13; simp at h; omega
        · rw [List.take_of_length_le (by have h := c18; simp at h; omega)] at hE; exact hE
      replace F := And.intro hy F
      refine run_exit ?_
      refine hK10 _ _ ?_
      refine sq fun K22 hK22 => ?_
      refine rg' (h := fun J23 hJ23 => ?_)
      refine hJ23 _ _ ?_
      refine hK22 _ _ ?_
      refine run_ret ?_
      try simp only [Then, InBlock, NoGoto]
      refine answer_tmp rfl (.inr rfl) ?_
      exact gcr

end Go.Proofs.Ytdbaddholggkbaa

/-
  Right coins of any..
-/
namespace Go.Proofs.Ytdbaddholggkbaa
set_option linter.unnecessarySimpa false
set_option maxRecDepth 100000
open Go Go.Vm
set_option linter.unusedSimpArgs false
set_option linter.unusedVariables false

attribute [local simp] evalL wantedA isCall opA evalA evalAll evalsA evalOpt ofValue ofCell plain binA_eql_pn binA_neq_pn binA_gtr binA_lss binA_geq binA_leq binA_add binA_sub binA_eql binA_neq binA_orI binA_andI binA_shl binA_shr binA_mul binA_quo binA_rem binA_agg_eql binA_agg_neq convA_int unA_not fieldAddrA loadA partA pickA_true pickA_false pickA_bb lenA builtinA storeA splice AV.cells AV.isCell sliceA boundA intA callOf indexAddrA newObjA buildA fillA zeroA ofCells buildSliceA indexA fieldA numA_len4 numA_take4 numA_drop4 set_appN get_appN take_appN List.getElem?_cons_zero List.getElem?_cons_succ makeA zeros64

theorem num250 (n : Nat) : [AV.v (.int .u64 (limb n 0)), AV.v (.int .u64 (limb n 1)), AV.v (.int .u64 (limb n 2)), AV.v (.int .u64 ((limb n 3 % 288230376151711744 : Nat) : Int))] = numA (n % 2 ^ 250) := by
  have e0 : limb (n % 2 ^ 250) 0 = limb n 0 := by simp only [limb]; omega
  have e1 : limb (n % 2 ^ 250) 1 = limb n 1 := by simp only [limb]; omega
  have e2 : limb (n % 2 ^ 250) 2 = limb n 2 := by simp only [limb]; omega
  have e3 : limb (n % 2 ^ 250) 3 = limb n 3 % 288230376151711744 := by simp only [limb]; omega
  simp only [numA, e0, e1, e2, e3]

set_option maxHeartbeats 1600000 in
attribute [local simp] undefA List.getElem?_cons_zero List.getElem?_cons_succ in
theorem of_ok {σ : St} {l : List Coin} {tl : Tail} (hl : l.length ≤ 1000000) :
    CallsA Try.prog 62 [.sl 5 (coinsC l) l.length tl] σ (fun av σ' => av = .sl 5 (coinsC (ofL l)) (ofL l).length .shut ∧ σ = σ') := by
  refine callsA_gcS ?_ (by simp [AV.under])
  have hPl := pur_len
  have hPt := pur_take
  have hPd := pur_drop
  have hPn : ∀ n g, noObjL n (purA (purF g)) = true := fun n g => purA_noObj n _
  have hPc := pur_all
  simp only [AV.isCell] at hPc
  have hdr : ∀ f : Nat → AV, List.drop 5 (List.map f (List.range 5)) = [] := fun _ => rfl
  have hone : [AV.v (.int .u8 0), AV.v (.int .u64 1), AV.v (.int .u64 0), AV.v (.int .u64 0), AV.v (.int .u64 0)] = coinsC oneC := by simp [coinsC, coinC, oneC, numA, limb, Num.of]
  have hlt8 : ∀ d, d < 8 → ofF l d < 2 ^ 256 := fun d _ => Nat.lt_trans (ofF_lt l d) (by decide)
  obtain ⟨R, hR⟩ : ∃ R, R = lstF (ofF l) 8 := ⟨_, rfl⟩
  have F := And.intro hPl (And.intro hPt (And.intro hPd (And.intro hPc (And.intro hPn (And.intro hdr (True.intro))))))
  refine callsA_body Try.func62 rfl rfl rfl ?_
  refine sq fun K1 hK1 => ?_
  refine rg' (h := fun J2 hJ2 => ?_)
  refine hJ2 _ _ ?_
  refine hK1 _ _ ?_
  refine sq fun K3 hK3 => ?_
  refine rg' (h := fun J4 hJ4 => ?_)
  refine hJ4 _ _ ?_
  refine hK3 _ _ ?_
  refine sq fun K5 hK5 => ?_
  refine sq fun K6 hK6 => ?_
  refine rg' (h := fun J7 hJ7 => ?_)
  refine hJ7 _ _ ?_
  refine hK6 _ _ ?_
  refine run_block_k ?_
  refine run_loopF (X := Nat) [0, 2, 3] (fun i ρ σ1 => (i ≤ l.length) ∧ (ρ 4 = .v (.int .i64 i)) ∧ (σ1 = { σ with objs := σ.objs ++ [purA (purF (ofF (l.take i)))] })) (fun i => l.length - i) (0) ?st1 ?rd1
  case st1 =>
   refine ⟨lp, lp, ?_⟩
   · simp only [List.take_zero, show ofF [] = fun _ => 0 from rfl, purA_zero]
  case rd1 =>
   rintro i ρ1 σ1 hF1 ⟨hi, h4, hσ⟩
   obtain rfl := hσ.symm
   have f1 := keepL hF1
   try simp [KeepL, F] at f1
   replace F := And.intro h4 F
   try replace F := And.intro f1 F
   refine sq fun K8 hK8 => ?_
   refine sq fun K9 hK9 => ?_
   refine rg' (h := fun J10 hJ10 => ?_)
   refine hJ10 _ _ ?_
   refine hK9 _ _ ?_
   refine cs (fun c9 => ?_) (fun c9 => ?_)
   · try exact nope c9
     all_goals have c9p := c9
     all_goals try simp [F] at c9p
     all_goals
      replace F := And.intro c9 F
      try replace F := And.intro c9p F
      refine run_skip ?_
      refine hK8 _ _ ?_
      refine sq fun K11 hK11 => ?_
      refine run_block_k ?_
      have hlt : i < l.length := by simp at c9; omega
      have hat := coinsC_at hlt
      have hb1 : i * 5 + 5 ≤ l.length * 5 := by omega
      obtain ⟨c, hc⟩ : ∃ c, c = l[i] := ⟨_, rfl⟩
      rw [← hc] at hat
      simp only [coinC, numA, List.cons_append, List.nil_append] at hat
      have htk : l.take (i + 1) = l.take i ++ [c] := by rw [hc]; exact (List.take_append_getElem hlt).symm
      obtain ⟨D, hD⟩ : ∃ D, D = c.d.toNat := ⟨_, rfl⟩
      rw [← hD] at hat
      obtain ⟨e, he⟩ : ∃ e, e = D % 8 := ⟨_, rfl⟩
      have he8 : e < 8 := by omega
      have he5 : (e : Int) < 8 := by omega
      have hb2 : e * 4 + 4 ≤ 32 := by omega
      have hm1 : (D : Int) % 8 = (e : Int) := by omega
      have hm2 : (D : Int).tmod 8 = (e : Int) := by rw [Int.tmod_eq_emod_of_nonneg (by omega)]; exact hm1
      obtain ⟨V, hV⟩ : ∃ V, V = limb c.n.v 3 % 288230376151711744 := ⟨_, rfl⟩
      have hv1 : (limb c.n.v 3 : Int) % 288230376151711744 = (V : Int) := by omega
      have hv2 : (limb c.n.v 3 : Int).tmod 288230376151711744 = (V : Int) := by rw [Int.tmod_eq_emod_of_nonneg (by omega)]; exact hv1
      have hset := purA_set (P := purF (ofF (l.take i))) (d := e) (by simpa using he8) (c.n.v % 2 ^ 250)
      rw [purF_set] at hset
      have hnx : purF (fun j => if j = e then c.n.v % 2 ^ 250 else ofF (l.take i) j) = purF (ofF (l.take (i + 1))) := purF_congr (fun j _ => by rw [htk, ofF_snoc, ← hD, ← he])
      rw [hnx, ← num250, ← hV] at hset
      simp only [List.cons_append, List.nil_append] at hset
      replace F := And.intro hat F
      replace F := And.intro hb1 F
      replace F := And.intro hset F
      replace F := And.intro he8 F
      replace F := And.intro he5 F
      replace F := And.intro hb2 F
      replace F := And.intro hm1 F
      replace F := And.intro hm2 F
      replace F := And.intro hv1 F
      replace F := And.intro hv2 F
      refine run_draw (by kernel_rfl) fun J12 hJ12 => ?_
      refine rp2 0 (k := ?_)
      refine rp2 1 (k := ?_)
      refine rp2 2 (k := ?_)
      refine rp2 3 (k := ?_)
      refine rp2 4 (k := ?_)
      refine rp2 5 (k := ?_)
      refine rp2 6 (k := ?_)
      refine rp2 7 (k := ?_)
      refine rp2 8 (k := ?_)
      refine rp2 9 (k := ?_)
      refine rp2 10 (k := ?_)
      refine rp2 11 (k := ?_)
      refine rp2 12 (k := ?_)
      refine rp2 13 (k := ?_)
      refine rp2 14 (k := ?_)
      refine rp2 15 (k := ?_)
      refine rp2 16 (k := ?_)
      refine rp2 17 (k := ?_)
      refine rp2 18 (k := ?_)
      refine rp2 19 (k := ?_)
      refine rp2 20 (k := ?_)
      refine rp2 21 (k := ?_)
      refine rp2 22 (k := ?_)
      refine rp2 23 (k := ?_)
      refine rp2 24 (k := ?_)
      refine rp2 25 (k := ?_)
      refine rp2 26 (k := ?_)
      refine rp2 27 (k := ?_)
      refine rp2 28 (k := ?_)
      refine rp2 29 (k := ?_)
      refine rp2 30 (k := ?_)
      refine rp2 31 (k := ?_)
      refine rp2 32 (k := ?_)
      refine dop 33 rfl ?_
      repeat (first | simp [F] | simp (disch := omega) only [wC, if_pos, if_neg])
      refine ⟨ln, ?_⟩
      refine dd ?_
      refine hJ12 _ _ ?_
      refine hK11 _ _ ?_
      refine rg' (h := fun J13 hJ13 => ?_)
      refine hJ13 _ _ ?_
      refine ⟨(i + 1), ⟨kp, lp, lp, lp⟩, lp⟩
   try exact nope c9
   all_goals have c9p := c9
   all_goals try simp [F] at c9p
   all_goals
    replace F := And.intro c9 F
    try replace F := And.intro c9p F
    have hend : l.take i = l := List.take_of_length_le (by simp at c9; omega)
    rw [hend]
    refine run_exit ?_
    refine hK5 _ _ ?_
    refine sq fun K14 hK14 => ?_
    refine rg' (h := fun J15 hJ15 => ?_)
    refine ca (c := (hR ▸ rlist_ok hlt8)) (k := ?_)
    rintro _ _ ⟨rfl, rfl⟩
    repeat (first | simp [F] | simp (disch := omega) only [wC, if_pos, if_neg])
    refine hJ15 _ _ ?_
    refine hK14 _ _ ?_
    refine sq fun K16 hK16 => ?_
    refine sq fun K17 hK17 => ?_
    refine rg' (h := fun J18 hJ18 => ?_)
    refine hJ18 _ _ ?_
    refine hK17 _ _ ?_
    refine cs (fun c49 => ?_) (fun c49 => ?_)
    · try exact nope c49
      all_goals have c49p := c49
      all_goals try simp [F] at c49p
      all_goals
       replace F := And.intro c49 F
       try replace F := And.intro c49p F
       have h0 : R = [] := by simpa using c49
       have hof : ofL l = oneC := by rw [ofL, if_pos (by rw [← hR]; exact h0)]
       refine sq fun K19 hK19 => ?_
       refine rg' (h := fun J20 hJ20 => ?_)
       refine hJ20 _ _ ?_
       refine hK19 _ _ ?_
       refine run_ret ?_
       try simp only [Then, InBlock, NoGoto]
       refine answer_tmp rfl (.inr rfl) ?_
       rw [hof, ← hone]
       exact gcr (hA := by simp only [putA_get]; simp [F]; exact Wk.shut _ _ _ _)
    try exact nope c49
    all_goals have c49p := c49
    all_goals try simp [F] at c49p
    all_goals
     replace F := And.intro c49 F
     try replace F := And.intro c49p F
     have h0 : ¬ R = [] := fun e => by have h := c49; rw [e] at h; simp at h
     have hof : ofL l = R := by rw [ofL, if_neg (by rw [← hR]; exact h0), hR]
     replace F := And.intro hof F
     refine run_skip ?_
     refine hK16 _ _ ?_
     refine sq fun K21 hK21 => ?_
     refine rg' (h := fun J22 hJ22 => ?_)
     refine hJ22 _ _ ?_
     refine hK21 _ _ ?_
     refine run_ret ?_
     try simp only [Then, InBlock, NoGoto]
     refine answer_tmp rfl (.inr rfl) ?_
     exact gcr

end Go.Proofs.Ytdbaddholggkbaa

/-
  The codec's writer, whatever it holds.
-/
namespace Go.Proofs.Ytdbaddholggkbaa
set_option linter.unnecessarySimpa false
open Go Go.Vm
set_option linter.unusedSimpArgs false
set_option linter.unusedVariables false
set_option maxRecDepth 100000

attribute [local simp] evalL wantedA isCall opA evalA evalAll evalsA evalOpt ofValue ofCell plain binA_eql_pn binA_neq_pn binA_gtr binA_lss binA_geq binA_leq binA_add binA_sub binA_eql binA_neq binA_or binA_shl binA_shr binA_mul binA_quo binA_rem binA_agg_eql binA_agg_neq convA_int unA_not fieldAddrA loadA partA pickA_true pickA_false pickA_bb lenA builtinA storeA splice AV.cells AV.isCell sliceA boundA intA callOf indexAddrA newObjA buildA fillA zeroA ofCells buildSliceA indexA fieldA coinsC_at

/-- Objects that a call made for itself are forgotten; what it appended to stays. -/
theorem callsA_gcO {σ : St} {P : Program} {f : FuncId} {args : List AV} {Q Q' : AV → St → Prop} (k : CallsA P f args σ Q) (h : ∀ av σ0, Q av σ0 → GoneO σ σ0 ∧ Q' (av.gcO σ.objs.length) (σ.trimO σ0)) : CallsA P f args σ Q' := by
  intro G w vs R hS hl hr hK
  refine k G w vs R hS hl hr (fun v av σ0 G' w' hq hE hS' hv => ?_)
  obtain ⟨hg, hq'⟩ := h av σ0 hq
  obtain ⟨hE2, hS2⟩ := hS.trimO hS' hE hg
  exact hK v _ _ _ _ hq' hE2 hS2 (hv.gcO hE hS.tot)

theorem callsA_gcOI {σ : St} {P : Program} {f : FuncId} {args : List AV} {A : AV} {ι : Type} {Pi : ι → Prop} {τ : ι → St} (k : CallsA P f args σ (fun av σ' => ∃ i, Pi i ∧ av = A ∧ ∃ l, σ' = { τ i with objs := (τ i).objs ++ l }))
    (hA : A.gcO σ.objs.length = A) (hl : ∀ i, (τ i).objs.length = σ.objs.length) (hgl : ∀ i, (τ i).gl = σ.gl) (hkp : ∀ i, Kp σ.objs.length σ.objs (τ i).objs) (hkr : ∀ i, KpR σ.objs.length σ.rows (τ i).rows) : CallsA P f args σ (fun av σ' => av = A ∧ ∃ i, Pi i ∧ σ' = τ i) := by
  refine callsA_gcO k (fun av σ0 ⟨i, hi, hv, l, h⟩ => ?_)
  subst h hv
  refine ⟨gone_kp (hgl i) (kp_more (hkp i)) (hkr i), hA, i, hi, ?_⟩
  have := hl i
  simp [St.trimO, ← this]

/-! ### What a writer holds -/
def wrA (k : Nat) (l : List UInt8) : AV := if l = [] then .sl 0 [] 0 .full else .sl 1 (bytesA l) l.length (.own k)
def Tk (tk : List Nat) (k : Nat) (l : List UInt8) : Prop := l = [] ∨ tk[k]? = some l.length

/-- From one slice that is made to the next; what is said of others stands. -/
structure Wr (tk : List Nat) (k : Nat) (l : List UInt8) (tk' : List Nat) (k' : Nat) (l' : List UInt8) : Prop where
  tok : Tk tk' k' l'
  len : tk.length ≤ tk'.length
  keep : ∀ (j v : Nat), (l = [] ∨ j ≠ k) → tk[j]? = some v → tk'[j]? = some v
  own : l' = [] ∨ (k' = k ∧ l ≠ []) ∨ tk.length ≤ k'

theorem Wr.refl {tk : List Nat} {k : Nat} {l : List UInt8} (h : Tk tk k l) : Wr tk k l tk k l := ⟨h, Nat.le_refl _, fun _ _ _ h => h, by
  by_cases e : l = []
  · exact .inl e
  · exact .inr (.inl ⟨rfl, e⟩)⟩

theorem lt_get {l : List Nat} {i v : Nat} (h : l[i]? = some v) : i < l.length := (List.getElem?_eq_some_iff.1 h).1

theorem Wr.trans {tk tk1 tk2 : List Nat} {k k1 k2 : Nat} {l l1 l2 : List UInt8} (h : Wr tk k l tk1 k1 l1) (g : Wr tk1 k1 l1 tk2 k2 l2) : Wr tk k l tk2 k2 l2 := by
  refine ⟨g.tok, Nat.le_trans h.len g.len, fun j v hj hv => g.keep j v ?_ (h.keep j v hj hv), ?_⟩
  · have hlt := lt_get hv
    rcases h.own with e | ⟨e, e2⟩ | e
    · exact .inl e
    · rcases hj with hj | hj
      · exact absurd hj e2
      · exact .inr (by omega)
    · exact .inr (by omega)
  · rcases g.own with e | ⟨e, e2⟩ | e
    · exact .inl e
    · rcases h.own with e3 | ⟨e3, e4⟩ | e3
      · exact absurd e3 e2
      · exact .inr (.inl ⟨by omega, e4⟩)
      · exact .inr (.inr (by omega))
    · have := h.len
      exact .inr (.inr (by omega))

theorem Wr.pre {tk tk' : List Nat} {k k' : Nat} {l' : List UInt8} (h : Wr tk k [] tk' k' l') : ∃ m, tk' = tk ++ m := by
  refine ⟨tk'.drop tk.length, ?_⟩
  refine List.ext_getElem? fun i => ?_
  by_cases hi : i < tk.length
  · rw [List.getElem?_append_left hi]
    rw [List.getElem?_eq_getElem hi]
    exact h.keep i _ (.inl rfl) (List.getElem?_eq_getElem hi)
  · rw [List.getElem?_append_right (by omega), List.getElem?_drop]
    congr 1; omega

theorem noObj_wrA' (n k : Nat) (l : List UInt8) : AV.noObj n (wrA k l) = true := by
  unfold wrA
  split <;> simp [noObjL, AV.noObj]
theorem noObj_wrA (n k : Nat) (l : List UInt8) : noObjL n [wrA k l] = true := by
  unfold wrA
  split <;> simp [noObjL, AV.noObj]

def WP (id : Nat) (σ : St) (k : Nat) (l q : List UInt8) : AV → St → Prop := fun av σ' => av = .ptr id 0 ∧ ∃ k' tk', Wr σ.toks k l tk' k' (l ++ q) ∧ σ' = { σ with objs := σ.objs.set id [wrA k' (l ++ q)], toks := tk' }

theorem lay_ok {σ : St} {id k : Nat} {l q : List UInt8} {tq : Tail} (h : σ.objs[id]? = some [wrA k l]) (ht : Tk σ.toks k l) (hne : l ++ q ≠ []) (hl : l.length ≤ 1000000) (hq : q.length ≤ 1000000) :
    CallsA Try.prog 129 [.ptr id 0, .sl 1 (bytesA q) q.length tq] σ (WP id σ k l q) := by
  by_cases e : l = []
  · subst e
    refine callsA_mono (lay_new (by simpa [wrA] using h) hq) (fun av σ' ⟨h1, h2⟩ => ⟨h1, σ.toks.length, σ.toks ++ [q.length], ⟨.inr ?_, ?_, fun j v _ hj => ?_, .inr (.inr (Nat.le_refl _))⟩, ?_⟩)
    · simp
    · simp
    · rw [List.getElem?_append_left (lt_get hj)]; exact hj
    · rw [h2]; simp at hne; simp [wrA, hne]
  · have hk := ht.resolve_left e
    refine callsA_mono (lay_more (by simpa [wrA, e] using h) hk hl hq) (fun av σ' ⟨h1, h2⟩ => ⟨h1, k, σ.toks.set k (l ++ q).length, ⟨.inr (set_self_of hk _), by simp, fun j v hj hv => ?_, .inr (.inl ⟨rfl, e⟩)⟩, ?_⟩)
    · rw [List.getElem?_set_ne (Ne.symm (hj.resolve_left e))]; exact hv
    · rw [h2]; simp [wrA, e]

set_option maxHeartbeats 1600000 in
attribute [local simp] undefA List.getElem?_cons_zero List.getElem?_cons_succ in
theorem wbyte_ok {σ : St} {id k : Nat} {l : List UInt8} {b : UInt8} (h : σ.objs[id]? = some [wrA k l]) (ht : Tk σ.toks k l) (hl : l.length ≤ 1000000) :
    CallsA Try.prog 88 [.ptr id 0, .v (.int .u8 b.toNat)] σ (WP id σ k l [b]) := by
  have hv : (Value.int IntKind.u8 0).cells.size = 1 := rfl
  have F := And.intro hv (True.intro)
  refine callsA_body Try.func88 rfl rfl rfl ?_
  refine sq fun K1 hK1 => ?_
  refine rg' (h := fun J2 hJ2 => ?_)
  refine hJ2 _ _ ?_
  refine hK1 _ _ ?_
  refine sq fun K3 hK3 => ?_
  refine rg' (h := fun J4 hJ4 => ?_)
  refine ca (c := lay_ok (q := [b]) h ht (by simp) hl (by simp)) (k := ?_)
  rintro _ _ ⟨rfl, k1, tk1, hw1, rfl⟩
  repeat (first | simp [F] | simp (disch := omega) only [wC, if_pos, if_neg])
  refine hJ4 _ _ ?_
  refine hK3 _ _ ?_
  refine run_ret ?_
  try simp only [Then, InBlock, NoGoto]
  refine answer_tmp rfl (.inr rfl) ?_
  exact ⟨rfl, k1, tk1, hw1, rfl⟩

def encN (x : Nat) : List UInt8 := UInt8.ofNat (natBytes x).length :: natBytes x

set_option maxHeartbeats 1600000 in
attribute [local simp] undefA List.getElem?_cons_zero List.getElem?_cons_succ in
theorem wnum_ok {σ : St} {id k x : Nat} {l : List UInt8} (h : σ.objs[id]? = some [wrA k l]) (ht : Tk σ.toks k l) (hx : x < 2 ^ 256) (hl : l.length ≤ 900000) :
    CallsA Try.prog 103 [.ptr id 0, .agg (numA x)] σ (WP id σ k l (encN x)) := by
  have hlt := lt_of_get h
  refine callsA_mono (callsA_gcOI (A := .ptr id 0) (Pi := fun i : Nat × List Nat => Wr σ.toks k l i.2 i.1 (l ++ encN x)) (τ := fun i => { σ with objs := σ.objs.set id [wrA i.1 (l ++ encN x)], toks := i.2 }) ?_ (by simp [AV.gcO, hlt]) (fun _ => by simp) (fun _ => rfl) (fun _ => kp_set (kp_refl _) (noObj_wrA _ _ _)) (fun _ => kpr_refl _)) (fun av σ' ⟨h1, i, h2, h3⟩ => ⟨h1, i.1, i.2, h2, h3⟩)
  have hs := set_self_of h
  have hlen : (natBytes x).length ≤ 32 := natBytes_len x 32 (by simpa using hx)
  obtain ⟨c, hc⟩ : ∃ c, c = UInt8.ofNat (natBytes x).length := ⟨_, rfl⟩
  have hcn : c.toNat = (natBytes x).length := by rw [hc]; exact toNat_ofNat (by omega)
  have hw : IntKind.u8.wrap ((natBytes x).length : Int) = (c.toNat : Int) := by rw [wrap_u8, hcn, Nat.mod_eq_of_lt (by omega)]
  have ho1 : ∀ r, (σ.objs ++ r)[id]? = some [wrA k l] := fun r => by rw [List.getElem?_append_left hlt]; exact h
  have ho2 : ∀ x r, (σ.objs.set id x ++ r)[id]? = some x := fun x r => by rw [List.getElem?_append_left (by simpa using hlt)]; exact hs x
  have ho3 : ∀ x r, (σ.objs ++ r).set id x = σ.objs.set id x ++ r := fun x r => List.set_append_left _ _ hlt
  have ho4 : ∀ x y r, (σ.objs.set id y ++ r).set id x = σ.objs.set id x ++ r := fun x y r => by rw [List.set_append_left _ _ (by simpa using hlt), List.set_set]
  have hv : (Value.int IntKind.u8 0).cells.size = 1 := rfl
  have F := And.intro hw (And.intro hv (And.intro ho1 (And.intro ho2 (And.intro ho3 (And.intro ho4 (True.intro))))))
  refine callsA_body Try.func103 rfl rfl rfl ?_
  refine sq fun K1 hK1 => ?_
  refine rg' (h := fun J2 hJ2 => ?_)
  refine hJ2 _ _ ?_
  refine hK1 _ _ ?_
  refine sq fun K3 hK3 => ?_
  refine rg' (h := fun J4 hJ4 => ?_)
  refine ca (c := bytes_ok hx) (k := ?_)
  rintro _ _ ⟨rfl, rfl⟩
  repeat (first | simp [F] | simp (disch := omega) only [wC, if_pos, if_neg])
  refine hJ4 _ _ ?_
  refine hK3 _ _ ?_
  refine sq fun K5 hK5 => ?_
  refine rg' (h := fun J6 hJ6 => ?_)
  refine ca (c := lay_ok (q := [c]) (ho1 _) ht (by simp) (by omega) (by simp)) (k := ?_)
  rintro _ _ ⟨rfl, k1, tk1, hw1, rfl⟩
  repeat (first | simp [F] | simp (disch := omega) only [wC, if_pos, if_neg])
  refine ca (c := lay_ok (l := l ++ [c]) (k := k1) (ho2 _ _) hw1.tok (by simp) (by simp; omega) (by omega)) (k := ?_)
  rintro _ _ ⟨rfl, k2, tk2, hw2, rfl⟩
  repeat (first | simp [F] | simp (disch := omega) only [wC, if_pos, if_neg])
  refine hJ6 _ _ ?_
  refine hK5 _ _ ?_
  refine run_ret ?_
  try simp only [Then, InBlock, NoGoto]
  refine answer_tmp rfl (.inr rfl) ?_
  have e : l ++ [c] ++ natBytes x = l ++ encN x := (by simp [encN, hc])
  rw [e] at hw2
  have e2 : c :: natBytes x = encN x := (by simp [encN, hc])
  simp only [e2]
  exact ⟨(k2, tk2), hw1.trans hw2, rfl, _, rfl⟩

/-- A number's bytes, size of them, the highest one ahead. -/
def nBytes (size n : Nat) : List UInt8 := (List.range size).map fun j => UInt8.ofNat (n / 2 ^ (8 * (size - 1 - j)) % 256)
theorem nBytes_len (size n : Nat) : (nBytes size n).length = size := by simp [nBytes]

structure WSt where
  j : Nat
  k : Nat
  tk : List Nat

set_option maxHeartbeats 1600000 in
attribute [local simp] undefA List.getElem?_cons_zero List.getElem?_cons_succ in
theorem wnumber_ok {σ : St} {id k n size : Nat} {l : List UInt8} (h : σ.objs[id]? = some [wrA k l]) (ht : Tk σ.toks k l) (hn : n < 2 ^ 64) (hsz : size ≤ 8) (hl : l.length ≤ 900000) :
    CallsA Try.prog 87 [.ptr id 0, .v (.int .u64 n), .v (.int .i64 size)] σ (WP id σ k l (nBytes size n)) := by
  have hs := set_self_of h
  have hs0 := St.set_same h
  have hv : (Value.int IntKind.u8 0).cells.size = 1 := rfl
  have F := And.intro hv (True.intro)
  refine callsA_body Try.func87 rfl rfl rfl ?_
  refine sq fun K1 hK1 => ?_
  refine rg' (h := fun J2 hJ2 => ?_)
  refine hJ2 _ _ ?_
  refine hK1 _ _ ?_
  refine sq fun K3 hK3 => ?_
  refine sq fun K4 hK4 => ?_
  refine rg' (h := fun J5 hJ5 => ?_)
  refine hJ5 _ _ ?_
  refine hK4 _ _ ?_
  refine run_block_k ?_
  refine run_loopF (X := WSt) [1, 6] (fun q ρ σ1 => (q.j ≤ size) ∧ (Wr σ.toks k l q.tk q.k (l ++ (nBytes size n).take q.j)) ∧ (ρ 0 = .ptr id 0) ∧ (ρ 7 = .v (.int .i64 ((size : Int) - 1 - q.j))) ∧ (σ1 = { σ with objs := σ.objs.set id [wrA q.k (l ++ (nBytes size n).take q.j)], toks := q.tk })) (fun q => size - q.j) (⟨0, k, σ.toks⟩) ?st1 ?rd1
  case st1 =>
   refine ⟨lp, ?_, lp, lp, ?_⟩
   · simpa using Wr.refl ht
   · simpa using hs0.symm
  case rd1 =>
   rintro q ρ1 σ1 hF1 ⟨hj, hw, h0, h7, hσ⟩
   obtain rfl := hσ.symm
   have f1 := keepL hF1
   try simp [KeepL, F] at f1
   replace F := And.intro h0 F
   replace F := And.intro h7 F
   try replace F := And.intro f1 F
   refine sq fun K6 hK6 => ?_
   refine sq fun K7 hK7 => ?_
   refine rg' (h := fun J8 hJ8 => ?_)
   refine hJ8 _ _ ?_
   refine hK7 _ _ ?_
   refine cs (fun c11 => ?_) (fun c11 => ?_)
   · try exact nope c11
     all_goals have c11p := c11
     all_goals try simp [F] at c11p
     all_goals
      replace F := And.intro c11 F
      try replace F := And.intro c11p F
      refine run_skip ?_
      refine hK6 _ _ ?_
      refine sq fun K9 hK9 => ?_
      refine run_block_k ?_
      obtain ⟨i, hi⟩ : ∃ i, i = size - 1 - q.j := ⟨_, rfl⟩
      have he : (size : Int) - 1 - q.j = (i : Int) := by omega
      have hi8 : i < 8 := by omega
      obtain ⟨b, hb⟩ : ∃ b, b = UInt8.ofNat (n / 2 ^ (8 * i) % 256) := ⟨_, rfl⟩
      have hbn : b.toNat = n / 2 ^ (8 * i) % 256 := by rw [hb]; exact toNat_ofNat (by omega)
      have hnx : (nBytes size n).take (q.j + 1) = (nBytes size n).take q.j ++ [b] := by rw [take_snoc (by rw [nBytes_len]; omega)]; simp [nBytes, hb, hi]
      have htl : ((nBytes size n).take q.j).length ≤ 8 := by simp [nBytes_len]; omega
      have hnn : ¬ 8 * (i : Int) < 0 := by omega
      have hsh : Int.fdiv (n : Int) (2 ^ (min (8 * (i : Int)).toNat 64)) = ((n / 2 ^ (8 * i) : Nat) : Int) := by rw [show min (8 * (i : Int)).toNat 64 = 8 * i by omega, Int.fdiv_eq_ediv_of_nonneg _ (by exact Int.le_of_lt (Int.pow_pos (by omega)))]; simp
      have hcv : IntKind.u8.wrap ((n / 2 ^ (8 * i) : Nat) : Int) = (b.toNat : Int) := by rw [wrap_u8, hbn]
      generalize n / 2 ^ (8 * i) = z at *
      replace F := And.intro he F
      replace F := And.intro hnn F
      replace F := And.intro hsh F
      replace F := And.intro hcv F
      refine rg' (h := fun J10 hJ10 => ?_)
      refine ca (c := lay_ok (q := [b]) (hs _) hw.tok (by simp) (by simp; omega) (by simp)) (k := ?_)
      rintro _ _ ⟨rfl, k1, tk1, hw1, rfl⟩
      repeat (first | simp [F] | simp (disch := omega) only [wC, if_pos, if_neg])
      refine hJ10 _ _ ?_
      refine hK9 _ _ ?_
      refine rg' (h := fun J11 hJ11 => ?_)
      refine hJ11 _ _ ?_
      refine ⟨(⟨q.j + 1, k1, tk1⟩), ⟨kp, lp, ?_, lp, ?_, ?_⟩, lp⟩
      · have hq2 := hw.trans hw1
        rw [List.append_assoc, ← hnx] at hq2
        exact hq2
      · simp
        omega
      · simp [hnx]
   try exact nope c11
   all_goals have c11p := c11
   all_goals try simp [F] at c11p
   all_goals
    replace F := And.intro c11 F
    try replace F := And.intro c11p F
    refine run_exit ?_
    refine hK3 _ _ ?_
    refine sq fun K12 hK12 => ?_
    refine rg' (h := fun J13 hJ13 => ?_)
    refine hJ13 _ _ ?_
    refine hK12 _ _ ?_
    refine run_ret ?_
    try simp only [Then, InBlock, NoGoto]
    refine answer_tmp rfl (.inr rfl) ?_
    have hfull : (nBytes size n).take q.j = nBytes size n := List.take_of_length_le (by rw [nBytes_len]; simp at c11; omega)
    rw [hfull] at hw
    rw [hfull]
    exact ⟨by simp [F], q.k, q.tk, hw, rfl⟩

set_option maxHeartbeats 1600000 in
attribute [local simp] undefA List.getElem?_cons_zero List.getElem?_cons_succ in
theorem wlong_ok {σ : St} {id k n : Nat} {l : List UInt8} (h : σ.objs[id]? = some [wrA k l]) (ht : Tk σ.toks k l) (hn : n < 2 ^ 64) (hl : l.length ≤ 900000) :
    CallsA Try.prog 39 [.ptr id 0, .v (.int .u64 n)] σ (WP id σ k l (nBytes 8 n)) := by
  have F := True.intro
  refine callsA_body Try.func39 rfl rfl rfl ?_
  refine sq fun K1 hK1 => ?_
  refine rg' (h := fun J2 hJ2 => ?_)
  refine hJ2 _ _ ?_
  refine hK1 _ _ ?_
  refine sq fun K3 hK3 => ?_
  refine rg' (h := fun J4 hJ4 => ?_)
  refine ca (c := wnumber_ok (size := 8) h ht hn (by omega) hl) (k := ?_)
  rintro _ _ ⟨rfl, k1, tk1, hw1, rfl⟩
  repeat (first | simp [F] | simp (disch := omega) only [wC, if_pos, if_neg])
  refine hJ4 _ _ ?_
  refine hK3 _ _ ?_
  refine run_ret ?_
  try simp only [Then, InBlock, NoGoto]
  refine answer_tmp rfl (.inr rfl) ?_
  exact ⟨rfl, k1, tk1, hw1, rfl⟩

def encC (c : Coin) : List UInt8 := c.d :: encN c.n.v
def encCs (l : List Coin) : List UInt8 := l.flatMap encC
def encL (l : List Coin) : List UInt8 := UInt8.ofNat l.length :: encCs l

theorem encC_len (c : Coin) : (encC c).length ≤ 34 := by
  have := natBytes_len c.n.v 32 (by simpa using c.n.h)
  simp [encC, encN]; omega
theorem encCs_len : ∀ l : List Coin, (encCs l).length ≤ 34 * l.length
  | [] => by simp [encCs]
  | c :: l => by
    have h1 := encC_len c
    have h2 := encCs_len l
    simp [encCs] at h2 ⊢
    omega
theorem encCs_snoc (l : List Coin) (c : Coin) : encCs (l ++ [c]) = encCs l ++ encC c := by simp [encCs]

set_option maxHeartbeats 1600000 in
attribute [local simp] undefA List.getElem?_cons_zero List.getElem?_cons_succ noObj_wrA noObj_wrA' coinC in
theorem wcoins_ok {σ : St} {id k : Nat} {l : List UInt8} {L : List Coin} {tL : Tail} (h : σ.objs[id]? = some [wrA k l]) (ht : Tk σ.toks k l) (hL : L.length ≤ 255) (hl : l.length ≤ 500000) :
    CallsA Try.prog 89 [.ptr id 0, .sl 5 (coinsC L) L.length tL] σ (WP id σ k l (encL L)) := by
  have hlt := lt_of_get h
  refine callsA_mono (callsA_gcOI (A := .ptr id 0) (Pi := fun i : Nat × List Nat => Wr σ.toks k l i.2 i.1 (l ++ encL L)) (τ := fun i => { σ with objs := σ.objs.set id [wrA i.1 (l ++ encL L)], toks := i.2 }) ?_ (by simp [AV.gcO, hlt]) (fun _ => by simp) (fun _ => rfl) (fun _ => kp_set (kp_refl _) (noObj_wrA _ _ _)) (fun _ => kpr_refl _)) (fun av σ' ⟨h1, i, h2, h3⟩ => ⟨h1, i.1, i.2, h2, h3⟩)
  have hs := set_self_of h
  obtain ⟨c, hc⟩ : ∃ c, c = UInt8.ofNat L.length := ⟨_, rfl⟩
  have hcn : c.toNat = L.length := by rw [hc]; exact toNat_ofNat (by omega)
  have hw : IntKind.u8.wrap (L.length : Int) = (c.toNat : Int) := by rw [wrap_u8, hcn, Nat.mod_eq_of_lt (by omega)]
  have ho1 : ∀ r, (σ.objs ++ r)[id]? = some [wrA k l] := fun r => by rw [List.getElem?_append_left hlt]; exact h
  have ho2 : ∀ x r, (σ.objs.set id x ++ r)[id]? = some x := fun x r => by rw [List.getElem?_append_left (by simpa using hlt)]; exact hs x
  have ho3 : ∀ x r, (σ.objs ++ r).set id x = σ.objs.set id x ++ r := fun x r => List.set_append_left _ _ hlt
  have ho4 : ∀ x y r, (σ.objs.set id y ++ r).set id x = σ.objs.set id x ++ r := fun x y r => by rw [List.set_append_left _ _ (by simpa using hlt), List.set_set]
  have hv : (Value.int IntKind.u8 0).cells.size = 1 := rfl
  have F := And.intro hw (And.intro hv (And.intro ho1 (And.intro ho2 (And.intro ho3 (And.intro ho4 (And.intro hlt (True.intro)))))))
  refine callsA_body Try.func89 rfl rfl rfl ?_
  refine sq fun K1 hK1 => ?_
  refine rg' (h := fun J2 hJ2 => ?_)
  refine hJ2 _ _ ?_
  refine hK1 _ _ ?_
  refine sq fun K3 hK3 => ?_
  refine rg' (h := fun J4 hJ4 => ?_)
  refine ca (c := lay_ok (q := [c]) h ht (by simp) (by omega) (by simp)) (k := ?_)
  rintro _ _ ⟨rfl, k1, tk1, hw1, rfl⟩
  repeat (first | simp [F] | simp (disch := omega) only [wC, if_pos, if_neg])
  refine hJ4 _ _ ?_
  refine hK3 _ _ ?_
  refine sq fun K5 hK5 => ?_
  refine sq fun K6 hK6 => ?_
  refine rg' (h := fun J7 hJ7 => ?_)
  refine hJ7 _ _ ?_
  refine hK6 _ _ ?_
  refine run_block_k ?_
  refine run_loopG (X := WSt) [4, 13, 14] (fun q ρ σ1 => (q.j ≤ L.length) ∧ (Wr σ.toks k l q.tk q.k (l ++ c :: encCs (L.take q.j))) ∧ (ρ 0 = .ptr id 0) ∧ (ρ 15 = .v (.int .i64 q.j)) ∧ (σ1 = { σ with objs := σ.objs.set id [wrA q.k (l ++ c :: encCs (L.take q.j))], toks := q.tk })) (fun q => L.length - q.j) (⟨0, k1, tk1⟩) ?st1 ?rd1
  case st1 =>
   refine ⟨lp, ?_, lp, lp, ?_⟩
   · simpa [encCs] using hw1
   · simp [encCs]
  case rd1 =>
   rintro q ρ1 σ1 hF1 ⟨hj, hq, h0, h15, hσ⟩
   obtain rfl := hσ.symm
   have f1 := keepL hF1
   try simp [KeepL, F] at f1
   replace F := And.intro h0 F
   replace F := And.intro h15 F
   try replace F := And.intro f1 F
   refine sq fun K8 hK8 => ?_
   refine rg' (h := fun J9 hJ9 => ?_)
   refine hJ9 _ _ ?_
   refine hK8 _ _ ?_
   refine sq fun K10 hK10 => ?_
   refine cs (fun c16 => ?_) (fun c16 => ?_)
   · try exact nope c16
     all_goals have c16p := c16
     all_goals try simp [F] at c16p
     all_goals
      replace F := And.intro c16 F
      try replace F := And.intro c16p F
      refine run_skip ?_
      refine hK10 _ _ ?_
      refine sq fun K11 hK11 => ?_
      refine run_block_k ?_
      refine sq fun K12 hK12 => ?_
      refine rg' (h := fun J13 hJ13 => ?_)
      refine hJ13 _ _ ?_
      refine hK12 _ _ ?_
      have hel := encCs_len (L.take q.j)
      have htl : (L.take q.j).length ≤ 255 := by simp; omega
      refine run_draw (by kernel_rfl) fun J14 hJ14 => ?_
      refine rp2 0 (k := ?_)
      refine rp2 1 (k := ?_)
      refine rp2 2 (k := ?_)
      refine rp2 3 (k := ?_)
      refine rp2 5 (k := ?_)
      refine rp2 6 (k := ?_)
      refine dc 4 rfl (c := lay_ok (l := l ++ c :: encCs (L.take q.j)) (q := [L[q.j].d]) (ho2 _ _) hq.tok (by simp) (by simp; omega) (by simp)) (k := ?_)
      rintro _ _ ⟨rfl, k2, tk2, hw2, rfl⟩
      refine ⟨by first | exact fun _ _ h => h | (refine later_list [6, 5, 2, 1] (by kernel_rfl) (List.forall_mem_cons.2 ⟨fun _ => fact2 rfl rfl ?_, List.forall_mem_cons.2 ⟨fun _ => fact2 rfl rfl ?_, List.forall_mem_cons.2 ⟨fun _ => fact2 rfl rfl ?_, List.forall_mem_cons.2 ⟨fun _ => fact2 rfl rfl ?_, fun _ h => absurd h List.not_mem_nil⟩⟩⟩⟩) <;> constructor <;> first | rfl | (simp [F]; done)), ?_⟩
      repeat (first | simp [F] | simp (disch := omega) only [wC, if_pos, if_neg])
      refine dc 7 rfl (c := wnum_ok (l := l ++ c :: (encCs (L.take q.j) ++ [L[q.j].d])) (x := L[q.j].n.v) (ho2 _ _) (by simpa using hw2.tok) L[q.j].n.h (by simp; omega)) (k := ?_)
      rintro _ _ ⟨rfl, k3, tk3, hw3, rfl⟩
      refine ⟨by first | exact fun _ _ h => h | (refine later_list [5, 2, 1] (by kernel_rfl) (List.forall_mem_cons.2 ⟨fun _ => fact2 rfl rfl ?_, List.forall_mem_cons.2 ⟨fun _ => fact2 rfl rfl ?_, List.forall_mem_cons.2 ⟨fun _ => fact2 rfl rfl ?_, fun _ h => absurd h List.not_mem_nil⟩⟩⟩) <;> constructor <;> first | rfl | (simp [F]; done)), ?_⟩
      repeat (first | simp [F] | simp (disch := omega) only [wC, if_pos, if_neg])
      refine dop 8 rfl ?_
      repeat (first | simp [F] | simp (disch := omega) only [wC, if_pos, if_neg])
      try refine ⟨ln, ?_⟩
      refine dd ?_
      refine hJ14 _ _ ?_
      refine hK11 _ _ ?_
      refine rg' (h := fun J15 hJ15 => ?_)
      refine hJ15 _ _ ?_
      have e3 : encCs (L.take (q.j + 1)) = encCs (L.take q.j) ++ L[q.j].d :: encN L[q.j].n.v := by rw [take_snoc (by simp at c16; omega), encCs_snoc]; rfl
      simp only [List.append_assoc, List.cons_append, List.nil_append] at hw2 hw3
      refine ⟨gk, (⟨q.j + 1, k3, tk3⟩), ⟨kpG, lpG, ?_, lpG, lpG, ?_⟩, lpG⟩
      · simp only [e3]
        exact (hq.trans hw2).trans hw3
      · simp [St.trimO, e3]
   try exact nope c16
   all_goals have c16p := c16
   all_goals try simp [F] at c16p
   all_goals
    replace F := And.intro c16 F
    try replace F := And.intro c16p F
    refine run_exit ?_
    refine hK5 _ _ ?_
    refine sq fun K16 hK16 => ?_
    refine rg' (h := fun J17 hJ17 => ?_)
    refine hJ17 _ _ ?_
    refine hK16 _ _ ?_
    refine run_ret ?_
    try simp only [Then, InBlock, NoGoto]
    refine answer_tmp rfl (.inr rfl) ?_
    have hfull : L.take q.j = L := List.take_of_length_le (by simp at c16; omega)
    rw [hfull] at hq
    rw [hfull]
    have e2 : c :: encCs L = encL L := (by simp [encL, hc])
    rw [e2] at hq
    simp only [e2]
    exact ⟨(q.k, q.tk), hq, by simp [F], [], by simp⟩

end Go.Proofs.Ytdbaddholggkbaa

/-
  The document's writer: numbers and lists of coins.
-/
namespace Go.Proofs.Ytdbaddholggkbaa
set_option linter.unnecessarySimpa false
open Go Go.Vm
set_option linter.unusedSimpArgs false
set_option linter.unusedVariables false
set_option maxRecDepth 100000

attribute [local simp] evalL wantedA isCall opA evalA evalAll evalsA evalOpt ofValue ofCell plain binA_eql_pn binA_neq_pn binA_gtr binA_lss binA_geq binA_leq binA_add binA_sub binA_eql binA_neq binA_or binA_shl binA_shr binA_mul binA_quo binA_rem binA_agg_eql binA_agg_neq convA_int unA_not fieldAddrA loadA partA pickA_true pickA_false pickA_bb lenA builtinA storeA splice AV.cells AV.isCell sliceA boundA intA callOf indexAddrA newObjA buildA fillA zeroA ofCells buildSliceA indexA fieldA coinsC_at

/-! ### Lists of bytes that are being made -/
def tkB (l : List UInt8) : List Nat := if l = [] then [] else [l.length]
@[simp] theorem tkB_nil : tkB [] = [] := rfl
theorem wrA_nil (k : Nat) : wrA k [] = .sl 0 [] 0 .full := rfl
class SmallB (l : List UInt8) : Prop where
  h : l.length ≤ 500000

theorem wk_wrA (k : Nat) (l : List UInt8) : Wk (wrA k l) (.sl 1 (bytesA l) l.length .shut) := by
  unfold wrA
  split
  · rename_i h; subst h; exact Wk.nil _ _ _
  · exact Wk.shut _ _ _ _

theorem append_wrA {l q : List UInt8} {tq : Tail} [hsm : SmallB l] {objs : List (List AV)} {tk : List Nat} {gl : Nat → Option (List AV)} {rows : List RowSt} (hq0 : q ≠ []) (hq : q.length ≤ 100000) :
    appendA Try.prog 47 (wrA tk.length l) (.sl 1 (bytesA q) q.length tq) ⟨objs, tk ++ tkB l, gl, rows⟩ = some (wrA tk.length (l ++ q), ⟨objs, tk ++ tkB (l ++ q), gl, rows⟩) := by
  have hl := hsm.h
  have hv : (Value.int IntKind.u8 0).cells.size = 1 := rfl
  by_cases h : l = []
  · subst h
    have h1 : q.length ≤ 140737488355328 := by omega
    have h2 : q.length ≤ 9223372036854775807 := by omega
    simp [wrA, tkB, appendA, readA, roomA, maxLen, hq0, h1, h2, hv]
  · have h1 : l.length + q.length ≤ 140737488355328 := by omega
    have h2 : l.length + q.length ≤ 9223372036854775807 := by omega
    simp [wrA, tkB, h, appendA, readA, roomA, maxLen, hq0, h1, h2, hv, bytesA_append]

theorem append_byte {l : List UInt8} {b : UInt8} [hsm : SmallB l] {objs : List (List AV)} {tk : List Nat} {gl : Nat → Option (List AV)} {rows : List RowSt} :
    appendA Try.prog 47 (wrA tk.length l) (.sl 1 [.v (.int .u8 b.toNat)] 1 .full) ⟨objs, tk ++ tkB l, gl, rows⟩ = some (wrA tk.length (l ++ [b]), ⟨objs, tk ++ tkB (l ++ [b]), gl, rows⟩) := append_wrA (q := [b]) (by simp) (by simp)

set_option maxHeartbeats 1600000 in
attribute [local simp] undefA List.getElem?_cons_zero List.getElem?_cons_succ in
theorem rflag_ok {σ : St} {b : Bool} : CallsA Try.prog 108 [.v (.bool b)] σ (fun av σ' => av = .sl 1 (bytesA [if b then 1 else 0]) 1 .full ∧ σ = σ') := by
  have hv : (Value.int IntKind.u8 0).cells.size = 1 := rfl
  have F := And.intro hv (True.intro)
  refine callsA_body Try.func108 rfl rfl rfl ?_
  refine sq fun K1 hK1 => ?_
  refine rg' (h := fun J2 hJ2 => ?_)
  refine hJ2 _ _ ?_
  refine hK1 _ _ ?_
  refine sq fun K3 hK3 => ?_
  refine sq fun K4 hK4 => ?_
  refine rg' (h := fun J5 hJ5 => ?_)
  refine hJ5 _ _ ?_
  refine hK4 _ _ ?_
  refine cs (fun c3 => ?_) (fun c3 => ?_)
  · try exact nope c3
    all_goals have c3p := c3
    all_goals try simp [F] at c3p
    all_goals
     replace F := And.intro c3 F
     try replace F := And.intro c3p F
     refine sq fun K6 hK6 => ?_
     refine rg' (h := fun J7 hJ7 => ?_)
     refine hJ7 _ _ ?_
     refine hK6 _ _ ?_
     refine run_ret ?_
     try simp only [Then, InBlock, NoGoto]
     refine answer_tmp rfl (.inr rfl) ?_
     have e : b = true := (by simpa using c3)
     subst e
     exact ⟨rfl, rfl⟩
  try exact nope c3
  all_goals have c3p := c3
  all_goals try simp [F] at c3p
  all_goals
   replace F := And.intro c3 F
   try replace F := And.intro c3p F
   refine run_skip ?_
   refine hK3 _ _ ?_
   refine sq fun K8 hK8 => ?_
   refine rg' (h := fun J9 hJ9 => ?_)
   refine hJ9 _ _ ?_
   refine hK8 _ _ ?_
   refine run_ret ?_
   try simp only [Then, InBlock, NoGoto]
   refine answer_tmp rfl (.inr rfl) ?_
   have e : b = false := (by simpa using c3)
   subst e
   exact ⟨rfl, rfl⟩

set_option maxHeartbeats 1600000 in
attribute [local simp] undefA List.getElem?_cons_zero List.getElem?_cons_succ append_byte in
theorem rlong_ok {σ : St} {n size : Nat} (hn : n < 2 ^ 64) (hsz : size ≤ 8) :
    CallsA Try.prog 44 [.v (.int .u64 n), .v (.int .i64 size)] σ (fun av σ' => av = .sl 1 (bytesA (nBytes size n)) size .shut ∧ σ = σ') := by
  refine callsA_gcS ?_ (by simp [AV.under])
  have hv : (Value.int IntKind.u8 0).cells.size = 1 := rfl
  have F := And.intro hv (True.intro)
  refine callsA_body Try.func44 rfl rfl rfl ?_
  refine sq fun K1 hK1 => ?_
  refine rg' (h := fun J2 hJ2 => ?_)
  refine hJ2 _ _ ?_
  refine hK1 _ _ ?_
  refine sq fun K3 hK3 => ?_
  refine rg' (h := fun J4 hJ4 => ?_)
  refine hJ4 _ _ ?_
  refine hK3 _ _ ?_
  refine sq fun K5 hK5 => ?_
  refine sq fun K6 hK6 => ?_
  refine rg' (h := fun J7 hJ7 => ?_)
  refine hJ7 _ _ ?_
  refine hK6 _ _ ?_
  refine run_block_k ?_
  refine run_loopF (X := Nat) [0, 4] (fun q ρ σ1 => (q ≤ size) ∧ (ρ 5 = wrA σ.toks.length ((nBytes size n).take q)) ∧ (ρ 6 = .v (.int .i64 ((size : Int) - 1 - q))) ∧ (σ1 = { σ with toks := σ.toks ++ tkB ((nBytes size n).take q) })) (fun q => size - q) (0) ?st1 ?rd1
  case st1 =>
   refine ⟨lp, ?_, lp, lp⟩
   · simp [wrA_nil]
  case rd1 =>
   rintro q ρ1 σ1 hF1 ⟨hj, h5, h6, hσ⟩
   obtain rfl := hσ.symm
   have f1 := keepL hF1
   try simp [KeepL, F] at f1
   replace F := And.intro h5 F
   replace F := And.intro h6 F
   try replace F := And.intro f1 F
   refine sq fun K8 hK8 => ?_
   refine sq fun K9 hK9 => ?_
   refine rg' (h := fun J10 hJ10 => ?_)
   refine hJ10 _ _ ?_
   refine hK9 _ _ ?_
   refine cs (fun c10 => ?_) (fun c10 => ?_)
   · try exact nope c10
     all_goals have c10p := c10
     all_goals try simp [F] at c10p
     all_goals
      replace F := And.intro c10 F
      try replace F := And.intro c10p F
      refine run_skip ?_
      refine hK8 _ _ ?_
      refine sq fun K11 hK11 => ?_
      refine run_block_k ?_
      obtain ⟨i, hi⟩ : ∃ i, i = size - 1 - q := ⟨_, rfl⟩
      have he : (size : Int) - 1 - q = (i : Int) := by omega
      have hi8 : i < 8 := by omega
      obtain ⟨b, hb⟩ : ∃ b, b = UInt8.ofNat (n / 2 ^ (8 * i) % 256) := ⟨_, rfl⟩
      have hbn : b.toNat = n / 2 ^ (8 * i) % 256 := by rw [hb]; exact toNat_ofNat (by omega)
      have hnx : (nBytes size n).take (q + 1) = (nBytes size n).take q ++ [b] := by rw [take_snoc (by rw [nBytes_len]; omega)]; simp [nBytes, hb, hi]
      have : SmallB ((nBytes size n).take q) := ⟨by simp [nBytes_len]; omega⟩
      have hnn : ¬ 8 * (i : Int) < 0 := by omega
      have hsh : Int.fdiv (n : Int) (2 ^ (min (8 * (i : Int)).toNat 64)) = ((n / 2 ^ (8 * i) : Nat) : Int) := by rw [show min (8 * (i : Int)).toNat 64 = 8 * i by omega, Int.fdiv_eq_ediv_of_nonneg _ (by exact Int.le_of_lt (Int.pow_pos (by omega)))]; simp
      have hcv : IntKind.u8.wrap ((n / 2 ^ (8 * i) : Nat) : Int) = (b.toNat : Int) := by rw [wrap_u8, hbn]
      generalize n / 2 ^ (8 * i) = z at *
      replace F := And.intro he F
      replace F := And.intro hnn F
      replace F := And.intro hsh F
      replace F := And.intro hcv F
      refine rg' (h := fun J12 hJ12 => ?_)
      refine hJ12 _ _ ?_
      refine hK11 _ _ ?_
      refine rg' (h := fun J13 hJ13 => ?_)
      refine hJ13 _ _ ?_
      refine ⟨(q + 1), ⟨kp, lp, ?_, ?_, ?_⟩, lp⟩
      · simp [hnx]
      · simp
        omega
      · simp [hnx]
   try exact nope c10
   all_goals have c10p := c10
   all_goals try simp [F] at c10p
   all_goals
    replace F := And.intro c10 F
    try replace F := And.intro c10p F
    refine run_exit ?_
    refine hK5 _ _ ?_
    refine sq fun K14 hK14 => ?_
    refine rg' (h := fun J15 hJ15 => ?_)
    refine hJ15 _ _ ?_
    refine hK14 _ _ ?_
    refine run_ret ?_
    try simp only [Then, InBlock, NoGoto]
    refine answer_tmp rfl (.inr rfl) ?_
    have hfull : (nBytes size n).take q = nBytes size n := List.take_of_length_le (by rw [nBytes_len]; simp at c10; omega)
    have hwk := wk_wrA σ.toks.length (nBytes size n)
    rw [nBytes_len] at hwk
    rw [hfull]
    exact ⟨by simpa [F, hfull] using hwk, [], tkB (nBytes size n), [], by simp⟩

/-! ### The sixteen digits of a number -/
def dgA (l : List Nat) : List AV := l.map fun d => .v (.int .u64 (d : Nat))
def slD (k : Nat) (l : List Nat) : AV := if l = [] then .sl 0 [] 0 .full else .sl 1 (dgA l) l.length (.own k)
def tkD (l : List Nat) : List Nat := if l = [] then [] else [l.length]
@[simp] theorem tkD_nil : tkD [] = [] := rfl
theorem slD_nil (k : Nat) : slD k [] = .sl 0 [] 0 .full := rfl
@[simp] theorem dgA_len (l : List Nat) : (dgA l).length = l.length := by simp [dgA]
theorem under_dgA (B : Bd) : ∀ l : List Nat, underL B (dgA l) = true
  | [] => rfl
  | d :: l => under_dgA B l
class SmallN (l : List Nat) : Prop where
  h : l.length ≤ 1000
theorem wk_slD (k : Nat) (l : List Nat) : Wk (slD k l) (.sl 1 (dgA l) l.length .shut) := by
  unfold slD
  split
  · rename_i h; subst h; exact Wk.nil _ _ _
  · exact Wk.shut _ _ _ _
theorem append_digit {l : List Nat} {d : Nat} [hsm : SmallN l] {objs : List (List AV)} {tk : List Nat} {gl : Nat → Option (List AV)} {rows : List RowSt} :
    appendA Try.prog 146 (slD tk.length l) (.sl 1 [.v (.int .u64 (d : Nat))] 1 .full) ⟨objs, tk ++ tkD l, gl, rows⟩ = some (slD tk.length (l ++ [d]), ⟨objs, tk ++ tkD (l ++ [d]), gl, rows⟩) := by
  have hl := hsm.h
  have hv : (Value.int IntKind.u64 0).cells.size = 1 := rfl
  by_cases h : l = []
  · subst h
    simp [slD, tkD, appendA, readA, roomA, maxLen, hv, dgA]
  · have h1 : (l.length + 1) * 8 ≤ 140737488355328 := by omega
    have h2 : l.length + 1 ≤ 9223372036854775807 := by omega
    simp [slD, tkD, h, appendA, readA, roomA, maxLen, h1, h2, hv, dgA]

def digsE (x : Nat) : List Nat := (List.range 16).map fun i => x / 65536 ^ i % 65536
theorem digsE_len (x : Nat) : (digsE x).length = 16 := by simp [digsE]
theorem limb_digE {x i : Nat} (hi : i < 16) : limb x (i / 4) / 2 ^ (16 * (i % 4)) % 65536 = x / 65536 ^ i % 65536 := by
  have e : (65536 : Nat) ^ i = 2 ^ (16 * i) := by rw [Nat.pow_mul]
  rw [e]
  apply Nat.eq_of_testBit_eq
  intro j
  rw [show (65536 : Nat) = 2 ^ 16 by rfl]
  simp only [Nat.testBit_mod_two_pow, Nat.testBit_div_two_pow, limb_bit]
  by_cases hj : j < 16
  · have h1 : 16 * (i % 4) + j < 64 := by omega
    have h2 : 64 * (i / 4) + (j + 16 * (i % 4)) = j + 16 * i := by omega
    simp [hj, h2]
    omega
  · simp [hj]

set_option maxHeartbeats 1600000 in
attribute [local simp] undefA List.getElem?_cons_zero List.getElem?_cons_succ append_digit in
theorem digitsE_ok {σ : St} {x : Nat} :
    CallsA Try.prog 127 [.agg (numA x)] σ (fun av σ' => av = .sl 1 (dgA (digsE x)) 16 .shut ∧ σ = σ') := by
  refine callsA_gcS ?_ (by simp [AV.under, under_dgA])
  have hv : (Value.int IntKind.u64 0).cells.size = 1 := rfl
  have F := And.intro hv (True.intro)
  refine callsA_body Try.func127 rfl rfl rfl ?_
  refine sq fun K1 hK1 => ?_
  refine rg' (h := fun J2 hJ2 => ?_)
  refine hJ2 _ _ ?_
  refine hK1 _ _ ?_
  refine sq fun K3 hK3 => ?_
  refine rg' (h := fun J4 hJ4 => ?_)
  refine hJ4 _ _ ?_
  refine hK3 _ _ ?_
  refine sq fun K5 hK5 => ?_
  refine sq fun K6 hK6 => ?_
  refine rg' (h := fun J7 hJ7 => ?_)
  refine hJ7 _ _ ?_
  refine hK6 _ _ ?_
  refine run_block_k ?_
  refine run_loopF (X := Nat) [1, 2] (fun i ρ σ1 => (i ≤ 16) ∧ (ρ 3 = slD σ.toks.length ((digsE x).take i)) ∧ (ρ 4 = .v (.int .i64 i)) ∧ (σ1 = { σ with objs := σ.objs ++ [numA x], toks := σ.toks ++ tkD ((digsE x).take i) })) (fun i => 16 - i) (0) ?st1 ?rd1
  case st1 =>
   refine ⟨lp, ?_, lp, lp⟩
   · simp [slD_nil]
  case rd1 =>
   rintro i ρ1 σ1 hF1 ⟨hj, h3, h4, hσ⟩
   obtain rfl := hσ.symm
   have f1 := keepL hF1
   try simp [KeepL, F] at f1
   replace F := And.intro h3 F
   replace F := And.intro h4 F
   try replace F := And.intro f1 F
   refine sq fun K8 hK8 => ?_
   refine sq fun K9 hK9 => ?_
   refine rg' (h := fun J10 hJ10 => ?_)
   refine hJ10 _ _ ?_
   refine hK9 _ _ ?_
   refine cs (fun c6 => ?_) (fun c6 => ?_)
   · try exact nope c6
     all_goals have c6p := c6
     all_goals try simp [F] at c6p
     all_goals
      replace F := And.intro c6 F
      try replace F := And.intro c6p F
      refine run_skip ?_
      refine hK8 _ _ ?_
      refine sq fun K11 hK11 => ?_
      refine run_block_k ?_
      obtain ⟨q, hq⟩ : ∃ q, q = i / 4 := ⟨_, rfl⟩
      obtain ⟨r, hr⟩ : ∃ r, r = i % 4 := ⟨_, rfl⟩
      have hq4 : q < 4 := by omega
      have hq5 : (q : Int) < 4 := by omega
      have hr8 : r < 4 := by omega
      have hqq : IntKind.i64.wrap ((i : Int).tdiv 4) = (q : Int) := by rw [Int.tdiv_eq_ediv_of_nonneg (by omega), wrap_i64 _ (by omega) (by omega)]; omega
      have hrr : (i : Int).tmod 4 = (r : Int) := by rw [Int.tmod_eq_emod_of_nonneg (by omega)]; omega
      have hq2 : IntKind.i64.wrap ((i : Int) / 4) = (q : Int) := by rw [wrap_i64 _ (by omega) (by omega)]; omega
      have hr2 : (i : Int) % 4 = (r : Int) := by omega
      have hnn : ¬ 16 * (r : Int) < 0 := by omega
      obtain ⟨m, hm⟩ : ∃ m, m = limb x q / 2 ^ (16 * r) := ⟨_, rfl⟩
      obtain ⟨y, hy⟩ : ∃ y, y = x / 65536 ^ i % 65536 := ⟨_, rfl⟩
      have hmy : m % 65536 = y := by rw [hm, hq, hr, hy]; exact limb_digE (by omega)
      have hsh : Int.fdiv ((limb x q : Nat) : Int) (2 ^ (min (16 * (r : Int)).toNat 64)) = (m : Int) := by rw [show min (16 * (r : Int)).toNat 64 = 16 * r by omega, Int.fdiv_eq_ediv_of_nonneg _ (by exact Int.le_of_lt (Int.pow_pos (by omega))), hm]; simp
      have hmd : (m : Int).tmod 65536 = (y : Int) := by rw [Int.tmod_eq_emod_of_nonneg (by omega)]; omega
      have hmd2 : (m : Int) % 65536 = (y : Int) := by omega
      have hget := numA_get x hq4
      have hnx : (digsE x).take (i + 1) = (digsE x).take i ++ [y] := by rw [take_snoc (by rw [digsE_len]; omega)]; simp [digsE, hy]
      have : SmallN ((digsE x).take i) := ⟨by simp [digsE_len]; omega⟩
      replace F := And.intro hqq F
      replace F := And.intro hrr F
      replace F := And.intro hq2 F
      replace F := And.intro hr2 F
      replace F := And.intro hq4 F
      replace F := And.intro hq5 F
      replace F := And.intro hnn F
      replace F := And.intro hsh F
      replace F := And.intro hmd F
      replace F := And.intro hmd2 F
      replace F := And.intro hget F
      refine rg' (h := fun J12 hJ12 => ?_)
      refine hJ12 _ _ ?_
      refine hK11 _ _ ?_
      refine rg' (h := fun J13 hJ13 => ?_)
      refine hJ13 _ _ ?_
      refine ⟨(i + 1), ⟨kp, lp, ?_, lp, ?_⟩, lp⟩
      · simp [hnx]
      · simp [hnx]
   try exact nope c6
   all_goals have c6p := c6
   all_goals try simp [F] at c6p
   all_goals
    replace F := And.intro c6 F
    try replace F := And.intro c6p F
    refine run_exit ?_
    refine hK5 _ _ ?_
    refine sq fun K14 hK14 => ?_
    refine rg' (h := fun J15 hJ15 => ?_)
    refine hJ15 _ _ ?_
    refine hK14 _ _ ?_
    refine run_ret ?_
    try simp only [Then, InBlock, NoGoto]
    refine answer_tmp rfl (.inr rfl) ?_
    have hfull : (digsE x).take i = digsE x := List.take_of_length_le (by rw [digsE_len]; simp at c6; omega)
    have hwk := wk_slD σ.toks.length (digsE x)
    rw [digsE_len] at hwk
    rw [hfull]
    exact ⟨by simpa [F, hfull] using hwk, [numA x], tkD (digsE x), [], by simp⟩

end Go.Proofs.Ytdbaddholggkbaa
