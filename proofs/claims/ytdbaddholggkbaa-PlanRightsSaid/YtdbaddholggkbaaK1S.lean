import Derived.Test.YtdbaddholggkbaaVmU
import Derived.Test.YtdbaddholggkbaaJ5
import Derived.Test.YtdbaddholggkbaaVmMS
/-
  What a plan gives: sums, lists..
-/
namespace Go.Proofs.Ytdbaddholggkbaa
set_option linter.unnecessarySimpa false
set_option maxRecDepth 100000
open Go Go.Vm
set_option linter.unusedSimpArgs false
set_option linter.unusedVariables false

attribute [local simp] evalL wantedA isCall opA evalA evalAll evalsA evalOpt ofValue ofCell plain binA_eql_pn binA_neq_pn binA_gtr binA_lss binA_geq binA_leq binA_add binA_sub binA_eql binA_neq binA_orI binA_andI binA_shl binA_shr binA_mul binA_quo binA_rem binA_agg_eql binA_agg_neq convA_int unA_not fieldAddrA loadA partA pickA_true pickA_false pickA_bb lenA builtinA storeA splice AV.cells AV.isCell sliceA boundA intA callOf indexAddrA newObjA buildA fillA zeroA ofCells buildSliceA indexA fieldA numA_len4 numA_take4 numA_drop4 set_appN get_appN take_appN List.getElem?_cons_zero List.getElem?_cons_succ makeA zeros64

section
attribute [local simp] readA rowAppA appendA roomA maxLen
set_option maxHeartbeats 1600000 in
attribute [local simp] undefA List.getElem?_cons_zero List.getElem?_cons_succ in
theorem cclone_ok {σ : St} {l : List Coin} {tl : Tail} (hl : l.length ≤ 1000000) :
    CallsA Try.prog 65 [.sl 5 (coinsC l) l.length tl] σ (fun av σ' => av = .sl 5 (coinsC l) l.length .shut ∧ σ = σ') := by
  refine callsA_gcS ?_ (by simp [AV.under])
  have h1 : l.length * 40 ≤ 140737488355328 := by omega
  have h2 : l.length ≤ 9223372036854775807 := by omega
  have F := And.intro h1 (And.intro h2 (True.intro))
  refine callsA_body Try.func65 rfl rfl rfl ?_
  refine sq fun K1 hK1 => ?_
  refine rg' (h := fun J2 hJ2 => ?_)
  refine hJ2 _ _ ?_
  refine hK1 _ _ ?_
  refine sq fun K3 hK3 => ?_
  refine sq fun K4 hK4 => ?_
  refine rg' (h := fun J5 hJ5 => ?_)
  refine sn rfl rfl (fun b4 hb4 => ?_)
  repeat (first | simp [F] | simp (disch := omega) only [wC, if_pos, if_neg])
  refine hJ5 _ _ ?_
  refine hK4 _ _ ?_
  refine cs (fun c4 => ?_) (fun c4 => ?_)
  · try exact nope c4
    all_goals have c4p := c4
    all_goals try simp [F] at c4p
    all_goals
     replace F := And.intro c4 F
     try replace F := And.intro c4p F
     have hl0 : l = [] := by cases l with | nil => rfl | cons x l => (exfalso; simp_all)
     subst hl0
     refine sq fun K6 hK6 => ?_
     refine rg' (h := fun J7 hJ7 => ?_)
     refine hJ7 _ _ ?_
     refine hK6 _ _ ?_
     refine run_ret ?_
     try simp only [Then, InBlock, NoGoto]
     refine answer_tmp rfl (.inr rfl) ?_
     exact gcr
  try exact nope c4
  all_goals have c4p := c4
  all_goals try simp [F] at c4p
  all_goals
   replace F := And.intro c4 F
   try replace F := And.intro c4p F
   refine run_skip ?_
   refine hK3 _ _ ?_
   refine sq fun K8 hK8 => ?_
   refine rg' (h := fun J9 hJ9 => ?_)
   refine hJ9 _ _ ?_
   refine hK8 _ _ ?_
   refine run_ret ?_
   try simp only [Then, InBlock, NoGoto]
   refine answer_tmp rfl (.inr rfl) ?_
   exact gcr
end

set_option maxHeartbeats 1600000 in
attribute [local simp] undefA List.getElem?_cons_zero List.getElem?_cons_succ perC persC_noObj in
theorem psum_ok {σ : St} {l : List Per} {tl : Tail} (hl : l.length ≤ 9223372036854775807) (h5 : ∀ x ∈ l, x.c.length ≤ 9223372036854775807) :
    CallsA Try.prog 63 [.sl 2 (persC l) l.length tl] σ (fun av σ' => av = .sl 5 (coinsC (sumL l [])) (sumL l []).length .shut ∧ σ = σ') := by
  refine callsA_gcS ?_ (by simp [AV.under])
  have F := True.intro
  refine callsA_body Try.func63 rfl rfl rfl ?_
  refine sq fun K1 hK1 => ?_
  refine rg' (h := fun J2 hJ2 => ?_)
  refine hJ2 _ _ ?_
  refine hK1 _ _ ?_
  refine sq fun K3 hK3 => ?_
  refine rg' (h := fun J4 hJ4 => ?_)
  refine hJ4 _ _ ?_
  refine hK3 _ _ ?_
  refine sq fun K5 hK5 => ?_
  refine sq fun K6 hK6 => ?_
  refine run_nilsh 3 5 (k := ?_)
  refine rg' (h := fun J7 hJ7 => ?_)
  refine hJ7 _ _ ?_
  refine hK6 _ _ ?_
  refine run_block_k ?_
  refine run_loopG (X := PerQ) [2, 6, 7] (fun q ρ σ1 => (q.i ≤ l.length) ∧ (sumL l [] = sumL (l.drop q.i) q.a) ∧ (q.a.length ≤ 8) ∧ (ρ 3 = .sl 5 (coinsC q.a) q.a.length .shut) ∧ (ρ 8 = .v (.int .i64 q.i)) ∧ (σ1 = σ)) (fun q => l.length - q.i) (⟨0, 0, []⟩) ?st1 ?rd1
  case st1 =>
   refine ⟨lp, ?_, lp, lp, lp, ?_⟩
   · rfl
   · rfl
  case rd1 =>
   rintro q ρ1 σ1 hF1 ⟨hi, hE, hqa, h4, h17, hσ⟩
   obtain rfl := hσ.symm
   have f1 := keepL hF1
   try simp [KeepL, F] at f1
   replace F := And.intro h4 F
   replace F := And.intro h17 F
   try replace F := And.intro f1 F
   refine sq fun K8 hK8 => ?_
   refine rg' (h := fun J9 hJ9 => ?_)
   refine hJ9 _ _ ?_
   refine hK8 _ _ ?_
   refine sq fun K10 hK10 => ?_
   refine cs (fun c9 => ?_) (fun c9 => ?_)
   · try exact nope c9
     all_goals have c9p := c9
     all_goals try simp [F] at c9p
     all_goals
      replace F := And.intro c9 F
      try replace F := And.intro c9p F
      refine run_skip ?_
      refine hK10 _ _ ?_
      refine sq fun K11 hK11 => ?_
      refine run_block_k ?_
      refine sq fun K12 hK12 => ?_
      obtain ⟨i, E, S⟩ := q
      simp only at hi hE hqa h4 h17
      have hlt : i < l.length := by simp at c9; omega
      have hat := persC_at hlt
      have hb1 : i * 2 + 2 ≤ l.length * 2 := by omega
      have hxc := h5 _ (List.getElem_mem hlt)
      have hcons : l.drop i = l[i] :: l.drop (i + 1) := List.drop_eq_getElem_cons hlt
      obtain ⟨x, hx⟩ : ∃ x, x = l[i] := ⟨_, rfl⟩
      rw [← hx] at hat hxc hcons
      rw [hcons] at hE
      obtain ⟨xl, xc⟩ := x
      simp only at hxc
      simp only [sumL] at hE
      obtain ⟨S2, hS2⟩ : ∃ S2, S2 = cAddL S xc := ⟨_, rfl⟩
      have hS2l : S2.length ≤ 8 := by rw [hS2]; exact right_len (right_cAdd _ _)
      rw [← hS2] at hE
      replace F := And.intro hlt F
      replace F := And.intro hat F
      replace F := And.intro hb1 F
      refine rg' (h := fun J13 hJ13 => ?_)
      refine hJ13 _ _ ?_
      refine hK12 _ _ ?_
      refine rg' (h := fun J14 hJ14 => ?_)
      refine ca (c := (hS2 ▸ cadd_ok (by omega) hxc)) (k := ?_)
      rintro _ _ ⟨rfl, rfl⟩
      repeat (first | simp [F] | simp (disch := omega) only [wC, if_pos, if_neg])
      refine hJ14 _ _ ?_
      refine hK11 _ _ ?_
      refine rg' (h := fun J15 hJ15 => ?_)
      refine hJ15 _ _ ?_
      refine ⟨gk, (⟨i + 1, E, S2⟩), ⟨kpG, lpG, ?_, ?_, lpG, lpG, lpG⟩, lpG⟩
      · exact hE
      · exact hS2l
   try exact nope c9
   all_goals have c9p := c9
   all_goals try simp [F] at c9p
   all_goals
    replace F := And.intro c9 F
    try replace F := And.intro c9p F
    have hend : sumL l [] = q.a := by rw [hE, List.drop_of_length_le (by have h := c9; simp at h; omega)]; rfl
    replace F := And.intro hend F
    refine run_exit ?_
    refine hK5 _ _ ?_
    refine sq fun K16 hK16 => ?_
    refine rg' (h := fun J17 hJ17 => ?_)
    refine hJ17 _ _ ?_
    refine hK16 _ _ ?_
    refine run_ret ?_
    try simp only [Then, InBlock, NoGoto]
    refine answer_tmp rfl (.inr rfl) ?_
    exact gcr

set_option maxHeartbeats 1600000 in
attribute [local simp] undefA List.getElem?_cons_zero List.getElem?_cons_succ perC plnC persC_noObj in
theorem pover_ok {σ : St} {p : Pln} {t : Nat} (hp : p.Ok) (hs : p.s + lenS p.ps < 2 ^ 64) :
    CallsA Try.prog 64 [.agg (plnC p), .v (.int .u64 t)] σ (fun av σ' => av = .sl 2 (persC (p.ps.take (overN p.ps p.s t))) (overN p.ps p.s t) .shut ∧ σ = σ') := by
  refine callsA_gcS ?_ (by simp [AV.under, persC_under])
  obtain ⟨pk, ps, pe, pt, pp⟩ := p
  obtain ⟨k1, k2, k3, k4, h5⟩ := hp
  simp only at hs k4 k1 h5
  have F := True.intro
  refine callsA_body Try.func64 rfl rfl rfl ?_
  refine sq fun K1 hK1 => ?_
  refine rg' (h := fun J2 hJ2 => ?_)
  refine hJ2 _ _ ?_
  refine hK1 _ _ ?_
  refine sq fun K3 hK3 => ?_
  refine rg' (h := fun J4 hJ4 => ?_)
  refine hJ4 _ _ ?_
  refine hK3 _ _ ?_
  refine sq fun K5 hK5 => ?_
  refine sq fun K6 hK6 => ?_
  refine rg' (h := fun J7 hJ7 => ?_)
  refine hJ7 _ _ ?_
  refine hK6 _ _ ?_
  refine run_block_k ?_
  refine run_loopG (X := PerQ) [1, 2, 11, 12] (fun q ρ σ1 => (q.i ≤ pp.length) ∧ (overN pp ps t = overN (pp.drop q.i) q.e t + q.i) ∧ (q.e + lenS (pp.drop q.i) < 2 ^ 64) ∧ (ρ 5 = .v (.int .u64 q.e)) ∧ (ρ 13 = .v (.int .i64 q.i)) ∧ (σ1 = { σ with objs := σ.objs ++ [[.v (.int .u8 pk.toNat), .v (.int .u64 ps), .v (.int .u64 pe), .sl 5 (coinsC pt) pt.length .shut, .sl 2 (persC pp) pp.length .shut]] })) (fun q => pp.length - q.i) (⟨0, ps, []⟩) ?st1 ?rd1
  case st1 =>
   refine ⟨lp, ?_, ?_, lp, lp, ?_⟩
   · rfl
   · exact hs
   · rfl
  case rd1 =>
   rintro q ρ1 σ1 hF1 ⟨hi, hE, hqe, h4, h17, hσ⟩
   obtain rfl := hσ.symm
   have f1 := keepL hF1
   try simp [KeepL, F] at f1
   replace F := And.intro h4 F
   replace F := And.intro h17 F
   try replace F := And.intro f1 F
   refine sq fun K8 hK8 => ?_
   refine rg' (h := fun J9 hJ9 => ?_)
   refine hJ9 _ _ ?_
   refine hK8 _ _ ?_
   refine sq fun K10 hK10 => ?_
   refine cs (fun c14 => ?_) (fun c14 => ?_)
   · try exact nope c14
     all_goals have c14p := c14
     all_goals try simp [F] at c14p
     all_goals
      replace F := And.intro c14 F
      try replace F := And.intro c14p F
      refine run_skip ?_
      refine hK10 _ _ ?_
      refine sq fun K11 hK11 => ?_
      refine run_block_k ?_
      refine sq fun K12 hK12 => ?_
      obtain ⟨i, E, S⟩ := q
      simp only at hi hE hqe h4 h17
      have hlt : i < pp.length := by simp at c14; omega
      have hat := persC_at hlt
      have hb1 : i * 2 + 2 ≤ pp.length * 2 := by omega
      have hcons : pp.drop i = pp[i] :: pp.drop (i + 1) := List.drop_eq_getElem_cons hlt
      obtain ⟨x, hx⟩ : ∃ x, x = pp[i] := ⟨_, rfl⟩
      rw [← hx] at hat hcons
      rw [hcons] at hE hqe
      obtain ⟨xl, xc⟩ := x
      simp only [overN] at hE
      simp only [lenS] at hqe
      have hw : IntKind.u64.wrap ((E : Int) + xl) = ((E + xl : Nat) : Int) := by rw [wrap_u64c (by omega)]; rfl
      replace F := And.intro hlt F
      replace F := And.intro hat F
      replace F := And.intro hb1 F
      replace F := And.intro hw F
      refine rg' (h := fun J13 hJ13 => ?_)
      refine hJ13 _ _ ?_
      refine hK12 _ _ ?_
      refine sq fun K14 hK14 => ?_
      refine rg' (h := fun J15 hJ15 => ?_)
      refine hJ15 _ _ ?_
      refine hK14 _ _ ?_
      refine sq fun K16 hK16 => ?_
      refine rg' (h := fun J17 hJ17 => ?_)
      refine hJ17 _ _ ?_
      refine hK16 _ _ ?_
      refine cs (fun c24 => ?_) (fun c24 => ?_)
      · try exact nope c24
        all_goals have c24p := c24
        all_goals try simp [F] at c24p
        all_goals
         replace F := And.intro c24 F
         try replace F := And.intro c24p F
         have h1 : t < E + xl := by have h := c24; simp at h; omega
         rw [if_pos h1, Nat.zero_add] at hE
         have hpt := persC_take pp i
         replace F := And.intro hE (And.intro hpt F)
         refine sq fun K18 hK18 => ?_
         refine rg' (h := fun J19 hJ19 => ?_)
         refine hJ19 _ _ ?_
         refine hK18 _ _ ?_
         refine run_ret ?_
         try simp only [Then, InBlock, NoGoto]
         refine answer_tmp rfl (.inr rfl) ?_
         exact gcr
      try exact nope c24
      all_goals have c24p := c24
      all_goals try simp [F] at c24p
      all_goals
       replace F := And.intro c24 F
       try replace F := And.intro c24p F
       have h1 : ¬ t < E + xl := by have h := c24; simp at h; omega
       rw [if_neg h1] at hE
       have hE2 : overN pp ps t = overN (pp.drop (i + 1)) (E + xl) t + (i + 1) := by rw [hE]; omega
       have hqe2 : E + xl + lenS (pp.drop (i + 1)) < 2 ^ 64 := by omega
       refine run_skip ?_
       refine hK11 _ _ ?_
       refine rg' (h := fun J20 hJ20 => ?_)
       refine hJ20 _ _ ?_
       refine ⟨gk, (⟨i + 1, E + xl, []⟩), ⟨kpG, lpG, ?_, ?_, lpG, lpG, lpG⟩, lpG⟩
       · exact hE2
       · exact hqe2
   try exact nope c14
   all_goals have c14p := c14
   all_goals try simp [F] at c14p
   all_goals
    replace F := And.intro c14 F
    try replace F := And.intro c14p F
    have hii : q.i = pp.length := by have h := c14; simp at h; omega
    have hend : overN pp ps t = pp.length := by rw [hE, List.drop_of_length_le (by omega)]; simp [overN, hii]
    have htk : pp.take pp.length = pp := List.take_length
    replace F := And.intro hend (And.intro htk F)
    refine run_exit ?_
    refine hK5 _ _ ?_
    refine sq fun K21 hK21 => ?_
    refine rg' (h := fun J22 hJ22 => ?_)
    refine hJ22 _ _ ?_
    refine hK21 _ _ ?_
    refine run_ret ?_
    try simp only [Then, InBlock, NoGoto]
    refine answer_tmp rfl (.inr rfl) ?_
    exact gcr

end Go.Proofs.Ytdbaddholggkbaa

/-
  What a plan gives..
-/
namespace Go.Proofs.Ytdbaddholggkbaa
set_option linter.unnecessarySimpa false
set_option maxRecDepth 100000
open Go Go.Vm
set_option linter.unusedSimpArgs false
set_option linter.unusedVariables false

attribute [local simp] evalL wantedA isCall opA evalA evalAll evalsA evalOpt ofValue ofCell plain binA_eql_pn binA_neq_pn binA_gtr binA_lss binA_geq binA_leq binA_add binA_sub binA_eql binA_neq binA_orI binA_andI binA_shl binA_shr binA_mul binA_quo binA_rem binA_agg_eql binA_agg_neq convA_int unA_not fieldAddrA loadA partA pickA_true pickA_false pickA_bb lenA builtinA storeA splice AV.cells AV.isCell sliceA boundA intA callOf indexAddrA newObjA buildA fillA zeroA ofCells buildSliceA indexA fieldA numA_len4 numA_take4 numA_drop4 set_appN get_appN take_appN List.getElem?_cons_zero List.getElem?_cons_succ makeA zeros64

set_option maxHeartbeats 1600000 in
attribute [local simp] undefA List.getElem?_cons_zero List.getElem?_cons_succ plnC persC_noObj coinC in
theorem pvested_ok {σ : St} {p : Pln} {t : Nat} (hp : p.Ok) (hc : p.tot.length ≤ 1000000) (hs : p.s + lenS p.ps < 2 ^ 64) (ht : t < 2 ^ 64) :
    CallsA Try.prog 23 [.agg (plnC p), .v (.int .u64 t)] σ (fun av σ' => av = .sl 5 (coinsC (vestL p t)) (vestL p t).length .shut ∧ σ = σ') := by
  refine callsA_gcS ?_ (by simp [AV.under])
  have hp0 := hp
  obtain ⟨pk, ps, pe, pt, pp⟩ := p
  obtain ⟨k1, k2, k3, k4, h5⟩ := hp
  simp only at hc hs k1 k2 k3 k4 h5
  have hkn : ∀ n : UInt8, pk = n ↔ (pk.toNat : Int) = (n.toNat : Int) := fun n => ⟨fun e => by rw [e], fun e => UInt8.toNat_inj.1 (Int.ofNat_inj.1 e)⟩
  have hon := overN_le pp ps t
  have hol : (pp.take (overN pp ps t)).length = overN pp ps t := by simp; omega
  have hsum : ∀ σ, CallsA Try.prog 63 [.sl 2 (persC (pp.take (overN pp ps t))) (overN pp ps t) .shut] σ (fun av σ' => av = .sl 5 (coinsC (sumL (pp.take (overN pp ps t)) [])) (sumL (pp.take (overN pp ps t)) []).length .shut ∧ σ = σ') := fun σ => by
    have h := psum_ok (σ := σ) (l := pp.take (overN pp ps t)) (tl := .shut) (by rw [hol]; omega) (fun x hx => (h5 x (List.mem_of_mem_take hx)).2)
    rw [hol] at h; exact h
  have F := True.intro
  refine callsA_body Try.func23 rfl rfl rfl ?_
  refine sq fun K1 hK1 => ?_
  refine rg' (h := fun J2 hJ2 => ?_)
  refine hJ2 _ _ ?_
  refine hK1 _ _ ?_
  refine sq fun K3 hK3 => ?_
  refine run_block_k ?_
  refine sq fun K4 hK4 => ?_
  refine rg' (h := fun J5 hJ5 => ?_)
  refine gs 14 (fun g1_3 => ?_) (fun g1_3 => ?_)
  · try exact nope g1_3
    all_goals have g1_3p := g1_3
    all_goals try simp [F] at g1_3p
    all_goals
     replace F := And.intro g1_3 F
     try replace F := And.intro g1_3p F
     refine no2 (k := ?_)
     refine no2 (k := ?_)
     refine no2 (k := ?_)
     refine hJ5 _ _ ?_
     refine hK4 _ _ ?_
     refine ct ?_
     refine sq fun K6 hK6 => ?_
     have h35 : (pk.toNat : Int) = 3 ∨ (pk.toNat : Int) = 5 := by first | exact .inl (by simpa using g1_3) | exact .inr (by simpa using c10)
     have hv : vestL ⟨pk, ps, pe, pt, pp⟩ t = sumL (pp.take (overN pp ps t)) [] := by rw [vestL]; rcases h35 with h | h <;> simp [hkn, h]
     replace F := And.intro hv F
     refine rg' (h := fun J7 hJ7 => ?_)
     refine ca (c := (pover_ok (t := t) hp0 hs)) (k := ?_)
     rintro _ _ ⟨rfl, rfl⟩
     repeat (first | simp [F] | simp (disch := omega) only [wC, if_pos, if_neg])
     refine ca (c := hsum _) (k := ?_)
     rintro _ _ ⟨rfl, rfl⟩
     repeat (first | simp [F] | simp (disch := omega) only [wC, if_pos, if_neg])
     refine hJ7 _ _ ?_
     refine hK6 _ _ ?_
     refine run_ret ?_
     try simp only [Then, InBlock, NoGoto]
     refine answer_tmp rfl (.inr rfl) ?_
     exact gcr (hA := by simp only [putA_get]; simp [vestL, hkn, F]; first | exact Wk.refl _ | exact Wk.nil _ _ _)
  try exact nope g1_3
  all_goals have g1_3p := g1_3
  all_goals try simp [F] at g1_3p
  all_goals
   replace F := And.intro g1_3 F
   try replace F := And.intro g1_3p F
   refine go2 (k := ?_)
   refine go2 (k := ?_)
   refine go2 (k := ?_)
   refine hJ5 _ _ ?_
   refine hK4 _ _ ?_
   refine cs (fun c10 => ?_) (fun c10 => ?_)
   · try exact nope c10
     all_goals have c10p := c10
     all_goals try simp [F] at c10p
     all_goals
      replace F := And.intro c10 F
      try replace F := And.intro c10p F
      refine sq fun K8 hK8 => ?_
      have h35 : (pk.toNat : Int) = 3 ∨ (pk.toNat : Int) = 5 := by first | exact .inl (by simpa using g1_3) | exact .inr (by simpa using c10)
      have hv : vestL ⟨pk, ps, pe, pt, pp⟩ t = sumL (pp.take (overN pp ps t)) [] := by rw [vestL]; rcases h35 with h | h <;> simp [hkn, h]
      replace F := And.intro hv F
      refine rg' (h := fun J9 hJ9 => ?_)
      refine ca (c := (pover_ok (t := t) hp0 hs)) (k := ?_)
      rintro _ _ ⟨rfl, rfl⟩
      repeat (first | simp [F] | simp (disch := omega) only [wC, if_pos, if_neg])
      refine ca (c := hsum _) (k := ?_)
      rintro _ _ ⟨rfl, rfl⟩
      repeat (first | simp [F] | simp (disch := omega) only [wC, if_pos, if_neg])
      refine hJ9 _ _ ?_
      refine hK8 _ _ ?_
      refine run_ret ?_
      try simp only [Then, InBlock, NoGoto]
      refine answer_tmp rfl (.inr rfl) ?_
      exact gcr (hA := by simp only [putA_get]; simp [vestL, hkn, F]; first | exact Wk.refl _ | exact Wk.nil _ _ _)
   try exact nope c10
   all_goals have c10p := c10
   all_goals try simp [F] at c10p
   all_goals
    replace F := And.intro c10 F
    try replace F := And.intro c10p F
    refine sq fun K10 hK10 => ?_
    refine rg' (h := fun J11 hJ11 => ?_)
    refine gs 27 (fun g3_3 => ?_) (fun g3_3 => ?_)
    · try exact nope g3_3
      all_goals have g3_3p := g3_3
      all_goals try simp [F] at g3_3p
      all_goals
       replace F := And.intro g3_3 F
       try replace F := And.intro g3_3p F
       refine go2 (k := ?_)
       refine go2 (k := ?_)
       refine go2 (k := ?_)
       refine gs 32 (fun g3_8 => ?_) (fun g3_8 => ?_)
       · try exact nope g3_8
         all_goals have g3_8p := g3_8
         all_goals try simp [F] at g3_8p
         all_goals
          replace F := And.intro g3_8 F
          try replace F := And.intro g3_8p F
          refine no2 (k := ?_)
          refine no2 (k := ?_)
          refine no2 (k := ?_)
          refine no2 (k := ?_)
          refine no2 (k := ?_)
          refine no2 (k := ?_)
          refine no2 (k := ?_)
          refine no2 (k := ?_)
          refine no2 (k := ?_)
          refine hJ11 _ _ ?_
          refine hK10 _ _ ?_
          refine ct ?_
          refine sq fun K12 hK12 => ?_
          refine rg' (h := fun J13 hJ13 => ?_)
          refine hJ13 _ _ ?_
          refine hK12 _ _ ?_
          refine run_ret ?_
          try simp only [Then, InBlock, NoGoto]
          refine answer_tmp rfl (.inr rfl) ?_
          exact gcr (hA := by simp only [putA_get]; simp [vestL, hkn, F]; first | exact Wk.refl _ | exact Wk.nil _ _ _)
       try exact nope g3_8
       all_goals have g3_8p := g3_8
       all_goals try simp [F] at g3_8p
       all_goals
        replace F := And.intro g3_8 F
        try replace F := And.intro g3_8p F
        refine go2 (k := ?_)
        refine go2 (k := ?_)
        refine go2 (k := ?_)
        refine go2 (k := ?_)
        refine gs 36 (fun g3_12 => ?_) (fun g3_12 => ?_)
        · try exact nope g3_12
          all_goals have g3_12p := g3_12
          all_goals try simp [F] at g3_12p
          all_goals
           replace F := And.intro g3_12 F
           try replace F := And.intro g3_12p F
           refine go2 (k := ?_)
           refine go2 (k := ?_)
           refine go2 (k := ?_)
           refine go2 (k := ?_)
           refine go2 (k := ?_)
           refine hJ11 _ _ ?_
           refine hK10 _ _ ?_
           refine cs (fun c23 => ?_) (fun c23 => ?_)
           · try exact nope c23
             all_goals have c23p := c23
             all_goals try simp [F] at c23p
             all_goals
              replace F := And.intro c23 F
              try replace F := And.intro c23p F
              have n1 : t ≤ ps := by have h := c23; simp at h; omega
              replace F := And.intro n1 F
              refine sq fun K14 hK14 => ?_
              refine rg' (h := fun J15 hJ15 => ?_)
              refine hJ15 _ _ ?_
              refine hK14 _ _ ?_
              refine run_ret ?_
              try simp only [Then, InBlock, NoGoto]
              refine answer_tmp rfl (.inr rfl) ?_
              exact gcr (hA := by simp only [putA_get]; simp [vestL, hkn, F]; first | exact Wk.refl _ | exact Wk.nil _ _ _)
           try exact nope c23
           all_goals have c23p := c23
           all_goals try simp [F] at c23p
           all_goals
            replace F := And.intro c23 F
            try replace F := And.intro c23p F
            have n1 : ¬ t ≤ ps := by have h := c23; simp at h; omega
            replace F := And.intro n1 F
            refine sq fun K16 hK16 => ?_
            refine rg' (h := fun J17 hJ17 => ?_)
            refine hJ17 _ _ ?_
            refine hK16 _ _ ?_
            refine cs (fun c43 => ?_) (fun c43 => ?_)
            · try exact nope c43
              all_goals have c43p := c43
              all_goals try simp [F] at c43p
              all_goals
               replace F := And.intro c43 F
               try replace F := And.intro c43p F
               have n2 : pe ≤ t := by have h := c43; simp at h; omega
               replace F := And.intro n2 F
               refine sq fun K18 hK18 => ?_
               refine rg' (h := fun J19 hJ19 => ?_)
               refine ca (c := cclone_ok hc) (k := ?_)
               rintro _ _ ⟨rfl, rfl⟩
               repeat (first | simp [F] | simp (disch := omega) only [wC, if_pos, if_neg])
               refine hJ19 _ _ ?_
               refine hK18 _ _ ?_
               refine run_ret ?_
               try simp only [Then, InBlock, NoGoto]
               refine answer_tmp rfl (.inr rfl) ?_
               exact gcr (hA := by simp only [putA_get]; simp [vestL, hkn, F]; first | exact Wk.refl _ | exact Wk.nil _ _ _)
            try exact nope c43
            all_goals have c43p := c43
            all_goals try simp [F] at c43p
            all_goals
             replace F := And.intro c43 F
             try replace F := And.intro c43p F
             have n2 : ¬ pe ≤ t := by have h := c43; simp at h; omega
             replace F := And.intro n2 F
             refine sq fun K20 hK20 => ?_
             refine rg' (h := fun J21 hJ21 => ?_)
             refine hJ21 _ _ ?_
             refine hK20 _ _ ?_
             refine cs (fun c51 => ?_) (fun c51 => ?_)
             · try exact nope c51
               all_goals have c51p := c51
               all_goals try simp [F] at c51p
               all_goals
                replace F := And.intro c51 F
                try replace F := And.intro c51p F
                refine sq fun K22 hK22 => ?_
                refine rg' (h := fun J23 hJ23 => ?_)
                refine hJ23 _ _ ?_
                refine hK22 _ _ ?_
                refine run_ret ?_
                try simp only [Then, InBlock, NoGoto]
                refine answer_tmp rfl (.inr rfl) ?_
                exact gcr (hA := by simp only [putA_get]; simp [vestL, hkn, F]; first | exact Wk.refl _ | exact Wk.nil _ _ _)
             try exact nope c51
             all_goals have c51p := c51
             all_goals try simp [F] at c51p
             all_goals
              replace F := And.intro c51 F
              try replace F := And.intro c51p F
              refine run_skip ?_
              refine hK3 _ _ ?_
              refine sq fun K24 hK24 => ?_
              refine rg' (h := fun J25 hJ25 => ?_)
              refine hJ25 _ _ ?_
              refine hK24 _ _ ?_
              refine sq fun K26 hK26 => ?_
              refine sq fun K27 hK27 => ?_
              refine rg' (h := fun J28 hJ28 => ?_)
              refine hJ28 _ _ ?_
              refine hK27 _ _ ?_
              refine run_block_k ?_
              refine run_loopG (X := Nat) [1, 2, 4, 56, 57] (fun i ρ σ1 => (i ≤ pt.length) ∧ (ρ 5 = grA σ.toks.length 5 (posB i) (coinsC (partL ps pe t (pt.take i))) (partL ps pe t (pt.take i)).length) ∧ (ρ 58 = .v (.int .i64 i)) ∧ (σ1 = { σ with objs := σ.objs ++ [[.v (.int .u8 pk.toNat), .v (.int .u64 ps), .v (.int .u64 pe), .sl 5 (coinsC pt) pt.length .shut, .sl 2 (persC pp) pp.length .shut]], toks := σ.toks ++ grT (posB i) (partL ps pe t (pt.take i)).length })) (fun i => pt.length - i) (0) ?st1 ?rd1
              case st1 =>
               refine ⟨lp, lp, lp, ?_⟩
               · simp [F]
              case rd1 =>
               rintro i ρ1 σ1 hF1 ⟨hi, h8, h12, hσ⟩
               obtain rfl := hσ.symm
               have f1 := keepL hF1
               try simp [KeepL, F] at f1
               replace F := And.intro h8 F
               replace F := And.intro h12 F
               try replace F := And.intro f1 F
               refine sq fun K29 hK29 => ?_
               refine rg' (h := fun J30 hJ30 => ?_)
               refine hJ30 _ _ ?_
               refine hK29 _ _ ?_
               refine sq fun K31 hK31 => ?_
               refine cs (fun c59 => ?_) (fun c59 => ?_)
               · try exact nope c59
                 all_goals have c59p := c59
                 all_goals try simp [F] at c59p
                 all_goals
                  replace F := And.intro c59 F
                  try replace F := And.intro c59p F
                  refine run_skip ?_
                  refine hK31 _ _ ?_
                  refine sq fun K32 hK32 => ?_
                  refine run_block_k ?_
                  refine sq fun K33 hK33 => ?_
                  have hlt : i < pt.length := by simp at c59; omega
                  have hat := coinsC_at hlt
                  have hb1 : i * 5 + 5 ≤ pt.length * 5 := by omega
                  obtain ⟨x, hx⟩ : ∃ x, x = pt[i] := ⟨_, rfl⟩
                  rw [← hx] at hat
                  simp only [coinC] at hat
                  have hse : ps < t := by have h := c23; simp at h; omega
                  have hte : t < pe := by have h := c43; simp at h; omega
                  have hw1 : IntKind.u64.wrap ((t : Int) - ps) = ((t - ps : Nat) : Int) := by rw [wrap_u64c (by omega)]; omega
                  have hw2 : IntKind.u64.wrap ((pe : Int) - ps) = ((pe - ps : Nat) : Int) := by rw [wrap_u64c (by omega)]; omega
                  have hpn : partN x ps pe t < 2 ^ 256 := partN_lt (by omega)
                  have hmd : mdN x.n.v (t - ps) (pe - ps) false = (Num.of (partN x ps pe t)).v := by rw [Num.of_v hpn, mdN, if_neg (by omega), show mdQ x.n.v (t - ps) (pe - ps) false = partN x ps pe t by simp [mdQ, partN], if_pos hpn]
                  obtain ⟨n, hn⟩ : ∃ n, n = Num.of (partN x ps pe t) := ⟨_, rfl⟩
                  rw [← hn] at hmd
                  obtain ⟨L, hL⟩ : ∃ L, L = partL ps pe t (pt.take i) := ⟨_, rfl⟩
                  obtain ⟨M, hM⟩ : ∃ M, M = oneL x.d n := ⟨_, rfl⟩
                  have hnx : partL ps pe t (pt.take (i + 1)) = L ++ M := by rw [hL, hM, hn, ← partL_snoc, hx, List.take_append_getElem hlt]
                  have hLl : L.length ≤ i := by rw [hL]; exact Nat.le_trans (partL_len _ _ _ _) (by simp; omega)
                  have hMl : M.length ≤ 1 := by rw [hM]; unfold oneL; split <;> simp
                  rw [← hL] at h8 F
                  rw [← hL]
                  have hb0 : posB i = false → coinsC L = [] ∧ L.length = 0 := fun h => by have h0 := posB_no h; subst h0; rw [hL]; simp [partL]
                  have happ : ∀ objs, appendA Try.prog 23 (grA σ.toks.length 5 (posB i) (coinsC L) L.length) (.sl 5 (coinsC M) M.length .shut) ⟨objs, σ.toks ++ grT (posB i) L.length, σ.gl, σ.rows⟩ = some (grA σ.toks.length 5 true (coinsC L ++ coinsC M) (L.length + M.length), ⟨objs, σ.toks ++ grT true (L.length + M.length), σ.gl, σ.rows⟩) := fun objs => append_gr elemT_23 ti_86 (by decide) rfl hb0 (.inl rfl) (by simp [roomA]; omega) (by simp [maxLen]; omega)
                  replace F := And.intro hlt F
                  replace F := And.intro hat F
                  replace F := And.intro hb1 F
                  replace F := And.intro hw1 F
                  replace F := And.intro hw2 F
                  replace F := And.intro happ F
                  refine rg' (h := fun J34 hJ34 => ?_)
                  refine hJ34 _ _ ?_
                  refine hK33 _ _ ?_
                  refine sq fun K35 hK35 => ?_
                  refine run_draw (by kernel_rfl) fun J36 hJ36 => ?_
                  refine rp2 0 (k := ?_)
                  refine rp2 1 (k := ?_)
                  refine rp2 2 (k := ?_)
                  refine rp2 3 (k := ?_)
                  refine rp2 4 (k := ?_)
                  refine rp2 5 (k := ?_)
                  refine rp2 7 (k := ?_)
                  refine rp2 8 (k := ?_)
                  refine rp2 9 (k := ?_)
                  refine rp2 10 (k := ?_)
                  refine rp2 11 (k := ?_)
                  refine d2 6 17 ?_ ?_
                  · refine ac 6 rfl (c := nOf_ok (n := t - ps) (by omega)) (k := ?_)
                    rintro _ _ ⟨rfl, rfl⟩
                    refine ⟨by first | exact fun _ _ h => h | (refine later_list [11, 10, 9, 8, 7, 4, 3, 2, 1, 0] (by kernel_rfl) (List.forall_mem_cons.2 ⟨fun _ => fact2 rfl rfl ?_, List.forall_mem_cons.2 ⟨fun _ => fact2 rfl rfl ?_, List.forall_mem_cons.2 ⟨fun _ => fact2 rfl rfl ?_, List.forall_mem_cons.2 ⟨fun _ => fact2 rfl rfl ?_, List.forall_mem_cons.2 ⟨fun _ => fact2 rfl rfl ?_, List.forall_mem_cons.2 ⟨fun _ => fact2 rfl rfl ?_, List.forall_mem_cons.2 ⟨fun _ => fact2 rfl rfl ?_, List.forall_mem_cons.2 ⟨fun _ => fact2 rfl rfl ?_, List.forall_mem_cons.2 ⟨fun _ => fact2 rfl rfl ?_, List.forall_mem_cons.2 ⟨fun _ => fact2 rfl rfl ?_, fun _ h => absurd h List.not_mem_nil⟩⟩⟩⟩⟩⟩⟩⟩⟩⟩) <;> constructor <;> first | rfl | (simp [F]; done)), ?_⟩
                    repeat (first | simp [F] | simp (disch := omega) only [wC, if_pos, if_neg])
                    refine d2 12 17 ?_ ?_
                    · refine ac 12 rfl (c := nOf_ok (n := pe - ps) (by omega)) (k := ?_)
                      rintro _ _ ⟨rfl, rfl⟩
                      refine ⟨by first | exact fun _ _ h => h | (refine later_list [10, 9, 8, 7, 4, 3, 2, 1, 0] (by kernel_rfl) (List.forall_mem_cons.2 ⟨fun _ => fact2 rfl rfl ?_, List.forall_mem_cons.2 ⟨fun _ => fact2 rfl rfl ?_, List.forall_mem_cons.2 ⟨fun _ => fact2 rfl rfl ?_, List.forall_mem_cons.2 ⟨fun _ => fact2 rfl rfl ?_, List.forall_mem_cons.2 ⟨fun _ => fact2 rfl rfl ?_, List.forall_mem_cons.2 ⟨fun _ => fact2 rfl rfl ?_, List.forall_mem_cons.2 ⟨fun _ => fact2 rfl rfl ?_, List.forall_mem_cons.2 ⟨fun _ => fact2 rfl rfl ?_, List.forall_mem_cons.2 ⟨fun _ => fact2 rfl rfl ?_, fun _ h => absurd h List.not_mem_nil⟩⟩⟩⟩⟩⟩⟩⟩⟩) <;> constructor <;> first | rfl | (simp [F]; done)), ?_⟩
                      repeat (first | simp [F] | simp (disch := omega) only [wC, if_pos, if_neg])
                      refine d2 13 17 ?_ ?_
                      · refine ac 13 rfl (c := (hmd ▸ muldiv_ok x.n.h (by omega) (by omega))) (k := ?_)
                        rintro _ _ ⟨rfl, rfl⟩
                        refine ⟨by first | exact fun _ _ h => h | (refine later_list [10, 9, 8, 7, 4, 3, 2, 0] (by kernel_rfl) (List.forall_mem_cons.2 ⟨fun _ => fact2 rfl rfl ?_, List.forall_mem_cons.2 ⟨fun _ => fact2 rfl rfl ?_, List.forall_mem_cons.2 ⟨fun _ => fact2 rfl rfl ?_, List.forall_mem_cons.2 ⟨fun _ => fact2 rfl rfl ?_, List.forall_mem_cons.2 ⟨fun _ => fact2 rfl rfl ?_, List.forall_mem_cons.2 ⟨fun _ => fact2 rfl rfl ?_, List.forall_mem_cons.2 ⟨fun _ => fact2 rfl rfl ?_, List.forall_mem_cons.2 ⟨fun _ => fact2 rfl rfl ?_, fun _ h => absurd h List.not_mem_nil⟩⟩⟩⟩⟩⟩⟩⟩) <;> constructor <;> first | rfl | (simp [F]; done)), ?_⟩
                        repeat (first | simp [F] | simp (disch := omega) only [wC, if_pos, if_neg])
                        refine rp2 14 (k := ?_)
                        refine rp2 15 (k := ?_)
                        refine rp2 16 (k := ?_)
                        refine dop 17 rfl ?_
                        repeat (first | simp [F] | simp (disch := omega) only [wC, if_pos, if_neg])
                        refine ⟨by first | exact later_more _ (by kernel_rfl) | exact later_more2 (by kernel_rfl) rfl, ?_⟩
                        refine dop 18 rfl ?_
                        repeat (first | simp [F] | simp (disch := omega) only [wC, if_pos, if_neg])
                        refine ⟨later_tmp (by kernel_rfl), ?_⟩
                        refine rp2 19 (k := ?_)
                        refine dd ?_
                        refine hJ36 _ _ ?_
                        refine hK35 _ _ ?_
                        refine rg' (h := fun J37 hJ37 => ?_)
                        refine ca (c := (hM ▸ one_ok (d := x.d) (n := n))) (k := ?_)
                        rintro _ _ ⟨rfl, rfl⟩
                        repeat (first | simp [F] | simp (disch := omega) only [wC, if_pos, if_neg])
                        refine hJ37 _ _ ?_
                        refine hK32 _ _ ?_
                        refine rg' (h := fun J38 hJ38 => ?_)
                        refine hJ38 _ _ ?_
                        refine ⟨gk, (i + 1), ⟨kpG, lpG, ?_, lpG, ?_⟩, lpG⟩
                        · rw [hnx, ← coinsC_append]
                          simp [F, AV.gcO, noObjL_append]
                        · rw [hnx]
                          simp [F, St.trimO]
                      · refine ao 17 rfl ?_
                        repeat (first | simp [F] | simp (disch := omega) only [wC, if_pos, if_neg])
                        refine ⟨by first | exact later_more _ (by kernel_rfl) | exact later_more2 (by kernel_rfl) rfl, ?_⟩
                        refine dc 13 rfl (c := (hmd ▸ muldiv_ok x.n.h (by omega) (by omega))) (k := ?_)
                        rintro _ _ ⟨rfl, rfl⟩
                        refine ⟨by first | exact fun _ _ h => h | (refine later_list [10, 9, 8, 7, 4, 3, 2, 0] (by kernel_rfl) (List.forall_mem_cons.2 ⟨fun _ => fact2 rfl rfl ?_, List.forall_mem_cons.2 ⟨fun _ => fact2 rfl rfl ?_, List.forall_mem_cons.2 ⟨fun _ => fact2 rfl rfl ?_, List.forall_mem_cons.2 ⟨fun _ => fact2 rfl rfl ?_, List.forall_mem_cons.2 ⟨fun _ => fact2 rfl rfl ?_, List.forall_mem_cons.2 ⟨fun _ => fact2 rfl rfl ?_, List.forall_mem_cons.2 ⟨fun _ => fact2 rfl rfl ?_, List.forall_mem_cons.2 ⟨fun _ => fact2 rfl rfl ?_, fun _ h => absurd h List.not_mem_nil⟩⟩⟩⟩⟩⟩⟩⟩) <;> constructor <;> first | rfl | (simp [F]; done)), ?_⟩
                        repeat (first | simp [F] | simp (disch := omega) only [wC, if_pos, if_neg])
                        refine rp2 14 (k := ?_)
                        refine rp2 15 (k := ?_)
                        refine rp2 16 (k := ?_)
                        refine dop 18 rfl ?_
                        repeat (first | simp [F] | simp (disch := omega) only [wC, if_pos, if_neg])
                        refine ⟨later_tmp (by kernel_rfl), ?_⟩
                        refine rp2 19 (k := ?_)
                        refine dd ?_
                        refine hJ36 _ _ ?_
                        refine hK35 _ _ ?_
                        refine rg' (h := fun J39 hJ39 => ?_)
                        refine ca (c := (hM ▸ one_ok (d := x.d) (n := n))) (k := ?_)
                        rintro _ _ ⟨rfl, rfl⟩
                        repeat (first | simp [F] | simp (disch := omega) only [wC, if_pos, if_neg])
                        refine hJ39 _ _ ?_
                        refine hK32 _ _ ?_
                        refine rg' (h := fun J40 hJ40 => ?_)
                        refine hJ40 _ _ ?_
                        refine ⟨gk, (i + 1), ⟨kpG, lpG, ?_, lpG, ?_⟩, lpG⟩
                        · rw [hnx, ← coinsC_append]
                          simp [F, AV.gcO, noObjL_append]
                        · rw [hnx]
                          simp [F, St.trimO]
                    · refine ao 17 rfl ?_
                      repeat (first | simp [F] | simp (disch := omega) only [wC, if_pos, if_neg])
                      refine ⟨by first | exact later_more _ (by kernel_rfl) | exact later_more2 (by kernel_rfl) rfl, ?_⟩
                      refine dc 12 rfl (c := nOf_ok (n := pe - ps) (by omega)) (k := ?_)
                      rintro _ _ ⟨rfl, rfl⟩
                      refine ⟨by first | exact fun _ _ h => h | (refine later_list [10, 9, 8, 7, 4, 3, 2, 1, 0] (by kernel_rfl) (List.forall_mem_cons.2 ⟨fun _ => fact2 rfl rfl ?_, List.forall_mem_cons.2 ⟨fun _ => fact2 rfl rfl ?_, List.forall_mem_cons.2 ⟨fun _ => fact2 rfl rfl ?_, List.forall_mem_cons.2 ⟨fun _ => fact2 rfl rfl ?_, List.forall_mem_cons.2 ⟨fun _ => fact2 rfl rfl ?_, List.forall_mem_cons.2 ⟨fun _ => fact2 rfl rfl ?_, List.forall_mem_cons.2 ⟨fun _ => fact2 rfl rfl ?_, List.forall_mem_cons.2 ⟨fun _ => fact2 rfl rfl ?_, List.forall_mem_cons.2 ⟨fun _ => fact2 rfl rfl ?_, fun _ h => absurd h List.not_mem_nil⟩⟩⟩⟩⟩⟩⟩⟩⟩) <;> constructor <;> first | rfl | (simp [F]; done)), ?_⟩
                      repeat (first | simp [F] | simp (disch := omega) only [wC, if_pos, if_neg])
                      refine dc 13 rfl (c := (hmd ▸ muldiv_ok x.n.h (by omega) (by omega))) (k := ?_)
                      rintro _ _ ⟨rfl, rfl⟩
                      refine ⟨by first | exact fun _ _ h => h | (refine later_list [10, 9, 8, 7, 4, 3, 2, 0] (by kernel_rfl) (List.forall_mem_cons.2 ⟨fun _ => fact2 rfl rfl ?_, List.forall_mem_cons.2 ⟨fun _ => fact2 rfl rfl ?_, List.forall_mem_cons.2 ⟨fun _ => fact2 rfl rfl ?_, List.forall_mem_cons.2 ⟨fun _ => fact2 rfl rfl ?_, List.forall_mem_cons.2 ⟨fun _ => fact2 rfl rfl ?_, List.forall_mem_cons.2 ⟨fun _ => fact2 rfl rfl ?_, List.forall_mem_cons.2 ⟨fun _ => fact2 rfl rfl ?_, List.forall_mem_cons.2 ⟨fun _ => fact2 rfl rfl ?_, fun _ h => absurd h List.not_mem_nil⟩⟩⟩⟩⟩⟩⟩⟩) <;> constructor <;> first | rfl | (simp [F]; done)), ?_⟩
                      repeat (first | simp [F] | simp (disch := omega) only [wC, if_pos, if_neg])
                      refine rp2 14 (k := ?_)
                      refine rp2 15 (k := ?_)
                      refine rp2 16 (k := ?_)
                      refine dop 18 rfl ?_
                      repeat (first | simp [F] | simp (disch := omega) only [wC, if_pos, if_neg])
                      refine ⟨later_tmp (by kernel_rfl), ?_⟩
                      refine rp2 19 (k := ?_)
                      refine dd ?_
                      refine hJ36 _ _ ?_
                      refine hK35 _ _ ?_
                      refine rg' (h := fun J41 hJ41 => ?_)
                      refine ca (c := (hM ▸ one_ok (d := x.d) (n := n))) (k := ?_)
                      rintro _ _ ⟨rfl, rfl⟩
                      repeat (first | simp [F] | simp (disch := omega) only [wC, if_pos, if_neg])
                      refine hJ41 _ _ ?_
                      refine hK32 _ _ ?_
                      refine rg' (h := fun J42 hJ42 => ?_)
                      refine hJ42 _ _ ?_
                      refine ⟨gk, (i + 1), ⟨kpG, lpG, ?_, lpG, ?_⟩, lpG⟩
                      · rw [hnx, ← coinsC_append]
                        simp [F, AV.gcO, noObjL_append]
                      · rw [hnx]
                        simp [F, St.trimO]
                  · refine ao 17 rfl ?_
                    repeat (first | simp [F] | simp (disch := omega) only [wC, if_pos, if_neg])
                    refine ⟨by first | exact later_more _ (by kernel_rfl) | exact later_more2 (by kernel_rfl) rfl, ?_⟩
                    refine dc 6 rfl (c := nOf_ok (n := t - ps) (by omega)) (k := ?_)
                    rintro _ _ ⟨rfl, rfl⟩
                    refine ⟨by first | exact fun _ _ h => h | (refine later_list [11, 10, 9, 8, 7, 4, 3, 2, 1, 0] (by kernel_rfl) (List.forall_mem_cons.2 ⟨fun _ => fact2 rfl rfl ?_, List.forall_mem_cons.2 ⟨fun _ => fact2 rfl rfl ?_, List.forall_mem_cons.2 ⟨fun _ => fact2 rfl rfl ?_, List.forall_mem_cons.2 ⟨fun _ => fact2 rfl rfl ?_, List.forall_mem_cons.2 ⟨fun _ => fact2 rfl rfl ?_, List.forall_mem_cons.2 ⟨fun _ => fact2 rfl rfl ?_, List.forall_mem_cons.2 ⟨fun _ => fact2 rfl rfl ?_, List.forall_mem_cons.2 ⟨fun _ => fact2 rfl rfl ?_, List.forall_mem_cons.2 ⟨fun _ => fact2 rfl rfl ?_, List.forall_mem_cons.2 ⟨fun _ => fact2 rfl rfl ?_, fun _ h => absurd h List.not_mem_nil⟩⟩⟩⟩⟩⟩⟩⟩⟩⟩) <;> constructor <;> first | rfl | (simp [F]; done)), ?_⟩
                    repeat (first | simp [F] | simp (disch := omega) only [wC, if_pos, if_neg])
                    refine dc 12 rfl (c := nOf_ok (n := pe - ps) (by omega)) (k := ?_)
                    rintro _ _ ⟨rfl, rfl⟩
                    refine ⟨by first | exact fun _ _ h => h | (refine later_list [10, 9, 8, 7, 4, 3, 2, 1, 0] (by kernel_rfl) (List.forall_mem_cons.2 ⟨fun _ => fact2 rfl rfl ?_, List.forall_mem_cons.2 ⟨fun _ => fact2 rfl rfl ?_, List.forall_mem_cons.2 ⟨fun _ => fact2 rfl rfl ?_, List.forall_mem_cons.2 ⟨fun _ => fact2 rfl rfl ?_, List.forall_mem_cons.2 ⟨fun _ => fact2 rfl rfl ?_, List.forall_mem_cons.2 ⟨fun _ => fact2 rfl rfl ?_, List.forall_mem_cons.2 ⟨fun _ => fact2 rfl rfl ?_, List.forall_mem_cons.2 ⟨fun _ => fact2 rfl rfl ?_, List.forall_mem_cons.2 ⟨fun _ => fact2 rfl rfl ?_, fun _ h => absurd h List.not_mem_nil⟩⟩⟩⟩⟩⟩⟩⟩⟩) <;> constructor <;> first | rfl | (simp [F]; done)), ?_⟩
                    repeat (first | simp [F] | simp (disch := omega) only [wC, if_pos, if_neg])
                    refine dc 13 rfl (c := (hmd ▸ muldiv_ok x.n.h (by omega) (by omega))) (k := ?_)
                    rintro _ _ ⟨rfl, rfl⟩
                    refine ⟨by first | exact fun _ _ h => h | (refine later_list [10, 9, 8, 7, 4, 3, 2, 0] (by kernel_rfl) (List.forall_mem_cons.2 ⟨fun _ => fact2 rfl rfl ?_, List.forall_mem_cons.2 ⟨fun _ => fact2 rfl rfl ?_, List.forall_mem_cons.2 ⟨fun _ => fact2 rfl rfl ?_, List.forall_mem_cons.2 ⟨fun _ => fact2 rfl rfl ?_, List.forall_mem_cons.2 ⟨fun _ => fact2 rfl rfl ?_, List.forall_mem_cons.2 ⟨fun _ => fact2 rfl rfl ?_, List.forall_mem_cons.2 ⟨fun _ => fact2 rfl rfl ?_, List.forall_mem_cons.2 ⟨fun _ => fact2 rfl rfl ?_, fun _ h => absurd h List.not_mem_nil⟩⟩⟩⟩⟩⟩⟩⟩) <;> constructor <;> first | rfl | (simp [F]; done)), ?_⟩
                    repeat (first | simp [F] | simp (disch := omega) only [wC, if_pos, if_neg])
                    refine rp2 14 (k := ?_)
                    refine rp2 15 (k := ?_)
                    refine rp2 16 (k := ?_)
                    refine dop 18 rfl ?_
                    repeat (first | simp [F] | simp (disch := omega) only [wC, if_pos, if_neg])
                    refine ⟨later_tmp (by kernel_rfl), ?_⟩
                    refine rp2 19 (k := ?_)
                    refine dd ?_
                    refine hJ36 _ _ ?_
                    refine hK35 _ _ ?_
                    refine rg' (h := fun J43 hJ43 => ?_)
                    refine ca (c := (hM ▸ one_ok (d := x.d) (n := n))) (k := ?_)
                    rintro _ _ ⟨rfl, rfl⟩
                    repeat (first | simp [F] | simp (disch := omega) only [wC, if_pos, if_neg])
                    refine hJ43 _ _ ?_
                    refine hK32 _ _ ?_
                    refine rg' (h := fun J44 hJ44 => ?_)
                    refine hJ44 _ _ ?_
                    refine ⟨gk, (i + 1), ⟨kpG, lpG, ?_, lpG, ?_⟩, lpG⟩
                    · rw [hnx, ← coinsC_append]
                      simp [F, AV.gcO, noObjL_append]
                    · rw [hnx]
                      simp [F, St.trimO]
               try exact nope c59
               all_goals have c59p := c59
               all_goals try simp [F] at c59p
               all_goals
                replace F := And.intro c59 F
                try replace F := And.intro c59p F
                have hii : i = pt.length := by have h := c59; simp at h; omega
                have hv : vestL ⟨pk, ps, pe, pt, pp⟩ t = partL ps pe t (pt.take i) := by rw [hii, List.take_length, vestL]; simp [hkn, F]
                replace F := And.intro hv F
                refine run_exit ?_
                refine hK26 _ _ ?_
                refine sq fun K45 hK45 => ?_
                refine rg' (h := fun J46 hJ46 => ?_)
                refine hJ46 _ _ ?_
                refine hK45 _ _ ?_
                refine run_ret ?_
                try simp only [Then, InBlock, NoGoto]
                refine answer_tmp rfl (.inr rfl) ?_
                rw [hv]
                exact gcr (hA := by simp only [putA_get]; simp [F]; exact wk_grA (fun h => by have h0 := posB_no h; subst h0; simp [partL]))
        try exact nope g3_12
        all_goals have g3_12p := g3_12
        all_goals try simp [F] at g3_12p
        all_goals
         replace F := And.intro g3_12 F
         try replace F := And.intro g3_12p F
         refine no2 (k := ?_)
         refine no2 (k := ?_)
         refine no2 (k := ?_)
         refine no2 (k := ?_)
         refine go2 (k := ?_)
         refine hJ11 _ _ ?_
         refine hK10 _ _ ?_
         refine cf ?_
         refine sq fun K47 hK47 => ?_
         refine rg' (h := fun J48 hJ48 => ?_)
         refine hJ48 _ _ ?_
         refine hK47 _ _ ?_
         refine cs (fun c43 => ?_) (fun c43 => ?_)
         · try exact nope c43
           all_goals have c43p := c43
           all_goals try simp [F] at c43p
           all_goals
            replace F := And.intro c43 F
            try replace F := And.intro c43p F
            have n2 : pe ≤ t := by have h := c43; simp at h; omega
            replace F := And.intro n2 F
            refine sq fun K49 hK49 => ?_
            refine rg' (h := fun J50 hJ50 => ?_)
            refine ca (c := cclone_ok hc) (k := ?_)
            rintro _ _ ⟨rfl, rfl⟩
            repeat (first | simp [F] | simp (disch := omega) only [wC, if_pos, if_neg])
            refine hJ50 _ _ ?_
            refine hK49 _ _ ?_
            refine run_ret ?_
            try simp only [Then, InBlock, NoGoto]
            refine answer_tmp rfl (.inr rfl) ?_
            exact gcr (hA := by simp only [putA_get]; simp [vestL, hkn, F]; first | exact Wk.refl _ | exact Wk.nil _ _ _)
         try exact nope c43
         all_goals have c43p := c43
         all_goals try simp [F] at c43p
         all_goals
          replace F := And.intro c43 F
          try replace F := And.intro c43p F
          have n2 : ¬ pe ≤ t := by have h := c43; simp at h; omega
          replace F := And.intro n2 F
          refine sq fun K51 hK51 => ?_
          refine rg' (h := fun J52 hJ52 => ?_)
          refine hJ52 _ _ ?_
          refine hK51 _ _ ?_
          refine cs (fun c51 => ?_) (fun c51 => ?_)
          · try exact nope c51
            all_goals have c51p := c51
            all_goals try simp [F] at c51p
            all_goals
             replace F := And.intro c51 F
             try replace F := And.intro c51p F
             refine sq fun K53 hK53 => ?_
             refine rg' (h := fun J54 hJ54 => ?_)
             refine hJ54 _ _ ?_
             refine hK53 _ _ ?_
             refine run_ret ?_
             try simp only [Then, InBlock, NoGoto]
             refine answer_tmp rfl (.inr rfl) ?_
             exact gcr (hA := by simp only [putA_get]; simp [vestL, hkn, F]; first | exact Wk.refl _ | exact Wk.nil _ _ _)
          try exact nope c51
          all_goals have c51p := c51
          all_goals try simp [F] at c51p
          all_goals
           replace F := And.intro c51 F
           try replace F := And.intro c51p F
           refine run_skip ?_
           refine hK3 _ _ ?_
           refine sq fun K55 hK55 => ?_
           refine rg' (h := fun J56 hJ56 => ?_)
           refine hJ56 _ _ ?_
           refine hK55 _ _ ?_
           refine sq fun K57 hK57 => ?_
           refine sq fun K58 hK58 => ?_
           refine rg' (h := fun J59 hJ59 => ?_)
           refine hJ59 _ _ ?_
           refine hK58 _ _ ?_
           refine run_block_k ?_
           refine run_loopG (X := Nat) [1, 2, 4, 56, 57] (fun i ρ σ1 => (i ≤ pt.length) ∧ (ρ 5 = grA σ.toks.length 5 (posB i) (coinsC (partL ps pe t (pt.take i))) (partL ps pe t (pt.take i)).length) ∧ (ρ 58 = .v (.int .i64 i)) ∧ (σ1 = { σ with objs := σ.objs ++ [[.v (.int .u8 pk.toNat), .v (.int .u64 ps), .v (.int .u64 pe), .sl 5 (coinsC pt) pt.length .shut, .sl 2 (persC pp) pp.length .shut]], toks := σ.toks ++ grT (posB i) (partL ps pe t (pt.take i)).length })) (fun i => pt.length - i) (0) ?st1 ?rd1
           case st1 =>
            refine ⟨lp, lp, lp, ?_⟩
            · simp [F]
           case rd1 =>
            rintro i ρ1 σ1 hF1 ⟨hi, h8, h12, hσ⟩
            obtain rfl := hσ.symm
            have f1 := keepL hF1
            try simp [KeepL, F] at f1
            replace F := And.intro h8 F
            replace F := And.intro h12 F
            try replace F := And.intro f1 F
            refine sq fun K60 hK60 => ?_
            refine rg' (h := fun J61 hJ61 => ?_)
            refine hJ61 _ _ ?_
            refine hK60 _ _ ?_
            refine sq fun K62 hK62 => ?_
            refine cs (fun c59 => ?_) (fun c59 => ?_)
            · try exact nope c59
              all_goals have c59p := c59
              all_goals try simp [F] at c59p
              all_goals
               replace F := And.intro c59 F
               try replace F := And.intro c59p F
               refine run_skip ?_
               refine hK62 _ _ ?_
               refine sq fun K63 hK63 => ?_
               refine run_block_k ?_
               refine sq fun K64 hK64 => ?_
               have hlt : i < pt.length := by simp at c59; omega
               have hat := coinsC_at hlt
               have hb1 : i * 5 + 5 ≤ pt.length * 5 := by omega
               obtain ⟨x, hx⟩ : ∃ x, x = pt[i] := ⟨_, rfl⟩
               rw [← hx] at hat
               simp only [coinC] at hat
               have hse : ps < t := by have h := c23; simp at h; omega
               have hte : t < pe := by have h := c43; simp at h; omega
               have hw1 : IntKind.u64.wrap ((t : Int) - ps) = ((t - ps : Nat) : Int) := by rw [wrap_u64c (by omega)]; omega
               have hw2 : IntKind.u64.wrap ((pe : Int) - ps) = ((pe - ps : Nat) : Int) := by rw [wrap_u64c (by omega)]; omega
               have hpn : partN x ps pe t < 2 ^ 256 := partN_lt (by omega)
               have hmd : mdN x.n.v (t - ps) (pe - ps) false = (Num.of (partN x ps pe t)).v := by rw [Num.of_v hpn, mdN, if_neg (by omega), show mdQ x.n.v (t - ps) (pe - ps) false = partN x ps pe t by simp [mdQ, partN], if_pos hpn]
               obtain ⟨n, hn⟩ : ∃ n, n = Num.of (partN x ps pe t) := ⟨_, rfl⟩
               rw [← hn] at hmd
               obtain ⟨L, hL⟩ : ∃ L, L = partL ps pe t (pt.take i) := ⟨_, rfl⟩
               obtain ⟨M, hM⟩ : ∃ M, M = oneL x.d n := ⟨_, rfl⟩
               have hnx : partL ps pe t (pt.take (i + 1)) = L ++ M := by rw [hL, hM, hn, ← partL_snoc, hx, List.take_append_getElem hlt]
               have hLl : L.length ≤ i := by rw [hL]; exact Nat.le_trans (partL_len _ _ _ _) (by simp; omega)
               have hMl : M.length ≤ 1 := by rw [hM]; unfold oneL; split <;> simp
               rw [← hL] at h8 F
               rw [← hL]
               have hb0 : posB i = false → coinsC L = [] ∧ L.length = 0 := fun h => by have h0 := posB_no h; subst h0; rw [hL]; simp [partL]
               have happ : ∀ objs, appendA Try.prog 23 (grA σ.toks.length 5 (posB i) (coinsC L) L.length) (.sl 5 (coinsC M) M.length .shut) ⟨objs, σ.toks ++ grT (posB i) L.length, σ.gl, σ.rows⟩ = some (grA σ.toks.length 5 true (coinsC L ++ coinsC M) (L.length + M.length), ⟨objs, σ.toks ++ grT true (L.length + M.length), σ.gl, σ.rows⟩) := fun objs => append_gr elemT_23 ti_86 (by decide) rfl hb0 (.inl rfl) (by simp [roomA]; omega) (by simp [maxLen]; omega)
               replace F := And.intro hlt F
               replace F := And.intro hat F
               replace F := And.intro hb1 F
               replace F := And.intro hw1 F
               replace F := And.intro hw2 F
               replace F := And.intro happ F
               refine rg' (h := fun J65 hJ65 => ?_)
               refine hJ65 _ _ ?_
               refine hK64 _ _ ?_
               refine sq fun K66 hK66 => ?_
               refine run_draw (by kernel_rfl) fun J67 hJ67 => ?_
               refine rp2 0 (k := ?_)
               refine rp2 1 (k := ?_)
               refine rp2 2 (k := ?_)
               refine rp2 3 (k := ?_)
               refine rp2 4 (k := ?_)
               refine rp2 5 (k := ?_)
               refine rp2 7 (k := ?_)
               refine rp2 8 (k := ?_)
               refine rp2 9 (k := ?_)
               refine rp2 10 (k := ?_)
               refine rp2 11 (k := ?_)
               refine d2 6 17 ?_ ?_
               · refine ac 6 rfl (c := nOf_ok (n := t - ps) (by omega)) (k := ?_)
                 rintro _ _ ⟨rfl, rfl⟩
                 refine ⟨by first | exact fun _ _ h => h | (refine later_list [11, 10, 9, 8, 7, 4, 3, 2, 1, 0] (by kernel_rfl) (List.forall_mem_cons.2 ⟨fun _ => fact2 rfl rfl ?_, List.forall_mem_cons.2 ⟨fun _ => fact2 rfl rfl ?_, List.forall_mem_cons.2 ⟨fun _ => fact2 rfl rfl ?_, List.forall_mem_cons.2 ⟨fun _ => fact2 rfl rfl ?_, List.forall_mem_cons.2 ⟨fun _ => fact2 rfl rfl ?_, List.forall_mem_cons.2 ⟨fun _ => fact2 rfl rfl ?_, List.forall_mem_cons.2 ⟨fun _ => fact2 rfl rfl ?_, List.forall_mem_cons.2 ⟨fun _ => fact2 rfl rfl ?_, List.forall_mem_cons.2 ⟨fun _ => fact2 rfl rfl ?_, List.forall_mem_cons.2 ⟨fun _ => fact2 rfl rfl ?_, fun _ h => absurd h List.not_mem_nil⟩⟩⟩⟩⟩⟩⟩⟩⟩⟩) <;> constructor <;> first | rfl | (simp [F]; done)), ?_⟩
                 repeat (first | simp [F] | simp (disch := omega) only [wC, if_pos, if_neg])
                 refine d2 12 17 ?_ ?_
                 · refine ac 12 rfl (c := nOf_ok (n := pe - ps) (by omega)) (k := ?_)
                   rintro _ _ ⟨rfl, rfl⟩
                   refine ⟨by first | exact fun _ _ h => h | (refine later_list [10, 9, 8, 7, 4, 3, 2, 1, 0] (by kernel_rfl) (List.forall_mem_cons.2 ⟨fun _ => fact2 rfl rfl ?_, List.forall_mem_cons.2 ⟨fun _ => fact2 rfl rfl ?_, List.forall_mem_cons.2 ⟨fun _ => fact2 rfl rfl ?_, List.forall_mem_cons.2 ⟨fun _ => fact2 rfl rfl ?_, List.forall_mem_cons.2 ⟨fun _ => fact2 rfl rfl ?_, List.forall_mem_cons.2 ⟨fun _ => fact2 rfl rfl ?_, List.forall_mem_cons.2 ⟨fun _ => fact2 rfl rfl ?_, List.forall_mem_cons.2 ⟨fun _ => fact2 rfl rfl ?_, List.forall_mem_cons.2 ⟨fun _ => fact2 rfl rfl ?_, fun _ h => absurd h List.not_mem_nil⟩⟩⟩⟩⟩⟩⟩⟩⟩) <;> constructor <;> first | rfl | (simp [F]; done)), ?_⟩
                   repeat (first | simp [F] | simp (disch := omega) only [wC, if_pos, if_neg])
                   refine d2 13 17 ?_ ?_
                   · refine ac 13 rfl (c := (hmd ▸ muldiv_ok x.n.h (by omega) (by omega))) (k := ?_)
                     rintro _ _ ⟨rfl, rfl⟩
                     refine ⟨by first | exact fun _ _ h => h | (refine later_list [10, 9, 8, 7, 4, 3, 2, 0] (by kernel_rfl) (List.forall_mem_cons.2 ⟨fun _ => fact2 rfl rfl ?_, List.forall_mem_cons.2 ⟨fun _ => fact2 rfl rfl ?_, List.forall_mem_cons.2 ⟨fun _ => fact2 rfl rfl ?_, List.forall_mem_cons.2 ⟨fun _ => fact2 rfl rfl ?_, List.forall_mem_cons.2 ⟨fun _ => fact2 rfl rfl ?_, List.forall_mem_cons.2 ⟨fun _ => fact2 rfl rfl ?_, List.forall_mem_cons.2 ⟨fun _ => fact2 rfl rfl ?_, List.forall_mem_cons.2 ⟨fun _ => fact2 rfl rfl ?_, fun _ h => absurd h List.not_mem_nil⟩⟩⟩⟩⟩⟩⟩⟩) <;> constructor <;> first | rfl | (simp [F]; done)), ?_⟩
                     repeat (first | simp [F] | simp (disch := omega) only [wC, if_pos, if_neg])
                     refine rp2 14 (k := ?_)
                     refine rp2 15 (k := ?_)
                     refine rp2 16 (k := ?_)
                     refine dop 17 rfl ?_
                     repeat (first | simp [F] | simp (disch := omega) only [wC, if_pos, if_neg])
                     refine ⟨by first | exact later_more _ (by kernel_rfl) | exact later_more2 (by kernel_rfl) rfl, ?_⟩
                     refine dop 18 rfl ?_
                     repeat (first | simp [F] | simp (disch := omega) only [wC, if_pos, if_neg])
                     refine ⟨later_tmp (by kernel_rfl), ?_⟩
                     refine rp2 19 (k := ?_)
                     refine dd ?_
                     refine hJ67 _ _ ?_
                     refine hK66 _ _ ?_
                     refine rg' (h := fun J68 hJ68 => ?_)
                     refine ca (c := (hM ▸ one_ok (d := x.d) (n := n))) (k := ?_)
                     rintro _ _ ⟨rfl, rfl⟩
                     repeat (first | simp [F] | simp (disch := omega) only [wC, if_pos, if_neg])
                     refine hJ68 _ _ ?_
                     refine hK63 _ _ ?_
                     refine rg' (h := fun J69 hJ69 => ?_)
                     refine hJ69 _ _ ?_
                     refine ⟨gk, (i + 1), ⟨kpG, lpG, ?_, lpG, ?_⟩, lpG⟩
                     · rw [hnx, ← coinsC_append]
                       simp [F, AV.gcO, noObjL_append]
                     · rw [hnx]
                       simp [F, St.trimO]
                   · refine ao 17 rfl ?_
                     repeat (first | simp [F] | simp (disch := omega) only [wC, if_pos, if_neg])
                     refine ⟨by first | exact later_more _ (by kernel_rfl) | exact later_more2 (by kernel_rfl) rfl, ?_⟩
                     refine dc 13 rfl (c := (hmd ▸ muldiv_ok x.n.h (by omega) (by omega))) (k := ?_)
                     rintro _ _ ⟨rfl, rfl⟩
                     refine ⟨by first | exact fun _ _ h => h | (refine later_list [10, 9, 8, 7, 4, 3, 2, 0] (by kernel_rfl) (List.forall_mem_cons.2 ⟨fun _ => fact2 rfl rfl ?_, List.forall_mem_cons.2 ⟨fun _ => fact2 rfl rfl ?_, List.forall_mem_cons.2 ⟨fun _ => fact2 rfl rfl ?_, List.forall_mem_cons.2 ⟨fun _ => fact2 rfl rfl ?_, List.forall_mem_cons.2 ⟨fun _ => fact2 rfl rfl ?_, List.forall_mem_cons.2 ⟨fun _ => fact2 rfl rfl ?_, List.forall_mem_cons.2 ⟨fun _ => fact2 rfl rfl ?_, List.forall_mem_cons.2 ⟨fun _ => fact2 rfl rfl ?_, fun _ h => absurd h List.not_mem_nil⟩⟩⟩⟩⟩⟩⟩⟩) <;> constructor <;> first | rfl | (simp [F]; done)), ?_⟩
                     repeat (first | simp [F] | simp (disch := omega) only [wC, if_pos, if_neg])
                     refine rp2 14 (k := ?_)
                     refine rp2 15 (k := ?_)
                     refine rp2 16 (k := ?_)
                     refine dop 18 rfl ?_
                     repeat (first | simp [F] | simp (disch := omega) only [wC, if_pos, if_neg])
                     refine ⟨later_tmp (by kernel_rfl), ?_⟩
                     refine rp2 19 (k := ?_)
                     refine dd ?_
                     refine hJ67 _ _ ?_
                     refine hK66 _ _ ?_
                     refine rg' (h := fun J70 hJ70 => ?_)
                     refine ca (c := (hM ▸ one_ok (d := x.d) (n := n))) (k := ?_)
                     rintro _ _ ⟨rfl, rfl⟩
                     repeat (first | simp [F] | simp (disch := omega) only [wC, if_pos, if_neg])
                     refine hJ70 _ _ ?_
                     refine hK63 _ _ ?_
                     refine rg' (h := fun J71 hJ71 => ?_)
                     refine hJ71 _ _ ?_
                     refine ⟨gk, (i + 1), ⟨kpG, lpG, ?_, lpG, ?_⟩, lpG⟩
                     · rw [hnx, ← coinsC_append]
                       simp [F, AV.gcO, noObjL_append]
                     · rw [hnx]
                       simp [F, St.trimO]
                 · refine ao 17 rfl ?_
                   repeat (first | simp [F] | simp (disch := omega) only [wC, if_pos, if_neg])
                   refine ⟨by first | exact later_more _ (by kernel_rfl) | exact later_more2 (by kernel_rfl) rfl, ?_⟩
                   refine dc 12 rfl (c := nOf_ok (n := pe - ps) (by omega)) (k := ?_)
                   rintro _ _ ⟨rfl, rfl⟩
                   refine ⟨by first | exact fun _ _ h => h | (refine later_list [10, 9, 8, 7, 4, 3, 2, 1, 0] (by kernel_rfl) (List.forall_mem_cons.2 ⟨fun _ => fact2 rfl rfl ?_, List.forall_mem_cons.2 ⟨fun _ => fact2 rfl rfl ?_, List.forall_mem_cons.2 ⟨fun _ => fact2 rfl rfl ?_, List.forall_mem_cons.2 ⟨fun _ => fact2 rfl rfl ?_, List.forall_mem_cons.2 ⟨fun _ => fact2 rfl rfl ?_, List.forall_mem_cons.2 ⟨fun _ => fact2 rfl rfl ?_, List.forall_mem_cons.2 ⟨fun _ => fact2 rfl rfl ?_, List.forall_mem_cons.2 ⟨fun _ => fact2 rfl rfl ?_, List.forall_mem_cons.2 ⟨fun _ => fact2 rfl rfl ?_, fun _ h => absurd h List.not_mem_nil⟩⟩⟩⟩⟩⟩⟩⟩⟩) <;> constructor <;> first | rfl | (simp [F]; done)), ?_⟩
                   repeat (first | simp [F] | simp (disch := omega) only [wC, if_pos, if_neg])
                   refine dc 13 rfl (c := (hmd ▸ muldiv_ok x.n.h (by omega) (by omega))) (k := ?_)
                   rintro _ _ ⟨rfl, rfl⟩
                   refine ⟨by first | exact fun _ _ h => h | (refine later_list [10, 9, 8, 7, 4, 3, 2, 0] (by kernel_rfl) (List.forall_mem_cons.2 ⟨fun _ => fact2 rfl rfl ?_, List.forall_mem_cons.2 ⟨fun _ => fact2 rfl rfl ?_, List.forall_mem_cons.2 ⟨fun _ => fact2 rfl rfl ?_, List.forall_mem_cons.2 ⟨fun _ => fact2 rfl rfl ?_, List.forall_mem_cons.2 ⟨fun _ => fact2 rfl rfl ?_, List.forall_mem_cons.2 ⟨fun _ => fact2 rfl rfl ?_, List.forall_mem_cons.2 ⟨fun _ => fact2 rfl rfl ?_, List.forall_mem_cons.2 ⟨fun _ => fact2 rfl rfl ?_, fun _ h => absurd h List.not_mem_nil⟩⟩⟩⟩⟩⟩⟩⟩) <;> constructor <;> first | rfl | (simp [F]; done)), ?_⟩
                   repeat (first | simp [F] | simp (disch := omega) only [wC, if_pos, if_neg])
                   refine rp2 14 (k := ?_)
                   refine rp2 15 (k := ?_)
                   refine rp2 16 (k := ?_)
                   refine dop 18 rfl ?_
                   repeat (first | simp [F] | simp (disch := omega) only [wC, if_pos, if_neg])
                   refine ⟨later_tmp (by kernel_rfl), ?_⟩
                   refine rp2 19 (k := ?_)
                   refine dd ?_
                   refine hJ67 _ _ ?_
                   refine hK66 _ _ ?_
                   refine rg' (h := fun J72 hJ72 => ?_)
                   refine ca (c := (hM ▸ one_ok (d := x.d) (n := n))) (k := ?_)
                   rintro _ _ ⟨rfl, rfl⟩
                   repeat (first | simp [F] | simp (disch := omega) only [wC, if_pos, if_neg])
                   refine hJ72 _ _ ?_
                   refine hK63 _ _ ?_
                   refine rg' (h := fun J73 hJ73 => ?_)
                   refine hJ73 _ _ ?_
                   refine ⟨gk, (i + 1), ⟨kpG, lpG, ?_, lpG, ?_⟩, lpG⟩
                   · rw [hnx, ← coinsC_append]
                     simp [F, AV.gcO, noObjL_append]
                   · rw [hnx]
                     simp [F, St.trimO]
               · refine ao 17 rfl ?_
                 repeat (first | simp [F] | simp (disch := omega) only [wC, if_pos, if_neg])
                 refine ⟨by first | exact later_more _ (by kernel_rfl) | exact later_more2 (by kernel_rfl) rfl, ?_⟩
                 refine dc 6 rfl (c := nOf_ok (n := t - ps) (by omega)) (k := ?_)
                 rintro _ _ ⟨rfl, rfl⟩
                 refine ⟨by first | exact fun _ _ h => h | (refine later_list [11, 10, 9, 8, 7, 4, 3, 2, 1, 0] (by kernel_rfl) (List.forall_mem_cons.2 ⟨fun _ => fact2 rfl rfl ?_, List.forall_mem_cons.2 ⟨fun _ => fact2 rfl rfl ?_, List.forall_mem_cons.2 ⟨fun _ => fact2 rfl rfl ?_, List.forall_mem_cons.2 ⟨fun _ => fact2 rfl rfl ?_, List.forall_mem_cons.2 ⟨fun _ => fact2 rfl rfl ?_, List.forall_mem_cons.2 ⟨fun _ => fact2 rfl rfl ?_, List.forall_mem_cons.2 ⟨fun _ => fact2 rfl rfl ?_, List.forall_mem_cons.2 ⟨fun _ => fact2 rfl rfl ?_, List.forall_mem_cons.2 ⟨fun _ => fact2 rfl rfl ?_, List.forall_mem_cons.2 ⟨fun _ => fact2 rfl rfl ?_, fun _ h => absurd h List.not_mem_nil⟩⟩⟩⟩⟩⟩⟩⟩⟩⟩) <;> constructor <;> first | rfl | (simp [F]; done)), ?_⟩
                 repeat (first | simp [F] | simp (disch := omega) only [wC, if_pos, if_neg])
                 refine dc 12 rfl (c := nOf_ok (n := pe - ps) (by omega)) (k := ?_)
                 rintro _ _ ⟨rfl, rfl⟩
                 refine ⟨by first | exact fun _ _ h => h | (refine later_list [10, 9, 8, 7, 4, 3, 2, 1, 0] (by kernel_rfl) (List.forall_mem_cons.2 ⟨fun _ => fact2 rfl rfl ?_, List.forall_mem_cons.2 ⟨fun _ => fact2 rfl rfl ?_, List.forall_mem_cons.2 ⟨fun _ => fact2 rfl rfl ?_, List.forall_mem_cons.2 ⟨fun _ => fact2 rfl rfl ?_, List.forall_mem_cons.2 ⟨fun _ => fact2 rfl rfl ?_, List.forall_mem_cons.2 ⟨fun _ => fact2 rfl rfl ?_, List.forall_mem_cons.2 ⟨fun _ => fact2 rfl rfl ?_, List.forall_mem_cons.2 ⟨fun _ => fact2 rfl rfl ?_, List.forall_mem_cons.2 ⟨fun _ => fact2 rfl rfl ?_, fun _ h => absurd h List.not_mem_nil⟩⟩⟩⟩⟩⟩⟩⟩⟩) <;> constructor <;> first | rfl | (simp [F]; done)), ?_⟩
                 repeat (first | simp [F] | simp (disch := omega) only [wC, if_pos, if_neg])
                 refine dc 13 rfl (c := (hmd ▸ muldiv_ok x.n.h (by omega) (by omega))) (k := ?_)
                 rintro _ _ ⟨rfl, rfl⟩
                 refine ⟨by first | exact fun _ _ h => h | (refine later_list [10, 9, 8, 7, 4, 3, 2, 0] (by kernel_rfl) (List.forall_mem_cons.2 ⟨fun _ => fact2 rfl rfl ?_, List.forall_mem_cons.2 ⟨fun _ => fact2 rfl rfl ?_, List.forall_mem_cons.2 ⟨fun _ => fact2 rfl rfl ?_, List.forall_mem_cons.2 ⟨fun _ => fact2 rfl rfl ?_, List.forall_mem_cons.2 ⟨fun _ => fact2 rfl rfl ?_, List.forall_mem_cons.2 ⟨fun _ => fact2 rfl rfl ?_, List.forall_mem_cons.2 ⟨fun _ => fact2 rfl rfl ?_, List.forall_mem_cons.2 ⟨fun _ => fact2 rfl rfl ?_, fun _ h => absurd h List.not_mem_nil⟩⟩⟩⟩⟩⟩⟩⟩) <;> constructor <;> first | rfl | (simp [F]; done)), ?_⟩
                 repeat (first | simp [F] | simp (disch := omega) only [wC, if_pos, if_neg])
                 refine rp2 14 (k := ?_)
                 refine rp2 15 (k := ?_)
                 refine rp2 16 (k := ?_)
                 refine dop 18 rfl ?_
                 repeat (first | simp [F] | simp (disch := omega) only [wC, if_pos, if_neg])
                 refine ⟨later_tmp (by kernel_rfl), ?_⟩
                 refine rp2 19 (k := ?_)
                 refine dd ?_
                 refine hJ67 _ _ ?_
                 refine hK66 _ _ ?_
                 refine rg' (h := fun J74 hJ74 => ?_)
                 refine ca (c := (hM ▸ one_ok (d := x.d) (n := n))) (k := ?_)
                 rintro _ _ ⟨rfl, rfl⟩
                 repeat (first | simp [F] | simp (disch := omega) only [wC, if_pos, if_neg])
                 refine hJ74 _ _ ?_
                 refine hK63 _ _ ?_
                 refine rg' (h := fun J75 hJ75 => ?_)
                 refine hJ75 _ _ ?_
                 refine ⟨gk, (i + 1), ⟨kpG, lpG, ?_, lpG, ?_⟩, lpG⟩
                 · rw [hnx, ← coinsC_append]
                   simp [F, AV.gcO, noObjL_append]
                 · rw [hnx]
                   simp [F, St.trimO]
            try exact nope c59
            all_goals have c59p := c59
            all_goals try simp [F] at c59p
            all_goals
             replace F := And.intro c59 F
             try replace F := And.intro c59p F
             have hii : i = pt.length := by have h := c59; simp at h; omega
             have hv : vestL ⟨pk, ps, pe, pt, pp⟩ t = partL ps pe t (pt.take i) := by rw [hii, List.take_length, vestL]; simp [hkn, F]
             replace F := And.intro hv F
             refine run_exit ?_
             refine hK57 _ _ ?_
             refine sq fun K76 hK76 => ?_
             refine rg' (h := fun J77 hJ77 => ?_)
             refine hJ77 _ _ ?_
             refine hK76 _ _ ?_
             refine run_ret ?_
             try simp only [Then, InBlock, NoGoto]
             refine answer_tmp rfl (.inr rfl) ?_
             rw [hv]
             exact gcr (hA := by simp only [putA_get]; simp [F]; exact wk_grA (fun h => by have h0 := posB_no h; subst h0; simp [partL]))
    try exact nope g3_3
    all_goals have g3_3p := g3_3
    all_goals try simp [F] at g3_3p
    all_goals
     replace F := And.intro g3_3 F
     try replace F := And.intro g3_3p F
     refine no2 (k := ?_)
     refine no2 (k := ?_)
     refine no2 (k := ?_)
     refine go2 (k := ?_)
     refine go2 (k := ?_)
     refine go2 (k := ?_)
     refine go2 (k := ?_)
     refine gs 36 (fun g3_12 => ?_) (fun g3_12 => ?_)
     · try exact nope g3_12
       all_goals have g3_12p := g3_12
       all_goals try simp [F] at g3_12p
       all_goals
        replace F := And.intro g3_12 F
        try replace F := And.intro g3_12p F
        refine go2 (k := ?_)
        refine go2 (k := ?_)
        refine go2 (k := ?_)
        refine go2 (k := ?_)
        refine go2 (k := ?_)
        refine hJ11 _ _ ?_
        refine hK10 _ _ ?_
        refine cs (fun c23 => ?_) (fun c23 => ?_)
        · try exact nope c23
          all_goals have c23p := c23
          all_goals try simp [F] at c23p
          all_goals
           replace F := And.intro c23 F
           try replace F := And.intro c23p F
           have n1 : t ≤ ps := by have h := c23; simp at h; omega
           replace F := And.intro n1 F
           refine sq fun K78 hK78 => ?_
           refine rg' (h := fun J79 hJ79 => ?_)
           refine hJ79 _ _ ?_
           refine hK78 _ _ ?_
           refine run_ret ?_
           try simp only [Then, InBlock, NoGoto]
           refine answer_tmp rfl (.inr rfl) ?_
           exact gcr (hA := by simp only [putA_get]; simp [vestL, hkn, F]; first | exact Wk.refl _ | exact Wk.nil _ _ _)
        try exact nope c23
        all_goals have c23p := c23
        all_goals try simp [F] at c23p
        all_goals
         replace F := And.intro c23 F
         try replace F := And.intro c23p F
         have n1 : ¬ t ≤ ps := by have h := c23; simp at h; omega
         replace F := And.intro n1 F
         refine sq fun K80 hK80 => ?_
         refine rg' (h := fun J81 hJ81 => ?_)
         refine hJ81 _ _ ?_
         refine hK80 _ _ ?_
         refine cs (fun c43 => ?_) (fun c43 => ?_)
         · try exact nope c43
           all_goals have c43p := c43
           all_goals try simp [F] at c43p
           all_goals
            replace F := And.intro c43 F
            try replace F := And.intro c43p F
            have n2 : pe ≤ t := by have h := c43; simp at h; omega
            replace F := And.intro n2 F
            refine sq fun K82 hK82 => ?_
            refine rg' (h := fun J83 hJ83 => ?_)
            refine ca (c := cclone_ok hc) (k := ?_)
            rintro _ _ ⟨rfl, rfl⟩
            repeat (first | simp [F] | simp (disch := omega) only [wC, if_pos, if_neg])
            refine hJ83 _ _ ?_
            refine hK82 _ _ ?_
            refine run_ret ?_
            try simp only [Then, InBlock, NoGoto]
            refine answer_tmp rfl (.inr rfl) ?_
            exact gcr (hA := by simp only [putA_get]; simp [vestL, hkn, F]; first | exact Wk.refl _ | exact Wk.nil _ _ _)
         try exact nope c43
         all_goals have c43p := c43
         all_goals try simp [F] at c43p
         all_goals
          replace F := And.intro c43 F
          try replace F := And.intro c43p F
          have n2 : ¬ pe ≤ t := by have h := c43; simp at h; omega
          replace F := And.intro n2 F
          refine sq fun K84 hK84 => ?_
          refine rg' (h := fun J85 hJ85 => ?_)
          refine hJ85 _ _ ?_
          refine hK84 _ _ ?_
          refine cs (fun c51 => ?_) (fun c51 => ?_)
          · try exact nope c51
            all_goals have c51p := c51
            all_goals try simp [F] at c51p
            all_goals
             replace F := And.intro c51 F
             try replace F := And.intro c51p F
             refine sq fun K86 hK86 => ?_
             refine rg' (h := fun J87 hJ87 => ?_)
             refine hJ87 _ _ ?_
             refine hK86 _ _ ?_
             refine run_ret ?_
             try simp only [Then, InBlock, NoGoto]
             refine answer_tmp rfl (.inr rfl) ?_
             exact gcr (hA := by simp only [putA_get]; simp [vestL, hkn, F]; first | exact Wk.refl _ | exact Wk.nil _ _ _)
          try exact nope c51
          all_goals have c51p := c51
          all_goals try simp [F] at c51p
          all_goals
           replace F := And.intro c51 F
           try replace F := And.intro c51p F
           refine run_skip ?_
           refine hK3 _ _ ?_
           refine sq fun K88 hK88 => ?_
           refine rg' (h := fun J89 hJ89 => ?_)
           refine hJ89 _ _ ?_
           refine hK88 _ _ ?_
           refine sq fun K90 hK90 => ?_
           refine sq fun K91 hK91 => ?_
           refine rg' (h := fun J92 hJ92 => ?_)
           refine hJ92 _ _ ?_
           refine hK91 _ _ ?_
           refine run_block_k ?_
           refine run_loopG (X := Nat) [1, 2, 4, 56, 57] (fun i ρ σ1 => (i ≤ pt.length) ∧ (ρ 5 = grA σ.toks.length 5 (posB i) (coinsC (partL ps pe t (pt.take i))) (partL ps pe t (pt.take i)).length) ∧ (ρ 58 = .v (.int .i64 i)) ∧ (σ1 = { σ with objs := σ.objs ++ [[.v (.int .u8 pk.toNat), .v (.int .u64 ps), .v (.int .u64 pe), .sl 5 (coinsC pt) pt.length .shut, .sl 2 (persC pp) pp.length .shut]], toks := σ.toks ++ grT (posB i) (partL ps pe t (pt.take i)).length })) (fun i => pt.length - i) (0) ?st1 ?rd1
           case st1 =>
            refine ⟨lp, lp, lp, ?_⟩
            · simp [F]
           case rd1 =>
            rintro i ρ1 σ1 hF1 ⟨hi, h8, h12, hσ⟩
            obtain rfl := hσ.symm
            have f1 := keepL hF1
            try simp [KeepL, F] at f1
            replace F := And.intro h8 F
            replace F := And.intro h12 F
            try replace F := And.intro f1 F
            refine sq fun K93 hK93 => ?_
            refine rg' (h := fun J94 hJ94 => ?_)
            refine hJ94 _ _ ?_
            refine hK93 _ _ ?_
            refine sq fun K95 hK95 => ?_
            refine cs (fun c59 => ?_) (fun c59 => ?_)
            · try exact nope c59
              all_goals have c59p := c59
              all_goals try simp [F] at c59p
              all_goals
               replace F := And.intro c59 F
               try replace F := And.intro c59p F
               refine run_skip ?_
               refine hK95 _ _ ?_
               refine sq fun K96 hK96 => ?_
               refine run_block_k ?_
               refine sq fun K97 hK97 => ?_
               have hlt : i < pt.length := by simp at c59; omega
               have hat := coinsC_at hlt
               have hb1 : i * 5 + 5 ≤ pt.length * 5 := by omega
               obtain ⟨x, hx⟩ : ∃ x, x = pt[i] := ⟨_, rfl⟩
               rw [← hx] at hat
               simp only [coinC] at hat
               have hse : ps < t := by have h := c23; simp at h; omega
               have hte : t < pe := by have h := c43; simp at h; omega
               have hw1 : IntKind.u64.wrap ((t : Int) - ps) = ((t - ps : Nat) : Int) := by rw [wrap_u64c (by omega)]; omega
               have hw2 : IntKind.u64.wrap ((pe : Int) - ps) = ((pe - ps : Nat) : Int) := by rw [wrap_u64c (by omega)]; omega
               have hpn : partN x ps pe t < 2 ^ 256 := partN_lt (by omega)
               have hmd : mdN x.n.v (t - ps) (pe - ps) false = (Num.of (partN x ps pe t)).v := by rw [Num.of_v hpn, mdN, if_neg (by omega), show mdQ x.n.v (t - ps) (pe - ps) false = partN x ps pe t by simp [mdQ, partN], if_pos hpn]
               obtain ⟨n, hn⟩ : ∃ n, n = Num.of (partN x ps pe t) := ⟨_, rfl⟩
               rw [← hn] at hmd
               obtain ⟨L, hL⟩ : ∃ L, L = partL ps pe t (pt.take i) := ⟨_, rfl⟩
               obtain ⟨M, hM⟩ : ∃ M, M = oneL x.d n := ⟨_, rfl⟩
               have hnx : partL ps pe t (pt.take (i + 1)) = L ++ M := by rw [hL, hM, hn, ← partL_snoc, hx, List.take_append_getElem hlt]
               have hLl : L.length ≤ i := by rw [hL]; exact Nat.le_trans (partL_len _ _ _ _) (by simp; omega)
               have hMl : M.length ≤ 1 := by rw [hM]; unfold oneL; split <;> simp
               rw [← hL] at h8 F
               rw [← hL]
               have hb0 : posB i = false → coinsC L = [] ∧ L.length = 0 := fun h => by have h0 := posB_no h; subst h0; rw [hL]; simp [partL]
               have happ : ∀ objs, appendA Try.prog 23 (grA σ.toks.length 5 (posB i) (coinsC L) L.length) (.sl 5 (coinsC M) M.length .shut) ⟨objs, σ.toks ++ grT (posB i) L.length, σ.gl, σ.rows⟩ = some (grA σ.toks.length 5 true (coinsC L ++ coinsC M) (L.length + M.length), ⟨objs, σ.toks ++ grT true (L.length + M.length), σ.gl, σ.rows⟩) := fun objs => append_gr elemT_23 ti_86 (by decide) rfl hb0 (.inl rfl) (by simp [roomA]; omega) (by simp [maxLen]; omega)
               replace F := And.intro hlt F
               replace F := And.intro hat F
               replace F := And.intro hb1 F
               replace F := And.intro hw1 F
               replace F := And.intro hw2 F
               replace F := And.intro happ F
               refine rg' (h := fun J98 hJ98 => ?_)
               refine hJ98 _ _ ?_
               refine hK97 _ _ ?_
               refine sq fun K99 hK99 => ?_
               refine run_draw (by kernel_rfl) fun J100 hJ100 => ?_
               refine rp2 0 (k := ?_)
               refine rp2 1 (k := ?_)
               refine rp2 2 (k := ?_)
               refine rp2 3 (k := ?_)
               refine rp2 4 (k := ?_)
               refine rp2 5 (k := ?_)
               refine rp2 7 (k := ?_)
               refine rp2 8 (k := ?_)
               refine rp2 9 (k := ?_)
               refine rp2 10 (k := ?_)
               refine rp2 11 (k := ?_)
               refine d2 6 17 ?_ ?_
               · refine ac 6 rfl (c := nOf_ok (n := t - ps) (by omega)) (k := ?_)
                 rintro _ _ ⟨rfl, rfl⟩
                 refine ⟨by first | exact fun _ _ h => h | (refine later_list [11, 10, 9, 8, 7, 4, 3, 2, 1, 0] (by kernel_rfl) (List.forall_mem_cons.2 ⟨fun _ => fact2 rfl rfl ?_, List.forall_mem_cons.2 ⟨fun _ => fact2 rfl rfl ?_, List.forall_mem_cons.2 ⟨fun _ => fact2 rfl rfl ?_, List.forall_mem_cons.2 ⟨fun _ => fact2 rfl rfl ?_, List.forall_mem_cons.2 ⟨fun _ => fact2 rfl rfl ?_, List.forall_mem_cons.2 ⟨fun _ => fact2 rfl rfl ?_, List.forall_mem_cons.2 ⟨fun _ => fact2 rfl rfl ?_, List.forall_mem_cons.2 ⟨fun _ => fact2 rfl rfl ?_, List.forall_mem_cons.2 ⟨fun _ => fact2 rfl rfl ?_, List.forall_mem_cons.2 ⟨fun _ => fact2 rfl rfl ?_, fun _ h => absurd h List.not_mem_nil⟩⟩⟩⟩⟩⟩⟩⟩⟩⟩) <;> constructor <;> first | rfl | (simp [F]; done)), ?_⟩
                 repeat (first | simp [F] | simp (disch := omega) only [wC, if_pos, if_neg])
                 refine d2 12 17 ?_ ?_
                 · refine ac 12 rfl (c := nOf_ok (n := pe - ps) (by omega)) (k := ?_)
                   rintro _ _ ⟨rfl, rfl⟩
                   refine ⟨by first | exact fun _ _ h => h | (refine later_list [10, 9, 8, 7, 4, 3, 2, 1, 0] (by kernel_rfl) (List.forall_mem_cons.2 ⟨fun _ => fact2 rfl rfl ?_, List.forall_mem_cons.2 ⟨fun _ => fact2 rfl rfl ?_, List.forall_mem_cons.2 ⟨fun _ => fact2 rfl rfl ?_, List.forall_mem_cons.2 ⟨fun _ => fact2 rfl rfl ?_, List.forall_mem_cons.2 ⟨fun _ => fact2 rfl rfl ?_, List.forall_mem_cons.2 ⟨fun _ => fact2 rfl rfl ?_, List.forall_mem_cons.2 ⟨fun _ => fact2 rfl rfl ?_, List.forall_mem_cons.2 ⟨fun _ => fact2 rfl rfl ?_, List.forall_mem_cons.2 ⟨fun _ => fact2 rfl rfl ?_, fun _ h => absurd h List.not_mem_nil⟩⟩⟩⟩⟩⟩⟩⟩⟩) <;> constructor <;> first | rfl | (simp [F]; done)), ?_⟩
                   repeat (first | simp [F] | simp (disch := omega) only [wC, if_pos, if_neg])
                   refine d2 13 17 ?_ ?_
                   · refine ac 13 rfl (c := (hmd ▸ muldiv_ok x.n.h (by omega) (by omega))) (k := ?_)
                     rintro _ _ ⟨rfl, rfl⟩
                     refine ⟨by first | exact fun _ _ h => h | (refine later_list [10, 9, 8, 7, 4, 3, 2, 0] (by kernel_rfl) (List.forall_mem_cons.2 ⟨fun _ => fact2 rfl rfl ?_, List.forall_mem_cons.2 ⟨fun _ => fact2 rfl rfl ?_, List.forall_mem_cons.2 ⟨fun _ => fact2 rfl rfl ?_, List.forall_mem_cons.2 ⟨fun _ => fact2 rfl rfl ?_, List.forall_mem_cons.2 ⟨fun _ => fact2 rfl rfl ?_, List.forall_mem_cons.2 ⟨fun _ => fact2 rfl rfl ?_, List.forall_mem_cons.2 ⟨fun _ => fact2 rfl rfl ?_, List.forall_mem_cons.2 ⟨fun _ => fact2 rfl rfl ?_, fun _ h => absurd h List.not_mem_nil⟩⟩⟩⟩⟩⟩⟩⟩) <;> constructor <;> first | rfl | (simp [F]; done)), ?_⟩
                     repeat (first | simp [F] | simp (disch := omega) only [wC, if_pos, if_neg])
                     refine rp2 14 (k := ?_)
                     refine rp2 15 (k := ?_)
                     refine rp2 16 (k := ?_)
                     refine dop 17 rfl ?_
                     repeat (first | simp [F] | simp (disch := omega) only [wC, if_pos, if_neg])
                     refine ⟨by first | exact later_more _ (by kernel_rfl) | exact later_more2 (by kernel_rfl) rfl, ?_⟩
                     refine dop 18 rfl ?_
                     repeat (first | simp [F] | simp (disch := omega) only [wC, if_pos, if_neg])
                     refine ⟨later_tmp (by kernel_rfl), ?_⟩
                     refine rp2 19 (k := ?_)
                     refine dd ?_
                     refine hJ100 _ _ ?_
                     refine hK99 _ _ ?_
                     refine rg' (h := fun J101 hJ101 => ?_)
                     refine ca (c := (hM ▸ one_ok (d := x.d) (n := n))) (k := ?_)
                     rintro _ _ ⟨rfl, rfl⟩
                     repeat (first | simp [F] | simp (disch := omega) only [wC, if_pos, if_neg])
                     refine hJ101 _ _ ?_
                     refine hK96 _ _ ?_
                     refine rg' (h := fun J102 hJ102 => ?_)
                     refine hJ102 _ _ ?_
                     refine ⟨gk, (i + 1), ⟨kpG, lpG, ?_, lpG, ?_⟩, lpG⟩
                     · rw [hnx, ← coinsC_append]
                       simp [F, AV.gcO, noObjL_append]
                     · rw [hnx]
                       simp [F, St.trimO]
                   · refine ao 17 rfl ?_
                     repeat (first | simp [F] | simp (disch := omega) only [wC, if_pos, if_neg])
                     refine ⟨by first | exact later_more _ (by kernel_rfl) | exact later_more2 (by kernel_rfl) rfl, ?_⟩
                     refine dc 13 rfl (c := (hmd ▸ muldiv_ok x.n.h (by omega) (by omega))) (k := ?_)
                     rintro _ _ ⟨rfl, rfl⟩
                     refine ⟨by first | exact fun _ _ h => h | (refine later_list [10, 9, 8, 7, 4, 3, 2, 0] (by kernel_rfl) (List.forall_mem_cons.2 ⟨fun _ => fact2 rfl rfl ?_, List.forall_mem_cons.2 ⟨fun _ => fact2 rfl rfl ?_, List.forall_mem_cons.2 ⟨fun _ => fact2 rfl rfl ?_, List.forall_mem_cons.2 ⟨fun _ => fact2 rfl rfl ?_, List.forall_mem_cons.2 ⟨fun _ => fact2 rfl rfl ?_, List.forall_mem_cons.2 ⟨fun _ => fact2 rfl rfl ?_, List.forall_mem_cons.2 ⟨fun _ => fact2 rfl rfl ?_, List.forall_mem_cons.2 ⟨fun _ => fact2 rfl rfl ?_, fun _ h => absurd h List.not_mem_nil⟩⟩⟩⟩⟩⟩⟩⟩) <;> constructor <;> first | rfl | (simp [F]; done)), ?_⟩
                     repeat (first | simp [F] | simp (disch := omega) only [wC, if_pos, if_neg])
                     refine rp2 14 (k := ?_)
                     refine rp2 15 (k := ?_)
                     refine rp2 16 (k := ?_)
                     refine dop 18 rfl ?_
                     repeat (first | simp [F] | simp (disch := omega) only [wC, if_pos, if_neg])
                     refine ⟨later_tmp (by kernel_rfl), ?_⟩
                     refine rp2 19 (k := ?_)
                     refine dd ?_
                     refine hJ100 _ _ ?_
                     refine hK99 _ _ ?_
                     refine rg' (h := fun J103 hJ103 => ?_)
                     refine ca (c := (hM ▸ one_ok (d := x.d) (n := n))) (k := ?_)
                     rintro _ _ ⟨rfl, rfl⟩
                     repeat (first | simp [F] | simp (disch := omega) only [wC, if_pos, if_neg])
                     refine hJ103 _ _ ?_
                     refine hK96 _ _ ?_
                     refine rg' (h := fun J104 hJ104 => ?_)
                     refine hJ104 _ _ ?_
                     refine ⟨gk, (i + 1), ⟨kpG, lpG, ?_, lpG, ?_⟩, lpG⟩
                     · rw [hnx, ← coinsC_append]
                       simp [F, AV.gcO, noObjL_append]
                     · rw [hnx]
                       simp [F, St.trimO]
                 · refine ao 17 rfl ?_
                   repeat (first | simp [F] | simp (disch := omega) only [wC, if_pos, if_neg])
                   refine ⟨by first | exact later_more _ (by kernel_rfl) | exact later_more2 (by kernel_rfl) rfl, ?_⟩
                   refine dc 12 rfl (c := nOf_ok (n := pe - ps) (by omega)) (k := ?_)
                   rintro _ _ ⟨rfl, rfl⟩
                   refine ⟨by first | exact fun _ _ h => h | (refine later_list [10, 9, 8, 7, 4, 3, 2, 1, 0] (by kernel_rfl) (List.forall_mem_cons.2 ⟨fun _ => fact2 rfl rfl ?_, List.forall_mem_cons.2 ⟨fun _ => fact2 rfl rfl ?_, List.forall_mem_cons.2 ⟨fun _ => fact2 rfl rfl ?_, List.forall_mem_cons.2 ⟨fun _ => fact2 rfl rfl ?_, List.forall_mem_cons.2 ⟨fun _ => fact2 rfl rfl ?_, List.forall_mem_cons.2 ⟨fun _ => fact2 rfl rfl ?_, List.forall_mem_cons.2 ⟨fun _ => fact2 rfl rfl ?_, List.forall_mem_cons.2 ⟨fun _ => fact2 rfl rfl ?_, List.forall_mem_cons.2 ⟨fun _ => fact2 rfl rfl ?_, fun _ h => absurd h List.not_mem_nil⟩⟩⟩⟩⟩⟩⟩⟩⟩) <;> constructor <;> first | rfl | (simp [F]; done)), ?_⟩
                   repeat (first | simp [F] | simp (disch := omega) only [wC, if_pos, if_neg])
                   refine dc 13 rfl (c := (hmd ▸ muldiv_ok x.n.h (by omega) (by omega))) (k := ?_)
                   rintro _ _ ⟨rfl, rfl⟩
                   refine ⟨by first | exact fun _ _ h => h | (refine later_list [10, 9, 8, 7, 4, 3, 2, 0] (by kernel_rfl) (List.forall_mem_cons.2 ⟨fun _ => fact2 rfl rfl ?_, List.forall_mem_cons.2 ⟨fun _ => fact2 rfl rfl ?_, List.forall_mem_cons.2 ⟨fun _ => fact2 rfl rfl ?_, List.forall_mem_cons.2 ⟨fun _ => fact2 rfl rfl ?_, List.forall_mem_cons.2 ⟨fun _ => fact2 rfl rfl ?_, List.forall_mem_cons.2 ⟨fun _ => fact2 rfl rfl ?_, List.forall_mem_cons.2 ⟨fun _ => fact2 rfl rfl ?_, List.forall_mem_cons.2 ⟨fun _ => fact2 rfl rfl ?_, fun _ h => absurd h List.not_mem_nil⟩⟩⟩⟩⟩⟩⟩⟩) <;> constructor <;> first | rfl | (simp [F]; done)), ?_⟩
                   repeat (first | simp [F] | simp (disch := omega) only [wC, if_pos, if_neg])
                   refine rp2 14 (k := ?_)
                   refine rp2 15 (k := ?_)
                   refine rp2 16 (k := ?_)
                   refine dop 18 rfl ?_
                   repeat (first | simp [F] | simp (disch := omega) only [wC, if_pos, if_neg])
                   refine ⟨later_tmp (by kernel_rfl), ?_⟩
                   refine rp2 19 (k := ?_)
                   refine dd ?_
                   refine hJ100 _ _ ?_
                   refine hK99 _ _ ?_
                   refine rg' (h := fun J105 hJ105 => ?_)
                   refine ca (c := (hM ▸ one_ok (d := x.d) (n := n))) (k := ?_)
                   rintro _ _ ⟨rfl, rfl⟩
                   repeat (first | simp [F] | simp (disch := omega) only [wC, if_pos, if_neg])
                   refine hJ105 _ _ ?_
                   refine hK96 _ _ ?_
                   refine rg' (h := fun J106 hJ106 => ?_)
                   refine hJ106 _ _ ?_
                   refine ⟨gk, (i + 1), ⟨kpG, lpG, ?_, lpG, ?_⟩, lpG⟩
                   · rw [hnx, ← coinsC_append]
                     simp [F, AV.gcO, noObjL_append]
                   · rw [hnx]
                     simp [F, St.trimO]
               · refine ao 17 rfl ?_
                 repeat (first | simp [F] | simp (disch := omega) only [wC, if_pos, if_neg])
                 refine ⟨by first | exact later_more _ (by kernel_rfl) | exact later_more2 (by kernel_rfl) rfl, ?_⟩
                 refine dc 6 rfl (c := nOf_ok (n := t - ps) (by omega)) (k := ?_)
                 rintro _ _ ⟨rfl, rfl⟩
                 refine ⟨by first | exact fun _ _ h => h | (refine later_list [11, 10, 9, 8, 7, 4, 3, 2, 1, 0] (by kernel_rfl) (List.forall_mem_cons.2 ⟨fun _ => fact2 rfl rfl ?_, List.forall_mem_cons.2 ⟨fun _ => fact2 rfl rfl ?_, List.forall_mem_cons.2 ⟨fun _ => fact2 rfl rfl ?_, List.forall_mem_cons.2 ⟨fun _ => fact2 rfl rfl ?_, List.forall_mem_cons.2 ⟨fun _ => fact2 rfl rfl ?_, List.forall_mem_cons.2 ⟨fun _ => fact2 rfl rfl ?_, List.forall_mem_cons.2 ⟨fun _ => fact2 rfl rfl ?_, List.forall_mem_cons.2 ⟨fun _ => fact2 rfl rfl ?_, List.forall_mem_cons.2 ⟨fun _ => fact2 rfl rfl ?_, List.forall_mem_cons.2 ⟨fun _ => fact2 rfl rfl ?_, fun _ h => absurd h List.not_mem_nil⟩⟩⟩⟩⟩⟩⟩⟩⟩⟩) <;> constructor <;> first | rfl | (simp [F]; done)), ?_⟩
                 repeat (first | simp [F] | simp (disch := omega) only [wC, if_pos, if_neg])
                 refine dc 12 rfl (c := nOf_ok (n := pe - ps) (by omega)) (k := ?_)
                 rintro _ _ ⟨rfl, rfl⟩
                 refine ⟨by first | exact fun _ _ h => h | (refine later_list [10, 9, 8, 7, 4, 3, 2, 1, 0] (by kernel_rfl) (List.forall_mem_cons.2 ⟨fun _ => fact2 rfl rfl ?_, List.forall_mem_cons.2 ⟨fun _ => fact2 rfl rfl ?_, List.forall_mem_cons.2 ⟨fun _ => fact2 rfl rfl ?_, List.forall_mem_cons.2 ⟨fun _ => fact2 rfl rfl ?_, List.forall_mem_cons.2 ⟨fun _ => fact2 rfl rfl ?_, List.forall_mem_cons.2 ⟨fun _ => fact2 rfl rfl ?_, List.forall_mem_cons.2 ⟨fun _ => fact2 rfl rfl ?_, List.forall_mem_cons.2 ⟨fun _ => fact2 rfl rfl ?_, List.forall_mem_cons.2 ⟨fun _ => fact2 rfl rfl ?_, fun _ h => absurd h List.not_mem_nil⟩⟩⟩⟩⟩⟩⟩⟩⟩) <;> constructor <;> first | rfl | (simp [F]; done)), ?_⟩
                 repeat (first | simp [F] | simp (disch := omega) only [wC, if_pos, if_neg])
                 refine dc 13 rfl (c := (hmd ▸ muldiv_ok x.n.h (by omega) (by omega))) (k := ?_)
                 rintro _ _ ⟨rfl, rfl⟩
                 refine ⟨by first | exact fun _ _ h => h | (refine later_list [10, 9, 8, 7, 4, 3, 2, 0] (by kernel_rfl) (List.forall_mem_cons.2 ⟨fun _ => fact2 rfl rfl ?_, List.forall_mem_cons.2 ⟨fun _ => fact2 rfl rfl ?_, List.forall_mem_cons.2 ⟨fun _ => fact2 rfl rfl ?_, List.forall_mem_cons.2 ⟨fun _ => fact2 rfl rfl ?_, List.forall_mem_cons.2 ⟨fun _ => fact2 rfl rfl ?_, List.forall_mem_cons.2 ⟨fun _ => fact2 rfl rfl ?_, List.forall_mem_cons.2 ⟨fun _ => fact2 rfl rfl ?_, List.forall_mem_cons.2 ⟨fun _ => fact2 rfl rfl ?_, fun _ h => absurd h List.not_mem_nil⟩⟩⟩⟩⟩⟩⟩⟩) <;> constructor <;> first | rfl | (simp [F]; done)), ?_⟩
                 repeat (first | simp [F] | simp (disch := omega) only [wC, if_pos, if_neg])
                 refine rp2 14 (k := ?_)
                 refine rp2 15 (k := ?_)
                 refine rp2 16 (k := ?_)
                 refine dop 18 rfl ?_
                 repeat (first | simp [F] | simp (disch := omega) only [wC, if_pos, if_neg])
                 refine ⟨later_tmp (by kernel_rfl), ?_⟩
                 refine rp2 19 (k := ?_)
                 refine dd ?_
                 refine hJ100 _ _ ?_
                 refine hK99 _ _ ?_
                 refine rg' (h := fun J107 hJ107 => ?_)
                 refine ca (c := (hM ▸ one_ok (d := x.d) (n := n))) (k := ?_)
                 rintro _ _ ⟨rfl, rfl⟩
                 repeat (first | simp [F] | simp (disch := omega) only [wC, if_pos, if_neg])
                 refine hJ107 _ _ ?_
                 refine hK96 _ _ ?_
                 refine rg' (h := fun J108 hJ108 => ?_)
                 refine hJ108 _ _ ?_
                 refine ⟨gk, (i + 1), ⟨kpG, lpG, ?_, lpG, ?_⟩, lpG⟩
                 · rw [hnx, ← coinsC_append]
                   simp [F, AV.gcO, noObjL_append]
                 · rw [hnx]
                   simp [F, St.trimO]
            try exact nope c59
            all_goals have c59p := c59
            all_goals try simp [F] at c59p
            all_goals
             replace F := And.intro c59 F
             try replace F := And.intro c59p F
             have hii : i = pt.length := by have h := c59; simp at h; omega
             have hv : vestL ⟨pk, ps, pe, pt, pp⟩ t = partL ps pe t (pt.take i) := by rw [hii, List.take_length, vestL]; simp [hkn, F]
             replace F := And.intro hv F
             refine run_exit ?_
             refine hK90 _ _ ?_
             refine sq fun K109 hK109 => ?_
             refine rg' (h := fun J110 hJ110 => ?_)
             refine hJ110 _ _ ?_
             refine hK109 _ _ ?_
             refine run_ret ?_
             try simp only [Then, InBlock, NoGoto]
             refine answer_tmp rfl (.inr rfl) ?_
             rw [hv]
             exact gcr (hA := by simp only [putA_get]; simp [F]; exact wk_grA (fun h => by have h0 := posB_no h; subst h0; simp [partL]))
     try exact nope g3_12
     all_goals have g3_12p := g3_12
     all_goals try simp [F] at g3_12p
     all_goals
      replace F := And.intro g3_12 F
      try replace F := And.intro g3_12p F
      refine no2 (k := ?_)
      refine no2 (k := ?_)
      refine no2 (k := ?_)
      refine no2 (k := ?_)
      refine go2 (k := ?_)
      refine hJ11 _ _ ?_
      refine hK10 _ _ ?_
      refine cf ?_
      refine sq fun K111 hK111 => ?_
      refine rg' (h := fun J112 hJ112 => ?_)
      refine hJ112 _ _ ?_
      refine hK111 _ _ ?_
      refine cs (fun c43 => ?_) (fun c43 => ?_)
      · try exact nope c43
        all_goals have c43p := c43
        all_goals try simp [F] at c43p
        all_goals
         replace F := And.intro c43 F
         try replace F := And.intro c43p F
         have n2 : pe ≤ t := by have h := c43; simp at h; omega
         replace F := And.intro n2 F
         refine sq fun K113 hK113 => ?_
         refine rg' (h := fun J114 hJ114 => ?_)
         refine ca (c := cclone_ok hc) (k := ?_)
         rintro _ _ ⟨rfl, rfl⟩
         repeat (first | simp [F] | simp (disch := omega) only [wC, if_pos, if_neg])
         refine hJ114 _ _ ?_
         refine hK113 _ _ ?_
         refine run_ret ?_
         try simp only [Then, InBlock, NoGoto]
         refine answer_tmp rfl (.inr rfl) ?_
         exact gcr (hA := by simp only [putA_get]; simp [vestL, hkn, F]; first | exact Wk.refl _ | exact Wk.nil _ _ _)
      try exact nope c43
      all_goals have c43p := c43
      all_goals try simp [F] at c43p
      all_goals
       replace F := And.intro c43 F
       try replace F := And.intro c43p F
       have n2 : ¬ pe ≤ t := by have h := c43; simp at h; omega
       replace F := And.intro n2 F
       refine sq fun K115 hK115 => ?_
       refine rg' (h := fun J116 hJ116 => ?_)
       refine hJ116 _ _ ?_
       refine hK115 _ _ ?_
       refine cs (fun c51 => ?_) (fun c51 => ?_)
       · try exact nope c51
         all_goals have c51p := c51
         all_goals try simp [F] at c51p
         all_goals
          replace F := And.intro c51 F
          try replace F := And.intro c51p F
          refine sq fun K117 hK117 => ?_
          refine rg' (h := fun J118 hJ118 => ?_)
          refine hJ118 _ _ ?_
          refine hK117 _ _ ?_
          refine run_ret ?_
          try simp only [Then, InBlock, NoGoto]
          refine answer_tmp rfl (.inr rfl) ?_
          exact gcr (hA := by simp only [putA_get]; simp [vestL, hkn, F]; first | exact Wk.refl _ | exact Wk.nil _ _ _)
       try exact nope c51
       all_goals have c51p := c51
       all_goals try simp [F] at c51p
       all_goals
        replace F := And.intro c51 F
        try replace F := And.intro c51p F
        refine run_skip ?_
        refine hK3 _ _ ?_
        refine sq fun K119 hK119 => ?_
        refine rg' (h := fun J120 hJ120 => ?_)
        refine hJ120 _ _ ?_
        refine hK119 _ _ ?_
        refine sq fun K121 hK121 => ?_
        refine sq fun K122 hK122 => ?_
        refine rg' (h := fun J123 hJ123 => ?_)
        refine hJ123 _ _ ?_
        refine hK122 _ _ ?_
        refine run_block_k ?_
        refine run_loopG (X := Nat) [1, 2, 4, 56, 57] (fun i ρ σ1 => (i ≤ pt.length) ∧ (ρ 5 = grA σ.toks.length 5 (posB i) (coinsC (partL ps pe t (pt.take i))) (partL ps pe t (pt.take i)).length) ∧ (ρ 58 = .v (.int .i64 i)) ∧ (σ1 = { σ with objs := σ.objs ++ [[.v (.int .u8 pk.toNat), .v (.int .u64 ps), .v (.int .u64 pe), .sl 5 (coinsC pt) pt.length .shut, .sl 2 (persC pp) pp.length .shut]], toks := σ.toks ++ grT (posB i) (partL ps pe t (pt.take i)).length })) (fun i => pt.length - i) (0) ?st1 ?rd1
        case st1 =>
         refine ⟨lp, lp, lp, ?_⟩
         · simp [F]
        case rd1 =>
         rintro i ρ1 σ1 hF1 ⟨hi, h8, h12, hσ⟩
         obtain rfl := hσ.symm
         have f1 := keepL hF1
         try simp [KeepL, F] at f1
         replace F := And.intro h8 F
         replace F := And.intro h12 F
         try replace F := And.intro f1 F
         refine sq fun K124 hK124 => ?_
         refine rg' (h := fun J125 hJ125 => ?_)
         refine hJ125 _ _ ?_
         refine hK124 _ _ ?_
         refine sq fun K126 hK126 => ?_
         refine cs (fun c59 => ?_) (fun c59 => ?_)
         · try exact nope c59
           all_goals have c59p := c59
           all_goals try simp [F] at c59p
           all_goals
            replace F := And.intro c59 F
            try replace F := And.intro c59p F
            refine run_skip ?_
            refine hK126 _ _ ?_
            refine sq fun K127 hK127 => ?_
            refine run_block_k ?_
            refine sq fun K128 hK128 => ?_
            have hlt : i < pt.length := by simp at c59; omega
            have hat := coinsC_at hlt
            have hb1 : i * 5 + 5 ≤ pt.length * 5 := by omega
            obtain ⟨x, hx⟩ : ∃ x, x = pt[i] := ⟨_, rfl⟩
            rw [← hx] at hat
            simp only [coinC] at hat
            have hse : ps < t := by have h := c23; simp at h; omega
            have hte : t < pe := by have h := c43; simp at h; omega
            have hw1 : IntKind.u64.wrap ((t : Int) - ps) = ((t - ps : Nat) : Int) := by rw [wrap_u64c (by omega)]; omega
            have hw2 : IntKind.u64.wrap ((pe : Int) - ps) = ((pe - ps : Nat) : Int) := by rw [wrap_u64c (by omega)]; omega
            have hpn : partN x ps pe t < 2 ^ 256 := partN_lt (by omega)
            have hmd : mdN x.n.v (t - ps) (pe - ps) false = (Num.of (partN x ps pe t)).v := by rw [Num.of_v hpn, mdN, if_neg (by omega), show mdQ x.n.v (t - ps) (pe - ps) false = partN x ps pe t by simp [mdQ, partN], if_pos hpn]
            obtain ⟨n, hn⟩ : ∃ n, n = Num.of (partN x ps pe t) := ⟨_, rfl⟩
            rw [← hn] at hmd
            obtain ⟨L, hL⟩ : ∃ L, L = partL ps pe t (pt.take i) := ⟨_, rfl⟩
            obtain ⟨M, hM⟩ : ∃ M, M = oneL x.d n := ⟨_, rfl⟩
            have hnx : partL ps pe t (pt.take (i + 1)) = L ++ M := by rw [hL, hM, hn, ← partL_snoc, hx, List.take_append_getElem hlt]
            have hLl : L.length ≤ i := by rw [hL]; exact Nat.le_trans (partL_len _ _ _ _) (by simp; omega)
            have hMl : M.length ≤ 1 := by rw [hM]; unfold oneL; split <;> simp
            rw [← hL] at h8 F
            rw [← hL]
            have hb0 : posB i = false → coinsC L = [] ∧ L.length = 0 := fun h => by have h0 := posB_no h; subst h0; rw [hL]; simp [partL]
            have happ : ∀ objs, appendA Try.prog 23 (grA σ.toks.length 5 (posB i) (coinsC L) L.length) (.sl 5 (coinsC M) M.length .shut) ⟨objs, σ.toks ++ grT (posB i) L.length, σ.gl, σ.rows⟩ = some (grA σ.toks.length 5 true (coinsC L ++ coinsC M) (L.length + M.length), ⟨objs, σ.toks ++ grT true (L.length + M.length), σ.gl, σ.rows⟩) := fun objs => append_gr elemT_23 ti_86 (by decide) rfl hb0 (.inl rfl) (by simp [roomA]; omega) (by simp [maxLen]; omega)
            replace F := And.intro hlt F
            replace F := And.intro hat F
            replace F := And.intro hb1 F
            replace F := And.intro hw1 F
            replace F := And.intro hw2 F
            replace F := And.intro happ F
            refine rg' (h := fun J129 hJ129 => ?_)
            refine hJ129 _ _ ?_
            refine hK128 _ _ ?_
            refine sq fun K130 hK130 => ?_
            refine run_draw (by kernel_rfl) fun J131 hJ131 => ?_
            refine rp2 0 (k := ?_)
            refine rp2 1 (k := ?_)
            refine rp2 2 (k := ?_)
            refine rp2 3 (k := ?_)
            refine rp2 4 (k := ?_)
            refine rp2 5 (k := ?_)
            refine rp2 7 (k := ?_)
            refine rp2 8 (k := ?_)
            refine rp2 9 (k := ?_)
            refine rp2 10 (k := ?_)
            refine rp2 11 (k := ?_)
            refine d2 6 17 ?_ ?_
            · refine ac 6 rfl (c := nOf_ok (n := t - ps) (by omega)) (k := ?_)
              rintro _ _ ⟨rfl, rfl⟩
              refine ⟨by first | exact fun _ _ h => h | (refine later_list [11, 10, 9, 8, 7, 4, 3, 2, 1, 0] (by kernel_rfl) (List.forall_mem_cons.2 ⟨fun _ => fact2 rfl rfl ?_, List.forall_mem_cons.2 ⟨fun _ => fact2 rfl rfl ?_, List.forall_mem_cons.2 ⟨fun _ => fact2 rfl rfl ?_, List.forall_mem_cons.2 ⟨fun _ => fact2 rfl rfl ?_, List.forall_mem_cons.2 ⟨fun _ => fact2 rfl rfl ?_, List.forall_mem_cons.2 ⟨fun _ => fact2 rfl rfl ?_, List.forall_mem_cons.2 ⟨fun _ => fact2 rfl rfl ?_, List.forall_mem_cons.2 ⟨fun _ => fact2 rfl rfl ?_, List.forall_mem_cons.2 ⟨fun _ => fact2 rfl rfl ?_, List.forall_mem_cons.2 ⟨fun _ => fact2 rfl rfl ?_, fun _ h => absurd h List.not_mem_nil⟩⟩⟩⟩⟩⟩⟩⟩⟩⟩) <;> constructor <;> first | rfl | (simp [F]; done)), ?_⟩
              repeat (first | simp [F] | simp (disch := omega) only [wC, if_pos, if_neg])
              refine d2 12 17 ?_ ?_
              · refine ac 12 rfl (c := nOf_ok (n := pe - ps) (by omega)) (k := ?_)
                rintro _ _ ⟨rfl, rfl⟩
                refine ⟨by first | exact fun _ _ h => h | (refine later_list [10, 9, 8, 7, 4, 3, 2, 1, 0] (by kernel_rfl) (List.forall_mem_cons.2 ⟨fun _ => fact2 rfl rfl ?_, List.forall_mem_cons.2 ⟨fun _ => fact2 rfl rfl ?_, List.forall_mem_cons.2 ⟨fun _ => fact2 rfl rfl ?_, List.forall_mem_cons.2 ⟨fun _ => fact2 rfl rfl ?_, List.forall_mem_cons.2 ⟨fun _ => fact2 rfl rfl ?_, List.forall_mem_cons.2 ⟨fun _ => fact2 rfl rfl ?_, List.forall_mem_cons.2 ⟨fun _ => fact2 rfl rfl ?_, List.forall_mem_cons.2 ⟨fun _ => fact2 rfl rfl ?_, List.forall_mem_cons.2 ⟨fun _ => fact2 rfl rfl ?_, fun _ h => absurd h List.not_mem_nil⟩⟩⟩⟩⟩⟩⟩⟩⟩) <;> constructor <;> first | rfl | (simp [F]; done)), ?_⟩
                repeat (first | simp [F] | simp (disch := omega) only [wC, if_pos, if_neg])
                refine d2 13 17 ?_ ?_
                · refine ac 13 rfl (c := (hmd ▸ muldiv_ok x.n.h (by omega) (by omega))) (k := ?_)
                  rintro _ _ ⟨rfl, rfl⟩
                  refine ⟨by first | exact fun _ _ h => h | (refine later_list [10, 9, 8, 7, 4, 3, 2, 0] (by kernel_rfl) (List.forall_mem_cons.2 ⟨fun _ => fact2 rfl rfl ?_, List.forall_mem_cons.2 ⟨fun _ => fact2 rfl rfl ?_, List.forall_mem_cons.2 ⟨fun _ => fact2 rfl rfl ?_, List.forall_mem_cons.2 ⟨fun _ => fact2 rfl rfl ?_, List.forall_mem_cons.2 ⟨fun _ => fact2 rfl rfl ?_, List.forall_mem_cons.2 ⟨fun _ => fact2 rfl rfl ?_, List.forall_mem_cons.2 ⟨fun _ => fact2 rfl rfl ?_, List.forall_mem_cons.2 ⟨fun _ => fact2 rfl rfl ?_, fun _ h => absurd h List.not_mem_nil⟩⟩⟩⟩⟩⟩⟩⟩) <;> constructor <;> first | rfl | (simp [F]; done)), ?_⟩
                  repeat (first | simp [F] | simp (disch := omega) only [wC, if_pos, if_neg])
                  refine rp2 14 (k := ?_)
                  refine rp2 15 (k := ?_)
                  refine rp2 16 (k := ?_)
                  refine dop 17 rfl ?_
                  repeat (first | simp [F] | simp (disch := omega) only [wC, if_pos, if_neg])
                  refine ⟨by first | exact later_more _ (by kernel_rfl) | exact later_more2 (by kernel_rfl) rfl, ?_⟩
                  refine dop 18 rfl ?_
                  repeat (first | simp [F] | simp (disch := omega) only [wC, if_pos, if_neg])
                  refine ⟨later_tmp (by kernel_rfl), ?_⟩
                  refine rp2 19 (k := ?_)
                  refine dd ?_
                  refine hJ131 _ _ ?_
                  refine hK130 _ _ ?_
                  refine rg' (h := fun J132 hJ132 => ?_)
                  refine ca (c := (hM ▸ one_ok (d := x.d) (n := n))) (k := ?_)
                  rintro _ _ ⟨rfl, rfl⟩
                  repeat (first | simp [F] | simp (disch := omega) only [wC, if_pos, if_neg])
                  refine hJ132 _ _ ?_
                  refine hK127 _ _ ?_
                  refine rg' (h := fun J133 hJ133 => ?_)
                  refine hJ133 _ _ ?_
                  refine ⟨gk, (i + 1), ⟨kpG, lpG, ?_, lpG, ?_⟩, lpG⟩
                  · rw [hnx, ← coinsC_append]
                    simp [F, AV.gcO, noObjL_append]
                  · rw [hnx]
                    simp [F, St.trimO]
                · refine ao 17 rfl ?_
                  repeat (first | simp [F] | simp (disch := omega) only [wC, if_pos, if_neg])
                  refine ⟨by first | exact later_more _ (by kernel_rfl) | exact later_more2 (by kernel_rfl) rfl, ?_⟩
                  refine dc 13 rfl (c := (hmd ▸ muldiv_ok x.n.h (by omega) (by omega))) (k := ?_)
                  rintro _ _ ⟨rfl, rfl⟩
                  refine ⟨by first | exact fun _ _ h => h | (refine later_list [10, 9, 8, 7, 4, 3, 2, 0] (by kernel_rfl) (List.forall_mem_cons.2 ⟨fun _ => fact2 rfl rfl ?_, List.forall_mem_cons.2 ⟨fun _ => fact2 rfl rfl ?_, List.forall_mem_cons.2 ⟨fun _ => fact2 rfl rfl ?_, List.forall_mem_cons.2 ⟨fun _ => fact2 rfl rfl ?_, List.forall_mem_cons.2 ⟨fun _ => fact2 rfl rfl ?_, List.forall_mem_cons.2 ⟨fun _ => fact2 rfl rfl ?_, List.forall_mem_cons.2 ⟨fun _ => fact2 rfl rfl ?_, List.forall_mem_cons.2 ⟨fun _ => fact2 rfl rfl ?_, fun _ h => absurd h List.not_mem_nil⟩⟩⟩⟩⟩⟩⟩⟩) <;> constructor <;> first | rfl | (simp [F]; done)), ?_⟩
                  repeat (first | simp [F] | simp (disch := omega) only [wC, if_pos, if_neg])
                  refine rp2 14 (k := ?_)
                  refine rp2 15 (k := ?_)
                  refine rp2 16 (k := ?_)
                  refine dop 18 rfl ?_
                  repeat (first | simp [F] | simp (disch := omega) only [wC, if_pos, if_neg])
                  refine ⟨later_tmp (by kernel_rfl), ?_⟩
                  refine rp2 19 (k := ?_)
                  refine dd ?_
                  refine hJ131 _ _ ?_
                  refine hK130 _ _ ?_
                  refine rg' (h := fun J134 hJ134 => ?_)
                  refine ca (c := (hM ▸ one_ok (d := x.d) (n := n))) (k := ?_)
                  rintro _ _ ⟨rfl, rfl⟩
                  repeat (first | simp [F] | simp (disch := omega) only [wC, if_pos, if_neg])
                  refine hJ134 _ _ ?_
                  refine hK127 _ _ ?_
                  refine rg' (h := fun J135 hJ135 => ?_)
                  refine hJ135 _ _ ?_
                  refine ⟨gk, (i + 1), ⟨kpG, lpG, ?_, lpG, ?_⟩, lpG⟩
                  · rw [hnx, ← coinsC_append]
                    simp [F, AV.gcO, noObjL_append]
                  · rw [hnx]
                    simp [F, St.trimO]
              · refine ao 17 rfl ?_
                repeat (first | simp [F] | simp (disch := omega) only [wC, if_pos, if_neg])
                refine ⟨by first | exact later_more _ (by kernel_rfl) | exact later_more2 (by kernel_rfl) rfl, ?_⟩
                refine dc 12 rfl (c := nOf_ok (n := pe - ps) (by omega)) (k := ?_)
                rintro _ _ ⟨rfl, rfl⟩
                refine ⟨by first | exact fun _ _ h => h | (refine later_list [10, 9, 8, 7, 4, 3, 2, 1, 0] (by kernel_rfl) (List.forall_mem_cons.2 ⟨fun _ => fact2 rfl rfl ?_, List.forall_mem_cons.2 ⟨fun _ => fact2 rfl rfl ?_, List.forall_mem_cons.2 ⟨fun _ => fact2 rfl rfl ?_, List.forall_mem_cons.2 ⟨fun _ => fact2 rfl rfl ?_, List.forall_mem_cons.2 ⟨fun _ => fact2 rfl rfl ?_, List.forall_mem_cons.2 ⟨fun _ => fact2 rfl rfl ?_, List.forall_mem_cons.2 ⟨fun _ => fact2 rfl rfl ?_, List.forall_mem_cons.2 ⟨fun _ => fact2 rfl rfl ?_, List.forall_mem_cons.2 ⟨fun _ => fact2 rfl rfl ?_, fun _ h => absurd h List.not_mem_nil⟩⟩⟩⟩⟩⟩⟩⟩⟩) <;> constructor <;> first | rfl | (simp [F]; done)), ?_⟩
                repeat (first | simp [F] | simp (disch := omega) only [wC, if_pos, if_neg])
                refine dc 13 rfl (c := (hmd ▸ muldiv_ok x.n.h (by omega) (by omega))) (k := ?_)
                rintro _ _ ⟨rfl, rfl⟩
                refine ⟨by first | exact fun _ _ h => h | (refine later_list [10, 9, 8, 7, 4, 3, 2, 0] (by kernel_rfl) (List.forall_mem_cons.2 ⟨fun _ => fact2 rfl rfl ?_, List.forall_mem_cons.2 ⟨fun _ => fact2 rfl rfl ?_, List.forall_mem_cons.2 ⟨fun _ => fact2 rfl rfl ?_, List.forall_mem_cons.2 ⟨fun _ => fact2 rfl rfl ?_, List.forall_mem_cons.2 ⟨fun _ => fact2 rfl rfl ?_, List.forall_mem_cons.2 ⟨fun _ => fact2 rfl rfl ?_, List.forall_mem_cons.2 ⟨fun _ => fact2 rfl rfl ?_, List.forall_mem_cons.2 ⟨fun _ => fact2 rfl rfl ?_, fun _ h => absurd h List.not_mem_nil⟩⟩⟩⟩⟩⟩⟩⟩) <;> constructor <;> first | rfl | (simp [F]; done)), ?_⟩
                repeat (first | simp [F] | simp (disch := omega) only [wC, if_pos, if_neg])
                refine rp2 14 (k := ?_)
                refine rp2 15 (k := ?_)
                refine rp2 16 (k := ?_)
                refine dop 18 rfl ?_
                repeat (first | simp [F] | simp (disch := omega) only [wC, if_pos, if_neg])
                refine ⟨later_tmp (by kernel_rfl), ?_⟩
                refine rp2 19 (k := ?_)
                refine dd ?_
                refine hJ131 _ _ ?_
                refine hK130 _ _ ?_
                refine rg' (h := fun J136 hJ136 => ?_)
                refine ca (c := (hM ▸ one_ok (d := x.d) (n := n))) (k := ?_)
                rintro _ _ ⟨rfl, rfl⟩
                repeat (first | simp [F] | simp (disch := omega) only [wC, if_pos, if_neg])
                refine hJ136 _ _ ?_
                refine hK127 _ _ ?_
                refine rg' (h := fun J137 hJ137 => ?_)
                refine hJ137 _ _ ?_
                refine ⟨gk, (i + 1), ⟨kpG, lpG, ?_, lpG, ?_⟩, lpG⟩
                · rw [hnx, ← coinsC_append]
                  simp [F, AV.gcO, noObjL_append]
                · rw [hnx]
                  simp [F, St.trimO]
            · refine ao 17 rfl ?_
              repeat (first | simp [F] | simp (disch := omega) only [wC, if_pos, if_neg])
              refine ⟨by first | exact later_more _ (by kernel_rfl) | exact later_more2 (by kernel_rfl) rfl, ?_⟩
              refine dc 6 rfl (c := nOf_ok (n := t - ps) (by omega)) (k := ?_)
              rintro _ _ ⟨rfl, rfl⟩
              refine ⟨by first | exact fun _ _ h => h | (refine later_list [11, 10, 9, 8, 7, 4, 3, 2, 1, 0] (by kernel_rfl) (List.forall_mem_cons.2 ⟨fun _ => fact2 rfl rfl ?_, List.forall_mem_cons.2 ⟨fun _ => fact2 rfl rfl ?_, List.forall_mem_cons.2 ⟨fun _ => fact2 rfl rfl ?_, List.forall_mem_cons.2 ⟨fun _ => fact2 rfl rfl ?_, List.forall_mem_cons.2 ⟨fun _ => fact2 rfl rfl ?_, List.forall_mem_cons.2 ⟨fun _ => fact2 rfl rfl ?_, List.forall_mem_cons.2 ⟨fun _ => fact2 rfl rfl ?_, List.forall_mem_cons.2 ⟨fun _ => fact2 rfl rfl ?_, List.forall_mem_cons.2 ⟨fun _ => fact2 rfl rfl ?_, List.forall_mem_cons.2 ⟨fun _ => fact2 rfl rfl ?_, fun _ h => absurd h List.not_mem_nil⟩⟩⟩⟩⟩⟩⟩⟩⟩⟩) <;> constructor <;> first | rfl | (simp [F]; done)), ?_⟩
              repeat (first | simp [F] | simp (disch := omega) only [wC, if_pos, if_neg])
              refine dc 12 rfl (c := nOf_ok (n := pe - ps) (by omega)) (k := ?_)
              rintro _ _ ⟨rfl, rfl⟩
              refine ⟨by first | exact fun _ _ h => h | (refine later_list [10, 9, 8, 7, 4, 3, 2, 1, 0] (by kernel_rfl) (List.forall_mem_cons.2 ⟨fun _ => fact2 rfl rfl ?_, List.forall_mem_cons.2 ⟨fun _ => fact2 rfl rfl ?_, List.forall_mem_cons.2 ⟨fun _ => fact2 rfl rfl ?_, List.forall_mem_cons.2 ⟨fun _ => fact2 rfl rfl ?_, List.forall_mem_cons.2 ⟨fun _ => fact2 rfl rfl ?_, List.forall_mem_cons.2 ⟨fun _ => fact2 rfl rfl ?_, List.forall_mem_cons.2 ⟨fun _ => fact2 rfl rfl ?_, List.forall_mem_cons.2 ⟨fun _ => fact2 rfl rfl ?_, List.forall_mem_cons.2 ⟨fun _ => fact2 rfl rfl ?_, fun _ h => absurd h List.not_mem_nil⟩⟩⟩⟩⟩⟩⟩⟩⟩) <;> constructor <;> first | rfl | (simp [F]; done)), ?_⟩
              repeat (first | simp [F] | simp (disch := omega) only [wC, if_pos, if_neg])
              refine dc 13 rfl (c := (hmd ▸ muldiv_ok x.n.h (by omega) (by omega))) (k := ?_)
              rintro _ _ ⟨rfl, rfl⟩
              refine ⟨by first | exact fun _ _ h => h | (refine later_list [10, 9, 8, 7, 4, 3, 2, 0] (by kernel_rfl) (List.forall_mem_cons.2 ⟨fun _ => fact2 rfl rfl ?_, List.forall_mem_cons.2 ⟨fun _ => fact2 rfl rfl ?_, List.forall_mem_cons.2 ⟨fun _ => fact2 rfl rfl ?_, List.forall_mem_cons.2 ⟨fun _ => fact2 rfl rfl ?_, List.forall_mem_cons.2 ⟨fun _ => fact2 rfl rfl ?_, List.forall_mem_cons.2 ⟨fun _ => fact2 rfl rfl ?_, List.forall_mem_cons.2 ⟨fun _ => fact2 rfl rfl ?_, List.forall_mem_cons.2 ⟨fun _ => fact2 rfl rfl ?_, fun _ h => absurd h List.not_mem_nil⟩⟩⟩⟩⟩⟩⟩⟩) <;> constructor <;> first | rfl | (simp [F]; done)), ?_⟩
              repeat (first | simp [F] | simp (disch := omega) only [wC, if_pos, if_neg])
              refine rp2 14 (k := ?_)
              refine rp2 15 (k := ?_)
              refine rp2 16 (k := ?_)
              refine dop 18 rfl ?_
              repeat (first | simp [F] | simp (disch := omega) only [wC, if_pos, if_neg])
              refine ⟨later_tmp (by kernel_rfl), ?_⟩
              refine rp2 19 (k := ?_)
              refine dd ?_
              refine hJ131 _ _ ?_
              refine hK130 _ _ ?_
              refine rg' (h := fun J138 hJ138 => ?_)
              refine ca (c := (hM ▸ one_ok (d := x.d) (n := n))) (k := ?_)
              rintro _ _ ⟨rfl, rfl⟩
              repeat (first | simp [F] | simp (disch := omega) only [wC, if_pos, if_neg])
              refine hJ138 _ _ ?_
              refine hK127 _ _ ?_
              refine rg' (h := fun J139 hJ139 => ?_)
              refine hJ139 _ _ ?_
              refine ⟨gk, (i + 1), ⟨kpG, lpG, ?_, lpG, ?_⟩, lpG⟩
              · rw [hnx, ← coinsC_append]
                simp [F, AV.gcO, noObjL_append]
              · rw [hnx]
                simp [F, St.trimO]
         try exact nope c59
         all_goals have c59p := c59
         all_goals try simp [F] at c59p
         all_goals
          replace F := And.intro c59 F
          try replace F := And.intro c59p F
          have hii : i = pt.length := by have h := c59; simp at h; omega
          have hv : vestL ⟨pk, ps, pe, pt, pp⟩ t = partL ps pe t (pt.take i) := by rw [hii, List.take_length, vestL]; simp [hkn, F]
          replace F := And.intro hv F
          refine run_exit ?_
          refine hK121 _ _ ?_
          refine sq fun K140 hK140 => ?_
          refine rg' (h := fun J141 hJ141 => ?_)
          refine hJ141 _ _ ?_
          refine hK140 _ _ ?_
          refine run_ret ?_
          try simp only [Then, InBlock, NoGoto]
          refine answer_tmp rfl (.inr rfl) ?_
          rw [hv]
          exact gcr (hA := by simp only [putA_get]; simp [F]; exact wk_grA (fun h => by have h0 := posB_no h; subst h0; simp [partL]))

end Go.Proofs.Ytdbaddholggkbaa

/-
  A plan at hand..
-/
namespace Go.Proofs.Ytdbaddholggkbaa
set_option linter.unnecessarySimpa false
set_option maxRecDepth 100000
open Go Go.Vm
set_option linter.unusedSimpArgs false
set_option linter.unusedVariables false

attribute [local simp] evalL wantedA isCall opA evalA evalAll evalsA evalOpt ofValue ofCell plain binA_eql_pn binA_neq_pn binA_gtr binA_lss binA_geq binA_leq binA_add binA_sub binA_eql binA_neq binA_orI binA_andI binA_shl binA_shr binA_mul binA_quo binA_rem binA_agg_eql binA_agg_neq convA_int unA_not fieldAddrA loadA partA pickA_true pickA_false pickA_bb lenA builtinA storeA splice AV.cells AV.isCell sliceA boundA intA callOf indexAddrA newObjA buildA fillA zeroA ofCells buildSliceA indexA fieldA numA_len4 numA_take4 numA_drop4 set_appN get_appN take_appN List.getElem?_cons_zero List.getElem?_cons_succ makeA zeros64

def evenP : Pln := ⟨1, 10, 20, [⟨0, Num.of 5⟩], []⟩
theorem evenOk : evenP.Ok := ⟨by decide, by decide, by decide, by decide, fun x hx => absurd hx (by simp [evenP])⟩
theorem evenRight : rightB evenP = true := by decide
theorem evenVest : vestL evenP 13 = [⟨0, Num.of 1⟩] := by decide
def sixP : Pln := ⟨6, 0, 0, [], []⟩
theorem sixOk : sixP.Ok := ⟨by decide, by decide, by decide, by decide, fun x hx => absurd hx (by simp [sixP])⟩
theorem nilAgg {k : Int} : WkL [.agg [.v (.int .u8 k), .v (.int .u64 0), .v (.int .u64 0), .sl 0 [] 0 .full, .sl 0 [] 0 .full]] [.agg [.v (.int .u8 k), .v (.int .u64 0), .v (.int .u64 0), .sl 5 [] 0 .shut, .sl 2 [] 0 .shut]] :=
  .cons (WkL.agg (.cons (Wk.refl _) (.cons (Wk.refl _) (.cons (Wk.refl _) (.cons (Wk.nil _ _ _) (.cons (Wk.nil _ _ _) .nil)))))) .nil
theorem plrightZ_ok {σ : St} : CallsA Try.prog 18 [.agg [.v (.int .u8 0), .v (.int .u64 0), .v (.int .u64 0), .sl 0 [] 0 .full, .sl 0 [] 0 .full]] σ (fun av σ' => av = .v (.bool true) ∧ σ = σ') := by
  have h := plright_ok (σ := σ) okZero
  rw [show rightB ⟨0, 0, 0, [], []⟩ = true by decide] at h
  exact callsA_wk nilAgg h
theorem plrightS_ok {σ : St} : CallsA Try.prog 18 [.agg [.v (.int .u8 6), .v (.int .u64 0), .v (.int .u64 0), .sl 0 [] 0 .full, .sl 0 [] 0 .full]] σ (fun av σ' => av = .v (.bool false) ∧ σ = σ') := by
  have h := plright_ok (σ := σ) sixOk
  rw [show rightB sixP = false by decide] at h
  exact callsA_wk nilAgg h
theorem evenAgg {tl : Tail} : WkL [.agg [.v (.int .u8 1), .v (.int .u64 10), .v (.int .u64 20), .sl 5 [.v (.int .u8 0), .v (.int .u64 5), .v (.int .u64 0), .v (.int .u64 0), .v (.int .u64 0)] 1 tl, .sl 0 [] 0 .full]] [.agg (plnC evenP)] :=
  .cons (WkL.agg (.cons (Wk.refl _) (.cons (Wk.refl _) (.cons (Wk.refl _) (.cons (Wk.shut _ _ _ _) (.cons (Wk.nil _ _ _) .nil)))))) .nil
theorem plrightE_ok {σ : St} {tl : Tail} : CallsA Try.prog 18 [.agg [.v (.int .u8 1), .v (.int .u64 10), .v (.int .u64 20), .sl 5 [.v (.int .u8 0), .v (.int .u64 5), .v (.int .u64 0), .v (.int .u64 0), .v (.int .u64 0)] 1 tl, .sl 0 [] 0 .full]] σ (fun av σ' => av = .v (.bool true) ∧ σ = σ') := by
  have h := plright_ok (σ := σ) evenOk
  rw [evenRight] at h
  exact callsA_wk evenAgg h
theorem pvestedE_ok {σ : St} {tl : Tail} : CallsA Try.prog 23 [.agg [.v (.int .u8 1), .v (.int .u64 10), .v (.int .u64 20), .sl 5 [.v (.int .u8 0), .v (.int .u64 5), .v (.int .u64 0), .v (.int .u64 0), .v (.int .u64 0)] 1 tl, .sl 0 [] 0 .full], .v (.int .u64 13)] σ (fun av σ' => av = .sl 5 [.v (.int .u8 0), .v (.int .u64 1), .v (.int .u64 0), .v (.int .u64 0), .v (.int .u64 0)] 1 .shut ∧ σ = σ') := by
  have h := pvested_ok (σ := σ) (t := 13) evenOk (by decide) (by decide) (by decide)
  rw [evenVest] at h
  refine callsA_wk (bs := [.agg (plnC evenP), .v (.int .u64 13)]) ?_ h
  exact .cons (WkL.agg (.cons (Wk.refl _) (.cons (Wk.refl _) (.cons (Wk.refl _) (.cons (Wk.shut _ _ _ _) (.cons (Wk.nil _ _ _) .nil)))))) (.cons (Wk.refl _) .nil)

set_option maxHeartbeats 1600000 in
attribute [local simp] undefA List.getElem?_cons_zero List.getElem?_cons_succ in
theorem even_ok {σ : St} : CallsA Try.prog 17 [] σ (fun av σ' => av = .v (.bool true) ∧ σ = σ') := by
  refine callsA_gcS ?_ rfl
  have hdr : ∀ f : Nat → AV, List.drop 5 (List.map f (List.range 5)) = [] := fun _ => rfl
  have heq : cellsEqA [.v (.int .u64 1), .v (.int .u64 0), .v (.int .u64 0), .v (.int .u64 0)] [.v (.int .u64 1), .v (.int .u64 0), .v (.int .u64 0), .v (.int .u64 0)] = true := by decide
  have F := And.intro hdr (And.intro heq (True.intro))
  refine callsA_body Try.func17 rfl rfl rfl ?_
  refine sq fun K1 hK1 => ?_
  refine rg' (h := fun J2 hJ2 => ?_)
  refine hJ2 _ _ ?_
  refine hK1 _ _ ?_
  refine sq fun K3 hK3 => ?_
  refine rg' (h := fun J4 hJ4 => ?_)
  refine hJ4 _ _ ?_
  refine hK3 _ _ ?_
  refine sq fun K5 hK5 => ?_
  refine rg' (h := fun J6 hJ6 => ?_)
  refine ca (c := pvestedE_ok) (k := ?_)
  rintro _ _ ⟨rfl, rfl⟩
  repeat (first | simp [F] | simp (disch := omega) only [wC, if_pos, if_neg])
  refine hJ6 _ _ ?_
  refine hK5 _ _ ?_
  refine sq fun K7 hK7 => ?_
  refine rg' (h := fun J8 hJ8 => ?_)
  refine ca (c := plrightE_ok) (k := ?_)
  rintro _ _ ⟨rfl, rfl⟩
  repeat (first | simp [F] | simp (disch := omega) only [wC, if_pos, if_neg])
  refine gs 11 (fun g3_2 => ?_) (fun g3_2 => ?_)
  · try exact nope g3_2
    all_goals have g3_2p := g3_2
    all_goals try simp [F] at g3_2p
    all_goals
     replace F := And.intro g3_2 F
     try replace F := And.intro g3_2p F
     refine go2 (k := ?_)
     refine go2 (k := ?_)
     refine go2 (k := ?_)
     refine gs 16 (fun g3_7 => ?_) (fun g3_7 => ?_)
     · try exact nope g3_7
       all_goals have g3_7p := g3_7
       all_goals try simp [F] at g3_7p
       all_goals
        replace F := And.intro g3_7 F
        try replace F := And.intro g3_7p F
        refine go2 (k := ?_)
        refine go2 (k := ?_)
        refine go2 (k := ?_)
        refine go2 (k := ?_)
        refine go2 (k := ?_)
        refine go2 (k := ?_)
        refine gs 24 (fun g3_15 => ?_) (fun g3_15 => ?_)
        · try exact nope g3_15
          all_goals have g3_15p := g3_15
          all_goals try simp [F] at g3_15p
          all_goals
           replace F := And.intro g3_15 F
           try replace F := And.intro g3_15p F
           refine go2 (k := ?_)
           refine ca (c := plrightZ_ok) (k := ?_)
           rintro _ _ ⟨rfl, rfl⟩
           repeat (first | simp [F] | simp (disch := omega) only [wC, if_pos, if_neg])
           refine gs 28 (fun g3_19 => ?_) (fun g3_19 => ?_)
           · try exact nope g3_19
             all_goals have g3_19p := g3_19
             all_goals try simp [F] at g3_19p
             all_goals
              replace F := And.intro g3_19 F
              try replace F := And.intro g3_19p F
              refine go2 (k := ?_)
              refine ca (c := plrightS_ok) (k := ?_)
              rintro _ _ ⟨rfl, rfl⟩
              repeat (first | simp [F] | simp (disch := omega) only [wC, if_pos, if_neg])
              refine go2 (k := ?_)
              refine hJ8 _ _ ?_
              refine hK7 _ _ ?_
              refine run_ret ?_
              try simp only [Then, InBlock, NoGoto]
              refine answer_tmp rfl (.inr rfl) ?_
              exact gcr
           try exact nope g3_19
           all_goals have g3_19p := g3_19
           all_goals try simp [F] at g3_19p
           all_goals
            replace F := And.intro g3_19 F
            try replace F := And.intro g3_19p F
            refine no2 (k := ?_)
            refine no2 (k := ?_)
            refine no2 (k := ?_)
            refine hJ8 _ _ ?_
            refine hK7 _ _ ?_
            refine run_ret ?_
            try simp only [Then, InBlock, NoGoto]
            refine answer_tmp rfl (.inr rfl) ?_
            exact gcr
        try exact nope g3_15
        all_goals have g3_15p := g3_15
        all_goals try simp [F] at g3_15p
        all_goals
         replace F := And.intro g3_15 F
         try replace F := And.intro g3_15p F
         refine no2 (k := ?_)
         refine no2 (k := ?_)
         refine no2 (k := ?_)
         refine no2 (k := ?_)
         refine no2 (k := ?_)
         refine hJ8 _ _ ?_
         refine hK7 _ _ ?_
         refine run_ret ?_
         try simp only [Then, InBlock, NoGoto]
         refine answer_tmp rfl (.inr rfl) ?_
         exact gcr
     try exact nope g3_7
     all_goals have g3_7p := g3_7
     all_goals try simp [F] at g3_7p
     all_goals
      replace F := And.intro g3_7 F
      try replace F := And.intro g3_7p F
      refine no2 (k := ?_)
      refine no2 (k := ?_)
      refine no2 (k := ?_)
      refine no2 (k := ?_)
      refine no2 (k := ?_)
      refine no2 (k := ?_)
      refine no2 (k := ?_)
      refine no2 (k := ?_)
      refine no2 (k := ?_)
      refine no2 (k := ?_)
      refine no2 (k := ?_)
      refine hJ8 _ _ ?_
      refine hK7 _ _ ?_
      refine run_ret ?_
      try simp only [Then, InBlock, NoGoto]
      refine answer_tmp rfl (.inr rfl) ?_
      exact gcr
  try exact nope g3_2
  all_goals have g3_2p := g3_2
  all_goals try simp [F] at g3_2p
  all_goals
   replace F := And.intro g3_2 F
   try replace F := And.intro g3_2p F
   refine no2 (k := ?_)
   refine no2 (k := ?_)
   refine no2 (k := ?_)
   refine no2 (k := ?_)
   refine no2 (k := ?_)
   refine no2 (k := ?_)
   refine no2 (k := ?_)
   refine no2 (k := ?_)
   refine no2 (k := ?_)
   refine no2 (k := ?_)
   refine no2 (k := ?_)
   refine no2 (k := ?_)
   refine no2 (k := ?_)
   refine no2 (k := ?_)
   refine hJ8 _ _ ?_
   refine hK7 _ _ ?_
   refine run_ret ?_
   try simp only [Then, InBlock, NoGoto]
   refine answer_tmp rfl (.inr rfl) ?_
   exact gcr

end Go.Proofs.Ytdbaddholggkbaa

/-
  The law on right plans..
-/
namespace Go.Proofs.Ytdbaddholggkbaa
set_option linter.unnecessarySimpa false
set_option maxRecDepth 100000
open Go Go.Vm
set_option linter.unusedSimpArgs false
set_option linter.unusedVariables false

attribute [local simp] evalL wantedA isCall opA evalA evalAll evalsA evalOpt ofValue ofCell plain binA_eql_pn binA_neq_pn binA_gtr binA_lss binA_geq binA_leq binA_add binA_sub binA_eql binA_neq binA_orI binA_andI binA_shl binA_shr binA_mul binA_quo binA_rem binA_agg_eql binA_agg_neq convA_int unA_not fieldAddrA loadA partA pickA_true pickA_false pickA_bb lenA builtinA storeA splice AV.cells AV.isCell sliceA boundA intA callOf indexAddrA newObjA buildA fillA zeroA ofCells buildSliceA indexA fieldA numA_len4 numA_take4 numA_drop4 set_appN get_appN take_appN List.getElem?_cons_zero List.getElem?_cons_succ makeA zeros64

set_option maxHeartbeats 1600000 in
attribute [local simp] undefA List.getElem?_cons_zero List.getElem?_cons_succ plnC in
theorem planRights_ok {σ : St} {p : Pln} (hp : p.Ok) :
    CallsA Try.prog 3 [.agg (plnC p)] σ (fun av σ' => av = .v (.bool true) ∧ σ = σ') := by
  refine callsA_gcS ?_ rfl
  have hp0 := hp
  obtain ⟨pk, ps, pe, pt, pp⟩ := p
  obtain ⟨k1, k2, k3, k4, h5⟩ := hp
  obtain ⟨b, hb⟩ : ∃ b, b = rightB ⟨pk, ps, pe, pt, pp⟩ := ⟨_, rfl⟩
  have F := True.intro
  refine callsA_body Try.func3 rfl rfl rfl ?_
  refine sq fun K1 hK1 => ?_
  refine rg' (h := fun J2 hJ2 => ?_)
  refine hJ2 _ _ ?_
  refine hK1 _ _ ?_
  refine sq fun K3 hK3 => ?_
  refine sq fun K4 hK4 => ?_
  refine rg' (h := fun J5 hJ5 => ?_)
  refine gs 7 (fun g1_4 => ?_) (fun g1_4 => ?_)
  · try exact nope g1_4
    all_goals have g1_4p := g1_4
    all_goals try simp [F] at g1_4p
    all_goals
     replace F := And.intro g1_4 F
     try replace F := And.intro g1_4p F
     refine no2 (k := ?_)
     refine no2 (k := ?_)
     refine no2 (k := ?_)
     refine no2 (k := ?_)
     refine hJ5 _ _ ?_
     refine hK4 _ _ ?_
     refine ct ?_
     refine sq fun K6 hK6 => ?_
     refine rg' (h := fun J7 hJ7 => ?_)
     refine ca (c := even_ok) (k := ?_)
     rintro _ _ ⟨rfl, rfl⟩
     repeat (first | simp [F] | simp (disch := omega) only [wC, if_pos, if_neg])
     refine hJ7 _ _ ?_
     refine hK6 _ _ ?_
     refine run_ret ?_
     try simp only [Then, InBlock, NoGoto]
     refine answer_tmp rfl (.inr rfl) ?_
     exact gcr
  try exact nope g1_4
  all_goals have g1_4p := g1_4
  all_goals try simp [F] at g1_4p
  all_goals
   replace F := And.intro g1_4 F
   try replace F := And.intro g1_4p F
   refine go2 (k := ?_)
   refine go2 (k := ?_)
   refine go2 (k := ?_)
   refine go2 (k := ?_)
   refine hJ5 _ _ ?_
   refine hK4 _ _ ?_
   refine cs (fun c12 => ?_) (fun c12 => ?_)
   · try exact nope c12
     all_goals have c12p := c12
     all_goals try simp [F] at c12p
     all_goals
      replace F := And.intro c12 F
      try replace F := And.intro c12p F
      refine sq fun K8 hK8 => ?_
      refine rg' (h := fun J9 hJ9 => ?_)
      refine ca (c := even_ok) (k := ?_)
      rintro _ _ ⟨rfl, rfl⟩
      repeat (first | simp [F] | simp (disch := omega) only [wC, if_pos, if_neg])
      refine hJ9 _ _ ?_
      refine hK8 _ _ ?_
      refine run_ret ?_
      try simp only [Then, InBlock, NoGoto]
      refine answer_tmp rfl (.inr rfl) ?_
      exact gcr
   try exact nope c12
   all_goals have c12p := c12
   all_goals try simp [F] at c12p
   all_goals
    replace F := And.intro c12 F
    try replace F := And.intro c12p F
    refine run_skip ?_
    refine hK3 _ _ ?_
    refine sq fun K10 hK10 => ?_
    refine run_draw (by kernel_rfl) fun J11 hJ11 => ?_
    refine dc 0 rfl (c := even_ok) (k := ?_)
    rintro _ _ ⟨rfl, rfl⟩
    refine ⟨ln, ?_⟩
    repeat (first | simp [F] | simp (disch := omega) only [wC, if_pos, if_neg])
    refine rp2 1 (k := ?_)
    refine gd 15 (fun g3_1 => ?_) (fun g3_1 => ?_)
    · try exact nope g3_1
      all_goals have g3_1p := g3_1
      all_goals try simp [F] at g3_1p
      all_goals
       replace F := And.intro g3_1 F
       try replace F := And.intro g3_1p F
       refine rp2 2 (k := ?_)
       refine rp2 4 (k := ?_)
       refine dc 3 rfl (c := (hb ▸ plright_ok hp0)) (k := ?_)
       rintro _ _ ⟨rfl, rfl⟩
       refine ⟨by first | exact fun _ _ h => h | (refine later_list [4] (by kernel_rfl) (List.forall_mem_cons.2 ⟨fun _ => fact2 rfl rfl ?_, fun _ h => absurd h List.not_mem_nil⟩) <;> constructor <;> first | rfl | (simp [F]; done)), ?_⟩
       repeat (first | simp [F] | simp (disch := omega) only [wC, if_pos, if_neg])
       refine dc 5 rfl (c := (hb ▸ rpright_ok hp0)) (k := ?_)
       rintro _ _ ⟨rfl, rfl⟩
       refine ⟨ln, ?_⟩
       repeat (first | simp [F] | simp (disch := omega) only [wC, if_pos, if_neg])
       refine rp2 6 (k := ?_)
       refine rp2 7 (k := ?_)
       refine rp2 8 (k := ?_)
       refine dd ?_
       refine hJ11 _ _ ?_
       refine hK10 _ _ ?_
       refine run_ret ?_
       try simp only [Then, InBlock, NoGoto]
       refine answer_tmp rfl (.inr rfl) ?_
       exact gcr
    try exact nope g3_1
    all_goals have g3_1p := g3_1
    all_goals try simp [F] at g3_1p
    all_goals
     replace F := And.intro g3_1 F
     try replace F := And.intro g3_1p F
     refine rp2 2 (k := ?_)
     refine rp2 4 (k := ?_)
     refine dop 3 rfl ?_
     repeat (first | simp [F] | simp (disch := omega) only [wC, if_pos, if_neg])
     refine dop 5 rfl ?_
     repeat (first | simp [F] | simp (disch := omega) only [wC, if_pos, if_neg])
     refine rp2 6 (k := ?_)
     refine rp2 7 (k := ?_)
     refine rp2 8 (k := ?_)
     refine dd ?_
     refine hJ11 _ _ ?_
     refine hK10 _ _ ?_
     refine run_ret ?_
     try simp only [Then, InBlock, NoGoto]
     refine answer_tmp rfl (.inr rfl) ?_
     exact gcr

end Go.Proofs.Ytdbaddholggkbaa
