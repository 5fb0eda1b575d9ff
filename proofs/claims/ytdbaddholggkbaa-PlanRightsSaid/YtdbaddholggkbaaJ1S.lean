import Derived.Test.YtdbaddholggkbaaVmU
import Derived.Test.YtdbaddholggkbaaI1S
import Derived.Test.YtdbaddholggkbaaVmMS
/-
  The same plans..
-/
namespace Go.Proofs.Ytdbaddholggkbaa
set_option linter.unnecessarySimpa false
set_option maxRecDepth 100000
open Go Go.Vm
set_option linter.unusedSimpArgs false
set_option linter.unusedVariables false

attribute [local simp] evalL wantedA isCall opA evalA evalAll evalsA evalOpt ofValue ofCell plain binA_eql_pn binA_neq_pn binA_gtr binA_lss binA_geq binA_leq binA_add binA_sub binA_eql binA_neq binA_orI binA_andI binA_shl binA_shr binA_mul binA_quo binA_rem binA_agg_eql binA_agg_neq convA_int unA_not fieldAddrA loadA partA pickA_true pickA_false pickA_bb lenA builtinA storeA splice AV.cells AV.isCell sliceA boundA intA callOf indexAddrA newObjA buildA fillA zeroA ofCells buildSliceA indexA fieldA numA_len4 numA_take4 numA_drop4 set_appN get_appN take_appN List.getElem?_cons_zero List.getElem?_cons_succ makeA zeros64

set_option maxHeartbeats 1600000 in
attribute [local simp] undefA List.getElem?_cons_zero List.getElem?_cons_succ in
theorem psame1_ok {σ : St} {x y : Per} (hx : x.c.length ≤ 9223372036854775807) (hy : y.c.length ≤ 9223372036854775807) :
    CallsA Try.prog 94 [.agg (perC x), .agg (perC y)] σ (fun av σ' => av = .v (.bool (decide (x = y))) ∧ σ = σ') := by
  refine callsA_gcS ?_ rfl
  obtain ⟨l, c⟩ := x
  obtain ⟨l2, c2⟩ := y
  simp only [Per.mk.injEq, perC, Bool.decide_and]
  have F := True.intro
  refine callsA_body Try.func94 rfl rfl rfl ?_
  refine sq fun K1 hK1 => ?_
  refine rg' (h := fun J2 hJ2 => ?_)
  refine hJ2 _ _ ?_
  refine hK1 _ _ ?_
  refine sq fun K3 hK3 => ?_
  refine rg' (h := fun J4 hJ4 => ?_)
  refine gs 10 (fun g1_5 => ?_) (fun g1_5 => ?_)
  · try exact nope g1_5
    all_goals have g1_5p := g1_5
    all_goals try simp [F] at g1_5p
    all_goals
     replace F := And.intro g1_5 F
     try replace F := And.intro g1_5p F
     have hl : l = l2 := by have h := g1_5; simp at h; omega
     replace F := And.intro hl F
     refine go2 (k := ?_)
     refine go2 (k := ?_)
     refine go2 (k := ?_)
     refine go2 (k := ?_)
     refine ca (c := csame_ok hx hy) (k := ?_)
     rintro _ _ ⟨rfl, rfl⟩
     repeat (first | simp [F] | simp (disch := omega) only [wC, if_pos, if_neg])
     refine hJ4 _ _ ?_
     refine hK3 _ _ ?_
     refine run_ret ?_
     try simp only [Then, InBlock, NoGoto]
     refine answer_tmp rfl (.inr rfl) ?_
     exact gcr
  try exact nope g1_5
  all_goals have g1_5p := g1_5
  all_goals try simp [F] at g1_5p
  all_goals
   replace F := And.intro g1_5 F
   try replace F := And.intro g1_5p F
   have hl : ¬ l = l2 := by have h := g1_5; simp at h; omega
   replace F := And.intro hl F
   refine no2 (k := ?_)
   refine no2 (k := ?_)
   refine no2 (k := ?_)
   refine no2 (k := ?_)
   refine no2 (k := ?_)
   refine hJ4 _ _ ?_
   refine hK3 _ _ ?_
   refine run_ret ?_
   try simp only [Then, InBlock, NoGoto]
   refine answer_tmp rfl (.inr rfl) ?_
   exact gcr

set_option maxHeartbeats 1600000 in
attribute [local simp] undefA List.getElem?_cons_zero List.getElem?_cons_succ perC persC_noObj in
theorem pequal_ok {σ : St} {a b : List Per} {ta tb : Tail} (hla : a.length ≤ 9223372036854775807) (hlb : b.length ≤ 9223372036854775807) (ha : ∀ x ∈ a, x.c.length ≤ 9223372036854775807) (hb : ∀ x ∈ b, x.c.length ≤ 9223372036854775807) :
    CallsA Try.prog 93 [.sl 2 (persC a) a.length ta, .sl 2 (persC b) b.length tb, .fn 94 []] σ (fun av σ' => av = .v (.bool (decide (a = b))) ∧ σ = σ') := by
  refine callsA_gcS ?_ rfl
  have F := True.intro
  refine callsA_body Try.func93 rfl rfl rfl ?_
  refine sq fun K1 hK1 => ?_
  refine rg' (h := fun J2 hJ2 => ?_)
  refine hJ2 _ _ ?_
  refine hK1 _ _ ?_
  refine sq fun K3 hK3 => ?_
  refine sq fun K4 hK4 => ?_
  refine rg' (h := fun J5 hJ5 => ?_)
  refine hJ5 _ _ ?_
  refine hK4 _ _ ?_
  refine cs (fun c14 => ?_) (fun c14 => ?_)
  · try exact nope c14
    all_goals have c14p := c14
    all_goals try simp [F] at c14p
    all_goals
     replace F := And.intro c14 F
     try replace F := And.intro c14p F
     have hne : ¬ a = b := fun e => by subst e; simp at c14
     replace F := And.intro hne F
     refine sq fun K6 hK6 => ?_
     refine rg' (h := fun J7 hJ7 => ?_)
     refine hJ7 _ _ ?_
     refine hK6 _ _ ?_
     refine run_ret ?_
     try simp only [Then, InBlock, NoGoto]
     refine answer_tmp rfl (.inr rfl) ?_
     exact gcr
  try exact nope c14
  all_goals have c14p := c14
  all_goals try simp [F] at c14p
  all_goals
   replace F := And.intro c14 F
   try replace F := And.intro c14p F
   refine run_skip ?_
   refine hK3 _ _ ?_
   refine sq fun K8 hK8 => ?_
   refine sq fun K9 hK9 => ?_
   have hlen : a.length = b.length := by have h := c14; simp at h; omega
   refine rg' (h := fun J10 hJ10 => ?_)
   refine hJ10 _ _ ?_
   refine hK9 _ _ ?_
   refine run_block_k ?_
   refine run_loopG (X := Nat) [1, 2, 15, 16] (fun i ρ σ1 => (i ≤ a.length) ∧ (a.take i = b.take i) ∧ (ρ 17 = .v (.int .i64 i)) ∧ (σ1 = σ)) (fun i => a.length - i) (0) ?st1 ?rd1
   case st1 =>
    refine ⟨lp, ?_, lp, ?_⟩
    · rfl
    · rfl
   case rd1 =>
    rintro i ρ1 σ1 hF1 ⟨hi, hE, h13, hσ⟩
    obtain rfl := hσ.symm
    have f1 := keepL hF1
    try simp [KeepL, F] at f1
    replace F := And.intro h13 F
    try replace F := And.intro f1 F
    refine sq fun K11 hK11 => ?_
    refine rg' (h := fun J12 hJ12 => ?_)
    refine hJ12 _ _ ?_
    refine hK11 _ _ ?_
    refine sq fun K13 hK13 => ?_
    refine cs (fun c18 => ?_) (fun c18 => ?_)
    · try exact nope c18
      all_goals have c18p := c18
      all_goals try simp [F] at c18p
      all_goals
       replace F := And.intro c18 F
       try replace F := And.intro c18p F
       refine run_skip ?_
       refine hK13 _ _ ?_
       refine sq fun K14 hK14 => ?_
       refine run_block_k ?_
       refine sq fun K15 hK15 => ?_
       have hlt : i < a.length := by simp at c18; omega
       have hltb : i < b.length := by omega
       have hat := persC_at hlt
       have hatb := persC_at hltb
       have hb1 : i * 2 + 2 ≤ a.length * 2 := by omega
       have hb2 : i * 2 + 2 ≤ b.length * 2 := by omega
       obtain ⟨x, hx⟩ : ∃ x, x = a[i] := ⟨_, rfl⟩
       obtain ⟨y, hy⟩ : ∃ y, y = b[i] := ⟨_, rfl⟩
       rw [← hx] at hat
       rw [← hy] at hatb
       have hta : a.take (i + 1) = a.take i ++ [x] := by rw [hx]; exact (List.take_append_getElem hlt).symm
       have htb : b.take (i + 1) = b.take i ++ [y] := by rw [hy]; exact (List.take_append_getElem hltb).symm
       have hxl := ha x (by rw [hx]; exact List.getElem_mem _)
       have hyl := hb y (by rw [hy]; exact List.getElem_mem _)
       replace F := And.intro hlt F
       replace F := And.intro hltb F
       replace F := And.intro hat F
       replace F := And.intro hatb F
       replace F := And.intro hb1 F
       replace F := And.intro hb2 F
       refine rg' (h := fun J16 hJ16 => ?_)
       refine hJ16 _ _ ?_
       refine hK15 _ _ ?_
       refine sq fun K17 hK17 => ?_
       refine rg' (h := fun J18 hJ18 => ?_)
       refine hJ18 _ _ ?_
       refine hK17 _ _ ?_
       refine sq fun K19 hK19 => ?_
       refine rg' (h := fun J20 hJ20 => ?_)
       refine ca (c := (psame1_ok (x := x) (y := y) hxl hyl)) (k := ?_)
       rintro _ _ ⟨rfl, rfl⟩
       repeat (first | simp [F] | simp (disch := omega) only [wC, if_pos, if_neg])
       refine hJ20 _ _ ?_
       refine hK19 _ _ ?_
       refine cs (fun c30 => ?_) (fun c30 => ?_)
       · try exact nope c30
         all_goals have c30p := c30
         all_goals try simp [F] at c30p
         all_goals
          replace F := And.intro c30 F
          try replace F := And.intro c30p F
          have hne : ¬ a = b := fun e => by subst e; rw [← hx] at hy; subst hy; simp at c30
          replace F := And.intro hne F
          refine sq fun K21 hK21 => ?_
          refine rg' (h := fun J22 hJ22 => ?_)
          refine hJ22 _ _ ?_
          refine hK21 _ _ ?_
          refine run_ret ?_
          try simp only [Then, InBlock, NoGoto]
          refine answer_tmp rfl (.inr rfl) ?_
          exact gcr
       try exact nope c30
       all_goals have c30p := c30
       all_goals try simp [F] at c30p
       all_goals
        replace F := And.intro c30 F
        try replace F := And.intro c30p F
        have hxy : x = y := by simpa using c30
        refine run_skip ?_
        refine hK14 _ _ ?_
        refine rg' (h := fun J23 hJ23 => ?_)
        refine hJ23 _ _ ?_
        refine ⟨gk, (i + 1), ⟨kpG, lpG, ?_, lpG, lpG⟩, lpG⟩
        · rw [hta, htb, hE, hxy]
    try exact nope c18
    all_goals have c18p := c18
    all_goals try simp [F] at c18p
    all_goals
     replace F := And.intro c18 F
     try replace F := And.intro c18p F
     have he : a = b := by have h := c18; simp at h; rw [List.take_of_length_le (by omega), List.take_of_length_le (by omega)] at hE; exact hE
     replace F := And.intro he F
     refine run_exit ?_
     refine hK8 _ _ ?_
     refine sq fun K24 hK24 => ?_
     refine rg' (h := fun J25 hJ25 => ?_)
     refine hJ25 _ _ ?_
     refine hK24 _ _ ?_
     refine run_ret ?_
     try simp only [Then, InBlock, NoGoto]
     refine answer_tmp rfl (.inr rfl) ?_
     exact gcr

end Go.Proofs.Ytdbaddholggkbaa

/-
  Right plans..
-/
namespace Go.Proofs.Ytdbaddholggkbaa
set_option linter.unnecessarySimpa false
set_option maxRecDepth 100000
open Go Go.Vm
set_option linter.unusedSimpArgs false
set_option linter.unusedVariables false

attribute [local simp] evalL wantedA isCall opA evalA evalAll evalsA evalOpt ofValue ofCell plain binA_eql_pn binA_neq_pn binA_gtr binA_lss binA_geq binA_leq binA_add binA_sub binA_eql binA_neq binA_orI binA_andI binA_shl binA_shr binA_mul binA_quo binA_rem binA_agg_eql binA_agg_neq convA_int unA_not fieldAddrA loadA partA pickA_true pickA_false pickA_bb lenA builtinA storeA splice AV.cells AV.isCell sliceA boundA intA callOf indexAddrA newObjA buildA fillA zeroA ofCells buildSliceA indexA fieldA numA_len4 numA_take4 numA_drop4 set_appN get_appN take_appN List.getElem?_cons_zero List.getElem?_cons_succ makeA zeros64

set_option maxHeartbeats 1600000 in
attribute [local simp] undefA List.getElem?_cons_zero List.getElem?_cons_succ in
theorem plsame_ok {σ : St} {a b : Pln} (ha : a.Ok) (hb : b.Ok) :
    CallsA Try.prog 47 [.agg (plnC a), .agg (plnC b)] σ (fun av σ' => av = .v (.bool (decide (a = b))) ∧ σ = σ') := by
  refine callsA_gcS ?_ rfl
  obtain ⟨ak, a1, a2, a3, a4⟩ := a
  obtain ⟨bk, b1, b2, b3, b4⟩ := b
  obtain ⟨ha1, ha2, ha3, ha4, ha5⟩ := ha
  obtain ⟨hb1, hb2, hb3, hb4, hb5⟩ := hb
  simp only [Pln.mk.injEq, plnC, Bool.decide_and] at *
  have F := True.intro
  refine callsA_body Try.func47 rfl rfl rfl ?_
  refine sq fun K1 hK1 => ?_
  refine rg' (h := fun J2 hJ2 => ?_)
  refine hJ2 _ _ ?_
  refine hK1 _ _ ?_
  refine sq fun K3 hK3 => ?_
  refine rg' (h := fun J4 hJ4 => ?_)
  refine gs 10 (fun g1_5 => ?_) (fun g1_5 => ?_)
  · try exact nope g1_5
    all_goals have g1_5p := g1_5
    all_goals try simp [F] at g1_5p
    all_goals
     replace F := And.intro g1_5 F
     try replace F := And.intro g1_5p F
     have hl1 : ak = bk := by have h := g1_5; simp at h; exact UInt8.toNat_inj.1 (by omega)
     replace F := And.intro hl1 F
     refine go2 (k := ?_)
     refine go2 (k := ?_)
     refine go2 (k := ?_)
     refine go2 (k := ?_)
     refine go2 (k := ?_)
     refine gs 17 (fun g1_12 => ?_) (fun g1_12 => ?_)
     · try exact nope g1_12
       all_goals have g1_12p := g1_12
       all_goals try simp [F] at g1_12p
       all_goals
        replace F := And.intro g1_12 F
        try replace F := And.intro g1_12p F
        have hl2 : a1 = b1 := by have h := g1_12; simp at h; omega
        replace F := And.intro hl2 F
        refine go2 (k := ?_)
        refine go2 (k := ?_)
        refine go2 (k := ?_)
        refine go2 (k := ?_)
        refine go2 (k := ?_)
        refine gs 24 (fun g1_19 => ?_) (fun g1_19 => ?_)
        · try exact nope g1_19
          all_goals have g1_19p := g1_19
          all_goals try simp [F] at g1_19p
          all_goals
           replace F := And.intro g1_19 F
           try replace F := And.intro g1_19p F
           have hl3 : a2 = b2 := by have h := g1_19; simp at h; omega
           replace F := And.intro hl3 F
           refine go2 (k := ?_)
           refine go2 (k := ?_)
           refine go2 (k := ?_)
           refine go2 (k := ?_)
           refine ca (c := csame_ok ha3 hb3) (k := ?_)
           rintro _ _ ⟨rfl, rfl⟩
           repeat (first | simp [F] | simp (disch := omega) only [wC, if_pos, if_neg])
           refine gs 31 (fun g1_26 => ?_) (fun g1_26 => ?_)
           · try exact nope g1_26
             all_goals have g1_26p := g1_26
             all_goals try simp [F] at g1_26p
             all_goals
              replace F := And.intro g1_26 F
              try replace F := And.intro g1_26p F
              refine go2 (k := ?_)
              refine go2 (k := ?_)
              refine go2 (k := ?_)
              refine go2 (k := ?_)
              refine ca (c := pequal_ok ha4 hb4 (fun x hx ↦ (ha5 x hx).2) (fun x hx ↦ (hb5 x hx).2)) (k := ?_)
              rintro _ _ ⟨rfl, rfl⟩
              repeat (first | simp [F] | simp (disch := omega) only [wC, if_pos, if_neg])
              refine hJ4 _ _ ?_
              refine hK3 _ _ ?_
              refine run_ret ?_
              try simp only [Then, InBlock, NoGoto]
              refine answer_tmp rfl (.inr rfl) ?_
              exact gcr
           try exact nope g1_26
           all_goals have g1_26p := g1_26
           all_goals try simp [F] at g1_26p
           all_goals
            replace F := And.intro g1_26 F
            try replace F := And.intro g1_26p F
            refine no2 (k := ?_)
            refine no2 (k := ?_)
            refine no2 (k := ?_)
            refine no2 (k := ?_)
            refine no2 (k := ?_)
            refine hJ4 _ _ ?_
            refine hK3 _ _ ?_
            refine run_ret ?_
            try simp only [Then, InBlock, NoGoto]
            refine answer_tmp rfl (.inr rfl) ?_
            exact gcr
        try exact nope g1_19
        all_goals have g1_19p := g1_19
        all_goals try simp [F] at g1_19p
        all_goals
         replace F := And.intro g1_19 F
         try replace F := And.intro g1_19p F
         have hl3 : ¬ a2 = b2 := by have h := g1_19; simp at h; omega
         replace F := And.intro hl3 F
         refine no2 (k := ?_)
         refine no2 (k := ?_)
         refine no2 (k := ?_)
         refine no2 (k := ?_)
         refine no2 (k := ?_)
         refine no2 (k := ?_)
         refine no2 (k := ?_)
         refine no2 (k := ?_)
         refine no2 (k := ?_)
         refine no2 (k := ?_)
         refine hJ4 _ _ ?_
         refine hK3 _ _ ?_
         refine run_ret ?_
         try simp only [Then, InBlock, NoGoto]
         refine answer_tmp rfl (.inr rfl) ?_
         exact gcr
     try exact nope g1_12
     all_goals have g1_12p := g1_12
     all_goals try simp [F] at g1_12p
     all_goals
      replace F := And.intro g1_12 F
      try replace F := And.intro g1_12p F
      have hl2 : ¬ a1 = b1 := by have h := g1_12; simp at h; omega
      replace F := And.intro hl2 F
      refine no2 (k := ?_)
      refine no2 (k := ?_)
      refine no2 (k := ?_)
      refine no2 (k := ?_)
      refine no2 (k := ?_)
      refine no2 (k := ?_)
      refine no2 (k := ?_)
      refine no2 (k := ?_)
      refine no2 (k := ?_)
      refine no2 (k := ?_)
      refine no2 (k := ?_)
      refine no2 (k := ?_)
      refine no2 (k := ?_)
      refine no2 (k := ?_)
      refine no2 (k := ?_)
      refine hJ4 _ _ ?_
      refine hK3 _ _ ?_
      refine run_ret ?_
      try simp only [Then, InBlock, NoGoto]
      refine answer_tmp rfl (.inr rfl) ?_
      exact gcr
  try exact nope g1_5
  all_goals have g1_5p := g1_5
  all_goals try simp [F] at g1_5p
  all_goals
   replace F := And.intro g1_5 F
   try replace F := And.intro g1_5p F
   have hl1 : ¬ ak = bk := by have h := g1_5; simp at h; intro e; subst e; exact h rfl
   replace F := And.intro hl1 F
   refine no2 (k := ?_)
   refine no2 (k := ?_)
   refine no2 (k := ?_)
   refine no2 (k := ?_)
   refine no2 (k := ?_)
   refine no2 (k := ?_)
   refine no2 (k := ?_)
   refine no2 (k := ?_)
   refine no2 (k := ?_)
   refine no2 (k := ?_)
   refine no2 (k := ?_)
   refine no2 (k := ?_)
   refine no2 (k := ?_)
   refine no2 (k := ?_)
   refine no2 (k := ?_)
   refine no2 (k := ?_)
   refine no2 (k := ?_)
   refine no2 (k := ?_)
   refine no2 (k := ?_)
   refine no2 (k := ?_)
   refine hJ4 _ _ ?_
   refine hK3 _ _ ?_
   refine run_ret ?_
   try simp only [Then, InBlock, NoGoto]
   refine answer_tmp rfl (.inr rfl) ?_
   exact gcr

end Go.Proofs.Ytdbaddholggkbaa

/-
  Right plans..
-/
namespace Go.Proofs.Ytdbaddholggkbaa
set_option linter.unnecessarySimpa false
set_option maxRecDepth 100000
open Go Go.Vm
set_option linter.unusedSimpArgs false
set_option linter.unusedVariables false

attribute [local simp] evalL wantedA isCall opA evalA evalAll evalsA evalOpt ofValue ofCell plain binA_eql_pn binA_neq_pn binA_gtr binA_lss binA_geq binA_leq binA_add binA_sub binA_eql binA_neq binA_orI binA_andI binA_shl binA_shr binA_mul binA_quo binA_rem binA_agg_eql binA_agg_neq convA_int unA_not fieldAddrA loadA partA pickA_true pickA_false pickA_bb lenA builtinA storeA splice AV.cells AV.isCell sliceA boundA intA callOf indexAddrA newObjA buildA fillA zeroA ofCells buildSliceA indexA fieldA numA_len4 numA_take4 numA_drop4 set_appN get_appN take_appN List.getElem?_cons_zero List.getElem?_cons_succ makeA zeros64

set_option maxHeartbeats 1600000 in
attribute [local simp] undefA List.getElem?_cons_zero List.getElem?_cons_succ perC persC_noObj in
theorem periods_ok {σ : St} {p : Pln} (hp : p.Ok) (he : p.e ≤ 2 ^ 40) :
    CallsA Try.prog 61 [.agg (plnC p)] σ (fun av σ' => av = .v (.bool (perB p)) ∧ σ = σ') := by
  refine callsA_gcS ?_ rfl
  obtain ⟨pk, ps, pe, pt, pp⟩ := p
  obtain ⟨k1, k2, k3, k4, h5⟩ := hp
  simp only [plnC, perB] at *
  have F := True.intro
  refine callsA_body Try.func61 rfl rfl rfl ?_
  refine sq fun K1 hK1 => ?_
  refine rg' (h := fun J2 hJ2 => ?_)
  refine hJ2 _ _ ?_
  refine hK1 _ _ ?_
  refine sq fun K3 hK3 => ?_
  refine sq fun K4 hK4 => ?_
  refine rg' (h := fun J5 hJ5 => ?_)
  refine hJ5 _ _ ?_
  refine hK4 _ _ ?_
  refine cs (fun c11 => ?_) (fun c11 => ?_)
  · try exact nope c11
    all_goals have c11p := c11
    all_goals try simp [F] at c11p
    all_goals
     replace F := And.intro c11 F
     try replace F := And.intro c11p F
     have hbig : ¬ pp.length ≤ 16 := by have h := c11; simp at h; omega
     replace F := And.intro hbig F
     refine sq fun K6 hK6 => ?_
     refine rg' (h := fun J7 hJ7 => ?_)
     refine hJ7 _ _ ?_
     refine hK6 _ _ ?_
     refine run_ret ?_
     try simp only [Then, InBlock, NoGoto]
     refine answer_tmp rfl (.inr rfl) ?_
     exact gcr
  try exact nope c11
  all_goals have c11p := c11
  all_goals try simp [F] at c11p
  all_goals
   replace F := And.intro c11 F
   try replace F := And.intro c11p F
   have hbig : pp.length ≤ 16 := by have h := c11; simp at h; omega
   replace F := And.intro hbig F
   refine run_skip ?_
   refine hK3 _ _ ?_
   refine sq fun K8 hK8 => ?_
   refine rg' (h := fun J9 hJ9 => ?_)
   refine hJ9 _ _ ?_
   refine hK8 _ _ ?_
   refine sq fun K10 hK10 => ?_
   refine rg' (h := fun J11 hJ11 => ?_)
   refine hJ11 _ _ ?_
   refine hK10 _ _ ?_
   refine sq fun K12 hK12 => ?_
   refine sq fun K13 hK13 => ?_
   refine run_nilsh 4 5 (k := ?_)
   refine rg' (h := fun J14 hJ14 => ?_)
   refine hJ14 _ _ ?_
   refine hK13 _ _ ?_
   refine run_block_k ?_
   refine run_loopG (X := PerQ) [1, 15, 16] (fun q ρ σ1 => (q.i ≤ pp.length) ∧ (perOk pp ps [] = perOk (pp.drop q.i) q.e q.a) ∧ (q.e < 2 ^ 64) ∧ (q.a.length ≤ 8) ∧ (ρ 3 = .v (.int .u64 q.e)) ∧ (ρ 4 = .sl 5 (coinsC q.a) q.a.length .shut) ∧ (ρ 17 = .v (.int .i64 q.i)) ∧ (σ1 = { σ with objs := σ.objs ++ [[.v (.int .u8 pk.toNat), .v (.int .u64 ps), .v (.int .u64 pe), .sl 5 (coinsC pt) pt.length .shut, .sl 2 (persC pp) pp.length .shut]] })) (fun q => pp.length - q.i) (⟨0, ps, []⟩) ?st1 ?rd1
   case st1 =>
    refine ⟨lp, ?_, lp, lp, lp, lp, lp, ?_⟩
    · rfl
    · rfl
   case rd1 =>
    rintro q ρ1 σ1 hF1 ⟨hi, hE, hqe, hqa, h3, h4, h17, hσ⟩
    obtain rfl := hσ.symm
    have f1 := keepL hF1
    try simp [KeepL, F] at f1
    replace F := And.intro h3 F
    replace F := And.intro h4 F
    replace F := And.intro h17 F
    try replace F := And.intro f1 F
    refine sq fun K15 hK15 => ?_
    refine rg' (h := fun J16 hJ16 => ?_)
    refine hJ16 _ _ ?_
    refine hK15 _ _ ?_
    refine sq fun K17 hK17 => ?_
    refine cs (fun c18 => ?_) (fun c18 => ?_)
    · try exact nope c18
      all_goals have c18p := c18
      all_goals try simp [F] at c18p
      all_goals
       replace F := And.intro c18 F
       try replace F := And.intro c18p F
       refine run_skip ?_
       refine hK17 _ _ ?_
       refine sq fun K18 hK18 => ?_
       refine run_block_k ?_
       refine sq fun K19 hK19 => ?_
       obtain ⟨i, E, S⟩ := q
       simp only at hi hE hqe hqa h3 h4 h17
       have hlt : i < pp.length := by simp at c18; omega
       have hat := persC_at hlt
       have hb1 : i * 2 + 2 ≤ pp.length * 2 := by omega
       have hx5 := h5 _ (List.getElem_mem hlt)
       have hcons : pp.drop i = pp[i] :: pp.drop (i + 1) := List.drop_eq_getElem_cons hlt
       obtain ⟨x, hx⟩ : ∃ x, x = pp[i] := ⟨_, rfl⟩
       rw [← hx] at hat hx5 hcons
       rw [hcons] at hE
       obtain ⟨xl, xc⟩ := x
       obtain ⟨hxl, hxc⟩ := hx5
       simp only at hxl hxc
       simp only [perOk] at hE
       replace F := And.intro hlt F
       replace F := And.intro hat F
       replace F := And.intro hb1 F
       refine rg' (h := fun J20 hJ20 => ?_)
       refine hJ20 _ _ ?_
       refine hK19 _ _ ?_
       refine sq fun K21 hK21 => ?_
       refine sq fun K22 hK22 => ?_
       refine rg' (h := fun J23 hJ23 => ?_)
       refine gs 24 (fun g8_3 => ?_) (fun g8_3 => ?_)
       · try exact nope g8_3
         all_goals have g8_3p := g8_3
         all_goals try simp [F] at g8_3p
         all_goals
          replace F := And.intro g8_3 F
          try replace F := And.intro g8_3p F
          have hbad : perOk pp ps [] = none := by rw [hE]; exact if_pos (.inl (by have h := g8_3; simp at h; omega))
          replace F := And.intro hbad F
          refine no2 (k := ?_)
          refine no2 (k := ?_)
          refine no2 (k := ?_)
          refine no2 (k := ?_)
          refine no2 (k := ?_)
          refine no2 (k := ?_)
          refine no2 (k := ?_)
          refine no2 (k := ?_)
          refine no2 (k := ?_)
          refine hJ23 _ _ ?_
          refine hK22 _ _ ?_
          refine ct ?_
          refine sq fun K24 hK24 => ?_
          refine rg' (h := fun J25 hJ25 => ?_)
          refine hJ25 _ _ ?_
          refine hK24 _ _ ?_
          refine run_ret ?_
          try simp only [Then, InBlock, NoGoto]
          refine answer_tmp rfl (.inr rfl) ?_
          exact gcr
       try exact nope g8_3
       all_goals have g8_3p := g8_3
       all_goals try simp [F] at g8_3p
       all_goals
        replace F := And.intro g8_3 F
        try replace F := And.intro g8_3p F
        refine go2 (k := ?_)
        refine go2 (k := ?_)
        refine go2 (k := ?_)
        refine gs 29 (fun g8_8 => ?_) (fun g8_8 => ?_)
        · try exact nope g8_8
          all_goals have g8_8p := g8_8
          all_goals try simp [F] at g8_8p
          all_goals
           replace F := And.intro g8_8 F
           try replace F := And.intro g8_8p F
           have hbad : perOk pp ps [] = none := by rw [hE]; exact if_pos (.inr (.inl (by have h := g8_8; simp at h; omega)))
           replace F := And.intro hbad F
           refine no2 (k := ?_)
           refine no2 (k := ?_)
           refine no2 (k := ?_)
           refine no2 (k := ?_)
           refine no2 (k := ?_)
           refine no2 (k := ?_)
           refine hJ23 _ _ ?_
           refine hK22 _ _ ?_
           refine ct ?_
           refine sq fun K26 hK26 => ?_
           refine rg' (h := fun J27 hJ27 => ?_)
           refine hJ27 _ _ ?_
           refine hK26 _ _ ?_
           refine run_ret ?_
           try simp only [Then, InBlock, NoGoto]
           refine answer_tmp rfl (.inr rfl) ?_
           exact gcr
        try exact nope g8_8
        all_goals have g8_8p := g8_8
        all_goals try simp [F] at g8_8p
        all_goals
         replace F := And.intro g8_8 F
         try replace F := And.intro g8_8p F
         refine go2 (k := ?_)
         refine go2 (k := ?_)
         refine gs 33 (fun g8_12 => ?_) (fun g8_12 => ?_)
         · try exact nope g8_12
           all_goals have g8_12p := g8_12
           all_goals try simp [F] at g8_12p
           all_goals
            replace F := And.intro g8_12 F
            try replace F := And.intro g8_12p F
            have hbad : perOk pp ps [] = none := by rw [hE]; exact if_pos (.inr (.inr (.inl (by have h := g8_12; simp at h; omega))))
            replace F := And.intro hbad F
            refine no2 (k := ?_)
            refine no2 (k := ?_)
            refine no2 (k := ?_)
            refine no2 (k := ?_)
            refine hJ23 _ _ ?_
            refine hK22 _ _ ?_
            refine ct ?_
            refine sq fun K28 hK28 => ?_
            refine rg' (h := fun J29 hJ29 => ?_)
            refine hJ29 _ _ ?_
            refine hK28 _ _ ?_
            refine run_ret ?_
            try simp only [Then, InBlock, NoGoto]
            refine answer_tmp rfl (.inr rfl) ?_
            exact gcr
         try exact nope g8_12
         all_goals have g8_12p := g8_12
         all_goals try simp [F] at g8_12p
         all_goals
          replace F := And.intro g8_12 F
          try replace F := And.intro g8_12p F
          refine go2 (k := ?_)
          refine go2 (k := ?_)
          refine ca (c := psome_ok hxc) (k := ?_)
          rintro _ _ ⟨rfl, rfl⟩
          repeat (first | simp [F] | simp (disch := omega) only [wC, if_pos, if_neg])
          refine go2 (k := ?_)
          refine hJ23 _ _ ?_
          refine hK22 _ _ ?_
          refine cs (fun c38 => ?_) (fun c38 => ?_)
          · try exact nope c38
            all_goals have c38p := c38
            all_goals try simp [F] at c38p
            all_goals
             replace F := And.intro c38 F
             try replace F := And.intro c38p F
             have hbad : perOk pp ps [] = none := by rw [hE]; exact if_pos (.inr (.inr (.inr (by have h := c38; simp at h; intro hh; rcases h with h | h; exact hh.1 h; exact h hh.2))))
             replace F := And.intro hbad F
             refine sq fun K30 hK30 => ?_
             refine rg' (h := fun J31 hJ31 => ?_)
             refine hJ31 _ _ ?_
             refine hK30 _ _ ?_
             refine run_ret ?_
             try simp only [Then, InBlock, NoGoto]
             refine answer_tmp rfl (.inr rfl) ?_
             exact gcr
          try exact nope c38
          all_goals have c38p := c38
          all_goals try simp [F] at c38p
          all_goals
           replace F := And.intro c38 F
           try replace F := And.intro c38p F
           have n1 : ¬ xl = 0 := by have h := g8_3; simp at h; omega
           have n2 : ¬ 2 ^ 40 < xl := by have h := g8_8; simp at h; omega
           have n3 : ¬ 2 ^ 40 < E := by have h := g8_12; simp at h; omega
           have n4 : ¬ ¬ (xc ≠ [] ∧ Right xc) := by have h := c38; simp at h; exact fun hn => hn ⟨h.1, h.2⟩
           have hgood : ¬ (xl = 0 ∨ 2 ^ 40 < xl ∨ 2 ^ 40 < E ∨ ¬ (xc ≠ [] ∧ Right xc)) := fun h => h.elim n1 (fun h => h.elim n2 (fun h => h.elim n3 n4))
           have hw2 : E + xl < 2 ^ 64 := by omega
           obtain ⟨S2, hS2⟩ : ∃ S2, S2 = cAddL S xc := ⟨_, rfl⟩
           have hS2l : S2.length ≤ 8 := by rw [hS2]; exact right_len (right_cAdd _ _)
           rw [← hS2] at hE
           rw [if_neg hgood] at hE
           have hw : IntKind.u64.wrap ((E : Int) + xl) = ((E + xl : Nat) : Int) := by rw [wrap_u64c (by omega)]; rfl
           replace F := And.intro hw F
           refine run_skip ?_
           refine hK21 _ _ ?_
           refine sq fun K32 hK32 => ?_
           refine rg' (h := fun J33 hJ33 => ?_)
           refine hJ33 _ _ ?_
           refine hK32 _ _ ?_
           refine sq fun K34 hK34 => ?_
           refine rg' (h := fun J35 hJ35 => ?_)
           refine hJ35 _ _ ?_
           refine hK34 _ _ ?_
           refine sq fun K36 hK36 => ?_
           refine rg' (h := fun J37 hJ37 => ?_)
           refine ca (c := (hS2 ▸ cadd_ok (by omega) hxc)) (k := ?_)
           rintro _ _ ⟨rfl, rfl⟩
           repeat (first | simp [F] | simp (disch := omega) only [wC, if_pos, if_neg])
           refine hJ37 _ _ ?_
           refine hK36 _ _ ?_
           refine sq fun K38 hK38 => ?_
           refine rg' (h := fun J39 hJ39 => ?_)
           refine hJ39 _ _ ?_
           refine hK38 _ _ ?_
           refine cs (fun c51 => ?_) (fun c51 => ?_)
           · try exact nope c51
             all_goals have c51p := c51
             all_goals try simp [F] at c51p
             all_goals
              replace F := And.intro c51 F
              try replace F := And.intro c51p F
              have hne : ¬ cAddE S xc = 0 := by have h := c51; simp at h; omega
              rw [if_neg hne] at hE
              replace F := And.intro hE F
              refine sq fun K40 hK40 => ?_
              refine rg' (h := fun J41 hJ41 => ?_)
              refine hJ41 _ _ ?_
              refine hK40 _ _ ?_
              refine run_ret ?_
              try simp only [Then, InBlock, NoGoto]
              refine answer_tmp rfl (.inr rfl) ?_
              exact gcr
           try exact nope c51
           all_goals have c51p := c51
           all_goals try simp [F] at c51p
           all_goals
            replace F := And.intro c51 F
            try replace F := And.intro c51p F
            have hye : cAddE S xc = 0 := by have h := c51; simp at h; omega
            rw [if_pos hye] at hE
            refine run_skip ?_
            refine hK18 _ _ ?_
            refine rg' (h := fun J42 hJ42 => ?_)
            refine hJ42 _ _ ?_
            refine ⟨gk, (⟨i + 1, E + xl, S2⟩), ⟨kpG, lpG, ?_, ?_, ?_, lpG, lpG, lpG, lpG⟩, lpG⟩
            · exact hE
            · exact hw2
            · exact hS2l
    try exact nope c18
    all_goals have c18p := c18
    all_goals try simp [F] at c18p
    all_goals
     replace F := And.intro c18 F
     try replace F := And.intro c18p F
     have hend : perOk pp ps [] = some (q.e, q.a) := by rw [hE, List.drop_of_length_le (by have h := c18; simp at h; omega)]; rfl
     replace F := And.intro hend F
     refine run_exit ?_
     refine hK12 _ _ ?_
     refine sq fun K43 hK43 => ?_
     refine rg' (h := fun J44 hJ44 => ?_)
     refine gs 57 (fun g16_4 => ?_) (fun g16_4 => ?_)
     · try exact nope g16_4
       all_goals have g16_4p := g16_4
       all_goals try simp [F] at g16_4p
       all_goals
        replace F := And.intro g16_4 F
        try replace F := And.intro g16_4p F
        have hee : q.e = pe := by have h := g16_4; simp at h; omega
        replace F := And.intro hee F
        refine go2 (k := ?_)
        refine go2 (k := ?_)
        refine go2 (k := ?_)
        refine ca (c := csame_ok (by omega) k3) (k := ?_)
        rintro _ _ ⟨rfl, rfl⟩
        repeat (first | simp [F] | simp (disch := omega) only [wC, if_pos, if_neg])
        refine hJ44 _ _ ?_
        refine hK43 _ _ ?_
        refine run_ret ?_
        try simp only [Then, InBlock, NoGoto]
        refine answer_tmp rfl (.inr rfl) ?_
        exact gcr
     try exact nope g16_4
     all_goals have g16_4p := g16_4
     all_goals try simp [F] at g16_4p
     all_goals
      replace F := And.intro g16_4 F
      try replace F := And.intro g16_4p F
      have hee : ¬ q.e = pe := by have h := g16_4; simp at h; omega
      replace F := And.intro hee F
      refine no2 (k := ?_)
      refine no2 (k := ?_)
      refine no2 (k := ?_)
      refine no2 (k := ?_)
      refine hJ44 _ _ ?_
      refine hK43 _ _ ?_
      refine run_ret ?_
      try simp only [Then, InBlock, NoGoto]
      refine answer_tmp rfl (.inr rfl) ?_
      exact gcr

end Go.Proofs.Ytdbaddholggkbaa
