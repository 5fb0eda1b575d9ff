import Derived.Test.YtdbaddholggkbaaZ7
import Derived.Test.YtdbaddholggkbaaZ13
/-
  The law that all is free from its end on..
-/
namespace Go.Proofs.Ytdbaddholggkbaa
set_option linter.unnecessarySimpa false
set_option maxRecDepth 100000
open Go Go.Vm
set_option linter.unusedSimpArgs false
set_option linter.unusedVariables false

attribute [local simp] evalL wantedA isCall opA evalA evalAll evalsA evalOpt ofValue ofCell plain binA_eql_pn binA_neq_pn binA_gtr binA_lss binA_geq binA_leq binA_add binA_sub binA_eql binA_neq binA_orI binA_andI binA_shl binA_shr binA_mul binA_quo binA_rem binA_agg_eql binA_agg_neq convA_int unA_not fieldAddrA loadA partA pickA_true pickA_false pickA_bb lenA builtinA storeA splice AV.cells AV.isCell sliceA boundA intA callOf indexAddrA newObjA buildA fillA zeroA ofCells buildSliceA indexA fieldA numA_len4 numA_take4 numA_drop4 set_appN get_appN take_appN List.getElem?_cons_zero List.getElem?_cons_succ makeA zeros64

set_option maxHeartbeats 1600000 in
attribute [local simp] undefA List.getElem?_cons_zero List.getElem?_cons_succ madC plnC persC_noObj pcsC_noObj in
theorem planEnds_ok {σ : St} {m : Mad} (hm : m.Ok) (hl : m.Len) {t : Nat} (ht : t < 2 ^ 64) :
    CallsA Try.prog 7 [.agg (madC m), .v (.int .u64 t)] σ (fun av σ' => av = .v (.bool true) ∧ σ = σ') := by
  refine callsA_gcS ?_ rfl
  obtain ⟨l1, l2, l3⟩ := hl
  obtain ⟨p, hpp⟩ : ∃ p, p = plansL m := ⟨_, rfl⟩
  have g : Fine p := hpp ▸ plansL_good hm
  have cf : ∀ σ, CallsA Try.prog 20 [.agg (madC m)] σ (fun av σ' => av = .v (.bool (decide (fewP m))) ∧ σ = σ') := fun σ => few_ok l1 l2 l3
  have cp : ∀ σ, fewP m → CallsA Try.prog 21 [.agg (madC m)] σ (fun av σ' => av = .agg (plnC p) ∧ σ = σ') := fun σ hf => hpp ▸ plans_ok hm hf
  have cv := pv_ok g ht
  have cl := pl_ok g ht
  have hS := fun σ => rsame_ok (σ := σ) (l := p.tot) (m := p.tot) (t1 := .shut) (t2 := .shut) (by have := g.len; omega) (by have := g.len; omega)
  simp only [decide_true] at hS
  have e1 : p.k = 4 → vestL p t = [] ∧ cRest p.tot (vestL p t) = p.tot := fun h => by rw [vest_never h]; exact ⟨rfl, rest_nil g.tot⟩
  have e2 : ¬ p.k = 4 → p.e ≤ t → vestL p t = p.tot ∧ cRest p.tot (vestL p t) = [] := fun h h2 => by rw [vest_end g h h2]; exact ⟨rfl, rest_self _⟩
  have e3 : ¬ p.e ≤ t → t ≤ p.s → vestL p t = [] := fun h h2 => vest_start g h h2
  have hkn : ∀ n : UInt8, p.k = n ↔ (p.k.toNat : Int) = (n.toNat : Int) := fun n => ⟨fun e => by rw [e], fun e => UInt8.toNat_inj.1 (Int.ofNat_inj.1 e)⟩
  obtain ⟨Z, hZ⟩ : ∃ Z, Z = cRest p.tot (vestL p t) := ⟨_, rfl⟩
  simp only [← hZ] at cl e1 e2
  clear hZ
  obtain ⟨V, hV⟩ : ∃ V, V = vestL p t := ⟨_, rfl⟩
  simp only [← hV] at cv e1 e2 e3
  clear hpp hm g hV
  obtain ⟨mk, ms, mn, mc, mp⟩ := m
  obtain ⟨pk, ps, pe, pt, pp⟩ := p
  simp only at e1 e2 e3 hkn hS cv cl
  have F := True.intro
  refine callsA_body Try.func7 rfl rfl rfl ?_
  refine sq fun K1 hK1 => ?_
  refine rg' (h := fun J2 hJ2 => ?_)
  refine hJ2 _ _ ?_
  refine hK1 _ _ ?_
  refine sq fun K3 hK3 => ?_
  refine sq fun K4 hK4 => ?_
  refine rg' (h := fun J5 hJ5 => ?_)
  refine ca (c := even_ok) (k := ?_)
  rintro _ _ ⟨rfl, rfl⟩
  repeat (first | simp [F] | simp (disch := omega) only [wC, if_pos, if_neg])
  refine gs 8 (fun g1_2 => ?_) (fun g1_2 => ?_)
  · try exact nope g1_2
    all_goals have g1_2p := g1_2
    all_goals try simp [F] at g1_2p
    all_goals
     replace F := And.intro g1_2 F
     try replace F := And.intro g1_2p F
     refine no2 (k := ?_)
     refine no2 (k := ?_)
     refine no2 (k := ?_)
     refine hJ5 _ _ ?_
     refine hK4 _ _ ?_
     refine ct ?_
     refine sq fun K6 hK6 => ?_
     refine rg' (h := fun J7 hJ7 => ?_)
     refine ca (c := even_ok) (k := ?_)
     rintro _ _ ⟨rfl, rfl⟩
     repeat (first | simp [F] | simp (disch := omega) only [wC, if_pos, if_neg])
     refine hJ7 _ _ ?_
     refine hK6 _ _ ?_
     refine run_ret ?_
     try simp only [Then, InBlock, NoGoto]
     refine answer_tmp rfl (.inr rfl) ?_
     exact gcr
  try exact nope g1_2
  all_goals have g1_2p := g1_2
  all_goals try simp [F] at g1_2p
  all_goals
   replace F := And.intro g1_2 F
   try replace F := And.intro g1_2p F
   refine go2 (k := ?_)
   refine ca (c := cf _) (k := ?_)
   rintro _ _ ⟨rfl, rfl⟩
   repeat (first | simp [F] | simp (disch := omega) only [wC, if_pos, if_neg])
   refine go2 (k := ?_)
   refine hJ5 _ _ ?_
   refine hK4 _ _ ?_
   refine cs (fun c12 => ?_) (fun c12 => ?_)
   · try exact nope c12
     all_goals have c12p := c12
     all_goals try simp [F] at c12p
     all_goals
      replace F := And.intro c12 F
      try replace F := And.intro c12p F
      refine sq fun K8 hK8 => ?_
      refine rg' (h := fun J9 hJ9 => ?_)
      refine ca (c := even_ok) (k := ?_)
      rintro _ _ ⟨rfl, rfl⟩
      repeat (first | simp [F] | simp (disch := omega) only [wC, if_pos, if_neg])
      refine hJ9 _ _ ?_
      refine hK8 _ _ ?_
      refine run_ret ?_
      try simp only [Then, InBlock, NoGoto]
      refine answer_tmp rfl (.inr rfl) ?_
      exact gcr
   try exact nope c12
   all_goals have c12p := c12
   all_goals try simp [F] at c12p
   all_goals
    replace F := And.intro c12 F
    try replace F := And.intro c12p F
    refine run_skip ?_
    refine hK3 _ _ ?_
    refine sq fun K10 hK10 => ?_
    refine rg' (h := fun J11 hJ11 => ?_)
    refine ca (c := cp _ (by simpa using c12)) (k := ?_)
    rintro _ _ ⟨rfl, rfl⟩
    repeat (first | simp [F] | simp (disch := omega) only [wC, if_pos, if_neg])
    refine hJ11 _ _ ?_
    refine hK10 _ _ ?_
    refine sq fun K12 hK12 => ?_
    refine sq fun K13 hK13 => ?_
    refine rg' (h := fun J14 hJ14 => ?_)
    refine hJ14 _ _ ?_
    refine hK13 _ _ ?_
    refine cs (fun c18 => ?_) (fun c18 => ?_)
    · try exact nope c18
      all_goals have c18p := c18
      all_goals try simp [F] at c18p
      all_goals
       replace F := And.intro c18 F
       try replace F := And.intro c18p F
       obtain ⟨rfl, rfl⟩ := e1 ((hkn 4).2 (by simpa using c18))
       refine sq fun K15 hK15 => ?_
       refine run_draw (by kernel_rfl) fun J16 hJ16 => ?_
       refine rp2 0 (k := ?_)
       refine rp2 1 (k := ?_)
       refine dc 2 rfl (c := cv _) (k := ?_)
       rintro _ _ ⟨rfl, rfl⟩
       refine ⟨ln, ?_⟩
       repeat (first | simp [F] | simp (disch := omega) only [wC, if_pos, if_neg])
       refine rp2 3 (k := ?_)
       refine rp2 4 (k := ?_)
       refine rp2 5 (k := ?_)
       refine gd 24 (fun g5_5 => ?_) (fun g5_5 => ?_)
       · try exact nope g5_5
         all_goals have g5_5p := g5_5
         all_goals try simp [F] at g5_5p
         all_goals
          replace F := And.intro g5_5 F
          try replace F := And.intro g5_5p F
          refine rp2 6 (k := ?_)
          refine rp2 7 (k := ?_)
          refine rp2 9 (k := ?_)
          refine rp2 10 (k := ?_)
          refine dc 8 rfl (c := cl _) (k := ?_)
          rintro _ _ ⟨rfl, rfl⟩
          refine ⟨by first | exact fun _ _ h => h | (refine later_list [10, 9, 4, 3] (by kernel_rfl) (List.forall_mem_cons.2 ⟨fun _ => fact2 rfl rfl ?_, List.forall_mem_cons.2 ⟨fun _ => fact2 rfl rfl ?_, List.forall_mem_cons.2 ⟨fun _ => fact2 rfl rfl ?_, List.forall_mem_cons.2 ⟨fun _ => fact2 rfl rfl ?_, fun _ h => absurd h List.not_mem_nil⟩⟩⟩⟩) <;> constructor <;> first | rfl | (simp [F]; done)), ?_⟩
          repeat (first | simp [F] | simp (disch := omega) only [wC, if_pos, if_neg])
          refine dc 11 rfl (c := hS _) (k := ?_)
          rintro _ _ ⟨rfl, rfl⟩
          refine ⟨by first | exact fun _ _ h => h | (refine later_list [9, 4, 3] (by kernel_rfl) (List.forall_mem_cons.2 ⟨fun _ => fact2 rfl rfl ?_, List.forall_mem_cons.2 ⟨fun _ => fact2 rfl rfl ?_, List.forall_mem_cons.2 ⟨fun _ => fact2 rfl rfl ?_, fun _ h => absurd h List.not_mem_nil⟩⟩⟩) <;> constructor <;> first | rfl | (simp [F]; done)), ?_⟩
          repeat (first | simp [F] | simp (disch := omega) only [wC, if_pos, if_neg])
          refine rp2 12 (k := ?_)
          refine rp2 13 (k := ?_)
          refine dd ?_
          refine hJ16 _ _ ?_
          refine hK15 _ _ ?_
          refine run_ret ?_
          try simp only [Then, InBlock, NoGoto]
          refine answer_tmp rfl (.inr rfl) ?_
          exact gcr
       try exact nope g5_5
       all_goals have g5_5p := g5_5
       all_goals try simp [F] at g5_5p
       all_goals
        replace F := And.intro g5_5 F
        try replace F := And.intro g5_5p F
        refine rp2 6 (k := ?_)
        refine rp2 7 (k := ?_)
        refine rp2 9 (k := ?_)
        refine rp2 10 (k := ?_)
        refine dop 8 rfl ?_
        repeat (first | simp [F] | simp (disch := omega) only [wC, if_pos, if_neg])
        refine dop 11 rfl ?_
        repeat (first | simp [F] | simp (disch := omega) only [wC, if_pos, if_neg])
        refine rp2 12 (k := ?_)
        refine rp2 13 (k := ?_)
        refine dd ?_
        refine hJ16 _ _ ?_
        refine hK15 _ _ ?_
        refine run_ret ?_
        try simp only [Then, InBlock, NoGoto]
        refine answer_tmp rfl (.inr rfl) ?_
        exact gcr
    try exact nope c18
    all_goals have c18p := c18
    all_goals try simp [F] at c18p
    all_goals
     replace F := And.intro c18 F
     try replace F := And.intro c18p F
     have k4 : ¬ pk = 4 := fun h => by have h2 := (hkn 4).1 h; simp at c18; exact c18 h2
     refine run_skip ?_
     refine hK12 _ _ ?_
     refine sq fun K17 hK17 => ?_
     refine sq fun K18 hK18 => ?_
     refine rg' (h := fun J19 hJ19 => ?_)
     refine hJ19 _ _ ?_
     refine hK18 _ _ ?_
     refine cs (fun c35 => ?_) (fun c35 => ?_)
     · try exact nope c35
       all_goals have c35p := c35
       all_goals try simp [F] at c35p
       all_goals
        replace F := And.intro c35 F
        try replace F := And.intro c35p F
        obtain ⟨rfl, rfl⟩ := e2 k4 (by have h := c35; simp at h; omega)
        refine sq fun K20 hK20 => ?_
        refine run_draw (by kernel_rfl) fun J21 hJ21 => ?_
        refine rp2 0 (k := ?_)
        refine rp2 1 (k := ?_)
        refine rp2 3 (k := ?_)
        refine rp2 4 (k := ?_)
        refine dc 2 rfl (c := cv _) (k := ?_)
        rintro _ _ ⟨rfl, rfl⟩
        refine ⟨by first | exact fun _ _ h => h | (refine later_list [4, 3] (by kernel_rfl) (List.forall_mem_cons.2 ⟨fun _ => fact2 rfl rfl ?_, List.forall_mem_cons.2 ⟨fun _ => fact2 rfl rfl ?_, fun _ h => absurd h List.not_mem_nil⟩⟩) <;> constructor <;> first | rfl | (simp [F]; done)), ?_⟩
        repeat (first | simp [F] | simp (disch := omega) only [wC, if_pos, if_neg])
        refine dc 5 rfl (c := hS _) (k := ?_)
        rintro _ _ ⟨rfl, rfl⟩
        refine ⟨by first | exact fun _ _ h => h | (refine later_list [3] (by kernel_rfl) (List.forall_mem_cons.2 ⟨fun _ => fact2 rfl rfl ?_, fun _ h => absurd h List.not_mem_nil⟩) <;> constructor <;> first | rfl | (simp [F]; done)), ?_⟩
        repeat (first | simp [F] | simp (disch := omega) only [wC, if_pos, if_neg])
        refine rp2 6 (k := ?_)
        refine gd 42 (fun g7_6 => ?_) (fun g7_6 => ?_)
        · try exact nope g7_6
          all_goals have g7_6p := g7_6
          all_goals try simp [F] at g7_6p
          all_goals
           replace F := And.intro g7_6 F
           try replace F := And.intro g7_6p F
           refine rp2 7 (k := ?_)
           refine rp2 8 (k := ?_)
           refine dc 9 rfl (c := cl _) (k := ?_)
           rintro _ _ ⟨rfl, rfl⟩
           refine ⟨by first | exact fun _ _ h => h | (refine later_list [3] (by kernel_rfl) (List.forall_mem_cons.2 ⟨fun _ => fact2 rfl rfl ?_, fun _ h => absurd h List.not_mem_nil⟩) <;> constructor <;> first | rfl | (simp [F]; done)), ?_⟩
           repeat (first | simp [F] | simp (disch := omega) only [wC, if_pos, if_neg])
           refine rp2 10 (k := ?_)
           refine rp2 11 (k := ?_)
           refine rp2 12 (k := ?_)
           refine rp2 13 (k := ?_)
           refine dd ?_
           refine hJ21 _ _ ?_
           refine hK20 _ _ ?_
           refine run_ret ?_
           try simp only [Then, InBlock, NoGoto]
           refine answer_tmp rfl (.inr rfl) ?_
           exact gcr
        try exact nope g7_6
        all_goals have g7_6p := g7_6
        all_goals try simp [F] at g7_6p
        all_goals
         replace F := And.intro g7_6 F
         try replace F := And.intro g7_6p F
         refine rp2 7 (k := ?_)
         refine rp2 8 (k := ?_)
         refine dop 9 rfl ?_
         repeat (first | simp [F] | simp (disch := omega) only [wC, if_pos, if_neg])
         refine rp2 10 (k := ?_)
         refine rp2 11 (k := ?_)
         refine rp2 12 (k := ?_)
         refine rp2 13 (k := ?_)
         refine dd ?_
         refine hJ21 _ _ ?_
         refine hK20 _ _ ?_
         refine run_ret ?_
         try simp only [Then, InBlock, NoGoto]
         refine answer_tmp rfl (.inr rfl) ?_
         exact gcr
     try exact nope c35
     all_goals have c35p := c35
     all_goals try simp [F] at c35p
     all_goals
      replace F := And.intro c35 F
      try replace F := And.intro c35p F
      refine run_skip ?_
      refine hK17 _ _ ?_
      refine sq fun K22 hK22 => ?_
      refine rg' (h := fun J23 hJ23 => ?_)
      refine gs 53 (fun g8_4 => ?_) (fun g8_4 => ?_)
      · try exact nope g8_4
        all_goals have g8_4p := g8_4
        all_goals try simp [F] at g8_4p
        all_goals
         replace F := And.intro g8_4 F
         try replace F := And.intro g8_4p F
         refine no2 (k := ?_)
         refine no2 (k := ?_)
         refine no2 (k := ?_)
         refine no2 (k := ?_)
         refine no2 (k := ?_)
         refine hJ23 _ _ ?_
         refine hK22 _ _ ?_
         refine run_ret ?_
         try simp only [Then, InBlock, NoGoto]
         refine answer_tmp rfl (.inr rfl) ?_
         exact gcr
      try exact nope g8_4
      all_goals have g8_4p := g8_4
      all_goals try simp [F] at g8_4p
      all_goals
       replace F := And.intro g8_4 F
       try replace F := And.intro g8_4p F
       obtain rfl := e3 (by have h := c35; simp at h; omega) (by have h := g8_4; simp at h; omega)
       refine go2 (k := ?_)
       refine go2 (k := ?_)
       refine ca (c := cv _) (k := ?_)
       rintro _ _ ⟨rfl, rfl⟩
       repeat (first | simp [F] | simp (disch := omega) only [wC, if_pos, if_neg])
       refine go2 (k := ?_)
       refine go2 (k := ?_)
       refine hJ23 _ _ ?_
       refine hK22 _ _ ?_
       refine run_ret ?_
       try simp only [Then, InBlock, NoGoto]
       refine answer_tmp rfl (.inr rfl) ?_
       exact gcr

end Go.Proofs.Ytdbaddholggkbaa
