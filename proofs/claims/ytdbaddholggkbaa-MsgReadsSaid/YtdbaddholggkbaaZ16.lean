import Derived.Test.YtdbaddholggkbaaZ7
import Derived.Test.YtdbaddholggkbaaZ15
/-
  The law MsgReads..
-/
namespace Go.Proofs.Ytdbaddholggkbaa
set_option linter.unnecessarySimpa false
set_option maxRecDepth 100000
open Go Go.Vm
set_option linter.unusedSimpArgs false
set_option linter.unusedVariables false
attribute [local simp] evalL wantedA isCall opA evalA evalAll evalsA evalOpt ofValue ofCell plain binA_eql_pn binA_neq_pn binA_gtr binA_lss binA_geq binA_leq binA_add binA_sub binA_eql binA_neq binA_orI binA_shl binA_shr binA_mul binA_quo binA_rem binA_agg_eql binA_agg_neq convA_int unA_not fieldAddrA loadA partA pickA_true pickA_false pickA_bb lenA builtinA storeA splice AV.cells AV.isCell sliceA boundA intA callOf indexAddrA newObjA buildA fillA zeroA ofCells buildSliceA indexA fieldA numA_len4 numA_take4 numA_drop4 set_appN get_appN take_appN List.getElem?_cons_zero List.getElem?_cons_succ makeA zeros64

theorem zeroM_ok : zeroM.Ok := ⟨by simp [zeroM], by simp [zeroM], by simp [zeroM], by simp [zeroM], by simp [zeroM], by simp [zeroM, Pln.Ok], by simp [zeroM], by simp [zeroM]⟩
theorem decM_ok (p : List UInt8) : (decM p).Ok := by
  unfold decM
  cases decB p
  · exact zeroM_ok
  · exact msgR_ok _ _
theorem decM_right {p : List UInt8} (h : decB p = true) : rightM (decM p) = true := by
  unfold decM; rw [h]
  unfold decB at h
  simp only [Bool.and_eq_true] at h
  exact h.2

set_option maxHeartbeats 1600000 in
attribute [local simp] undefA List.getElem?_cons_zero List.getElem?_cons_succ msgC outsC_noObj persC_noObj in
theorem msgReads1_ok {σ : St} {p : List UInt8} (hp : p.length ≤ 1000000) (hD : decB p = true) :
    CallsA Try.prog 14 [.sl 1 (bytesA p) p.length .shut] σ (fun av σ' => av = .v (.bool true) ∧ σ = σ') := by
  refine callsA_gcS ?_ rfl
  have hde := fun σ => decode_ok (σ := σ) (tl := .shut) hp
  have hre := fun σ => rmread_ok (σ := σ) hp
  have hen := fun σ => encode_ok (σ := σ) (decM_ok p)
  rw [decM_right hD, dec_enc hD] at hen
  rw [hD] at hde hre
  simp only [cond_true] at hen hde hre
  have hsm := fun σ => rmsame_ok (σ := σ) (decM_ok p) (decM_ok p)
  simp only [decide_true] at hsm
  have hsa := fun σ => same_ok (σ := σ) (p := p) (q := p) (t1 := .shut) (t2 := .shut) hp
  simp only [beq_self_eq_true] at hsa
  obtain ⟨m, hm⟩ : ∃ m, m = decM p := ⟨_, rfl⟩
  simp only [← hm] at hde hre hen hsm
  clear hm hD
  have hd21 : ∀ f : Nat → AV, List.drop 21 (List.map f (List.range 21)) = [] := fun _ => rfl
  obtain ⟨x1, x2, x3, x4, x5, x6, x7, x8, x9, x10, x11, x12, x13, x14⟩ := m
  obtain ⟨xpk, xps, xpe, xpt, xpq⟩ := x11
  have F := And.intro hd21 (True.intro)
  refine callsA_body Try.func14 rfl rfl rfl ?_; refine sr fun _ hJ2 => ?_; refine hJ2 _ _ ?_; refine sq fun K3 hK3 => ?_; refine sr fun _ hJ5 => ?_; refine ca (c := ends_ok) (k := ?_); rintro _ _ ⟨rfl, rfl⟩; (repeat (first | simp [F] | simp (disch := omega) only [wC, if_pos, if_neg])); refine gs 11 (fun g1_2 => ?_) (fun g1_2 => ?_)
  · (try exact nope g1_2); all_goals have g1_2p := g1_2; try simp [F] at g1_2p
    all_goals
     replace F := aF g1_2 F; (try replace F := aF g1_2p F); (iterate 3 refine no2 (k := ?_)); refine hJ5 _ _ ?_; refine ct ?_; refine sr fun _ hJ7 => ?_; refine ca (c := ends_ok) (k := ?_); rintro _ _ ⟨rfl, rfl⟩; (repeat (first | simp [F] | simp (disch := omega) only [wC, if_pos, if_neg])); refine hJ7 _ _ ?_; refine ra ?_; exact gcr
  (try exact nope g1_2); all_goals have g1_2p := g1_2; try simp [F] at g1_2p
  all_goals
   replace F := aF g1_2 F; (try replace F := aF g1_2p F); (iterate 3 refine go2 (k := ?_)); refine hJ5 _ _ ?_; refine cs (fun c15 => ?_) (fun c15 => ?_)
   · (try exact nope c15); all_goals have c15p := c15; try simp [F] at c15p
     all_goals
      replace F := aF c15 F; (try replace F := aF c15p F); refine sr fun _ hJ9 => ?_; refine ca (c := ends_ok) (k := ?_); rintro _ _ ⟨rfl, rfl⟩; (repeat (first | simp [F] | simp (disch := omega) only [wC, if_pos, if_neg])); refine hJ9 _ _ ?_; refine ra ?_; exact gcr
   (try exact nope c15); all_goals have c15p := c15; try simp [F] at c15p
   all_goals
    replace F := aF c15 F; (try replace F := aF c15p F); refine run_skip ?_; refine hK3 _ _ ?_; refine sr fun _ hJ11 => ?_; refine ca (c := hde _) (k := ?_); rintro _ _ ⟨rfl, rfl⟩; (repeat (first | simp [F] | simp (disch := omega) only [wC, if_pos, if_neg])); refine hJ11 _ _ ?_; refine sr fun _ hJ13 => ?_; refine ca (c := hre _) (k := ?_); rintro _ _ ⟨rfl, rfl⟩; (repeat (first | simp [F] | simp (disch := omega) only [wC, if_pos, if_neg])); refine hJ13 _ _ ?_; refine sq fun K14 hK14 => ?_; refine sr fun _ hJ16 => ?_; refine hJ16 _ _ ?_; refine cs (fun c28 => ?_) (fun c28 => ?_)
    · (try exact nope c28); all_goals have c28p := c28; try simp [F] at c28p
      all_goals
       replace F := aF c28 F; (try replace F := aF c28p F); refine sr fun _ hJ18 => ?_; refine gs 31 (fun g6_2 => ?_) (fun g6_2 => ?_)
       · (try exact nope g6_2); all_goals have g6_2p := g6_2; try simp [F] at g6_2p
         all_goals
          replace F := aF g6_2 F; (try replace F := aF g6_2p F); (iterate 2 refine go2 (k := ?_)); refine ca (c := absurd trivial (fun h ↦ h.elim)) (k := ?_); rintro _ _ ⟨rfl, rfl⟩; (repeat (first | simp [F] | simp (disch := omega) only [wC, if_pos, if_neg])); refine hJ18 _ _ ?_; refine ra ?_; exact gcr
       (try exact nope g6_2); all_goals have g6_2p := g6_2; try simp [F] at g6_2p
       all_goals
        replace F := aF g6_2 F; (try replace F := aF g6_2p F); (iterate 3 refine no2 (k := ?_)); refine hJ18 _ _ ?_; refine ra ?_; exact gcr
    (try exact nope c28); all_goals have c28p := c28; try simp [F] at c28p
    all_goals
     replace F := aF c28 F; (try replace F := aF c28p F); refine run_skip ?_; refine hK14 _ _ ?_; refine sr fun _ hJ20 => ?_; refine ca (c := hen _) (k := ?_); rintro _ _ ⟨rfl, rfl⟩; (repeat (first | simp [F] | simp (disch := omega) only [wC, if_pos, if_neg])); refine hJ20 _ _ ?_; refine sr fun _ hJ22 => ?_; refine gs 43 (fun g8_2 => ?_) (fun g8_2 => ?_)
     · (try exact nope g8_2); all_goals have g8_2p := g8_2; try simp [F] at g8_2p
       all_goals
        replace F := aF g8_2 F; (try replace F := aF g8_2p F); (iterate 2 refine go2 (k := ?_)); refine ca (c := hsm _) (k := ?_); rintro _ _ ⟨rfl, rfl⟩; (repeat (first | simp [F] | simp (disch := omega) only [wC, if_pos, if_neg])); refine gs 48 (fun g8_7 => ?_) (fun g8_7 => ?_)
        · (try exact nope g8_7); all_goals have g8_7p := g8_7; try simp [F] at g8_7p
          all_goals
           replace F := aF g8_7 F; (try replace F := aF g8_7p F); (iterate 2 refine go2 (k := ?_)); refine gs 52 (fun g8_11 => ?_) (fun g8_11 => ?_)
           · (try exact nope g8_11); all_goals have g8_11p := g8_11; try simp [F] at g8_11p
             all_goals
              replace F := aF g8_11 F; (try replace F := aF g8_11p F); (iterate 2 refine go2 (k := ?_)); refine ca (c := hsa _) (k := ?_); rintro _ _ ⟨rfl, rfl⟩; (repeat (first | simp [F] | simp (disch := omega) only [wC, if_pos, if_neg])); refine hJ22 _ _ ?_; refine ra ?_; exact gcr
           (try exact nope g8_11); all_goals have g8_11p := g8_11; try simp [F] at g8_11p
           all_goals
            replace F := aF g8_11 F; (try replace F := aF g8_11p F); (iterate 3 refine no2 (k := ?_)); refine hJ22 _ _ ?_; refine ra ?_; exact gcr
        (try exact nope g8_7); all_goals have g8_7p := g8_7; try simp [F] at g8_7p
        all_goals
         replace F := aF g8_7 F; (try replace F := aF g8_7p F); (iterate 5 refine no2 (k := ?_)); refine hJ22 _ _ ?_; refine ra ?_; exact gcr
     (try exact nope g8_2); all_goals have g8_2p := g8_2; try simp [F] at g8_2p
     all_goals
      replace F := aF g8_2 F; (try replace F := aF g8_2p F); (iterate 8 refine no2 (k := ?_)); refine hJ22 _ _ ?_; refine ra ?_; exact gcr

set_option maxHeartbeats 1600000 in
attribute [local simp] undefA List.getElem?_cons_zero List.getElem?_cons_succ msgC outsC_noObj persC_noObj in
theorem msgReads2_ok {σ : St} {p : List UInt8} (hp : p.length ≤ 1000000) (hD : decB p = false) :
    CallsA Try.prog 14 [.sl 1 (bytesA p) p.length .shut] σ (fun av σ' => av = .v (.bool true) ∧ σ = σ') := by
  refine callsA_gcS ?_ rfl
  have hde := fun σ => decode_ok (σ := σ) (tl := .shut) hp
  have hre := fun σ => rmread_ok (σ := σ) hp
  have hM : decM p = zeroM := by unfold decM; rw [hD]; rfl
  rw [hD, hM] at hde hre
  simp only [cond_false] at hde hre
  have hsm : ∀ τ, CallsA Try.prog 58 [.agg (msgC zeroM), .agg [.v (.int .u8 0), .v (.int .u8 0), .v (.int .u64 0), .sl 0 [] 0 .full, .v (.int .u8 0), .v (.int .u8 0), .v (.int .u8 0), .v (.int .u64 0), .v (.int .u64 0), .v (.int .u64 0), .v (.int .u64 0), .sl 0 [] 0 .full, .sl 0 [] 0 .full, .v (.int .u8 0), .v (.int .u64 0), .v (.int .u64 0), .sl 0 [] 0 .full, .sl 0 [] 0 .full, .v (.int .u64 0), .v (.int .u16 0), .v (.bool false)]] τ (fun av σ' => av = .v (.bool true) ∧ τ = σ') := fun τ => by
    have h := callsA_wk (σ := τ) (.cons (Wk.refl _) (.cons (WkL.agg zero_wk) .nil)) (msame_ok zeroM_ok zeroM_ok)
    simpa using h
  clear hM hD
  have hd21 : ∀ f : Nat → AV, List.drop 21 (List.map f (List.range 21)) = [] := fun _ => rfl
  obtain ⟨m, hm⟩ : ∃ m, m = zeroM := ⟨_, rfl⟩
  simp only [← hm] at hde hre hsm
  clear hm
  obtain ⟨x1, x2, x3, x4, x5, x6, x7, x8, x9, x10, x11, x12, x13, x14⟩ := m
  obtain ⟨xpk, xps, xpe, xpt, xpq⟩ := x11
  have F := And.intro hd21 (True.intro)
  refine callsA_body Try.func14 rfl rfl rfl ?_; refine sr fun _ hJ2 => ?_; refine hJ2 _ _ ?_; refine sq fun K3 hK3 => ?_; refine sr fun _ hJ5 => ?_; refine ca (c := ends_ok) (k := ?_); rintro _ _ ⟨rfl, rfl⟩; (repeat (first | simp [F] | simp (disch := omega) only [wC, if_pos, if_neg])); refine gs 11 (fun g1_2 => ?_) (fun g1_2 => ?_)
  · (try exact nope g1_2); all_goals have g1_2p := g1_2; try simp [F] at g1_2p
    all_goals
     replace F := aF g1_2 F; (try replace F := aF g1_2p F); (iterate 3 refine no2 (k := ?_)); refine hJ5 _ _ ?_; refine ct ?_; refine sr fun _ hJ7 => ?_; refine ca (c := ends_ok) (k := ?_); rintro _ _ ⟨rfl, rfl⟩; (repeat (first | simp [F] | simp (disch := omega) only [wC, if_pos, if_neg])); refine hJ7 _ _ ?_; refine ra ?_; exact gcr
  (try exact nope g1_2); all_goals have g1_2p := g1_2; try simp [F] at g1_2p
  all_goals
   replace F := aF g1_2 F; (try replace F := aF g1_2p F); (iterate 3 refine go2 (k := ?_)); refine hJ5 _ _ ?_; refine cs (fun c15 => ?_) (fun c15 => ?_)
   · (try exact nope c15); all_goals have c15p := c15; try simp [F] at c15p
     all_goals
      replace F := aF c15 F; (try replace F := aF c15p F); refine sr fun _ hJ9 => ?_; refine ca (c := ends_ok) (k := ?_); rintro _ _ ⟨rfl, rfl⟩; (repeat (first | simp [F] | simp (disch := omega) only [wC, if_pos, if_neg])); refine hJ9 _ _ ?_; refine ra ?_; exact gcr
   (try exact nope c15); all_goals have c15p := c15; try simp [F] at c15p
   all_goals
    replace F := aF c15 F; (try replace F := aF c15p F); refine run_skip ?_; refine hK3 _ _ ?_; refine sr fun _ hJ11 => ?_; refine ca (c := hde _) (k := ?_); rintro _ _ ⟨rfl, rfl⟩; (repeat (first | simp [F] | simp (disch := omega) only [wC, if_pos, if_neg])); refine hJ11 _ _ ?_; refine sr fun _ hJ13 => ?_; refine ca (c := hre _) (k := ?_); rintro _ _ ⟨rfl, rfl⟩; (repeat (first | simp [F] | simp (disch := omega) only [wC, if_pos, if_neg])); refine hJ13 _ _ ?_; refine sq fun K14 hK14 => ?_; refine sr fun _ hJ16 => ?_; refine hJ16 _ _ ?_; refine cs (fun c28 => ?_) (fun c28 => ?_)
    · (try exact nope c28); all_goals have c28p := c28; try simp [F] at c28p
      all_goals
       replace F := aF c28 F; (try replace F := aF c28p F); refine sr fun _ hJ18 => ?_; refine gs 31 (fun g6_2 => ?_) (fun g6_2 => ?_)
       · (try exact nope g6_2); all_goals have g6_2p := g6_2; try simp [F] at g6_2p
         all_goals
          replace F := aF g6_2 F; (try replace F := aF g6_2p F); (iterate 2 refine go2 (k := ?_)); refine ca (c := hsm _) (k := ?_); rintro _ _ ⟨rfl, rfl⟩; (repeat (first | simp [F] | simp (disch := omega) only [wC, if_pos, if_neg])); refine hJ18 _ _ ?_; refine ra ?_; exact gcr
       (try exact nope g6_2); all_goals have g6_2p := g6_2; try simp [F] at g6_2p
       all_goals
        replace F := aF g6_2 F; (try replace F := aF g6_2p F); (iterate 3 refine no2 (k := ?_)); refine hJ18 _ _ ?_; refine ra ?_; exact gcr
    (try exact nope c28); all_goals have c28p := c28; try simp [F] at c28p
    all_goals
     replace F := aF c28 F; (try replace F := aF c28p F); refine run_skip ?_; refine hK14 _ _ ?_; refine sr fun _ hJ20 => ?_; refine ca (c := absurd trivial (fun h ↦ h.elim)) (k := ?_); rintro _ _ ⟨rfl, rfl⟩; (repeat (first | simp [F] | simp (disch := omega) only [wC, if_pos, if_neg])); refine hJ20 _ _ ?_; refine sr fun _ hJ22 => ?_; refine gs 43 (fun g8_2 => ?_) (fun g8_2 => ?_)
     · (try exact nope g8_2); all_goals have g8_2p := g8_2; try simp [F] at g8_2p
       all_goals
        replace F := aF g8_2 F; (try replace F := aF g8_2p F); (iterate 2 refine go2 (k := ?_)); refine ca (c := absurd trivial (fun h ↦ h.elim)) (k := ?_); rintro _ _ ⟨rfl, rfl⟩; (repeat (first | simp [F] | simp (disch := omega) only [wC, if_pos, if_neg])); refine gs 48 (fun g8_7 => ?_) (fun g8_7 => ?_)
        · (try exact nope g8_7); all_goals have g8_7p := g8_7; try simp [F] at g8_7p
          all_goals
           replace F := aF g8_7 F; (try replace F := aF g8_7p F); (iterate 2 refine go2 (k := ?_)); refine gs 52 (fun g8_11 => ?_) (fun g8_11 => ?_)
           · (try exact nope g8_11); all_goals have g8_11p := g8_11; try simp [F] at g8_11p
             all_goals
              replace F := aF g8_11 F; (try replace F := aF g8_11p F); (iterate 2 refine go2 (k := ?_)); refine ca (c := absurd trivial (fun h ↦ h.elim)) (k := ?_); rintro _ _ ⟨rfl, rfl⟩; (repeat (first | simp [F] | simp (disch := omega) only [wC, if_pos, if_neg])); refine hJ22 _ _ ?_; refine ra ?_; exact gcr
           (try exact nope g8_11); all_goals have g8_11p := g8_11; try simp [F] at g8_11p
           all_goals
            replace F := aF g8_11 F; (try replace F := aF g8_11p F); (iterate 3 refine no2 (k := ?_)); refine hJ22 _ _ ?_; refine ra ?_; exact gcr
        (try exact nope g8_7); all_goals have g8_7p := g8_7; try simp [F] at g8_7p
        all_goals
         replace F := aF g8_7 F; (try replace F := aF g8_7p F); (iterate 5 refine no2 (k := ?_)); refine hJ22 _ _ ?_; refine ra ?_; exact gcr
     (try exact nope g8_2); all_goals have g8_2p := g8_2; try simp [F] at g8_2p
     all_goals
      replace F := aF g8_2 F; (try replace F := aF g8_2p F); (iterate 8 refine no2 (k := ?_)); refine hJ22 _ _ ?_; refine ra ?_; exact gcr

set_option maxHeartbeats 1600000 in
attribute [local simp] undefA List.getElem?_cons_zero List.getElem?_cons_succ in
theorem msgReads3_ok {σ : St} {p : List UInt8} (hp : 800 < p.length) (hp2 : p.length ≤ 9223372036854775807) :
    CallsA Try.prog 14 [.sl 1 (bytesA p) p.length .shut] σ (fun av σ' => av = .v (.bool true) ∧ σ = σ') := by
  refine callsA_gcS ?_ rfl
  have hgt : decide (800 < (p.length : Int)) = true := decide_eq_true (by omega)
  have F := And.intro hgt (True.intro)
  refine callsA_body Try.func14 rfl rfl rfl ?_; refine sr fun _ hJ2 => ?_; refine hJ2 _ _ ?_; refine sq fun K3 hK3 => ?_; refine sr fun _ hJ5 => ?_; refine ca (c := ends_ok) (k := ?_); rintro _ _ ⟨rfl, rfl⟩; (repeat (first | simp [F] | simp (disch := omega) only [wC, if_pos, if_neg])); refine gs 11 (fun g1_2 => ?_) (fun g1_2 => ?_)
  · (try exact nope g1_2); all_goals have g1_2p := g1_2; try simp [F] at g1_2p
    all_goals
     replace F := aF g1_2 F; (try replace F := aF g1_2p F); (iterate 3 refine no2 (k := ?_)); refine hJ5 _ _ ?_; refine ct ?_; refine sr fun _ hJ7 => ?_; refine ca (c := ends_ok) (k := ?_); rintro _ _ ⟨rfl, rfl⟩; (repeat (first | simp [F] | simp (disch := omega) only [wC, if_pos, if_neg])); refine hJ7 _ _ ?_; refine ra ?_; exact gcr
  (try exact nope g1_2); all_goals have g1_2p := g1_2; try simp [F] at g1_2p
  all_goals
   replace F := aF g1_2 F; (try replace F := aF g1_2p F); (iterate 3 refine go2 (k := ?_)); refine hJ5 _ _ ?_; refine cs (fun c15 => ?_) (fun c15 => ?_)
   · (try exact nope c15); all_goals have c15p := c15; try simp [F] at c15p
     all_goals
      replace F := aF c15 F; (try replace F := aF c15p F); refine sr fun _ hJ9 => ?_; refine ca (c := ends_ok) (k := ?_); rintro _ _ ⟨rfl, rfl⟩; (repeat (first | simp [F] | simp (disch := omega) only [wC, if_pos, if_neg])); refine hJ9 _ _ ?_; refine ra ?_; exact gcr
   (try exact nope c15); all_goals have c15p := c15; try simp [F] at c15p
   all_goals
    replace F := aF c15 F; (try replace F := aF c15p F); refine run_skip ?_; refine hK3 _ _ ?_; refine sr fun _ hJ11 => ?_; refine ca (c := absurd trivial (fun h ↦ h.elim)) (k := ?_); rintro _ _ ⟨rfl, rfl⟩; (repeat (first | simp [F] | simp (disch := omega) only [wC, if_pos, if_neg])); refine hJ11 _ _ ?_; refine sr fun _ hJ13 => ?_; refine ca (c := absurd trivial (fun h ↦ h.elim)) (k := ?_); rintro _ _ ⟨rfl, rfl⟩; (repeat (first | simp [F] | simp (disch := omega) only [wC, if_pos, if_neg])); refine hJ13 _ _ ?_; refine sq fun K14 hK14 => ?_; refine sr fun _ hJ16 => ?_; refine hJ16 _ _ ?_; refine cs (fun c28 => ?_) (fun c28 => ?_)
    · (try exact nope c28); all_goals have c28p := c28; try simp [F] at c28p
      all_goals
       replace F := aF c28 F; (try replace F := aF c28p F); refine sr fun _ hJ18 => ?_; refine gs 31 (fun g6_2 => ?_) (fun g6_2 => ?_)
       · (try exact nope g6_2); all_goals have g6_2p := g6_2; try simp [F] at g6_2p
         all_goals
          replace F := aF g6_2 F; (try replace F := aF g6_2p F); (iterate 2 refine go2 (k := ?_)); refine ca (c := absurd trivial (fun h ↦ h.elim)) (k := ?_); rintro _ _ ⟨rfl, rfl⟩; (repeat (first | simp [F] | simp (disch := omega) only [wC, if_pos, if_neg])); refine hJ18 _ _ ?_; refine ra ?_; exact gcr
       (try exact nope g6_2); all_goals have g6_2p := g6_2; try simp [F] at g6_2p
       all_goals
        replace F := aF g6_2 F; (try replace F := aF g6_2p F); (iterate 3 refine no2 (k := ?_)); refine hJ18 _ _ ?_; refine ra ?_; exact gcr
    (try exact nope c28); all_goals have c28p := c28; try simp [F] at c28p
    all_goals
     replace F := aF c28 F; (try replace F := aF c28p F); refine run_skip ?_; refine hK14 _ _ ?_; refine sr fun _ hJ20 => ?_; refine ca (c := absurd trivial (fun h ↦ h.elim)) (k := ?_); rintro _ _ ⟨rfl, rfl⟩; (repeat (first | simp [F] | simp (disch := omega) only [wC, if_pos, if_neg])); refine hJ20 _ _ ?_; refine sr fun _ hJ22 => ?_; refine gs 43 (fun g8_2 => ?_) (fun g8_2 => ?_)
     · (try exact nope g8_2); all_goals have g8_2p := g8_2; try simp [F] at g8_2p
       all_goals
        replace F := aF g8_2 F; (try replace F := aF g8_2p F); (iterate 2 refine go2 (k := ?_)); refine ca (c := absurd trivial (fun h ↦ h.elim)) (k := ?_); rintro _ _ ⟨rfl, rfl⟩; (repeat (first | simp [F] | simp (disch := omega) only [wC, if_pos, if_neg])); refine gs 48 (fun g8_7 => ?_) (fun g8_7 => ?_)
        · (try exact nope g8_7); all_goals have g8_7p := g8_7; try simp [F] at g8_7p
          all_goals
           replace F := aF g8_7 F; (try replace F := aF g8_7p F); (iterate 2 refine go2 (k := ?_)); refine gs 52 (fun g8_11 => ?_) (fun g8_11 => ?_)
           · (try exact nope g8_11); all_goals have g8_11p := g8_11; try simp [F] at g8_11p
             all_goals
              replace F := aF g8_11 F; (try replace F := aF g8_11p F); (iterate 2 refine go2 (k := ?_)); refine ca (c := absurd trivial (fun h ↦ h.elim)) (k := ?_); rintro _ _ ⟨rfl, rfl⟩; (repeat (first | simp [F] | simp (disch := omega) only [wC, if_pos, if_neg])); refine hJ22 _ _ ?_; refine ra ?_; exact gcr
           (try exact nope g8_11); all_goals have g8_11p := g8_11; try simp [F] at g8_11p
           all_goals
            replace F := aF g8_11 F; (try replace F := aF g8_11p F); (iterate 3 refine no2 (k := ?_)); refine hJ22 _ _ ?_; refine ra ?_; exact gcr
        (try exact nope g8_7); all_goals have g8_7p := g8_7; try simp [F] at g8_7p
        all_goals
         replace F := aF g8_7 F; (try replace F := aF g8_7p F); (iterate 5 refine no2 (k := ?_)); refine hJ22 _ _ ?_; refine ra ?_; exact gcr
     (try exact nope g8_2); all_goals have g8_2p := g8_2; try simp [F] at g8_2p
     all_goals
      replace F := aF g8_2 F; (try replace F := aF g8_2p F); (iterate 8 refine no2 (k := ?_)); refine hJ22 _ _ ?_; refine ra ?_; exact gcr

theorem msgReads_ok {σ : St} {p : List UInt8} (hp : p.length ≤ 9223372036854775807) :
    CallsA Try.prog 14 [.sl 1 (bytesA p) p.length .shut] σ (fun av σ' => av = .v (.bool true) ∧ σ = σ') := by
  by_cases h8 : 800 < p.length
  · exact msgReads3_ok h8 hp
  · cases hD : decB p with
    | true => exact msgReads1_ok (by omega) hD
    | false => exact msgReads2_ok (by omega) hD

end Go.Proofs.Ytdbaddholggkbaa
