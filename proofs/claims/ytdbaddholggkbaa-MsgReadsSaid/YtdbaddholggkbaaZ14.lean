import Derived.Test.YtdbaddholggkbaaZ7
import Derived.Test.YtdbaddholggkbaaZ13
import Derived.Test.YtdbaddholggkbaaZ10
import Derived.Test.YtdbaddholggkbaaZ12
/-
  When a message may be, by the document..
-/
namespace Go.Proofs.Ytdbaddholggkbaa
set_option linter.unnecessarySimpa false
set_option maxRecDepth 100000
open Go Go.Vm
set_option linter.unusedSimpArgs false
set_option linter.unusedVariables false
attribute [local simp] evalL wantedA isCall opA evalA evalAll evalsA evalOpt ofValue ofCell plain binA_eql_pn binA_neq_pn binA_gtr binA_lss binA_geq binA_leq binA_add binA_sub binA_eql binA_neq binA_orI binA_shl binA_shr binA_mul binA_quo binA_rem binA_agg_eql binA_agg_neq convA_int unA_not fieldAddrA loadA partA pickA_true pickA_false pickA_bb lenA builtinA storeA splice AV.cells AV.isCell sliceA boundA intA callOf indexAddrA newObjA buildA fillA zeroA ofCells buildSliceA indexA fieldA numA_len4 numA_take4 numA_drop4 set_appN get_appN take_appN List.getElem?_cons_zero List.getElem?_cons_succ makeA zeros64

theorem u8_all {p : UInt8 → Prop} (h : ∀ n : Fin 256, p (UInt8.ofNat n.val)) (k : UInt8) : p k := by
  have := h ⟨k.toNat, k.toNat_lt⟩
  simpa using this
theorem hasK_iff (k : UInt8) : hasK k = decide (k.toNat ≠ 0 ∧ ¬ (11 < k.toNat ∧ k.toNat < 32) ∧ k.toNat ≤ 36) := u8_all (p := fun k => hasK k = decide (k.toNat ≠ 0 ∧ ¬ (11 < k.toNat ∧ k.toNat < 32) ∧ k.toNat ≤ 36)) (by decide +kernel) k
theorem hB_outs (k : UInt8) : hB k 32 = decide (k.toNat = 2) := u8_all (p := fun k => hB k 32 = decide (k.toNat = 2)) (by decide +kernel) k
theorem hB_plan (k : UInt8) : hB k 64 = decide (k.toNat = 9) := u8_all (p := fun k => hB k 64 = decide (k.toNat = 9)) (by decide +kernel) k

set_option maxHeartbeats 1600000 in
attribute [local simp] undefA List.getElem?_cons_zero List.getElem?_cons_succ msgC outsC_noObj persC_noObj outC in
theorem rmright_ok {σ : St} {m : Msg} (hm : m.Ok) :
    CallsA Try.prog 52 [.agg (msgC m)] σ (fun av σ' => av = .v (.bool (rightM m)) ∧ σ = σ') := by
  refine callsA_gcS ?_ rfl
  have hso := fun σ => rmsame_ok (σ := σ) hm (onlyM_ok hm)
  have hon := fun σ => rmonly_ok (σ := σ) (m := m)
  have hpr := fun σ => rpright_ok (σ := σ) hm.p
  have hou := hm.outs
  have hout := hm.out
  have hfe := fun σ => rright_ok (σ := σ) (tl := .shut) hm.fee
  have hco := fun σ => rright_ok (σ := σ) (tl := .shut) hm.c
  obtain ⟨G, hG⟩ : ∃ G, G = rightM m := ⟨_, rfl⟩
  rw [← hG]
  unfold rightM at hG
  obtain ⟨Y, hY⟩ : ∃ Y, Y = onlyM m := ⟨_, rfl⟩
  obtain ⟨D, hD⟩ : ∃ D, D = decide (m = Y) := ⟨_, rfl⟩
  simp only [← hY] at hso hon hG
  simp only [← hD] at hso hG
  obtain ⟨R1, hR1⟩ : ∃ R, R = decide (Right m.fee) := ⟨_, rfl⟩
  obtain ⟨R2, hR2⟩ : ∃ R, R = decide (Right m.c) := ⟨_, rfl⟩
  obtain ⟨RP, hRP⟩ : ∃ R, R = rightB m.p := ⟨_, rfl⟩
  simp only [Bool.decide_and, ← hR1, ← hR2, ← hRP] at hG
  simp only [← hR1] at hfe
  simp only [← hR2] at hco
  simp only [← hRP] at hpr
  rw [show (2 : Nat) ^ 40 = 1099511627776 from rfl] at hG
  clear hY hD hR1 hR2 hRP hm
  obtain ⟨x1, x2, x3, x4, x5, x6, x7, x8, x9, x10, x11, x12, x13, x14⟩ := m
  obtain ⟨xpk, xps, xpe, xpt, xpq⟩ := x11
  simp only at hG hfe hco hou hout
  obtain ⟨K, hK⟩ : ∃ K, K = hasK x1 := ⟨_, rfl⟩
  obtain ⟨bU, hbU⟩ : ∃ b, b = hB x1 32 := ⟨_, rfl⟩
  obtain ⟨bP, hbP⟩ : ∃ b, b = hB x1 64 := ⟨_, rfl⟩
  rw [← hK, ← hbU, ← hbP] at hG
  rw [hasK_iff] at hK
  rw [hB_outs] at hbU
  rw [hB_plan] at hbP
  have hkn : ∀ n : UInt8, xpk = n ↔ (xpk.toNat : Int) = (n.toNat : Int) := fun n => ⟨fun e => by rw [e], fun e => UInt8.toNat_inj.1 (Int.ofNat_inj.1 e)⟩
  obtain ⟨B1, hB1⟩ : ∃ B, B = !(K && D) := ⟨_, rfl⟩
  obtain ⟨B2, hB2⟩ : ∃ B, B = !(decide (x2.toNat < 200) && decide (x5.toNat < 200) && decide (x6.toNat < 16) && decide (x7.toNat < 16) && decide (x12 ≤ 1099511627776) && decide (x13 ≤ 10000)) := ⟨_, rfl⟩
  obtain ⟨B3, hB3⟩ : ∃ B, B = !(R1 && R2 && RP) := ⟨_, rfl⟩
  obtain ⟨B4, hB4⟩ : ∃ B, B = ((bU && (decide (x10.length = 0) || decide (16 < x10.length))) || (bP && decide (xpk = 0))) := ⟨_, rfl⟩
  have hG2 : G = (!B1 && !B2 && !B3 && !B4 && x10.all outB) := by
    rw [hG, hB1, hB2, hB3, hB4]
    simp only [Bool.not_not, Bool.not_or]; ac_rfl
  clear hG
  have f1 : B1 = true → G = false := fun e => by rw [hG2, e]; rfl
  have f2 : B2 = true → G = false := fun e => by rw [hG2, e]; simp
  have f3 : B3 = true → G = false := fun e => by rw [hG2, e]; simp
  have f4 : B4 = true → G = false := fun e => by rw [hG2, e]; simp
  have F := True.intro
  refine callsA_body Try.func52 rfl rfl rfl ?_; refine sr fun _ hJ2 => ?_; refine hJ2 _ _ ?_; refine sq fun K3 hK3 => ?_; refine sqc (X := Unit) [1, 2] (fun z ρ σ1 => (ρ 28 = .v (.bool B1)) ∧ (σ1 = { σ with objs := σ.objs ++ [[.v (.int .u8 x1.toNat), .v (.int .u8 x2.toNat), .v (.int .u64 x3), .sl 5 (coinsC x4) x4.length .shut, .v (.int .u8 x5.toNat), .v (.int .u8 x6.toNat), .v (.int .u8 x7.toNat), .v (.int .u64 (limb x8.v 0)), .v (.int .u64 (limb x8.v 1)), .v (.int .u64 (limb x8.v 2)), .v (.int .u64 (limb x8.v 3)), .sl 5 (coinsC x9) x9.length .shut, .sl 2 (outsC x10) x10.length .shut, .v (.int .u8 xpk.toNat), .v (.int .u64 xps), .v (.int .u64 xpe), .sl 5 (coinsC xpt) xpt.length .shut, .sl 2 (persC xpq) xpq.length .shut, .v (.int .u64 x12), .v (.int .u16 x13), .v (.bool x14)]] })) ?cy4 ?cx4
  case cy4 =>
   rintro z ρCr1 σ1 hFCr1 ⟨h28, hσ⟩; obtain rfl := hσ.symm
   have fCr1 := keepL hFCr1
   (try simp [KeepL, F] at fCr1); replace F := aF h28 F; (try replace F := aF fCr1 F); refine cs (t := B1) (fun c28 => ?_) (fun c28 => ?_)
   · (try exact nope c28); all_goals have c28p := c28; try simp [F] at c28p
     all_goals
      replace F := aF c28 F; try replace F := aF c28p F
      have h0 : G = false := f1 c28
      replace F := aF h0 F; refine sr fun _ hJ6 => ?_; refine hJ6 _ _ ?_; refine ra ?_; exact gcr
   (try exact nope c28); all_goals have c28p := c28; try simp [F] at c28p
   all_goals
    replace F := aF c28 F; (try replace F := aF c28p F); refine run_skip ?_; refine hK3 _ _ ?_; refine sq fun K7 hK7 => ?_; refine sqc (X := Unit) [1, 2] (fun z ρ σ1 => (ρ 56 = .v (.bool B2)) ∧ (σ1 = { σ with objs := σ.objs ++ [[.v (.int .u8 x1.toNat), .v (.int .u8 x2.toNat), .v (.int .u64 x3), .sl 5 (coinsC x4) x4.length .shut, .v (.int .u8 x5.toNat), .v (.int .u8 x6.toNat), .v (.int .u8 x7.toNat), .v (.int .u64 (limb x8.v 0)), .v (.int .u64 (limb x8.v 1)), .v (.int .u64 (limb x8.v 2)), .v (.int .u64 (limb x8.v 3)), .sl 5 (coinsC x9) x9.length .shut, .sl 2 (outsC x10) x10.length .shut, .v (.int .u8 xpk.toNat), .v (.int .u64 xps), .v (.int .u64 xpe), .sl 5 (coinsC xpt) xpt.length .shut, .sl 2 (persC xpq) xpq.length .shut, .v (.int .u64 x12), .v (.int .u16 x13), .v (.bool x14)]] })) ?cy8 ?cx8
    case cy8 =>
     rintro z ρCr3 σ1 hFCr3 ⟨h56, hσ⟩; obtain rfl := hσ.symm
     have fCr3 := keepL hFCr3
     (try simp [KeepL, F] at fCr3); replace F := aF h56 F; (try replace F := aF fCr3 F); refine cs (t := B2) (fun c56 => ?_) (fun c56 => ?_)
     · (try exact nope c56); all_goals have c56p := c56; try simp [F] at c56p
       all_goals
        replace F := aF c56 F; try replace F := aF c56p F
        have h0 : G = false := f2 c56
        replace F := aF h0 F; refine sr fun _ hJ10 => ?_; refine hJ10 _ _ ?_; refine ra ?_; exact gcr
     (try exact nope c56); all_goals have c56p := c56; try simp [F] at c56p
     all_goals
      replace F := aF c56 F; (try replace F := aF c56p F); refine run_skip ?_; refine hK7 _ _ ?_; refine sq fun K11 hK11 => ?_; refine sqc (X := Unit) [1, 2] (fun z ρ σ1 => (ρ 72 = .v (.bool B3)) ∧ (σ1 = { σ with objs := σ.objs ++ [[.v (.int .u8 x1.toNat), .v (.int .u8 x2.toNat), .v (.int .u64 x3), .sl 5 (coinsC x4) x4.length .shut, .v (.int .u8 x5.toNat), .v (.int .u8 x6.toNat), .v (.int .u8 x7.toNat), .v (.int .u64 (limb x8.v 0)), .v (.int .u64 (limb x8.v 1)), .v (.int .u64 (limb x8.v 2)), .v (.int .u64 (limb x8.v 3)), .sl 5 (coinsC x9) x9.length .shut, .sl 2 (outsC x10) x10.length .shut, .v (.int .u8 xpk.toNat), .v (.int .u64 xps), .v (.int .u64 xpe), .sl 5 (coinsC xpt) xpt.length .shut, .sl 2 (persC xpq) xpq.length .shut, .v (.int .u64 x12), .v (.int .u16 x13), .v (.bool x14)]] })) ?cy12 ?cx12
      case cy12 =>
       rintro z ρCr5 σ1 hFCr5 ⟨h72, hσ⟩; obtain rfl := hσ.symm
       have fCr5 := keepL hFCr5
       (try simp [KeepL, F] at fCr5); replace F := aF h72 F; (try replace F := aF fCr5 F); refine cs (t := B3) (fun c72 => ?_) (fun c72 => ?_)
       · (try exact nope c72); all_goals have c72p := c72; try simp [F] at c72p
         all_goals
          replace F := aF c72 F; try replace F := aF c72p F
          have h0 : G = false := f3 c72
          replace F := aF h0 F; refine sr fun _ hJ14 => ?_; refine hJ14 _ _ ?_; refine ra ?_; exact gcr
       (try exact nope c72); all_goals have c72p := c72; try simp [F] at c72p
       all_goals
        replace F := aF c72 F; (try replace F := aF c72p F); refine run_skip ?_; refine hK11 _ _ ?_; refine sq fun K15 hK15 => ?_; refine sqc (X := Unit) [1, 2] (fun z ρ σ1 => (ρ 98 = .v (.bool B4)) ∧ (σ1 = { σ with objs := σ.objs ++ [[.v (.int .u8 x1.toNat), .v (.int .u8 x2.toNat), .v (.int .u64 x3), .sl 5 (coinsC x4) x4.length .shut, .v (.int .u8 x5.toNat), .v (.int .u8 x6.toNat), .v (.int .u8 x7.toNat), .v (.int .u64 (limb x8.v 0)), .v (.int .u64 (limb x8.v 1)), .v (.int .u64 (limb x8.v 2)), .v (.int .u64 (limb x8.v 3)), .sl 5 (coinsC x9) x9.length .shut, .sl 2 (outsC x10) x10.length .shut, .v (.int .u8 xpk.toNat), .v (.int .u64 xps), .v (.int .u64 xpe), .sl 5 (coinsC xpt) xpt.length .shut, .sl 2 (persC xpq) xpq.length .shut, .v (.int .u64 x12), .v (.int .u16 x13), .v (.bool x14)]] })) ?cy16 ?cx16
        case cy16 =>
         rintro z ρCr7 σ1 hFCr7 ⟨h98, hσ⟩; obtain rfl := hσ.symm
         have fCr7 := keepL hFCr7
         (try simp [KeepL, F] at fCr7); replace F := aF h98 F; (try replace F := aF fCr7 F); refine cs (t := B4) (fun c98 => ?_) (fun c98 => ?_)
         · (try exact nope c98); all_goals have c98p := c98; try simp [F] at c98p
           all_goals
            replace F := aF c98 F; try replace F := aF c98p F
            have h0 : G = false := f4 c98
            replace F := aF h0 F; refine sr fun _ hJ18 => ?_; refine hJ18 _ _ ?_; refine ra ?_; exact gcr
         (try exact nope c98); all_goals have c98p := c98; try simp [F] at c98p
         all_goals
          replace F := aF c98 F; (try replace F := aF c98p F); refine run_skip ?_; refine hK15 _ _ ?_; refine sq fun K19 hK19 => ?_; refine sr fun _ hJ21 => ?_; refine hJ21 _ _ ?_; refine run_block_k ?_; refine run_loopF (X := Nat) [1] (fun i ρ σ1 => (i ≤ x10.length) ∧ (x10.all outB = (x10.drop i).all outB) ∧ (ρ 3 = .v (.int .i64 i)) ∧ (σ1 = { σ with objs := σ.objs ++ [[.v (.int .u8 x1.toNat), .v (.int .u8 x2.toNat), .v (.int .u64 x3), .sl 5 (coinsC x4) x4.length .shut, .v (.int .u8 x5.toNat), .v (.int .u8 x6.toNat), .v (.int .u8 x7.toNat), .v (.int .u64 (limb x8.v 0)), .v (.int .u64 (limb x8.v 1)), .v (.int .u64 (limb x8.v 2)), .v (.int .u64 (limb x8.v 3)), .sl 5 (coinsC x9) x9.length .shut, .sl 2 (outsC x10) x10.length .shut, .v (.int .u8 xpk.toNat), .v (.int .u64 xps), .v (.int .u64 xpe), .sl 5 (coinsC xpt) xpt.length .shut, .sl 2 (persC xpq) xpq.length .shut, .v (.int .u64 x12), .v (.int .u16 x13), .v (.bool x14)]] })) (fun i => x10.length - i) (0) ?st1 ?rd1
          case st1 =>
           refine ⟨lp, ?_, lp, ?_⟩
           · rfl
           · rfl
          case rd1 =>
           rintro i ρ1 σ1 hF1 ⟨hi, hE, h3, hσ⟩; obtain rfl := hσ.symm
           have f1 := keepL hF1
           (try simp [KeepL, F] at f1); replace F := aF h3 F; (try replace F := aF f1 F); refine sq fun K22 hK22 => ?_; refine sr fun _ hJ24 => ?_; refine hJ24 _ _ ?_; refine cs (fun c103 => ?_) (fun c103 => ?_)
           · (try exact nope c103); all_goals have c103p := c103; try simp [F] at c103p
             all_goals
              replace F := aF c103 F; (try replace F := aF c103p F); refine run_skip ?_; refine hK22 _ _ ?_; refine sq fun K25 hK25 => ?_; refine run_block_k ?_; refine sq fun K26 hK26 => ?_
              have hlt : i < x10.length := by have h := c103; simp at h; omega
              have hat := outsC_at hlt
              have hq1 : i * 2 + 2 ≤ x10.length * 2 := by omega
              have hx5 := hout _ (List.getElem_mem hlt)
              have hcons : x10.drop i = x10[i] :: x10.drop (i + 1) := List.drop_eq_getElem_cons hlt
              obtain ⟨x, hx⟩ : ∃ x, x = x10[i] := ⟨_, rfl⟩
              rw [← hx] at hat hx5 hcons
              rw [hcons] at hE
              obtain ⟨xl, xc⟩ := x
              simp only [List.all_cons, outB] at hE
              simp only at hx5
              have hrr := fun σ => rright_ok (σ := σ) (tl := .shut) hx5
              obtain ⟨R, hR⟩ : ∃ R, R = decide (Right xc) := ⟨_, rfl⟩
              rw [← hR] at hE
              simp only [← hR] at hrr
              have hE2 : (decide (xl.toNat < 200) && R) = false → x10.all outB = false := fun e => by rw [hE, e]; rfl
              replace F := aF hlt F; replace F := aF hat F; replace F := aF hq1 F; refine rg' (h := fun J27 hJ27 => ?_); refine gs 113 (fun g12_7 => ?_) (fun g12_7 => ?_)
              · (try exact nope g12_7); all_goals have g12_7p := g12_7; try simp [F] at g12_7p
                all_goals
                 replace F := aF g12_7 F; try replace F := aF g12_7p F
                 have hz : G = false := by rw [hG2, hE2 (by have h := g12_7; simp at h; simp; omega)]; simp
                 replace F := aF hz F; (iterate 8 refine no2 (k := ?_)); refine hJ27 _ _ ?_; refine hK26 _ _ ?_; refine ct ?_; refine sr fun _ hJ29 => ?_; refine hJ29 _ _ ?_; refine ra ?_; exact gcr
              (try exact nope g12_7); all_goals have g12_7p := g12_7; try simp [F] at g12_7p
              all_goals
               replace F := aF g12_7 F; try replace F := aF g12_7p F
               have hz7 : xl.toNat < 200 := by have h := g12_7; simp at h; omega
               (iterate 6 refine go2 (k := ?_)); refine ca (c := hrr _) (k := ?_); rintro _ _ ⟨rfl, rfl⟩; (repeat (first | simp [F] | simp (disch := omega) only [wC, if_pos, if_neg])); refine go2 (k := ?_); refine hJ27 _ _ ?_; refine hK26 _ _ ?_; refine cs (t := !R) (fun c122 => ?_) (fun c122 => ?_)
               · (try exact nope c122); all_goals have c122p := c122; try simp [F] at c122p
                 all_goals
                  replace F := aF c122 F; try replace F := aF c122p F
                  have hz : G = false := by rw [hG2, hE2 (by have h := c122; simp at h; simp [h])]; simp
                  replace F := aF hz F; refine sr fun _ hJ31 => ?_; refine hJ31 _ _ ?_; refine ra ?_; exact gcr
               (try exact nope c122); all_goals have c122p := c122; try simp [F] at c122p
               all_goals
                replace F := aF c122 F; (try replace F := aF c122p F); refine run_skip ?_; refine hK25 _ _ ?_; refine rg' (h := fun J32 hJ32 => ?_); refine hJ32 _ _ ?_; refine ⟨(i + 1), ⟨kp, lp, ?_, lp, lp⟩, lp⟩
                · have h := c122
                  simp at h
                  rw [hE, h]
                  simp [hz7]
           (try exact nope c103); all_goals have c103p := c103; try simp [F] at c103p
           all_goals
            replace F := aF c103 F; try replace F := aF c103p F
            have hz : G = true := by rw [hG2, c28, c56, c72, c98, hE, List.drop_of_length_le (by have h := c103; simp at h; omega)]; rfl
            replace F := aF hz F; refine run_exit ?_; refine hK19 _ _ ?_; refine sr fun _ hJ34 => ?_; refine hJ34 _ _ ?_; refine ra ?_; exact gcr
        case cx16 =>
         intro K16 hK16
         refine rg' (h := fun J35 hJ35 => ?_); refine gs 76 (fun g7_3 => ?_) (fun g7_3 => ?_)
         · (try exact nope g7_3); all_goals have g7_3p := g7_3; try simp [F] at g7_3p
           all_goals
            replace F := aF g7_3 F; try replace F := aF g7_3p F
            have hu : bU = true := by have h := g7_3; rw [hbU]; simp at h; simp; omega
            replace F := aF hu F; (iterate 5 refine go2 (k := ?_)); refine gs 81 (fun g7_8 => ?_) (fun g7_8 => ?_)
            · (try exact nope g7_8); all_goals have g7_8p := g7_8; try simp [F] at g7_8p
              all_goals
               replace F := aF g7_8 F; (try replace F := aF g7_8p F); (iterate 4 refine no2 (k := ?_)); refine go2 (k := ?_); (iterate 9 refine no2 (k := ?_)); refine hJ35 _ _ ?_; refine hK16 (()) _ _ ⟨kp, ?_, lp⟩
               · rw [hB4]
                 simp [F]
                 (try (rw [Bool.eq_iff_iff]; simp)); all_goals try (first | omega | (rw [hkn]; simp; done))
            (try exact nope g7_8); all_goals have g7_8p := g7_8; try simp [F] at g7_8p
            all_goals
             replace F := aF g7_8 F; (try replace F := aF g7_8p F); (iterate 5 refine go2 (k := ?_)); refine gs 88 (fun g7_15 => ?_) (fun g7_15 => ?_)
             · (try exact nope g7_15); all_goals have g7_15p := g7_15; try simp [F] at g7_15p
               all_goals
                replace F := aF g7_15 F; (try replace F := aF g7_15p F); (iterate 9 refine no2 (k := ?_)); refine hJ35 _ _ ?_; refine hK16 (()) _ _ ⟨kp, ?_, lp⟩
                · rw [hB4]
                  simp [F]
                  (try (rw [Bool.eq_iff_iff]; simp)); all_goals try (first | omega | (rw [hkn]; simp; done))
             (try exact nope g7_15); all_goals have g7_15p := g7_15; try simp [F] at g7_15p
             all_goals
              replace F := aF g7_15 F; (try replace F := aF g7_15p F); (iterate 4 refine go2 (k := ?_)); refine gs 92 (fun g7_19 => ?_) (fun g7_19 => ?_)
              · (try exact nope g7_19); all_goals have g7_19p := g7_19; try simp [F] at g7_19p
                all_goals
                 replace F := aF g7_19 F; try replace F := aF g7_19p F
                 have hp : bP = true := by have h := g7_19; rw [hbP]; simp at h; simp; omega
                 replace F := aF hp F; (iterate 5 refine go2 (k := ?_)); refine hJ35 _ _ ?_; refine hK16 (()) _ _ ⟨kp, ?_, lp⟩
                 · rw [hB4]
                   simp [F]
                   (try (rw [Bool.eq_iff_iff]; simp)); all_goals try (first | omega | (rw [hkn]; simp; done))
              (try exact nope g7_19); all_goals have g7_19p := g7_19; try simp [F] at g7_19p
              all_goals
               replace F := aF g7_19 F; try replace F := aF g7_19p F
               have hp : bP = false := by have h := g7_19; rw [hbP]; simp at h; simp; omega
               replace F := aF hp F; (iterate 4 refine no2 (k := ?_)); refine go2 (k := ?_); refine hJ35 _ _ ?_; refine hK16 (()) _ _ ⟨kp, ?_, lp⟩
               · rw [hB4]
                 simp [F]
                 (try (rw [Bool.eq_iff_iff]; simp)); all_goals try (first | omega | (rw [hkn]; simp; done))
         (try exact nope g7_3); all_goals have g7_3p := g7_3; try simp [F] at g7_3p
         all_goals
          replace F := aF g7_3 F; try replace F := aF g7_3p F
          have hu : bU = false := by have h := g7_3; rw [hbU]; simp at h; simp; omega
          replace F := aF hu F; (iterate 10 refine no2 (k := ?_)); (iterate 4 refine go2 (k := ?_)); refine gs 92 (fun g7_19 => ?_) (fun g7_19 => ?_)
          · (try exact nope g7_19); all_goals have g7_19p := g7_19; try simp [F] at g7_19p
            all_goals
             replace F := aF g7_19 F; try replace F := aF g7_19p F
             have hp : bP = true := by have h := g7_19; rw [hbP]; simp at h; simp; omega
             replace F := aF hp F; (iterate 5 refine go2 (k := ?_)); refine hJ35 _ _ ?_; refine hK16 (()) _ _ ⟨kp, ?_, lp⟩
             · rw [hB4]
               simp [F]
               (try (rw [Bool.eq_iff_iff]; simp)); all_goals try (first | omega | (rw [hkn]; simp; done))
          (try exact nope g7_19); all_goals have g7_19p := g7_19; try simp [F] at g7_19p
          all_goals
           replace F := aF g7_19 F; try replace F := aF g7_19p F
           have hp : bP = false := by have h := g7_19; rw [hbP]; simp at h; simp; omega
           replace F := aF hp F; (iterate 4 refine no2 (k := ?_)); refine go2 (k := ?_); refine hJ35 _ _ ?_; refine hK16 (()) _ _ ⟨kp, ?_, lp⟩
           · rw [hB4]
             simp [F]
             (try (rw [Bool.eq_iff_iff]; simp)); all_goals try (first | omega | (rw [hkn]; simp; done))
      case cx12 =>
       intro K12 hK12
       refine rg' (h := fun J36 hJ36 => ?_); refine ca (c := hfe _) (k := ?_); rintro _ _ ⟨rfl, rfl⟩; (repeat (first | simp [F] | simp (disch := omega) only [wC, if_pos, if_neg])); refine gs 61 (fun g5_4 => ?_) (fun g5_4 => ?_)
       · (try exact nope g5_4); all_goals have g5_4p := g5_4; try simp [F] at g5_4p
         all_goals
          replace F := aF g5_4 F; (try replace F := aF g5_4p F); (iterate 8 refine no2 (k := ?_)); refine hJ36 _ _ ?_; refine hK12 (()) _ _ ⟨kp, ?_, lp⟩
          · rw [hB3]
            simp [F]
            try rfl
       (try exact nope g5_4); all_goals have g5_4p := g5_4; try simp [F] at g5_4p
       all_goals
        replace F := aF g5_4 F; (try replace F := aF g5_4p F); (iterate 2 refine go2 (k := ?_)); refine ca (c := hco _) (k := ?_); rintro _ _ ⟨rfl, rfl⟩; (repeat (first | simp [F] | simp (disch := omega) only [wC, if_pos, if_neg])); refine go2 (k := ?_); refine gs 67 (fun g5_10 => ?_) (fun g5_10 => ?_)
        · (try exact nope g5_10); all_goals have g5_10p := g5_10; try simp [F] at g5_10p
          all_goals
           replace F := aF g5_10 F; (try replace F := aF g5_10p F); (iterate 4 refine no2 (k := ?_)); refine hJ36 _ _ ?_; refine hK12 (()) _ _ ⟨kp, ?_, lp⟩
           · rw [hB3]
             simp [F]
             try rfl
        (try exact nope g5_10); all_goals have g5_10p := g5_10; try simp [F] at g5_10p
        all_goals
         replace F := aF g5_10 F; (try replace F := aF g5_10p F); (iterate 2 refine go2 (k := ?_)); refine ca (c := hpr _) (k := ?_); rintro _ _ ⟨rfl, rfl⟩; (repeat (first | simp [F] | simp (disch := omega) only [wC, if_pos, if_neg])); refine go2 (k := ?_); refine hJ36 _ _ ?_; refine hK12 (()) _ _ ⟨kp, ?_, lp⟩
         · rw [hB3]
           simp [F]
           try rfl
    case cx8 =>
     intro K8 hK8
     refine rg' (h := fun J37 hJ37 => ?_); refine gs 32 (fun g3_3 => ?_) (fun g3_3 => ?_)
     · (try exact nope g3_3); all_goals have g3_3p := g3_3; try simp [F] at g3_3p
       all_goals
        replace F := aF g3_3 F; try replace F := aF g3_3p F
        have hq3 : ¬ x2.toNat < 200 := by have h := g3_3; simp at h; omega
        replace F := aF hq3 F; (iterate 15 refine no2 (k := ?_)); refine hJ37 _ _ ?_; refine hK8 (()) _ _ ⟨kp, ?_, lp⟩
        · rw [hB2]
          simp [F]
          (try (rw [Bool.eq_iff_iff]; simp)); try omega
     (try exact nope g3_3); all_goals have g3_3p := g3_3; try simp [F] at g3_3p
     all_goals
      replace F := aF g3_3 F; try replace F := aF g3_3p F
      have hq3 : x2.toNat < 200 := by have h := g3_3; simp at h; omega
      replace F := aF hq3 F; (iterate 3 refine go2 (k := ?_)); refine gs 37 (fun g3_8 => ?_) (fun g3_8 => ?_)
      · (try exact nope g3_8); all_goals have g3_8p := g3_8; try simp [F] at g3_8p
        all_goals
         replace F := aF g3_8 F; try replace F := aF g3_8p F
         have hq8 : ¬ x5.toNat < 200 := by have h := g3_8; simp at h; omega
         replace F := aF hq8 F; (iterate 12 refine no2 (k := ?_)); refine hJ37 _ _ ?_; refine hK8 (()) _ _ ⟨kp, ?_, lp⟩
         · rw [hB2]
           simp [F]
           (try (rw [Bool.eq_iff_iff]; simp)); try omega
      (try exact nope g3_8); all_goals have g3_8p := g3_8; try simp [F] at g3_8p
      all_goals
       replace F := aF g3_8 F; try replace F := aF g3_8p F
       have hq8 : x5.toNat < 200 := by have h := g3_8; simp at h; omega
       replace F := aF hq8 F; (iterate 3 refine go2 (k := ?_)); refine gs 42 (fun g3_13 => ?_) (fun g3_13 => ?_)
       · (try exact nope g3_13); all_goals have g3_13p := g3_13; try simp [F] at g3_13p
         all_goals
          replace F := aF g3_13 F; try replace F := aF g3_13p F
          have hq13 : ¬ x6.toNat < 16 := by have h := g3_13; simp at h; omega
          replace F := aF hq13 F; (iterate 9 refine no2 (k := ?_)); refine hJ37 _ _ ?_; refine hK8 (()) _ _ ⟨kp, ?_, lp⟩
          · rw [hB2]
            simp [F]
            (try (rw [Bool.eq_iff_iff]; simp)); try omega
       (try exact nope g3_13); all_goals have g3_13p := g3_13; try simp [F] at g3_13p
       all_goals
        replace F := aF g3_13 F; try replace F := aF g3_13p F
        have hq13 : x6.toNat < 16 := by have h := g3_13; simp at h; omega
        replace F := aF hq13 F; (iterate 3 refine go2 (k := ?_)); refine gs 47 (fun g3_18 => ?_) (fun g3_18 => ?_)
        · (try exact nope g3_18); all_goals have g3_18p := g3_18; try simp [F] at g3_18p
          all_goals
           replace F := aF g3_18 F; try replace F := aF g3_18p F
           have hq18 : ¬ x7.toNat < 16 := by have h := g3_18; simp at h; omega
           replace F := aF hq18 F; (iterate 6 refine no2 (k := ?_)); refine hJ37 _ _ ?_; refine hK8 (()) _ _ ⟨kp, ?_, lp⟩
           · rw [hB2]
             simp [F]
             (try (rw [Bool.eq_iff_iff]; simp)); try omega
        (try exact nope g3_18); all_goals have g3_18p := g3_18; try simp [F] at g3_18p
        all_goals
         replace F := aF g3_18 F; try replace F := aF g3_18p F
         have hq18 : x7.toNat < 16 := by have h := g3_18; simp at h; omega
         replace F := aF hq18 F; (iterate 3 refine go2 (k := ?_)); refine gs 52 (fun g3_23 => ?_) (fun g3_23 => ?_)
         · (try exact nope g3_23); all_goals have g3_23p := g3_23; try simp [F] at g3_23p
           all_goals
            replace F := aF g3_23 F; try replace F := aF g3_23p F
            have hq23 : ¬ x12 ≤ 1099511627776 := by have h := g3_23; simp at h; omega
            replace F := aF hq23 F; (iterate 3 refine no2 (k := ?_)); refine hJ37 _ _ ?_; refine hK8 (()) _ _ ⟨kp, ?_, lp⟩
            · rw [hB2]
              simp [F]
              (try (rw [Bool.eq_iff_iff]; simp)); try omega
         (try exact nope g3_23); all_goals have g3_23p := g3_23; try simp [F] at g3_23p
         all_goals
          replace F := aF g3_23 F; try replace F := aF g3_23p F
          have hq23 : x12 ≤ 1099511627776 := by have h := g3_23; simp at h; omega
          replace F := aF hq23 F; (iterate 3 refine go2 (k := ?_)); refine hJ37 _ _ ?_; refine hK8 (()) _ _ ⟨kp, ?_, lp⟩
          · rw [hB2]
            simp [F]
            (try (rw [Bool.eq_iff_iff]; simp)); try omega
  case cx4 =>
   intro K4 hK4
   refine run_draw (by kernel_rfl) fun J38 hJ38 => ?_
   refine rp2 0 (k := ?_); refine rp2 1 (k := ?_); refine rp2 2 (k := ?_); refine rp2 3 (k := ?_); refine gd 7 (fun g1_3 => ?_) (fun g1_3 => ?_)
   · (try exact nope g1_3); all_goals have g1_3p := g1_3; try simp [F] at g1_3p
     all_goals
      replace F := aF g1_3 F; try replace F := aF g1_3p F
      have k0 : K = false := by have h := g1_3; rw [hK]; simp at h; simp; omega
      replace F := aF k0 F; refine rp2 4 (k := ?_); refine rp2 5 (k := ?_); refine rp2 6 (k := ?_); refine rp2 7 (k := ?_); refine rp2 8 (k := ?_); refine rp2 9 (k := ?_); refine rp2 10 (k := ?_); refine rp2 11 (k := ?_); refine rp2 12 (k := ?_); refine rp2 13 (k := ?_); refine rp2 14 (k := ?_); refine rp2 15 (k := ?_); refine rp2 16 (k := ?_); refine rp2 17 (k := ?_); refine rp2 18 (k := ?_); refine rp2 19 (k := ?_); refine rp2 20 (k := ?_); refine dop 21 rfl ?_; (repeat (first | simp [F] | simp (disch := omega) only [wC, if_pos, if_neg])); refine dop 22 rfl ?_; (repeat (first | simp [F] | simp (disch := omega) only [wC, if_pos, if_neg])); refine rp2 23 (k := ?_); refine rp2 24 (k := ?_); refine dd ?_; refine hJ38 _ _ ?_; refine hK4 (()) _ _ ⟨kp, ?_, lp⟩
      · rw [hB1]
        simp [F]
        try rfl
   (try exact nope g1_3); all_goals have g1_3p := g1_3; try simp [F] at g1_3p
   all_goals
    replace F := aF g1_3 F; try replace F := aF g1_3p F
    have k1 : ¬ x1.toNat = 0 := by have h := g1_3; simp at h; omega
    refine rp2 4 (k := ?_); refine rp2 5 (k := ?_); refine rp2 6 (k := ?_); refine rp2 7 (k := ?_); refine gd 11 (fun g1_7 => ?_) (fun g1_7 => ?_)
    · (try exact nope g1_7); all_goals have g1_7p := g1_7; try simp [F] at g1_7p
      all_goals
       replace F := aF g1_7 F; try replace F := aF g1_7p F
       have k2 : 11 < x1.toNat := by have h := g1_7; simp at h; omega
       refine rp2 8 (k := ?_); refine rp2 9 (k := ?_); refine rp2 10 (k := ?_); refine rp2 11 (k := ?_); refine rp2 12 (k := ?_); refine rp2 13 (k := ?_); refine gd 17 (fun g1_13 => ?_) (fun g1_13 => ?_)
       · (try exact nope g1_13); all_goals have g1_13p := g1_13; try simp [F] at g1_13p
         all_goals
          replace F := aF g1_13 F; try replace F := aF g1_13p F
          have k0 : K = false := by have h := g1_13; rw [hK]; simp at h; simp; omega
          replace F := aF k0 F; refine rp2 14 (k := ?_); refine rp2 15 (k := ?_); refine rp2 16 (k := ?_); refine rp2 17 (k := ?_); refine rp2 18 (k := ?_); refine rp2 19 (k := ?_); refine rp2 20 (k := ?_); refine dop 21 rfl ?_; (repeat (first | simp [F] | simp (disch := omega) only [wC, if_pos, if_neg])); refine dop 22 rfl ?_; (repeat (first | simp [F] | simp (disch := omega) only [wC, if_pos, if_neg])); refine rp2 23 (k := ?_); refine rp2 24 (k := ?_); refine dd ?_; refine hJ38 _ _ ?_; refine hK4 (()) _ _ ⟨kp, ?_, lp⟩
          · rw [hB1]
            simp [F]
            try rfl
       (try exact nope g1_13); all_goals have g1_13p := g1_13; try simp [F] at g1_13p
       all_goals
        replace F := aF g1_13 F; try replace F := aF g1_13p F
        have k3 : ¬ x1.toNat < 32 := by have h := g1_13; simp at h; omega
        refine rp2 14 (k := ?_); refine rp2 15 (k := ?_); refine rp2 16 (k := ?_); refine rp2 17 (k := ?_); refine rp2 18 (k := ?_); refine gd 22 (fun g1_18 => ?_) (fun g1_18 => ?_)
        · (try exact nope g1_18); all_goals have g1_18p := g1_18; try simp [F] at g1_18p
          all_goals
           replace F := aF g1_18 F; try replace F := aF g1_18p F
           have k0 : K = false := by have h := g1_18; rw [hK]; simp at h; simp; omega
           replace F := aF k0 F; refine rp2 19 (k := ?_); refine rp2 20 (k := ?_); refine dop 21 rfl ?_; (repeat (first | simp [F] | simp (disch := omega) only [wC, if_pos, if_neg])); refine dop 22 rfl ?_; (repeat (first | simp [F] | simp (disch := omega) only [wC, if_pos, if_neg])); refine rp2 23 (k := ?_); refine rp2 24 (k := ?_); refine dd ?_; refine hJ38 _ _ ?_; refine hK4 (()) _ _ ⟨kp, ?_, lp⟩
           · rw [hB1]
             simp [F]
             try rfl
        (try exact nope g1_18); all_goals have g1_18p := g1_18; try simp [F] at g1_18p
        all_goals
         replace F := aF g1_18 F; try replace F := aF g1_18p F
         have k0 : K = true := by have h := g1_18; rw [hK]; simp at h; simp; omega
         replace F := aF k0 F; refine rp2 19 (k := ?_); refine rp2 20 (k := ?_); refine dc 21 rfl (c := hon _) (k := ?_); rintro _ _ ⟨rfl, rfl⟩
         refine ⟨by first | exact fun _ _ h => h | (refine later_list [19, 17, 16, 15, 14, 13, 12, 11, 10, 9, 8, 7, 6, 5, 4, 3, 2, 1, 0] (by kernel_rfl) (List.forall_mem_cons.2 ⟨fun _ => fact2 rfl rfl ?_, List.forall_mem_cons.2 ⟨fun _ => fact2 rfl rfl ?_, List.forall_mem_cons.2 ⟨fun _ => fact2 rfl rfl ?_, List.forall_mem_cons.2 ⟨fun _ => fact2 rfl rfl ?_, List.forall_mem_cons.2 ⟨fun _ => fact2 rfl rfl ?_, List.forall_mem_cons.2 ⟨fun _ => fact2 rfl rfl ?_, List.forall_mem_cons.2 ⟨fun _ => fact2 rfl rfl ?_, List.forall_mem_cons.2 ⟨fun _ => fact2 rfl rfl ?_, List.forall_mem_cons.2 ⟨fun _ => fact2 rfl rfl ?_, List.forall_mem_cons.2 ⟨fun _ => fact2 rfl rfl ?_, List.forall_mem_cons.2 ⟨fun _ => fact2 rfl rfl ?_, List.forall_mem_cons.2 ⟨fun _ => fact2 rfl rfl ?_, List.forall_mem_cons.2 ⟨fun _ => fact2 rfl rfl ?_, List.forall_mem_cons.2 ⟨fun _ => fact2 rfl rfl ?_, List.forall_mem_cons.2 ⟨fun _ => fact2 rfl rfl ?_, List.forall_mem_cons.2 ⟨fun _ => fact2 rfl rfl ?_, List.forall_mem_cons.2 ⟨fun _ => fact2 rfl rfl ?_, List.forall_mem_cons.2 ⟨fun _ => fact2 rfl rfl ?_, List.forall_mem_cons.2 ⟨fun _ => fact2 rfl rfl ?_, fun _ h => absurd h List.not_mem_nil⟩⟩⟩⟩⟩⟩⟩⟩⟩⟩⟩⟩⟩⟩⟩⟩⟩⟩⟩) <;> constructor <;> first | rfl | (simp [F]; done)), ?_⟩
         (repeat (first | simp [F] | simp (disch := omega) only [wC, if_pos, if_neg])); refine dc 22 rfl (c := hso _) (k := ?_); rintro _ _ ⟨rfl, rfl⟩
         refine ⟨by first | exact fun _ _ h => h | (refine later_list [17, 16, 15, 14, 13, 12, 11, 10, 9, 8, 7, 6, 5, 4, 3, 2, 1, 0] (by kernel_rfl) (List.forall_mem_cons.2 ⟨fun _ => fact2 rfl rfl ?_, List.forall_mem_cons.2 ⟨fun _ => fact2 rfl rfl ?_, List.forall_mem_cons.2 ⟨fun _ => fact2 rfl rfl ?_, List.forall_mem_cons.2 ⟨fun _ => fact2 rfl rfl ?_, List.forall_mem_cons.2 ⟨fun _ => fact2 rfl rfl ?_, List.forall_mem_cons.2 ⟨fun _ => fact2 rfl rfl ?_, List.forall_mem_cons.2 ⟨fun _ => fact2 rfl rfl ?_, List.forall_mem_cons.2 ⟨fun _ => fact2 rfl rfl ?_, List.forall_mem_cons.2 ⟨fun _ => fact2 rfl rfl ?_, List.forall_mem_cons.2 ⟨fun _ => fact2 rfl rfl ?_, List.forall_mem_cons.2 ⟨fun _ => fact2 rfl rfl ?_, List.forall_mem_cons.2 ⟨fun _ => fact2 rfl rfl ?_, List.forall_mem_cons.2 ⟨fun _ => fact2 rfl rfl ?_, List.forall_mem_cons.2 ⟨fun _ => fact2 rfl rfl ?_, List.forall_mem_cons.2 ⟨fun _ => fact2 rfl rfl ?_, List.forall_mem_cons.2 ⟨fun _ => fact2 rfl rfl ?_, List.forall_mem_cons.2 ⟨fun _ => fact2 rfl rfl ?_, List.forall_mem_cons.2 ⟨fun _ => fact2 rfl rfl ?_, fun _ h => absurd h List.not_mem_nil⟩⟩⟩⟩⟩⟩⟩⟩⟩⟩⟩⟩⟩⟩⟩⟩⟩⟩) <;> constructor <;> first | rfl | (simp [F]; done)), ?_⟩
         (repeat (first | simp [F] | simp (disch := omega) only [wC, if_pos, if_neg])); refine rp2 23 (k := ?_); refine rp2 24 (k := ?_); refine dd ?_; refine hJ38 _ _ ?_; refine hK4 (()) _ _ ⟨kp, ?_, lp⟩
         · rw [hB1]
           simp [F]
           try rfl
    (try exact nope g1_7); all_goals have g1_7p := g1_7; try simp [F] at g1_7p
    all_goals
     replace F := aF g1_7 F; try replace F := aF g1_7p F
     have k2 : ¬ 11 < x1.toNat := by have h := g1_7; simp at h; omega
     refine rp2 8 (k := ?_); refine rp2 9 (k := ?_); refine rp2 10 (k := ?_); refine rp2 11 (k := ?_); refine rp2 12 (k := ?_); refine rp2 13 (k := ?_); refine rp2 14 (k := ?_); refine rp2 15 (k := ?_); refine rp2 16 (k := ?_); refine rp2 17 (k := ?_); refine rp2 18 (k := ?_); refine gd 22 (fun g1_18 => ?_) (fun g1_18 => ?_)
     · (try exact nope g1_18); all_goals have g1_18p := g1_18; try simp [F] at g1_18p
       all_goals
        replace F := aF g1_18 F; try replace F := aF g1_18p F
        have k0 : K = false := by have h := g1_18; rw [hK]; simp at h; simp; omega
        replace F := aF k0 F; refine rp2 19 (k := ?_); refine rp2 20 (k := ?_); refine dop 21 rfl ?_; (repeat (first | simp [F] | simp (disch := omega) only [wC, if_pos, if_neg])); refine dop 22 rfl ?_; (repeat (first | simp [F] | simp (disch := omega) only [wC, if_pos, if_neg])); refine rp2 23 (k := ?_); refine rp2 24 (k := ?_); refine dd ?_; refine hJ38 _ _ ?_; refine hK4 (()) _ _ ⟨kp, ?_, lp⟩
        · rw [hB1]
          simp [F]
          try rfl
     (try exact nope g1_18); all_goals have g1_18p := g1_18; try simp [F] at g1_18p
     all_goals
      replace F := aF g1_18 F; try replace F := aF g1_18p F
      have k0 : K = true := by have h := g1_18; rw [hK]; simp at h; simp; omega
      replace F := aF k0 F; refine rp2 19 (k := ?_); refine rp2 20 (k := ?_); refine dc 21 rfl (c := hon _) (k := ?_); rintro _ _ ⟨rfl, rfl⟩
      refine ⟨by first | exact fun _ _ h => h | (refine later_list [19, 17, 16, 15, 14, 13, 12, 11, 10, 9, 8, 7, 6, 5, 4, 3, 2, 1, 0] (by kernel_rfl) (List.forall_mem_cons.2 ⟨fun _ => fact2 rfl rfl ?_, List.forall_mem_cons.2 ⟨fun _ => fact2 rfl rfl ?_, List.forall_mem_cons.2 ⟨fun _ => fact2 rfl rfl ?_, List.forall_mem_cons.2 ⟨fun _ => fact2 rfl rfl ?_, List.forall_mem_cons.2 ⟨fun _ => fact2 rfl rfl ?_, List.forall_mem_cons.2 ⟨fun _ => fact2 rfl rfl ?_, List.forall_mem_cons.2 ⟨fun _ => fact2 rfl rfl ?_, List.forall_mem_cons.2 ⟨fun _ => fact2 rfl rfl ?_, List.forall_mem_cons.2 ⟨fun _ => fact2 rfl rfl ?_, List.forall_mem_cons.2 ⟨fun _ => fact2 rfl rfl ?_, List.forall_mem_cons.2 ⟨fun _ => fact2 rfl rfl ?_, List.forall_mem_cons.2 ⟨fun _ => fact2 rfl rfl ?_, List.forall_mem_cons.2 ⟨fun _ => fact2 rfl rfl ?_, List.forall_mem_cons.2 ⟨fun _ => fact2 rfl rfl ?_, List.forall_mem_cons.2 ⟨fun _ => fact2 rfl rfl ?_, List.forall_mem_cons.2 ⟨fun _ => fact2 rfl rfl ?_, List.forall_mem_cons.2 ⟨fun _ => fact2 rfl rfl ?_, List.forall_mem_cons.2 ⟨fun _ => fact2 rfl rfl ?_, List.forall_mem_cons.2 ⟨fun _ => fact2 rfl rfl ?_, fun _ h => absurd h List.not_mem_nil⟩⟩⟩⟩⟩⟩⟩⟩⟩⟩⟩⟩⟩⟩⟩⟩⟩⟩⟩) <;> constructor <;> first | rfl | (simp [F]; done)), ?_⟩
      (repeat (first | simp [F] | simp (disch := omega) only [wC, if_pos, if_neg])); refine dc 22 rfl (c := hso _) (k := ?_); rintro _ _ ⟨rfl, rfl⟩
      refine ⟨by first | exact fun _ _ h => h | (refine later_list [17, 16, 15, 14, 13, 12, 11, 10, 9, 8, 7, 6, 5, 4, 3, 2, 1, 0] (by kernel_rfl) (List.forall_mem_cons.2 ⟨fun _ => fact2 rfl rfl ?_, List.forall_mem_cons.2 ⟨fun _ => fact2 rfl rfl ?_, List.forall_mem_cons.2 ⟨fun _ => fact2 rfl rfl ?_, List.forall_mem_cons.2 ⟨fun _ => fact2 rfl rfl ?_, List.forall_mem_cons.2 ⟨fun _ => fact2 rfl rfl ?_, List.forall_mem_cons.2 ⟨fun _ => fact2 rfl rfl ?_, List.forall_mem_cons.2 ⟨fun _ => fact2 rfl rfl ?_, List.forall_mem_cons.2 ⟨fun _ => fact2 rfl rfl ?_, List.forall_mem_cons.2 ⟨fun _ => fact2 rfl rfl ?_, List.forall_mem_cons.2 ⟨fun _ => fact2 rfl rfl ?_, List.forall_mem_cons.2 ⟨fun _ => fact2 rfl rfl ?_, List.forall_mem_cons.2 ⟨fun _ => fact2 rfl rfl ?_, List.forall_mem_cons.2 ⟨fun _ => fact2 rfl rfl ?_, List.forall_mem_cons.2 ⟨fun _ => fact2 rfl rfl ?_, List.forall_mem_cons.2 ⟨fun _ => fact2 rfl rfl ?_, List.forall_mem_cons.2 ⟨fun _ => fact2 rfl rfl ?_, List.forall_mem_cons.2 ⟨fun _ => fact2 rfl rfl ?_, List.forall_mem_cons.2 ⟨fun _ => fact2 rfl rfl ?_, fun _ h => absurd h List.not_mem_nil⟩⟩⟩⟩⟩⟩⟩⟩⟩⟩⟩⟩⟩⟩⟩⟩⟩⟩) <;> constructor <;> first | rfl | (simp [F]; done)), ?_⟩
      (repeat (first | simp [F] | simp (disch := omega) only [wC, if_pos, if_neg])); refine rp2 23 (k := ?_); refine rp2 24 (k := ?_); refine dd ?_; refine hJ38 _ _ ?_; refine hK4 (()) _ _ ⟨kp, ?_, lp⟩
      · rw [hB1]
        simp [F]
        try rfl

end Go.Proofs.Ytdbaddholggkbaa

/-
  The document's reader.
-/
namespace Go.Proofs.Ytdbaddholggkbaa
set_option linter.unnecessarySimpa false
set_option maxRecDepth 100000
open Go Go.Vm
set_option linter.unusedSimpArgs false
set_option linter.unusedVariables false
attribute [local simp] evalL wantedA isCall opA evalA evalAll evalsA evalOpt ofValue ofCell plain binA_eql_pn binA_neq_pn binA_gtr binA_lss binA_geq binA_leq binA_add binA_sub binA_eql binA_neq binA_or binA_shl binA_shr binA_mul binA_quo binA_rem convA_int unA_not fieldAddrA loadA partA pickA_true pickA_false pickA_bb lenA builtinA storeA splice AV.cells AV.isCell sliceA boundA intA callOf indexAddrA newObjA buildA fillA zeroA ofCells buildSliceA

def inC (p : List UInt8) (tl : Tail) (k : Nat) (bad : Bool) : List AV := [.sl 1 (bytesA p) p.length tl, .v (.int .i64 k), .v (.bool bad)]

theorem inByte_yes {σ : St} {id k : Nat} {p : List UInt8} {tl : Tail} (h : σ.objs[id]? = some (inC p tl k false)) (hp : p.length ≤ 1000000) (hk : k < p.length) :
    CallsA Try.prog 84 [.ptr id 0] σ (fun av σ' => av = .v (.int .u8 p[k].toNat) ∧ σ' = { σ with objs := σ.objs.set id (inC p tl (k + 1) false) }) := by
  have hs := set_self_of h
  have hki : ¬ (p.length : Int) ≤ k := by omega
  have hkl : ¬ p.length ≤ k := by omega
  have hw : IntKind.i64.wrap ((k : Int) + 1) = ((k + 1 : Nat) : Int) := wrap_i64 _ (by omega) (by omega)
  have hw2 : IntKind.i64.wrap (((k + 1 : Nat) : Int) - 1) = (k : Int) := by rw [wrap_i64 _ (by omega) (by omega)]; omega
  have hw3 : IntKind.i64.wrap (k : Int) = (k : Int) := wrap_i64 _ (by omega) (by omega)
  have hk2 : (k : Int) < p.length := by omega
  unfold inC at h hs
  refine callsA_body Try.func84 rfl rfl rfl ?_; refine run_seq_k fun K1 hK1 => ?_; refine run_region_k rfl fun J2 hJ2 => ?_; (try simp [h, hs, hki, hkl, hw, hw2, hw3, hk, hk2, inC]); refine hJ2 _ _ ?_; refine hK1 _ _ ?_; refine run_seq_k fun K3 hK3 => ?_; refine run_seq_k fun K4 hK4 => ?_
  refine run_draw (by kernel_rfl) fun J5 hJ5 => ?_
  refine runD_pure' 0 (by kernel_rfl) rfl rfl (by kernel_rfl) (by kernel_rfl) (by kernel_rfl) (by kernel_rfl) ?_
  try simp [h, hs, hki, hkl, hw, hw2, hw3, hk, hk2, inC]
  refine runD_pure' 1 (by kernel_rfl) rfl rfl (by kernel_rfl) (by kernel_rfl) (by kernel_rfl) (by kernel_rfl) ?_
  try simp [h, hs, hki, hkl, hw, hw2, hw3, hk, hk2, inC]
  refine runD_pure' 2 (by kernel_rfl) rfl rfl (by kernel_rfl) (by kernel_rfl) (by kernel_rfl) (by kernel_rfl) ?_
  try simp [h, hs, hki, hkl, hw, hw2, hw3, hk, hk2, inC]
  refine runD_pure' 3 (by kernel_rfl) rfl rfl (by kernel_rfl) (by kernel_rfl) (by kernel_rfl) (by kernel_rfl) ?_
  try simp [h, hs, hki, hkl, hw, hw2, hw3, hk, hk2, inC]
  refine runD_pure' 4 (by kernel_rfl) rfl rfl (by kernel_rfl) (by kernel_rfl) (by kernel_rfl) (by kernel_rfl) ?_
  try simp [h, hs, hki, hkl, hw, hw2, hw3, hk, hk2, inC]
  refine runD_pure' 5 (by kernel_rfl) rfl rfl (by kernel_rfl) (by kernel_rfl) (by kernel_rfl) (by kernel_rfl) ?_
  try simp [h, hs, hki, hkl, hw, hw2, hw3, hk, hk2, inC]
  refine runD_pure' 6 (by kernel_rfl) rfl rfl (by kernel_rfl) (by kernel_rfl) (by kernel_rfl) (by kernel_rfl) ?_
  try simp [h, hs, hki, hkl, hw, hw2, hw3, hk, hk2, inC]
  refine runD_pure' 7 (by kernel_rfl) rfl rfl (by kernel_rfl) (by kernel_rfl) (by kernel_rfl) (by kernel_rfl) ?_
  try simp [h, hs, hki, hkl, hw, hw2, hw3, hk, hk2, inC]
  refine runD_pure' 8 (by kernel_rfl) rfl rfl (by kernel_rfl) (by kernel_rfl) (by kernel_rfl) (by kernel_rfl) ?_
  try simp [h, hs, hki, hkl, hw, hw2, hw3, hk, hk2, inC]
  refine runD_pure' 9 (by kernel_rfl) rfl rfl (by kernel_rfl) (by kernel_rfl) (by kernel_rfl) (by kernel_rfl) ?_
  try simp [h, hs, hki, hkl, hw, hw2, hw3, hk, hk2, inC]
  refine runD_pure' 10 (by kernel_rfl) rfl rfl (by kernel_rfl) (by kernel_rfl) (by kernel_rfl) (by kernel_rfl) ?_
  try simp [h, hs, hki, hkl, hw, hw2, hw3, hk, hk2, inC]
  refine runD_pure' 11 (by kernel_rfl) rfl rfl (by kernel_rfl) (by kernel_rfl) (by kernel_rfl) (by kernel_rfl) ?_
  try simp [h, hs, hki, hkl, hw, hw2, hw3, hk, hk2, inC]
  refine runD_pure' 12 (by kernel_rfl) rfl rfl (by kernel_rfl) (by kernel_rfl) (by kernel_rfl) (by kernel_rfl) ?_
  try simp [h, hs, hki, hkl, hw, hw2, hw3, hk, hk2, inC]
  refine runD_pure' 13 (by kernel_rfl) rfl rfl (by kernel_rfl) (by kernel_rfl) (by kernel_rfl) (by kernel_rfl) ?_
  try simp [h, hs, hki, hkl, hw, hw2, hw3, hk, hk2, inC]
  refine runD_pure' 14 (by kernel_rfl) rfl rfl (by kernel_rfl) (by kernel_rfl) (by kernel_rfl) (by kernel_rfl) ?_
  try simp [h, hs, hki, hkl, hw, hw2, hw3, hk, hk2, inC]
  refine runD_pure' 15 (by kernel_rfl) rfl rfl (by kernel_rfl) (by kernel_rfl) (by kernel_rfl) (by kernel_rfl) ?_
  try simp [h, hs, hki, hkl, hw, hw2, hw3, hk, hk2, inC]
  refine runD_done (by kernel_rfl) (by kernel_rfl) (by kernel_rfl) ?_
  refine hJ5 _ _ ?_; refine hK4 _ _ ?_
  refine run_cond_false (by first | rfl | (simp [h, hs, hki, hkl, hw, hw2, hw3, hk, hk2, inC, evalA]; done)) ?_
  refine run_skip ?_; refine hK3 _ _ ?_; refine run_seq_k fun K6 hK6 => ?_; refine run_region_k rfl fun J7 hJ7 => ?_; (try simp [h, hs, hki, hkl, hw, hw2, hw3, hk, hk2, inC]); refine hJ7 _ _ ?_; refine hK6 _ _ ?_; refine run_seq_k fun K8 hK8 => ?_
  refine run_draw (by kernel_rfl) fun J9 hJ9 => ?_
  refine runD_pure' 0 (by kernel_rfl) rfl rfl (by kernel_rfl) (by kernel_rfl) (by kernel_rfl) (by kernel_rfl) ?_
  try simp [h, hs, hki, hkl, hw, hw2, hw3, hk, hk2, inC]
  refine runD_pure' 1 (by kernel_rfl) rfl rfl (by kernel_rfl) (by kernel_rfl) (by kernel_rfl) (by kernel_rfl) ?_
  try simp [h, hs, hki, hkl, hw, hw2, hw3, hk, hk2, inC]
  refine runD_pure' 2 (by kernel_rfl) rfl rfl (by kernel_rfl) (by kernel_rfl) (by kernel_rfl) (by kernel_rfl) ?_
  try simp [h, hs, hki, hkl, hw, hw2, hw3, hk, hk2, inC]
  refine runD_pure' 3 (by kernel_rfl) rfl rfl (by kernel_rfl) (by kernel_rfl) (by kernel_rfl) (by kernel_rfl) ?_
  try simp [h, hs, hki, hkl, hw, hw2, hw3, hk, hk2, inC]
  refine runD_pure' 4 (by kernel_rfl) rfl rfl (by kernel_rfl) (by kernel_rfl) (by kernel_rfl) (by kernel_rfl) ?_
  try simp [h, hs, hki, hkl, hw, hw2, hw3, hk, hk2, inC]
  refine runD_pure' 5 (by kernel_rfl) rfl rfl (by kernel_rfl) (by kernel_rfl) (by kernel_rfl) (by kernel_rfl) ?_
  try simp [h, hs, hki, hkl, hw, hw2, hw3, hk, hk2, inC]
  refine runD_pure' 6 (by kernel_rfl) rfl rfl (by kernel_rfl) (by kernel_rfl) (by kernel_rfl) (by kernel_rfl) ?_
  try simp [h, hs, hki, hkl, hw, hw2, hw3, hk, hk2, inC]
  refine runD_pure' 7 (by kernel_rfl) rfl rfl (by kernel_rfl) (by kernel_rfl) (by kernel_rfl) (by kernel_rfl) ?_
  try simp [h, hs, hki, hkl, hw, hw2, hw3, hk, hk2, inC]
  refine runD_pure' 8 (by kernel_rfl) rfl rfl (by kernel_rfl) (by kernel_rfl) (by kernel_rfl) (by kernel_rfl) ?_
  try simp [h, hs, hki, hkl, hw, hw2, hw3, hk, hk2, inC]
  refine runD_pure' 9 (by kernel_rfl) rfl rfl (by kernel_rfl) (by kernel_rfl) (by kernel_rfl) (by kernel_rfl) ?_
  try simp [h, hs, hki, hkl, hw, hw2, hw3, hk, hk2, inC]
  refine runD_pure' 10 (by kernel_rfl) rfl rfl (by kernel_rfl) (by kernel_rfl) (by kernel_rfl) (by kernel_rfl) ?_
  try simp [h, hs, hki, hkl, hw, hw2, hw3, hk, hk2, inC]
  refine runD_pure' 11 (by kernel_rfl) rfl rfl (by kernel_rfl) (by kernel_rfl) (by kernel_rfl) (by kernel_rfl) ?_
  try simp [h, hs, hki, hkl, hw, hw2, hw3, hk, hk2, inC]
  refine runD_done (by kernel_rfl) (by kernel_rfl) (by kernel_rfl) ?_
  refine hJ9 _ _ ?_; refine hK8 _ _ ?_; refine ra ?_; simp [h, hs, hki, hkl, hw, hw2, hw3, hk, hk2, inC]

theorem inByte_end {σ : St} {id k : Nat} {p : List UInt8} {tl : Tail} (h : σ.objs[id]? = some (inC p tl k false)) (hk : p.length ≤ k) :
    CallsA Try.prog 84 [.ptr id 0] σ (fun av σ' => av = .v (.int .u8 0) ∧ σ' = { σ with objs := σ.objs.set id (inC p tl k true) }) := by
  have hs := set_self_of h
  have hki : (p.length : Int) ≤ k := by omega
  unfold inC at h hs
  refine callsA_body Try.func84 rfl rfl rfl ?_; refine run_seq_k fun K1 hK1 => ?_; refine run_region_k rfl fun J2 hJ2 => ?_; (try simp [h, hs, hki, hk, inC]); refine hJ2 _ _ ?_; refine hK1 _ _ ?_; refine run_seq_k fun K3 hK3 => ?_; refine run_seq_k fun K4 hK4 => ?_
  refine run_draw (by kernel_rfl) fun J5 hJ5 => ?_
  refine runD_pure' 0 (by kernel_rfl) rfl rfl (by kernel_rfl) (by kernel_rfl) (by kernel_rfl) (by kernel_rfl) ?_
  try simp [h, hs, hki, hk, inC]
  refine runD_pure' 1 (by kernel_rfl) rfl rfl (by kernel_rfl) (by kernel_rfl) (by kernel_rfl) (by kernel_rfl) ?_
  try simp [h, hs, hki, hk, inC]
  refine runD_pure' 2 (by kernel_rfl) rfl rfl (by kernel_rfl) (by kernel_rfl) (by kernel_rfl) (by kernel_rfl) ?_
  try simp [h, hs, hki, hk, inC]
  refine runD_pure' 3 (by kernel_rfl) rfl rfl (by kernel_rfl) (by kernel_rfl) (by kernel_rfl) (by kernel_rfl) ?_
  try simp [h, hs, hki, hk, inC]
  refine runD_pure' 4 (by kernel_rfl) rfl rfl (by kernel_rfl) (by kernel_rfl) (by kernel_rfl) (by kernel_rfl) ?_
  try simp [h, hs, hki, hk, inC]
  refine runD_pure' 5 (by kernel_rfl) rfl rfl (by kernel_rfl) (by kernel_rfl) (by kernel_rfl) (by kernel_rfl) ?_
  try simp [h, hs, hki, hk, inC]
  refine runD_pure' 6 (by kernel_rfl) rfl rfl (by kernel_rfl) (by kernel_rfl) (by kernel_rfl) (by kernel_rfl) ?_
  try simp [h, hs, hki, hk, inC]
  refine runD_pure' 7 (by kernel_rfl) rfl rfl (by kernel_rfl) (by kernel_rfl) (by kernel_rfl) (by kernel_rfl) ?_
  try simp [h, hs, hki, hk, inC]
  refine runD_pure' 8 (by kernel_rfl) rfl rfl (by kernel_rfl) (by kernel_rfl) (by kernel_rfl) (by kernel_rfl) ?_
  try simp [h, hs, hki, hk, inC]
  refine runD_pure' 9 (by kernel_rfl) rfl rfl (by kernel_rfl) (by kernel_rfl) (by kernel_rfl) (by kernel_rfl) ?_
  try simp [h, hs, hki, hk, inC]
  refine runD_pure' 10 (by kernel_rfl) rfl rfl (by kernel_rfl) (by kernel_rfl) (by kernel_rfl) (by kernel_rfl) ?_
  try simp [h, hs, hki, hk, inC]
  refine runD_pure' 11 (by kernel_rfl) rfl rfl (by kernel_rfl) (by kernel_rfl) (by kernel_rfl) (by kernel_rfl) ?_
  try simp [h, hs, hki, hk, inC]
  refine runD_pure' 12 (by kernel_rfl) rfl rfl (by kernel_rfl) (by kernel_rfl) (by kernel_rfl) (by kernel_rfl) ?_
  try simp [h, hs, hki, hk, inC]
  refine runD_pure' 13 (by kernel_rfl) rfl rfl (by kernel_rfl) (by kernel_rfl) (by kernel_rfl) (by kernel_rfl) ?_
  try simp [h, hs, hki, hk, inC]
  refine runD_pure' 14 (by kernel_rfl) rfl rfl (by kernel_rfl) (by kernel_rfl) (by kernel_rfl) (by kernel_rfl) ?_
  try simp [h, hs, hki, hk, inC]
  refine runD_pure' 15 (by kernel_rfl) rfl rfl (by kernel_rfl) (by kernel_rfl) (by kernel_rfl) (by kernel_rfl) ?_
  try simp [h, hs, hki, hk, inC]
  refine runD_done (by kernel_rfl) (by kernel_rfl) (by kernel_rfl) ?_
  refine hJ5 _ _ ?_; refine hK4 _ _ ?_
  refine run_cond_true (by first | rfl | (simp [h, hs, hki, hk, inC, evalA]; done)) ?_
  refine run_seq_k fun K6 hK6 => ?_; refine run_region_k rfl fun J7 hJ7 => ?_; (try simp [h, hs, hki, hk, inC]); refine hJ7 _ _ ?_; refine hK6 _ _ ?_; refine run_seq_k fun K8 hK8 => ?_; refine run_region_k rfl fun J9 hJ9 => ?_; (try simp [h, hs, hki, hk, inC]); refine hJ9 _ _ ?_; refine hK8 _ _ ?_; refine ra ?_; simp [h, hs, hki, hk, inC]

def At (p : List UInt8) (k : Nat) (s : Option (List UInt8)) : Prop := k ≤ p.length ∧ (s = none ∨ s = some (p.drop k))

theorem inByte_ok {σ : St} {id k : Nat} {p : List UInt8} {tl : Tail} {s : Option (List UInt8)} (h : σ.objs[id]? = some (inC p tl k s.isNone)) (hp : p.length ≤ 1000000) (hs : At p k s) :
    CallsA Try.prog 84 [.ptr id 0] σ (fun av σ' => av = .v (.int .u8 (be (takeB 1 s) : Nat)) ∧ ∃ k', At p k' (takeS 1 s) ∧ σ' = { σ with objs := σ.objs.set id (inC p tl k' (takeS 1 s).isNone) }) := by
  obtain ⟨hk, rfl | rfl⟩ := hs
  · refine callsA_mono (inByte_bad (x := .sl 1 (bytesA p) p.length tl) (y := .v (.int .i64 k)) h) (fun av σ' ⟨h1, h2⟩ => ⟨h1, k, ⟨hk, .inl rfl⟩, ?_⟩)
    rw [← h2]
    exact (St.set_same h).symm
  · by_cases hlt : k < p.length
    · have hl1 : 1 ≤ (p.drop k).length := by simp; omega
      have e1 : takeB 1 (some (p.drop k)) = [p[k]] := by
        show (if 1 ≤ (p.drop k).length then (p.drop k).take 1 else []) = _
        rw [if_pos hl1, List.drop_eq_getElem_cons hlt]; rfl
      have e2 : takeS 1 (some (p.drop k)) = some (p.drop (k + 1)) := by
        show (if 1 ≤ (p.drop k).length then some ((p.drop k).drop 1) else none) = _
        rw [if_pos hl1, List.drop_drop]
      refine callsA_mono (inByte_yes h hp hlt) (fun av σ' ⟨h1, h2⟩ => ⟨?_, k + 1, ⟨by omega, .inr e2⟩, ?_⟩)
      · rw [h1, e1]; simp [be]
      · rw [h2, e2]; rfl
    · have e0 : p.drop k = [] := List.drop_of_length_le (by omega)
      refine callsA_mono (inByte_end h (by omega)) (fun av σ' ⟨h1, h2⟩ => ⟨?_, k, ⟨hk, .inl ?_⟩, ?_⟩)
      · rw [h1, e0]; rfl
      · rw [e0]; rfl
      · rw [h2, e0]; rfl

theorem inEnd_some {σ : St} {id k : Nat} {p : List UInt8} {tl : Tail} (h : σ.objs[id]? = some (inC p tl k false)) :
    CallsA Try.prog 113 [.ptr id 0] σ (fun av σ' => av = .v (.bool ((k : Int) == (p.length : Int))) ∧ σ = σ') := by
  unfold inC at h
  refine callsA_body Try.func113 rfl rfl rfl ?_; refine run_seq_k fun K1 hK1 => ?_; refine run_region_k rfl fun J2 hJ2 => ?_; (try simp [h]); refine hJ2 _ _ ?_; refine hK1 _ _ ?_; refine run_seq_k fun K3 hK3 => ?_
  refine run_draw (by kernel_rfl) fun J4 hJ4 => ?_
  refine runD_pure' 0 (by kernel_rfl) rfl rfl (by kernel_rfl) (by kernel_rfl) (by kernel_rfl) (by kernel_rfl) ?_
  try simp [h]
  refine runD_pure' 1 (by kernel_rfl) rfl rfl (by kernel_rfl) (by kernel_rfl) (by kernel_rfl) (by kernel_rfl) ?_
  try simp [h]
  refine runD_pure' 2 (by kernel_rfl) rfl rfl (by kernel_rfl) (by kernel_rfl) (by kernel_rfl) (by kernel_rfl) ?_
  try simp [h]
  refine runD_pure' 3 (by kernel_rfl) rfl rfl (by kernel_rfl) (by kernel_rfl) (by kernel_rfl) (by kernel_rfl) ?_
  try simp [h]
  refine runD_pure' 4 (by kernel_rfl) rfl rfl (by kernel_rfl) (by kernel_rfl) (by kernel_rfl) (by kernel_rfl) ?_
  try simp [h]
  refine runD_pure' 5 (by kernel_rfl) rfl rfl (by kernel_rfl) (by kernel_rfl) (by kernel_rfl) (by kernel_rfl) ?_
  try simp [h]
  refine runD_pure' 6 (by kernel_rfl) rfl rfl (by kernel_rfl) (by kernel_rfl) (by kernel_rfl) (by kernel_rfl) ?_
  try simp [h]
  refine runD_pure' 7 (by kernel_rfl) rfl rfl (by kernel_rfl) (by kernel_rfl) (by kernel_rfl) (by kernel_rfl) ?_
  try simp [h]
  refine runD_pure' 8 (by kernel_rfl) rfl rfl (by kernel_rfl) (by kernel_rfl) (by kernel_rfl) (by kernel_rfl) ?_
  try simp [h]
  refine runD_pure' 9 (by kernel_rfl) rfl rfl (by kernel_rfl) (by kernel_rfl) (by kernel_rfl) (by kernel_rfl) ?_
  try simp [h]
  refine runD_pure' 10 (by kernel_rfl) rfl rfl (by kernel_rfl) (by kernel_rfl) (by kernel_rfl) (by kernel_rfl) ?_
  try simp [h]
  refine runD_pure' 11 (by kernel_rfl) rfl rfl (by kernel_rfl) (by kernel_rfl) (by kernel_rfl) (by kernel_rfl) ?_
  try simp [h]
  refine runD_pure' 12 (by kernel_rfl) rfl rfl (by kernel_rfl) (by kernel_rfl) (by kernel_rfl) (by kernel_rfl) ?_
  try simp [h]
  refine runD_pure' 13 (by kernel_rfl) rfl rfl (by kernel_rfl) (by kernel_rfl) (by kernel_rfl) (by kernel_rfl) ?_
  try simp [h]
  refine runD_pure' 14 (by kernel_rfl) rfl rfl (by kernel_rfl) (by kernel_rfl) (by kernel_rfl) (by kernel_rfl) ?_
  try simp [h]
  refine runD_pure' 15 (by kernel_rfl) rfl rfl (by kernel_rfl) (by kernel_rfl) (by kernel_rfl) (by kernel_rfl) ?_
  try simp [h]
  refine runD_pure' 16 (by kernel_rfl) rfl rfl (by kernel_rfl) (by kernel_rfl) (by kernel_rfl) (by kernel_rfl) ?_
  try simp [h]
  refine runD_pure' 17 (by kernel_rfl) rfl rfl (by kernel_rfl) (by kernel_rfl) (by kernel_rfl) (by kernel_rfl) ?_
  try simp [h]
  refine runD_done (by kernel_rfl) (by kernel_rfl) (by kernel_rfl) ?_
  refine hJ4 _ _ ?_; refine hK3 _ _ ?_; refine ra ?_; simp [h]

theorem inEnd_ok {σ : St} {id k : Nat} {p : List UInt8} {tl : Tail} {s : Option (List UInt8)} (h : σ.objs[id]? = some (inC p tl k s.isNone)) (hs : At p k s) :
    CallsA Try.prog 113 [.ptr id 0] σ (fun av σ' => av = .v (.bool (endB s)) ∧ σ = σ') := by
  obtain ⟨hk, rfl | rfl⟩ := hs
  · exact inEnd_bad (x := .sl 1 (bytesA p) p.length tl) (y := .v (.int .i64 k)) h
  · have e : endB (some (p.drop k)) = ((k : Int) == (p.length : Int)) := by
      have h1 : endB (some (p.drop k)) = true ↔ k = p.length := by simp [endB]; omega
      rw [Bool.eq_iff_iff, h1]; simp; omega
    rw [e]; exact inEnd_some h

theorem takeS_none_be {s : Option (List UInt8)} (h : takeS 1 s = none) : be (takeB 1 s) = 0 := by
  cases s with
  | none => rfl
  | some p =>
    cases p with
    | nil => rfl
    | cons b l => simp [takeS] at h

end Go.Proofs.Ytdbaddholggkbaa

/-
  The document's reader: truths, long numbers.
-/
namespace Go.Proofs.Ytdbaddholggkbaa
set_option linter.unnecessarySimpa false
open Go Go.Vm
set_option linter.unusedSimpArgs false
set_option linter.unusedVariables false
set_option maxRecDepth 100000
attribute [local simp] evalL wantedA isCall opA evalA evalAll evalsA evalOpt ofValue ofCell plain binA_eql_pn binA_neq_pn binA_gtr binA_lss binA_geq binA_leq binA_add binA_sub binA_eql binA_neq binA_or binA_shl binA_shr binA_mul binA_quo binA_rem binA_agg_eql binA_agg_neq convA_int unA_not fieldAddrA loadA partA pickA_true pickA_false pickA_bb lenA builtinA storeA splice AV.cells AV.isCell sliceA boundA intA callOf indexAddrA newObjA buildA fillA zeroA ofCells buildSliceA indexA fieldA coinsC_at coinC inC

set_option maxHeartbeats 1600000 in
attribute [local simp] undefA List.getElem?_cons_zero List.getElem?_cons_succ in
theorem inFlag_ok {σ : St} {id k : Nat} {p : List UInt8} {tl : Tail} {s : Option (List UInt8)} (h : σ.objs[id]? = some (inC p tl k s.isNone)) (hp : p.length ≤ 1000000) (hk : At p k s) :
    CallsA Try.prog 112 [.ptr id 0] σ (fun av σ' => av = .v (.bool (be (takeB 1 s) == 1)) ∧ ∃ k', At p k' (flagS s) ∧ σ' = { σ with objs := σ.objs.set id (inC p tl k' (flagS s).isNone) }) := by
  have hs := set_self_of h
  have F := And.intro hs (True.intro)
  refine callsA_body Try.func112 rfl rfl rfl ?_; refine sr fun _ hJ2 => ?_; refine hJ2 _ _ ?_; refine sr fun _ hJ4 => ?_; refine ca (c := inByte_ok (st) (st) (st)) (k := ?_); rintro _ _ ⟨rfl, k1, hk1, rfl⟩; (repeat (first | simp [F] | simp (disch := omega) only [wC, if_pos, if_neg])); refine hJ4 _ _ ?_; refine sr fun _ hJ6 => ?_; refine gs 11 (fun g2_5 => ?_) (fun g2_5 => ?_)
  · (try exact nope g2_5); all_goals have g2_5p := g2_5; try simp [F] at g2_5p
    all_goals
     replace F := aF g2_5 F; (try replace F := aF g2_5p F); (iterate 2 refine no2 (k := ?_)); refine hJ6 _ _ ?_; refine sr fun _ hJ8 => ?_; refine gs 22 (fun g3_5 => ?_) (fun g3_5 => ?_)
     · (try exact nope g3_5); all_goals have g3_5p := g3_5; try simp [F] at g3_5p
       all_goals
        replace F := aF g3_5 F; (try replace F := aF g3_5p F); (iterate 2 refine go2 (k := ?_)); refine hJ8 _ _ ?_; refine ra ?_; exact rt
     (try exact nope g3_5); all_goals have g3_5p := g3_5; try simp [F] at g3_5p
     all_goals
      replace F := aF g3_5 F; (try replace F := aF g3_5p F); (iterate 2 refine no2 (k := ?_)); refine hJ8 _ _ ?_; refine ra ?_
      have hb0 := takeS_none_be g2_5p
      have hf : flagS s = none := (by simp [flagS, hb0, g2_5p])
      refine ⟨by simp [hb0], k1, ⟨hk1.1, .inl hf⟩, by simp [hf, g2_5p]⟩
  (try exact nope g2_5); all_goals have g2_5p := g2_5; try simp [F] at g2_5p
  all_goals
   replace F := aF g2_5 F; (try replace F := aF g2_5p F); (iterate 2 refine go2 (k := ?_)); refine hJ6 _ _ ?_; refine sr fun _ hJ10 => ?_; refine gs 22 (fun g3_5 => ?_) (fun g3_5 => ?_)
   · (try exact nope g3_5); all_goals have g3_5p := g3_5; try simp [F] at g3_5p
     all_goals
      replace F := aF g3_5 F; (try replace F := aF g3_5p F); (iterate 2 refine go2 (k := ?_)); refine hJ10 _ _ ?_; refine ra ?_
      have hf : flagS s = takeS 1 s := if_neg (by omega)
      rw [hf]
      have hd : decide ((1 : Int) < (be (takeB 1 s) : Nat)) = false := (by simp; omega)
      refine ⟨?_, k1, hk1, by simp [hd, F]⟩
      simp
      rw [Bool.eq_iff_iff]
      simp
      omega
   (try exact nope g3_5); all_goals have g3_5p := g3_5; try simp [F] at g3_5p
   all_goals
    replace F := aF g3_5 F; (try replace F := aF g3_5p F); (iterate 2 refine no2 (k := ?_)); refine hJ10 _ _ ?_; refine ra ?_
    have hf : flagS s = none := if_pos (by omega)
    refine ⟨?_, k1, ⟨hk1.1, .inl hf⟩, by simp [hf, F]⟩
    simp
    omega

theorem takeB_succ {p : List UInt8} {k i : Nat} (h : k + i < p.length) : be (takeB (i + 1) (some (p.drop k))) = be (takeB i (some (p.drop k))) * 256 + p[k + i].toNat := by
  have h1 : i + 1 ≤ (p.drop k).length := by simp; omega
  have h2 : i ≤ (p.drop k).length := by omega
  simp only [takeB, h1, h2, if_true]
  have h4 : i < (p.drop k).length := by omega
  rw [take_snoc h4, be_snoc, List.getElem_drop]

theorem takeS_some {p : List UInt8} {k n : Nat} (h : k + n ≤ p.length) : takeS n (some (p.drop k)) = some (p.drop (k + n)) := by
  have h1 : n ≤ (p.drop k).length := by simp; omega
  show (if n ≤ (p.drop k).length then some ((p.drop k).drop n) else none) = _
  rw [if_pos h1, List.drop_drop]
theorem takeS_no {p : List UInt8} {k n : Nat} (hk : k ≤ p.length) (h : p.length < k + n) : takeS n (some (p.drop k)) = none := by
  show (if n ≤ (p.drop k).length then some ((p.drop k).drop n) else none) = _
  rw [if_neg (by simp; omega)]
theorem takeB_no {p : List UInt8} {k n : Nat} (hk : k ≤ p.length) (h : p.length < k + n) : takeB n (some (p.drop k)) = [] := by
  show (if n ≤ (p.drop k).length then (p.drop k).take n else []) = _
  rw [if_neg (by simp; omega)]

set_option maxHeartbeats 1600000 in
attribute [local simp] undefA List.getElem?_cons_zero List.getElem?_cons_succ in
theorem inLong_some {σ : St} {id k n : Nat} {p : List UInt8} {tl : Tail} (h : σ.objs[id]? = some (inC p tl k false)) (hp : p.length ≤ 1000000) (hk : k ≤ p.length) (hn : n ≤ 8) :
    CallsA Try.prog 85 [.ptr id 0, .v (.int .i64 n)] σ (fun av σ' => av = .v (.int .u64 (be (takeB n (some (p.drop k))) : Nat)) ∧ ∃ k', At p k' (takeS n (some (p.drop k))) ∧ σ' = { σ with objs := σ.objs.set id (inC p tl k' (takeS n (some (p.drop k))).isNone) }) := by
  have hs := set_self_of h
  have hs0 := St.set_same h
  have F := And.intro h (And.intro hs (True.intro))
  refine callsA_body Try.func85 rfl rfl rfl ?_; refine sr fun _ hJ2 => ?_; refine hJ2 _ _ ?_; refine sq fun K3 hK3 => ?_; refine sq fun K4 hK4 => ?_
  refine run_draw (by kernel_rfl) fun J5 hJ5 => ?_
  refine rp2 0 (k := ?_); refine rp2 1 (k := ?_); refine rp2 2 (k := ?_); refine rp2 3 (k := ?_); refine rp2 4 (k := ?_); refine gd 11 (fun g1_4 => ?_) (fun g1_4 => ?_)
  · (try exact nope g1_4); all_goals have g1_4p := g1_4; try simp [F] at g1_4p
    all_goals
     replace F := aF g1_4 F; (try replace F := aF g1_4p F); refine rp2 5 (k := ?_); refine rp2 6 (k := ?_); refine rp2 7 (k := ?_); refine rp2 8 (k := ?_); refine rp2 9 (k := ?_); refine rp2 10 (k := ?_); refine rp2 11 (k := ?_); refine rp2 12 (k := ?_); refine rp2 13 (k := ?_); refine rp2 14 (k := ?_); refine rp2 15 (k := ?_); refine rp2 16 (k := ?_); refine rp2 17 (k := ?_); refine dd ?_; refine hJ5 _ _ ?_; refine hK4 _ _ ?_; refine ct ?_; refine sr fun _ hJ7 => ?_; refine hJ7 _ _ ?_; refine sr fun _ hJ9 => ?_; refine hJ9 _ _ ?_; refine ra ?_; exact rt
  (try exact nope g1_4); all_goals have g1_4p := g1_4; try simp [F] at g1_4p
  all_goals
   replace F := aF g1_4 F; (try replace F := aF g1_4p F); refine rp2 5 (k := ?_); refine rp2 6 (k := ?_); refine rp2 7 (k := ?_); refine rp2 8 (k := ?_); refine rp2 9 (k := ?_); refine rp2 10 (k := ?_); refine rp2 11 (k := ?_); refine rp2 12 (k := ?_); refine rp2 13 (k := ?_); refine rp2 14 (k := ?_); refine rp2 15 (k := ?_); refine rp2 16 (k := ?_); refine rp2 17 (k := ?_); refine dd ?_; refine hJ5 _ _ ?_; refine hK4 _ _ ?_; refine cs (fun c24 => ?_) (fun c24 => ?_)
   · (try exact nope c24); all_goals have c24p := c24; try simp [F] at c24p
     all_goals
      replace F := aF c24 F; (try replace F := aF c24p F); refine sr fun _ hJ11 => ?_; refine hJ11 _ _ ?_; refine sr fun _ hJ13 => ?_; refine hJ13 _ _ ?_; refine ra ?_
      have h1 := takeS_no hk (show p.length < k + n by omega)
      have h2 := takeB_no hk (show p.length < k + n by omega)
      rw [h1, h2]
      exact ⟨by simp, k, ⟨hk, .inl rfl⟩, by simp [F]⟩
   (try exact nope c24); all_goals have c24p := c24; try simp [F] at c24p
   all_goals
    replace F := aF c24 F; (try replace F := aF c24p F); refine run_skip ?_; refine hK3 _ _ ?_; refine sr fun _ hJ15 => ?_; refine hJ15 _ _ ?_; refine sq fun K16 hK16 => ?_; refine sr fun _ hJ18 => ?_; refine hJ18 _ _ ?_; refine run_block_k ?_; refine run_loopF (X := Nat) [0, 1, 4] (fun i ρ σ1 => (i ≤ n) ∧ (ρ 5 = .v (.int .u64 (be (takeB i (some (p.drop k))) : Nat))) ∧ (ρ 6 = .v (.int .i64 i)) ∧ (σ1 = { σ with objs := σ.objs.set id (inC p tl (k + i) false) })) (fun i => n - i) (0) ?st1 ?rd1
    case st1 =>
     refine ⟨lp, ?_, lp, ?_⟩
     · simp [takeB]
     · exact hs0.symm
    case rd1 =>
     rintro i ρ1 σ1 hF1 ⟨hi, h5, h6, hσ⟩; obtain rfl := hσ.symm
     have f1 := keepL hF1
     (try simp [KeepL, F] at f1); replace F := aF h5 F; replace F := aF h6 F; (try replace F := aF f1 F); refine sq fun K19 hK19 => ?_; refine sr fun _ hJ21 => ?_; refine hJ21 _ _ ?_; refine cs (fun c30 => ?_) (fun c30 => ?_)
     · (try exact nope c30); all_goals have c30p := c30; try simp [F] at c30p
       all_goals
        replace F := aF c30 F; (try replace F := aF c30p F); refine run_skip ?_; refine hK19 _ _ ?_; refine sq fun K22 hK22 => ?_; refine run_block_k ?_; refine rg' (h := fun J23 hJ23 => ?_)
        refine ca (c := inByte_yes (k := k + i) (p := p) (tl := tl) (st) hp (by omega)) (k := ?_)
        rintro _ _ ⟨rfl, rfl⟩; (repeat (first | simp [F] | simp (disch := omega) only [wC, if_pos, if_neg])); refine hJ23 _ _ ?_; refine hK22 _ _ ?_; refine rg' (h := fun J24 hJ24 => ?_); refine hJ24 _ _ ?_
        have hlt : k + i < p.length := by omega
        have hb := be_lt7 (takeB i (some (p.drop k))) (by have := takeB_len i (some (p.drop k)); omega)
        have he := takeB_succ hlt
        have hbb := p[k + i].toNat_lt
        generalize be (takeB i (some (p.drop k))) = y at *
        refine ⟨(i + 1), ⟨kp, lp, ?_, lp, ?_⟩, lp⟩
        · simp [he]
          simp (disch := omega) only [wC, if_pos, if_neg]
          omega
        · simp [Int.add_assoc]
     (try exact nope c30); all_goals have c30p := c30; try simp [F] at c30p
     all_goals
      replace F := aF c30 F; (try replace F := aF c30p F); refine run_exit ?_; refine hK16 _ _ ?_; refine sr fun _ hJ26 => ?_; refine hJ26 _ _ ?_; refine ra ?_
      have h1 := takeS_some (show k + n ≤ p.length by omega)
      rw [h1]
      obtain rfl : i = n := by omega
      exact ⟨by simp, k + i, ⟨by omega, .inr rfl⟩, by simp [F]⟩

theorem inLong_ok {σ : St} {id k n : Nat} {p : List UInt8} {tl : Tail} {s : Option (List UInt8)} (h : σ.objs[id]? = some (inC p tl k s.isNone)) (hp : p.length ≤ 1000000) (hk : At p k s) (hn : n ≤ 8) :
    CallsA Try.prog 85 [.ptr id 0, .v (.int .i64 n)] σ (fun av σ' => av = .v (.int .u64 (be (takeB n s) : Nat)) ∧ ∃ k', At p k' (takeS n s) ∧ σ' = { σ with objs := σ.objs.set id (inC p tl k' (takeS n s).isNone) }) := by
  obtain ⟨hk, rfl | rfl⟩ := hk
  · refine callsA_mono (inLong_bad (x := .sl 1 (bytesA p) p.length tl) (y := .v (.int .i64 k)) h) (fun av σ' ⟨h1, h2⟩ => ⟨h1, k, ⟨hk, .inl rfl⟩, ?_⟩)
    rw [← h2]
    exact (St.set_same h).symm
  · exact inLong_some h hp hk hn

theorem limb_plus {x b k q r : Nat} (hb : b < 256) (hr : r < 8) (hk : 8 * q + r = k) (hx : x % 256 ^ (k + 1) = 0) : limb x q ||| b <<< (8 * r) = limb x q + b * 2 ^ (8 * r) ∧ x ||| b <<< (8 * k) = x + b * 256 ^ k ∧ limb x q + b * 2 ^ (8 * r) < 18446744073709551616 := by
  have e256 : ∀ n, (256 : Nat) ^ n = 2 ^ (8 * n) := fun n => by rw [Nat.pow_mul]
  obtain ⟨y, hy⟩ : ∃ y, x = 256 ^ (k + 1) * y := ⟨x / 256 ^ (k + 1), by have := Nat.div_add_mod x (256 ^ (k + 1)); omega⟩
  have h1 : x ||| b <<< (8 * k) = x + b * 256 ^ k := by
    have hlt : b <<< (8 * k) < 2 ^ (8 * (k + 1)) := by
      rw [Nat.shiftLeft_eq, show 8 * (k + 1) = 8 + 8 * k by omega, Nat.pow_add]
      exact Nat.mul_lt_mul_of_pos_right hb (Nat.pow_pos (by omega))
    have := Nat.shiftLeft_add_eq_or_of_lt hlt y
    rw [Nat.shiftLeft_eq, ← e256, Nat.mul_comm, ← hy] at this
    rw [← this, Nat.shiftLeft_eq, e256]
  obtain ⟨z, hz, hz2⟩ : ∃ z, limb x q = z * 2 ^ (8 * r + 8) ∧ z * 2 ^ (8 * r + 8) < 2 ^ 64 := by
    have e1 : x = 2 ^ (64 * q) * (2 ^ (8 * r + 8) * y) := by
      rw [hy, e256, ← Nat.mul_assoc, ← Nat.pow_add]
      congr 2; omega
    have e2 : x / 2 ^ (64 * q) = 2 ^ (8 * r + 8) * y := by
      rw [e1, Nat.mul_div_cancel_left _ (Nat.pow_pos (by omega))]
    have e3 : limb x q = 2 ^ (8 * r + 8) * (y % 2 ^ (64 - (8 * r + 8))) := by
      unfold limb
      rw [e2]
      conv => lhs; rw [show (2 : Nat) ^ 64 = 2 ^ (8 * r + 8) * 2 ^ (64 - (8 * r + 8)) by rw [← Nat.pow_add]; congr 1; omega]
      rw [Nat.mul_mod_mul_left]
    refine ⟨y % 2 ^ (64 - (8 * r + 8)), by rw [e3, Nat.mul_comm], ?_⟩
    rw [Nat.mul_comm, ← e3]
    exact limb_lt x q
  have hlt : b <<< (8 * r) < 2 ^ (8 * r + 8) := by
    rw [Nat.shiftLeft_eq, show 8 * r + 8 = 8 + 8 * r by omega, Nat.pow_add]
    exact Nat.mul_lt_mul_of_pos_right hb (Nat.pow_pos (by omega))
  have h2 : limb x q ||| b <<< (8 * r) = limb x q + b * 2 ^ (8 * r) := by
    have := Nat.shiftLeft_add_eq_or_of_lt hlt z
    rw [Nat.shiftLeft_eq, ← hz] at this
    rw [← this, Nat.shiftLeft_eq]
  refine ⟨h2, h1, ?_⟩
  rw [← h2]
  have hs : b <<< (8 * r) < 2 ^ 64 := Nat.lt_of_lt_of_le hlt (Nat.pow_le_pow_right (by omega) (by omega))
  exact Nat.or_lt_two_pow (n := 64) (limb_lt x q) hs

theorem numA_plus {x b k q r : Nat} (hb : b < 256) (hq : q < 4) (hr : r < 8) (hk : 8 * q + r = k) (hx : x % 256 ^ (k + 1) = 0) :
    (numA x).take q ++ .v (.int .u64 ((limb x q + b * 2 ^ (8 * r) : Nat) : Int)) :: (numA x).drop (q + 1) = numA (x + b * 256 ^ k) := by
  obtain ⟨h1, h2, _⟩ := limb_plus hb hr hk hx
  have := numA_put (x := x) hb hq hr hk
  rw [h1, h2] at this
  exact this

theorem be_take_step {p : List UInt8} {i : Nat} (h : i < p.length) : be (p.take (i + 1)) * 256 ^ (p.length - (i + 1)) = be (p.take i) * 256 ^ (p.length - i) + p[i].toNat * 256 ^ (p.length - 1 - i) := by
  rw [take_snoc h, be_snoc, Nat.add_mul, show p.length - i = (p.length - (i + 1)) + 1 by omega, Nat.pow_succ, show p.length - 1 - i = p.length - (i + 1) by omega, Nat.mul_assoc, Nat.mul_comm 256]

theorem num_long {p : List UInt8} (h : 32 < p.length) : numOk p = false := by simp [numOk]; intro; omega
theorem num_zero {p : List UInt8} (h : 0 < p.length) (h0 : p[0].toNat = 0) : numOk p = false := by
  cases p with
  | nil => simp at h
  | cons b l =>
    have : b = 0 := UInt8.toNat_inj.1 h0
    simp [numOk, this]
theorem num_fine {p : List UInt8} (hl : p.length ≤ 32) (h : 0 < p.length) (h0 : ¬ p[0].toNat = 0) : numOk p = true := by
  cases p with
  | nil => simp at h
  | cons b l =>
    have : ¬ b = 0 := fun e => h0 (by simp [e])
    simp [numOk, this]
    simpa using hl

set_option maxHeartbeats 1600000 in
attribute [local simp] undefA List.getElem?_cons_zero List.getElem?_cons_succ in
theorem rread_ok {σ : St} {p : List UInt8} {tl : Tail} (hl : p.length ≤ 1000000) :
    CallsA Try.prog 137 [.sl 1 (bytesA p) p.length tl] σ (fun av σ' => av = .tup [.agg (numA (numOf p)), .v (.bool (numOk p))] ∧ σ = σ') := by
  refine callsA_gcS ?_ rfl
  have F := True.intro
  refine callsA_body Try.func137 rfl rfl rfl ?_; refine sr fun _ hJ2 => ?_; refine hJ2 _ _ ?_; refine sq fun K3 hK3 => ?_; refine sr fun _ hJ5 => ?_; refine gs 10 (fun g1_3 => ?_) (fun g1_3 => ?_)
  · (try exact nope g1_3); all_goals have g1_3p := g1_3; try simp [F] at g1_3p
    all_goals
     replace F := aF g1_3 F; (try replace F := aF g1_3p F); (iterate 9 refine no2 (k := ?_)); refine hJ5 _ _ ?_; refine ct ?_; refine sr fun _ hJ7 => ?_; refine hJ7 _ _ ?_; refine run_ret ?_; (try simp only [Then, InBlock, NoGoto]); refine answer_cell_tmp rfl (.inr rfl) ?_
     have e : numOk p = false := num_long (by omega)
     simp [F]
     simp only [numOf, e]
     rw [← numA_zero]
     exact Wk.refl _
  (try exact nope g1_3); all_goals have g1_3p := g1_3; try simp [F] at g1_3p
  all_goals
   replace F := aF g1_3 F; (try replace F := aF g1_3p F); (iterate 4 refine go2 (k := ?_)); refine gs 14 (fun g1_7 => ?_) (fun g1_7 => ?_)
   · (try exact nope g1_7); all_goals have g1_7p := g1_7; try simp [F] at g1_7p
     all_goals
      replace F := aF g1_7 F; (try replace F := aF g1_7p F); (iterate 5 refine go2 (k := ?_)); refine hJ5 _ _ ?_; refine cs (fun c20 => ?_) (fun c20 => ?_)
      · (try exact nope c20); all_goals have c20p := c20; try simp [F] at c20p
        all_goals
         replace F := aF c20 F; (try replace F := aF c20p F); refine sr fun _ hJ9 => ?_; refine hJ9 _ _ ?_; refine run_ret ?_; (try simp only [Then, InBlock, NoGoto]); refine answer_cell_tmp rfl (.inr rfl) ?_
         have e : numOk p = false := num_zero (by omega) (by assumption)
         simp [F]
         simp only [numOf, e]
         rw [← numA_zero]
         exact Wk.refl _
      (try exact nope c20); all_goals have c20p := c20; try simp [F] at c20p
      all_goals
       replace F := aF c20 F; try replace F := aF c20p F
       have h : p.length ≤ 32 := by omega
       refine run_skip ?_; refine hK3 _ _ ?_; refine sr fun _ hJ11 => ?_; refine hJ11 _ _ ?_; refine sq fun K12 hK12 => ?_; refine sr fun _ hJ14 => ?_; refine hJ14 _ _ ?_; refine run_block_k ?_; refine run_loopF (X := Nat) [0, 2, 3, 4] (fun i ρ σ1 => (i ≤ p.length) ∧ (ρ 5 = .v (.int .i64 i)) ∧ (σ1 = { σ with objs := σ.objs ++ [numA 0, numA (be (p.take i) * 256 ^ (p.length - i))] })) (fun i => p.length - i) (0) ?st1 ?rd1
       case st1 =>
        refine ⟨lp, lp, ?_⟩
        · simp [numA_zero]
       case rd1 =>
        rintro i ρ1 σ1 hF1 ⟨hi, h5, hσ⟩; obtain rfl := hσ.symm
        have f1 := keepL hF1
        (try simp [KeepL, F] at f1); replace F := aF h5 F; (try replace F := aF f1 F); refine sq fun K15 hK15 => ?_; refine sr fun _ hJ17 => ?_; refine hJ17 _ _ ?_; refine cs (fun c25 => ?_) (fun c25 => ?_)
        · (try exact nope c25); all_goals have c25p := c25; try simp [F] at c25p
          all_goals
           replace F := aF c25 F; (try replace F := aF c25p F); refine run_skip ?_; refine hK15 _ _ ?_; refine sq fun K18 hK18 => ?_; refine run_block_k ?_; refine sq fun K19 hK19 => ?_
           obtain ⟨k, hk⟩ : ∃ k, k = p.length - 1 - i := ⟨_, rfl⟩
           have hk2 : k < 32 := by omega
           have hw : IntKind.i64.wrap (IntKind.i64.wrap ((p.length : Int) - 1) - i) = (k : Int) := by rw [wrap_i64 ((p.length : Int) - 1) (by omega) (by omega), wrap_i64 _ (by omega) (by omega)]; omega
           obtain ⟨q, hq⟩ : ∃ q, q = k / 8 := ⟨_, rfl⟩
           obtain ⟨r, hr⟩ : ∃ r, r = k % 8 := ⟨_, rfl⟩
           have hqr : 8 * q + r = k := by omega
           have hq4 : q < 4 := by omega
           have hr8 : r < 8 := by omega
           have hb := p[i].toNat_lt
           have hqq : IntKind.i64.wrap ((k : Int).tdiv 8) = (q : Int) := by rw [Int.tdiv_eq_ediv_of_nonneg (by omega), wrap_i64 _ (by omega) (by omega)]; omega
           have hrr : (k : Int).tmod 8 = (r : Int) := by rw [Int.tmod_eq_emod_of_nonneg (by omega)]; omega
           have hm8 : IntKind.i64.wrap (8 * (r : Int)) = 8 * (r : Int) := wrap_i64 _ (by omega) (by omega)
           have hq2 : IntKind.i64.wrap ((k : Int) / 8) = (q : Int) := by rw [wrap_i64 _ (by omega) (by omega)]; omega
           have hr2 : (k : Int) % 8 = (r : Int) := by omega
           have hnn : ¬ 8 * (r : Int) < 0 := by omega
           have hsl : p[i].toNat * 2 ^ (8 * r) < 18446744073709551616 := by have := shl_byte hb hr8; rwa [Nat.shiftLeft_eq] at this
           have hsh : IntKind.u64.wrap ((p[i].toNat : Int) * 2 ^ (min (8 * (r : Int)).toNat 64)) = ((p[i].toNat * 2 ^ (8 * r) : Nat) : Int) := by rw [show min (8 * (r : Int)).toNat 64 = 8 * r by omega, show ((p[i].toNat : Int) * 2 ^ (8 * r)) = ((p[i].toNat * 2 ^ (8 * r) : Nat) : Int) by simp, wrap_u64, Nat.mod_eq_of_lt hsl]
           have hx : (be (p.take i) * 256 ^ (p.length - i)) % 256 ^ (k + 1) = 0 := by rw [show p.length - i = k + 1 by omega, Nat.mul_mod_left]
           have hstep := be_take_step c25p
           rw [← hk] at hstep
           generalize be (p.take i) * 256 ^ (p.length - i) = x at *
           have hpl := numA_plus hb hq4 hr8 hqr hx
           obtain ⟨_, _, hlp⟩ := limb_plus hb hr8 hqr hx
           have hget := numA_get x hq4
           have hq5 : (q : Int) < 4 := by omega
           have hq6 : q + 1 ≤ 4 := hq4
           generalize p[i].toNat * 2 ^ (8 * r) = s at *
           have hws : IntKind.u64.wrap ((limb x q : Int) + s) = ((limb x q + s : Nat) : Int) := by rw [← Int.natCast_add, wrap_u64, Nat.mod_eq_of_lt hlp]
           replace F := aF hw F; replace F := aF hqq F; replace F := aF hrr F; replace F := aF hq2 F; replace F := aF hr2 F; replace F := aF hm8 F; replace F := aF hnn F; replace F := aF hsh F; replace F := aF hget F; replace F := aF hq4 F; replace F := aF hq5 F; replace F := aF hq6 F; replace F := aF hws F; refine rg' (h := fun J20 hJ20 => ?_); refine hJ20 _ _ ?_; refine hK19 _ _ ?_
           refine run_draw (by kernel_rfl) fun J21 hJ21 => ?_
           refine rp2 0 (k := ?_); refine rp2 1 (k := ?_); refine rp2 2 (k := ?_); refine rp2 3 (k := ?_); refine rp2 4 (k := ?_); refine rp2 5 (k := ?_); refine rp2 6 (k := ?_); refine rp2 7 (k := ?_); refine rp2 8 (k := ?_); refine rp2 9 (k := ?_); refine rp2 10 (k := ?_); refine rp2 11 (k := ?_); refine rp2 12 (k := ?_); refine rp2 13 (k := ?_); refine rp2 14 (k := ?_); refine dop 15 rfl ?_; (repeat (first | simp [F] | simp (disch := omega) only [wC, if_pos, if_neg])); refine ⟨ln, ?_⟩; refine dd ?_; refine hJ21 _ _ ?_; refine hK18 _ _ ?_; refine rg' (h := fun J22 hJ22 => ?_); refine hJ22 _ _ ?_; refine ⟨(i + 1), ⟨kp, lp, lp, ?_⟩, lp⟩
           · simp only [Int.natCast_add] at hpl
             rw [hpl, hstep]
        (try exact nope c25); all_goals have c25p := c25; try simp [F] at c25p
        all_goals
         replace F := aF c25 F; (try replace F := aF c25p F); refine run_exit ?_; refine hK12 _ _ ?_; refine sr fun _ hJ24 => ?_; refine hJ24 _ _ ?_; refine run_ret ?_; (try simp only [Then, InBlock, NoGoto]); refine answer_cell_tmp rfl (.inr rfl) ?_
         have e : numOk p = true := num_fine (by omega) (by omega) (by assumption)
         simp [F]
         simp only [numOf, e, if_true]
         rw [List.take_of_length_le (by omega)]
         exact Wk.refl _
   (try exact nope g1_7); all_goals have g1_7p := g1_7; try simp [F] at g1_7p
   all_goals
    replace F := aF g1_7 F; (try replace F := aF g1_7p F); (iterate 4 refine no2 (k := ?_)); refine go2 (k := ?_); refine hJ5 _ _ ?_; refine cf ?_; refine run_skip ?_; refine hK3 _ _ ?_; refine sr fun _ hJ26 => ?_; refine hJ26 _ _ ?_; refine sq fun K27 hK27 => ?_; refine sr fun _ hJ29 => ?_; refine hJ29 _ _ ?_; refine run_block_k ?_; refine run_loopF (X := Nat) [0, 2, 3, 4] (fun i ρ σ1 => (i ≤ p.length) ∧ (ρ 5 = .v (.int .i64 i)) ∧ (σ1 = { σ with objs := σ.objs ++ [numA 0, numA (be (p.take i) * 256 ^ (p.length - i))] })) (fun i => p.length - i) (0) ?st1 ?rd1
    case st1 =>
     refine ⟨lp, lp, ?_⟩
     · simp [numA_zero]
    case rd1 =>
     rintro i ρ1 σ1 hF1 ⟨hi, h5, hσ⟩; obtain rfl := hσ.symm
     have f1 := keepL hF1
     (try simp [KeepL, F] at f1); replace F := aF h5 F; (try replace F := aF f1 F); refine sq fun K30 hK30 => ?_; refine sr fun _ hJ32 => ?_; refine hJ32 _ _ ?_; refine cs (fun c25 => ?_) (fun c25 => ?_)
     · (try exact nope c25); all_goals have c25p := c25; try simp [F] at c25p
       all_goals
        replace F := aF c25 F; (try replace F := aF c25p F); refine run_skip ?_; refine hK30 _ _ ?_; refine sq fun K33 hK33 => ?_; refine run_block_k ?_; refine sq fun K34 hK34 => ?_
        obtain ⟨k, hk⟩ : ∃ k, k = p.length - 1 - i := ⟨_, rfl⟩
        have hk2 : k < 32 := by omega
        have hw : IntKind.i64.wrap (IntKind.i64.wrap ((p.length : Int) - 1) - i) = (k : Int) := by rw [wrap_i64 ((p.length : Int) - 1) (by omega) (by omega), wrap_i64 _ (by omega) (by omega)]; omega
        obtain ⟨q, hq⟩ : ∃ q, q = k / 8 := ⟨_, rfl⟩
        obtain ⟨r, hr⟩ : ∃ r, r = k % 8 := ⟨_, rfl⟩
        have hqr : 8 * q + r = k := by omega
        have hq4 : q < 4 := by omega
        have hr8 : r < 8 := by omega
        have hb := p[i].toNat_lt
        have hqq : IntKind.i64.wrap ((k : Int).tdiv 8) = (q : Int) := by rw [Int.tdiv_eq_ediv_of_nonneg (by omega), wrap_i64 _ (by omega) (by omega)]; omega
        have hrr : (k : Int).tmod 8 = (r : Int) := by rw [Int.tmod_eq_emod_of_nonneg (by omega)]; omega
        have hm8 : IntKind.i64.wrap (8 * (r : Int)) = 8 * (r : Int) := wrap_i64 _ (by omega) (by omega)
        have hq2 : IntKind.i64.wrap ((k : Int) / 8) = (q : Int) := by rw [wrap_i64 _ (by omega) (by omega)]; omega
        have hr2 : (k : Int) % 8 = (r : Int) := by omega
        have hnn : ¬ 8 * (r : Int) < 0 := by omega
        have hsl : p[i].toNat * 2 ^ (8 * r) < 18446744073709551616 := by have := shl_byte hb hr8; rwa [Nat.shiftLeft_eq] at this
        have hsh : IntKind.u64.wrap ((p[i].toNat : Int) * 2 ^ (min (8 * (r : Int)).toNat 64)) = ((p[i].toNat * 2 ^ (8 * r) : Nat) : Int) := by rw [show min (8 * (r : Int)).toNat 64 = 8 * r by omega, show ((p[i].toNat : Int) * 2 ^ (8 * r)) = ((p[i].toNat * 2 ^ (8 * r) : Nat) : Int) by simp, wrap_u64, Nat.mod_eq_of_lt hsl]
        have hx : (be (p.take i) * 256 ^ (p.length - i)) % 256 ^ (k + 1) = 0 := by rw [show p.length - i = k + 1 by omega, Nat.mul_mod_left]
        have hstep := be_take_step c25p
        rw [← hk] at hstep
        generalize be (p.take i) * 256 ^ (p.length - i) = x at *
        have hpl := numA_plus hb hq4 hr8 hqr hx
        obtain ⟨_, _, hlp⟩ := limb_plus hb hr8 hqr hx
        have hget := numA_get x hq4
        have hq5 : (q : Int) < 4 := by omega
        have hq6 : q + 1 ≤ 4 := hq4
        generalize p[i].toNat * 2 ^ (8 * r) = s at *
        have hws : IntKind.u64.wrap ((limb x q : Int) + s) = ((limb x q + s : Nat) : Int) := by rw [← Int.natCast_add, wrap_u64, Nat.mod_eq_of_lt hlp]
        replace F := aF hw F; replace F := aF hqq F; replace F := aF hrr F; replace F := aF hq2 F; replace F := aF hr2 F; replace F := aF hm8 F; replace F := aF hnn F; replace F := aF hsh F; replace F := aF hget F; replace F := aF hq4 F; replace F := aF hq5 F; replace F := aF hq6 F; replace F := aF hws F; refine rg' (h := fun J35 hJ35 => ?_); refine hJ35 _ _ ?_; refine hK34 _ _ ?_
        refine run_draw (by kernel_rfl) fun J36 hJ36 => ?_
        refine rp2 0 (k := ?_); refine rp2 1 (k := ?_); refine rp2 2 (k := ?_); refine rp2 3 (k := ?_); refine rp2 4 (k := ?_); refine rp2 5 (k := ?_); refine rp2 6 (k := ?_); refine rp2 7 (k := ?_); refine rp2 8 (k := ?_); refine rp2 9 (k := ?_); refine rp2 10 (k := ?_); refine rp2 11 (k := ?_); refine rp2 12 (k := ?_); refine rp2 13 (k := ?_); refine rp2 14 (k := ?_); refine dop 15 rfl ?_; (repeat (first | simp [F] | simp (disch := omega) only [wC, if_pos, if_neg])); refine ⟨ln, ?_⟩; refine dd ?_; refine hJ36 _ _ ?_; refine hK33 _ _ ?_; refine rg' (h := fun J37 hJ37 => ?_); refine hJ37 _ _ ?_; refine ⟨(i + 1), ⟨kp, lp, lp, ?_⟩, lp⟩
        · simp only [Int.natCast_add] at hpl
          rw [hpl, hstep]
     (try exact nope c25); all_goals have c25p := c25; try simp [F] at c25p
     all_goals
      replace F := aF c25 F; (try replace F := aF c25p F); refine run_exit ?_; refine hK27 _ _ ?_; refine sr fun _ hJ39 => ?_; refine hJ39 _ _ ?_; refine run_ret ?_; (try simp only [Then, InBlock, NoGoto]); refine answer_cell_tmp rfl (.inr rfl) ?_; simp [F]
      exact Wk.refl _

theorem rread_at {σ : St} {p : List UInt8} {n : Nat} {tl : Tail} (h : p.length = n) (hl : p.length ≤ 1000000) :
    CallsA Try.prog 137 [.sl 1 (bytesA p) n tl] σ (fun av σ' => av = .tup [.agg (numA (numOf p)), .v (.bool (numOk p))] ∧ σ = σ') := by
  subst h; exact rread_ok hl
theorem callsA_gcI {σ : St} {P : Program} {f : FuncId} {args : List AV} {A : AV} {ι : Type} {Pi : ι → Prop} {x : ι → List AV} {id : Nat} (k : CallsA P f args σ (fun av σ' => ∃ i, Pi i ∧ Wk av A ∧ ∃ l m r, σ' = { σ with objs := σ.objs.set id (x i) ++ l, toks := σ.toks ++ m, rows := σ.rows ++ r }))
    (hA : A.under σ.bd = true) (hx : ∀ i, underL σ.bd (x i) = true) : CallsA P f args σ (fun av σ' => av = A ∧ ∃ i, Pi i ∧ σ' = { σ with objs := σ.objs.set id (x i) }) := by
  refine callsA_gc k (fun av σ0 ⟨i, hi, hw, l, m, r, h⟩ => ?_)
  subst h
  refine ⟨A, hw, hA, by simp, by simp, by simp, rfl, fun id' cs hid hc => ?_, fun j r0 hj hr => ?_, rfl, i, hi, ?_⟩
  · simp only at hc
    rw [List.getElem?_append_left (by simpa using hid)] at hc
    by_cases e : id = id'
    · subst e
      rw [List.getElem?_set_self hid] at hc
      cases hc; exact .inr (hx i)
    · rw [List.getElem?_set_ne e] at hc; exact .inl hc
  · simp only at hr
    rw [List.getElem?_append_left hj] at hr
    exact .inl ⟨r0, hr, rfl⟩
  · simp [St.trim]

theorem inC_under (B : Bd) (p : List UInt8) (k : Nat) (b : Bool) : underL B (inC p .shut k b) = true := by simp [inC, underL, AV.under]

theorem takeB_yes {p : List UInt8} {k n : Nat} (h : k + n ≤ p.length) : takeB n (some (p.drop k)) = (p.drop k).take n := by
  have h1 : n ≤ (p.drop k).length := by simp; omega
  show (if n ≤ (p.drop k).length then (p.drop k).take n else []) = _
  rw [if_pos h1]

set_option maxHeartbeats 1600000 in
attribute [local simp] undefA List.getElem?_cons_zero List.getElem?_cons_succ in
theorem inNum_ok {σ : St} {id k : Nat} {p : List UInt8} {s : Option (List UInt8)} (h : σ.objs[id]? = some (inC p .shut k s.isNone)) (hp : p.length ≤ 1000000) (hk : At p k s) :
    CallsA Try.prog 111 [.ptr id 0] σ (fun av σ' => av = .agg (numA (numOf (numB s))) ∧ ∃ k', At p k' (numS s) ∧ σ' = { σ with objs := σ.objs.set id (inC p .shut k' (numS s).isNone) }) := by
  refine callsA_gcI (x := fun k' => inC p .shut k' (numS s).isNone) ?_ rfl (fun _ => inC_under _ _ _ _)
  have hs := set_self_of h
  have hlt := lt_of_get h
  have hm := be_lt1 (takeB_len 1 s)
  have hw : IntKind.i64.wrap ((be (takeB 1 s) : Nat) : Int) = (be (takeB 1 s) : Nat) := wrap_i64 _ (by omega) (by omega)
  have ho1 : ∀ r, (σ.objs ++ r)[id]? = some (inC p .shut k s.isNone) := fun r => by rw [List.getElem?_append_left hlt]; exact h
  have ho2 : ∀ x r, (σ.objs.set id x ++ r)[id]? = some x := fun x r => by rw [List.getElem?_append_left (by simpa using hlt)]; exact hs x
  have ho3 : ∀ x r, (σ.objs ++ r).set id x = σ.objs.set id x ++ r := fun x r => List.set_append_left _ _ hlt
  have ho4 : ∀ x y r, (σ.objs.set id y ++ r).set id x = σ.objs.set id x ++ r := fun x y r => by rw [List.set_append_left _ _ (by simpa using hlt), List.set_set]
  have F := And.intro h (And.intro hs (And.intro hw (And.intro ho1 (And.intro ho2 (And.intro ho3 (And.intro ho4 (True.intro)))))))
  refine callsA_body Try.func111 rfl rfl rfl ?_; refine sr fun _ hJ2 => ?_; refine hJ2 _ _ ?_; refine sr fun _ hJ4 => ?_; refine ca (c := inByte_ok (ho1 _) hp hk) (k := ?_); rintro _ _ ⟨rfl, k1, hk1, rfl⟩; (repeat (first | simp [F] | simp (disch := omega) only [wC, if_pos, if_neg])); refine hJ4 _ _ ?_; refine sq fun K5 hK5 => ?_; refine sq fun K6 hK6 => ?_
  have hk1' : k1 ≤ p.length := hk1.1
  have hw2 : IntKind.i64.wrap ((p.length : Int) - k1) = ((p.length - k1 : Nat) : Int) := by rw [wrap_i64 _ (by omega) (by omega)]; omega
  replace F := aF hw2 F
  refine run_draw (by kernel_rfl) fun J7 hJ7 => ?_
  refine rp2 0 (k := ?_); refine rp2 1 (k := ?_); refine rp2 2 (k := ?_); refine rp2 3 (k := ?_); refine rp2 4 (k := ?_); refine gd 13 (fun g2_4 => ?_) (fun g2_4 => ?_)
  · (try exact nope g2_4); all_goals have g2_4p := g2_4; try simp [F] at g2_4p
    all_goals
     replace F := aF g2_4 F; (try replace F := aF g2_4p F); refine rp2 5 (k := ?_); refine rp2 6 (k := ?_); refine rp2 7 (k := ?_); refine rp2 8 (k := ?_); refine rp2 9 (k := ?_); refine rp2 10 (k := ?_); refine rp2 11 (k := ?_); refine rp2 12 (k := ?_); refine rp2 13 (k := ?_); refine rp2 14 (k := ?_); refine rp2 15 (k := ?_); refine rp2 16 (k := ?_); refine rp2 17 (k := ?_); refine dd ?_; refine hJ7 _ _ ?_; refine hK6 _ _ ?_; refine ct ?_; refine sr fun _ hJ9 => ?_; refine hJ9 _ _ ?_; refine sr fun _ hJ11 => ?_; refine hJ11 _ _ ?_; refine run_ret ?_; (try simp only [Then, InBlock, NoGoto]); refine answer_cell rfl (.inr rfl) ?_
     have h0 : takeS 1 s = none := g2_4p
     have e1 : numB s = [] := (by simp [numB, h0, takeB])
     have e2 : numS s = none := (by rw [numS, h0]; simp [takeS])
     simp [F]
     refine ⟨k1, ⟨hk1.1, .inl e2⟩, ?_⟩
     rw [e1, e2]
     exact ⟨Wk.refl _, _, rfl⟩
  (try exact nope g2_4); all_goals have g2_4p := g2_4; try simp [F] at g2_4p
  all_goals
   replace F := aF g2_4 F; (try replace F := aF g2_4p F); refine rp2 5 (k := ?_); refine rp2 6 (k := ?_); refine rp2 7 (k := ?_); refine rp2 8 (k := ?_); refine rp2 9 (k := ?_); refine rp2 10 (k := ?_); refine rp2 11 (k := ?_); refine rp2 12 (k := ?_); refine rp2 13 (k := ?_); refine rp2 14 (k := ?_); refine rp2 15 (k := ?_); refine rp2 16 (k := ?_); refine rp2 17 (k := ?_); refine dd ?_; refine hJ7 _ _ ?_; refine hK6 _ _ ?_; refine cs (fun c26 => ?_) (fun c26 => ?_)
   · (try exact nope c26); all_goals have c26p := c26; try simp [F] at c26p
     all_goals
      replace F := aF c26 F; (try replace F := aF c26p F); refine sr fun _ hJ13 => ?_; refine hJ13 _ _ ?_; refine sr fun _ hJ15 => ?_; refine hJ15 _ _ ?_; refine run_ret ?_; (try simp only [Then, InBlock, NoGoto]); refine answer_cell rfl (.inr rfl) ?_
      have h0 : takeS 1 s = some (p.drop k1) := hk1.2.resolve_left (by intro e; simp [e] at g2_4p)
      have e1 : numB s = [] := (by rw [numB, h0]; exact takeB_no hk1' (by omega))
      have e2 : numS s = none := (by rw [numS, e1, h0]; exact takeS_no hk1' (by omega))
      simp [F]
      refine ⟨k1, ⟨hk1.1, .inl e2⟩, ?_⟩
      rw [e1, e2]
      exact ⟨Wk.refl _, _, rfl⟩
   (try exact nope c26); all_goals have c26p := c26; try simp [F] at c26p
   all_goals
    replace F := aF c26 F; (try replace F := aF c26p F); refine run_skip ?_; refine hK5 _ _ ?_; refine sq fun K16 hK16 => ?_
    have hn1 : ((k1 : Int) + (be (takeB 1 s) : Nat)).toNat - k1 = be (takeB 1 s) := by omega
    replace F := aF hn1 F; replace F := aF bytesA_drop F; replace F := aF bytesA_take F
    refine run_draw (by kernel_rfl) fun J17 hJ17 => ?_
    refine rp2 0 (k := ?_); refine rp2 1 (k := ?_); refine rp2 2 (k := ?_); refine rp2 3 (k := ?_); refine rp2 4 (k := ?_); refine rp2 5 (k := ?_); refine rp2 6 (k := ?_); refine rp2 7 (k := ?_); refine rp2 8 (k := ?_); refine rp2 9 (k := ?_); refine rp2 10 (k := ?_); refine rp2 11 (k := ?_); refine rp2 12 (k := ?_); refine rp2 13 (k := ?_); refine rp2 14 (k := ?_); refine d2 15 19 ?_ ?_
    · refine ac 15 rfl (c := rread_at (p := (p.drop k1).take (be (takeB 1 s))) (n := be (takeB 1 s)) (tl := .shut) (by simp; omega) (by simp; omega)) (k := ?_)
      rintro _ _ ⟨rfl, rfl⟩
      refine ⟨by first | exact fun _ _ h => h | (refine later_list [13, 12, 11, 10, 9, 8, 7, 6, 5, 4, 3, 2, 1, 0] (by kernel_rfl) (List.forall_mem_cons.2 ⟨fun _ => fact2 rfl rfl ?_, List.forall_mem_cons.2 ⟨fun _ => fact2 rfl rfl ?_, List.forall_mem_cons.2 ⟨fun _ => fact2 rfl rfl ?_, List.forall_mem_cons.2 ⟨fun _ => fact2 rfl rfl ?_, List.forall_mem_cons.2 ⟨fun _ => fact2 rfl rfl ?_, List.forall_mem_cons.2 ⟨fun _ => fact2 rfl rfl ?_, List.forall_mem_cons.2 ⟨fun _ => fact2 rfl rfl ?_, List.forall_mem_cons.2 ⟨fun _ => fact2 rfl rfl ?_, List.forall_mem_cons.2 ⟨fun _ => fact2 rfl rfl ?_, List.forall_mem_cons.2 ⟨fun _ => fact2 rfl rfl ?_, List.forall_mem_cons.2 ⟨fun _ => fact2 rfl rfl ?_, List.forall_mem_cons.2 ⟨fun _ => fact2 rfl rfl ?_, List.forall_mem_cons.2 ⟨fun _ => fact2 rfl rfl ?_, List.forall_mem_cons.2 ⟨fun _ => fact2 rfl rfl ?_, fun _ h => absurd h List.not_mem_nil⟩⟩⟩⟩⟩⟩⟩⟩⟩⟩⟩⟩⟩⟩) <;> constructor <;> first | rfl | (simp [F]; done)), ?_⟩
      (repeat (first | simp [F] | simp (disch := omega) only [wC, if_pos, if_neg])); refine rp2 16 (k := ?_); refine rp2 17 (k := ?_); refine rp2 18 (k := ?_); refine dop 19 rfl ?_; repeat (first | simp [F] | simp (disch := omega) only [wC, if_pos, if_neg])
      refine ⟨by first | exact later_more _ (by kernel_rfl) | exact later_more2 (by kernel_rfl) rfl, ?_⟩
      refine dop 20 rfl ?_; repeat (first | simp [F] | simp (disch := omega) only [wC, if_pos, if_neg])
      refine ⟨later_tmp (by kernel_rfl), ?_⟩
      refine rp2 21 (k := ?_); refine dd ?_; refine hJ17 _ _ ?_; refine hK16 _ _ ?_; refine sr fun _ hJ19 => ?_; refine hJ19 _ _ ?_; refine sr fun _ hJ21 => ?_; refine hJ21 _ _ ?_; refine sr fun _ hJ23 => ?_; refine hJ23 _ _ ?_; refine run_ret ?_; (try simp only [Then, InBlock, NoGoto]); refine answer_cell rfl (.inr rfl) ?_
      have h0 : takeS 1 s = some (p.drop k1) := hk1.2.resolve_left (by intro e; simp [e] at g2_4p)
      have e1 : numB s = (p.drop k1).take (be (takeB 1 s)) := (by rw [numB, h0]; exact takeB_yes (by omega))
      have e2 : numS s = if numOk (numB s) then some (p.drop (k1 + be (takeB 1 s))) else none := (by rw [numS, h0, takeS_some (by omega)])
      rw [← e1]
      simp [F]
      refine ⟨k1 + be (takeB 1 s), ⟨by omega, ?_⟩, Wk.refl _, ?_⟩
      · rw [e2]; cases numOk (numB s) <;> simp
      · rw [e2]; cases numOk (numB s) <;> simp
    · refine ao 19 rfl ?_; repeat (first | simp [F] | simp (disch := omega) only [wC, if_pos, if_neg])
      refine ⟨by first | exact later_more _ (by kernel_rfl) | exact later_more2 (by kernel_rfl) rfl, ?_⟩
      refine dc 15 rfl (c := rread_at (p := (p.drop k1).take (be (takeB 1 s))) (n := be (takeB 1 s)) (tl := .shut) (by simp; omega) (by simp; omega)) (k := ?_)
      rintro _ _ ⟨rfl, rfl⟩
      refine ⟨by first | exact fun _ _ h => h | (refine later_list [13, 12, 11, 10, 9, 8, 7, 6, 5, 4, 3, 2, 1, 0] (by kernel_rfl) (List.forall_mem_cons.2 ⟨fun _ => fact2 rfl rfl ?_, List.forall_mem_cons.2 ⟨fun _ => fact2 rfl rfl ?_, List.forall_mem_cons.2 ⟨fun _ => fact2 rfl rfl ?_, List.forall_mem_cons.2 ⟨fun _ => fact2 rfl rfl ?_, List.forall_mem_cons.2 ⟨fun _ => fact2 rfl rfl ?_, List.forall_mem_cons.2 ⟨fun _ => fact2 rfl rfl ?_, List.forall_mem_cons.2 ⟨fun _ => fact2 rfl rfl ?_, List.forall_mem_cons.2 ⟨fun _ => fact2 rfl rfl ?_, List.forall_mem_cons.2 ⟨fun _ => fact2 rfl rfl ?_, List.forall_mem_cons.2 ⟨fun _ => fact2 rfl rfl ?_, List.forall_mem_cons.2 ⟨fun _ => fact2 rfl rfl ?_, List.forall_mem_cons.2 ⟨fun _ => fact2 rfl rfl ?_, List.forall_mem_cons.2 ⟨fun _ => fact2 rfl rfl ?_, List.forall_mem_cons.2 ⟨fun _ => fact2 rfl rfl ?_, fun _ h => absurd h List.not_mem_nil⟩⟩⟩⟩⟩⟩⟩⟩⟩⟩⟩⟩⟩⟩) <;> constructor <;> first | rfl | (simp [F]; done)), ?_⟩
      (repeat (first | simp [F] | simp (disch := omega) only [wC, if_pos, if_neg])); refine rp2 16 (k := ?_); refine rp2 17 (k := ?_); refine rp2 18 (k := ?_); refine dop 20 rfl ?_; repeat (first | simp [F] | simp (disch := omega) only [wC, if_pos, if_neg])
      refine ⟨later_tmp (by kernel_rfl), ?_⟩
      refine rp2 21 (k := ?_); refine dd ?_; refine hJ17 _ _ ?_; refine hK16 _ _ ?_; refine sr fun _ hJ25 => ?_; refine hJ25 _ _ ?_; refine sr fun _ hJ27 => ?_; refine hJ27 _ _ ?_; refine sr fun _ hJ29 => ?_; refine hJ29 _ _ ?_; refine run_ret ?_; (try simp only [Then, InBlock, NoGoto]); refine answer_cell rfl (.inr rfl) ?_
      have h0 : takeS 1 s = some (p.drop k1) := hk1.2.resolve_left (by intro e; simp [e] at g2_4p)
      have e1 : numB s = (p.drop k1).take (be (takeB 1 s)) := (by rw [numB, h0]; exact takeB_yes (by omega))
      have e2 : numS s = if numOk (numB s) then some (p.drop (k1 + be (takeB 1 s))) else none := (by rw [numS, h0, takeS_some (by omega)])
      rw [← e1]
      simp [F]
      refine ⟨k1 + be (takeB 1 s), ⟨by omega, ?_⟩, Wk.refl _, ?_⟩
      · rw [e2]; cases numOk (numB s) <;> simp
      · rw [e2]; cases numOk (numB s) <;> simp
end Go.Proofs.Ytdbaddholggkbaa

/-
  Lists of coins: what both readers make of a list's bytes.
-/
namespace Go.Proofs.Ytdbaddholggkbaa
set_option linter.unnecessarySimpa false
open Go Go.Vm
set_option linter.unusedSimpArgs false
set_option linter.unusedVariables false
set_option maxRecDepth 100000
attribute [local simp] evalL wantedA isCall opA evalA evalAll evalsA evalOpt ofValue ofCell plain binA_eql_pn binA_neq_pn binA_gtr binA_lss binA_geq binA_leq binA_add binA_sub binA_eql binA_neq binA_or binA_shl binA_shr binA_mul binA_quo binA_rem binA_agg_eql binA_agg_neq convA_int unA_not fieldAddrA loadA partA pickA_true pickA_false pickA_bb lenA builtinA storeA splice AV.cells AV.isCell sliceA boundA intA callOf indexAddrA newObjA buildA fillA zeroA ofCells indexA fieldA coinsC_at

def byteS (s : Option (List UInt8)) : UInt8 := (takeB 1 s).headD 0
theorem be_byteS (s : Option (List UInt8)) : be (takeB 1 s) = (byteS s).toNat := by
  have h := takeB_len 1 s
  unfold byteS
  match takeB 1 s, h with
  | [], _ => rfl
  | [b], _ => simp [be]
  | _ :: _ :: _, h => simp at h

theorem numOf_lt (p : List UInt8) : numOf p < 2 ^ 256 := by
  unfold numOf
  split
  · rename_i h
    simp only [numOk, Bool.and_eq_true, decide_eq_true_eq] at h
    exact Nat.lt_of_lt_of_le (be_lt p) (Nat.le_trans (Nat.pow_le_pow_right (by omega) h.1) (by decide))
  · decide

def numN (s : Option (List UInt8)) : Num := ⟨numOf (numB s), numOf_lt _⟩
def coinS (s : Option (List UInt8)) : Coin := ⟨byteS s, numN (takeS 1 s)⟩

def coinsGo : Nat → Option (List UInt8) → List Coin → List Coin × Option (List UInt8)
  | 0, s, l => (l, s)
  | _ + 1, none, l => (l, none)
  | m + 1, some p, l => coinsGo m (numS (takeS 1 (some p))) (l ++ [coinS (some p)])

theorem coinsGo_more {m : Nat} {s : Option (List UInt8)} {l : List Coin} (hm : 0 < m) (hs : ¬ s = none) : coinsGo m s l = coinsGo (m - 1) (numS (takeS 1 s)) (l ++ [coinS s]) := by
  match m, s, hm, hs with
  | m + 1, some p, _, _ => rfl
theorem coinsGo_stop {m : Nat} {s : Option (List UInt8)} {l : List Coin} (h : m = 0 ∨ s = none) : coinsGo m s l = (l, s) := by
  match m, s, h with
  | 0, _, _ => rfl
  | m + 1, none, _ => rfl

def coinsR (s : Option (List UInt8)) : List Coin × Option (List UInt8) := coinsGo (be (takeB 1 s)) (takeS 1 s) []
def coinsS (s : Option (List UInt8)) : Option (List UInt8) := if Right (coinsR s).1 then (coinsR s).2 else none
def coinsL (s : Option (List UInt8)) : List Coin := if coinsS s = none then [] else (coinsR s).1

def slA (k : Nat) (l : List Coin) : AV := if l = [] then .sl 0 [] 0 .full else .sl 5 (coinsC l) l.length (.own k)
def tkA (l : List Coin) : List Nat := if l = [] then [] else [l.length]

theorem wk_slA (k : Nat) (l : List Coin) : Wk (slA k l) (.sl 5 (coinsC l) l.length .shut) := by
  unfold slA
  split
  · rename_i h; subst h; exact Wk.nil _ _ _
  · exact Wk.shut _ _ _ _

@[simp] theorem slA_nil (k : Nat) : slA k [] = .sl 0 [] 0 .full := rfl
@[simp] theorem tkA_nil : tkA [] = [] := rfl

theorem right_slA {σ : St} {k : Nat} {l : List Coin} (hl : l.length ≤ 1000000) : CallsA Try.prog 97 [slA k l] σ (fun av σ' => av = .v (.bool (decide (Right l))) ∧ σ = σ') :=
  callsA_wk (.cons (wk_slA k l) .nil) (right_ok (by omega))
theorem rright_slA {σ : St} {k : Nat} {l : List Coin} (hl : l.length ≤ 1000000) : CallsA Try.prog 29 [slA k l] σ (fun av σ' => av = .v (.bool (decide (Right l))) ∧ σ = σ') :=
  callsA_wk (.cons (wk_slA k l) .nil) (rright_ok (by omega))

theorem right_nilA {σ : St} : CallsA Try.prog 97 [.sl 0 [] 0 .full] σ (fun av σ' => av = .v (.bool true) ∧ σ = σ') := by
  have := right_slA (σ := σ) (k := 0) (l := []) (by simp)
  have e : decide (Right []) = true := by decide
  rw [e] at this
  exact this
theorem coinS_cells (s : Option (List UInt8)) : AV.v (.int .u8 (be (takeB 1 s) : Nat)) :: numA (numOf (numB (takeS 1 s))) = coinC (coinS s) := by
  rw [be_byteS]; rfl
theorem build_coin (c : Coin) : buildSliceA Try.prog 23 1 [(0, .agg (coinC c))] = some (.sl 5 (coinC c) 1 .full) := by kernel_rfl
class Small (l : List Coin) : Prop where
  h : l.length ≤ 1000

theorem append_slA {l : List Coin} [hsm : Small l] {c : Coin} {objs : List (List AV)} {tk : List Nat} {gl : Nat → Option (List AV)} {rows : List RowSt} :
    appendA Try.prog 23 (slA tk.length l) (.sl 5 (coinC c) 1 .full) ⟨objs, tk ++ tkA l, gl, rows⟩ = some (slA tk.length (l ++ [c]), ⟨objs, tk ++ tkA (l ++ [c]), gl, rows⟩) := by
  have hl := hsm.h
  by_cases h : l = []
  · subst h
    simp [slA, tkA, appendA, readA, roomA, maxLen, coinsC]
    rfl
  · have h1 : (l.length + 1) * 40 ≤ 140737488355328 := by omega
    have h2 : l.length + 1 ≤ 9223372036854775807 := by omega
    simp [slA, tkA, h, appendA, readA, roomA, maxLen, h1, h2, coinsC_snoc]
    rfl
theorem append_nilA {c : Coin} {σ : St} : appendA Try.prog 23 (.sl 0 [] 0 .full) (.sl 5 (coinC c) 1 .full) σ = some (slA σ.toks.length [c], { σ with toks := σ.toks ++ tkA [c] }) := by
  have : Small [] := ⟨by simp⟩
  have := append_slA (l := []) (c := c) (objs := σ.objs) (tk := σ.toks) (gl := σ.gl) (rows := σ.rows)
  simpa using this

structure CSt where
  m : Nat
  s : Option (List UInt8)
  l : List Coin

theorem coinsR_none {s : Option (List UInt8)} {L : List Coin} {S : Option (List UInt8)} (h : coinsR s = (L, S)) (h2 : ¬ Right L ∨ S = none) : coinsL s = [] ∧ coinsS s = none := by
  have e : coinsS s = none := by
    unfold coinsS
    rw [h]
    rcases h2 with h2 | h2
    · rw [if_neg h2]
    · simp [h2]
  exact ⟨by simp [coinsL, e], e⟩
theorem coinsR_some {s : Option (List UInt8)} {L : List Coin} {S : Option (List UInt8)} (h : coinsR s = (L, S)) (h1 : Right L) (h2 : ¬ S = none) : coinsL s = L ∧ coinsS s = S := by
  have e : coinsS s = S := by
    unfold coinsS
    rw [h, if_pos h1]
  exact ⟨by rw [coinsL, e, if_neg h2, h], e⟩

set_option maxHeartbeats 1600000 in
attribute [local simp] undefA List.getElem?_cons_zero List.getElem?_cons_succ coinS_cells build_coin append_nilA append_slA in
theorem rcoins_raw {σ : St} {id : Nat} {s : Option (List UInt8)} (h : σ.objs[id]? = some (rd s)) :
    CallsA Try.prog 82 [.ptr id 0] σ (fun av σ' => av = .sl 5 (coinsC (coinsL s)) (coinsL s).length .shut ∧ σ' = { σ with objs := σ.objs.set id (rd (coinsS s)) }) := by
  refine callsA_gc_obj (Q := fun av σ' => Wk av (.sl 5 (coinsC (coinsL s)) (coinsL s).length .shut) ∧ ∃ l m r, σ' = { σ with objs := σ.objs.set id (rd (coinsS s)) ++ l, toks := σ.toks ++ m, rows := σ.rows ++ r }) ?_ (fun av σ' h => h) (by simp [AV.under]) (rd_under _ _)
  have hs := set_self_of h
  have hm := be_lt1 (takeB_len 1 s)
  have F := And.intro h (And.intro hs (True.intro))
  refine callsA_body Try.func82 rfl rfl rfl ?_; refine sr fun _ hJ2 => ?_; refine hJ2 _ _ ?_; refine run_scope_jumpsF 0 (X := CSt) [0] (fun q ρ σ1 => (q.m + q.l.length ≤ 255) ∧ (coinsGo q.m q.s q.l = coinsR s) ∧ (ρ 4 = .v (.int .u8 q.m)) ∧ (ρ 3 = slA σ.toks.length q.l) ∧ (σ1 = { σ with objs := σ.objs.set id (rd q.s), toks := σ.toks ++ tkA q.l })) (fun q => q.m) rfl ?first ?pass
  case first =>
   refine sr fun _ hJ4 => ?_; refine hJ4 _ _ ?_; refine sr fun _ hJ6 => ?_
   refine ca (c := byte_ok (by first | exact h | exact hs _)) (k := ?_)
   rintro _ _ ⟨rfl, rfl⟩; (repeat (first | simp [F] | simp (disch := omega) only [wC, if_pos, if_neg])); refine hJ6 _ _ ?_; refine sq fun K7 hK7 => ?_; refine run_label ?_; refine hK7 _ _ ?_; refine sq fun K8 hK8 => ?_; refine sr fun _ hJ10 => ?_; refine gs 10 (fun g3_2 => ?_) (fun g3_2 => ?_)
   · (try exact nope g3_2); all_goals have g3_2p := g3_2; try simp [F] at g3_2p
     all_goals
      replace F := aF g3_2 F; (try replace F := aF g3_2p F); refine go2 (k := ?_); refine ca (c := bad_ok (hs _)) (k := ?_); rintro _ _ ⟨rfl, rfl⟩; (repeat (first | simp [F] | simp (disch := omega) only [wC, if_pos, if_neg])); refine go2 (k := ?_); refine hJ10 _ _ ?_; refine cs (fun c14 => ?_) (fun c14 => ?_)
      · (try exact nope c14); all_goals have c14p := c14; try simp [F] at c14p
        all_goals
         replace F := aF c14 F; (try replace F := aF c14p F); refine sr fun _ hJ12 => ?_
         refine ca (c := byte_ok (by first | exact h | exact hs _)) (k := ?_)
         rintro _ _ ⟨rfl, rfl⟩; (repeat (first | simp [F] | simp (disch := omega) only [wC, if_pos, if_neg])); refine hJ12 _ _ ?_; refine sq fun K13 hK13 => ?_; (try have : Small q.l := ⟨by omega⟩); refine rg' (h := fun J14 hJ14 => ?_); refine ca (c := num_ok (hs _)) (k := ?_); rintro _ _ ⟨rfl, rfl⟩; (repeat (first | simp [F] | simp (disch := omega) only [wC, if_pos, if_neg])); refine hJ14 _ _ ?_; refine hK13 _ _ ?_; refine sr fun _ hJ16 => ?_; refine hJ16 _ _ ?_; refine run_goto ?_; refine ⟨rfl, (⟨be (takeB 1 s) - 1, numS (takeS 1 (takeS 1 s)), [coinS (takeS 1 s)]⟩), ⟨kp, lp, ?_, lp, lp, lp⟩⟩
         · exact (coinsGo_more (l := []) g3_2p (by intro e; simp [e] at c14p)).symm
      (try exact nope c14); all_goals have c14p := c14; try simp [F] at c14p
      all_goals
       replace F := aF c14 F; (try replace F := aF c14p F); refine run_skip ?_; refine hK8 _ _ ?_; refine sq fun K17 hK17 => ?_; refine sr fun _ hJ19 => ?_
       refine ca (c := (by first | exact right_nilA | exact right_slA (by omega))) (k := ?_)
       rintro _ _ ⟨rfl, rfl⟩; (repeat (first | simp [F] | simp (disch := omega) only [wC, if_pos, if_neg])); refine hJ19 _ _ ?_; refine cs (fun c28 => ?_) (fun c28 => ?_)
       · (try exact nope c28); all_goals have c28p := c28; try simp [F] at c28p
         all_goals
          replace F := aF c28 F; (try replace F := aF c28p F); refine rg' (h := fun J20 hJ20 => ?_); refine ca (c := fail_ok (hs _)) (k := ?_); rintro _ _ ⟨rfl, rfl⟩; (repeat (first | simp [F] | simp (disch := omega) only [wC, if_pos, if_neg])); refine hJ20 _ _ ?_; refine hK17 _ _ ?_; refine sq fun K21 hK21 => ?_; refine sr fun _ hJ23 => ?_; refine ca (c := bad_ok (hs _)) (k := ?_); rintro _ _ ⟨rfl, rfl⟩; (repeat (first | simp [F] | simp (disch := omega) only [wC, if_pos, if_neg])); refine hJ23 _ _ ?_; refine cs (fun c32 => ?_) (fun c32 => ?_)
          · (try exact nope c32); all_goals have c32p := c32; try simp [F] at c32p
            all_goals
             replace F := aF c32 F; (try replace F := aF c32p F); refine sr fun _ hJ25 => ?_; refine hJ25 _ _ ?_; refine ra ?_
             have e : coinsR s = (q.l, q.s) := by rw [← hg]; exact coinsGo_stop (by first | (left; simp at g3_2; omega) | (right; simpa using c14))
             obtain ⟨e1, e2⟩ := coinsR_none e (.inl (by simpa using c28))
             rw [e1, e2]
             exact ⟨Wk.nil _ _ _, [], tkA q.l, [], by simp⟩
          (try exact nope c32); all_goals have c32p := c32; try simp [F] at c32p
          all_goals
           replace F := aF c32 F; (try replace F := aF c32p F); refine run_skip ?_; refine hK21 _ _ ?_; refine sr fun _ hJ27 => ?_; refine hJ27 _ _ ?_; refine ra ?_
           have e : coinsR s = (q.l, q.s) := by rw [← hg]; exact coinsGo_stop (by first | (left; simp at g3_2; omega) | (right; simpa using c14))
           obtain ⟨e1, e2⟩ := coinsR_none e (.inl (by simpa using c28))
           rw [e1, e2]
           exact ⟨Wk.nil _ _ _, [], tkA q.l, [], by simp⟩
       (try exact nope c28); all_goals have c28p := c28; try simp [F] at c28p
       all_goals
        replace F := aF c28 F; (try replace F := aF c28p F); refine run_skip ?_; refine hK17 _ _ ?_; refine sq fun K28 hK28 => ?_; refine sr fun _ hJ30 => ?_; refine ca (c := bad_ok (hs _)) (k := ?_); rintro _ _ ⟨rfl, rfl⟩; (repeat (first | simp [F] | simp (disch := omega) only [wC, if_pos, if_neg])); refine hJ30 _ _ ?_; refine cs (fun c32 => ?_) (fun c32 => ?_)
        · (try exact nope c32); all_goals have c32p := c32; try simp [F] at c32p
          all_goals
           replace F := aF c32 F; (try replace F := aF c32p F); refine sr fun _ hJ32 => ?_; refine hJ32 _ _ ?_; refine ra ?_
           first | (obtain ⟨e1, e2⟩ := coinsR_none (L := q.l) (S := q.s) (by rw [← hg]; exact coinsGo_stop (.inr (by simpa using c14))) (.inr (by simpa using c14)); rw [e1, e2]; exact ⟨Wk.nil _ _ _, [], tkA q.l, [], by simp⟩) | (have h0 : takeS 1 s = none := (by simpa using c14); obtain ⟨e1, e2⟩ := coinsR_none (by rw [coinsR, coinsGo_stop (.inr h0)]) (.inr h0); rw [e1, e2]; exact ⟨Wk.nil _ _ _, [], [], [], by simp⟩)
        (try exact nope c32); all_goals have c32p := c32; try simp [F] at c32p
        all_goals
         replace F := aF c32 F; (try replace F := aF c32p F); refine run_skip ?_; refine hK28 _ _ ?_; refine sr fun _ hJ34 => ?_; refine hJ34 _ _ ?_; refine ra ?_
         first | (obtain ⟨e1, e2⟩ := coinsR_none (L := q.l) (S := q.s) (by rw [← hg]; exact coinsGo_stop (.inr (by simpa using c14))) (.inr (by simpa using c14)); rw [e1, e2]; exact ⟨Wk.nil _ _ _, [], tkA q.l, [], by simp⟩) | (have h0 : takeS 1 s = none := (by simpa using c14); obtain ⟨e1, e2⟩ := coinsR_none (by rw [coinsR, coinsGo_stop (.inr h0)]) (.inr h0); rw [e1, e2]; exact ⟨Wk.nil _ _ _, [], [], [], by simp⟩)
   (try exact nope g3_2); all_goals have g3_2p := g3_2; try simp [F] at g3_2p
   all_goals
    replace F := aF g3_2 F; (try replace F := aF g3_2p F); (iterate 3 refine no2 (k := ?_)); refine hJ10 _ _ ?_; refine cf ?_; refine run_skip ?_; refine hK8 _ _ ?_; refine sq fun K35 hK35 => ?_; refine sr fun _ hJ37 => ?_
    refine ca (c := (by first | exact right_nilA | exact right_slA (by omega))) (k := ?_)
    rintro _ _ ⟨rfl, rfl⟩; (repeat (first | simp [F] | simp (disch := omega) only [wC, if_pos, if_neg])); refine hJ37 _ _ ?_; refine cs (fun c28 => ?_) (fun c28 => ?_)
    · (try exact nope c28); all_goals have c28p := c28; try simp [F] at c28p
      all_goals
       replace F := aF c28 F; (try replace F := aF c28p F); refine rg' (h := fun J38 hJ38 => ?_); refine ca (c := fail_ok (hs _)) (k := ?_); rintro _ _ ⟨rfl, rfl⟩; (repeat (first | simp [F] | simp (disch := omega) only [wC, if_pos, if_neg])); refine hJ38 _ _ ?_; refine hK35 _ _ ?_; refine sq fun K39 hK39 => ?_; refine sr fun _ hJ41 => ?_; refine ca (c := bad_ok (hs _)) (k := ?_); rintro _ _ ⟨rfl, rfl⟩; (repeat (first | simp [F] | simp (disch := omega) only [wC, if_pos, if_neg])); refine hJ41 _ _ ?_; refine cs (fun c32 => ?_) (fun c32 => ?_)
       · (try exact nope c32); all_goals have c32p := c32; try simp [F] at c32p
         all_goals
          replace F := aF c32 F; (try replace F := aF c32p F); refine sr fun _ hJ43 => ?_; refine hJ43 _ _ ?_; refine ra ?_
          have e : coinsR s = (q.l, q.s) := by rw [← hg]; exact coinsGo_stop (by first | (left; simp at g3_2; omega) | (right; simpa using c14))
          obtain ⟨e1, e2⟩ := coinsR_none e (.inl (by simpa using c28))
          rw [e1, e2]
          exact ⟨Wk.nil _ _ _, [], tkA q.l, [], by simp⟩
       (try exact nope c32); all_goals have c32p := c32; try simp [F] at c32p
       all_goals
        replace F := aF c32 F; (try replace F := aF c32p F); refine run_skip ?_; refine hK39 _ _ ?_; refine sr fun _ hJ45 => ?_; refine hJ45 _ _ ?_; refine ra ?_
        have e : coinsR s = (q.l, q.s) := by rw [← hg]; exact coinsGo_stop (by first | (left; simp at g3_2; omega) | (right; simpa using c14))
        obtain ⟨e1, e2⟩ := coinsR_none e (.inl (by simpa using c28))
        rw [e1, e2]
        exact ⟨Wk.nil _ _ _, [], tkA q.l, [], by simp⟩
    (try exact nope c28); all_goals have c28p := c28; try simp [F] at c28p
    all_goals
     replace F := aF c28 F; (try replace F := aF c28p F); refine run_skip ?_; refine hK35 _ _ ?_; refine sq fun K46 hK46 => ?_; refine sr fun _ hJ48 => ?_; refine ca (c := bad_ok (hs _)) (k := ?_); rintro _ _ ⟨rfl, rfl⟩; (repeat (first | simp [F] | simp (disch := omega) only [wC, if_pos, if_neg])); refine hJ48 _ _ ?_; refine cs (fun c32 => ?_) (fun c32 => ?_)
     · (try exact nope c32); all_goals have c32p := c32; try simp [F] at c32p
       all_goals
        replace F := aF c32 F; (try replace F := aF c32p F); refine sr fun _ hJ50 => ?_; refine hJ50 _ _ ?_; refine ra ?_
        first | (obtain ⟨e1, e2⟩ := coinsR_none (L := q.l) (S := q.s) (by rw [← hg]; exact coinsGo_stop (.inr (by simpa using c32))) (.inr (by simpa using c32)); rw [e1, e2]; exact ⟨Wk.nil _ _ _, [], tkA q.l, [], by simp⟩) | (have h0 : takeS 1 s = none := (by simpa using c32); obtain ⟨e1, e2⟩ := coinsR_none (by rw [coinsR, coinsGo_stop (.inr h0)]) (.inr h0); rw [e1, e2]; exact ⟨Wk.nil _ _ _, [], [], [], by simp⟩)
     (try exact nope c32); all_goals have c32p := c32; try simp [F] at c32p
     all_goals
      replace F := aF c32 F; (try replace F := aF c32p F); refine run_skip ?_; refine hK46 _ _ ?_; refine sr fun _ hJ52 => ?_; refine hJ52 _ _ ?_; refine ra ?_
      first | (obtain ⟨e1, e2⟩ := coinsR_some (L := q.l) (S := q.s) (by rw [← hg]; exact coinsGo_stop (.inl (by simp at g3_2; omega))) (by simpa using c28) (by intro e; simp [e] at c32); rw [e1, e2]; exact ⟨wk_slA _ _, [], tkA q.l, [], by simp⟩) | (have h0 : be (takeB 1 s) = 0 := (by simp at g3_2; omega); obtain ⟨e1, e2⟩ := coinsR_some (by rw [coinsR, coinsGo_stop (.inl h0)]) (by decide) (by intro e; simp [e] at c32); rw [e1, e2]; exact ⟨Wk.nil _ _ _, [], [], [], by simp⟩)
  case pass =>
   rintro q ρgoto σ1 hFgoto ⟨hm, hg, h4, h3, hσ⟩; obtain rfl := hσ.symm
   have fgoto := keepL hFgoto
   (try simp [KeepL, F] at fgoto); replace F := aF h4 F; replace F := aF h3 F; (try replace F := aF fgoto F); refine sq fun K53 hK53 => ?_; refine run_skip ?_; refine hK53 _ _ ?_; refine sq fun K54 hK54 => ?_; refine sr fun _ hJ56 => ?_; refine gs 10 (fun g3_2 => ?_) (fun g3_2 => ?_)
   · (try exact nope g3_2); all_goals have g3_2p := g3_2; try simp [F] at g3_2p
     all_goals
      replace F := aF g3_2 F; (try replace F := aF g3_2p F); refine go2 (k := ?_); refine ca (c := bad_ok (hs _)) (k := ?_); rintro _ _ ⟨rfl, rfl⟩; (repeat (first | simp [F] | simp (disch := omega) only [wC, if_pos, if_neg])); refine go2 (k := ?_); refine hJ56 _ _ ?_; refine cs (fun c14 => ?_) (fun c14 => ?_)
      · (try exact nope c14); all_goals have c14p := c14; try simp [F] at c14p
        all_goals
         replace F := aF c14 F; (try replace F := aF c14p F); refine sr fun _ hJ58 => ?_
         refine ca (c := byte_ok (by first | exact h | exact hs _)) (k := ?_)
         rintro _ _ ⟨rfl, rfl⟩; (repeat (first | simp [F] | simp (disch := omega) only [wC, if_pos, if_neg])); refine hJ58 _ _ ?_; refine sq fun K59 hK59 => ?_; (try have : Small q.l := ⟨by omega⟩); refine rg' (h := fun J60 hJ60 => ?_); refine ca (c := num_ok (hs _)) (k := ?_); rintro _ _ ⟨rfl, rfl⟩; (repeat (first | simp [F] | simp (disch := omega) only [wC, if_pos, if_neg])); refine hJ60 _ _ ?_; refine hK59 _ _ ?_; refine sr fun _ hJ62 => ?_; refine hJ62 _ _ ?_; refine run_goto ?_; refine ⟨rfl, (⟨q.m - 1, numS (takeS 1 q.s), q.l ++ [coinS q.s]⟩), ⟨kp, ?_, ?_, lp, lp, ?_⟩, ?_⟩
         · simp
           omega
         · rw [← hg]
           exact (coinsGo_more g3_2p (by intro e; simp [e] at c14p)).symm
         · rfl
         · simp
           omega
      (try exact nope c14); all_goals have c14p := c14; try simp [F] at c14p
      all_goals
       replace F := aF c14 F; (try replace F := aF c14p F); refine run_skip ?_; refine hK54 _ _ ?_; refine sq fun K63 hK63 => ?_; refine sr fun _ hJ65 => ?_
       refine ca (c := (by first | exact right_nilA | exact right_slA (by omega))) (k := ?_)
       rintro _ _ ⟨rfl, rfl⟩; (repeat (first | simp [F] | simp (disch := omega) only [wC, if_pos, if_neg])); refine hJ65 _ _ ?_; refine cs (fun c28 => ?_) (fun c28 => ?_)
       · (try exact nope c28); all_goals have c28p := c28; try simp [F] at c28p
         all_goals
          replace F := aF c28 F; (try replace F := aF c28p F); refine rg' (h := fun J66 hJ66 => ?_); refine ca (c := fail_ok (hs _)) (k := ?_); rintro _ _ ⟨rfl, rfl⟩; (repeat (first | simp [F] | simp (disch := omega) only [wC, if_pos, if_neg])); refine hJ66 _ _ ?_; refine hK63 _ _ ?_; refine sq fun K67 hK67 => ?_; refine sr fun _ hJ69 => ?_; refine ca (c := bad_ok (hs _)) (k := ?_); rintro _ _ ⟨rfl, rfl⟩; (repeat (first | simp [F] | simp (disch := omega) only [wC, if_pos, if_neg])); refine hJ69 _ _ ?_; refine cs (fun c32 => ?_) (fun c32 => ?_)
          · (try exact nope c32); all_goals have c32p := c32; try simp [F] at c32p
            all_goals
             replace F := aF c32 F; (try replace F := aF c32p F); refine sr fun _ hJ71 => ?_; refine hJ71 _ _ ?_; refine ra ?_
             have e : coinsR s = (q.l, q.s) := by rw [← hg]; exact coinsGo_stop (by first | (left; simp at g3_2; omega) | (right; simpa using c14))
             obtain ⟨e1, e2⟩ := coinsR_none e (.inl (by simpa using c28))
             rw [e1, e2]
             exact ⟨Wk.nil _ _ _, [], tkA q.l, [], by simp⟩
          (try exact nope c32); all_goals have c32p := c32; try simp [F] at c32p
          all_goals
           replace F := aF c32 F; (try replace F := aF c32p F); refine run_skip ?_; refine hK67 _ _ ?_; refine sr fun _ hJ73 => ?_; refine hJ73 _ _ ?_; refine ra ?_
           have e : coinsR s = (q.l, q.s) := by rw [← hg]; exact coinsGo_stop (by first | (left; simp at g3_2; omega) | (right; simpa using c14))
           obtain ⟨e1, e2⟩ := coinsR_none e (.inl (by simpa using c28))
           rw [e1, e2]
           exact ⟨Wk.nil _ _ _, [], tkA q.l, [], by simp⟩
       (try exact nope c28); all_goals have c28p := c28; try simp [F] at c28p
       all_goals
        replace F := aF c28 F; (try replace F := aF c28p F); refine run_skip ?_; refine hK63 _ _ ?_; refine sq fun K74 hK74 => ?_; refine sr fun _ hJ76 => ?_; refine ca (c := bad_ok (hs _)) (k := ?_); rintro _ _ ⟨rfl, rfl⟩; (repeat (first | simp [F] | simp (disch := omega) only [wC, if_pos, if_neg])); refine hJ76 _ _ ?_; refine cs (fun c32 => ?_) (fun c32 => ?_)
        · (try exact nope c32); all_goals have c32p := c32; try simp [F] at c32p
          all_goals
           replace F := aF c32 F; (try replace F := aF c32p F); refine sr fun _ hJ78 => ?_; refine hJ78 _ _ ?_; refine ra ?_
           first | (obtain ⟨e1, e2⟩ := coinsR_none (L := q.l) (S := q.s) (by rw [← hg]; exact coinsGo_stop (.inr (by simpa using c14))) (.inr (by simpa using c14)); rw [e1, e2]; exact ⟨Wk.nil _ _ _, [], tkA q.l, [], by simp⟩) | (have h0 : takeS 1 s = none := (by simpa using c14); obtain ⟨e1, e2⟩ := coinsR_none (by rw [coinsR, coinsGo_stop (.inr h0)]) (.inr h0); rw [e1, e2]; exact ⟨Wk.nil _ _ _, [], [], [], by simp⟩)
        (try exact nope c32); all_goals have c32p := c32; try simp [F] at c32p
        all_goals
         replace F := aF c32 F; (try replace F := aF c32p F); refine run_skip ?_; refine hK74 _ _ ?_; refine sr fun _ hJ80 => ?_; refine hJ80 _ _ ?_; refine ra ?_
         first | (obtain ⟨e1, e2⟩ := coinsR_none (L := q.l) (S := q.s) (by rw [← hg]; exact coinsGo_stop (.inr (by simpa using c14))) (.inr (by simpa using c14)); rw [e1, e2]; exact ⟨Wk.nil _ _ _, [], tkA q.l, [], by simp⟩) | (have h0 : takeS 1 s = none := (by simpa using c14); obtain ⟨e1, e2⟩ := coinsR_none (by rw [coinsR, coinsGo_stop (.inr h0)]) (.inr h0); rw [e1, e2]; exact ⟨Wk.nil _ _ _, [], [], [], by simp⟩)
   (try exact nope g3_2); all_goals have g3_2p := g3_2; try simp [F] at g3_2p
   all_goals
    replace F := aF g3_2 F; (try replace F := aF g3_2p F); (iterate 3 refine no2 (k := ?_)); refine hJ56 _ _ ?_; refine cf ?_; refine run_skip ?_; refine hK54 _ _ ?_; refine sq fun K81 hK81 => ?_; refine sr fun _ hJ83 => ?_
    refine ca (c := (by first | exact right_nilA | exact right_slA (by omega))) (k := ?_)
    rintro _ _ ⟨rfl, rfl⟩; (repeat (first | simp [F] | simp (disch := omega) only [wC, if_pos, if_neg])); refine hJ83 _ _ ?_; refine cs (fun c28 => ?_) (fun c28 => ?_)
    · (try exact nope c28); all_goals have c28p := c28; try simp [F] at c28p
      all_goals
       replace F := aF c28 F; (try replace F := aF c28p F); refine rg' (h := fun J84 hJ84 => ?_); refine ca (c := fail_ok (hs _)) (k := ?_); rintro _ _ ⟨rfl, rfl⟩; (repeat (first | simp [F] | simp (disch := omega) only [wC, if_pos, if_neg])); refine hJ84 _ _ ?_; refine hK81 _ _ ?_; refine sq fun K85 hK85 => ?_; refine sr fun _ hJ87 => ?_; refine ca (c := bad_ok (hs _)) (k := ?_); rintro _ _ ⟨rfl, rfl⟩; (repeat (first | simp [F] | simp (disch := omega) only [wC, if_pos, if_neg])); refine hJ87 _ _ ?_; refine cs (fun c32 => ?_) (fun c32 => ?_)
       · (try exact nope c32); all_goals have c32p := c32; try simp [F] at c32p
         all_goals
          replace F := aF c32 F; (try replace F := aF c32p F); refine sr fun _ hJ89 => ?_; refine hJ89 _ _ ?_; refine ra ?_
          have e : coinsR s = (q.l, q.s) := by rw [← hg]; exact coinsGo_stop (by first | (left; simp at g3_2; omega) | (right; simpa using c14))
          obtain ⟨e1, e2⟩ := coinsR_none e (.inl (by simpa using c28))
          rw [e1, e2]
          exact ⟨Wk.nil _ _ _, [], tkA q.l, [], by simp⟩
       (try exact nope c32); all_goals have c32p := c32; try simp [F] at c32p
       all_goals
        replace F := aF c32 F; (try replace F := aF c32p F); refine run_skip ?_; refine hK85 _ _ ?_; refine sr fun _ hJ91 => ?_; refine hJ91 _ _ ?_; refine ra ?_
        have e : coinsR s = (q.l, q.s) := by rw [← hg]; exact coinsGo_stop (by first | (left; simp at g3_2; omega) | (right; simpa using c14))
        obtain ⟨e1, e2⟩ := coinsR_none e (.inl (by simpa using c28))
        rw [e1, e2]
        exact ⟨Wk.nil _ _ _, [], tkA q.l, [], by simp⟩
    (try exact nope c28); all_goals have c28p := c28; try simp [F] at c28p
    all_goals
     replace F := aF c28 F; (try replace F := aF c28p F); refine run_skip ?_; refine hK81 _ _ ?_; refine sq fun K92 hK92 => ?_; refine sr fun _ hJ94 => ?_; refine ca (c := bad_ok (hs _)) (k := ?_); rintro _ _ ⟨rfl, rfl⟩; (repeat (first | simp [F] | simp (disch := omega) only [wC, if_pos, if_neg])); refine hJ94 _ _ ?_; refine cs (fun c32 => ?_) (fun c32 => ?_)
     · (try exact nope c32); all_goals have c32p := c32; try simp [F] at c32p
       all_goals
        replace F := aF c32 F; (try replace F := aF c32p F); refine sr fun _ hJ96 => ?_; refine hJ96 _ _ ?_; refine ra ?_
        first | (obtain ⟨e1, e2⟩ := coinsR_none (L := q.l) (S := q.s) (by rw [← hg]; exact coinsGo_stop (.inr (by simpa using c32))) (.inr (by simpa using c32)); rw [e1, e2]; exact ⟨Wk.nil _ _ _, [], tkA q.l, [], by simp⟩) | (have h0 : takeS 1 s = none := (by simpa using c32); obtain ⟨e1, e2⟩ := coinsR_none (by rw [coinsR, coinsGo_stop (.inr h0)]) (.inr h0); rw [e1, e2]; exact ⟨Wk.nil _ _ _, [], [], [], by simp⟩)
     (try exact nope c32); all_goals have c32p := c32; try simp [F] at c32p
     all_goals
      replace F := aF c32 F; (try replace F := aF c32p F); refine run_skip ?_; refine hK92 _ _ ?_; refine sr fun _ hJ98 => ?_; refine hJ98 _ _ ?_; refine ra ?_
      first | (obtain ⟨e1, e2⟩ := coinsR_some (L := q.l) (S := q.s) (by rw [← hg]; exact coinsGo_stop (.inl (by simp at g3_2; omega))) (by simpa using c28) (by intro e; simp [e] at c32); rw [e1, e2]; exact ⟨wk_slA _ _, [], tkA q.l, [], by simp⟩) | (have h0 : be (takeB 1 s) = 0 := (by simp at g3_2; omega); obtain ⟨e1, e2⟩ := coinsR_some (by rw [coinsR, coinsGo_stop (.inl h0)]) (by decide) (by intro e; simp [e] at c32); rw [e1, e2]; exact ⟨Wk.nil _ _ _, [], [], [], by simp⟩)

theorem coinsGo_len : ∀ (m : Nat) (s : Option (List UInt8)) (l : List Coin), (coinsGo m s l).1.length ≤ m + l.length
  | 0, _, _ => by simp [coinsGo]
  | m + 1, none, l => by simp [coinsGo]
  | m + 1, some p, l => by
    have := coinsGo_len m (numS (takeS 1 (some p))) (l ++ [coinS (some p)])
    simp only [coinsGo, List.length_append, List.length_cons, List.length_nil] at this ⊢
    omega
theorem coinsL_le (s : Option (List UInt8)) : (coinsL s).length ≤ 255 := by
  unfold coinsL
  split
  · simp
  · have := coinsGo_len (be (takeB 1 s)) (takeS 1 s) []
    have hm := be_lt1 (takeB_len 1 s)
    simp only [List.length_nil] at this
    unfold coinsR
    omega

end Go.Proofs.Ytdbaddholggkbaa

/-
  The codec's writer, whatever it holds.
-/
namespace Go.Proofs.Ytdbaddholggkbaa
set_option linter.unnecessarySimpa false
open Go Go.Vm
set_option linter.unusedSimpArgs false
set_option linter.unusedVariables false
set_option maxRecDepth 100000
attribute [local simp] evalL wantedA isCall opA evalA evalAll evalsA evalOpt ofValue ofCell plain binA_eql_pn binA_neq_pn binA_gtr binA_lss binA_geq binA_leq binA_add binA_sub binA_eql binA_neq binA_or binA_shl binA_shr binA_mul binA_quo binA_rem binA_agg_eql binA_agg_neq convA_int unA_not fieldAddrA loadA partA pickA_true pickA_false pickA_bb lenA builtinA storeA splice AV.cells AV.isCell sliceA boundA intA callOf indexAddrA newObjA buildA fillA zeroA ofCells buildSliceA indexA fieldA coinsC_at

theorem callsA_gcO {σ : St} {P : Program} {f : FuncId} {args : List AV} {Q Q' : AV → St → Prop} (k : CallsA P f args σ Q) (h : ∀ av σ0, Q av σ0 → GoneO σ σ0 ∧ Q' (av.gcO σ.objs.length) (σ.trimO σ0)) : CallsA P f args σ Q' := by
  intro G w vs R hS hl hr hK
  refine k G w vs R hS hl hr (fun v av σ0 G' w' hq hE hS' hv => ?_)
  obtain ⟨hg, hq'⟩ := h av σ0 hq
  obtain ⟨hE2, hS2⟩ := hS.trimO hS' hE hg
  exact hK v _ _ _ _ hq' hE2 hS2 (hv.gcO hE hS.tot)

theorem callsA_gcOI {σ : St} {P : Program} {f : FuncId} {args : List AV} {A : AV} {ι : Type} {Pi : ι → Prop} {τ : ι → St} (k : CallsA P f args σ (fun av σ' => ∃ i, Pi i ∧ av = A ∧ ∃ l, σ' = { τ i with objs := (τ i).objs ++ l }))
    (hA : A.gcO σ.objs.length = A) (hl : ∀ i, (τ i).objs.length = σ.objs.length) (hgl : ∀ i, (τ i).gl = σ.gl) (hkp : ∀ i, Kp σ.objs.length σ.objs (τ i).objs) (hkr : ∀ i, KpR σ.objs.length σ.rows (τ i).rows) : CallsA P f args σ (fun av σ' => av = A ∧ ∃ i, Pi i ∧ σ' = τ i) := by
  refine callsA_gcO k (fun av σ0 ⟨i, hi, hv, l, h⟩ => ?_)
  subst h hv
  refine ⟨gone_kp (hgl i) (kp_more (hkp i)) (hkr i), hA, i, hi, ?_⟩
  have := hl i
  simp [St.trimO, ← this]

/-! ### What a writer holds -/
def wrA (k : Nat) (l : List UInt8) : AV := if l = [] then .sl 0 [] 0 .full else .sl 1 (bytesA l) l.length (.own k)
def Tk (tk : List Nat) (k : Nat) (l : List UInt8) : Prop := l = [] ∨ tk[k]? = some l.length

structure Wr (tk : List Nat) (k : Nat) (l : List UInt8) (tk' : List Nat) (k' : Nat) (l' : List UInt8) : Prop where
  tok : Tk tk' k' l'
  len : tk.length ≤ tk'.length
  keep : ∀ (j v : Nat), (l = [] ∨ j ≠ k) → tk[j]? = some v → tk'[j]? = some v
  own : l' = [] ∨ (k' = k ∧ l ≠ []) ∨ tk.length ≤ k'

theorem Wr.refl {tk : List Nat} {k : Nat} {l : List UInt8} (h : Tk tk k l) : Wr tk k l tk k l := ⟨h, Nat.le_refl _, fun _ _ _ h => h, by
  by_cases e : l = []
  · exact .inl e
  · exact .inr (.inl ⟨rfl, e⟩)⟩

theorem lt_get {l : List Nat} {i v : Nat} (h : l[i]? = some v) : i < l.length := (List.getElem?_eq_some_iff.1 h).1

theorem Wr.trans {tk tk1 tk2 : List Nat} {k k1 k2 : Nat} {l l1 l2 : List UInt8} (h : Wr tk k l tk1 k1 l1) (g : Wr tk1 k1 l1 tk2 k2 l2) : Wr tk k l tk2 k2 l2 := by
  refine ⟨g.tok, Nat.le_trans h.len g.len, fun j v hj hv => g.keep j v ?_ (h.keep j v hj hv), ?_⟩
  · have hlt := lt_get hv
    rcases h.own with e | ⟨e, e2⟩ | e
    · exact .inl e
    · rcases hj with hj | hj
      · exact absurd hj e2
      · exact .inr (by omega)
    · exact .inr (by omega)
  · rcases g.own with e | ⟨e, e2⟩ | e
    · exact .inl e
    · rcases h.own with e3 | ⟨e3, e4⟩ | e3
      · exact absurd e3 e2
      · exact .inr (.inl ⟨by omega, e4⟩)
      · exact .inr (.inr (by omega))
    · have := h.len
      exact .inr (.inr (by omega))

theorem Wr.pre {tk tk' : List Nat} {k k' : Nat} {l' : List UInt8} (h : Wr tk k [] tk' k' l') : ∃ m, tk' = tk ++ m := by
  refine ⟨tk'.drop tk.length, ?_⟩; refine List.ext_getElem? fun i => ?_
  by_cases hi : i < tk.length
  · rw [List.getElem?_append_left hi]
    rw [List.getElem?_eq_getElem hi]
    exact h.keep i _ (.inl rfl) (List.getElem?_eq_getElem hi)
  · rw [List.getElem?_append_right (by omega), List.getElem?_drop]
    congr 1; omega

theorem noObj_wrA' (n k : Nat) (l : List UInt8) : AV.noObj n (wrA k l) = true := by
  unfold wrA
  split <;> simp [noObjL, AV.noObj]
theorem noObj_wrA (n k : Nat) (l : List UInt8) : noObjL n [wrA k l] = true := by
  unfold wrA
  split <;> simp [noObjL, AV.noObj]

def WP (id : Nat) (σ : St) (k : Nat) (l q : List UInt8) : AV → St → Prop := fun av σ' => av = .ptr id 0 ∧ ∃ k' tk', Wr σ.toks k l tk' k' (l ++ q) ∧ σ' = { σ with objs := σ.objs.set id [wrA k' (l ++ q)], toks := tk' }

theorem lay_ok {σ : St} {id k : Nat} {l q : List UInt8} {tq : Tail} (h : σ.objs[id]? = some [wrA k l]) (ht : Tk σ.toks k l) (hne : l ++ q ≠ []) (hl : l.length ≤ 1000000) (hq : q.length ≤ 1000000) :
    CallsA Try.prog 129 [.ptr id 0, .sl 1 (bytesA q) q.length tq] σ (WP id σ k l q) := by
  by_cases e : l = []
  · subst e
    refine callsA_mono (lay_new (by simpa [wrA] using h) hq) (fun av σ' ⟨h1, h2⟩ => ⟨h1, σ.toks.length, σ.toks ++ [q.length], ⟨.inr ?_, ?_, fun j v _ hj => ?_, .inr (.inr (Nat.le_refl _))⟩, ?_⟩)
    · simp
    · simp
    · rw [List.getElem?_append_left (lt_get hj)]; exact hj
    · rw [h2]; simp at hne; simp [wrA, hne]
  · have hk := ht.resolve_left e
    refine callsA_mono (lay_more (by simpa [wrA, e] using h) hk hl hq) (fun av σ' ⟨h1, h2⟩ => ⟨h1, k, σ.toks.set k (l ++ q).length, ⟨.inr (set_self_of hk _), by simp, fun j v hj hv => ?_, .inr (.inl ⟨rfl, e⟩)⟩, ?_⟩)
    · rw [List.getElem?_set_ne (Ne.symm (hj.resolve_left e))]; exact hv
    · rw [h2]; simp [wrA, e]

set_option maxHeartbeats 1600000 in
attribute [local simp] undefA List.getElem?_cons_zero List.getElem?_cons_succ in
theorem wbyte_ok {σ : St} {id k : Nat} {l : List UInt8} {b : UInt8} (h : σ.objs[id]? = some [wrA k l]) (ht : Tk σ.toks k l) (hl : l.length ≤ 1000000) :
    CallsA Try.prog 88 [.ptr id 0, .v (.int .u8 b.toNat)] σ (WP id σ k l [b]) := by
  have hv : (Value.int IntKind.u8 0).cells.size = 1 := rfl
  have F := And.intro hv (True.intro)
  refine callsA_body Try.func88 rfl rfl rfl ?_; refine sr fun _ hJ2 => ?_; refine hJ2 _ _ ?_; refine sr fun _ hJ4 => ?_
  refine ca (c := lay_ok (q := [b]) h ht (by simp) hl (by simp)) (k := ?_)
  rintro _ _ ⟨rfl, k1, tk1, hw1, rfl⟩; (repeat (first | simp [F] | simp (disch := omega) only [wC, if_pos, if_neg])); refine hJ4 _ _ ?_; refine ra ?_; exact ⟨rfl, k1, tk1, hw1, rfl⟩

set_option maxHeartbeats 1600000 in
attribute [local simp] undefA List.getElem?_cons_zero List.getElem?_cons_succ in
theorem wflag_ok {σ : St} {id k : Nat} {l : List UInt8} {b : Bool} (h : σ.objs[id]? = some [wrA k l]) (ht : Tk σ.toks k l) (hl : l.length ≤ 1000000) :
    CallsA Try.prog 105 [.ptr id 0, .v (.bool b)] σ (WP id σ k l [if b then 1 else 0]) := by
  have hv : (Value.int IntKind.u8 0).cells.size = 1 := rfl
  have F := And.intro hv (True.intro)
  refine callsA_body Try.func105 rfl rfl rfl ?_; refine sr fun _ hJ2 => ?_; refine hJ2 _ _ ?_; refine sq fun K3 hK3 => ?_; refine sr fun _ hJ5 => ?_; refine hJ5 _ _ ?_; refine cs (fun c5 => ?_) (fun c5 => ?_)
  · (try exact nope c5); all_goals have c5p := c5; try simp [F] at c5p
    all_goals
     replace F := aF c5 F; (try replace F := aF c5p F); refine sr fun _ hJ7 => ?_
     refine ca (c := lay_ok (q := [1]) h ht (by simp) hl (by simp)) (k := ?_)
     rintro _ _ ⟨rfl, k1, tk1, hw1, rfl⟩; (repeat (first | simp [F] | simp (disch := omega) only [wC, if_pos, if_neg])); refine hJ7 _ _ ?_; refine ra ?_
     have e : b = true := (by simpa using c5)
     subst e
     exact ⟨rfl, k1, tk1, hw1, rfl⟩
  (try exact nope c5); all_goals have c5p := c5; try simp [F] at c5p
  all_goals
   replace F := aF c5 F; (try replace F := aF c5p F); refine run_skip ?_; refine hK3 _ _ ?_; refine sr fun _ hJ9 => ?_
   refine ca (c := lay_ok (q := [0]) h ht (by simp) hl (by simp)) (k := ?_)
   rintro _ _ ⟨rfl, k1, tk1, hw1, rfl⟩; (repeat (first | simp [F] | simp (disch := omega) only [wC, if_pos, if_neg])); refine hJ9 _ _ ?_; refine ra ?_
   have e : b = false := (by simpa using c5)
   subst e
   exact ⟨rfl, k1, tk1, hw1, rfl⟩

def encN (x : Nat) : List UInt8 := UInt8.ofNat (natBytes x).length :: natBytes x

set_option maxHeartbeats 1600000 in
attribute [local simp] undefA List.getElem?_cons_zero List.getElem?_cons_succ in
theorem wnum_ok {σ : St} {id k x : Nat} {l : List UInt8} (h : σ.objs[id]? = some [wrA k l]) (ht : Tk σ.toks k l) (hx : x < 2 ^ 256) (hl : l.length ≤ 900000) :
    CallsA Try.prog 103 [.ptr id 0, .agg (numA x)] σ (WP id σ k l (encN x)) := by
  have hlt := lt_of_get h
  refine callsA_mono (callsA_gcOI (A := .ptr id 0) (Pi := fun i : Nat × List Nat => Wr σ.toks k l i.2 i.1 (l ++ encN x)) (τ := fun i => { σ with objs := σ.objs.set id [wrA i.1 (l ++ encN x)], toks := i.2 }) ?_ (by simp [AV.gcO, hlt]) (fun _ => by simp) (fun _ => rfl) (fun _ => kp_set (kp_refl _) (noObj_wrA _ _ _)) (fun _ => kpr_refl _)) (fun av σ' ⟨h1, i, h2, h3⟩ => ⟨h1, i.1, i.2, h2, h3⟩)
  have hs := set_self_of h
  have hlen : (natBytes x).length ≤ 32 := natBytes_len x 32 (by simpa using hx)
  obtain ⟨c, hc⟩ : ∃ c, c = UInt8.ofNat (natBytes x).length := ⟨_, rfl⟩
  have hcn : c.toNat = (natBytes x).length := by rw [hc]; exact toNat_ofNat (by omega)
  have hw : IntKind.u8.wrap ((natBytes x).length : Int) = (c.toNat : Int) := by rw [wrap_u8, hcn, Nat.mod_eq_of_lt (by omega)]
  have ho1 : ∀ r, (σ.objs ++ r)[id]? = some [wrA k l] := fun r => by rw [List.getElem?_append_left hlt]; exact h
  have ho2 : ∀ x r, (σ.objs.set id x ++ r)[id]? = some x := fun x r => by rw [List.getElem?_append_left (by simpa using hlt)]; exact hs x
  have ho3 : ∀ x r, (σ.objs ++ r).set id x = σ.objs.set id x ++ r := fun x r => List.set_append_left _ _ hlt
  have ho4 : ∀ x y r, (σ.objs.set id y ++ r).set id x = σ.objs.set id x ++ r := fun x y r => by rw [List.set_append_left _ _ (by simpa using hlt), List.set_set]
  have hv : (Value.int IntKind.u8 0).cells.size = 1 := rfl
  have F := And.intro hw (And.intro hv (And.intro ho1 (And.intro ho2 (And.intro ho3 (And.intro ho4 (True.intro))))))
  refine callsA_body Try.func103 rfl rfl rfl ?_; refine sr fun _ hJ2 => ?_; refine hJ2 _ _ ?_; refine sr fun _ hJ4 => ?_; refine ca (c := bytes_ok hx) (k := ?_); rintro _ _ ⟨rfl, rfl⟩; (repeat (first | simp [F] | simp (disch := omega) only [wC, if_pos, if_neg])); refine hJ4 _ _ ?_; refine sr fun _ hJ6 => ?_
  refine ca (c := lay_ok (q := [c]) (ho1 _) ht (by simp) (by omega) (by simp)) (k := ?_)
  rintro _ _ ⟨rfl, k1, tk1, hw1, rfl⟩; repeat (first | simp [F] | simp (disch := omega) only [wC, if_pos, if_neg])
  refine ca (c := lay_ok (l := l ++ [c]) (k := k1) (ho2 _ _) hw1.tok (by simp) (by simp; omega) (by omega)) (k := ?_)
  rintro _ _ ⟨rfl, k2, tk2, hw2, rfl⟩; (repeat (first | simp [F] | simp (disch := omega) only [wC, if_pos, if_neg])); refine hJ6 _ _ ?_; refine ra ?_
  have e : l ++ [c] ++ natBytes x = l ++ encN x := (by simp [encN, hc])
  rw [e] at hw2
  have e2 : c :: natBytes x = encN x := (by simp [encN, hc])
  simp only [e2]
  exact ⟨(k2, tk2), hw1.trans hw2, rfl, _, rfl⟩

def nBytes (size n : Nat) : List UInt8 := (List.range size).map fun j => UInt8.ofNat (n / 2 ^ (8 * (size - 1 - j)) % 256)
theorem nBytes_len (size n : Nat) : (nBytes size n).length = size := by simp [nBytes]

structure WSt where
  j : Nat
  k : Nat
  tk : List Nat

set_option maxHeartbeats 1600000 in
attribute [local simp] undefA List.getElem?_cons_zero List.getElem?_cons_succ in
theorem wnumber_ok {σ : St} {id k n size : Nat} {l : List UInt8} (h : σ.objs[id]? = some [wrA k l]) (ht : Tk σ.toks k l) (hn : n < 2 ^ 64) (hsz : size ≤ 8) (hl : l.length ≤ 900000) :
    CallsA Try.prog 87 [.ptr id 0, .v (.int .u64 n), .v (.int .i64 size)] σ (WP id σ k l (nBytes size n)) := by
  have hs := set_self_of h
  have hs0 := St.set_same h
  have hv : (Value.int IntKind.u8 0).cells.size = 1 := rfl
  have F := And.intro hv (True.intro)
  refine callsA_body Try.func87 rfl rfl rfl ?_; refine sr fun _ hJ2 => ?_; refine hJ2 _ _ ?_; refine sq fun K3 hK3 => ?_; refine sr fun _ hJ5 => ?_; refine hJ5 _ _ ?_; refine run_block_k ?_; refine run_loopF (X := WSt) [1, 6] (fun q ρ σ1 => (q.j ≤ size) ∧ (Wr σ.toks k l q.tk q.k (l ++ (nBytes size n).take q.j)) ∧ (ρ 0 = .ptr id 0) ∧ (ρ 7 = .v (.int .i64 ((size : Int) - 1 - q.j))) ∧ (σ1 = { σ with objs := σ.objs.set id [wrA q.k (l ++ (nBytes size n).take q.j)], toks := q.tk })) (fun q => size - q.j) (⟨0, k, σ.toks⟩) ?st1 ?rd1
  case st1 =>
   refine ⟨lp, ?_, lp, lp, ?_⟩
   · simpa using Wr.refl ht
   · simpa using hs0.symm
  case rd1 =>
   rintro q ρ1 σ1 hF1 ⟨hj, hw, h0, h7, hσ⟩; obtain rfl := hσ.symm
   have f1 := keepL hF1
   (try simp [KeepL, F] at f1); replace F := aF h0 F; replace F := aF h7 F; (try replace F := aF f1 F); refine sq fun K6 hK6 => ?_; refine sr fun _ hJ8 => ?_; refine hJ8 _ _ ?_; refine cs (fun c11 => ?_) (fun c11 => ?_)
   · (try exact nope c11); all_goals have c11p := c11; try simp [F] at c11p
     all_goals
      replace F := aF c11 F; (try replace F := aF c11p F); refine run_skip ?_; refine hK6 _ _ ?_; refine sq fun K9 hK9 => ?_; refine run_block_k ?_
      obtain ⟨i, hi⟩ : ∃ i, i = size - 1 - q.j := ⟨_, rfl⟩
      have he : (size : Int) - 1 - q.j = (i : Int) := by omega
      have hi8 : i < 8 := by omega
      obtain ⟨b, hb⟩ : ∃ b, b = UInt8.ofNat (n / 2 ^ (8 * i) % 256) := ⟨_, rfl⟩
      have hbn : b.toNat = n / 2 ^ (8 * i) % 256 := by rw [hb]; exact toNat_ofNat (by omega)
      have hnx : (nBytes size n).take (q.j + 1) = (nBytes size n).take q.j ++ [b] := by rw [take_snoc (by rw [nBytes_len]; omega)]; simp [nBytes, hb, hi]
      have htl : ((nBytes size n).take q.j).length ≤ 8 := by simp [nBytes_len]; omega
      have hnn : ¬ 8 * (i : Int) < 0 := by omega
      have hsh : Int.fdiv (n : Int) (2 ^ (min (8 * (i : Int)).toNat 64)) = ((n / 2 ^ (8 * i) : Nat) : Int) := by rw [show min (8 * (i : Int)).toNat 64 = 8 * i by omega, Int.fdiv_eq_ediv_of_nonneg _ (by exact Int.le_of_lt (Int.pow_pos (by omega)))]; simp
      have hcv : IntKind.u8.wrap ((n / 2 ^ (8 * i) : Nat) : Int) = (b.toNat : Int) := by rw [wrap_u8, hbn]
      generalize n / 2 ^ (8 * i) = z at *
      replace F := aF he F; replace F := aF hnn F; replace F := aF hsh F; replace F := aF hcv F; refine rg' (h := fun J10 hJ10 => ?_)
      refine ca (c := lay_ok (q := [b]) (hs _) hw.tok (by simp) (by simp; omega) (by simp)) (k := ?_)
      rintro _ _ ⟨rfl, k1, tk1, hw1, rfl⟩; (repeat (first | simp [F] | simp (disch := omega) only [wC, if_pos, if_neg])); refine hJ10 _ _ ?_; refine hK9 _ _ ?_; refine rg' (h := fun J11 hJ11 => ?_); refine hJ11 _ _ ?_; refine ⟨(⟨q.j + 1, k1, tk1⟩), ⟨kp, lp, ?_, lp, ?_, ?_⟩, lp⟩
      · have hq2 := hw.trans hw1
        rw [List.append_assoc, ← hnx] at hq2
        exact hq2
      · simp
        omega
      · simp [hnx]
   (try exact nope c11); all_goals have c11p := c11; try simp [F] at c11p
   all_goals
    replace F := aF c11 F; (try replace F := aF c11p F); refine run_exit ?_; refine hK3 _ _ ?_; refine sr fun _ hJ13 => ?_; refine hJ13 _ _ ?_; refine ra ?_
    have hfull : (nBytes size n).take q.j = nBytes size n := List.take_of_length_le (by rw [nBytes_len]; simp at c11; omega)
    rw [hfull] at hw
    rw [hfull]
    exact ⟨by simp [F], q.k, q.tk, hw, rfl⟩

set_option maxHeartbeats 1600000 in
attribute [local simp] undefA List.getElem?_cons_zero List.getElem?_cons_succ in
theorem wshort_ok {σ : St} {id k n : Nat} {l : List UInt8} (h : σ.objs[id]? = some [wrA k l]) (ht : Tk σ.toks k l) (hn : n < 2 ^ 16) (hl : l.length ≤ 900000) :
    CallsA Try.prog 104 [.ptr id 0, .v (.int .u16 n)] σ (WP id σ k l (nBytes 2 n)) := by
  have F := True.intro
  refine callsA_body Try.func104 rfl rfl rfl ?_; refine sr fun _ hJ2 => ?_; refine hJ2 _ _ ?_; refine sr fun _ hJ4 => ?_
  refine ca (c := wnumber_ok (size := 2) h ht (by omega) (by omega) hl) (k := ?_)
  rintro _ _ ⟨rfl, k1, tk1, hw1, rfl⟩; (repeat (first | simp [F] | simp (disch := omega) only [wC, if_pos, if_neg])); refine hJ4 _ _ ?_; refine ra ?_; exact ⟨rfl, k1, tk1, hw1, rfl⟩

set_option maxHeartbeats 1600000 in
attribute [local simp] undefA List.getElem?_cons_zero List.getElem?_cons_succ in
theorem wlong_ok {σ : St} {id k n : Nat} {l : List UInt8} (h : σ.objs[id]? = some [wrA k l]) (ht : Tk σ.toks k l) (hn : n < 2 ^ 64) (hl : l.length ≤ 900000) :
    CallsA Try.prog 39 [.ptr id 0, .v (.int .u64 n)] σ (WP id σ k l (nBytes 8 n)) := by
  have F := True.intro
  refine callsA_body Try.func39 rfl rfl rfl ?_; refine sr fun _ hJ2 => ?_; refine hJ2 _ _ ?_; refine sr fun _ hJ4 => ?_
  refine ca (c := wnumber_ok (size := 8) h ht hn (by omega) hl) (k := ?_)
  rintro _ _ ⟨rfl, k1, tk1, hw1, rfl⟩; (repeat (first | simp [F] | simp (disch := omega) only [wC, if_pos, if_neg])); refine hJ4 _ _ ?_; refine ra ?_; exact ⟨rfl, k1, tk1, hw1, rfl⟩

def encC (c : Coin) : List UInt8 := c.d :: encN c.n.v
def encCs (l : List Coin) : List UInt8 := l.flatMap encC
def encL (l : List Coin) : List UInt8 := UInt8.ofNat l.length :: encCs l

theorem encC_len (c : Coin) : (encC c).length ≤ 34 := by
  have := natBytes_len c.n.v 32 (by simpa using c.n.h)
  simp [encC, encN]; omega
theorem encCs_len : ∀ l : List Coin, (encCs l).length ≤ 34 * l.length
  | [] => by simp [encCs]
  | c :: l => by
    have h1 := encC_len c
    have h2 := encCs_len l
    simp [encCs] at h2 ⊢
    omega
theorem encCs_snoc (l : List Coin) (c : Coin) : encCs (l ++ [c]) = encCs l ++ encC c := by simp [encCs]

set_option maxHeartbeats 1600000 in
attribute [local simp] undefA List.getElem?_cons_zero List.getElem?_cons_succ noObj_wrA noObj_wrA' coinC in
theorem wcoins_ok {σ : St} {id k : Nat} {l : List UInt8} {L : List Coin} {tL : Tail} (h : σ.objs[id]? = some [wrA k l]) (ht : Tk σ.toks k l) (hL : L.length ≤ 255) (hl : l.length ≤ 500000) :
    CallsA Try.prog 89 [.ptr id 0, .sl 5 (coinsC L) L.length tL] σ (WP id σ k l (encL L)) := by
  have hlt := lt_of_get h
  refine callsA_mono (callsA_gcOI (A := .ptr id 0) (Pi := fun i : Nat × List Nat => Wr σ.toks k l i.2 i.1 (l ++ encL L)) (τ := fun i => { σ with objs := σ.objs.set id [wrA i.1 (l ++ encL L)], toks := i.2 }) ?_ (by simp [AV.gcO, hlt]) (fun _ => by simp) (fun _ => rfl) (fun _ => kp_set (kp_refl _) (noObj_wrA _ _ _)) (fun _ => kpr_refl _)) (fun av σ' ⟨h1, i, h2, h3⟩ => ⟨h1, i.1, i.2, h2, h3⟩)
  have hs := set_self_of h
  obtain ⟨c, hc⟩ : ∃ c, c = UInt8.ofNat L.length := ⟨_, rfl⟩
  have hcn : c.toNat = L.length := by rw [hc]; exact toNat_ofNat (by omega)
  have hw : IntKind.u8.wrap (L.length : Int) = (c.toNat : Int) := by rw [wrap_u8, hcn, Nat.mod_eq_of_lt (by omega)]
  have ho1 : ∀ r, (σ.objs ++ r)[id]? = some [wrA k l] := fun r => by rw [List.getElem?_append_left hlt]; exact h
  have ho2 : ∀ x r, (σ.objs.set id x ++ r)[id]? = some x := fun x r => by rw [List.getElem?_append_left (by simpa using hlt)]; exact hs x
  have ho3 : ∀ x r, (σ.objs ++ r).set id x = σ.objs.set id x ++ r := fun x r => List.set_append_left _ _ hlt
  have ho4 : ∀ x y r, (σ.objs.set id y ++ r).set id x = σ.objs.set id x ++ r := fun x y r => by rw [List.set_append_left _ _ (by simpa using hlt), List.set_set]
  have hv : (Value.int IntKind.u8 0).cells.size = 1 := rfl
  have F := And.intro hw (And.intro hv (And.intro ho1 (And.intro ho2 (And.intro ho3 (And.intro ho4 (And.intro hlt (True.intro)))))))
  refine callsA_body Try.func89 rfl rfl rfl ?_; refine sr fun _ hJ2 => ?_; refine hJ2 _ _ ?_; refine sr fun _ hJ4 => ?_
  refine ca (c := lay_ok (q := [c]) h ht (by simp) (by omega) (by simp)) (k := ?_)
  rintro _ _ ⟨rfl, k1, tk1, hw1, rfl⟩; (repeat (first | simp [F] | simp (disch := omega) only [wC, if_pos, if_neg])); refine hJ4 _ _ ?_; refine sq fun K5 hK5 => ?_; refine sr fun _ hJ7 => ?_; refine hJ7 _ _ ?_; refine run_block_k ?_; refine run_loopG (X := WSt) [4, 13, 14] (fun q ρ σ1 => (q.j ≤ L.length) ∧ (Wr σ.toks k l q.tk q.k (l ++ c :: encCs (L.take q.j))) ∧ (ρ 0 = .ptr id 0) ∧ (ρ 15 = .v (.int .i64 q.j)) ∧ (σ1 = { σ with objs := σ.objs.set id [wrA q.k (l ++ c :: encCs (L.take q.j))], toks := q.tk })) (fun q => L.length - q.j) (⟨0, k1, tk1⟩) ?st1 ?rd1
  case st1 =>
   refine ⟨lp, ?_, lp, lp, ?_⟩
   · simpa [encCs] using hw1
   · simp [encCs]
  case rd1 =>
   rintro q ρ1 σ1 hF1 ⟨hj, hq, h0, h15, hσ⟩; obtain rfl := hσ.symm
   have f1 := keepL hF1
   (try simp [KeepL, F] at f1); replace F := aF h0 F; replace F := aF h15 F; (try replace F := aF f1 F); refine sr fun _ hJ9 => ?_; refine hJ9 _ _ ?_; refine sq fun K10 hK10 => ?_; refine cs (fun c16 => ?_) (fun c16 => ?_)
   · (try exact nope c16); all_goals have c16p := c16; try simp [F] at c16p
     all_goals
      replace F := aF c16 F; (try replace F := aF c16p F); refine run_skip ?_; refine hK10 _ _ ?_; refine sq fun K11 hK11 => ?_; refine run_block_k ?_; refine sr fun _ hJ13 => ?_; refine hJ13 _ _ ?_
      have hel := encCs_len (L.take q.j)
      have htl : (L.take q.j).length ≤ 255 := by simp; omega
      refine run_draw (by kernel_rfl) fun J14 hJ14 => ?_
      refine rp2 0 (k := ?_); refine rp2 1 (k := ?_); refine rp2 2 (k := ?_); refine rp2 3 (k := ?_); refine rp2 5 (k := ?_); refine rp2 6 (k := ?_)
      refine dc 4 rfl (c := lay_ok (l := l ++ c :: encCs (L.take q.j)) (q := [L[q.j].d]) (ho2 _ _) hq.tok (by simp) (by simp; omega) (by simp)) (k := ?_)
      rintro _ _ ⟨rfl, k2, tk2, hw2, rfl⟩
      refine ⟨by first | exact fun _ _ h => h | (refine later_list [6, 5, 2, 1] (by kernel_rfl) (List.forall_mem_cons.2 ⟨fun _ => fact2 rfl rfl ?_, List.forall_mem_cons.2 ⟨fun _ => fact2 rfl rfl ?_, List.forall_mem_cons.2 ⟨fun _ => fact2 rfl rfl ?_, List.forall_mem_cons.2 ⟨fun _ => fact2 rfl rfl ?_, fun _ h => absurd h List.not_mem_nil⟩⟩⟩⟩) <;> constructor <;> first | rfl | (simp [F]; done)), ?_⟩
      repeat (first | simp [F] | simp (disch := omega) only [wC, if_pos, if_neg])
      refine dc 7 rfl (c := wnum_ok (l := l ++ c :: (encCs (L.take q.j) ++ [L[q.j].d])) (x := L[q.j].n.v) (ho2 _ _) (by simpa using hw2.tok) L[q.j].n.h (by simp; omega)) (k := ?_)
      rintro _ _ ⟨rfl, k3, tk3, hw3, rfl⟩
      refine ⟨by first | exact fun _ _ h => h | (refine later_list [5, 2, 1] (by kernel_rfl) (List.forall_mem_cons.2 ⟨fun _ => fact2 rfl rfl ?_, List.forall_mem_cons.2 ⟨fun _ => fact2 rfl rfl ?_, List.forall_mem_cons.2 ⟨fun _ => fact2 rfl rfl ?_, fun _ h => absurd h List.not_mem_nil⟩⟩⟩) <;> constructor <;> first | rfl | (simp [F]; done)), ?_⟩
      (repeat (first | simp [F] | simp (disch := omega) only [wC, if_pos, if_neg])); refine dop 8 rfl ?_; (repeat (first | simp [F] | simp (disch := omega) only [wC, if_pos, if_neg])); (try refine ⟨ln, ?_⟩); refine dd ?_; refine hJ14 _ _ ?_; refine hK11 _ _ ?_; refine rg' (h := fun J15 hJ15 => ?_); refine hJ15 _ _ ?_
      have e3 : encCs (L.take (q.j + 1)) = encCs (L.take q.j) ++ L[q.j].d :: encN L[q.j].n.v := by rw [take_snoc (by simp at c16; omega), encCs_snoc]; rfl
      simp only [List.append_assoc, List.cons_append, List.nil_append] at hw2 hw3
      refine ⟨gk, (⟨q.j + 1, k3, tk3⟩), ⟨kpG, lpG, ?_, lpG, lpG, ?_⟩, lpG⟩
      · simp only [e3]
        exact (hq.trans hw2).trans hw3
      · simp [St.trimO, e3]
   (try exact nope c16); all_goals have c16p := c16; try simp [F] at c16p
   all_goals
    replace F := aF c16 F; (try replace F := aF c16p F); refine run_exit ?_; refine hK5 _ _ ?_; refine sr fun _ hJ17 => ?_; refine hJ17 _ _ ?_; refine ra ?_
    have hfull : L.take q.j = L := List.take_of_length_le (by simp at c16; omega)
    rw [hfull] at hq
    rw [hfull]
    have e2 : c :: encCs L = encL L := (by simp [encL, hc])
    rw [e2] at hq
    simp only [e2]
    exact ⟨(q.k, q.tk), hq, by simp [F], [], by simp⟩

end Go.Proofs.Ytdbaddholggkbaa

/-
  What was read of a list of coins is what writing it again lays: the plain law.
-/
namespace Go.Proofs.Ytdbaddholggkbaa
set_option linter.unnecessarySimpa false
set_option maxRecDepth 100000
open Go Go.Vm
set_option linter.unusedVariables false

theorem be_cons_pos {b : UInt8} {l : List UInt8} (h : b ≠ 0) : 0 < be (b :: l) := by
  induction l using snoc_ind with
  | h0 =>
    have : b.toNat ≠ 0 := fun e => h (UInt8.toNat_inj.1 e)
    simp [be]; omega
  | hs l c ih =>
    rw [← List.cons_append, be_snoc]; omega

theorem natBytes_be {b : UInt8} {l : List UInt8} (h : b ≠ 0) : natBytes (be (b :: l)) = b :: l := by
  induction l using snoc_ind with
  | h0 =>
    have hb : b.toNat ≠ 0 := fun e => h (UInt8.toNat_inj.1 e)
    have hlt := b.toNat_lt
    have e : be [b] = b.toNat := by simp [be]
    rw [e, natBytes_pos (by omega), show b.toNat / 256 = 0 by omega, natBytes_zero, show b.toNat % 256 = b.toNat by omega]
    simp
  | hs l c ih =>
    have hp := be_cons_pos (l := l) h
    have hc := c.toNat_lt
    rw [← List.cons_append, be_snoc, natBytes_pos (by omega), show (be (b :: l) * 256 + c.toNat) / 256 = be (b :: l) by omega, show (be (b :: l) * 256 + c.toNat) % 256 = c.toNat by omega, ih]
    simp

theorem natBytes_numOf {p : List UInt8} (h : numOk p = true) : natBytes (numOf p) = p := by
  simp only [numOf, h, if_true]
  cases p with
  | nil => simp [be, natBytes_zero]
  | cons b l =>
    refine natBytes_be ?_; simp [numOk] at h
    exact h.2

theorem takeS_split {n : Nat} {p q : List UInt8} (h : takeS n (some p) = some q) : p = takeB n (some p) ++ q ∧ (takeB n (some p)).length = n := by
  unfold takeS at h
  unfold takeB
  by_cases hn : n ≤ p.length
  · simp only [hn, if_true] at h ⊢
    cases h
    simp; omega
  · simp [hn] at h

theorem byte_split {p q : List UInt8} (h : takeS 1 (some p) = some q) : p = byteS (some p) :: q := by
  obtain ⟨h1, h2⟩ := takeS_split h
  unfold byteS
  match hb : takeB 1 (some p), h2 with
  | [b], _ =>
    rw [hb] at h1
    simpa using h1

theorem num_split {p q : List UInt8} (h : numS (some p) = some q) : p = encN (numOf (numB (some p))) ++ q := by
  unfold numS at h
  split at h
  · rename_i hok
    cases h1 : takeS 1 (some p) with
    | none => rw [h1] at h; simp [takeS] at h
    | some p1 =>
      have e1 := byte_split h1
      rw [h1] at h
      obtain ⟨e2, e3⟩ := takeS_split h
      have e4 : numB (some p) = takeB (be (takeB 1 (some p))) (some p1) := by rw [numB, h1]
      rw [← e4] at e2 e3
      rw [encN, natBytes_numOf hok, e3, be_byteS]
      have : UInt8.ofNat (byteS (some p)).toNat = byteS (some p) := by simp
      rw [this, List.cons_append, ← e2]
      exact e1
  · cases h

theorem coin_split {p q : List UInt8} (h : numS (takeS 1 (some p)) = some q) : p = encC (coinS (some p)) ++ q := by
  cases h1 : takeS 1 (some p) with
  | none => rw [h1] at h; simp [numS, takeS] at h
  | some p1 =>
    have e1 := byte_split h1
    rw [h1] at h
    have e2 := num_split h
    unfold encC coinS
    rw [h1]
    show p = byteS (some p) :: (encN (numOf (numB (some p1))) ++ q)
    rw [← e2]; exact e1

theorem coinsGo_split : ∀ (m : Nat) (p : List UInt8) (l L : List Coin) (q : List UInt8), coinsGo m (some p) l = (L, some q) → ∃ L2, L = l ++ L2 ∧ L2.length = m ∧ p = encCs L2 ++ q
  | 0, p, l, L, q, h => by
    simp [coinsGo] at h
    exact ⟨[], by simp [h.1], rfl, by simp [encCs, h.2]⟩
  | m + 1, p, l, L, q, h => by
    simp only [coinsGo] at h
    cases h1 : numS (takeS 1 (some p)) with
    | none =>
      rw [h1, coinsGo_stop (.inr rfl)] at h
      cases h
    | some p2 =>
      rw [h1] at h
      obtain ⟨L2, e1, e2, e3⟩ := coinsGo_split m p2 _ L q h
      refine ⟨coinS (some p) :: L2, by rw [e1]; simp, by simp [e2], ?_⟩
      have e4 := coin_split h1
      have e5 : encCs (coinS (some p) :: L2) = encC (coinS (some p)) ++ encCs L2 := by simp [encCs]
      rw [e5, List.append_assoc, ← e3]
      exact e4

theorem coins_split {p q : List UInt8} (h : coinsS (some p) = some q) : p = encL (coinsL (some p)) ++ q := by
  have hl : coinsL (some p) = (coinsR (some p)).1 := by unfold coinsL; rw [h]; simp
  have hr : (coinsR (some p)).2 = some q := by
    unfold coinsS at h
    split at h
    · exact h
    · cases h
  cases h1 : takeS 1 (some p) with
  | none =>
    unfold coinsR at hr
    rw [h1, coinsGo_stop (.inr rfl)] at hr
    cases hr
  | some p1 =>
    have e1 := byte_split h1
    have e0 : coinsR (some p) = coinsGo (be (takeB 1 (some p))) (some p1) [] := by unfold coinsR; rw [h1]
    obtain ⟨L2, g1, g2, g3⟩ := coinsGo_split (be (takeB 1 (some p))) p1 [] (coinsR (some p)).1 q (by rw [← e0, ← hr])
    rw [hl, g1, List.nil_append, encL, g2, be_byteS]
    have : UInt8.ofNat (byteS (some p)).toNat = byteS (some p) := by simp
    rw [this, List.cons_append, ← g3]
    exact e1

end Go.Proofs.Ytdbaddholggkbaa

/-
  A plan without what is locked..
-/
namespace Go.Proofs.Ytdbaddholggkbaa
set_option linter.unnecessarySimpa false
set_option maxRecDepth 100000
open Go Go.Vm
set_option linter.unusedSimpArgs false
set_option linter.unusedVariables false
attribute [local simp] evalL wantedA isCall opA evalA evalAll evalsA evalOpt ofValue ofCell plain binA_eql_pn binA_neq_pn binA_gtr binA_lss binA_geq binA_leq binA_add binA_sub binA_eql binA_neq binA_orI binA_andI binA_shl binA_shr binA_mul binA_quo binA_rem binA_agg_eql binA_agg_neq convA_int unA_not fieldAddrA loadA partA pickA_true pickA_false pickA_bb lenA builtinA storeA splice AV.cells AV.isCell sliceA boundA intA callOf indexAddrA newObjA buildA fillA zeroA ofCells buildSliceA indexA fieldA numA_len4 numA_take4 numA_drop4 set_appN get_appN take_appN List.getElem?_cons_zero List.getElem?_cons_succ makeA zeros64

theorem cut_nil {k : UInt8} (h : k = 0) : WkL [.v (.int .u8 k.toNat), .v (.int .u64 0), .v (.int .u64 0), .sl 0 [] 0 .full, .sl 0 [] 0 .full] (plnC ⟨0, 0, 0, [], []⟩) := by
  subst h
  exact .cons (Wk.refl _) (.cons (Wk.refl _) (.cons (Wk.refl _) (.cons (Wk.nil _ _ _) (.cons (Wk.nil _ _ _) .nil))))

end Go.Proofs.Ytdbaddholggkbaa

/-
  Lists of coins: what both readers make of a list's bytes.
-/
namespace Go.Proofs.Ytdbaddholggkbaa
set_option linter.unnecessarySimpa false
open Go Go.Vm
set_option linter.unusedSimpArgs false
set_option linter.unusedVariables false
set_option maxRecDepth 100000
attribute [local simp] evalL wantedA isCall opA evalA evalAll evalsA evalOpt ofValue ofCell plain binA_eql_pn binA_neq_pn binA_gtr binA_lss binA_geq binA_leq binA_add binA_sub binA_eql binA_neq binA_or binA_shl binA_shr binA_mul binA_quo binA_rem binA_agg_eql binA_agg_neq convA_int unA_not fieldAddrA loadA partA pickA_true pickA_false pickA_bb lenA builtinA storeA splice AV.cells AV.isCell sliceA boundA intA callOf indexAddrA newObjA buildA fillA zeroA ofCells indexA fieldA coinsC_at

theorem noObjL_inC (n : Nat) (p : List UInt8) (k : Nat) (b : Bool) : noObjL n (inC p .shut k b) = true := by simp [inC, noObjL, AV.noObj]

theorem gcO_slA (n k : Nat) (l : List Coin) : AV.gcO n (slA k l) = slA k l := by
  unfold slA
  split <;> simp [AV.gcO, noObjL]

structure CSk where
  m : Nat
  s : Option (List UInt8)
  l : List Coin
  k : Nat

set_option maxHeartbeats 1600000 in
attribute [local simp] undefA List.getElem?_cons_zero List.getElem?_cons_succ coinS_cells build_coin append_slA noObjL_inC gcO_slA in
theorem inCoins_ok {σ : St} {id k : Nat} {p : List UInt8} {s : Option (List UInt8)} (h : σ.objs[id]? = some (inC p .shut k s.isNone)) (hp : p.length ≤ 1000000) (hk : At p k s) :
    CallsA Try.prog 86 [.ptr id 0] σ (fun av σ' => av = .sl 5 (coinsC (coinsL s)) (coinsL s).length .shut ∧ ∃ k', At p k' (coinsS s) ∧ σ' = { σ with objs := σ.objs.set id (inC p .shut k' (coinsS s).isNone) }) := by
  refine callsA_gcI (x := fun k' => inC p .shut k' (coinsS s).isNone) ?_ (by simp [AV.under]) (fun _ => inC_under _ _ _ _)
  have hs := set_self_of h
  have hlt := lt_of_get h
  have ho2 : ∀ x r, (σ.objs.set id x ++ r)[id]? = some x := fun x r => by rw [List.getElem?_append_left (by simpa using hlt)]; exact hs x
  have ho3 : ∀ x r, (σ.objs ++ r).set id x = σ.objs.set id x ++ r := fun x r => List.set_append_left _ _ hlt
  have ho4 : ∀ x y r, (σ.objs.set id y ++ r).set id x = σ.objs.set id x ++ r := fun x y r => by rw [List.set_append_left _ _ (by simpa using hlt), List.set_set]
  have hm := be_lt1 (takeB_len 1 s)
  have F := And.intro h (And.intro hs (And.intro ho2 (And.intro ho3 (And.intro ho4 (And.intro hlt (True.intro))))))
  refine callsA_body Try.func86 rfl rfl rfl ?_; refine sr fun _ hJ2 => ?_; refine hJ2 _ _ ?_; refine sr fun _ hJ4 => ?_; refine hJ4 _ _ ?_; refine sr fun _ hJ6 => ?_; refine ca (c := inByte_ok h hp hk) (k := ?_); rintro _ _ ⟨rfl, k0, hk0, rfl⟩; (repeat (first | simp [F] | simp (disch := omega) only [wC, if_pos, if_neg])); refine hJ6 _ _ ?_; refine sq fun K7 hK7 => ?_; refine sr fun _ hJ9 => ?_; refine hJ9 _ _ ?_; refine run_block_k ?_; refine run_loopG (X := CSk) [0, 2, 4] (fun q ρ σ1 => (q.m ≤ be (takeB 1 s)) ∧ (q.m + q.l.length ≤ 255) ∧ (coinsGo q.m q.s q.l = coinsR s) ∧ (At p q.k q.s) ∧ (ρ 5 = .v (.int .i64 (be (takeB 1 s) - q.m : Nat))) ∧ (ρ 3 = slA σ.toks.length q.l) ∧ (σ1 = { σ with objs := σ.objs.set id (inC p .shut q.k q.s.isNone), toks := σ.toks ++ tkA q.l })) (fun q => q.m) (⟨be (takeB 1 s), takeS 1 s, [], k0⟩) ?st1 ?rd1
  case st1 =>
   refine ⟨lp, ?_, lp, lp, lp, lp, lp⟩
   · simp
     omega
  case rd1 =>
   rintro q ρ1 σ1 hF1 ⟨hm, hml, hg, hq, hi, h3, hσ⟩; obtain rfl := hσ.symm
   have f1 := keepL hF1
   (try simp [KeepL, F] at f1); replace F := aF hi F; replace F := aF h3 F; (try replace F := aF f1 F); refine sq fun K10 hK10 => ?_; refine sr fun _ hJ12 => ?_; refine gs 14 (fun g4_3 => ?_) (fun g4_3 => ?_)
   · (try exact nope g4_3); all_goals have g4_3p := g4_3; try simp [F] at g4_3p
     all_goals
      replace F := aF g4_3 F; (try replace F := aF g4_3p F); (iterate 5 refine go2 (k := ?_)); refine hJ12 _ _ ?_; refine cs (fun c20 => ?_) (fun c20 => ?_)
      · (try exact nope c20); all_goals have c20p := c20; try simp [F] at c20p
        all_goals
         replace F := aF c20 F; (try replace F := aF c20p F); refine run_skip ?_; refine hK10 _ _ ?_; refine sq fun K13 hK13 => ?_; refine run_block_k ?_; refine sr fun _ hJ15 => ?_; refine ca (c := inByte_ok (hs _) hp hq) (k := ?_); rintro _ _ ⟨rfl, k1, hk1, rfl⟩; (repeat (first | simp [F] | simp (disch := omega) only [wC, if_pos, if_neg])); refine hJ15 _ _ ?_; refine sr fun _ hJ17 => ?_; refine ca (c := inNum_ok (hs _) hp hk1) (k := ?_); rintro _ _ ⟨rfl, k2, hk2, rfl⟩; (repeat (first | simp [F] | simp (disch := omega) only [wC, if_pos, if_neg])); refine hJ17 _ _ ?_
         have : Small q.l := ⟨by omega⟩
         refine rg' (h := fun J18 hJ18 => ?_); refine hJ18 _ _ ?_; refine hK13 _ _ ?_; refine rg' (h := fun J19 hJ19 => ?_); refine hJ19 _ _ ?_; refine ⟨gk, (⟨q.m - 1, numS (takeS 1 q.s), q.l ++ [coinS q.s], k2⟩), ⟨kpG, ?_, ?_, ?_, ?_, ?_, lpG, lpG⟩, ?_⟩
         · simp
           omega
         · simp
           omega
         · rw [← hg]
           exact (coinsGo_more (by simp at g4_3; omega) (by intro e; simp [e] at c20p)).symm
         · exact hk2
         · simp [AV.gcO]
           omega
         · simp
           omega
      (try exact nope c20); all_goals have c20p := c20; try simp [F] at c20p
      all_goals
       replace F := aF c20 F; (try replace F := aF c20p F); refine run_exit ?_; refine hK7 _ _ ?_; refine sq fun K20 hK20 => ?_; refine sr fun _ hJ22 => ?_; refine gs 37 (fun g9_4 => ?_) (fun g9_4 => ?_)
       · (try exact nope g9_4); all_goals have g9_4p := g9_4; try simp [F] at g9_4p
         all_goals
          replace F := aF g9_4 F; (try replace F := aF g9_4p F); (iterate 3 refine no2 (k := ?_)); refine hJ22 _ _ ?_; refine ct ?_; refine sr fun _ hJ24 => ?_; refine hJ24 _ _ ?_; refine sr fun _ hJ26 => ?_; refine hJ26 _ _ ?_; refine ra ?_
          have h0 : q.s = none := (by simpa using c20)
          obtain ⟨e1, e2⟩ := coinsR_none (L := q.l) (S := q.s) (by rw [← hg]; exact coinsGo_stop (.inr h0)) (.inr h0)
          rw [e1, e2]
          exact ⟨q.k, ⟨hq.1, .inl rfl⟩, Wk.nil _ _ _, [], tkA q.l, [], by simp [inC]⟩
       (try exact nope g9_4); all_goals have g9_4p := g9_4; try simp [F] at g9_4p
       all_goals
        replace F := aF g9_4 F; (try replace F := aF g9_4p F); refine go2 (k := ?_)
        refine ca (c := rright_slA (by omega)) (k := ?_)
        rintro _ _ ⟨rfl, rfl⟩; (repeat (first | simp [F] | simp (disch := omega) only [wC, if_pos, if_neg])); refine go2 (k := ?_); refine hJ22 _ _ ?_; refine cs (fun c41 => ?_) (fun c41 => ?_)
        · (try exact nope c41); all_goals have c41p := c41; try simp [F] at c41p
          all_goals
           replace F := aF c41 F; (try replace F := aF c41p F); refine sr fun _ hJ28 => ?_; refine hJ28 _ _ ?_; refine sr fun _ hJ30 => ?_; refine hJ30 _ _ ?_; refine ra ?_
           obtain ⟨e1, e2⟩ := coinsR_none (L := q.l) (S := q.s) (by rw [← hg]; exact coinsGo_stop (.inl (by simp at g4_3; omega))) (.inl (by simpa using c41))
           rw [e1, e2]
           exact ⟨q.k, ⟨hq.1, .inl rfl⟩, Wk.nil _ _ _, [], tkA q.l, [], by simp [inC]⟩
        (try exact nope c41); all_goals have c41p := c41; try simp [F] at c41p
        all_goals
         replace F := aF c41 F; (try replace F := aF c41p F); refine run_skip ?_; refine hK20 _ _ ?_; refine sr fun _ hJ32 => ?_; refine hJ32 _ _ ?_; refine ra ?_
         obtain ⟨e1, e2⟩ := coinsR_some (L := q.l) (S := q.s) (by rw [← hg]; exact coinsGo_stop (.inl (by simp at g4_3; omega))) (by simpa using c41) (by intro e; simp [e] at g9_4)
         rw [e1, e2]
         exact ⟨q.k, hq, wk_slA _ _, [], tkA q.l, [], by rw [g9_4]; simp⟩
   (try exact nope g4_3); all_goals have g4_3p := g4_3; try simp [F] at g4_3p
   all_goals
    replace F := aF g4_3 F; (try replace F := aF g4_3p F); (iterate 5 refine no2 (k := ?_)); refine hJ12 _ _ ?_; refine cf ?_; refine run_exit ?_; refine hK7 _ _ ?_; refine sq fun K33 hK33 => ?_; refine sr fun _ hJ35 => ?_; refine gs 37 (fun g9_4 => ?_) (fun g9_4 => ?_)
    · (try exact nope g9_4); all_goals have g9_4p := g9_4; try simp [F] at g9_4p
      all_goals
       replace F := aF g9_4 F; (try replace F := aF g9_4p F); (iterate 3 refine no2 (k := ?_)); refine hJ35 _ _ ?_; refine ct ?_; refine sr fun _ hJ37 => ?_; refine hJ37 _ _ ?_; refine sr fun _ hJ39 => ?_; refine hJ39 _ _ ?_; refine ra ?_
       have h0 : q.s = none := (by simpa using g9_4)
       obtain ⟨e1, e2⟩ := coinsR_none (L := q.l) (S := q.s) (by rw [← hg]; exact coinsGo_stop (.inr h0)) (.inr h0)
       rw [e1, e2]
       exact ⟨q.k, ⟨hq.1, .inl rfl⟩, Wk.nil _ _ _, [], tkA q.l, [], by simp [inC]⟩
    (try exact nope g9_4); all_goals have g9_4p := g9_4; try simp [F] at g9_4p
    all_goals
     replace F := aF g9_4 F; (try replace F := aF g9_4p F); refine go2 (k := ?_)
     refine ca (c := rright_slA (by omega)) (k := ?_)
     rintro _ _ ⟨rfl, rfl⟩; (repeat (first | simp [F] | simp (disch := omega) only [wC, if_pos, if_neg])); refine go2 (k := ?_); refine hJ35 _ _ ?_; refine cs (fun c41 => ?_) (fun c41 => ?_)
     · (try exact nope c41); all_goals have c41p := c41; try simp [F] at c41p
       all_goals
        replace F := aF c41 F; (try replace F := aF c41p F); refine sr fun _ hJ41 => ?_; refine hJ41 _ _ ?_; refine sr fun _ hJ43 => ?_; refine hJ43 _ _ ?_; refine ra ?_
        obtain ⟨e1, e2⟩ := coinsR_none (L := q.l) (S := q.s) (by rw [← hg]; exact coinsGo_stop (.inl (by simp at g4_3; omega))) (.inl (by simpa using c41))
        rw [e1, e2]
        exact ⟨q.k, ⟨hq.1, .inl rfl⟩, Wk.nil _ _ _, [], tkA q.l, [], by simp [inC]⟩
     (try exact nope c41); all_goals have c41p := c41; try simp [F] at c41p
     all_goals
      replace F := aF c41 F; (try replace F := aF c41p F); refine run_skip ?_; refine hK33 _ _ ?_; refine sr fun _ hJ45 => ?_; refine hJ45 _ _ ?_; refine ra ?_
      obtain ⟨e1, e2⟩ := coinsR_some (L := q.l) (S := q.s) (by rw [← hg]; exact coinsGo_stop (.inl (by simp at g4_3; omega))) (by simpa using c41) (by intro e; simp [e] at g9_4)
      rw [e1, e2]
      exact ⟨q.k, hq, wk_slA _ _, [], tkA q.l, [], by rw [g9_4]; simp⟩

end Go.Proofs.Ytdbaddholggkbaa

/-
  A plan, read of any bytes..
-/
namespace Go.Proofs.Ytdbaddholggkbaa
set_option linter.unnecessarySimpa false
set_option maxRecDepth 100000
open Go Go.Vm
set_option linter.unusedSimpArgs false
set_option linter.unusedVariables false
attribute [local simp] evalL wantedA isCall opA evalA evalAll evalsA evalOpt ofValue ofCell plain binA_eql_pn binA_neq_pn binA_gtr binA_lss binA_geq binA_leq binA_add binA_sub binA_eql binA_neq binA_orI binA_andI binA_shl binA_shr binA_mul binA_quo binA_rem binA_agg_eql binA_agg_neq convA_int unA_not fieldAddrA loadA partA pickA_true pickA_false pickA_bb lenA builtinA storeA splice AV.cells AV.isCell sliceA boundA intA callOf indexAddrA newObjA buildA fillA zeroA ofCells buildSliceA indexA fieldA numA_len4 numA_take4 numA_drop4 set_appN get_appN take_appN List.getElem?_cons_zero List.getElem?_cons_succ makeA zeros64

def perS (s : Option (List UInt8)) : Per := ⟨be (takeB 8 s), coinsL (takeS 8 s)⟩
def perT (s : Option (List UInt8)) : Option (List UInt8) := coinsS (takeS 8 s)
def persGo : Nat → Option (List UInt8) → List Per → List Per × Option (List UInt8)
  | 0, s, l => (l, s)
  | _ + 1, none, l => (l, none)
  | m + 1, some p, l => persGo m (perT (some p)) (l ++ [perS (some p)])
theorem persGo_more {m : Nat} {s : Option (List UInt8)} {l : List Per} (hm : 0 < m) (hs : ¬ s = none) : persGo m s l = persGo (m - 1) (perT s) (l ++ [perS s]) := by
  match m, s, hm, hs with
  | m + 1, some p, _, _ => rfl
theorem persGo_stop {m : Nat} {s : Option (List UInt8)} {l : List Per} (h : m = 0 ∨ s = none) : persGo m s l = (l, s) := by
  match m, s, h with
  | 0, _, _ => rfl
  | m + 1, none, _ => rfl
def s4S (s : Option (List UInt8)) : Option (List UInt8) := coinsS (takeS 8 (takeS 8 (takeS 1 s)))
def planR (s : Option (List UInt8)) : List Per × Option (List UInt8) := persGo (be (takeB 1 (s4S s))) (takeS 1 (s4S s)) []
def planP (s : Option (List UInt8)) (L : List Per) : Pln := ⟨byteS s, be (takeB 8 (takeS 1 s)), be (takeB 8 (takeS 8 (takeS 1 s))), coinsL (takeS 8 (takeS 8 (takeS 1 s))), L⟩
def takeT (s : Option (List UInt8)) : Option (List UInt8) := if rightB (planP s (planR s).1) = true then (planR s).2 else none
def takeP (s : Option (List UInt8)) : Pln := if takeT s = none then ⟨0, 0, 0, [], []⟩ else planP s (planR s).1
theorem take_none {s S : Option (List UInt8)} {L : List Per} (h : planR s = (L, S)) (h2 : rightB (planP s L) = false ∨ S = none) : takeP s = ⟨0, 0, 0, [], []⟩ ∧ takeT s = none := by
  have e : takeT s = none := by
    unfold takeT
    rw [h]
    rcases h2 with h2 | h2
    · simp [h2]
    · simp [h2]
  exact ⟨by simp [takeP, e], e⟩
theorem take_some {s S : Option (List UInt8)} {L : List Per} (h : planR s = (L, S)) (h1 : rightB (planP s L) = true) (h2 : ¬ S = none) : takeP s = planP s L ∧ takeT s = S := by
  have e : takeT s = S := by
    unfold takeT
    rw [h, if_pos h1]
  exact ⟨by rw [takeP, e, if_neg h2, h], e⟩
theorem planP_ok {s : Option (List UInt8)} {L : List Per} (hl : L.length ≤ 255) (hx : ∀ x ∈ L, x.l < 2 ^ 64 ∧ x.c.length ≤ 255) : (planP s L).Ok := by
  refine ⟨be_lt8 _ (takeB_len 8 _), be_lt8 _ (takeB_len 8 _), ?_, ?_, fun x h => ⟨(hx x h).1, ?_⟩⟩
  · have := coinsL_le (takeS 8 (takeS 8 (takeS 1 s))); simp only [planP]; omega
  · simp only [planP]; omega
  · have := (hx x h).2; omega
theorem perS_ok (s : Option (List UInt8)) : (perS s).l < 2 ^ 64 ∧ (perS s).c.length ≤ 255 := ⟨be_lt8 _ (takeB_len 8 _), coinsL_le _⟩

structure TSt where
  m : Nat
  s : Option (List UInt8)
  l : List Per

theorem nil0 {L : List Per} (h : posB L.length = false) : persC L = [] ∧ L.length = 0 := by
  have h0 := posB_no h
  have : L = [] := List.length_eq_zero_iff.1 h0
  subst this
  exact ⟨rfl, rfl⟩
theorem take_wk {s : Option (List UInt8)} {L : List Per} {k : Nat} : WkL [.v (.int .u8 (be (takeB 1 s))), .v (.int .u64 (be (takeB 8 (takeS 1 s)))), .v (.int .u64 (be (takeB 8 (takeS 8 (takeS 1 s))))), .sl 5 (coinsC (coinsL (takeS 8 (takeS 8 (takeS 1 s))))) (coinsL (takeS 8 (takeS 8 (takeS 1 s)))).length .shut, grA k 2 (posB L.length) (persC L) L.length] (plnC (planP s L)) :=
  .cons (by rw [be_byteS]; exact Wk.refl _) (.cons (Wk.refl _) (.cons (Wk.refl _) (.cons (Wk.refl _) (.cons (wk_grA nil0) .nil))))

set_option maxHeartbeats 1600000 in
attribute [local simp] undefA List.getElem?_cons_zero List.getElem?_cons_succ perC persC_noObj in
theorem ptake_ok {σ : St} {id : Nat} {s : Option (List UInt8)} (h : σ.objs[id]? = some (rd s)) :
    CallsA Try.prog 34 [.ptr id 0] σ (fun av σ' => av = .agg (plnC (takeP s)) ∧ σ' = { σ with objs := σ.objs.set id (rd (takeT s)) }) := by
  refine callsA_gc_obj (Q := fun av σ' => Wk av (.agg (plnC (takeP s))) ∧ ∃ l m r, σ' = { σ with objs := σ.objs.set id (rd (takeT s)) ++ l, toks := σ.toks ++ m, rows := σ.rows ++ r }) ?_ (fun av σ' h => h) (by simp [AV.under, underL, plnC, persC_under]) (rd_under _ _)
  have hs := set_self_of h
  have hlt := lt_of_get h
  have ho1 : ∀ r, (σ.objs ++ r)[id]? = some (rd s) := fun r => by rw [List.getElem?_append_left hlt]; exact h
  have ho2 : ∀ x r, (σ.objs.set id x ++ r)[id]? = some x := fun x r => by rw [List.getElem?_append_left (by simpa using hlt)]; exact hs x
  have ho3 : ∀ x r, (σ.objs ++ r).set id x = σ.objs.set id x ++ r := fun x r => List.set_append_left _ _ hlt
  have ho4 : ∀ x y r, (σ.objs.set id y ++ r).set id x = σ.objs.set id x ++ r := fun x y r => by rw [List.set_append_left _ _ (by simpa using hlt), List.set_set]
  have hm := be_lt1 (takeB_len 1 (s4S s))
  have hgc : ∀ (k : Nat) (b : Bool) (cs : List AV) (n : Nat), (grA k 2 b cs n).isCell = true := fun k b cs n => by cases b <;> rfl
  simp only [AV.isCell] at hgc
  have hdr : ∀ f : Nat → AV, List.drop 2 (List.map f (List.range 2)) = [] := fun _ => rfl
  have hdr5 : ∀ f : Nat → AV, List.drop 5 (List.map f (List.range 5)) = [] := fun _ => rfl
  have hR : ∀ (L : List Per) (k : Nat) (τ : St), L.length ≤ 255 → (∀ x ∈ L, x.l < 2 ^ 64 ∧ x.c.length ≤ 255) → CallsA Try.prog 18 [.agg [.v (.int .u8 (be (takeB 1 s))), .v (.int .u64 (be (takeB 8 (takeS 1 s)))), .v (.int .u64 (be (takeB 8 (takeS 8 (takeS 1 s))))), .sl 5 (coinsC (coinsL (takeS 8 (takeS 8 (takeS 1 s))))) (coinsL (takeS 8 (takeS 8 (takeS 1 s)))).length .shut, grA k 2 (posB L.length) (persC L) L.length]] τ (fun av σ' => av = .v (.bool (rightB (planP s L))) ∧ τ = σ') :=
    fun L k τ hl hx => callsA_wk (.cons (WkL.agg take_wk) .nil) (plright_ok (planP_ok hl hx))
  have F := And.intro ho1 (And.intro ho2 (And.intro ho3 (And.intro ho4 (And.intro hlt (And.intro hdr (And.intro hdr5 (And.intro hgc (True.intro))))))))
  refine callsA_body Try.func34 rfl rfl rfl ?_; refine sr fun _ hJ2 => ?_; refine hJ2 _ _ ?_; refine sr fun _ hJ4 => ?_; refine ca (c := byte_ok (ho1 _)) (k := ?_); rintro _ _ ⟨rfl, rfl⟩; (repeat (first | simp [F] | simp (disch := omega) only [wC, if_pos, if_neg])); refine ca (c := long_ok (ho2 _ _)) (k := ?_); rintro _ _ ⟨rfl, rfl⟩; (repeat (first | simp [F] | simp (disch := omega) only [wC, if_pos, if_neg])); refine ca (c := long_ok (ho2 _ _)) (k := ?_); rintro _ _ ⟨rfl, rfl⟩; (repeat (first | simp [F] | simp (disch := omega) only [wC, if_pos, if_neg])); refine ca (c := rcoins_raw (ho2 _ _)) (k := ?_); rintro _ _ ⟨rfl, rfl⟩; (repeat (first | simp [F] | simp (disch := omega) only [wC, if_pos, if_neg])); refine hJ4 _ _ ?_; refine sq fun K5 hK5 => ?_; refine sr fun _ hJ7 => ?_; refine ca (c := byte_ok (ho2 _ _)) (k := ?_); rintro _ _ ⟨rfl, rfl⟩; (repeat (first | simp [F] | simp (disch := omega) only [wC, if_pos, if_neg])); refine hJ7 _ _ ?_; refine run_block_k ?_; refine run_loopF (X := TSt) [0, 2, 3] (fun q ρ σ1 => (q.m + q.l.length ≤ 255) ∧ (∀ x ∈ q.l, x.l < 2 ^ 64 ∧ x.c.length ≤ 255) ∧ (persGo q.m q.s q.l = planR s) ∧ (ρ 4 = .v (.int .u8 q.m)) ∧ (σ1 = { σ with objs := σ.objs.set id (rd q.s) ++ [[.v (.int .u8 0), .v (.int .u64 0), .v (.int .u64 0), .sl 0 [] 0 .full, .sl 0 [] 0 .full], [.v (.int .u8 (be (takeB 1 s))), .v (.int .u64 (be (takeB 8 (takeS 1 s)))), .v (.int .u64 (be (takeB 8 (takeS 8 (takeS 1 s))))), .sl 5 (coinsC (coinsL (takeS 8 (takeS 8 (takeS 1 s))))) (coinsL (takeS 8 (takeS 8 (takeS 1 s)))).length .shut, grA σ.toks.length 2 (posB q.l.length) (persC q.l) q.l.length]], toks := σ.toks ++ grT (posB q.l.length) q.l.length })) (fun q => q.m) (⟨be (takeB 1 (s4S s)), takeS 1 (s4S s), []⟩) ?st1 ?rd1
  case st1 =>
   refine ⟨?_, ?_, ?_, lp, ?_⟩
   · simp
     omega
   · simp
   · rfl
   · simp [F, s4S]
  case rd1 =>
   rintro q ρ1 σ1 hF1 ⟨hm, hx, hg, h4, hσ⟩; obtain rfl := hσ.symm
   have f1 := keepL hF1
   (try simp [KeepL, F] at f1); replace F := aF h4 F; (try replace F := aF f1 F); refine sq fun K8 hK8 => ?_; refine sqc (X := Unit) [0, 2, 3, 4] (fun k ρ σ1 => (ρ 22 = .v (.bool (decide (0 < q.m) && !q.s.isNone))) ∧ (σ1 = { σ with objs := σ.objs.set id (rd q.s) ++ [[.v (.int .u8 0), .v (.int .u64 0), .v (.int .u64 0), .sl 0 [] 0 .full, .sl 0 [] 0 .full], [.v (.int .u8 (be (takeB 1 s))), .v (.int .u64 (be (takeB 8 (takeS 1 s)))), .v (.int .u64 (be (takeB 8 (takeS 8 (takeS 1 s))))), .sl 5 (coinsC (coinsL (takeS 8 (takeS 8 (takeS 1 s))))) (coinsL (takeS 8 (takeS 8 (takeS 1 s)))).length .shut, grA σ.toks.length 2 (posB q.l.length) (persC q.l) q.l.length]], toks := σ.toks ++ grT (posB q.l.length) q.l.length })) ?cy9 ?cx9
   case cy9 =>
    rintro k ρCr3 σ1 hFCr3 ⟨h22, hσ⟩; obtain rfl := hσ.symm
    have fCr3 := keepL hFCr3
    (try simp [KeepL, F] at fCr3); replace F := aF h22 F; (try replace F := aF fCr3 F); refine cs (t := (decide (0 < q.m) && !q.s.isNone)) (fun c22 => ?_) (fun c22 => ?_)
    · (try exact nope c22); all_goals have c22p := c22; try simp [F] at c22p
      all_goals
       replace F := aF c22 F; (try replace F := aF c22p F); refine run_skip ?_; refine hK8 _ _ ?_; refine sq fun K10 hK10 => ?_; refine run_block_k ?_
       obtain ⟨m, S, L⟩ := q
       simp only at hm hx hg h4
       have hmS : 0 < m ∧ ¬ S = none := by have h := c22; simp at h; exact ⟨h.1, by intro e; rw [e] at h; simp at h⟩
       have hnx := persGo_more (l := L) hmS.1 hmS.2
       have hP : persC (L ++ [perS S]) = persC L ++ [.v (.int .u64 (be (takeB 8 S))), .sl 5 (coinsC (coinsL (takeS 8 S))) (coinsL (takeS 8 S)).length .shut] := by rw [← persC_append]; rfl
       have hLl : L.length ≤ 254 := by omega
       have happ : ∀ objs, appendA Try.prog 24 (grA σ.toks.length 2 (posB L.length) (persC L) L.length) (.sl 2 [.v (.int .u64 (be (takeB 8 S))), .sl 5 (coinsC (coinsL (takeS 8 S))) (coinsL (takeS 8 S)).length .shut] 1 .full) ⟨objs, σ.toks ++ grT (posB L.length) L.length, σ.gl, σ.rows⟩ = some (grA σ.toks.length 2 true (persC L ++ [.v (.int .u64 (be (takeB 8 S))), .sl 5 (coinsC (coinsL (takeS 8 S))) (coinsL (takeS 8 S)).length .shut]) (L.length + 1), ⟨objs, σ.toks ++ grT true (L.length + 1), σ.gl, σ.rows⟩) := fun objs => append_gr elemT_24 ti_88 (by decide) rfl nil0 (.inl rfl) (by simp [roomA]; omega) (by simp [maxLen]; omega)
       have hwm : IntKind.u8.wrap ((m : Int) - 1) = ((m - 1 : Nat) : Int) := by rw [wrap_u8c (by omega)]; omega
       replace F := aF happ F
       refine run_draw (by kernel_rfl) fun J11 hJ11 => ?_
       refine rp2 0 (k := ?_); refine rp2 1 (k := ?_); refine rp2 2 (k := ?_); refine rp2 4 (k := ?_); refine dc 3 rfl (c := long_ok (ho2 _ _)) (k := ?_); rintro _ _ ⟨rfl, rfl⟩
       refine ⟨by first | exact fun _ _ h => h | (refine later_list [4, 1, 0] (by kernel_rfl) (List.forall_mem_cons.2 ⟨fun _ => fact2 rfl rfl ?_, List.forall_mem_cons.2 ⟨fun _ => fact2 rfl rfl ?_, List.forall_mem_cons.2 ⟨fun _ => fact2 rfl rfl ?_, fun _ h => absurd h List.not_mem_nil⟩⟩⟩) <;> constructor <;> first | rfl | (simp [F]; done)), ?_⟩
       (repeat (first | simp [F] | simp (disch := omega) only [wC, if_pos, if_neg])); refine dc 5 rfl (c := rcoins_raw (ho2 _ _)) (k := ?_); rintro _ _ ⟨rfl, rfl⟩
       refine ⟨by first | exact fun _ _ h => h | (refine later_list [1, 0] (by kernel_rfl) (List.forall_mem_cons.2 ⟨fun _ => fact2 rfl rfl ?_, List.forall_mem_cons.2 ⟨fun _ => fact2 rfl rfl ?_, fun _ h => absurd h List.not_mem_nil⟩⟩) <;> constructor <;> first | rfl | (simp [F]; done)), ?_⟩
       (repeat (first | simp [F] | simp (disch := omega) only [wC, if_pos, if_neg])); refine rp2 6 (k := ?_); refine rp2 7 (k := ?_); refine dop 8 rfl ?_; repeat (first | simp [F] | simp (disch := omega) only [wC, if_pos, if_neg])
       refine ⟨by first | exact fun _ _ h => h | (refine later_list [6, 0] (by kernel_rfl) (List.forall_mem_cons.2 ⟨fun _ => fact2 rfl rfl ?_, List.forall_mem_cons.2 ⟨fun _ => fact2 rfl rfl ?_, fun _ h => absurd h List.not_mem_nil⟩⟩) <;> constructor <;> first | rfl | (simp [F]; done)), ?_⟩
       refine rp2 9 (k := ?_); refine dop 10 rfl ?_; (repeat (first | simp [F] | simp (disch := omega) only [wC, if_pos, if_neg])); refine ⟨ln, ?_⟩; refine dd ?_; refine hJ11 _ _ ?_; refine hK10 _ _ ?_; replace F := aF hwm F; refine rg' (h := fun J12 hJ12 => ?_); refine hJ12 _ _ ?_; refine ⟨(⟨m - 1, perT S, L ++ [perS S]⟩), ⟨kp, ?_, ?_, ?_, lp, ?_⟩, ?_⟩
       · simp
         omega
       · intro x hxm
         rcases List.mem_append.1 hxm with h | h
         · exact hx x h
         · simp at h; subst h; exact perS_ok S
       · rw [← hg]
         exact hnx.symm
       · simp [F, hP, perT]
       · simp
         omega
    (try exact nope c22); all_goals have c22p := c22; try simp [F] at c22p
    all_goals
     replace F := aF c22 F; try replace F := aF c22p F
     have he : planR s = (q.l, q.s) := by rw [← hg]; exact persGo_stop (by have h := c22; simp at h; by_cases h0 : q.m = 0; exact .inl h0; exact .inr (h (by omega)))
     have hql : q.l.length ≤ 255 := by omega
     refine run_exit ?_; refine hK5 _ _ ?_; refine sq fun K13 hK13 => ?_; refine sr fun _ hJ15 => ?_; refine ca (c := hR q.l _ _ hql hx) (k := ?_); rintro _ _ ⟨rfl, rfl⟩; (repeat (first | simp [F] | simp (disch := omega) only [wC, if_pos, if_neg])); refine hJ15 _ _ ?_; refine cs (fun c37 => ?_) (fun c37 => ?_)
     · (try exact nope c37); all_goals have c37p := c37; try simp [F] at c37p
       all_goals
        replace F := aF c37 F; (try replace F := aF c37p F); refine rg' (h := fun J16 hJ16 => ?_); refine ca (c := fail_ok (ho2 _ _)) (k := ?_); rintro _ _ ⟨rfl, rfl⟩; (repeat (first | simp [F] | simp (disch := omega) only [wC, if_pos, if_neg])); refine hJ16 _ _ ?_; refine hK13 _ _ ?_; refine sq fun K17 hK17 => ?_; refine sr fun _ hJ19 => ?_; refine ca (c := bad_ok (ho2 _ _)) (k := ?_); rintro _ _ ⟨rfl, rfl⟩; (repeat (first | simp [F] | simp (disch := omega) only [wC, if_pos, if_neg])); refine hJ19 _ _ ?_; refine cs (fun c41 => ?_) (fun c41 => ?_)
        · (try exact nope c41); all_goals have c41p := c41; try simp [F] at c41p
          all_goals
           replace F := aF c41 F; (try replace F := aF c41p F); refine sr fun _ hJ21 => ?_; refine hJ21 _ _ ?_; refine run_ret ?_; (try simp only [Then, InBlock, NoGoto]); refine acell (h := ?_)
           obtain ⟨e1, e2⟩ := take_none he (.inl (by simpa using c37))
           rw [e1, e2]
           refine gcr (τ := { σ with objs := σ.objs.set id (rd none) }) (hA := ?_); exact WkL.agg (cut_nil rfl)
        (try exact nope c41); all_goals have c41p := c41; try simp [F] at c41p
        all_goals
         replace F := aF c41 F; (try replace F := aF c41p F); refine run_skip ?_; refine hK17 _ _ ?_; refine sr fun _ hJ23 => ?_; refine hJ23 _ _ ?_; refine run_ret ?_; (try simp only [Then, InBlock, NoGoto]); refine acell (h := ?_)
         obtain ⟨e1, e2⟩ := take_none he (.inl (by simpa using c37))
         rw [e1, e2]
         refine gcr (τ := { σ with objs := σ.objs.set id (rd none) }) (hA := ?_); exact WkL.agg (cut_nil rfl)
     (try exact nope c37); all_goals have c37p := c37; try simp [F] at c37p
     all_goals
      replace F := aF c37 F; (try replace F := aF c37p F); refine run_skip ?_; refine hK13 _ _ ?_; refine sq fun K24 hK24 => ?_; refine sr fun _ hJ26 => ?_; refine ca (c := bad_ok (ho2 _ _)) (k := ?_); rintro _ _ ⟨rfl, rfl⟩; (repeat (first | simp [F] | simp (disch := omega) only [wC, if_pos, if_neg])); refine hJ26 _ _ ?_; refine cs (fun c41 => ?_) (fun c41 => ?_)
      · (try exact nope c41); all_goals have c41p := c41; try simp [F] at c41p
        all_goals
         replace F := aF c41 F; (try replace F := aF c41p F); refine sr fun _ hJ28 => ?_; refine hJ28 _ _ ?_; refine run_ret ?_; (try simp only [Then, InBlock, NoGoto]); refine acell (h := ?_)
         obtain ⟨e1, e2⟩ := take_none he (.inr (by simpa using c41))
         rw [e1, e2]
         refine gcr (τ := { σ with objs := σ.objs.set id (rd none) }) (hA := ?_); exact WkL.agg (cut_nil rfl)
      (try exact nope c41); all_goals have c41p := c41; try simp [F] at c41p
      all_goals
       replace F := aF c41 F; (try replace F := aF c41p F); refine run_skip ?_; refine hK24 _ _ ?_; refine sr fun _ hJ30 => ?_; refine hJ30 _ _ ?_; refine run_ret ?_; (try simp only [Then, InBlock, NoGoto]); refine acell (h := ?_)
       obtain ⟨e1, e2⟩ := take_some he (by simpa using c37) (by intro e; rw [e] at c41; simp at c41)
       rw [e1, e2]
       refine gcr (τ := { σ with objs := σ.objs.set id (rd q.s) }) (hA := ?_); exact WkL.agg take_wk
   case cx9 =>
    intro K9 hK9
    refine rg' (h := fun J31 hJ31 => ?_); refine gs 18 (fun g3_2 => ?_) (fun g3_2 => ?_)
    · (try exact nope g3_2); all_goals have g3_2p := g3_2; try simp [F] at g3_2p
      all_goals
       replace F := aF g3_2 F; (try replace F := aF g3_2p F); refine go2 (k := ?_); refine ca (c := bad_ok (ho2 _ _)) (k := ?_); rintro _ _ ⟨rfl, rfl⟩; (repeat (first | simp [F] | simp (disch := omega) only [wC, if_pos, if_neg])); refine go2 (k := ?_); refine hJ31 _ _ ?_; refine hK9 (()) _ _ ⟨kp, ?_, lp⟩
       · have h := g3_2
         simp at h
         simp [F, h]
    (try exact nope g3_2); all_goals have g3_2p := g3_2; try simp [F] at g3_2p
    all_goals
     replace F := aF g3_2 F; (try replace F := aF g3_2p F); (iterate 3 refine no2 (k := ?_)); refine hJ31 _ _ ?_; refine hK9 (()) _ _ ⟨kp, ?_, lp⟩
     · have h := g3_2
       simp at h
       simp [F, h]

end Go.Proofs.Ytdbaddholggkbaa

/-
  What was laid of a plan reads back: the plain law.
-/
namespace Go.Proofs.Ytdbaddholggkbaa
set_option linter.unnecessarySimpa false
set_option maxRecDepth 100000
set_option linter.unusedSimpArgs false
open Go Go.Vm
set_option linter.unusedVariables false

def encPer (x : Per) : List UInt8 := nBytes 8 x.l ++ encL x.c
def encPers (l : List Per) : List UInt8 := l.flatMap encPer
def encPl (p : Pln) : List UInt8 := p.k :: (nBytes 8 p.s ++ (nBytes 8 p.e ++ (encL p.tot ++ (UInt8.ofNat p.ps.length :: encPers p.ps))))
theorem encPers_snoc (l : List Per) (x : Per) : encPers (l ++ [x]) = encPers l ++ encPer x := by simp [encPers]
theorem encL_len {l : List Coin} (h : l.length ≤ 8) : (encL l).length ≤ 273 := by
  have := encCs_len l
  simp only [encL, List.length_cons]; omega
theorem encPers_len : ∀ l : List Per, (∀ x ∈ l, x.c.length ≤ 8) → (encPers l).length ≤ 281 * l.length
  | [], _ => by simp [encPers]
  | x :: l, h => by
    have h1 := encPers_len l (fun y hy => h y (by simp [hy]))
    have h2 := encL_len (h x (by simp))
    have e : encPers (x :: l) = encPer x ++ encPers l := rfl
    rw [e]
    simp only [encPer, List.length_append, nBytes_len, List.length_cons]
    omega

end Go.Proofs.Ytdbaddholggkbaa

/-
  A plan is laid..
-/
namespace Go.Proofs.Ytdbaddholggkbaa
set_option linter.unnecessarySimpa false
set_option maxRecDepth 100000
open Go Go.Vm
set_option linter.unusedSimpArgs false
set_option linter.unusedVariables false
attribute [local simp] evalL wantedA isCall opA evalA evalAll evalsA evalOpt ofValue ofCell plain binA_eql_pn binA_neq_pn binA_gtr binA_lss binA_geq binA_leq binA_add binA_sub binA_eql binA_neq binA_orI binA_andI binA_shl binA_shr binA_mul binA_quo binA_rem binA_agg_eql binA_agg_neq convA_int unA_not fieldAddrA loadA partA pickA_true pickA_false pickA_bb lenA builtinA storeA splice AV.cells AV.isCell sliceA boundA intA callOf indexAddrA newObjA buildA fillA zeroA ofCells buildSliceA indexA fieldA numA_len4 numA_take4 numA_drop4 set_appN get_appN take_appN List.getElem?_cons_zero List.getElem?_cons_succ makeA zeros64

def WQ (id : Nat) (σ : St) (k : Nat) (l A : List UInt8) : AV → St → Prop := fun av σ' => av = .ptr id 0 ∧ ∃ k' tk', Wr σ.toks k l tk' k' A ∧ σ' = { σ with objs := σ.objs.set id [wrA k' A], toks := tk' }
theorem wbyteA {σ : St} {id k : Nat} {l A : List UInt8} {b : UInt8} (hA : A = l ++ [b]) (h : σ.objs[id]? = some [wrA k l]) (ht : Tk σ.toks k l) (hl : l.length ≤ 300000) :
    CallsA Try.prog 88 [.ptr id 0, .v (.int .u8 b.toNat)] σ (WQ id σ k l A) := by
  subst hA; exact wbyte_ok h ht (by omega)
theorem wlongA {σ : St} {id k n : Nat} {l A : List UInt8} (hA : A = l ++ nBytes 8 n) (h : σ.objs[id]? = some [wrA k l]) (ht : Tk σ.toks k l) (hn : n < 2 ^ 64) (hl : l.length ≤ 300000) :
    CallsA Try.prog 39 [.ptr id 0, .v (.int .u64 n)] σ (WQ id σ k l A) := by
  subst hA; exact wlong_ok h ht hn (by omega)
theorem wcoinsA {σ : St} {id k : Nat} {l A : List UInt8} {L : List Coin} {tL : Tail} (hA : A = l ++ encL L) (h : σ.objs[id]? = some [wrA k l]) (ht : Tk σ.toks k l) (hL : L.length ≤ 255) (hl : l.length ≤ 300000) :
    CallsA Try.prog 89 [.ptr id 0, .sl 5 (coinsC L) L.length tL] σ (WQ id σ k l A) := by
  subst hA; exact wcoins_ok h ht hL (by omega)

structure LSt where
  i : Nat
  k : Nat
  tk : List Nat

set_option maxHeartbeats 1600000 in
attribute [local simp] undefA List.getElem?_cons_zero List.getElem?_cons_succ plnC perC persC_noObj noObj_wrA noObj_wrA' in
theorem play_ok {σ : St} {id k : Nat} {l A : List UInt8} {p : Pln} (hA : A = l ++ encPl p) (h : σ.objs[id]? = some [wrA k l]) (ht : Tk σ.toks k l) (hl : l.length ≤ 100000)
    (p1 : p.s < 2 ^ 64) (p2 : p.e < 2 ^ 64) (p3 : p.tot.length ≤ 8) (p4 : p.ps.length ≤ 255) (p5 : ∀ x ∈ p.ps, x.l < 2 ^ 64 ∧ x.c.length ≤ 8) :
    CallsA Try.prog 40 [.ptr id 0, .agg (plnC p)] σ (fun av σ' => av = .tup [] ∧ ∃ k' tk', Wr σ.toks k l tk' k' A ∧ σ' = { σ with objs := σ.objs.set id [wrA k' A], toks := tk' }) := by
  have hlt := lt_of_get h
  refine callsA_mono (callsA_gcOI (A := .tup []) (Pi := fun i : Nat × List Nat => Wr σ.toks k l i.2 i.1 A) (τ := fun i => { σ with objs := σ.objs.set id [wrA i.1 A], toks := i.2 }) ?_ (by simp [AV.gcO, gcOL]) (fun _ => by simp) (fun _ => rfl) (fun _ => kp_set (kp_refl _) (noObj_wrA _ _ _)) (fun _ => kpr_refl _)) (fun av σ' ⟨h1, i, h2, h3⟩ => ⟨h1, i.1, i.2, h2, h3⟩)
  have hs := set_self_of h
  obtain ⟨pk, ps, pe, pt, pp⟩ := p
  simp only at p1 p2 p3 p4 p5
  obtain ⟨c, hc⟩ : ∃ c, c = UInt8.ofNat pp.length := ⟨_, rfl⟩
  have hcn : c.toNat = pp.length := by rw [hc]; exact toNat_ofNat (by omega)
  have hw : IntKind.u8.wrap (pp.length : Int) = (c.toNat : Int) := by rw [wrap_u8, hcn, Nat.mod_eq_of_lt (by omega)]
  obtain ⟨A1, hA1⟩ : ∃ A1, A1 = l ++ [pk] := ⟨_, rfl⟩
  obtain ⟨A2, hA2⟩ : ∃ A2, A2 = A1 ++ nBytes 8 ps := ⟨_, rfl⟩
  obtain ⟨A3, hA3⟩ : ∃ A3, A3 = A2 ++ nBytes 8 pe := ⟨_, rfl⟩
  obtain ⟨A4, hA4⟩ : ∃ A4, A4 = A3 ++ encL pt := ⟨_, rfl⟩
  obtain ⟨A5, hA5⟩ : ∃ A5, A5 = A4 ++ [c] := ⟨_, rfl⟩
  have n1 : A1.length = l.length + 1 := by rw [hA1]; simp
  have n2 : A2.length = l.length + 9 := by rw [hA2, List.length_append, nBytes_len, n1]
  have n3 : A3.length = l.length + 17 := by rw [hA3, List.length_append, nBytes_len, n2]
  have n4 : A4.length ≤ l.length + 290 := by have := encL_len p3; rw [hA4, List.length_append, n3]; omega
  have n5 : A5.length ≤ l.length + 291 := by rw [hA5, List.length_append]; simp; omega
  obtain ⟨Bf, hBf⟩ : ∃ Bf : Nat → List UInt8, Bf = fun i => A5 ++ encPers (pp.take i) := ⟨_, rfl⟩
  have hB0 : A5 = Bf 0 := by rw [hBf]; simp [encPers]
  have hBl : ∀ i, i ≤ pp.length → (Bf i).length ≤ 200000 := fun i hi => by
    have := encPers_len (pp.take i) (fun x hx => (p5 x (List.mem_of_mem_take hx)).2)
    have e : (pp.take i).length = i := by simp; omega
    rw [hBf]; simp only [List.length_append]; rw [e] at this; omega
  have hBs : ∀ i (hi : i < pp.length), Bf (i + 1) = Bf i ++ nBytes 8 pp[i].l ++ encL pp[i].c := fun i hi => by
    rw [hBf]; simp only; rw [← List.take_append_getElem hi, encPers_snoc]; simp [encPer]
  have hBA : Bf pp.length = A := by
    rw [hA, hBf]; simp only; rw [List.take_length, hA5, hA4, hA3, hA2, hA1, hc]; simp [encPl]
  clear hBf hA
  have ho1 : ∀ r, (σ.objs ++ r)[id]? = some [wrA k l] := fun r => by rw [List.getElem?_append_left hlt]; exact h
  have ho2 : ∀ x r, (σ.objs.set id x ++ r)[id]? = some x := fun x r => by rw [List.getElem?_append_left (by simpa using hlt)]; exact hs x
  have ho3 : ∀ x r, (σ.objs ++ r).set id x = σ.objs.set id x ++ r := fun x r => List.set_append_left _ _ hlt
  have ho4 : ∀ x y r, (σ.objs.set id y ++ r).set id x = σ.objs.set id x ++ r := fun x y r => by rw [List.set_append_left _ _ (by simpa using hlt), List.set_set]
  have hlt1 : id < σ.objs.length + 1 := by omega
  have htk : ∀ (x a b : List AV), List.take (σ.objs.length + 1) (σ.objs.set id x ++ [a, b]) = σ.objs.set id x ++ [a] := fun x a b => by
    have := List.take_length_add_append (l₁ := σ.objs.set id x) (l₂ := [a, b]) 1
    rw [List.length_set] at this
    exact this
  have F := And.intro hw (And.intro ho1 (And.intro ho2 (And.intro ho3 (And.intro ho4 (And.intro hlt (And.intro hlt1 (And.intro htk (True.intro))))))))
  refine callsA_body Try.func40 rfl rfl rfl ?_; refine sr fun _ hJ2 => ?_; refine hJ2 _ _ ?_; refine sq fun K3 hK3 => ?_
  refine run_draw (by kernel_rfl) fun J4 hJ4 => ?_
  refine rp2 0 (k := ?_); refine rp2 1 (k := ?_); refine rp2 2 (k := ?_); refine rp2 4 (k := ?_); refine rp2 5 (k := ?_); refine rp2 7 (k := ?_); refine rp2 8 (k := ?_); refine rp2 10 (k := ?_); refine rp2 11 (k := ?_); refine rp2 13 (k := ?_); refine rp2 14 (k := ?_); refine rp2 15 (k := ?_); refine rp2 16 (k := ?_)
  refine dc 3 rfl (c := wbyteA hA1 (ho1 _) ht (by omega)) (k := ?_)
  rintro _ _ ⟨rfl, k1, tk1, hw1, rfl⟩
  refine ⟨by first | exact fun _ _ h => h | (refine later_list [16, 15, 14, 13, 11, 10, 8, 7, 5, 4, 1] (by kernel_rfl) (List.forall_mem_cons.2 ⟨fun _ => fact2 rfl rfl ?_, List.forall_mem_cons.2 ⟨fun _ => fact2 rfl rfl ?_, List.forall_mem_cons.2 ⟨fun _ => fact2 rfl rfl ?_, List.forall_mem_cons.2 ⟨fun _ => fact2 rfl rfl ?_, List.forall_mem_cons.2 ⟨fun _ => fact2 rfl rfl ?_, List.forall_mem_cons.2 ⟨fun _ => fact2 rfl rfl ?_, List.forall_mem_cons.2 ⟨fun _ => fact2 rfl rfl ?_, List.forall_mem_cons.2 ⟨fun _ => fact2 rfl rfl ?_, List.forall_mem_cons.2 ⟨fun _ => fact2 rfl rfl ?_, List.forall_mem_cons.2 ⟨fun _ => fact2 rfl rfl ?_, List.forall_mem_cons.2 ⟨fun _ => fact2 rfl rfl ?_, fun _ h => absurd h List.not_mem_nil⟩⟩⟩⟩⟩⟩⟩⟩⟩⟩⟩) <;> constructor <;> first | rfl | (simp [F]; done)), ?_⟩
  repeat (first | simp [F] | simp (disch := omega) only [wC, if_pos, if_neg])
  refine dc 6 rfl (c := wlongA hA2 (ho2 _ _) hw1.tok p1 (by omega)) (k := ?_)
  rintro _ _ ⟨rfl, k2, tk2, hw2, rfl⟩
  refine ⟨by first | exact fun _ _ h => h | (refine later_list [16, 15, 14, 13, 11, 10, 8, 7, 4, 1] (by kernel_rfl) (List.forall_mem_cons.2 ⟨fun _ => fact2 rfl rfl ?_, List.forall_mem_cons.2 ⟨fun _ => fact2 rfl rfl ?_, List.forall_mem_cons.2 ⟨fun _ => fact2 rfl rfl ?_, List.forall_mem_cons.2 ⟨fun _ => fact2 rfl rfl ?_, List.forall_mem_cons.2 ⟨fun _ => fact2 rfl rfl ?_, List.forall_mem_cons.2 ⟨fun _ => fact2 rfl rfl ?_, List.forall_mem_cons.2 ⟨fun _ => fact2 rfl rfl ?_, List.forall_mem_cons.2 ⟨fun _ => fact2 rfl rfl ?_, List.forall_mem_cons.2 ⟨fun _ => fact2 rfl rfl ?_, List.forall_mem_cons.2 ⟨fun _ => fact2 rfl rfl ?_, fun _ h => absurd h List.not_mem_nil⟩⟩⟩⟩⟩⟩⟩⟩⟩⟩) <;> constructor <;> first | rfl | (simp [F]; done)), ?_⟩
  repeat (first | simp [F] | simp (disch := omega) only [wC, if_pos, if_neg])
  refine dc 9 rfl (c := wlongA hA3 (ho2 _ _) hw2.tok p2 (by omega)) (k := ?_)
  rintro _ _ ⟨rfl, k3, tk3, hw3, rfl⟩
  refine ⟨by first | exact fun _ _ h => h | (refine later_list [16, 15, 14, 13, 11, 10, 7, 4, 1] (by kernel_rfl) (List.forall_mem_cons.2 ⟨fun _ => fact2 rfl rfl ?_, List.forall_mem_cons.2 ⟨fun _ => fact2 rfl rfl ?_, List.forall_mem_cons.2 ⟨fun _ => fact2 rfl rfl ?_, List.forall_mem_cons.2 ⟨fun _ => fact2 rfl rfl ?_, List.forall_mem_cons.2 ⟨fun _ => fact2 rfl rfl ?_, List.forall_mem_cons.2 ⟨fun _ => fact2 rfl rfl ?_, List.forall_mem_cons.2 ⟨fun _ => fact2 rfl rfl ?_, List.forall_mem_cons.2 ⟨fun _ => fact2 rfl rfl ?_, List.forall_mem_cons.2 ⟨fun _ => fact2 rfl rfl ?_, fun _ h => absurd h List.not_mem_nil⟩⟩⟩⟩⟩⟩⟩⟩⟩) <;> constructor <;> first | rfl | (simp [F]; done)), ?_⟩
  repeat (first | simp [F] | simp (disch := omega) only [wC, if_pos, if_neg])
  refine dc 12 rfl (c := wcoinsA hA4 (ho2 _ _) hw3.tok (by omega) (by omega)) (k := ?_)
  rintro _ _ ⟨rfl, k4, tk4, hw4, rfl⟩
  refine ⟨by first | exact fun _ _ h => h | (refine later_list [16, 15, 14, 13, 10, 7, 4, 1] (by kernel_rfl) (List.forall_mem_cons.2 ⟨fun _ => fact2 rfl rfl ?_, List.forall_mem_cons.2 ⟨fun _ => fact2 rfl rfl ?_, List.forall_mem_cons.2 ⟨fun _ => fact2 rfl rfl ?_, List.forall_mem_cons.2 ⟨fun _ => fact2 rfl rfl ?_, List.forall_mem_cons.2 ⟨fun _ => fact2 rfl rfl ?_, List.forall_mem_cons.2 ⟨fun _ => fact2 rfl rfl ?_, List.forall_mem_cons.2 ⟨fun _ => fact2 rfl rfl ?_, List.forall_mem_cons.2 ⟨fun _ => fact2 rfl rfl ?_, fun _ h => absurd h List.not_mem_nil⟩⟩⟩⟩⟩⟩⟩⟩) <;> constructor <;> first | rfl | (simp [F]; done)), ?_⟩
  repeat (first | simp [F] | simp (disch := omega) only [wC, if_pos, if_neg])
  refine dc 17 rfl (c := wbyteA hA5 (ho2 _ _) hw4.tok (by omega)) (k := ?_)
  rintro _ _ ⟨rfl, k5, tk5, hw5, rfl⟩
  refine ⟨by first | exact fun _ _ h => h | (refine later_list [15, 14, 13, 10, 7, 4, 1] (by kernel_rfl) (List.forall_mem_cons.2 ⟨fun _ => fact2 rfl rfl ?_, List.forall_mem_cons.2 ⟨fun _ => fact2 rfl rfl ?_, List.forall_mem_cons.2 ⟨fun _ => fact2 rfl rfl ?_, List.forall_mem_cons.2 ⟨fun _ => fact2 rfl rfl ?_, List.forall_mem_cons.2 ⟨fun _ => fact2 rfl rfl ?_, List.forall_mem_cons.2 ⟨fun _ => fact2 rfl rfl ?_, List.forall_mem_cons.2 ⟨fun _ => fact2 rfl rfl ?_, fun _ h => absurd h List.not_mem_nil⟩⟩⟩⟩⟩⟩⟩) <;> constructor <;> first | rfl | (simp [F]; done)), ?_⟩
  (repeat (first | simp [F] | simp (disch := omega) only [wC, if_pos, if_neg])); refine dd ?_; refine hJ4 _ _ ?_; refine hK3 _ _ ?_; refine sr fun _ hJ6 => ?_; refine hJ6 _ _ ?_; refine run_block_k ?_; refine run_loopG (X := LSt) [0, 25, 26] (fun q ρ σ1 => (q.i ≤ pp.length) ∧ (Wr σ.toks k l q.tk q.k (Bf q.i)) ∧ (ρ 27 = .v (.int .i64 q.i)) ∧ (σ1 = { σ with objs := σ.objs.set id [wrA q.k (Bf q.i)] ++ [[.v (.int .u8 pk.toNat), .v (.int .u64 ps), .v (.int .u64 pe), .sl 5 (coinsC pt) pt.length .shut, .sl 2 (persC pp) pp.length .shut]], toks := q.tk })) (fun q => pp.length - q.i) (⟨0, k5, tk5⟩) ?st1 ?rd1
  case st1 =>
   refine ⟨lp, ?_, lp, ?_⟩
   · rw [← hB0]
     exact (((hw1.trans hw2).trans hw3).trans hw4).trans hw5
   · simp only [← hB0]
  case rd1 =>
   rintro q ρ1 σ1 hF1 ⟨hj, hq, h27, hσ⟩; obtain rfl := hσ.symm
   have f1 := keepL hF1
   (try simp [KeepL, F] at f1); replace F := aF h27 F; (try replace F := aF f1 F); refine sr fun _ hJ8 => ?_; refine hJ8 _ _ ?_; refine sq fun K9 hK9 => ?_; refine cs (fun c28 => ?_) (fun c28 => ?_)
   · (try exact nope c28); all_goals have c28p := c28; try simp [F] at c28p
     all_goals
      replace F := aF c28 F; (try replace F := aF c28p F); refine run_skip ?_; refine hK9 _ _ ?_; refine sq fun K10 hK10 => ?_; refine run_block_k ?_; refine sq fun K11 hK11 => ?_
      have hlt2 : q.i < pp.length := by have h := c28; simp at h; omega
      have hat := persC_at hlt2
      have hb1 : q.i * 2 + 2 ≤ pp.length * 2 := by omega
      have hx5 := p5 _ (List.getElem_mem hlt2)
      have hBs1 := hBs _ hlt2
      have hBl1 := hBl q.i hj
      obtain ⟨x, hx⟩ : ∃ x, x = pp[q.i] := ⟨_, rfl⟩
      rw [← hx] at hat hx5 hBs1
      obtain ⟨xl, xc⟩ := x
      simp only at hx5 hBs1
      obtain ⟨C1, hC1⟩ : ∃ C1, C1 = Bf q.i ++ nBytes 8 xl := ⟨_, rfl⟩
      rw [← hC1] at hBs1
      have nC : C1.length = (Bf q.i).length + 8 := by rw [hC1, List.length_append, nBytes_len]
      replace F := aF hlt2 F; replace F := aF hat F; replace F := aF hb1 F; refine rg' (h := fun J12 hJ12 => ?_); refine hJ12 _ _ ?_; refine hK11 _ _ ?_
      refine run_draw (by kernel_rfl) fun J13 hJ13 => ?_
      refine rp2 0 (k := ?_); refine rp2 1 (k := ?_); refine rp2 2 (k := ?_); refine rp2 4 (k := ?_); refine rp2 5 (k := ?_)
      refine dc 3 rfl (c := wlongA hC1 (ho2 _ _) hq.tok hx5.1 (by omega)) (k := ?_)
      rintro _ _ ⟨rfl, k6, tk6, hw6, rfl⟩
      refine ⟨by first | exact fun _ _ h => h | (refine later_list [5, 4, 1] (by kernel_rfl) (List.forall_mem_cons.2 ⟨fun _ => fact2 rfl rfl ?_, List.forall_mem_cons.2 ⟨fun _ => fact2 rfl rfl ?_, List.forall_mem_cons.2 ⟨fun _ => fact2 rfl rfl ?_, fun _ h => absurd h List.not_mem_nil⟩⟩⟩) <;> constructor <;> first | rfl | (simp [F]; done)), ?_⟩
      repeat (first | simp [F] | simp (disch := omega) only [wC, if_pos, if_neg])
      refine dc 6 rfl (c := wcoinsA hBs1 (ho2 _ _) hw6.tok (by omega) (by omega)) (k := ?_)
      rintro _ _ ⟨rfl, k7, tk7, hw7, rfl⟩
      refine ⟨by first | exact fun _ _ h => h | (refine later_list [4, 1] (by kernel_rfl) (List.forall_mem_cons.2 ⟨fun _ => fact2 rfl rfl ?_, List.forall_mem_cons.2 ⟨fun _ => fact2 rfl rfl ?_, fun _ h => absurd h List.not_mem_nil⟩⟩) <;> constructor <;> first | rfl | (simp [F]; done)), ?_⟩
      (repeat (first | simp [F] | simp (disch := omega) only [wC, if_pos, if_neg])); refine dd ?_; refine hJ13 _ _ ?_; refine hK10 _ _ ?_; refine rg' (h := fun J14 hJ14 => ?_); refine hJ14 _ _ ?_; refine ⟨gk, (⟨q.i + 1, k7, tk7⟩), ⟨kpG, lpG, ?_, lpG, ?_⟩, lpG⟩
      · exact (hq.trans hw6).trans hw7
      · simp [St.trimO, F]
   (try exact nope c28); all_goals have c28p := c28; try simp [F] at c28p
   all_goals
    replace F := aF c28 F; (try replace F := aF c28p F); refine run_exit ?_; (try simp only [Then, InBlock, NoGoto, if_true]); refine answer_none rfl (.inl rfl) ?_
    have hii : q.i = pp.length := by have h := c28; simp at h; omega
    rw [hii, hBA] at hq
    rw [hii, hBA]
    exact ⟨(q.k, q.tk), hq, rfl, _, rfl⟩

end Go.Proofs.Ytdbaddholggkbaa

/-
  The document's writer: numbers and lists of coins.
-/
namespace Go.Proofs.Ytdbaddholggkbaa
set_option linter.unnecessarySimpa false
open Go Go.Vm
set_option linter.unusedSimpArgs false
set_option linter.unusedVariables false
set_option maxRecDepth 100000
attribute [local simp] evalL wantedA isCall opA evalA evalAll evalsA evalOpt ofValue ofCell plain binA_eql_pn binA_neq_pn binA_gtr binA_lss binA_geq binA_leq binA_add binA_sub binA_eql binA_neq binA_or binA_shl binA_shr binA_mul binA_quo binA_rem binA_agg_eql binA_agg_neq convA_int unA_not fieldAddrA loadA partA pickA_true pickA_false pickA_bb lenA builtinA storeA splice AV.cells AV.isCell sliceA boundA intA callOf indexAddrA newObjA buildA fillA zeroA ofCells buildSliceA indexA fieldA coinsC_at
/-! ### Lists of bytes that are being made -/

def tkB (l : List UInt8) : List Nat := if l = [] then [] else [l.length]
@[simp] theorem tkB_nil : tkB [] = [] := rfl
theorem wrA_nil (k : Nat) : wrA k [] = .sl 0 [] 0 .full := rfl
class SmallB (l : List UInt8) : Prop where
  h : l.length ≤ 500000

/-! ### The sixteen digits of a number -/
def dgA (l : List Nat) : List AV := l.map fun d => .v (.int .u64 (d : Nat))
def tkD (l : List Nat) : List Nat := if l = [] then [] else [l.length]
@[simp] theorem tkD_nil : tkD [] = [] := rfl
@[simp] theorem dgA_len (l : List Nat) : (dgA l).length = l.length := by simp [dgA]
theorem under_dgA (B : Bd) : ∀ l : List Nat, underL B (dgA l) = true
  | [] => rfl
  | d :: l => under_dgA B l
class SmallN (l : List Nat) : Prop where
  h : l.length ≤ 1000
end Go.Proofs.Ytdbaddholggkbaa
