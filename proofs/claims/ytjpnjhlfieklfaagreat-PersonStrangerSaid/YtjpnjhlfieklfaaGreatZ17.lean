import Derived.Test.YtjpnjhlfieklfaaGreatZ7
import Derived.Test.YtjpnjhlfieklfaaGreatZ16
/-
  Are two plans alike, by the document..
-/
namespace Go.Proofs.YtjpnjhlfieklfaaGreat
set_option linter.unnecessarySimpa false
set_option maxRecDepth 100000
set_option linter.unusedSimpArgs false
set_option linter.unusedVariables false
open Go Go.Vm
attribute [local simp] dK aJ dJ opA bD bH cJ bP ofValue dC plain aR aS bY b6 cA cC b7 cE b8 b9 cX iC cB cH cG cD bU aV aU bL cS aW dN dP bI bC cN gI bR dD bW AV.cells AV.bA dE cI e6 bF aY cQ dI dS dY cL aO dR dQ gM fU fR cW cU cM List.getElem?_cons_zero List.getElem?_cons_succ o7 lZ

set_option maxHeartbeats 1600000 in
attribute [local simp] cV List.getElem?_cons_zero List.getElem?_cons_succ iR oA eY in
theorem yO {σ : St} {a b : Pln} (ha : a.Ok) (hb : b.Ok) :
  aB Tryz.prog 26 [.agg (iR a), .agg (iR b)] σ (fun av σ' => av = .v (.bool (decide (a = b))) ∧ σ = σ') := by
 refine aM ?_ rfl
 obtain ⟨D, hD⟩ : ∃ D, D = decide (a = b) := ⟨_, rfl⟩
 rw [← hD]
 obtain ⟨ak, a1, a2, a3, a4⟩ := a
 obtain ⟨bk, b1, b2, b3, b4⟩ := b
 obtain ⟨ha1, ha2, ha3, ha4, ha5⟩ := ha
 obtain ⟨hb1, hb2, hb3, hb4, hb5⟩ := hb
 simp only [Pln.mk.injEq] at *
 have hno : ¬ (ak = bk ∧ a1 = b1 ∧ a2 = b2 ∧ a3 = b3 ∧ a4 = b4) → D = false := fun h => by rw [hD]; exact decide_eq_false h
 have hyes : ak = bk → a1 = b1 → a2 = b2 → a3 = b3 → a4 = b4 → D = true := fun h1 h2 h3 h4 h5 => by rw [hD]; exact decide_eq_true ⟨h1, h2, h3, h4, h5⟩
 clear hD
 obtain ⟨B, hB⟩ : ∃ B, B = !(decide (ak = bk) && decide (a1 = b1) && decide (a2 = b2) && decide (a3 = b3) && decide (a4.length = b4.length)) := ⟨_, rfl⟩
 have F := True.intro
 refine aA Tryz.func26 rfl rfl rfl ?_; refine sr fun _ hJ2 => ?_; apply hJ2; refine sq fun K3 hK3 => ?_; refine sqc (X := Unit) [2, 3, 4] (fun k ρ σ1 => (ρ 41 = .v (.bool B)) ∧ (σ1 = { σ with objs := σ.objs ++ [[.v (.int .u8 ak.toNat), .v (.int .u64 a1), .v (.int .u64 a2), .sl 5 (aL a3) a3.length .shut, .sl 2 (eN a4) a4.length .shut], [.v (.int .u8 bk.toNat), .v (.int .u64 b1), .v (.int .u64 b2), .sl 5 (aL b3) b3.length .shut, .sl 2 (eN b4) b4.length .shut]] })) ?cy4 ?cx4
 case cy4 =>
  rintro k ρCr1 σ1 hFCr1 ⟨h41, hσ⟩; obtain rfl := hσ.symm
  have fCr1 := dX hFCr1
  (try simp [dW, F] at fCr1); replace F := aF h41 F; (try replace F := aF fCr1 F); refine cs (t := B) (fun c41 => ?_) (fun c41 => ?_)
  · (try exact aG c41); all_goals have c41p := c41; try simp [F] at c41p
    all_goals
     replace F := aF c41 F; try replace F := aF c41p F
     have h0 : D = false := hno (fun ⟨e1, e2, e3, e4, e5⟩ => by rw [hB, e1, e2, e3, e4, e5] at c41; simp at c41)
     replace F := aF h0 F; refine sr fun _ hJ6 => ?_; apply hJ6; refine ra ?_; exact gcr
  (try exact aG c41); all_goals have c41p := c41; try simp [F] at c41p
  all_goals
   replace F := aF c41 F; try replace F := aF c41p F
   obtain ⟨e1, e2, e3, e4, e5⟩ : ak = bk ∧ a1 = b1 ∧ a2 = b2 ∧ a3 = b3 ∧ a4.length = b4.length := by rw [hB] at c41; simp at c41; obtain ⟨⟨⟨⟨h1, h2⟩, h3⟩, h4⟩, h5⟩ := c41; exact ⟨h1, h2, h3, h4, h5⟩
   refine aD ?_; apply hK3; refine sq fun K7 hK7 => ?_; refine sr fun _ hJ9 => ?_; apply hJ9; refine aH ?_; refine cZ (X := Nat) [2, 3] (fun i ρ σ1 => (i ≤ a4.length) ∧ (a4.take i = b4.take i) ∧ (ρ 5 = .v (.int .i64 i)) ∧ (σ1 = { σ with objs := σ.objs ++ [[.v (.int .u8 ak.toNat), .v (.int .u64 a1), .v (.int .u64 a2), .sl 5 (aL a3) a3.length .shut, .sl 2 (eN a4) a4.length .shut], [.v (.int .u8 bk.toNat), .v (.int .u64 b1), .v (.int .u64 b2), .sl 5 (aL b3) b3.length .shut, .sl 2 (eN b4) b4.length .shut]] })) (fun i => a4.length - i) (0) ?st1 ?rd1
   case st1 =>
    refine ⟨lp, ?_, lp, ?_⟩
    · rfl
    · rfl
   case rd1 =>
    rintro i ρ1 σ1 hF1 ⟨hi, hE, h5, hσ⟩; obtain rfl := hσ.symm
    have f1 := dX hF1
    (try simp [dW, F] at f1); replace F := aF h5 F; (try replace F := aF f1 F); refine sq fun K10 hK10 => ?_; refine sr fun _ hJ12 => ?_; apply hJ12; refine cs (fun c46 => ?_) (fun c46 => ?_)
    · (try exact aG c46); all_goals have c46p := c46; try simp [F] at c46p
      all_goals
       replace F := aF c46 F; (try replace F := aF c46p F); refine aD ?_; apply hK10; refine sq fun K13 hK13 => ?_; refine aH ?_; refine sq fun K14 hK14 => ?_
       have hlt : i < a4.length := by have h := c46; simp at h; omega
       have hlt2 : i < b4.length := by omega
       have hat := jN hlt
       have hat2 := jN hlt2
       have hb1 : i * 2 + 2 ≤ a4.length * 2 := by omega
       have hb2 : i * 2 + 2 ≤ b4.length * 2 := by omega
       have hx5 := ha5 _ (List.getElem_mem hlt)
       have hy5 := hb5 _ (List.getElem_mem hlt2)
       have htx : a4.take (i + 1) = a4.take i ++ [a4[i]] := (List.take_append_getElem hlt).symm
       have hty : b4.take (i + 1) = b4.take i ++ [b4[i]] := (List.take_append_getElem hlt2).symm
       have hxy : a4 = b4 → a4[i] = b4[i] := fun e => by subst e; rfl
       obtain ⟨x, hx⟩ : ∃ x, x = a4[i] := ⟨_, rfl⟩
       obtain ⟨y, hy⟩ : ∃ y, y = b4[i] := ⟨_, rfl⟩
       rw [← hx] at hat hx5 htx hxy
       rw [← hy] at hat2 hy5 hty hxy
       obtain ⟨xl, xc⟩ := x
       obtain ⟨yl, yc⟩ := y
       simp only [Per.mk.injEq] at hx5 hy5 hxy
       replace F := aF hlt F; replace F := aF hlt2 F; replace F := aF hat F; replace F := aF hat2 F; replace F := aF hb1 F; replace F := aF hb2 F
       refine bQ (by kernel_rfl) fun J15 hJ15 => ?_
       refine q2 0 ?_; refine q2 1 ?_; refine q2 2 ?_; refine q2 3 ?_; refine q2 4 ?_; refine q2 5 ?_; refine q2 6 ?_; refine q2 7 ?_; refine q2 8 ?_; refine q2 9 ?_; refine q2 10 ?_; refine q2 11 ?_; refine q2 12 ?_; refine q2 13 ?_; refine gd 62 (fun g6_13 => ?_) (fun g6_13 => ?_)
       · (try exact aG g6_13); all_goals have g6_13p := g6_13; try simp [F] at g6_13p
         all_goals
          replace F := aF g6_13 F; try replace F := aF g6_13p F
          have hm : ¬ xl = yl := by have h := g6_13; simp at h; omega
          have h0 : D = false := hno (fun e => hm (hxy e.2.2.2.2).1)
          replace F := aF h0 F; refine q2 14 ?_; refine q2 15 ?_; refine q2 16 ?_; refine q2 17 ?_; refine q2 18 ?_; refine q2 19 ?_; refine q2 20 ?_; refine q2 21 ?_; refine q2 22 ?_; refine q2 23 ?_; refine q2 24 ?_; refine q2 25 ?_; refine dop 26 rfl ?_; (repeat first | simp [F] | simp (disch := omega) only [wC, if_pos, if_neg]); refine q2 27 ?_; refine q2 28 ?_; refine dd ?_; apply hJ15; apply hK14; refine ct ?_; refine sr fun _ hJ17 => ?_; apply hJ17; refine ra ?_; exact gcr
       (try exact aG g6_13); all_goals have g6_13p := g6_13; try simp [F] at g6_13p
       all_goals
        replace F := aF g6_13 F; try replace F := aF g6_13p F
        have hm : xl = yl := by have h := g6_13; simp at h; omega
        refine q2 14 ?_; refine q2 15 ?_; refine q2 16 ?_; refine q2 17 ?_; refine q2 18 ?_; refine q2 19 ?_; refine q2 20 ?_; refine q2 21 ?_; refine q2 22 ?_; refine q2 23 ?_; refine q2 24 ?_; refine q2 25 ?_; refine dc 26 rfl (c := pZ hx5.2 hy5.2) (k := ?_); rintro _ _ ⟨rfl, rfl⟩
        refine ⟨by first | exact fun _ _ h => h | (refine aI [24, 23, 22, 21, 20, 18, 17, 16, 15, 14, 12, 11, 10, 9, 8, 7, 6, 5, 4, 3, 2, 1, 0] (by kernel_rfl) ?_; (repeat' first | exact ln2 | refine lc ?_ ?_) <;> constructor <;> first | rfl | (simp [F]; done)), ?_⟩
        (repeat first | simp [F] | simp (disch := omega) only [wC, if_pos, if_neg]); refine q2 27 ?_; refine q2 28 ?_; refine dd ?_; apply hJ15; apply hK14; refine cs (fun c77 => ?_) (fun c77 => ?_)
        · (try exact aG c77); all_goals have c77p := c77; try simp [F] at c77p
          all_goals
           replace F := aF c77 F; try replace F := aF c77p F
           have h0 : D = false := hno (fun e => by have h := c77; simp at h; exact h (hxy e.2.2.2.2).2)
           replace F := aF h0 F; refine sr fun _ hJ19 => ?_; apply hJ19; refine ra ?_; exact gcr
        (try exact aG c77); all_goals have c77p := c77; try simp [F] at c77p
        all_goals
         replace F := aF c77 F; try replace F := aF c77p F
         have hc : xc = yc := by have h := c77; simp at h; exact h
         refine aD ?_; apply hK13; refine rg' (h := fun J20 hJ20 => ?_); apply hJ20; refine ⟨(i + 1), ⟨kp, lp, ?_, lp, lp⟩, lp⟩
         · rw [htx, hty, hE, hm, hc]
    (try exact aG c46); all_goals have c46p := c46; try simp [F] at c46p
    all_goals
     replace F := aF c46 F; try replace F := aF c46p F
     have h0 : D = true := hyes e1 e2 e3 e4 (by rw [List.take_of_length_le (by have h := c46; simp at h; omega), List.take_of_length_le (by have h := c46; simp at h; omega)] at hE; exact hE)
     replace F := aF h0 F; refine bO ?_; apply hK7; refine sr fun _ hJ22 => ?_; apply hJ22; refine ra ?_; exact gcr
 case cx4 =>
  intro K4 hK4
  refine rg' (h := fun J23 hJ23 => ?_); refine gs 11 (fun g1_5 => ?_) (fun g1_5 => ?_)
  · (try exact aG g1_5); all_goals have g1_5p := g1_5; try simp [F] at g1_5p
    all_goals
     replace F := aF g1_5 F; try replace F := aF g1_5p F
     have hl1 : ¬ ak = bk := by have h := g1_5; simp at h; intro e; subst e; exact h rfl
     replace F := aF hl1 F; (iterate 23 refine no2 (k := ?_)); apply hJ23; refine hK4 (()) _ _ ⟨kp, ?_, lp⟩
     · rw [hB]
       simp [F]
       try (rw [Bool.eq_iff_iff]; simp; omega)
  (try exact aG g1_5); all_goals have g1_5p := g1_5; try simp [F] at g1_5p
  all_goals
   replace F := aF g1_5 F; try replace F := aF g1_5p F
   have hl1 : ak = bk := by have h := g1_5; simp at h; exact UInt8.toNat_inj.1 (by omega)
   replace F := aF hl1 F; (iterate 5 refine go2 (k := ?_)); refine gs 18 (fun g1_12 => ?_) (fun g1_12 => ?_)
   · (try exact aG g1_12); all_goals have g1_12p := g1_12; try simp [F] at g1_12p
     all_goals
      replace F := aF g1_12 F; try replace F := aF g1_12p F
      have hl2 : ¬ a1 = b1 := by have h := g1_12; simp at h; omega
      replace F := aF hl2 F; (iterate 18 refine no2 (k := ?_)); apply hJ23; refine hK4 (()) _ _ ⟨kp, ?_, lp⟩
      · rw [hB]
        simp [F]
        try (rw [Bool.eq_iff_iff]; simp; omega)
   (try exact aG g1_12); all_goals have g1_12p := g1_12; try simp [F] at g1_12p
   all_goals
    replace F := aF g1_12 F; try replace F := aF g1_12p F
    have hl2 : a1 = b1 := by have h := g1_12; simp at h; omega
    replace F := aF hl2 F; (iterate 5 refine go2 (k := ?_)); refine gs 25 (fun g1_19 => ?_) (fun g1_19 => ?_)
    · (try exact aG g1_19); all_goals have g1_19p := g1_19; try simp [F] at g1_19p
      all_goals
       replace F := aF g1_19 F; try replace F := aF g1_19p F
       have hl3 : ¬ a2 = b2 := by have h := g1_19; simp at h; omega
       replace F := aF hl3 F; (iterate 13 refine no2 (k := ?_)); apply hJ23; refine hK4 (()) _ _ ⟨kp, ?_, lp⟩
       · rw [hB]
         simp [F]
         try (rw [Bool.eq_iff_iff]; simp; omega)
    (try exact aG g1_19); all_goals have g1_19p := g1_19; try simp [F] at g1_19p
    all_goals
     replace F := aF g1_19 F; try replace F := aF g1_19p F
     have hl3 : a2 = b2 := by have h := g1_19; simp at h; omega
     replace F := aF hl3 F; (iterate 4 refine go2 (k := ?_)); refine ca (c := pZ ha3 hb3) (k := ?_); rintro _ _ ⟨rfl, rfl⟩; (repeat first | simp [F] | simp (disch := omega) only [wC, if_pos, if_neg]); refine go2 (k := ?_); refine gs 33 (fun g1_27 => ?_) (fun g1_27 => ?_)
     · (try exact aG g1_27); all_goals have g1_27p := g1_27; try simp [F] at g1_27p
       all_goals
        replace F := aF g1_27 F; (try replace F := aF g1_27p F); (iterate 7 refine no2 (k := ?_)); apply hJ23; refine hK4 (()) _ _ ⟨kp, ?_, lp⟩
        · rw [hB]
          simp [F]
          try (rw [Bool.eq_iff_iff]; simp; omega)
     (try exact aG g1_27); all_goals have g1_27p := g1_27; try simp [F] at g1_27p
     all_goals
      replace F := aF g1_27 F; (try replace F := aF g1_27p F); (iterate 7 refine go2 (k := ?_)); apply hJ23; refine hK4 (()) _ _ ⟨kp, ?_, lp⟩
      · rw [hB]
        simp [F]
        try (rw [Bool.eq_iff_iff]; simp; omega)

theorem Bk {k : UInt8} (h : k = 0) : WkL [.v (.int .u8 k.toNat), .v (.int .u64 0), .v (.int .u64 0), .sl 0 [] 0 .full, .sl 0 [] 0 .full] (iR ⟨0, 0, 0, [], []⟩) := by
 subst h
 exact .cons (Wk.refl _) (.cons (Wk.refl _) (.cons (Wk.refl _) (.cons (Wk.nil _ _ _) (.cons (Wk.nil _ _ _) .nil))))

end Go.Proofs.YtjpnjhlfieklfaaGreat
