import Derived.Test.YtjpnjhlfieklfaaGreatZ7
import Derived.Test.YtjpnjhlfieklfaaGreatZ16
set_option linter.unnecessarySimpa false
set_option maxRecDepth 100000
set_option linter.unusedSimpArgs false
set_option linter.unusedVariables false
namespace Go.Proofs.YtjpnjhlfieklfaaGreat
set_option maxHeartbeats 1600000
open Go Go.Vm
attribute [local simp] dM aI dJ opA bH bN cM bP ofValue dC plain aQ aR cA b8 cC cB bY b7 b9 bZ cV gN bW cG cD b6 bU aT aS bO cU aW dQ dR bK aZ cL gA bS dE cF AV.cells AV.bL dF cO eZ bF aV cQ dI dS dV cN aN dP dO fX eY eV cW cT cI List.getElem?_cons_zero List.getElem?_cons_succ mS kE dA
attribute [local simp] iK eK dX in
theorem Et {σ : St} {p : Pln} {t : Nat} (hp : p.Ok) (hc : p.tot.length ≤ 1000000) (hs : p.s + pE p.ps < 2 ^ 64) (ht : t < 2 ^ 64) :
  aE Tryz.prog 79 [.agg (iK p), .v (.int .u64 t)] σ (fun av σ' => av = .sl 5 (aL (eC p t)) (eC p t).length .shut ∧ σ = σ') := by
 refine aU ?_ (by simp [AV.under])
 have hp0 := hp
 obtain ⟨pk, ps, pe, pt, pp⟩ := p
 obtain ⟨k1, k2, k3, k4, h5⟩ := hp
 simp only at hc hs k1 k2 k3 k4 h5
 have hkn : ∀ n : UInt8, pk = n ↔ (pk.toNat : Int) = (n.toNat : Int) := fun n => ⟨fun e => by rw [e], fun e => UInt8.toNat_inj.1 (Int.ofNat_inj.1 e)⟩
 have hon := yH pp ps t
 have hol : (pp.take (gU pp ps t)).length = gU pp ps t := by simp; omega
 have hsum : ∀ σ, aE Tryz.prog 108 [.sl 2 (e6 (pp.take (gU pp ps t))) (gU pp ps t) .shut] σ (fun av σ' => av = .sl 5 (aL (oK (pp.take (gU pp ps t)) [])) (oK (pp.take (gU pp ps t)) []).length .shut ∧ σ = σ') := fun σ => by
  have h := Ke (σ := σ) (l := pp.take (gU pp ps t)) (tl := .shut) (by rw [hol]; omega) (fun x hx => (h5 x (List.mem_of_mem_take hx)).2)
  rw [hol] at h; exact h
 have F := True.intro
 refine aB Tryz.func79 rfl rfl rfl ?_; refine sr fun _ hJ2 => ?_; apply hJ2; refine sq fun K3 hK3 => ?_; refine aD ?_; refine sr fun _ hJ5 => ?_; refine gs 14 (fun g1_3 => ?_) (fun g1_3 => ?_)
 · (try exact aK g1_3); all_goals have g1_3p := g1_3; try simp [F] at g1_3p
   all_goals
    replace F := aF g1_3 F; (try replace F := aF g1_3p F); (iterate 3 refine no2 (k := ?_)); apply hJ5; refine ct ?_; refine sq fun K6 hK6 => ?_
    have h35 : (pk.toNat : Int) = 3 ∨ (pk.toNat : Int) = 5 := by first | exact .inl (by simpa using g1_3) | exact .inr (by simpa using c10)
    have hv : eC ⟨pk, ps, pe, pt, pp⟩ t = oK (pp.take (gU pp ps t)) [] := by rw [eC]; rcases h35 with h | h <;> simp [hkn, h]
    replace F := aF hv F; refine rg' (h := fun J7 hJ7 => ?_); refine ca (c := (Cm (t := t) hp0 hs)) (k := ?_); rintro _ _ ⟨rfl, rfl⟩; (try simp [F]); refine ca (c := hsum _) (k := ?_); rintro _ _ ⟨rfl, rfl⟩; (try simp [F]); apply hJ7; apply hK6; refine ra ?_; exact gcr (hA := by simp only [aP]; simp [eC, hkn, F]; first | exact Wk.refl _ | exact Wk.nil _ _ _)
 (try exact aK g1_3); all_goals have g1_3p := g1_3; try simp [F] at g1_3p
 all_goals
  replace F := aF g1_3 F; (try replace F := aF g1_3p F); (iterate 3 refine go2 (k := ?_)); apply hJ5; refine cs (fun c10 => ?_) (fun c10 => ?_)
  · (try exact aK c10); all_goals have c10p := c10; try simp [F] at c10p
    all_goals
     replace F := aF c10 F; (try replace F := aF c10p F); refine sq fun K8 hK8 => ?_
     have h35 : (pk.toNat : Int) = 3 ∨ (pk.toNat : Int) = 5 := by first | exact .inl (by simpa using g1_3) | exact .inr (by simpa using c10)
     have hv : eC ⟨pk, ps, pe, pt, pp⟩ t = oK (pp.take (gU pp ps t)) [] := by rw [eC]; rcases h35 with h | h <;> simp [hkn, h]
     replace F := aF hv F; refine rg' (h := fun J9 hJ9 => ?_); refine ca (c := (Cm (t := t) hp0 hs)) (k := ?_); rintro _ _ ⟨rfl, rfl⟩; (try simp [F]); refine ca (c := hsum _) (k := ?_); rintro _ _ ⟨rfl, rfl⟩; (try simp [F]); apply hJ9; apply hK8; refine ra ?_; exact gcr (hA := by simp only [aP]; simp [eC, hkn, F]; first | exact Wk.refl _ | exact Wk.nil _ _ _)
  (try exact aK c10); all_goals have c10p := c10; try simp [F] at c10p
  all_goals
   replace F := aF c10 F; (try replace F := aF c10p F); refine sr fun _ hJ11 => ?_; refine gs 27 (fun g3_3 => ?_) (fun g3_3 => ?_)
   · (try exact aK g3_3); all_goals have g3_3p := g3_3; try simp [F] at g3_3p
     all_goals
      replace F := aF g3_3 F; (try replace F := aF g3_3p F); (iterate 3 refine go2 (k := ?_)); refine gs 32 (fun g3_8 => ?_) (fun g3_8 => ?_)
      · (try exact aK g3_8); all_goals have g3_8p := g3_8; try simp [F] at g3_8p
        all_goals
         replace F := aF g3_8 F; (try replace F := aF g3_8p F); (iterate 9 refine no2 (k := ?_)); apply hJ11; refine ct ?_; refine sr fun _ hJ13 => ?_; apply hJ13; refine ra ?_; exact gcr (hA := by simp only [aP]; simp [eC, hkn, F]; first | exact Wk.refl _ | exact Wk.nil _ _ _)
      (try exact aK g3_8); all_goals have g3_8p := g3_8; try simp [F] at g3_8p
      all_goals
       replace F := aF g3_8 F; (try replace F := aF g3_8p F); (iterate 4 refine go2 (k := ?_)); refine gs 36 (fun g3_12 => ?_) (fun g3_12 => ?_)
       · (try exact aK g3_12); all_goals have g3_12p := g3_12; try simp [F] at g3_12p
         all_goals
          replace F := aF g3_12 F; (try replace F := aF g3_12p F); (iterate 5 refine go2 (k := ?_)); apply hJ11; refine cs (fun c23 => ?_) (fun c23 => ?_)
          · (try exact aK c23); all_goals have c23p := c23; try simp [F] at c23p
            all_goals
             replace F := aF c23 F; try replace F := aF c23p F
             have n1 : t ≤ ps := by have h := c23; simp at h; omega
             replace F := aF n1 F; refine sr fun _ hJ15 => ?_; apply hJ15; refine ra ?_; exact gcr (hA := by simp only [aP]; simp [eC, hkn, F]; first | exact Wk.refl _ | exact Wk.nil _ _ _)
          (try exact aK c23); all_goals have c23p := c23; try simp [F] at c23p
          all_goals
           replace F := aF c23 F; try replace F := aF c23p F
           have n1 : ¬ t ≤ ps := by have h := c23; simp at h; omega
           replace F := aF n1 F; refine sr fun _ hJ17 => ?_; apply hJ17; refine cs (fun c43 => ?_) (fun c43 => ?_)
           · (try exact aK c43); all_goals have c43p := c43; try simp [F] at c43p
             all_goals
              replace F := aF c43 F; try replace F := aF c43p F
              have n2 : pe ≤ t := by have h := c43; simp at h; omega
              replace F := aF n2 F; refine sr fun _ hJ19 => ?_; refine ca (c := rL hc) (k := ?_); rintro _ _ ⟨rfl, rfl⟩; (try simp [F]); apply hJ19; refine ra ?_; exact gcr (hA := by simp only [aP]; simp [eC, hkn, F]; first | exact Wk.refl _ | exact Wk.nil _ _ _)
           (try exact aK c43); all_goals have c43p := c43; try simp [F] at c43p
           all_goals
            replace F := aF c43 F; try replace F := aF c43p F
            have n2 : ¬ pe ≤ t := by have h := c43; simp at h; omega
            replace F := aF n2 F; refine sr fun _ hJ21 => ?_; apply hJ21; refine cs (fun c51 => ?_) (fun c51 => ?_)
            · (try exact aK c51); all_goals have c51p := c51; try simp [F] at c51p
              all_goals
               replace F := aF c51 F; (try replace F := aF c51p F); refine sr fun _ hJ23 => ?_; apply hJ23; refine ra ?_; exact gcr (hA := by simp only [aP]; simp [eC, hkn, F]; first | exact Wk.refl _ | exact Wk.nil _ _ _)
            (try exact aK c51); all_goals have c51p := c51; try simp [F] at c51p
            all_goals
             replace F := aF c51 F; (try replace F := aF c51p F); refine aA ?_; apply hK3; refine sr fun _ hJ25 => ?_; apply hJ25; refine sq fun K26 hK26 => ?_; refine sr fun _ hJ28 => ?_; apply hJ28; refine aD ?_; refine fA (X := Nat) [1, 2, 4, 56, 57] (fun i ρ σ1 => (i ≤ pt.length) ∧ (ρ 5 = grA σ.toks.length 5 (iS i) (aL (eS ps pe t (pt.take i))) (eS ps pe t (pt.take i)).length) ∧ (ρ 58 = .v (.int .i64 i)) ∧ (σ1 = { σ with objs := σ.objs ++ [[.v (.int .u8 pk.toNat), .v (.int .u64 ps), .v (.int .u64 pe), .sl 5 (aL pt) pt.length .shut, .sl 2 (e6 pp) pp.length .shut]], toks := σ.toks ++ grT (iS i) (eS ps pe t (pt.take i)).length })) (fun i => pt.length - i) (0) ?st1 ?rd1
             case st1 =>
              refine ⟨lp, lp, lp, ?_⟩
              · simp [F]
             case rd1 =>
              rintro i ρ1 σ1 hF1 ⟨hi, h8, h12, hσ⟩; obtain rfl := hσ.symm
              have f1 := dU hF1
              (try simp [dT, F] at f1); replace F := aF h8 F; replace F := aF h12 F; (try replace F := aF f1 F); refine sr fun _ hJ30 => ?_; apply hJ30; refine sq fun K31 hK31 => ?_; refine cs (fun c59 => ?_) (fun c59 => ?_)
              · (try exact aK c59); all_goals have c59p := c59; try simp [F] at c59p
                all_goals
                 replace F := aF c59 F; (try replace F := aF c59p F); refine aA ?_; apply hK31; refine sq fun K32 hK32 => ?_; refine aD ?_; refine sq fun K33 hK33 => ?_
                 have hlt : i < pt.length := by simp at c59; omega
                 have hat := gG hlt
                 have hb1 : i * 5 + 5 ≤ pt.length * 5 := by omega
                 obtain ⟨x, hx⟩ : ∃ x, x = pt[i] := ⟨_, rfl⟩
                 rw [← hx] at hat
                 simp only [dX] at hat
                 have hse : ps < t := by have h := c23; simp at h; omega
                 have hte : t < pe := by have h := c43; simp at h; omega
                 have hw1 : IntKind.u64.wrap ((t : Int) - ps) = ((t - ps : Nat) : Int) := by rw [eI (by omega)]; omega
                 have hw2 : IntKind.u64.wrap ((pe : Int) - ps) = ((pe - ps : Nat) : Int) := by rw [eI (by omega)]; omega
                 have hpn : gW x ps pe t < 2 ^ 256 := lU (by omega)
                 have hmd : mdN x.n.v (t - ps) (pe - ps) false = (Num.of (gW x ps pe t)).v := by rw [Num.qA hpn, mdN, if_neg (by omega), show mdQ x.n.v (t - ps) (pe - ps) false = gW x ps pe t by simp [mdQ, gW], if_pos hpn]
                 obtain ⟨n, hn⟩ : ∃ n, n = Num.of (gW x ps pe t) := ⟨_, rfl⟩
                 rw [← hn] at hmd
                 obtain ⟨L, hL⟩ : ∃ L, L = eS ps pe t (pt.take i) := ⟨_, rfl⟩
                 obtain ⟨M, hM⟩ : ∃ M, M = j4 x.d n := ⟨_, rfl⟩
                 have hnx : eS ps pe t (pt.take (i + 1)) = L ++ M := by rw [hL, hM, hn, ← mY, hx, List.take_append_getElem hlt]
                 have hLl : L.length ≤ i := by rw [hL]; exact Nat.le_trans (mN _ _ _ _) (by simp; omega)
                 have hMl : M.length ≤ 1 := by rw [hM]; unfold j4; split <;> simp
                 rw [← hL] at h8 F
                 rw [← hL]
                 have hb0 : iS i = false → aL L = [] ∧ L.length = 0 := fun h => by have h0 := kH h; subst h0; rw [hL]; simp [eS]
                 have happ : ∀ objs, dG Tryz.prog 23 (grA σ.toks.length 5 (iS i) (aL L) L.length) (.sl 5 (aL M) M.length .shut) ⟨objs, σ.toks ++ grT (iS i) L.length, σ.gl, σ.rows⟩ = some (grA σ.toks.length 5 true (aL L ++ aL M) (L.length + M.length), ⟨objs, σ.toks ++ grT true (L.length + M.length), σ.gl, σ.rows⟩) := fun objs => kM elemT_23 ti_38 (by decide) rfl hb0 (.inl rfl) (by simp [gH]; omega) (by simp [maxLen]; omega)
                 replace F := aF hlt F; replace F := aF hat F; replace F := aF hb1 F; replace F := aF hw1 F; replace F := aF hw2 F; replace F := aF happ F; refine rg' (h := fun J34 hJ34 => ?_); apply hJ34; apply hK33; refine sq fun K35 hK35 => ?_
                 refine bI (by kernel_rfl) fun J36 hJ36 => ?_
                 refine q2 0 ?_; refine q2 1 ?_; refine q2 2 ?_; refine q2 3 ?_; refine q2 4 ?_; refine q2 5 ?_; refine q2 7 ?_; refine q2 8 ?_; refine q2 9 ?_; refine q2 10 ?_; refine q2 11 ?_; refine d2 6 17 ?_ ?_
                 · refine ac 6 rfl (c := iW (n := t - ps) (by omega)) (k := ?_)
                   rintro _ _ ⟨rfl, rfl⟩
                   refine ⟨by first | exact fun _ _ h => h | (refine aH [11, 10, 9, 8, 7, 4, 3, 2, 1, 0] (by kernel_rfl) ?_; (repeat' first | exact ln2 | refine lc ?_ ?_) <;> constructor <;> first | rfl | (simp [F]; done)), ?_⟩
                   (try simp [F]); refine d2 12 17 ?_ ?_
                   · refine ac 12 rfl (c := iW (n := pe - ps) (by omega)) (k := ?_)
                     rintro _ _ ⟨rfl, rfl⟩
                     refine ⟨by first | exact fun _ _ h => h | (refine aH [10, 9, 8, 7, 4, 3, 2, 1, 0] (by kernel_rfl) ?_; (repeat' first | exact ln2 | refine lc ?_ ?_) <;> constructor <;> first | rfl | (simp [F]; done)), ?_⟩
                     (try simp [F]); refine d2 13 17 ?_ ?_
                     · refine ac 13 rfl (c := (hmd ▸ gF x.n.h (by omega) (by omega))) (k := ?_)
                       rintro _ _ ⟨rfl, rfl⟩
                       refine ⟨by first | exact fun _ _ h => h | (refine aH [10, 9, 8, 7, 4, 3, 2, 0] (by kernel_rfl) ?_; (repeat' first | exact ln2 | refine lc ?_ ?_) <;> constructor <;> first | rfl | (simp [F]; done)), ?_⟩
                       (try simp [F]); refine q2 14 ?_; refine q2 15 ?_; refine q2 16 ?_; refine dop 17 rfl ?_; try simp [F]
                       refine ⟨by first | exact cH _ (by kernel_rfl) | exact bT (by kernel_rfl) rfl, ?_⟩
                       refine dop 18 rfl ?_; try simp [F]
                       refine ⟨cE (by kernel_rfl), ?_⟩
                       refine q2 19 ?_; refine dd ?_; apply hJ36; apply hK35; refine rg' (h := fun J37 hJ37 => ?_); refine ca (c := (hM ▸ iF (d := x.d) (n := n))) (k := ?_); rintro _ _ ⟨rfl, rfl⟩; (try simp [F]); apply hJ37; apply hK32; refine rg' (h := fun J38 hJ38 => ?_); apply hJ38; refine ⟨gk, (i + 1), ⟨kpG, lpG, ?_, lpG, ?_⟩, lpG⟩
                       · rw [hnx, ← cX]
                         simp [F, AV.gcO, cP]
                       · rw [hnx]
                         simp [F, St.fU]
                     · refine ao 17 rfl ?_; try simp [F]
                       refine ⟨by first | exact cH _ (by kernel_rfl) | exact bT (by kernel_rfl) rfl, ?_⟩
                       refine dc 13 rfl (c := (hmd ▸ gF x.n.h (by omega) (by omega))) (k := ?_)
                       rintro _ _ ⟨rfl, rfl⟩
                       refine ⟨by first | exact fun _ _ h => h | (refine aH [10, 9, 8, 7, 4, 3, 2, 0] (by kernel_rfl) ?_; (repeat' first | exact ln2 | refine lc ?_ ?_) <;> constructor <;> first | rfl | (simp [F]; done)), ?_⟩
                       (try simp [F]); refine q2 14 ?_; refine q2 15 ?_; refine q2 16 ?_; refine dop 18 rfl ?_; try simp [F]
                       refine ⟨cE (by kernel_rfl), ?_⟩
                       refine q2 19 ?_; refine dd ?_; apply hJ36; apply hK35; refine rg' (h := fun J39 hJ39 => ?_); refine ca (c := (hM ▸ iF (d := x.d) (n := n))) (k := ?_); rintro _ _ ⟨rfl, rfl⟩; (try simp [F]); apply hJ39; apply hK32; refine rg' (h := fun J40 hJ40 => ?_); apply hJ40; refine ⟨gk, (i + 1), ⟨kpG, lpG, ?_, lpG, ?_⟩, lpG⟩
                       · rw [hnx, ← cX]
                         simp [F, AV.gcO, cP]
                       · rw [hnx]
                         simp [F, St.fU]
                   · refine ao 17 rfl ?_; try simp [F]
                     refine ⟨by first | exact cH _ (by kernel_rfl) | exact bT (by kernel_rfl) rfl, ?_⟩
                     refine dc 12 rfl (c := iW (n := pe - ps) (by omega)) (k := ?_)
                     rintro _ _ ⟨rfl, rfl⟩
                     refine ⟨by first | exact fun _ _ h => h | (refine aH [10, 9, 8, 7, 4, 3, 2, 1, 0] (by kernel_rfl) ?_; (repeat' first | exact ln2 | refine lc ?_ ?_) <;> constructor <;> first | rfl | (simp [F]; done)), ?_⟩
                     try simp [F]
                     refine dc 13 rfl (c := (hmd ▸ gF x.n.h (by omega) (by omega))) (k := ?_)
                     rintro _ _ ⟨rfl, rfl⟩
                     refine ⟨by first | exact fun _ _ h => h | (refine aH [10, 9, 8, 7, 4, 3, 2, 0] (by kernel_rfl) ?_; (repeat' first | exact ln2 | refine lc ?_ ?_) <;> constructor <;> first | rfl | (simp [F]; done)), ?_⟩
                     (try simp [F]); refine q2 14 ?_; refine q2 15 ?_; refine q2 16 ?_; refine dop 18 rfl ?_; try simp [F]
                     refine ⟨cE (by kernel_rfl), ?_⟩
                     refine q2 19 ?_; refine dd ?_; apply hJ36; apply hK35; refine rg' (h := fun J41 hJ41 => ?_); refine ca (c := (hM ▸ iF (d := x.d) (n := n))) (k := ?_); rintro _ _ ⟨rfl, rfl⟩; (try simp [F]); apply hJ41; apply hK32; refine rg' (h := fun J42 hJ42 => ?_); apply hJ42; refine ⟨gk, (i + 1), ⟨kpG, lpG, ?_, lpG, ?_⟩, lpG⟩
                     · rw [hnx, ← cX]
                       simp [F, AV.gcO, cP]
                     · rw [hnx]
                       simp [F, St.fU]
                 · refine ao 17 rfl ?_; try simp [F]
                   refine ⟨by first | exact cH _ (by kernel_rfl) | exact bT (by kernel_rfl) rfl, ?_⟩
                   refine dc 6 rfl (c := iW (n := t - ps) (by omega)) (k := ?_)
                   rintro _ _ ⟨rfl, rfl⟩
                   refine ⟨by first | exact fun _ _ h => h | (refine aH [11, 10, 9, 8, 7, 4, 3, 2, 1, 0] (by kernel_rfl) ?_; (repeat' first | exact ln2 | refine lc ?_ ?_) <;> constructor <;> first | rfl | (simp [F]; done)), ?_⟩
                   try simp [F]
                   refine dc 12 rfl (c := iW (n := pe - ps) (by omega)) (k := ?_)
                   rintro _ _ ⟨rfl, rfl⟩
                   refine ⟨by first | exact fun _ _ h => h | (refine aH [10, 9, 8, 7, 4, 3, 2, 1, 0] (by kernel_rfl) ?_; (repeat' first | exact ln2 | refine lc ?_ ?_) <;> constructor <;> first | rfl | (simp [F]; done)), ?_⟩
                   try simp [F]
                   refine dc 13 rfl (c := (hmd ▸ gF x.n.h (by omega) (by omega))) (k := ?_)
                   rintro _ _ ⟨rfl, rfl⟩
                   refine ⟨by first | exact fun _ _ h => h | (refine aH [10, 9, 8, 7, 4, 3, 2, 0] (by kernel_rfl) ?_; (repeat' first | exact ln2 | refine lc ?_ ?_) <;> constructor <;> first | rfl | (simp [F]; done)), ?_⟩
                   (try simp [F]); refine q2 14 ?_; refine q2 15 ?_; refine q2 16 ?_; refine dop 18 rfl ?_; try simp [F]
                   refine ⟨cE (by kernel_rfl), ?_⟩
                   refine q2 19 ?_; refine dd ?_; apply hJ36; apply hK35; refine rg' (h := fun J43 hJ43 => ?_); refine ca (c := (hM ▸ iF (d := x.d) (n := n))) (k := ?_); rintro _ _ ⟨rfl, rfl⟩; (try simp [F]); apply hJ43; apply hK32; refine rg' (h := fun J44 hJ44 => ?_); apply hJ44; refine ⟨gk, (i + 1), ⟨kpG, lpG, ?_, lpG, ?_⟩, lpG⟩
                   · rw [hnx, ← cX]
                     simp [F, AV.gcO, cP]
                   · rw [hnx]
                     simp [F, St.fU]
              (try exact aK c59); all_goals have c59p := c59; try simp [F] at c59p
              all_goals
               replace F := aF c59 F; try replace F := aF c59p F
               have hii : i = pt.length := by have h := c59; simp at h; omega
               have hv : eC ⟨pk, ps, pe, pt, pp⟩ t = eS ps pe t (pt.take i) := by rw [hii, List.take_length, eC]; simp [hkn, F]
               replace F := aF hv F; refine bJ ?_; apply hK26; refine sr fun _ hJ46 => ?_; apply hJ46; refine ra ?_
               rw [hv]
               exact gcr (hA := by simp only [aP]; simp [F]; exact rJ (fun h => by have h0 := kH h; subst h0; simp [eS]))
       (try exact aK g3_12); all_goals have g3_12p := g3_12; try simp [F] at g3_12p
       all_goals
        replace F := aF g3_12 F; (try replace F := aF g3_12p F); (iterate 4 refine no2 (k := ?_)); refine go2 (k := ?_); apply hJ11; refine cf ?_; refine sr fun _ hJ48 => ?_; apply hJ48; refine cs (fun c43 => ?_) (fun c43 => ?_)
        · (try exact aK c43); all_goals have c43p := c43; try simp [F] at c43p
          all_goals
           replace F := aF c43 F; try replace F := aF c43p F
           have n2 : pe ≤ t := by have h := c43; simp at h; omega
           replace F := aF n2 F; refine sr fun _ hJ50 => ?_; refine ca (c := rL hc) (k := ?_); rintro _ _ ⟨rfl, rfl⟩; (try simp [F]); apply hJ50; refine ra ?_; exact gcr (hA := by simp only [aP]; simp [eC, hkn, F]; first | exact Wk.refl _ | exact Wk.nil _ _ _)
        (try exact aK c43); all_goals have c43p := c43; try simp [F] at c43p
        all_goals
         replace F := aF c43 F; try replace F := aF c43p F
         have n2 : ¬ pe ≤ t := by have h := c43; simp at h; omega
         replace F := aF n2 F; refine sr fun _ hJ52 => ?_; apply hJ52; refine cs (fun c51 => ?_) (fun c51 => ?_)
         · (try exact aK c51); all_goals have c51p := c51; try simp [F] at c51p
           all_goals
            replace F := aF c51 F; (try replace F := aF c51p F); refine sr fun _ hJ54 => ?_; apply hJ54; refine ra ?_; exact gcr (hA := by simp only [aP]; simp [eC, hkn, F]; first | exact Wk.refl _ | exact Wk.nil _ _ _)
         (try exact aK c51); all_goals have c51p := c51; try simp [F] at c51p
         all_goals
          replace F := aF c51 F; (try replace F := aF c51p F); refine aA ?_; apply hK3; refine sr fun _ hJ56 => ?_; apply hJ56; refine sq fun K57 hK57 => ?_; refine sr fun _ hJ59 => ?_; apply hJ59; refine aD ?_; refine fA (X := Nat) [1, 2, 4, 56, 57] (fun i ρ σ1 => (i ≤ pt.length) ∧ (ρ 5 = grA σ.toks.length 5 (iS i) (aL (eS ps pe t (pt.take i))) (eS ps pe t (pt.take i)).length) ∧ (ρ 58 = .v (.int .i64 i)) ∧ (σ1 = { σ with objs := σ.objs ++ [[.v (.int .u8 pk.toNat), .v (.int .u64 ps), .v (.int .u64 pe), .sl 5 (aL pt) pt.length .shut, .sl 2 (e6 pp) pp.length .shut]], toks := σ.toks ++ grT (iS i) (eS ps pe t (pt.take i)).length })) (fun i => pt.length - i) (0) ?st1 ?rd1
          case st1 =>
           refine ⟨lp, lp, lp, ?_⟩
           · simp [F]
          case rd1 =>
           rintro i ρ1 σ1 hF1 ⟨hi, h8, h12, hσ⟩; obtain rfl := hσ.symm
           have f1 := dU hF1
           (try simp [dT, F] at f1); replace F := aF h8 F; replace F := aF h12 F; (try replace F := aF f1 F); refine sr fun _ hJ61 => ?_; apply hJ61; refine sq fun K62 hK62 => ?_; refine cs (fun c59 => ?_) (fun c59 => ?_)
           · (try exact aK c59); all_goals have c59p := c59; try simp [F] at c59p
             all_goals
              replace F := aF c59 F; (try replace F := aF c59p F); refine aA ?_; apply hK62; refine sq fun K63 hK63 => ?_; refine aD ?_; refine sq fun K64 hK64 => ?_
              have hlt : i < pt.length := by simp at c59; omega
              have hat := gG hlt
              have hb1 : i * 5 + 5 ≤ pt.length * 5 := by omega
              obtain ⟨x, hx⟩ : ∃ x, x = pt[i] := ⟨_, rfl⟩
              rw [← hx] at hat
              simp only [dX] at hat
              have hse : ps < t := by have h := c23; simp at h; omega
              have hte : t < pe := by have h := c43; simp at h; omega
              have hw1 : IntKind.u64.wrap ((t : Int) - ps) = ((t - ps : Nat) : Int) := by rw [eI (by omega)]; omega
              have hw2 : IntKind.u64.wrap ((pe : Int) - ps) = ((pe - ps : Nat) : Int) := by rw [eI (by omega)]; omega
              have hpn : gW x ps pe t < 2 ^ 256 := lU (by omega)
              have hmd : mdN x.n.v (t - ps) (pe - ps) false = (Num.of (gW x ps pe t)).v := by rw [Num.qA hpn, mdN, if_neg (by omega), show mdQ x.n.v (t - ps) (pe - ps) false = gW x ps pe t by simp [mdQ, gW], if_pos hpn]
              obtain ⟨n, hn⟩ : ∃ n, n = Num.of (gW x ps pe t) := ⟨_, rfl⟩
              rw [← hn] at hmd
              obtain ⟨L, hL⟩ : ∃ L, L = eS ps pe t (pt.take i) := ⟨_, rfl⟩
              obtain ⟨M, hM⟩ : ∃ M, M = j4 x.d n := ⟨_, rfl⟩
              have hnx : eS ps pe t (pt.take (i + 1)) = L ++ M := by rw [hL, hM, hn, ← mY, hx, List.take_append_getElem hlt]
              have hLl : L.length ≤ i := by rw [hL]; exact Nat.le_trans (mN _ _ _ _) (by simp; omega)
              have hMl : M.length ≤ 1 := by rw [hM]; unfold j4; split <;> simp
              rw [← hL] at h8 F
              rw [← hL]
              have hb0 : iS i = false → aL L = [] ∧ L.length = 0 := fun h => by have h0 := kH h; subst h0; rw [hL]; simp [eS]
              have happ : ∀ objs, dG Tryz.prog 23 (grA σ.toks.length 5 (iS i) (aL L) L.length) (.sl 5 (aL M) M.length .shut) ⟨objs, σ.toks ++ grT (iS i) L.length, σ.gl, σ.rows⟩ = some (grA σ.toks.length 5 true (aL L ++ aL M) (L.length + M.length), ⟨objs, σ.toks ++ grT true (L.length + M.length), σ.gl, σ.rows⟩) := fun objs => kM elemT_23 ti_38 (by decide) rfl hb0 (.inl rfl) (by simp [gH]; omega) (by simp [maxLen]; omega)
              replace F := aF hlt F; replace F := aF hat F; replace F := aF hb1 F; replace F := aF hw1 F; replace F := aF hw2 F; replace F := aF happ F; refine rg' (h := fun J65 hJ65 => ?_); apply hJ65; apply hK64; refine sq fun K66 hK66 => ?_
              refine bI (by kernel_rfl) fun J67 hJ67 => ?_
              refine q2 0 ?_; refine q2 1 ?_; refine q2 2 ?_; refine q2 3 ?_; refine q2 4 ?_; refine q2 5 ?_; refine q2 7 ?_; refine q2 8 ?_; refine q2 9 ?_; refine q2 10 ?_; refine q2 11 ?_; refine d2 6 17 ?_ ?_
              · refine ac 6 rfl (c := iW (n := t - ps) (by omega)) (k := ?_)
                rintro _ _ ⟨rfl, rfl⟩
                refine ⟨by first | exact fun _ _ h => h | (refine aH [11, 10, 9, 8, 7, 4, 3, 2, 1, 0] (by kernel_rfl) ?_; (repeat' first | exact ln2 | refine lc ?_ ?_) <;> constructor <;> first | rfl | (simp [F]; done)), ?_⟩
                (try simp [F]); refine d2 12 17 ?_ ?_
                · refine ac 12 rfl (c := iW (n := pe - ps) (by omega)) (k := ?_)
                  rintro _ _ ⟨rfl, rfl⟩
                  refine ⟨by first | exact fun _ _ h => h | (refine aH [10, 9, 8, 7, 4, 3, 2, 1, 0] (by kernel_rfl) ?_; (repeat' first | exact ln2 | refine lc ?_ ?_) <;> constructor <;> first | rfl | (simp [F]; done)), ?_⟩
                  (try simp [F]); refine d2 13 17 ?_ ?_
                  · refine ac 13 rfl (c := (hmd ▸ gF x.n.h (by omega) (by omega))) (k := ?_)
                    rintro _ _ ⟨rfl, rfl⟩
                    refine ⟨by first | exact fun _ _ h => h | (refine aH [10, 9, 8, 7, 4, 3, 2, 0] (by kernel_rfl) ?_; (repeat' first | exact ln2 | refine lc ?_ ?_) <;> constructor <;> first | rfl | (simp [F]; done)), ?_⟩
                    (try simp [F]); refine q2 14 ?_; refine q2 15 ?_; refine q2 16 ?_; refine dop 17 rfl ?_; try simp [F]
                    refine ⟨by first | exact cH _ (by kernel_rfl) | exact bT (by kernel_rfl) rfl, ?_⟩
                    refine dop 18 rfl ?_; try simp [F]
                    refine ⟨cE (by kernel_rfl), ?_⟩
                    refine q2 19 ?_; refine dd ?_; apply hJ67; apply hK66; refine rg' (h := fun J68 hJ68 => ?_); refine ca (c := (hM ▸ iF (d := x.d) (n := n))) (k := ?_); rintro _ _ ⟨rfl, rfl⟩; (try simp [F]); apply hJ68; apply hK63; refine rg' (h := fun J69 hJ69 => ?_); apply hJ69; refine ⟨gk, (i + 1), ⟨kpG, lpG, ?_, lpG, ?_⟩, lpG⟩
                    · rw [hnx, ← cX]
                      simp [F, AV.gcO, cP]
                    · rw [hnx]
                      simp [F, St.fU]
                  · refine ao 17 rfl ?_; try simp [F]
                    refine ⟨by first | exact cH _ (by kernel_rfl) | exact bT (by kernel_rfl) rfl, ?_⟩
                    refine dc 13 rfl (c := (hmd ▸ gF x.n.h (by omega) (by omega))) (k := ?_)
                    rintro _ _ ⟨rfl, rfl⟩
                    refine ⟨by first | exact fun _ _ h => h | (refine aH [10, 9, 8, 7, 4, 3, 2, 0] (by kernel_rfl) ?_; (repeat' first | exact ln2 | refine lc ?_ ?_) <;> constructor <;> first | rfl | (simp [F]; done)), ?_⟩
                    (try simp [F]); refine q2 14 ?_; refine q2 15 ?_; refine q2 16 ?_; refine dop 18 rfl ?_; try simp [F]
                    refine ⟨cE (by kernel_rfl), ?_⟩
                    refine q2 19 ?_; refine dd ?_; apply hJ67; apply hK66; refine rg' (h := fun J70 hJ70 => ?_); refine ca (c := (hM ▸ iF (d := x.d) (n := n))) (k := ?_); rintro _ _ ⟨rfl, rfl⟩; (try simp [F]); apply hJ70; apply hK63; refine rg' (h := fun J71 hJ71 => ?_); apply hJ71; refine ⟨gk, (i + 1), ⟨kpG, lpG, ?_, lpG, ?_⟩, lpG⟩
                    · rw [hnx, ← cX]
                      simp [F, AV.gcO, cP]
                    · rw [hnx]
                      simp [F, St.fU]
                · refine ao 17 rfl ?_; try simp [F]
                  refine ⟨by first | exact cH _ (by kernel_rfl) | exact bT (by kernel_rfl) rfl, ?_⟩
                  refine dc 12 rfl (c := iW (n := pe - ps) (by omega)) (k := ?_)
                  rintro _ _ ⟨rfl, rfl⟩
                  refine ⟨by first | exact fun _ _ h => h | (refine aH [10, 9, 8, 7, 4, 3, 2, 1, 0] (by kernel_rfl) ?_; (repeat' first | exact ln2 | refine lc ?_ ?_) <;> constructor <;> first | rfl | (simp [F]; done)), ?_⟩
                  try simp [F]
                  refine dc 13 rfl (c := (hmd ▸ gF x.n.h (by omega) (by omega))) (k := ?_)
                  rintro _ _ ⟨rfl, rfl⟩
                  refine ⟨by first | exact fun _ _ h => h | (refine aH [10, 9, 8, 7, 4, 3, 2, 0] (by kernel_rfl) ?_; (repeat' first | exact ln2 | refine lc ?_ ?_) <;> constructor <;> first | rfl | (simp [F]; done)), ?_⟩
                  (try simp [F]); refine q2 14 ?_; refine q2 15 ?_; refine q2 16 ?_; refine dop 18 rfl ?_; try simp [F]
                  refine ⟨cE (by kernel_rfl), ?_⟩
                  refine q2 19 ?_; refine dd ?_; apply hJ67; apply hK66; refine rg' (h := fun J72 hJ72 => ?_); refine ca (c := (hM ▸ iF (d := x.d) (n := n))) (k := ?_); rintro _ _ ⟨rfl, rfl⟩; (try simp [F]); apply hJ72; apply hK63; refine rg' (h := fun J73 hJ73 => ?_); apply hJ73; refine ⟨gk, (i + 1), ⟨kpG, lpG, ?_, lpG, ?_⟩, lpG⟩
                  · rw [hnx, ← cX]
                    simp [F, AV.gcO, cP]
                  · rw [hnx]
                    simp [F, St.fU]
              · refine ao 17 rfl ?_; try simp [F]
                refine ⟨by first | exact cH _ (by kernel_rfl) | exact bT (by kernel_rfl) rfl, ?_⟩
                refine dc 6 rfl (c := iW (n := t - ps) (by omega)) (k := ?_)
                rintro _ _ ⟨rfl, rfl⟩
                refine ⟨by first | exact fun _ _ h => h | (refine aH [11, 10, 9, 8, 7, 4, 3, 2, 1, 0] (by kernel_rfl) ?_; (repeat' first | exact ln2 | refine lc ?_ ?_) <;> constructor <;> first | rfl | (simp [F]; done)), ?_⟩
                try simp [F]
                refine dc 12 rfl (c := iW (n := pe - ps) (by omega)) (k := ?_)
                rintro _ _ ⟨rfl, rfl⟩
                refine ⟨by first | exact fun _ _ h => h | (refine aH [10, 9, 8, 7, 4, 3, 2, 1, 0] (by kernel_rfl) ?_; (repeat' first | exact ln2 | refine lc ?_ ?_) <;> constructor <;> first | rfl | (simp [F]; done)), ?_⟩
                try simp [F]
                refine dc 13 rfl (c := (hmd ▸ gF x.n.h (by omega) (by omega))) (k := ?_)
                rintro _ _ ⟨rfl, rfl⟩
                refine ⟨by first | exact fun _ _ h => h | (refine aH [10, 9, 8, 7, 4, 3, 2, 0] (by kernel_rfl) ?_; (repeat' first | exact ln2 | refine lc ?_ ?_) <;> constructor <;> first | rfl | (simp [F]; done)), ?_⟩
                (try simp [F]); refine q2 14 ?_; refine q2 15 ?_; refine q2 16 ?_; refine dop 18 rfl ?_; try simp [F]
                refine ⟨cE (by kernel_rfl), ?_⟩
                refine q2 19 ?_; refine dd ?_; apply hJ67; apply hK66; refine rg' (h := fun J74 hJ74 => ?_); refine ca (c := (hM ▸ iF (d := x.d) (n := n))) (k := ?_); rintro _ _ ⟨rfl, rfl⟩; (try simp [F]); apply hJ74; apply hK63; refine rg' (h := fun J75 hJ75 => ?_); apply hJ75; refine ⟨gk, (i + 1), ⟨kpG, lpG, ?_, lpG, ?_⟩, lpG⟩
                · rw [hnx, ← cX]
                  simp [F, AV.gcO, cP]
                · rw [hnx]
                  simp [F, St.fU]
           (try exact aK c59); all_goals have c59p := c59; try simp [F] at c59p
           all_goals
            replace F := aF c59 F; try replace F := aF c59p F
            have hii : i = pt.length := by have h := c59; simp at h; omega
            have hv : eC ⟨pk, ps, pe, pt, pp⟩ t = eS ps pe t (pt.take i) := by rw [hii, List.take_length, eC]; simp [hkn, F]
            replace F := aF hv F; refine bJ ?_; apply hK57; refine sr fun _ hJ77 => ?_; apply hJ77; refine ra ?_
            rw [hv]
            exact gcr (hA := by simp only [aP]; simp [F]; exact rJ (fun h => by have h0 := kH h; subst h0; simp [eS]))
   (try exact aK g3_3); all_goals have g3_3p := g3_3; try simp [F] at g3_3p
   all_goals
    replace F := aF g3_3 F; (try replace F := aF g3_3p F); (iterate 3 refine no2 (k := ?_)); (iterate 4 refine go2 (k := ?_)); refine gs 36 (fun g3_12 => ?_) (fun g3_12 => ?_)
    · (try exact aK g3_12); all_goals have g3_12p := g3_12; try simp [F] at g3_12p
      all_goals
       replace F := aF g3_12 F; (try replace F := aF g3_12p F); (iterate 5 refine go2 (k := ?_)); apply hJ11; refine cs (fun c23 => ?_) (fun c23 => ?_)
       · (try exact aK c23); all_goals have c23p := c23; try simp [F] at c23p
         all_goals
          replace F := aF c23 F; try replace F := aF c23p F
          have n1 : t ≤ ps := by have h := c23; simp at h; omega
          replace F := aF n1 F; refine sr fun _ hJ79 => ?_; apply hJ79; refine ra ?_; exact gcr (hA := by simp only [aP]; simp [eC, hkn, F]; first | exact Wk.refl _ | exact Wk.nil _ _ _)
       (try exact aK c23); all_goals have c23p := c23; try simp [F] at c23p
       all_goals
        replace F := aF c23 F; try replace F := aF c23p F
        have n1 : ¬ t ≤ ps := by have h := c23; simp at h; omega
        replace F := aF n1 F; refine sr fun _ hJ81 => ?_; apply hJ81; refine cs (fun c43 => ?_) (fun c43 => ?_)
        · (try exact aK c43); all_goals have c43p := c43; try simp [F] at c43p
          all_goals
           replace F := aF c43 F; try replace F := aF c43p F
           have n2 : pe ≤ t := by have h := c43; simp at h; omega
           replace F := aF n2 F; refine sr fun _ hJ83 => ?_; refine ca (c := rL hc) (k := ?_); rintro _ _ ⟨rfl, rfl⟩; (try simp [F]); apply hJ83; refine ra ?_; exact gcr (hA := by simp only [aP]; simp [eC, hkn, F]; first | exact Wk.refl _ | exact Wk.nil _ _ _)
        (try exact aK c43); all_goals have c43p := c43; try simp [F] at c43p
        all_goals
         replace F := aF c43 F; try replace F := aF c43p F
         have n2 : ¬ pe ≤ t := by have h := c43; simp at h; omega
         replace F := aF n2 F; refine sr fun _ hJ85 => ?_; apply hJ85; refine cs (fun c51 => ?_) (fun c51 => ?_)
         · (try exact aK c51); all_goals have c51p := c51; try simp [F] at c51p
           all_goals
            replace F := aF c51 F; (try replace F := aF c51p F); refine sr fun _ hJ87 => ?_; apply hJ87; refine ra ?_; exact gcr (hA := by simp only [aP]; simp [eC, hkn, F]; first | exact Wk.refl _ | exact Wk.nil _ _ _)
         (try exact aK c51); all_goals have c51p := c51; try simp [F] at c51p
         all_goals
          replace F := aF c51 F; (try replace F := aF c51p F); refine aA ?_; apply hK3; refine sr fun _ hJ89 => ?_; apply hJ89; refine sq fun K90 hK90 => ?_; refine sr fun _ hJ92 => ?_; apply hJ92; refine aD ?_; refine fA (X := Nat) [1, 2, 4, 56, 57] (fun i ρ σ1 => (i ≤ pt.length) ∧ (ρ 5 = grA σ.toks.length 5 (iS i) (aL (eS ps pe t (pt.take i))) (eS ps pe t (pt.take i)).length) ∧ (ρ 58 = .v (.int .i64 i)) ∧ (σ1 = { σ with objs := σ.objs ++ [[.v (.int .u8 pk.toNat), .v (.int .u64 ps), .v (.int .u64 pe), .sl 5 (aL pt) pt.length .shut, .sl 2 (e6 pp) pp.length .shut]], toks := σ.toks ++ grT (iS i) (eS ps pe t (pt.take i)).length })) (fun i => pt.length - i) (0) ?st1 ?rd1
          case st1 =>
           refine ⟨lp, lp, lp, ?_⟩
           · simp [F]
          case rd1 =>
           rintro i ρ1 σ1 hF1 ⟨hi, h8, h12, hσ⟩; obtain rfl := hσ.symm
           have f1 := dU hF1
           (try simp [dT, F] at f1); replace F := aF h8 F; replace F := aF h12 F; (try replace F := aF f1 F); refine sr fun _ hJ94 => ?_; apply hJ94; refine sq fun K95 hK95 => ?_; refine cs (fun c59 => ?_) (fun c59 => ?_)
           · (try exact aK c59); all_goals have c59p := c59; try simp [F] at c59p
             all_goals
              replace F := aF c59 F; (try replace F := aF c59p F); refine aA ?_; apply hK95; refine sq fun K96 hK96 => ?_; refine aD ?_; refine sq fun K97 hK97 => ?_
              have hlt : i < pt.length := by simp at c59; omega
              have hat := gG hlt
              have hb1 : i * 5 + 5 ≤ pt.length * 5 := by omega
              obtain ⟨x, hx⟩ : ∃ x, x = pt[i] := ⟨_, rfl⟩
              rw [← hx] at hat
              simp only [dX] at hat
              have hse : ps < t := by have h := c23; simp at h; omega
              have hte : t < pe := by have h := c43; simp at h; omega
              have hw1 : IntKind.u64.wrap ((t : Int) - ps) = ((t - ps : Nat) : Int) := by rw [eI (by omega)]; omega
              have hw2 : IntKind.u64.wrap ((pe : Int) - ps) = ((pe - ps : Nat) : Int) := by rw [eI (by omega)]; omega
              have hpn : gW x ps pe t < 2 ^ 256 := lU (by omega)
              have hmd : mdN x.n.v (t - ps) (pe - ps) false = (Num.of (gW x ps pe t)).v := by rw [Num.qA hpn, mdN, if_neg (by omega), show mdQ x.n.v (t - ps) (pe - ps) false = gW x ps pe t by simp [mdQ, gW], if_pos hpn]
              obtain ⟨n, hn⟩ : ∃ n, n = Num.of (gW x ps pe t) := ⟨_, rfl⟩
              rw [← hn] at hmd
              obtain ⟨L, hL⟩ : ∃ L, L = eS ps pe t (pt.take i) := ⟨_, rfl⟩
              obtain ⟨M, hM⟩ : ∃ M, M = j4 x.d n := ⟨_, rfl⟩
              have hnx : eS ps pe t (pt.take (i + 1)) = L ++ M := by rw [hL, hM, hn, ← mY, hx, List.take_append_getElem hlt]
              have hLl : L.length ≤ i := by rw [hL]; exact Nat.le_trans (mN _ _ _ _) (by simp; omega)
              have hMl : M.length ≤ 1 := by rw [hM]; unfold j4; split <;> simp
              rw [← hL] at h8 F
              rw [← hL]
              have hb0 : iS i = false → aL L = [] ∧ L.length = 0 := fun h => by have h0 := kH h; subst h0; rw [hL]; simp [eS]
              have happ : ∀ objs, dG Tryz.prog 23 (grA σ.toks.length 5 (iS i) (aL L) L.length) (.sl 5 (aL M) M.length .shut) ⟨objs, σ.toks ++ grT (iS i) L.length, σ.gl, σ.rows⟩ = some (grA σ.toks.length 5 true (aL L ++ aL M) (L.length + M.length), ⟨objs, σ.toks ++ grT true (L.length + M.length), σ.gl, σ.rows⟩) := fun objs => kM elemT_23 ti_38 (by decide) rfl hb0 (.inl rfl) (by simp [gH]; omega) (by simp [maxLen]; omega)
              replace F := aF hlt F; replace F := aF hat F; replace F := aF hb1 F; replace F := aF hw1 F; replace F := aF hw2 F; replace F := aF happ F; refine rg' (h := fun J98 hJ98 => ?_); apply hJ98; apply hK97; refine sq fun K99 hK99 => ?_
              refine bI (by kernel_rfl) fun J100 hJ100 => ?_
              refine q2 0 ?_; refine q2 1 ?_; refine q2 2 ?_; refine q2 3 ?_; refine q2 4 ?_; refine q2 5 ?_; refine q2 7 ?_; refine q2 8 ?_; refine q2 9 ?_; refine q2 10 ?_; refine q2 11 ?_; refine d2 6 17 ?_ ?_
              · refine ac 6 rfl (c := iW (n := t - ps) (by omega)) (k := ?_)
                rintro _ _ ⟨rfl, rfl⟩
                refine ⟨by first | exact fun _ _ h => h | (refine aH [11, 10, 9, 8, 7, 4, 3, 2, 1, 0] (by kernel_rfl) ?_; (repeat' first | exact ln2 | refine lc ?_ ?_) <;> constructor <;> first | rfl | (simp [F]; done)), ?_⟩
                (try simp [F]); refine d2 12 17 ?_ ?_
                · refine ac 12 rfl (c := iW (n := pe - ps) (by omega)) (k := ?_)
                  rintro _ _ ⟨rfl, rfl⟩
                  refine ⟨by first | exact fun _ _ h => h | (refine aH [10, 9, 8, 7, 4, 3, 2, 1, 0] (by kernel_rfl) ?_; (repeat' first | exact ln2 | refine lc ?_ ?_) <;> constructor <;> first | rfl | (simp [F]; done)), ?_⟩
                  (try simp [F]); refine d2 13 17 ?_ ?_
                  · refine ac 13 rfl (c := (hmd ▸ gF x.n.h (by omega) (by omega))) (k := ?_)
                    rintro _ _ ⟨rfl, rfl⟩
                    refine ⟨by first | exact fun _ _ h => h | (refine aH [10, 9, 8, 7, 4, 3, 2, 0] (by kernel_rfl) ?_; (repeat' first | exact ln2 | refine lc ?_ ?_) <;> constructor <;> first | rfl | (simp [F]; done)), ?_⟩
                    (try simp [F]); refine q2 14 ?_; refine q2 15 ?_; refine q2 16 ?_; refine dop 17 rfl ?_; try simp [F]
                    refine ⟨by first | exact cH _ (by kernel_rfl) | exact bT (by kernel_rfl) rfl, ?_⟩
                    refine dop 18 rfl ?_; try simp [F]
                    refine ⟨cE (by kernel_rfl), ?_⟩
                    refine q2 19 ?_; refine dd ?_; apply hJ100; apply hK99; refine rg' (h := fun J101 hJ101 => ?_); refine ca (c := (hM ▸ iF (d := x.d) (n := n))) (k := ?_); rintro _ _ ⟨rfl, rfl⟩; (try simp [F]); apply hJ101; apply hK96; refine rg' (h := fun J102 hJ102 => ?_); apply hJ102; refine ⟨gk, (i + 1), ⟨kpG, lpG, ?_, lpG, ?_⟩, lpG⟩
                    · rw [hnx, ← cX]
                      simp [F, AV.gcO, cP]
                    · rw [hnx]
                      simp [F, St.fU]
                  · refine ao 17 rfl ?_; try simp [F]
                    refine ⟨by first | exact cH _ (by kernel_rfl) | exact bT (by kernel_rfl) rfl, ?_⟩
                    refine dc 13 rfl (c := (hmd ▸ gF x.n.h (by omega) (by omega))) (k := ?_)
                    rintro _ _ ⟨rfl, rfl⟩
                    refine ⟨by first | exact fun _ _ h => h | (refine aH [10, 9, 8, 7, 4, 3, 2, 0] (by kernel_rfl) ?_; (repeat' first | exact ln2 | refine lc ?_ ?_) <;> constructor <;> first | rfl | (simp [F]; done)), ?_⟩
                    (try simp [F]); refine q2 14 ?_; refine q2 15 ?_; refine q2 16 ?_; refine dop 18 rfl ?_; try simp [F]
                    refine ⟨cE (by kernel_rfl), ?_⟩
                    refine q2 19 ?_; refine dd ?_; apply hJ100; apply hK99; refine rg' (h := fun J103 hJ103 => ?_); refine ca (c := (hM ▸ iF (d := x.d) (n := n))) (k := ?_); rintro _ _ ⟨rfl, rfl⟩; (try simp [F]); apply hJ103; apply hK96; refine rg' (h := fun J104 hJ104 => ?_); apply hJ104; refine ⟨gk, (i + 1), ⟨kpG, lpG, ?_, lpG, ?_⟩, lpG⟩
                    · rw [hnx, ← cX]
                      simp [F, AV.gcO, cP]
                    · rw [hnx]
                      simp [F, St.fU]
                · refine ao 17 rfl ?_; try simp [F]
                  refine ⟨by first | exact cH _ (by kernel_rfl) | exact bT (by kernel_rfl) rfl, ?_⟩
                  refine dc 12 rfl (c := iW (n := pe - ps) (by omega)) (k := ?_)
                  rintro _ _ ⟨rfl, rfl⟩
                  refine ⟨by first | exact fun _ _ h => h | (refine aH [10, 9, 8, 7, 4, 3, 2, 1, 0] (by kernel_rfl) ?_; (repeat' first | exact ln2 | refine lc ?_ ?_) <;> constructor <;> first | rfl | (simp [F]; done)), ?_⟩
                  try simp [F]
                  refine dc 13 rfl (c := (hmd ▸ gF x.n.h (by omega) (by omega))) (k := ?_)
                  rintro _ _ ⟨rfl, rfl⟩
                  refine ⟨by first | exact fun _ _ h => h | (refine aH [10, 9, 8, 7, 4, 3, 2, 0] (by kernel_rfl) ?_; (repeat' first | exact ln2 | refine lc ?_ ?_) <;> constructor <;> first | rfl | (simp [F]; done)), ?_⟩
                  (try simp [F]); refine q2 14 ?_; refine q2 15 ?_; refine q2 16 ?_; refine dop 18 rfl ?_; try simp [F]
                  refine ⟨cE (by kernel_rfl), ?_⟩
                  refine q2 19 ?_; refine dd ?_; apply hJ100; apply hK99; refine rg' (h := fun J105 hJ105 => ?_); refine ca (c := (hM ▸ iF (d := x.d) (n := n))) (k := ?_); rintro _ _ ⟨rfl, rfl⟩; (try simp [F]); apply hJ105; apply hK96; refine rg' (h := fun J106 hJ106 => ?_); apply hJ106; refine ⟨gk, (i + 1), ⟨kpG, lpG, ?_, lpG, ?_⟩, lpG⟩
                  · rw [hnx, ← cX]
                    simp [F, AV.gcO, cP]
                  · rw [hnx]
                    simp [F, St.fU]
              · refine ao 17 rfl ?_; try simp [F]
                refine ⟨by first | exact cH _ (by kernel_rfl) | exact bT (by kernel_rfl) rfl, ?_⟩
                refine dc 6 rfl (c := iW (n := t - ps) (by omega)) (k := ?_)
                rintro _ _ ⟨rfl, rfl⟩
                refine ⟨by first | exact fun _ _ h => h | (refine aH [11, 10, 9, 8, 7, 4, 3, 2, 1, 0] (by kernel_rfl) ?_; (repeat' first | exact ln2 | refine lc ?_ ?_) <;> constructor <;> first | rfl | (simp [F]; done)), ?_⟩
                try simp [F]
                refine dc 12 rfl (c := iW (n := pe - ps) (by omega)) (k := ?_)
                rintro _ _ ⟨rfl, rfl⟩
                refine ⟨by first | exact fun _ _ h => h | (refine aH [10, 9, 8, 7, 4, 3, 2, 1, 0] (by kernel_rfl) ?_; (repeat' first | exact ln2 | refine lc ?_ ?_) <;> constructor <;> first | rfl | (simp [F]; done)), ?_⟩
                try simp [F]
                refine dc 13 rfl (c := (hmd ▸ gF x.n.h (by omega) (by omega))) (k := ?_)
                rintro _ _ ⟨rfl, rfl⟩
                refine ⟨by first | exact fun _ _ h => h | (refine aH [10, 9, 8, 7, 4, 3, 2, 0] (by kernel_rfl) ?_; (repeat' first | exact ln2 | refine lc ?_ ?_) <;> constructor <;> first | rfl | (simp [F]; done)), ?_⟩
                (try simp [F]); refine q2 14 ?_; refine q2 15 ?_; refine q2 16 ?_; refine dop 18 rfl ?_; try simp [F]
                refine ⟨cE (by kernel_rfl), ?_⟩
                refine q2 19 ?_; refine dd ?_; apply hJ100; apply hK99; refine rg' (h := fun J107 hJ107 => ?_); refine ca (c := (hM ▸ iF (d := x.d) (n := n))) (k := ?_); rintro _ _ ⟨rfl, rfl⟩; (try simp [F]); apply hJ107; apply hK96; refine rg' (h := fun J108 hJ108 => ?_); apply hJ108; refine ⟨gk, (i + 1), ⟨kpG, lpG, ?_, lpG, ?_⟩, lpG⟩
                · rw [hnx, ← cX]
                  simp [F, AV.gcO, cP]
                · rw [hnx]
                  simp [F, St.fU]
           (try exact aK c59); all_goals have c59p := c59; try simp [F] at c59p
           all_goals
            replace F := aF c59 F; try replace F := aF c59p F
            have hii : i = pt.length := by have h := c59; simp at h; omega
            have hv : eC ⟨pk, ps, pe, pt, pp⟩ t = eS ps pe t (pt.take i) := by rw [hii, List.take_length, eC]; simp [hkn, F]
            replace F := aF hv F; refine bJ ?_; apply hK90; refine sr fun _ hJ110 => ?_; apply hJ110; refine ra ?_
            rw [hv]
            exact gcr (hA := by simp only [aP]; simp [F]; exact rJ (fun h => by have h0 := kH h; subst h0; simp [eS]))
    (try exact aK g3_12); all_goals have g3_12p := g3_12; try simp [F] at g3_12p
    all_goals
     replace F := aF g3_12 F; (try replace F := aF g3_12p F); (iterate 4 refine no2 (k := ?_)); refine go2 (k := ?_); apply hJ11; refine cf ?_; refine sr fun _ hJ112 => ?_; apply hJ112; refine cs (fun c43 => ?_) (fun c43 => ?_)
     · (try exact aK c43); all_goals have c43p := c43; try simp [F] at c43p
       all_goals
        replace F := aF c43 F; try replace F := aF c43p F
        have n2 : pe ≤ t := by have h := c43; simp at h; omega
        replace F := aF n2 F; refine sr fun _ hJ114 => ?_; refine ca (c := rL hc) (k := ?_); rintro _ _ ⟨rfl, rfl⟩; (try simp [F]); apply hJ114; refine ra ?_; exact gcr (hA := by simp only [aP]; simp [eC, hkn, F]; first | exact Wk.refl _ | exact Wk.nil _ _ _)
     (try exact aK c43); all_goals have c43p := c43; try simp [F] at c43p
     all_goals
      replace F := aF c43 F; try replace F := aF c43p F
      have n2 : ¬ pe ≤ t := by have h := c43; simp at h; omega
      replace F := aF n2 F; refine sr fun _ hJ116 => ?_; apply hJ116; refine cs (fun c51 => ?_) (fun c51 => ?_)
      · (try exact aK c51); all_goals have c51p := c51; try simp [F] at c51p
        all_goals
         replace F := aF c51 F; (try replace F := aF c51p F); refine sr fun _ hJ118 => ?_; apply hJ118; refine ra ?_; exact gcr (hA := by simp only [aP]; simp [eC, hkn, F]; first | exact Wk.refl _ | exact Wk.nil _ _ _)
      (try exact aK c51); all_goals have c51p := c51; try simp [F] at c51p
      all_goals
       replace F := aF c51 F; (try replace F := aF c51p F); refine aA ?_; apply hK3; refine sr fun _ hJ120 => ?_; apply hJ120; refine sq fun K121 hK121 => ?_; refine sr fun _ hJ123 => ?_; apply hJ123; refine aD ?_; refine fA (X := Nat) [1, 2, 4, 56, 57] (fun i ρ σ1 => (i ≤ pt.length) ∧ (ρ 5 = grA σ.toks.length 5 (iS i) (aL (eS ps pe t (pt.take i))) (eS ps pe t (pt.take i)).length) ∧ (ρ 58 = .v (.int .i64 i)) ∧ (σ1 = { σ with objs := σ.objs ++ [[.v (.int .u8 pk.toNat), .v (.int .u64 ps), .v (.int .u64 pe), .sl 5 (aL pt) pt.length .shut, .sl 2 (e6 pp) pp.length .shut]], toks := σ.toks ++ grT (iS i) (eS ps pe t (pt.take i)).length })) (fun i => pt.length - i) (0) ?st1 ?rd1
       case st1 =>
        refine ⟨lp, lp, lp, ?_⟩
        · simp [F]
       case rd1 =>
        rintro i ρ1 σ1 hF1 ⟨hi, h8, h12, hσ⟩; obtain rfl := hσ.symm
        have f1 := dU hF1
        (try simp [dT, F] at f1); replace F := aF h8 F; replace F := aF h12 F; (try replace F := aF f1 F); refine sr fun _ hJ125 => ?_; apply hJ125; refine sq fun K126 hK126 => ?_; refine cs (fun c59 => ?_) (fun c59 => ?_)
        · (try exact aK c59); all_goals have c59p := c59; try simp [F] at c59p
          all_goals
           replace F := aF c59 F; (try replace F := aF c59p F); refine aA ?_; apply hK126; refine sq fun K127 hK127 => ?_; refine aD ?_; refine sq fun K128 hK128 => ?_
           have hlt : i < pt.length := by simp at c59; omega
           have hat := gG hlt
           have hb1 : i * 5 + 5 ≤ pt.length * 5 := by omega
           obtain ⟨x, hx⟩ : ∃ x, x = pt[i] := ⟨_, rfl⟩
           rw [← hx] at hat
           simp only [dX] at hat
           have hse : ps < t := by have h := c23; simp at h; omega
           have hte : t < pe := by have h := c43; simp at h; omega
           have hw1 : IntKind.u64.wrap ((t : Int) - ps) = ((t - ps : Nat) : Int) := by rw [eI (by omega)]; omega
           have hw2 : IntKind.u64.wrap ((pe : Int) - ps) = ((pe - ps : Nat) : Int) := by rw [eI (by omega)]; omega
           have hpn : gW x ps pe t < 2 ^ 256 := lU (by omega)
           have hmd : mdN x.n.v (t - ps) (pe - ps) false = (Num.of (gW x ps pe t)).v := by rw [Num.qA hpn, mdN, if_neg (by omega), show mdQ x.n.v (t - ps) (pe - ps) false = gW x ps pe t by simp [mdQ, gW], if_pos hpn]
           obtain ⟨n, hn⟩ : ∃ n, n = Num.of (gW x ps pe t) := ⟨_, rfl⟩
           rw [← hn] at hmd
           obtain ⟨L, hL⟩ : ∃ L, L = eS ps pe t (pt.take i) := ⟨_, rfl⟩
           obtain ⟨M, hM⟩ : ∃ M, M = j4 x.d n := ⟨_, rfl⟩
           have hnx : eS ps pe t (pt.take (i + 1)) = L ++ M := by rw [hL, hM, hn, ← mY, hx, List.take_append_getElem hlt]
           have hLl : L.length ≤ i := by rw [hL]; exact Nat.le_trans (mN _ _ _ _) (by simp; omega)
           have hMl : M.length ≤ 1 := by rw [hM]; unfold j4; split <;> simp
           rw [← hL] at h8 F
           rw [← hL]
           have hb0 : iS i = false → aL L = [] ∧ L.length = 0 := fun h => by have h0 := kH h; subst h0; rw [hL]; simp [eS]
           have happ : ∀ objs, dG Tryz.prog 23 (grA σ.toks.length 5 (iS i) (aL L) L.length) (.sl 5 (aL M) M.length .shut) ⟨objs, σ.toks ++ grT (iS i) L.length, σ.gl, σ.rows⟩ = some (grA σ.toks.length 5 true (aL L ++ aL M) (L.length + M.length), ⟨objs, σ.toks ++ grT true (L.length + M.length), σ.gl, σ.rows⟩) := fun objs => kM elemT_23 ti_38 (by decide) rfl hb0 (.inl rfl) (by simp [gH]; omega) (by simp [maxLen]; omega)
           replace F := aF hlt F; replace F := aF hat F; replace F := aF hb1 F; replace F := aF hw1 F; replace F := aF hw2 F; replace F := aF happ F; refine rg' (h := fun J129 hJ129 => ?_); apply hJ129; apply hK128; refine sq fun K130 hK130 => ?_
           refine bI (by kernel_rfl) fun J131 hJ131 => ?_
           refine q2 0 ?_; refine q2 1 ?_; refine q2 2 ?_; refine q2 3 ?_; refine q2 4 ?_; refine q2 5 ?_; refine q2 7 ?_; refine q2 8 ?_; refine q2 9 ?_; refine q2 10 ?_; refine q2 11 ?_; refine d2 6 17 ?_ ?_
           · refine ac 6 rfl (c := iW (n := t - ps) (by omega)) (k := ?_)
             rintro _ _ ⟨rfl, rfl⟩
             refine ⟨by first | exact fun _ _ h => h | (refine aH [11, 10, 9, 8, 7, 4, 3, 2, 1, 0] (by kernel_rfl) ?_; (repeat' first | exact ln2 | refine lc ?_ ?_) <;> constructor <;> first | rfl | (simp [F]; done)), ?_⟩
             (try simp [F]); refine d2 12 17 ?_ ?_
             · refine ac 12 rfl (c := iW (n := pe - ps) (by omega)) (k := ?_)
               rintro _ _ ⟨rfl, rfl⟩
               refine ⟨by first | exact fun _ _ h => h | (refine aH [10, 9, 8, 7, 4, 3, 2, 1, 0] (by kernel_rfl) ?_; (repeat' first | exact ln2 | refine lc ?_ ?_) <;> constructor <;> first | rfl | (simp [F]; done)), ?_⟩
               (try simp [F]); refine d2 13 17 ?_ ?_
               · refine ac 13 rfl (c := (hmd ▸ gF x.n.h (by omega) (by omega))) (k := ?_)
                 rintro _ _ ⟨rfl, rfl⟩
                 refine ⟨by first | exact fun _ _ h => h | (refine aH [10, 9, 8, 7, 4, 3, 2, 0] (by kernel_rfl) ?_; (repeat' first | exact ln2 | refine lc ?_ ?_) <;> constructor <;> first | rfl | (simp [F]; done)), ?_⟩
                 (try simp [F]); refine q2 14 ?_; refine q2 15 ?_; refine q2 16 ?_; refine dop 17 rfl ?_; try simp [F]
                 refine ⟨by first | exact cH _ (by kernel_rfl) | exact bT (by kernel_rfl) rfl, ?_⟩
                 refine dop 18 rfl ?_; try simp [F]
                 refine ⟨cE (by kernel_rfl), ?_⟩
                 refine q2 19 ?_; refine dd ?_; apply hJ131; apply hK130; refine rg' (h := fun J132 hJ132 => ?_); refine ca (c := (hM ▸ iF (d := x.d) (n := n))) (k := ?_); rintro _ _ ⟨rfl, rfl⟩; (try simp [F]); apply hJ132; apply hK127; refine rg' (h := fun J133 hJ133 => ?_); apply hJ133; refine ⟨gk, (i + 1), ⟨kpG, lpG, ?_, lpG, ?_⟩, lpG⟩
                 · rw [hnx, ← cX]
                   simp [F, AV.gcO, cP]
                 · rw [hnx]
                   simp [F, St.fU]
               · refine ao 17 rfl ?_; try simp [F]
                 refine ⟨by first | exact cH _ (by kernel_rfl) | exact bT (by kernel_rfl) rfl, ?_⟩
                 refine dc 13 rfl (c := (hmd ▸ gF x.n.h (by omega) (by omega))) (k := ?_)
                 rintro _ _ ⟨rfl, rfl⟩
                 refine ⟨by first | exact fun _ _ h => h | (refine aH [10, 9, 8, 7, 4, 3, 2, 0] (by kernel_rfl) ?_; (repeat' first | exact ln2 | refine lc ?_ ?_) <;> constructor <;> first | rfl | (simp [F]; done)), ?_⟩
                 (try simp [F]); refine q2 14 ?_; refine q2 15 ?_; refine q2 16 ?_; refine dop 18 rfl ?_; try simp [F]
                 refine ⟨cE (by kernel_rfl), ?_⟩
                 refine q2 19 ?_; refine dd ?_; apply hJ131; apply hK130; refine rg' (h := fun J134 hJ134 => ?_); refine ca (c := (hM ▸ iF (d := x.d) (n := n))) (k := ?_); rintro _ _ ⟨rfl, rfl⟩; (try simp [F]); apply hJ134; apply hK127; refine rg' (h := fun J135 hJ135 => ?_); apply hJ135; refine ⟨gk, (i + 1), ⟨kpG, lpG, ?_, lpG, ?_⟩, lpG⟩
                 · rw [hnx, ← cX]
                   simp [F, AV.gcO, cP]
                 · rw [hnx]
                   simp [F, St.fU]
             · refine ao 17 rfl ?_; try simp [F]
               refine ⟨by first | exact cH _ (by kernel_rfl) | exact bT (by kernel_rfl) rfl, ?_⟩
               refine dc 12 rfl (c := iW (n := pe - ps) (by omega)) (k := ?_)
               rintro _ _ ⟨rfl, rfl⟩
               refine ⟨by first | exact fun _ _ h => h | (refine aH [10, 9, 8, 7, 4, 3, 2, 1, 0] (by kernel_rfl) ?_; (repeat' first | exact ln2 | refine lc ?_ ?_) <;> constructor <;> first | rfl | (simp [F]; done)), ?_⟩
               try simp [F]
               refine dc 13 rfl (c := (hmd ▸ gF x.n.h (by omega) (by omega))) (k := ?_)
               rintro _ _ ⟨rfl, rfl⟩
               refine ⟨by first | exact fun _ _ h => h | (refine aH [10, 9, 8, 7, 4, 3, 2, 0] (by kernel_rfl) ?_; (repeat' first | exact ln2 | refine lc ?_ ?_) <;> constructor <;> first | rfl | (simp [F]; done)), ?_⟩
               (try simp [F]); refine q2 14 ?_; refine q2 15 ?_; refine q2 16 ?_; refine dop 18 rfl ?_; try simp [F]
               refine ⟨cE (by kernel_rfl), ?_⟩
               refine q2 19 ?_; refine dd ?_; apply hJ131; apply hK130; refine rg' (h := fun J136 hJ136 => ?_); refine ca (c := (hM ▸ iF (d := x.d) (n := n))) (k := ?_); rintro _ _ ⟨rfl, rfl⟩; (try simp [F]); apply hJ136; apply hK127; refine rg' (h := fun J137 hJ137 => ?_); apply hJ137; refine ⟨gk, (i + 1), ⟨kpG, lpG, ?_, lpG, ?_⟩, lpG⟩
               · rw [hnx, ← cX]
                 simp [F, AV.gcO, cP]
               · rw [hnx]
                 simp [F, St.fU]
           · refine ao 17 rfl ?_; try simp [F]
             refine ⟨by first | exact cH _ (by kernel_rfl) | exact bT (by kernel_rfl) rfl, ?_⟩
             refine dc 6 rfl (c := iW (n := t - ps) (by omega)) (k := ?_)
             rintro _ _ ⟨rfl, rfl⟩
             refine ⟨by first | exact fun _ _ h => h | (refine aH [11, 10, 9, 8, 7, 4, 3, 2, 1, 0] (by kernel_rfl) ?_; (repeat' first | exact ln2 | refine lc ?_ ?_) <;> constructor <;> first | rfl | (simp [F]; done)), ?_⟩
             try simp [F]
             refine dc 12 rfl (c := iW (n := pe - ps) (by omega)) (k := ?_)
             rintro _ _ ⟨rfl, rfl⟩
             refine ⟨by first | exact fun _ _ h => h | (refine aH [10, 9, 8, 7, 4, 3, 2, 1, 0] (by kernel_rfl) ?_; (repeat' first | exact ln2 | refine lc ?_ ?_) <;> constructor <;> first | rfl | (simp [F]; done)), ?_⟩
             try simp [F]
             refine dc 13 rfl (c := (hmd ▸ gF x.n.h (by omega) (by omega))) (k := ?_)
             rintro _ _ ⟨rfl, rfl⟩
             refine ⟨by first | exact fun _ _ h => h | (refine aH [10, 9, 8, 7, 4, 3, 2, 0] (by kernel_rfl) ?_; (repeat' first | exact ln2 | refine lc ?_ ?_) <;> constructor <;> first | rfl | (simp [F]; done)), ?_⟩
             (try simp [F]); refine q2 14 ?_; refine q2 15 ?_; refine q2 16 ?_; refine dop 18 rfl ?_; try simp [F]
             refine ⟨cE (by kernel_rfl), ?_⟩
             refine q2 19 ?_; refine dd ?_; apply hJ131; apply hK130; refine rg' (h := fun J138 hJ138 => ?_); refine ca (c := (hM ▸ iF (d := x.d) (n := n))) (k := ?_); rintro _ _ ⟨rfl, rfl⟩; (try simp [F]); apply hJ138; apply hK127; refine rg' (h := fun J139 hJ139 => ?_); apply hJ139; refine ⟨gk, (i + 1), ⟨kpG, lpG, ?_, lpG, ?_⟩, lpG⟩
             · rw [hnx, ← cX]
               simp [F, AV.gcO, cP]
             · rw [hnx]
               simp [F, St.fU]
        (try exact aK c59); all_goals have c59p := c59; try simp [F] at c59p
        all_goals
         replace F := aF c59 F; try replace F := aF c59p F
         have hii : i = pt.length := by have h := c59; simp at h; omega
         have hv : eC ⟨pk, ps, pe, pt, pp⟩ t = eS ps pe t (pt.take i) := by rw [hii, List.take_length, eC]; simp [hkn, F]
         replace F := aF hv F; refine bJ ?_; apply hK121; refine sr fun _ hJ141 => ?_; apply hJ141; refine ra ?_
         rw [hv]
         exact gcr (hA := by simp only [aP]; simp [F]; exact rJ (fun h => by have h0 := kH h; subst h0; simp [eS]))
attribute [local simp] oB iK eK in
theorem CJ {σ : St} {p : Pln} {t : Nat} (hp : p.Ok) (ht : t < 2 ^ 64) :
  aE Tryz.prog 135 [.agg (iK p), .v (.int .u64 t)] σ (fun av σ' => av = .v (.int .i64 (gU p.ps p.s t : Nat)) ∧ σ = σ') := by
 refine aU ?_ rfl
 obtain ⟨pk, ps, pe, pt, pp⟩ := p
 obtain ⟨k1, k2, k3, k4, h5⟩ := hp
 simp only at k1 k4 h5
 have F := True.intro
 refine aB Tryz.func135 rfl rfl rfl ?_; refine sr fun _ hJ2 => ?_; apply hJ2; refine sq fun K3 hK3 => ?_; refine sr fun _ hJ5 => ?_; apply hJ5; refine cs (fun c10 => ?_) (fun c10 => ?_)
 · all_goals
    replace F := aF c10 F
    have h1 : t < ps := by have h := c10; simp at h; omega
    have hz : gU pp ps t = 0 := by cases pp with | nil => rfl | cons x l => (unfold gU; rw [if_pos (by omega)])
    replace F := aF hz F; refine sr fun _ hJ7 => ?_; apply hJ7; refine ra ?_; exact gcr
 all_goals
  replace F := aF c10 F
  have h1 : ps ≤ t := by have h := c10; simp at h; omega
  have hw0 : IntKind.u64.wrap ((t : Int) - ps) = ((t - ps : Nat) : Int) := by rw [eI (by omega)]; omega
  replace F := aF hw0 F; refine aA ?_; apply hK3; refine sr fun _ hJ9 => ?_; apply hJ9; refine sr fun _ hJ11 => ?_; apply hJ11; refine sq fun K12 hK12 => ?_; refine aD ?_; refine cK (X := Eh) [2, 4] (fun q ρ σ1 => (q.i ≤ pp.length) ∧ (gU pp ps t = gU (pp.drop q.i) q.e t + q.i) ∧ (q.e ≤ t) ∧ (ρ 5 = .v (.int .u64 (t - q.e : Nat))) ∧ (ρ 6 = .v (.int .i64 q.i)) ∧ (σ1 = { σ with objs := σ.objs ++ [[.v (.int .u8 pk.toNat), .v (.int .u64 ps), .v (.int .u64 pe), .sl 5 (aL pt) pt.length .shut, .sl 2 (e6 pp) pp.length .shut]] })) (fun q => pp.length - q.i) (⟨0, ps, []⟩) ?st1 ?rd1
  case st1 =>
   refine ⟨lp, ?_, lp, lp, lp, ?_⟩
   · rfl
   · rfl
  case rd1 =>
   rintro q ρ1 σ1 hF1 ⟨hi, hE, hqe, h4, h17, hσ⟩; obtain rfl := hσ.symm
   have f1 := dU hF1
   (try simp [dT, F] at f1); replace F := aF h4 F; replace F := aF h17 F; (try replace F := aF f1 F); refine sq fun K13 hK13 => ?_; refine sr fun _ hJ15 => ?_; refine gs 20 (fun g5_5 => ?_) (fun g5_5 => ?_)
   · all_goals
      replace F := aF g5_5 F
      obtain ⟨i, E, S⟩ := q
      simp only at hi hE hqe h4 h17
      have hlt : i < pp.length := by have h := g5_5; simp at h; omega
      have hat := jS hlt
      have hb1 : i * 2 + 2 ≤ pp.length * 2 := by omega
      have hcons : pp.drop i = pp[i] :: pp.drop (i + 1) := List.drop_eq_getElem_cons hlt
      obtain ⟨x, hx⟩ : ∃ x, x = pp[i] := ⟨_, rfl⟩
      rw [← hx] at hat hcons
      rw [hcons] at hE
      obtain ⟨xl, xc⟩ := x
      simp only [gU] at hE
      replace F := aF hlt (And.intro hat (And.intro hb1 F)); (iterate 8 refine go2 (k := ?_)); apply hJ15; refine cs (fun c29 => ?_) (fun c29 => ?_)
      · all_goals
         replace F := aF c29 F
         have h2 : xl ≤ t - E := by have h := c29; simp at h; omega
         rw [if_neg (by omega)] at hE
         have hE2 : gU pp ps t = gU (pp.drop (i + 1)) (E + xl) t + (i + 1) := by rw [hE]; omega
         have hw : IntKind.u64.wrap (((t - E : Nat) : Int) - xl) = ((t - (E + xl) : Nat) : Int) := by rw [eI (by omega)]; omega
         replace F := aF hw F; refine aA ?_; apply hK13; refine aD ?_; refine sr fun _ hJ17 => ?_; apply hJ17; refine rg' (h := fun J18 hJ18 => ?_); apply hJ18; refine ⟨(⟨i + 1, E + xl, []⟩), ⟨kp, lp, ?_, lp, lp, lp, lp⟩, lp⟩
         · exact hE2
      all_goals
       replace F := aF c29 F
       have h2 : ¬ xl ≤ t - E := by have h := c29; simp at h; omega
       rw [if_pos (by omega)] at hE
       have hend : gU pp ps t = i := by rw [hE]; omega
       replace F := aF hend F; refine bJ ?_; apply hK12; refine sr fun _ hJ20 => ?_; apply hJ20; refine ra ?_; exact gcr
   all_goals
    replace F := aF g5_5 F
    have hii : q.i = pp.length := by have h := g5_5; simp at h; omega
    have hend : gU pp ps t = q.i := by rw [hE, List.drop_of_length_le (by omega)]; simp [gU]
    replace F := aF hend F; (iterate 8 refine no2 (k := ?_)); apply hJ15; refine cf ?_; refine bJ ?_; apply hK12; refine sr fun _ hJ22 => ?_; apply hJ22; refine ra ?_; exact gcr
attribute [local simp] oB iK eK in
theorem Ba {σ : St} {p : Pln} {n : Nat} (hp : p.Ok) (hr : ∀ x ∈ p.ps, bA x.c) (hn : n ≤ p.ps.length) :
  aE Tryz.prog 134 [.agg (iK p), .v (.int .i64 (n : Nat))] σ (fun av σ' => av = .sl 5 (aL (oK (p.ps.take n) [])) (oK (p.ps.take n) []).length .shut ∧ σ = σ') := by
 refine aU ?_ (by simp [AV.under])
 obtain ⟨pk, ps, pe, pt, pp⟩ := p
 obtain ⟨k1, k2, k3, k4, h5⟩ := hp
 simp only at k4 hr hn
 obtain ⟨T, hT⟩ : ∃ T, T = pp.take n := ⟨_, rfl⟩
 have hTl : T.length = n := by rw [hT]; simp; omega
 have F := True.intro
 refine aB Tryz.func134 rfl rfl rfl ?_; refine sr fun _ hJ2 => ?_; apply hJ2; refine sr fun _ hJ4 => ?_; apply hJ4; refine sq fun K5 hK5 => ?_; refine sq fun K6 hK6 => ?_; refine oH 5 5 (k := ?_); refine rg' (h := fun J7 hJ7 => ?_); apply hJ7; apply hK6; refine aD ?_; refine cK (X := Eh) [1, 2, 4] (fun q ρ σ1 => (q.i ≤ n) ∧ (oK T [] = oK (T.drop q.i) q.a) ∧ (bA q.a) ∧ (ρ 5 = .sl 5 (aL q.a) q.a.length .shut) ∧ (ρ 6 = .v (.int .i64 q.i)) ∧ (σ1 = { σ with objs := σ.objs ++ [[.v (.int .u8 pk.toNat), .v (.int .u64 ps), .v (.int .u64 pe), .sl 5 (aL pt) pt.length .shut, .sl 2 (e6 pp) pp.length .shut]] })) (fun q => n - q.i) (⟨0, 0, []⟩) ?st1 ?rd1
 case st1 =>
  refine ⟨lp, ?_, ?_, lp, lp, ?_⟩
  · rfl
  · exact Go.Vm.fC
  · rfl
 case rd1 =>
  rintro q ρ1 σ1 hF1 ⟨hi, hE, hqr, h4, h17, hσ⟩; obtain rfl := hσ.symm
  have f1 := dU hF1
  (try simp [dT, F] at f1); replace F := aF h4 F; replace F := aF h17 F; (try replace F := aF f1 F); refine sq fun K8 hK8 => ?_; refine sr fun _ hJ10 => ?_; apply hJ10; refine cs (fun c9 => ?_) (fun c9 => ?_)
  · all_goals
     replace F := aF c9 F; refine aA ?_; apply hK8; refine sq fun K11 hK11 => ?_; refine aD ?_
     obtain ⟨i, E, S⟩ := q
     simp only at hi hE hqr h4 h17
     have hin : i < n := by simp at c9; omega
     have hlt : i < pp.length := by omega
     have hltT : i < T.length := by omega
     have hat := jS hlt
     have hb1 : i * 2 + 2 ≤ pp.length * 2 := by omega
     have hxr := hr _ (List.getElem_mem hlt)
     have hcons : T.drop i = T[i] :: T.drop (i + 1) := List.drop_eq_getElem_cons hltT
     have hTi : T[i] = pp[i] := by subst hT; simp
     obtain ⟨x, hx⟩ : ∃ x, x = pp[i] := ⟨_, rfl⟩
     rw [hTi] at hcons
     rw [← hx] at hat hxr hcons
     rw [hcons] at hE
     obtain ⟨xl, xc⟩ := x
     simp only at hxr
     simp only [oK] at hE
     obtain ⟨S2, hS2⟩ : ∃ S2, S2 = iN S xc := ⟨_, rfl⟩
     have hS2r : bA S2 := by rw [hS2]; exact j3 _ _
     rw [← hS2] at hE
     replace F := aF hlt F; replace F := aF hat F; replace F := aF hb1 F; refine rg' (h := fun J12 hJ12 => ?_); refine ca (c := (hS2 ▸ qW hqr hxr)) (k := ?_); rintro _ _ ⟨rfl, rfl⟩; (try simp [F]); apply hJ12; apply hK11; refine rg' (h := fun J13 hJ13 => ?_); apply hJ13; refine ⟨(⟨i + 1, E, S2⟩), ⟨kp, lp, ?_, ?_, lp, lp, lp⟩, lp⟩
     · exact hE
     · exact hS2r
  all_goals
   replace F := aF c9 F
   have hend : oK T [] = q.a := by rw [hE, List.drop_of_length_le (by have h := c9; simp at h; omega)]; rfl
   rw [hT] at hend
   replace F := aF hend F; refine bJ ?_; apply hK5; refine sr fun _ hJ15 => ?_; apply hJ15; refine ra ?_; exact gcr
theorem GR {p : Pln} {t : Nat} (h : p.tot.length ≤ 1000000) : (eC p t).length ≤ 1000000 := by
 unfold eC
 split
 · have := dZ (sS (p.ps.take (gU p.ps p.s t)) [] Go.Vm.fC); omega
 · split
   · simp
   · split
     · exact h
     · split
       · simp
       · exact Nat.le_trans (mN _ _ _ _) h
attribute [local simp] iK eK in
theorem yS {σ : St} {p : Pln} {t : Nat} (hp : p.Ok) (hc : p.tot.length ≤ 1000000) (hs : p.s + pE p.ps < 2 ^ 64) (ht : t < 2 ^ 64) :
  aE Tryz.prog 45 [.agg (iK p), .v (.int .u64 t)] σ (fun av σ' => av = .sl 5 (aL (kA p.tot (eC p t))) (kA p.tot (eC p t)).length .shut ∧ σ = σ') := by
 refine aU ?_ (by simp [AV.under])
 have hp0 := hp
 obtain ⟨W, hW⟩ : ∃ W, W = eC p t := ⟨_, rfl⟩
 have hWl : W.length ≤ 1000000 := by rw [hW]; exact GR hc
 have hv : ∀ σ, aE Tryz.prog 79 [.agg (iK p), .v (.int .u64 t)] σ (fun av σ' => av = .sl 5 (aL W) W.length .shut ∧ σ = σ') := fun σ => by rw [hW]; exact Et hp hc hs ht
 rw [← hW]
 obtain ⟨Z, hZ⟩ : ∃ Z, Z = kA p.tot W := ⟨_, rfl⟩
 rw [← hZ]
 obtain ⟨pk, ps, pe, pt, pp⟩ := p
 simp only at hc hZ
 have F := True.intro
 refine aB Tryz.func45 rfl rfl rfl ?_; refine sr fun _ hJ2 => ?_; apply hJ2; refine sq fun K3 hK3 => ?_
 refine bI (by kernel_rfl) fun J4 hJ4 => ?_
 refine q2 0 ?_; refine q2 1 ?_; refine q2 2 ?_; refine q2 3 ?_; refine dc 4 rfl (c := hv _) (k := ?_); rintro _ _ ⟨rfl, rfl⟩
 refine ⟨by first | exact fun _ _ h => h | (refine aH [1, 0] (by kernel_rfl) ?_; (repeat' first | exact ln2 | refine lc ?_ ?_) <;> constructor <;> first | rfl | (simp [F]; done)), ?_⟩
 try simp [F]
 refine dc 5 rfl (c := (hZ ▸ Ib (by omega) (by omega))) (k := ?_)
 rintro _ _ ⟨rfl, rfl⟩
 refine ⟨by first | exact fun _ _ h => h | (refine aH [0] (by kernel_rfl) ?_; (repeat' first | exact ln2 | refine lc ?_ ?_) <;> constructor <;> first | rfl | (simp [F]; done)), ?_⟩
 (try simp [F]); refine q2 6 ?_; refine dd ?_; apply hJ4; apply hK3; refine ra ?_; exact gcr
end Go.Proofs.YtjpnjhlfieklfaaGreat
namespace Go.Vm
open Go
theorem tB (s e t : Nat) : ∀ l m : List bD, eS s e t (l ++ m) = eS s e t l ++ eS s e t m
 | [], _ => rfl
 | c :: l, m => by simp [eS, tB s e t l m]
theorem Av {s e t : Nat} {f : Nat → Nat} (hf : ∀ d, d < 8 → f d < 2 ^ 256) (hte : t ≤ e) : ∀ d, d ≤ 8 → eS s e t (fR f d) = fR (fun j => f j * (t - s) / (e - s)) d
 | 0, _ => rfl
 | d + 1, h => by
   have ih := Av (s := s) hf hte d (by omega)
   have e1 : (UInt8.ofNat d).toNat = d := mW (by omega)
   by_cases h0 : f d = 0
   · simp [fR, h0, ih]
   · have hv : (Num.of (f d)).v = f d := Num.qA (hf d (by omega))
     simp only [fR, h0, if_false, tB, ih]
     congr 1
     simp only [eS, gW, hv, List.append_nil]
     have hp : f d * (t - s) / (e - s) < 2 ^ 256 := by
      have := lU (c := ⟨0, Num.of (f d)⟩) (s := s) hte
      unfold gW at this
      simp only [hv] at this
      exact this
     by_cases h1 : f d * (t - s) / (e - s) = 0
     · simp [j4, h1, Num.of]
     · rw [if_neg h1]
       unfold j4
       rw [if_pos ⟨by rw [e1]; omega, by rw [Num.qA hp]; exact h1⟩]
theorem wS {s e t : Nat} {l : List bD} (h : bA l) (hte : t ≤ e) : eS s e t l = fR (fun j => amt l j * (t - s) / (e - s)) 8 := by
 have := Av (s := s) (e := e) (t := t) (f := amt l) (fun d _ => gD l d) hte 8 (by omega)
 rw [oG h] at this
 exact this
end Go.Vm
namespace Go.Proofs.YtjpnjhlfieklfaaGreat
set_option maxHeartbeats 1600000
open Go Go.Vm
attribute [local simp] dM aI dJ opA bH bN cM bP ofValue dC plain aQ aR cA b8 cC cB bY b7 b9 bZ cV gN bW cG cD b6 bU aT aS bO cU aW dQ dR bK aZ cL gA bS dE cF AV.cells AV.bL dF cO eZ bF aV cQ dI dS dV cN aN dP dO fX eY eV cW cT cI List.getElem?_cons_zero List.getElem?_cons_succ mS kE dA
attribute [local simp] iK eK in
theorem En {σ : St} {p : Pln} {t : Nat} (hp : p.Ok) (hr : bA p.tot) (hps : ∀ x ∈ p.ps, bA x.c) (ht : t < 2 ^ 64) :
  aE Tryz.prog 115 [.agg (iK p), .v (.int .u64 t)] σ (fun av σ' => av = .sl 5 (aL (eC p t)) (eC p t).length .shut ∧ σ = σ') := by
 refine aU ?_ (by simp [AV.under])
 have hPl := lQ
 have hPt := mA
 have hPd := mX
 have hPn : ∀ n g, bM n (iV (fD g)) = true := fun n g => lN n _
 have hPc := rQ
 simp only [AV.bL] at hPc
 have hp0 := hp
 have hrl := dZ hr
 obtain ⟨pk, ps, pe, pt, pp⟩ := p
 obtain ⟨k1, k2, k3, k4, h5⟩ := hp
 simp only at hr hps hrl k1 k2 k4 h5
 have hkn : ∀ n : UInt8, pk = n ↔ (pk.toNat : Int) = (n.toNat : Int) := fun n => ⟨fun e => by rw [e], fun e => UInt8.toNat_inj.1 (Int.ofNat_inj.1 e)⟩
 have hon := yH pp ps t
 have F := And.intro hPl (And.intro hPt (And.intro hPd (And.intro hPc (And.intro hPn (True.intro)))))
 refine aB Tryz.func115 rfl rfl rfl ?_; refine sr fun _ hJ2 => ?_; apply hJ2; refine sq fun K3 hK3 => ?_; refine sr fun _ hJ5 => ?_; apply hJ5; refine aD ?_; refine sr fun _ hJ7 => ?_; apply hJ7; refine cs (fun c9 => ?_) (fun c9 => ?_)
 · (try exact aK c9); all_goals have c9p := c9; try simp [F] at c9p
   all_goals
    replace F := aF c9 F; (try replace F := aF c9p F); refine sq fun K8 hK8 => ?_; refine sr fun _ hJ10 => ?_; apply hJ10; refine cs (fun c14 => ?_) (fun c14 => ?_)
    · (try exact aK c14); all_goals have c14p := c14; try simp [F] at c14p
      all_goals
       replace F := aF c14 F; try replace F := aF c14p F
       have n1 : t ≤ ps := by have h := c14; simp at h; omega
       replace F := aF n1 F; refine sr fun _ hJ12 => ?_; apply hJ12; refine ra ?_; exact gcr (hA := by simp only [aP]; simp [eC, hkn, F]; first | exact Wk.refl _ | exact Wk.nil _ _ _)
    (try exact aK c14); all_goals have c14p := c14; try simp [F] at c14p
    all_goals
     replace F := aF c14 F; try replace F := aF c14p F
     have n1 : ¬ t ≤ ps := by have h := c14; simp at h; omega
     replace F := aF n1 F; refine aA ?_; apply hK8; refine sq fun K13 hK13 => ?_; refine sr fun _ hJ15 => ?_; apply hJ15; refine cs (fun c18 => ?_) (fun c18 => ?_)
     · (try exact aK c18); all_goals have c18p := c18; try simp [F] at c18p
       all_goals
        replace F := aF c18 F; try replace F := aF c18p F
        have n2 : pe ≤ t := by have h := c18; simp at h; omega
        replace F := aF n2 F; refine sr fun _ hJ17 => ?_; apply hJ17; refine ra ?_; exact gcr (hA := by simp only [aP]; simp [eC, hkn, F]; first | exact Wk.refl _ | exact Wk.nil _ _ _)
     (try exact aK c18); all_goals have c18p := c18; try simp [F] at c18p
     all_goals
      replace F := aF c18 F; try replace F := aF c18p F
      have n2 : ¬ pe ≤ t := by have h := c18; simp at h; omega
      replace F := aF n2 F; refine aA ?_; apply hK13; refine sr fun _ hJ19 => ?_; apply hJ19; refine sq fun K20 hK20 => ?_; refine sr fun _ hJ22 => ?_; apply hJ22; refine aD ?_; refine cK (X := Nat) [1, 2, 4, 5] (fun i ρ σ1 => (i ≤ pt.length) ∧ (ρ 6 = .v (.int .i64 i)) ∧ (σ1 = { σ with objs := σ.objs ++ [[.v (.int .u8 pk.toNat), .v (.int .u64 ps), .v (.int .u64 pe), .sl 5 (aL pt) pt.length .shut, .sl 2 (e6 pp) pp.length .shut], iV (fD (fun j => amt (pt.take i) j * (t - ps) / (pe - ps)))] })) (fun i => pt.length - i) (0) ?st1 ?rd1
      case st1 =>
       refine ⟨lp, lp, ?_⟩
       · simp [F, amt, rZ]
      case rd1 =>
       rintro i ρ1 σ1 hF1 ⟨hi, h4, hσ⟩; obtain rfl := hσ.symm
       have f1 := dU hF1
       (try simp [dT, F] at f1); replace F := aF h4 F; (try replace F := aF f1 F); refine sq fun K23 hK23 => ?_; refine sr fun _ hJ25 => ?_; apply hJ25; refine cs (fun c25 => ?_) (fun c25 => ?_)
       · (try exact aK c25); all_goals have c25p := c25; try simp [F] at c25p
         all_goals
          replace F := aF c25 F; (try replace F := aF c25p F); refine aA ?_; apply hK23; refine sq fun K26 hK26 => ?_; refine aD ?_
          have hlt : i < pt.length := by simp at c25; omega
          have hat := gG hlt
          have hb1 : i * 5 + 5 ≤ pt.length * 5 := by omega
          obtain ⟨c, hc⟩ : ∃ c, c = pt[i] := ⟨_, rfl⟩
          rw [← hc] at hat
          simp only [dX] at hat
          have htk : pt.take (i + 1) = pt.take i ++ [c] := by rw [hc]; exact (List.take_append_getElem hlt).symm
          have hR : bA (pt.take i ++ [c]) := by rw [← htk]; exact sX hr _
          have hd8 : c.d.toNat < 8 := (gX.1 hR).2.1.1
          obtain ⟨d, hd⟩ : ∃ d, d = c.d.toNat := ⟨_, rfl⟩
          rw [← hd] at hat hd8
          have hd5 : (d : Int) < 8 := by omega
          have hb2 : d * 4 + 4 ≤ 32 := by omega
          have hw1 : IntKind.u64.wrap ((t : Int) - ps) = ((t - ps : Nat) : Int) := by rw [eI (by omega)]; omega
          have hw2 : IntKind.u64.wrap ((pe : Int) - ps) = ((pe - ps : Nat) : Int) := by rw [eI (by omega)]; omega
          have hpn : gW c ps pe t < 2 ^ 256 := lU (by omega)
          obtain ⟨V, hV⟩ : ∃ V, V = gW c ps pe t := ⟨_, rfl⟩
          have hmd : mdN c.n.v (t - ps) (pe - ps) false = V := by rw [hV, mdN, if_neg (by omega), show mdQ c.n.v (t - ps) (pe - ps) false = gW c ps pe t by simp [mdQ, gW], if_pos hpn]
          have hset := oM (P := fD (fun j => amt (pt.take i) j * (t - ps) / (pe - ps))) (d := d) (by simpa using hd8) V
          rw [oX] at hset
          have hnx : fD (fun j => if j = d then V else amt (pt.take i) j * (t - ps) / (pe - ps)) = fD (fun j => amt (pt.take (i + 1)) j * (t - ps) / (pe - ps)) := yC (fun j _ => by rw [htk, qJ hR, ← hd]; by_cases h : j = d <;> simp [h, hV, gW])
          rw [hnx] at hset
          replace F := aF hat F; replace F := aF hb1 F; replace F := aF hset F; replace F := aF hd8 F; replace F := aF hd5 F; replace F := aF hb2 F; replace F := aF hw1 F; replace F := aF hw2 F
          refine bI (by kernel_rfl) fun J27 hJ27 => ?_
          refine q2 0 ?_; refine q2 1 ?_; refine q2 2 ?_; refine q2 3 ?_; refine q2 4 ?_; refine q2 5 ?_; refine q2 6 ?_; refine q2 7 ?_; refine q2 8 ?_; refine q2 9 ?_; refine q2 10 ?_; refine q2 11 ?_; refine q2 12 ?_; refine q2 13 ?_; refine q2 14 ?_; refine q2 15 ?_; refine q2 17 ?_; refine q2 18 ?_; refine q2 19 ?_; refine q2 20 ?_; refine q2 21 ?_
          refine dc 16 rfl (c := AJ (n := t - ps) (by omega)) (k := ?_)
          rintro _ _ ⟨rfl, rfl⟩
          refine ⟨by first | exact fun _ _ h => h | (refine aH [21, 20, 19, 18, 17, 14, 13, 12, 11, 10, 9, 8, 7, 6, 5, 4, 3, 2, 1, 0] (by kernel_rfl) ?_; (repeat' first | exact ln2 | refine lc ?_ ?_) <;> constructor <;> first | rfl | (simp [F]; done)), ?_⟩
          try simp [F]
          refine dc 22 rfl (c := AJ (n := pe - ps) (by omega)) (k := ?_)
          rintro _ _ ⟨rfl, rfl⟩
          refine ⟨by first | exact fun _ _ h => h | (refine aH [20, 19, 18, 17, 14, 13, 12, 11, 10, 9, 8, 7, 6, 5, 4, 3, 2, 1, 0] (by kernel_rfl) ?_; (repeat' first | exact ln2 | refine lc ?_ ?_) <;> constructor <;> first | rfl | (simp [F]; done)), ?_⟩
          try simp [F]
          refine dc 23 rfl (c := (hmd ▸ DI c.n.h (by omega) (by omega))) (k := ?_)
          rintro _ _ ⟨rfl, rfl⟩
          refine ⟨by first | exact fun _ _ h => h | (refine aH [20, 19, 18, 17, 14, 13, 12, 10, 9, 8, 7, 6, 5, 4, 3, 2, 1, 0] (by kernel_rfl) ?_; (repeat' first | exact ln2 | refine lc ?_ ?_) <;> constructor <;> first | rfl | (simp [F]; done)), ?_⟩
          (try simp [F]); refine q2 24 ?_; refine q2 25 ?_; refine q2 26 ?_; refine q2 27 ?_; refine dop 28 rfl ?_; try simp [F]
          refine ⟨cE (by kernel_rfl), ?_⟩
          refine dd ?_; apply hJ27; apply hK26; refine rg' (h := fun J28 hJ28 => ?_); apply hJ28; refine ⟨(i + 1), ⟨kp, lp, lp, lp⟩, lp⟩
       (try exact aK c25); all_goals have c25p := c25; try simp [F] at c25p
       all_goals
        replace F := aF c25 F; try replace F := aF c25p F
        have hii : i = pt.length := by have h := c25; simp at h; omega
        have hpl : eS ps pe t pt = fR (fun j => amt pt j * (t - ps) / (pe - ps)) 8 := wS hr (by omega)
        have hlf : ∀ d, d < 8 → amt (pt.take i) d * (t - ps) / (pe - ps) < 2 ^ 256 := fun d _ => by have := lU (c := ⟨0, Num.of (amt (pt.take i) d)⟩) (s := ps) (show t ≤ pe by omega); unfold gW at this; simp only [Num.qA (gD _ _)] at this; exact this
        have htl : pt.take i = pt := List.take_of_length_le (by omega)
        have hvv : eC ⟨pk, ps, pe, pt, pp⟩ t = fR (fun j => amt (pt.take i) j * (t - ps) / (pe - ps)) 8 := by rw [htl, ← hpl, eC]; simp [hkn, F]
        refine bJ ?_; apply hK20; refine sr fun _ hJ30 => ?_; refine ca (c := qP hlf) (k := ?_); rintro _ _ ⟨rfl, rfl⟩; (try simp [F]); apply hJ30; refine ra ?_
        rw [hvv]
        exact gcr
 (try exact aK c9); all_goals have c9p := c9; try simp [F] at c9p
 all_goals
  replace F := aF c9 F; (try replace F := aF c9p F); refine sr fun _ hJ32 => ?_; apply hJ32; refine cs (fun c58 => ?_) (fun c58 => ?_)
  · (try exact aK c58); all_goals have c58p := c58; try simp [F] at c58p
    all_goals
     replace F := aF c58 F; (try replace F := aF c58p F); refine sq fun K33 hK33 => ?_; refine sr fun _ hJ35 => ?_; apply hJ35; refine cs (fun c63 => ?_) (fun c63 => ?_)
     · (try exact aK c63); all_goals have c63p := c63; try simp [F] at c63p
       all_goals
        replace F := aF c63 F; try replace F := aF c63p F
        have n2 : pe ≤ t := by have h := c63; simp at h; omega
        replace F := aF n2 F; refine sr fun _ hJ37 => ?_; apply hJ37; refine ra ?_; exact gcr (hA := by simp only [aP]; simp [eC, hkn, F]; first | exact Wk.refl _ | exact Wk.nil _ _ _)
     (try exact aK c63); all_goals have c63p := c63; try simp [F] at c63p
     all_goals
      replace F := aF c63 F; try replace F := aF c63p F
      have n2 : ¬ pe ≤ t := by have h := c63; simp at h; omega
      replace F := aF n2 F; refine aA ?_; apply hK33; refine sr fun _ hJ39 => ?_; apply hJ39; refine ra ?_; exact gcr (hA := by simp only [aP]; simp [eC, hkn, F]; first | exact Wk.refl _ | exact Wk.nil _ _ _)
  (try exact aK c58); all_goals have c58p := c58; try simp [F] at c58p
  all_goals
   replace F := aF c58 F; (try replace F := aF c58p F); refine sq fun K40 hK40 => ?_; refine sr fun _ hJ42 => ?_; apply hJ42; refine cs (fun c66 => ?_) (fun c66 => ?_)
   · (try exact aK c66); all_goals have c66p := c66; try simp [F] at c66p
     all_goals
      replace F := aF c66 F; (try replace F := aF c66p F); refine aA ?_; apply hK40; refine cs (fun c66 => ?_) (fun c66 => ?_)
      · (try exact aK c66); all_goals have c66p := c66; try simp [F] at c66p
        all_goals
         replace F := aF c66 F; (try replace F := aF c66p F); refine sq fun K43 hK43 => ?_
         refine bI (by kernel_rfl) fun J44 hJ44 => ?_
         refine q2 0 ?_; refine q2 1 ?_; refine q2 2 ?_; refine dc 3 rfl (c := (CJ (t := t) hp0 ht)) (k := ?_); rintro _ _ ⟨rfl, rfl⟩
         refine ⟨by first | exact fun _ _ h => h | (refine aH [0] (by kernel_rfl) ?_; (repeat' first | exact ln2 | refine lc ?_ ?_) <;> constructor <;> first | rfl | (simp [F]; done)), ?_⟩
         (try simp [F]); refine dc 4 rfl (c := (Ba hp0 hps hon)) (k := ?_); rintro _ _ ⟨rfl, rfl⟩; refine ⟨ln, ?_⟩; (try simp [F]); refine q2 5 ?_; refine dd ?_; apply hJ44; apply hK43; refine ra ?_; exact gcr (hA := by simp only [aP]; simp [eC, hkn, F]; first | exact Wk.refl _ | exact Wk.nil _ _ _)
      (try exact aK c66); all_goals have c66p := c66; try simp [F] at c66p
      all_goals
       replace F := aF c66 F; (try replace F := aF c66p F); refine aA ?_; apply hK3; refine sr fun _ hJ46 => ?_; apply hJ46; refine ra ?_; exact gcr (hA := by simp only [aP]; simp [eC, hkn, F]; first | exact Wk.refl _ | exact Wk.nil _ _ _)
   (try exact aK c66); all_goals have c66p := c66; try simp [F] at c66p
   all_goals
    replace F := aF c66 F; (try replace F := aF c66p F); refine rg' (h := fun J47 hJ47 => ?_); apply hJ47; apply hK40; refine cs (fun c66 => ?_) (fun c66 => ?_)
    · (try exact aK c66); all_goals have c66p := c66; try simp [F] at c66p
      all_goals
       replace F := aF c66 F; (try replace F := aF c66p F); refine sq fun K48 hK48 => ?_
       refine bI (by kernel_rfl) fun J49 hJ49 => ?_
       refine q2 0 ?_; refine q2 1 ?_; refine q2 2 ?_; refine dc 3 rfl (c := (CJ (t := t) hp0 ht)) (k := ?_); rintro _ _ ⟨rfl, rfl⟩
       refine ⟨by first | exact fun _ _ h => h | (refine aH [0] (by kernel_rfl) ?_; (repeat' first | exact ln2 | refine lc ?_ ?_) <;> constructor <;> first | rfl | (simp [F]; done)), ?_⟩
       (try simp [F]); refine dc 4 rfl (c := (Ba hp0 hps hon)) (k := ?_); rintro _ _ ⟨rfl, rfl⟩; refine ⟨ln, ?_⟩; (try simp [F]); refine q2 5 ?_; refine dd ?_; apply hJ49; apply hK48; refine ra ?_; exact gcr (hA := by simp only [aP]; simp [eC, hkn, F]; first | exact Wk.refl _ | exact Wk.nil _ _ _)
    (try exact aK c66); all_goals have c66p := c66; try simp [F] at c66p
    all_goals
     replace F := aF c66 F; (try replace F := aF c66p F); refine aA ?_; apply hK3; refine sr fun _ hJ51 => ?_; apply hJ51; refine ra ?_; exact gcr (hA := by simp only [aP]; simp [eC, hkn, F]; first | exact Wk.refl _ | exact Wk.nil _ _ _)
theorem CG {p : Pln} {t : Nat} (h : bA p.tot) (hte : t ≤ p.e ∨ p.e ≤ t) : bA (eC p t) := by
 unfold eC
 split
 · exact sS _ _ Go.Vm.fC
 · split
   · exact Go.Vm.fC
   · split
     · exact h
     · split
       · exact Go.Vm.fC
       · rename_i h1 h2
         rw [wS h (by omega)]
         exact iG (fun d _ => by have := lU (c := ⟨0, Num.of (amt p.tot d)⟩) (s := p.s) (show t ≤ p.e by omega); unfold gW at this; simp only [Num.qA (gD _ _)] at this; exact this) 8 (by omega)
attribute [local simp] iK eK in
theorem DP {σ : St} {p : Pln} {t : Nat} (hp : p.Ok) (hr : bA p.tot) (hps : ∀ x ∈ p.ps, bA x.c) (ht : t < 2 ^ 64) :
  aE Tryz.prog 81 [.agg (iK p), .v (.int .u64 t)] σ (fun av σ' => av = .sl 5 (aL (kA p.tot (eC p t))) (kA p.tot (eC p t)).length .shut ∧ σ = σ') := by
 refine aU ?_ (by simp [AV.under])
 obtain ⟨W, hW⟩ : ∃ W, W = eC p t := ⟨_, rfl⟩
 have hWr : bA W := by rw [hW]; exact CG hr (by omega)
 have hv : ∀ σ, aE Tryz.prog 115 [.agg (iK p), .v (.int .u64 t)] σ (fun av σ' => av = .sl 5 (aL W) W.length .shut ∧ σ = σ') := fun σ => by rw [hW]; exact En hp hr hps ht
 rw [← hW]
 obtain ⟨Z, hZ⟩ : ∃ Z, Z = kA p.tot W := ⟨_, rfl⟩
 rw [← hZ]
 obtain ⟨pk, ps, pe, pt, pp⟩ := p
 simp only at hr hZ
 have F := True.intro
 refine aB Tryz.func81 rfl rfl rfl ?_; refine sr fun _ hJ2 => ?_; apply hJ2; refine sq fun K3 hK3 => ?_
 refine bI (by kernel_rfl) fun J4 hJ4 => ?_
 refine q2 0 ?_; refine q2 1 ?_; refine q2 2 ?_; refine q2 3 ?_; refine dc 4 rfl (c := hv _) (k := ?_); rintro _ _ ⟨rfl, rfl⟩
 refine ⟨by first | exact fun _ _ h => h | (refine aH [1, 0] (by kernel_rfl) ?_; (repeat' first | exact ln2 | refine lc ?_ ?_) <;> constructor <;> first | rfl | (simp [F]; done)), ?_⟩
 (try simp [F]); refine dc 5 rfl (c := (hZ ▸ GH hr hWr)) (k := ?_); rintro _ _ ⟨rfl, rfl⟩
 refine ⟨by first | exact fun _ _ h => h | (refine aH [0] (by kernel_rfl) ?_; (repeat' first | exact ln2 | refine lc ?_ ?_) <;> constructor <;> first | rfl | (simp [F]; done)), ?_⟩
 (try simp [F]); refine q2 6 ?_; refine dd ?_; apply hJ4; apply hK3; refine ra ?_; exact gcr
end Go.Proofs.YtjpnjhlfieklfaaGreat
namespace Go.Vm
open Go
structure Pc where
 l : Nat
 c : List bD
structure Mad where
 k : UInt8
 s : Nat
 n : Nat
 c : List bD
 ps : List Pc
def Mad.Ok (m : Mad) : Prop := m.s < 2 ^ 32 ∧ m.n < 2 ^ 16 ∧ ∀ x ∈ m.ps, x.l < 2 ^ 16
theorem w9 : ∀ (l : List Per), (∀ x ∈ l, x.l ≤ 2 ^ 16) → pE l ≤ l.length * 2 ^ 16
 | [], _ => by simp [pE]
 | x :: l, h => by
   have h1 := h x (by simp)
   have h2 := w9 l (fun y hy => h y (by simp [hy]))
   simp only [pE, List.length_cons, Nat.add_mul]
   omega
def pcC (x : Pc) : List AV := [.v (.int .u16 x.l), .sl 5 (aL x.c) x.c.length .shut]
def MS (l : List Pc) : List AV := l.flatMap pcC
@[simp] theorem M0 : MS [] = [] := rfl
@[simp] theorem My (l : List Pc) : (MS l).length = l.length * 2 := kP pcC 2 (fun _ => rfl) l
def MW (x : Per) : Prop := 0 < x.l ∧ x.l ≤ 2 ^ 16 ∧ x.c ≠ [] ∧ bA x.c ∧ ∀ d, d < 8 → amt x.c d < 2 ^ 250
structure Jt (p : Pln) : Prop where
 ok : p.Ok
 tot : bA p.tot
 kinds : p.k = 0 ∨ p.k = 1 ∨ p.k = 2 ∨ p.k = 3 ∨ p.k = 4 ∨ p.k = 5
 zero : p.k = 0 → p = ⟨0, 0, 0, [], []⟩
 even : p.k = 1 → p.s < p.e
 late : p.k = 2 → p.s = 0
 small : p.s + pE p.ps ≤ 2 ^ 40
 pers : ∀ x ∈ p.ps, MW x
 steps : p.k = 3 ∨ p.k = 5 → p.e = p.s + pE p.ps ∧ p.tot = oK p.ps [] ∧ p.ps ≠ [] ∧ p.ps.length ≤ 16
theorem Jt.len {p : Pln} (g : Jt p) : p.tot.length ≤ 1000000 := by have := dZ g.tot; omega
theorem Jt.fit {p : Pln} (g : Jt p) : p.s + pE p.ps < 2 ^ 64 := Nat.lt_of_le_of_lt g.small (by decide)
end Go.Vm
namespace Go.Proofs.YtjpnjhlfieklfaaGreat
open Go Go.Vm
attribute [local simp] dM aI dJ opA bH bN cM bP ofValue dC plain aQ aR cA b8 cC cB bY b7 b9 bZ cV gN bW cG cD b6 bU aT aS bO cU aW dQ dR bK aZ cL gA bS dE cF AV.cells AV.bL dF cO eZ bF aV cQ dI dS dV cN aN dP dO fX eY eV cW cT cI List.getElem?_cons_zero List.getElem?_cons_succ mS kE
theorem BG {k : UInt8} (h : k = 0) : WkL [.v (.int .u8 k.toNat), .v (.int .u64 0), .v (.int .u64 0), .sl 0 [] 0 .full, .sl 0 [] 0 .full] (iK ⟨0, 0, 0, [], []⟩) := by
 subst h
 exact .cons (Wk.refl _) (.cons (Wk.refl _) (.cons (Wk.refl _) (.cons (Wk.nil _ _ _) (.cons (Wk.nil _ _ _) .nil))))
end Go.Proofs.YtjpnjhlfieklfaaGreat
