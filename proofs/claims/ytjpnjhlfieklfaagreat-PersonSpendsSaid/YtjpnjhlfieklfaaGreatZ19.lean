import Derived.Test.YtjpnjhlfieklfaaGreatZ7
import Derived.Test.YtjpnjhlfieklfaaGreatZ18
set_option linter.unnecessarySimpa false
set_option maxRecDepth 100000
set_option linter.unusedSimpArgs false
set_option linter.unusedVariables false
namespace Go.Proofs.YtjpnjhlfieklfaaGreat
open Go Go.Vm
attribute [local simp] dM aI dJ opA bH bN cM bP ofValue dC plain aQ aR cA b8 cC cB bY b7 b9 bZ cV bW cG cD b6 bU aT aS bO cU aW dQ dR bK aZ cL gA bS dE cF AV.cells AV.bL dF cO eZ bF aV cQ dI dS dV cN aN dP dO cW cT cI List.getElem?_cons_zero List.getElem?_cons_succ fK fL fH fG fJ fM fI fF dL eQ eB fB
theorem HU {σ : St} {G : Sg} {L : List Acc} {T : Tb} {W : Pw} {v : Acc} (hl : L.length ≤ 1000) (hv : v.Ok) :
  aE Tryz.prog 15 [.ptr (σ.objs.length + 1) 0, .agg (hH v)] (Sp σ G [wdC T L W]) (fun av σ' => av = .v (.int .i64 ((oW L v).e : Nat)) ∧ σ' = Sp σ G [wdC T (oW L v).L W]) :=
 cS (F8 (fr := frW T L W) (Sp.sw σ G _ _) hl hv) (fun av σ' ⟨e1, e2⟩ => ⟨e1, by rw [e2, Sp.sA, KV]⟩)
theorem Ks {σ : St} {G : Sg} {L : List Acc} {W : Pw} {a : UInt8} {C : List bD} (ha : a.toNat < 200) (hC : bA C) :
  aE Tryz.prog 18 [.ptr (σ.objs.length + 1) 0, .v (.int .u8 a.toNat), .sl 5 (aL C) C.length .shut] (Sp σ G [wdC tb0 L W]) (fun av σ' => av = .v (.int .i64 0) ∧ σ' = Sp σ G [wdC (tbM a C) L W]) := by
 have h8 := dZ hC
 have := Hw (fr := frW tb0 L W) (b := a) (l := C) (Sp.sw σ G (wdC tb0 L W) []) (fun o => Go.Vm.fC) BW.nil (by omega)
 rw [KK (Hz ha) hC] at this
 exact cS this (fun av σ' ⟨e1, e2⟩ => ⟨e1, by rw [e2, Sp.sB, L3]⟩)
theorem CN {L : List Acc} {a : UInt8} {t : Nat} {C : List bD} : Au (m9 L a t C) C := fun d hd => by
 rw [m9, qB (fun d _ => Bc _ _ _ _ (gD _ _)) (Nat.le_refl 8) hd]
 simp only [spG, spN]; omega
set_option maxHeartbeats 1600000 in
attribute [local simp] dA List.getElem?_cons_zero List.getElem?_cons_succ in
theorem wW {σ : St} {v : Acc} {l : List bD} {t : Nat} (hv : v.Ok) (hl : l.length ≤ 9223372036854775807) (ht : t < 2 ^ 64) :
  aE Tryz.prog 4 [.agg (hH v), .sl 5 (aL l) l.length .shut, .v (.int .u64 t)] σ (fun av σ' => av = .v (.bool true) ∧ σ = σ') := by
 refine aU ?_ rfl
 have hs := fun τ => Ie (σ := τ) hv
 have h2 := fun τ => wN (σ := τ) hv
 have hPl := lQ
 have hPt := mA
 have hPd := mX
 have hPc := rQ
 simp only [AV.bL] at hPc
 have hPn : ∀ n g, bM n (iV (fD g)) = true := fun n g => lN n _
 have hlc := y7 l
 have hli := fun τ => qP (σ := τ) (f := wZ l) (fun d _ => Fc l d)
 obtain ⟨C, hC⟩ : ∃ C, C = fR (wZ l) 8 := ⟨_, rfl⟩
 have hCr : bA C := by rw [hC]; exact iG (fun d _ => Fc l d) 8 (Nat.le_refl _)
 have hC8 := dZ hCr
 simp only [← hC] at hli
 obtain ⟨PP, hPP⟩ : ∃ P, P = iV (fD (wZ l)) := ⟨_, rfl⟩
 have hPQ : PP.length = 32 := by rw [hPP]; exact lQ _
 have hPQt : List.take 32 PP = PP := by rw [hPP]; exact mA _
 simp only [← hPP] at hli
 obtain ⟨σ0, hσ0⟩ : ∃ σ0 : St, σ0 = { σ with objs := σ.objs ++ [hH v, PP] } := ⟨_, rfl⟩
 have l0 : σ0.objs.length = σ.objs.length + 2 := by rw [hσ0]; simp
 have hnew : aE Tryz.prog 13 [] σ0 (fun av σ' => av = .ptr (σ.objs.length + 2) 0 ∧ σ' = Sp σ0 fP []) := by rw [← l0]; exact Cz
 obtain ⟨X0, hX0⟩ : ∃ X, X = wdC tb0 [] pw0 := ⟨_, rfl⟩
 obtain ⟨X1, hX1⟩ : ∃ X, X = wdC tb0 [v] pw0 := ⟨_, rfl⟩
 obtain ⟨X2, hX2⟩ : ∃ X, X = wdC (tbM v.a C) [v] pw0 := ⟨_, rfl⟩
 have en : gR v → oW [] v = ⟨[v], 0⟩ := fun hR => by rw [oW, if_neg (not_not_intro hR)]; rfl
 have c1 : gR v → aE Tryz.prog 14 [.ptr (σ.objs.length + 2) 0, .agg (hH v)] (Sp σ0 fP [X0]) (fun av σ' => ∃ G', eT Rp0 G'.s [v] 1 ∧ av = .v (.int .i64 0) ∧ σ' = Sp σ0 G' [X0]) := fun hR => by
  have := Ef (σ := σ0) (l := [X0]) eT.nil (by omega) hv
  rw [en hR, l0] at this; exact this
 have d1 : gR v → ∀ G, aE Tryz.prog 15 [.ptr (σ.objs.length + 3) 0, .agg (hH v)] (Sp σ0 G [X0]) (fun av σ' => av = .v (.int .i64 0) ∧ σ' = Sp σ0 G [X1]) := fun hR G => by
  have := HU (σ := σ0) (G := G) (L := []) (T := tb0) (W := pw0) (by simp) hv
  rw [en hR, l0, ← hX0, ← hX1] at this; exact this
 have c2 : gR v → ∀ G, eT Rp0 G.s [v] 1 → aE Tryz.prog 16 [.ptr (σ.objs.length + 2) 0, .v (.int .u8 v.a.toNat), .sl 5 (aL C) C.length .shut] (Sp σ0 G [X1]) (fun av σ' => ∃ G', (eT (fun c => pl G'.s.l [c]) G'.s [v] (1 + 16) ∧ gK (fun c => pl G.s.l [c]) G'.s (tbM v.a C) (1 + 16)) ∧ av = .v (.int .i64 0) ∧ σ' = Sp σ0 G' [X1]) := fun hR G hG => by
  have := IV (σ := σ0) (a := v.a) (C := C) (l := [X1]) (tl := .shut) hG (by omega) hR.1 hCr
  rw [l0] at this; exact this
 have d2 : gR v → ∀ G, aE Tryz.prog 18 [.ptr (σ.objs.length + 3) 0, .v (.int .u8 v.a.toNat), .sl 5 (aL C) C.length .shut] (Sp σ0 G [X1]) (fun av σ' => av = .v (.int .i64 0) ∧ σ' = Sp σ0 G [X2]) := fun hR G => by
  have := Ks (σ := σ0) (G := G) (L := [v]) (W := pw0) (a := v.a) hR.1 hCr
  rw [l0, ← hX1, ← hX2] at this; exact this
 obtain ⟨S, hS⟩ : ∃ S, S = m9 [v] v.a t C := ⟨_, rfl⟩
 have hSr : bA S := by rw [hS]; exact BF
 have hS8 := dZ hSr
 have hSw : Au S C := by rw [hS]; exact CN
 have c3 : ∀ (Ru Rv : UInt8 → List Pr) (G : Sg), eT Ru G.s [v] (1 + 16) → gK Rv G.s (tbM v.a C) (1 + 16) → aE Tryz.prog 19 [.ptr (σ.objs.length + 2) 0, .v (.int .u8 v.a.toNat), .v (.int .u64 t)] (Sp σ0 G [X2]) (fun av σ' => av = .sl 5 (aL S) S.length .shut ∧ Sp σ0 G [X2] = σ') := fun Ru Rv G hG hB => by
  have := CM (a := v.a) (t := t) (Sp.has σ0 G [X2]) hG hB (by omega) (by omega) ht
  rw [Fj, ← hS, l0] at this; exact this
 have d3 : gR v → ∀ G, aE Tryz.prog 21 [.ptr (σ.objs.length + 3) 0, .v (.int .u8 v.a.toNat), .v (.int .u64 t)] (Sp σ0 G [X2]) (fun av σ' => av = .sl 5 (aL S) S.length .shut ∧ Sp σ0 G [X2] = σ') := fun hR G => by
  have hx : (Sp σ0 G [X2]).objs[σ0.objs.length + 1]? = some X2 := Sp.sw σ0 G X2 []
  have := Dv (fr := frW (tbM v.a C) [v] pw0) (fb := frW (tbM v.a C) [v] pw0) (L := [v]) (T := tbM v.a C) (a := v.a) (t := t) (by rw [hx, hX2]; rfl) (by rw [hx, hX2]; rfl) (by simp) (fun x h => by simp at h; subst h; exact ⟨pD hR.2.2.2.1 hv.2, hv⟩) (by rw [Fj]; exact hCr) ht
  rw [Fj, ← hS, l0] at this; exact this
 have c4 := fun τ => xX (σ := τ) (l := S) (m := S) (t1 := .shut) (t2 := .shut) (by omega) (by omega)
 simp only [decide_true] at c4
 have c5 := fun τ => Ga (σ := τ) (a := S) (b := C) (ta := .shut) (tb := .shut) hSr hCr
 simp only [hSw, decide_true] at c5
 have hrw : ∀ {P : Program} {z : kV} {N : Nat} {c : Code} {ρ : Nat → AV} {Y : Exit → (Nat → AV) → St → Prop}, Run z P N c ρ (Sp σ0 fP [X0]) Y → Run z P N c ρ { Sp σ0 fP [] with objs := (Sp σ0 fP []).objs ++ [Kt] } Y := fun k => HH σ0 (hX0 ▸ k)
 obtain ⟨B, hB⟩ : ∃ B, B = decide (gR v) := ⟨_, rfl⟩
 obtain ⟨Q, hQ⟩ : ∃ Q, Q = hH v := ⟨_, rfl⟩
 have hbk : { σ with objs := σ.objs ++ [Q, iV (fD (wZ l))] } = σ0 := by rw [hσ0, hQ, hPP]
 have a1 : Q.length = 17 := by rw [hQ]; rfl
 have b1 : List.take 17 Q = Q := List.take_of_length_le (Nat.le_of_eq a1)
 have x0 : ∀ h2 : 0 < Q.length, Q[0]'h2 = .v (.int .u8 (v.a.toNat : Nat)) := fun h2 => by subst hQ; rfl
 have hQo : ∀ nb, bM nb Q = true := fun nb => by rw [hQ]; exact mZ nb v
 rw [← hQ] at hσ0
 simp only [← hQ] at hs
 simp only [← hQ, ← hB] at h2
 simp only [← hQ] at c1 d1
 rw [← hQ]
 have k1 : ∀ G l, (Sp σ0 G l).objs[σ.objs.length]? = some Q := fun G l => by rw [hσ0]; simp [Sp]
 have k1' : ∀ G l (h2 : σ.objs.length < (Sp σ0 G l).objs.length), (Sp σ0 G l).objs[σ.objs.length]'h2 = Q := fun G l h2 => (List.getElem?_eq_some_iff.1 (k1 G l)).2
 have k2 : ∀ G l, (Sp σ0 G l).objs[σ.objs.length + 1]? = some PP := fun G l => by rw [hσ0]; simp [Sp]
 have k2' : ∀ G l (h2 : σ.objs.length + 1 < (Sp σ0 G l).objs.length), (Sp σ0 G l).objs[σ.objs.length + 1]'h2 = PP := fun G l h2 => (List.getElem?_eq_some_iff.1 (k2 G l)).2
 have hn0 : ∀ G l, (Sp σ0 G l).objs.length = σ.objs.length + 2 + (1 + l.length) := fun G l => by rw [Sp.len, l0]
 have hfin : ∀ G l, ∃ L r, Sp σ0 G l = { σ with objs := σ.objs ++ L, rows := σ.rows ++ r } := fun G l => by
  rw [hσ0]; exact ⟨_, _, by simp only [Sp, List.append_assoc]; rfl⟩
 have F := And.intro hPl (And.intro hPt (And.intro hPd (And.intro hPc (And.intro hPn (And.intro hlc (And.intro hPQ (And.intro hPQt (And.intro a1 (And.intro b1 (And.intro x0 (And.intro hQo (And.intro k1 (And.intro k1' (And.intro k2 (And.intro k2' (And.intro hn0 (True.intro)))))))))))))))))
 refine aB Tryz.func4 rfl rfl rfl ?_; refine sr fun _ hJ2 => ?_; apply hJ2; refine sq fun K3 hK3 => ?_; refine sr fun _ hJ5 => ?_; refine ca (c := xA) (k := ?_); rintro _ _ ⟨rfl, rfl⟩; (try simp [F]); refine go2 (k := ?_); refine ca (c := hs _) (k := ?_); rintro _ _ ⟨b, rfl, rfl⟩; (try simp [F]); refine go2 (k := ?_); refine gs 19 (fun g1_7 => ?_) (fun g1_7 => ?_)
 · all_goals
    replace F := aF g1_7 F; (iterate 6 refine no2 (k := ?_)); apply hJ5; refine ct ?_; refine sr fun _ hJ7 => ?_; refine ca (c := xA) (k := ?_); rintro _ _ ⟨rfl, rfl⟩; (try simp [F]); apply hJ7; refine ra ?_; exact gcr
 all_goals
  replace F := aF g1_7 F; (iterate 3 refine go2 (k := ?_)); refine gs 24 (fun g1_12 => ?_) (fun g1_12 => ?_)
  · all_goals
     replace F := aF g1_12 F; (iterate 3 refine no2 (k := ?_)); apply hJ5; refine ct ?_; refine sr fun _ hJ9 => ?_; refine ca (c := xA) (k := ?_); rintro _ _ ⟨rfl, rfl⟩; (try simp [F]); apply hJ9; refine ra ?_; exact gcr
  all_goals
   replace F := aF g1_12 F; refine go2 (k := ?_); refine ca (c := h2 _) (k := ?_); rintro _ _ ⟨rfl, rfl⟩; (try simp [F]); refine go2 (k := ?_); apply hJ5; refine cs (fun c28 => ?_) (fun c28 => ?_)
   · all_goals
      replace F := aF c28 F; refine sr fun _ hJ11 => ?_; refine ca (c := xA) (k := ?_); rintro _ _ ⟨rfl, rfl⟩; (try simp [F]); apply hJ11; refine ra ?_; exact gcr
   all_goals
    replace F := aF c28 F
    have hR : gR v := by have h := c28; rw [hB] at h; simp at h; first | exact h | exact h.2
    refine aA ?_; apply hK3; refine sr fun _ hJ13 => ?_; apply hJ13; refine sq fun K14 hK14 => ?_; refine sr fun _ hJ16 => ?_; apply hJ16; refine aD ?_; refine cK (X := Nat) [1, 2, 3, 6, 7] (fun i ρ σ1 => (i ≤ l.length) ∧ (ρ 8 = .v (.int .i64 i)) ∧ (σ1 = { σ with objs := σ.objs ++ [Q,  iV (fD (wZ (l.take i)))] })) (fun i => l.length - i) (0) ?st1 ?rd1
    case st1 =>
     refine ⟨lp, lp, ?_⟩
     · simp only [List.take_zero, show wZ [] = fun _ => 0 from rfl, rZ]
    case rd1 =>
     rintro i ρ1 σ1 hF1 ⟨hi, h4, hσ⟩; obtain rfl := hσ.symm
     have f1 := dU hF1
     (try simp [dT, F] at f1); replace F := aF h4 F; (try replace F := aF f1 F); refine sq fun K17 hK17 => ?_; refine sr fun _ hJ19 => ?_; apply hJ19; refine cs (fun c33 => ?_) (fun c33 => ?_)
     · all_goals
        replace F := aF c33 F
        have hlt : i < l.length := by have h := c33; simp at h; omega
        obtain ⟨c, hc⟩ : ∃ c, c = l[i] := ⟨_, rfl⟩
        have hat := gG hlt
        simp only [dX] at hat
        rw [← hc] at hat
        have hb1 : i * 5 + 5 ≤ l.length * 5 := by omega
        have htk : l.take (i + 1) = l.take i ++ [c] := by rw [hc]; exact (List.take_append_getElem hlt).symm
        have hr8 : ∀ xo yo, iM Tryz.prog .rem 5 xo yo (.v (.int .u8 (c.d.toNat : Nat))) (.v (.int .u8 8)) = some (.v (.int .u8 ((c.d.toNat % 8 : Nat) : Int))) := fun xo yo => JG c.d 8 (by decide) xo yo
        have hsn := Fw (l.take i) c
        rw [← htk] at hsn
        obtain ⟨d, hd⟩ : ∃ d, d = c.d.toNat % 8 := ⟨_, rfl⟩
        have hd8 : d < 8 := by omega
        have hd5 : (d : Int) < 8 := by omega
        have hb2 : d * 4 + 4 ≤ 32 := by omega
        simp only [← hd] at hr8 hsn
        obtain ⟨g, hg⟩ : ∃ g, g = wZ (l.take i) := ⟨_, rfl⟩
        have hset := oM (P := fD g) (d := d) (by simpa using hd8) c.n.v
        rw [oX] at hset
        have hnx : fD (fun j => if j = d then c.n.v else g j) = fD (wZ (l.take (i + 1))) := by rw [hsn, hg]
        rw [hnx] at hset
        rw [← hg]
        have hi1 : i + 1 ≤ l.length := hlt
        have hwi : IntKind.i64.wrap ((i : Int) + 1) = (i : Int) + 1 := wrap_i64 _ (by omega) (by omega)
        replace F := aF hlt (And.intro hb1 (And.intro hr8 (And.intro hd8 (And.intro hd5 (And.intro hb2 (And.intro hset (And.intro hi1 (And.intro hwi (And.intro hat F))))))))); refine aA ?_; apply hK17; refine sq fun K20 hK20 => ?_; refine aD ?_
        refine bI (by kernel_rfl) fun J21 hJ21 => ?_
        refine q2 0 ?_; refine q2 1 ?_; refine q2 2 ?_; refine q2 3 ?_; refine q2 4 ?_; refine q2 5 ?_; refine q2 6 ?_; refine q2 7 ?_; refine q2 8 ?_; refine q2 9 ?_; refine q2 10 ?_; refine q2 11 ?_; refine dop 12 rfl ?_; (try simp [F]); refine ⟨ln, ?_⟩; refine dd ?_; apply hJ21; apply hK20; refine rg' (h := fun J22 hJ22 => ?_); apply hJ22; refine ⟨(i + 1), ⟨kp, lp, lp, lp⟩, lp⟩
     all_goals
      replace F := aF c33 F
      have hii : i = l.length := by have h := c33; simp at h; omega
      rw [hii, List.take_length, hbk]
      refine bJ ?_; apply hK14; refine sr fun _ hJ24 => ?_; refine ca (c := hnew) (k := ?_); rintro _ _ ⟨rfl, rfl⟩; (try simp [F]); apply hJ24; refine sq fun K25 hK25 => ?_; refine sq fun K26 hK26 => ?_; refine hrw ?_
      refine bI (by kernel_rfl) fun J27 hJ27 => ?_
      refine q2 0 ?_; refine q2 1 ?_; refine q2 3 ?_; refine q2 4 ?_; refine dc 2 rfl (c := c1 hR) (k := ?_); rintro _ _ ⟨G1, e1, rfl, rfl⟩
      refine ⟨by first | exact fun _ _ h => h | (refine aH [4, 3] (by kernel_rfl) ?_; (repeat' first | exact ln2 | refine lc ?_ ?_) <;> constructor <;> first | rfl | (simp [F]; done)), ?_⟩
      (try simp [F]); refine dc 5 rfl (c := d1 hR G1) (k := ?_); rintro _ _ ⟨rfl, rfl⟩; refine ⟨ln, ?_⟩; (try simp [F]); refine q2 6 ?_; refine q2 7 ?_; refine q2 8 ?_; refine q2 9 ?_; refine q2 10 ?_; refine q2 11 ?_; refine q2 14 ?_; refine q2 15 ?_; refine q2 16 ?_; refine q2 17 ?_; refine dc 12 rfl (c := hli _) (k := ?_); rintro _ _ ⟨rfl, rfl⟩
      refine ⟨by first | exact fun _ _ h => h | (refine aH [17, 16, 15, 14, 10, 9, 8, 6] (by kernel_rfl) ?_; (repeat' first | exact ln2 | refine lc ?_ ?_) <;> constructor <;> first | rfl | (simp [F]; done)), ?_⟩
      (try simp [F]); refine dc 13 rfl (c := c2 hR G1 e1) (k := ?_); rintro _ _ ⟨G2, ⟨e2, b2⟩, rfl, rfl⟩
      refine ⟨by first | exact fun _ _ h => h | (refine aH [17, 16, 15, 14, 9, 6] (by kernel_rfl) ?_; (repeat' first | exact ln2 | refine lc ?_ ?_) <;> constructor <;> first | rfl | (simp [F]; done)), ?_⟩
      (try simp [F]); refine dc 18 rfl (c := hli _) (k := ?_); rintro _ _ ⟨rfl, rfl⟩
      refine ⟨by first | exact fun _ _ h => h | (refine aH [16, 15, 14, 9, 6] (by kernel_rfl) ?_; (repeat' first | exact ln2 | refine lc ?_ ?_) <;> constructor <;> first | rfl | (simp [F]; done)), ?_⟩
      (try simp [F]); refine dc 19 rfl (c := d2 hR G2) (k := ?_); rintro _ _ ⟨rfl, rfl⟩
      refine ⟨by first | exact fun _ _ h => h | (refine aH [15, 9, 6] (by kernel_rfl) ?_; (repeat' first | exact ln2 | refine lc ?_ ?_) <;> constructor <;> first | rfl | (simp [F]; done)), ?_⟩
      (try simp [F]); refine q2 20 ?_; refine q2 21 ?_; refine dd ?_; apply hJ27; apply hK26; refine cf ?_; refine aA ?_; apply hK25; refine sr fun _ hJ29 => ?_; refine ca (c := c3 _ _ G2 e2 b2) (k := ?_); rintro _ _ ⟨rfl, rfl⟩; (try simp [F]); apply hJ29; refine sr fun _ hJ31 => ?_; refine ca (c := d3 hR G2) (k := ?_); rintro _ _ ⟨rfl, rfl⟩; (try simp [F]); refine ca (c := c4 _) (k := ?_); rintro _ _ ⟨rfl, rfl⟩; (try simp [F]); (iterate 2 refine go2 (k := ?_)); refine ca (c := hli _) (k := ?_); rintro _ _ ⟨rfl, rfl⟩; (try simp [F]); refine ca (c := c5 _) (k := ?_); rintro _ _ ⟨rfl, rfl⟩; (try simp [F]); apply hJ31; refine ra ?_
      obtain ⟨L, r, hL⟩ := hfin G2 _
      rw [hL]
      exact gcr
end Go.Proofs.YtjpnjhlfieklfaaGreat
