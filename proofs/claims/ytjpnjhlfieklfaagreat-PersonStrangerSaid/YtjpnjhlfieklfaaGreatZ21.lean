import Derived.Test.YtjpnjhlfieklfaaGreatZ7
import Derived.Test.YtjpnjhlfieklfaaGreatZ19
/-
  The laws PersonThere, PersonSpends, PersonStranger.
-/
namespace Go.Proofs.YtjpnjhlfieklfaaGreat
set_option maxHeartbeats 1600000
set_option linter.unnecessarySimpa false
set_option maxRecDepth 100000
set_option linter.unusedSimpArgs false
set_option linter.unusedVariables false
open Go Go.Vm
attribute [local simp] dK aJ dJ opA bD bH cJ bP ofValue dC plain aR aS bY b6 cA cC b7 cE b8 b9 cX cB cH cG cD bU aV aU bL cS aW dN dP bI bC cN gI bR dD bW AV.cells AV.bA dE cI e6 bF aY cQ dI dS dY cL aO dR dQ cW cU cM List.getElem?_cons_zero List.getElem?_cons_succ fK fI fH fG fN fM fJ fL dF eT eF eZ cV

theorem wZ {σ : St} {v : Acc} (hv : v.Ok) :
  aB Tryz.prog 6 [.agg (dM v)] σ (fun av σ' => av = .v (.bool true) ∧ σ = σ') := by
 refine aM ?_ rfl
 have hs := fun τ => r6 (σ := τ) hv
 have h2 := fun τ => m5 (σ := τ) hv
 obtain ⟨q, hq⟩ : ∃ q, q = (v.q + 1) % 2 ^ 64 := ⟨_, rfl⟩
 obtain ⟨w, hw⟩ : ∃ w : Acc, w = { v with q := q } := ⟨_, rfl⟩
 have hwo : w.Ok := by rw [hw]; exact ⟨by rw [hq]; exact Nat.mod_lt _ (by decide), hv.2⟩
 have hwr : fB v → fB w := fun h => by rw [hw]; exact h
 have hwa : w.a = v.a := by rw [hw]
 have hwq : IntKind.u64.wrap ((v.q : Int) + 1) = (q : Int) := by rw [hq, show ((v.q : Int) + 1) = ((v.q + 1 : Nat) : Int) by omega, wrap_u64]
 obtain ⟨σ0, hσ0⟩ : ∃ σ0 : St, σ0 = { σ with objs := σ.objs ++ [dM v] } := ⟨_, rfl⟩
 obtain ⟨σ1, hσ1⟩ : ∃ σ1 : St, σ1 = { σ with objs := σ.objs ++ [dM w] } := ⟨_, rfl⟩
 have l0 : σ0.objs.length = σ.objs.length + 1 := by rw [hσ0]; simp
 have l1 : σ1.objs.length = σ.objs.length + 1 := by rw [hσ1]; simp
 have hnew : aB Tryz.prog 13 [] σ0 (fun av σ' => av = .ptr (σ.objs.length + 1) 0 ∧ σ' = Sp σ0 eM []) := by rw [← l0]; exact tX
 have c1 : fB v → aB Tryz.prog 14 [.ptr (σ.objs.length + 1) 0, .agg (dM v)] (Sp σ0 eM []) (fun av σ' => ∃ G', dH Rp0 G'.s [v] 1 ∧ av = .v (.int .i64 0) ∧ σ' = Sp σ0 G' []) := fun hR => by
  have := DK (σ := σ0) (l := []) dH.nil (by omega) hv
  have e : nK [] v = ⟨[v], 0⟩ := by rw [nK, if_neg (not_not_intro hR)]; rfl
  rw [e, l0] at this; exact this
 have c2 : fB v → ∀ G, dH Rp0 G.s [v] 1 → aB Tryz.prog 23 [.ptr (σ.objs.length + 1) 0, .v (.int .u8 v.a.toNat)] (Sp σ0 G []) (fun av σ' => av = .tup [.agg (dM v), .v (.bool true)] ∧ Sp σ0 G [] = σ') := fun hR G hG => by
  have := pQ (v := v) (Sp.has σ0 G []) hG.ok (by omega) (hG.Fl (by simp)) hR.2.2.2.1 hv.1 (hG.yes (by simp))
  rw [l0] at this; exact this
 have c3 : fB v → ∀ G X, dH Rp0 G.s [v] 1 → aB Tryz.prog 24 [.ptr (σ.objs.length + 1) 0, .agg (dM w)] (Sp σ1 G [X]) (fun av σ' => ∃ G', dH Rp0 G'.s [w] (1 + 1) ∧ av = .v (.int .i64 0) ∧ σ' = Sp σ1 G' [X]) := fun hR G X hG => by
  have := Kt (σ := σ1) (l := [X]) hG (by omega) hwo
  have hh : lT [v] w.a = true := by rw [hwa]; simp [lT, jY]
  have e : mV [v] w = ⟨[w], 0⟩ := by rw [mV, if_neg (not_not_intro (hwr hR)), if_pos hh, lW, if_pos hwa.symm]
  rw [e, l1] at this; exact this
 have c4 : fB v → ∀ G X, dH Rp0 G.s [w] (1 + 1) → aB Tryz.prog 23 [.ptr (σ.objs.length + 1) 0, .v (.int .u8 v.a.toNat)] (Sp σ1 G [X]) (fun av σ' => av = .tup [.agg (dM w), .v (.bool true)] ∧ Sp σ1 G [X] = σ') := fun hR G X hG => by
  have := pQ (v := w) (Sp.has σ1 G [X]) hG.ok (by omega) (hG.Fl (by simp)) (hwr hR).2.2.2.1 hwo.1 (hG.yes (by simp))
  rw [l1, hwa] at this; exact this
 have c5 := fun τ => wT (σ := τ) hwo
 have c6 := fun τ => yO (σ := τ) hv.2 hv.2
 simp only [decide_true] at c6
 obtain ⟨M, hM⟩ : ∃ M, M = iR v.p := ⟨_, rfl⟩
 obtain ⟨B, hB⟩ : ∃ B, B = decide (fB v) := ⟨_, rfl⟩
 obtain ⟨Q, hQ⟩ : ∃ Q, Q = dM v := ⟨_, rfl⟩
 obtain ⟨Q1, hQ1⟩ : ∃ Q, Q = dM w := ⟨_, rfl⟩
 have a1 : Q.length = 17 := by rw [hQ]; rfl
 have a2 : Q1.length = 17 := by rw [hQ1]; rfl
 have b1 : List.take 17 Q = Q := List.take_of_length_le (Nat.le_of_eq a1)
 have b2 : List.take 17 Q1 = Q1 := List.take_of_length_le (Nat.le_of_eq a2)
 have x0 : ∀ h2 : 0 < Q.length, Q[0]'h2 = .v (.int .u8 (v.a.toNat : Nat)) := fun h2 => by subst hQ; rfl
 have x1 : ∀ h2 : 1 < Q.length, Q[1]'h2 = .v (.int .u64 (v.q : Nat)) := fun h2 => by subst hQ; rfl
 have y0 : ∀ h2 : 0 < Q1.length, Q1[0]'h2 = .v (.int .u8 (v.a.toNat : Nat)) := fun h2 => by subst hQ1; rw [← hwa]; rfl
 have y1 : ∀ h2 : 1 < Q1.length, Q1[1]'h2 = .v (.int .u64 (q : Nat)) := fun h2 => by subst hQ1 hw; rfl
 have m1 : List.take 5 (List.drop 3 Q) = M := by rw [hQ, hM]; rfl
 have m2 : List.take 5 (List.drop 3 Q1) = M := by rw [hQ1, hM, hw]; rfl
 have s1 : List.take 1 Q ++ AV.v (.int .u64 (q : Int)) :: List.drop 2 Q = Q1 := by rw [hQ, hQ1, hw]; rfl
 have xc : (∀ x, x ∈ Q → x.bA = true) = True := eq_true (by rw [hQ]; exact sK _)
 have yc : (∀ x, x ∈ Q1 → x.bA = true) = True := eq_true (by rw [hQ1]; exact sK _)
 simp only [AV.bA] at xc yc
 rw [← hQ] at hσ0
 rw [← hQ1] at hσ1
 simp only [← hQ] at hs
 simp only [← hQ, ← hB] at h2
 simp only [← hQ] at c1 c2
 simp only [← hQ1] at c3 c4 c5
 simp only [← hM] at c6
 rw [← hQ]
 have hbk : { σ with objs := σ.objs ++ [Q] } = σ0 := hσ0.symm
 have k1 : ∀ G l, (Sp σ0 G l).objs[σ.objs.length]? = some Q := fun G l => by rw [hσ0]; simp [Sp]
 have k4 : ∀ G l, (Sp σ1 G l).objs[σ.objs.length]? = some Q1 := fun G l => by rw [hσ1]; simp [Sp]
 have k6 : ∀ G x l, (Sp σ1 G (x :: l)).objs[σ.objs.length + 2]? = some x := fun G x l => by rw [hσ1]; simp [Sp]
 have k7 : ∀ G x y, (Sp σ1 G [x, y]).objs[σ.objs.length + 3]? = some y := fun G x y => by rw [hσ1]; simp [Sp]
 have k1' : ∀ G l (h2 : σ.objs.length < (Sp σ0 G l).objs.length), (Sp σ0 G l).objs[σ.objs.length]'h2 = Q := fun G l h2 => (List.getElem?_eq_some_iff.1 (k1 G l)).2
 have k4' : ∀ G l (h2 : σ.objs.length < (Sp σ1 G l).objs.length), (Sp σ1 G l).objs[σ.objs.length]'h2 = Q1 := fun G l h2 => (List.getElem?_eq_some_iff.1 (k4 G l)).2
 have k6' : ∀ G x l (h2 : σ.objs.length + 2 < (Sp σ1 G (x :: l)).objs.length), (Sp σ1 G (x :: l)).objs[σ.objs.length + 2]'h2 = x := fun G x l h2 => (List.getElem?_eq_some_iff.1 (k6 G x l)).2
 have k7' : ∀ G x y (h2 : σ.objs.length + 3 < (Sp σ1 G [x, y]).objs.length), (Sp σ1 G [x, y]).objs[σ.objs.length + 3]'h2 = y := fun G x y h2 => (List.getElem?_eq_some_iff.1 (k7 G x y)).2
 have hset : ∀ G l, { Sp σ0 G l with objs := (Sp σ0 G l).objs.set σ.objs.length Q1 } = Sp σ1 G l := fun G l => by rw [hσ0, hσ1]; simp [Sp]
 have hn0 : ∀ G l, (Sp σ0 G l).objs.length = σ.objs.length + 1 + (1 + l.length) := fun G l => by rw [Sp.len, l0]
 have hn1 : ∀ G l, (Sp σ1 G l).objs.length = σ.objs.length + 1 + (1 + l.length) := fun G l => by rw [Sp.len, l1]
 have hapx := Sp.app σ0
 have hapy := Sp.app σ1
 have hfin : ∀ G l, ∃ L r, Sp σ1 G l = { σ with objs := σ.objs ++ L, rows := σ.rows ++ r } := fun G l => by
  rw [hσ1]; exact ⟨_, _, by simp only [Sp, List.append_assoc]; rfl⟩
 have F := And.intro a1 (And.intro a2 (And.intro b1 (And.intro b2 (And.intro x0 (And.intro x1 (And.intro y0 (And.intro y1 (And.intro m1 (And.intro m2 (And.intro s1 (And.intro xc (And.intro yc (And.intro hwq (And.intro k1 (And.intro k4 (And.intro k6 (And.intro k7 (And.intro k1' (And.intro k4' (And.intro k6' (And.intro k7' (And.intro hn0 (And.intro hn1 (True.intro))))))))))))))))))))))))
 refine aA Tryz.func6 rfl rfl rfl ?_; refine sr fun _ hJ2 => ?_; apply hJ2; refine sq fun K3 hK3 => ?_; refine sr fun _ hJ5 => ?_; refine ca (c := j6) (k := ?_); rintro _ _ ⟨rfl, rfl⟩; (repeat first | simp [F] | simp (disch := omega) only [wC, if_pos, if_neg]); refine go2 (k := ?_); refine ca (c := hs _) (k := ?_); rintro _ _ ⟨b, rfl, rfl⟩; (repeat first | simp [F] | simp (disch := omega) only [wC, if_pos, if_neg]); refine go2 (k := ?_); refine gs 17 (fun g1_7 => ?_) (fun g1_7 => ?_)
 · (try exact aG g1_7); all_goals have g1_7p := g1_7; try simp [F] at g1_7p
   all_goals
    replace F := aF g1_7 F; (try replace F := aF g1_7p F); (iterate 3 refine no2 (k := ?_)); apply hJ5; refine ct ?_; refine sr fun _ hJ7 => ?_; refine ca (c := j6) (k := ?_); rintro _ _ ⟨rfl, rfl⟩; (repeat first | simp [F] | simp (disch := omega) only [wC, if_pos, if_neg]); apply hJ7; refine ra ?_; exact gcr
 (try exact aG g1_7); all_goals have g1_7p := g1_7; try simp [F] at g1_7p
 all_goals
  replace F := aF g1_7 F; (try replace F := aF g1_7p F); refine go2 (k := ?_); refine ca (c := h2 _) (k := ?_); rintro _ _ ⟨rfl, rfl⟩; (repeat first | simp [F] | simp (disch := omega) only [wC, if_pos, if_neg]); refine go2 (k := ?_); apply hJ5; refine cs (fun c21 => ?_) (fun c21 => ?_)
  · (try exact aG c21); all_goals have c21p := c21; try simp [F] at c21p
    all_goals
     replace F := aF c21 F; (try replace F := aF c21p F); refine sr fun _ hJ9 => ?_; refine ca (c := j6) (k := ?_); rintro _ _ ⟨rfl, rfl⟩; (repeat first | simp [F] | simp (disch := omega) only [wC, if_pos, if_neg]); apply hJ9; refine ra ?_; exact gcr
  (try exact aG c21); all_goals have c21p := c21; try simp [F] at c21p
  all_goals
   replace F := aF c21 F; try replace F := aF c21p F
   have hR : fB v := by have h := c21; rw [hB] at h; simp at h; first | exact h | exact h.2
   refine aD ?_; apply hK3; refine sq fun K10 hK10 => ?_
   rw [hbk]
   refine rg' (h := fun J11 hJ11 => ?_); refine ca (c := hnew) (k := ?_); rintro _ _ ⟨rfl, rfl⟩; (repeat first | simp [F] | simp (disch := omega) only [wC, if_pos, if_neg]); apply hJ11; apply hK10; refine sr fun _ hJ13 => ?_; refine ca (c := c1 hR) (k := ?_); rintro _ _ ⟨G1, e1, rfl, rfl⟩; (repeat first | simp [F] | simp (disch := omega) only [wC, if_pos, if_neg]); apply hJ13; refine sr fun _ hJ15 => ?_; refine ca (c := c2 hR G1 e1) (k := ?_); rintro _ _ ⟨rfl, rfl⟩; (repeat first | simp [F] | simp (disch := omega) only [wC, if_pos, if_neg]); apply hJ15; refine sq fun K16 hK16 => ?_
   rw [hapx]
   refine rg' (h := fun J17 hJ17 => ?_); apply hJ17; apply hK16; refine sq fun K18 hK18 => ?_
   rw [hset]
   refine rg' (h := fun J19 hJ19 => ?_); refine ca (c := c3 hR G1 _ e1) (k := ?_); rintro _ _ ⟨G2, e2, rfl, rfl⟩; (repeat first | simp [F] | simp (disch := omega) only [wC, if_pos, if_neg]); apply hJ19; apply hK18; refine sr fun _ hJ21 => ?_; refine ca (c := c4 hR G2 _ e2) (k := ?_); rintro _ _ ⟨rfl, rfl⟩; (repeat first | simp [F] | simp (disch := omega) only [wC, if_pos, if_neg]); apply hJ21; refine sq fun K22 hK22 => ?_
   rw [hapy]
   refine rg' (h := fun J23 hJ23 => ?_); (iterate 12 refine go2 (k := ?_)); refine ca (c := c5 _) (k := ?_); rintro _ _ ⟨rfl, rfl⟩; (repeat first | simp [F] | simp (disch := omega) only [wC, if_pos, if_neg]); (iterate 4 refine go2 (k := ?_)); refine ca (c := c6 _) (k := ?_); rintro _ _ ⟨rfl, rfl⟩; (repeat first | simp [F] | simp (disch := omega) only [wC, if_pos, if_neg]); apply hJ23; apply hK22; refine ra ?_
   obtain ⟨L, r, hL⟩ := hfin G2 _
   rw [hL]
   exact gcr

theorem Cs {a : UInt8} {t : Nat} {C : List bB} (h : bM C) : tY [] a t C = C := by
 have : tY [] a t C = gH (amt C) 8 := jA (fun i _ => by show spN _ (amt [] i) _ = _; simp [spN, amt])
 rw [this]; exact nV h

theorem r8 {σ : St} {w : UInt8} {l : List bB} {t : Nat} (hl : l.length ≤ 9223372036854775807) (ht : t < 2 ^ 64) :
  aB Tryz.prog 5 [.v (.int .u8 w.toNat), .sl 5 (aL l) l.length .shut, .v (.int .u64 t)] σ (fun av σ' => av = .v (.bool true) ∧ σ = σ') := by
 refine aM ?_ rfl
 have hPl := q6
 have hPt := s8
 have hPd := yI
 have hPc := El
 simp only [AV.bA] at hPc
 have hPn : ∀ n g, bG n (kU (iT g)) = true := fun n g => xX n _
 have hlc := xV l
 have hli := fun τ => B5 (σ := τ) (f := vZ l) (fun d _ => ED l d)
 obtain ⟨C, hC⟩ : ∃ C, C = gH (vZ l) 8 := ⟨_, rfl⟩
 have hCr : bM C := by rw [hC]; exact iZ (fun d _ => ED l d) 8 (Nat.le_refl _)
 have hC8 := eI hCr
 simp only [← hC] at hli
 obtain ⟨PP, hPP⟩ : ∃ P, P = kU (iT (vZ l)) := ⟨_, rfl⟩
 have hQl : PP.length = 32 := by rw [hPP]; exact q6 _
 have hQt : List.take 32 PP = PP := by rw [hPP]; exact s8 _
 obtain ⟨σ0, hσ0⟩ : ∃ σ0 : St, σ0 = { σ with objs := σ.objs ++ [PP] } := ⟨_, rfl⟩
 have hbk : { σ with objs := σ.objs ++ [kU (iT (vZ l))] } = σ0 := by rw [hσ0, hPP]
 simp only [← hPP] at hli
 have l0 : σ0.objs.length = σ.objs.length + 1 := by rw [hσ0]; simp
 have hnew : aB Tryz.prog 13 [] σ0 (fun av σ' => av = .ptr (σ.objs.length + 1) 0 ∧ σ' = Sp σ0 eM []) := by rw [← l0]; exact tX
 have c1 : aB Tryz.prog 23 [.ptr (σ.objs.length + 1) 0, .v (.int .u8 w.toNat)] (Sp σ0 eM []) (fun av σ' => av = .tup [.agg mG, .v (.bool false)] ∧ Sp σ0 eM [] = σ') := by
  have hn : eX eM.s.l (jX w) = none := dH.nil.no (fun x h => absurd h (by simp))
  have := EL (a := w) (Sp.has σ0 eM []) tA (by omega) hn
  rw [l0] at this; exact this
 have c2 : ∀ X, w.toNat < 200 → aB Tryz.prog 16 [.ptr (σ.objs.length + 1) 0, .v (.int .u8 w.toNat), .sl 5 (aL C) C.length .shut] (Sp σ0 eM [X]) (fun av σ' => ∃ G', (dH (fun c => pl G'.s.l [c]) G'.s [] (0 + 16) ∧ gC (fun c => pl eM.s.l [c]) G'.s (tbM w C) (0 + 16)) ∧ av = .v (.int .i64 0) ∧ σ' = Sp σ0 G' [X]) := fun X hw => by
  have := Ii (σ := σ0) (a := w) (C := C) (l := [X]) (tl := .shut) dH.nil (by omega) hw hCr
  rw [l0] at this; exact this
 have c3 : ∀ X (Ru Rv : UInt8 → List Pr) (G : Sg), dH Ru G.s [] (0 + 16) → gC Rv G.s (tbM w C) (0 + 16) → aB Tryz.prog 19 [.ptr (σ.objs.length + 1) 0, .v (.int .u8 w.toNat), .v (.int .u64 t)] (Sp σ0 G [X]) (fun av σ' => av = .sl 5 (aL C) C.length .shut ∧ Sp σ0 G [X] = σ') := fun X Ru Rv G hG hB => by
  have := CG (a := w) (t := t) (Sp.has σ0 G [X]) hG hB (by omega) (by omega) ht
  rw [JU, Cs hCr, l0] at this; exact this
 have c4 := fun τ => pZ (σ := τ) (l := C) (m := C) (t1 := .shut) (t2 := .shut) (by omega) (by omega)
 simp only [decide_true] at c4
 have z1 : mG.length = 17 := rfl
 have z2 := yM
 simp only [AV.bA] at z2
 have z3 : List.take 17 mG = mG := rfl
 obtain ⟨Z, hZ⟩ : ∃ Z, Z = mG := ⟨_, rfl⟩
 simp only [← hZ] at c1 z1 z2 z3
 have k1 : ∀ G l, (Sp σ0 G l).objs[σ.objs.length]? = some PP := fun G l => by rw [hσ0]; simp [Sp]
 have k1' : ∀ G l (h2 : σ.objs.length < (Sp σ0 G l).objs.length), (Sp σ0 G l).objs[σ.objs.length]'h2 = PP := fun G l h2 => (List.getElem?_eq_some_iff.1 (k1 G l)).2
 have hn0 : ∀ G l, (Sp σ0 G l).objs.length = σ.objs.length + 1 + (1 + l.length) := fun G l => by rw [Sp.len, l0]
 have hapx := Sp.app σ0
 have hfin : ∀ G l, ∃ L r, Sp σ0 G l = { σ with objs := σ.objs ++ L, rows := σ.rows ++ r } := fun G l => by
  rw [hσ0]; exact ⟨_, _, by simp only [Sp, List.append_assoc]; rfl⟩
 have F := And.intro hPl (And.intro hPt (And.intro hPd (And.intro hPc (And.intro hPn (And.intro hlc (And.intro hQl (And.intro hQt (And.intro z1 (And.intro z2 (And.intro z3 (And.intro k1 (And.intro k1' (And.intro hn0 (True.intro))))))))))))))
 refine aA Tryz.func5 rfl rfl rfl ?_; refine sr fun _ hJ2 => ?_; apply hJ2; refine sq fun K3 hK3 => ?_; refine sr fun _ hJ5 => ?_; refine ca (c := j6) (k := ?_); rintro _ _ ⟨rfl, rfl⟩; (repeat first | simp [F] | simp (disch := omega) only [wC, if_pos, if_neg]); (iterate 3 refine go2 (k := ?_)); refine gs 19 (fun g1_7 => ?_) (fun g1_7 => ?_)
 · (try exact aG g1_7); all_goals have g1_7p := g1_7; try simp [F] at g1_7p
   all_goals
    replace F := aF g1_7 F; (try replace F := aF g1_7p F); (iterate 2 refine no2 (k := ?_)); apply hJ5; refine ct ?_; refine sr fun _ hJ7 => ?_; refine ca (c := j6) (k := ?_); rintro _ _ ⟨rfl, rfl⟩; (repeat first | simp [F] | simp (disch := omega) only [wC, if_pos, if_neg]); apply hJ7; refine ra ?_; exact gcr
 (try exact aG g1_7); all_goals have g1_7p := g1_7; try simp [F] at g1_7p
 all_goals
  replace F := aF g1_7 F; (try replace F := aF g1_7p F); (iterate 2 refine go2 (k := ?_)); apply hJ5; refine cs (fun c22 => ?_) (fun c22 => ?_)
  · (try exact aG c22); all_goals have c22p := c22; try simp [F] at c22p
    all_goals
     replace F := aF c22 F; (try replace F := aF c22p F); refine sr fun _ hJ9 => ?_; refine ca (c := j6) (k := ?_); rintro _ _ ⟨rfl, rfl⟩; (repeat first | simp [F] | simp (disch := omega) only [wC, if_pos, if_neg]); apply hJ9; refine ra ?_; exact gcr
  (try exact aG c22); all_goals have c22p := c22; try simp [F] at c22p
  all_goals
   replace F := aF c22 F; try replace F := aF c22p F
   have hw : w.toNat < 200 := by have h := c22; simp at h; omega
   refine aD ?_; apply hK3; refine sr fun _ hJ11 => ?_; apply hJ11; refine sq fun K12 hK12 => ?_; refine sr fun _ hJ14 => ?_; apply hJ14; refine aH ?_; refine cZ (X := Nat) [0, 1, 2, 6, 7] (fun i ρ σ1 => (i ≤ l.length) ∧ (ρ 8 = .v (.int .i64 i)) ∧ (σ1 = { σ with objs := σ.objs ++ [ kU (iT (vZ (l.take i)))] })) (fun i => l.length - i) (0) ?st1 ?rd1
   case st1 =>
    refine ⟨lp, lp, ?_⟩
    · simp only [List.take_zero, show vZ [] = fun _ => 0 from rfl, Ad]
   case rd1 =>
    rintro i ρ1 σ1 hF1 ⟨hi, h4, hσ⟩; obtain rfl := hσ.symm
    have f1 := dX hF1
    (try simp [dW, F] at f1); replace F := aF h4 F; (try replace F := aF f1 F); refine sq fun K15 hK15 => ?_; refine sr fun _ hJ17 => ?_; apply hJ17; refine cs (fun c27 => ?_) (fun c27 => ?_)
    · (try exact aG c27); all_goals have c27p := c27; try simp [F] at c27p
      all_goals
       replace F := aF c27 F; try replace F := aF c27p F
       have hlt : i < l.length := by have h := c27; simp at h; omega
       obtain ⟨c, hc⟩ : ∃ c, c = l[i] := ⟨_, rfl⟩
       have hat := gD hlt
       simp only [dV] at hat
       rw [← hc] at hat
       have hb1 : i * 5 + 5 ≤ l.length * 5 := by omega
       have htk : l.take (i + 1) = l.take i ++ [c] := by rw [hc]; exact (List.take_append_getElem hlt).symm
       have hr8 : ∀ xo yo, gW Tryz.prog .rem 5 xo yo (.v (.int .u8 (c.d.toNat : Nat))) (.v (.int .u8 8)) = some (.v (.int .u8 ((c.d.toNat % 8 : Nat) : Int))) := fun xo yo => I0 c.d 8 (by decide) xo yo
       have hsn := Gf (l.take i) c
       rw [← htk] at hsn
       obtain ⟨d, hd⟩ : ∃ d, d = c.d.toNat % 8 := ⟨_, rfl⟩
       have hd8 : d < 8 := by omega
       have hd5 : (d : Int) < 8 := by omega
       have hb2 : d * 4 + 4 ≤ 32 := by omega
       simp only [← hd] at hr8 hsn
       obtain ⟨g, hg⟩ : ∃ g, g = vZ (l.take i) := ⟨_, rfl⟩
       have hset := x9 (P := iT g) (d := d) (by simpa using hd8) c.n.v
       rw [yA] at hset
       have hnx : iT (fun j => if j = d then c.n.v else g j) = iT (vZ (l.take (i + 1))) := by rw [hsn, hg]
       rw [hnx] at hset
       rw [← hg]
       have hi1 : i + 1 ≤ l.length := hlt
       have hwi : IntKind.i64.wrap ((i : Int) + 1) = (i : Int) + 1 := wrap_i64 _ (by omega) (by omega)
       replace F := aF hlt (And.intro hb1 (And.intro hr8 (And.intro hd8 (And.intro hd5 (And.intro hb2 (And.intro hset (And.intro hi1 (And.intro hwi (And.intro hat F))))))))); refine aD ?_; apply hK15; refine sq fun K18 hK18 => ?_; refine aH ?_
       refine bQ (by kernel_rfl) fun J19 hJ19 => ?_
       refine q2 0 ?_; refine q2 1 ?_; refine q2 2 ?_; refine q2 3 ?_; refine q2 4 ?_; refine q2 5 ?_; refine q2 6 ?_; refine q2 7 ?_; refine q2 8 ?_; refine q2 9 ?_; refine q2 10 ?_; refine q2 11 ?_; refine dop 12 rfl ?_; (repeat first | simp [F] | simp (disch := omega) only [wC, if_pos, if_neg]); refine ⟨ln, ?_⟩; refine dd ?_; apply hJ19; apply hK18; refine rg' (h := fun J20 hJ20 => ?_); apply hJ20; refine ⟨(i + 1), ⟨kp, lp, lp, lp⟩, lp⟩
    (try exact aG c27); all_goals have c27p := c27; try simp [F] at c27p
    all_goals
     replace F := aF c27 F; try replace F := aF c27p F
     have hii : i = l.length := by have h := c27; simp at h; omega
     rw [hii, List.take_length, hbk]
     refine bO ?_; apply hK12; refine sr fun _ hJ22 => ?_; refine ca (c := hnew) (k := ?_); rintro _ _ ⟨rfl, rfl⟩; (repeat first | simp [F] | simp (disch := omega) only [wC, if_pos, if_neg]); apply hJ22; refine sr fun _ hJ24 => ?_; refine ca (c := c1) (k := ?_); rintro _ _ ⟨rfl, rfl⟩; (repeat first | simp [F] | simp (disch := omega) only [wC, if_pos, if_neg]); apply hJ24; refine sq fun K25 hK25 => ?_
     rw [hapx]
     refine bQ (by kernel_rfl) fun J26 hJ26 => ?_
     refine q2 0 ?_; refine q2 1 ?_; refine q2 2 ?_; refine dc 3 rfl (c := hli _) (k := ?_); rintro _ _ ⟨rfl, rfl⟩
     refine ⟨bS (by kernel_rfl), ?_⟩
     (repeat first | simp [F] | simp (disch := omega) only [wC, if_pos, if_neg]); refine dc 4 rfl (c := c2 _ hw) (k := ?_); rintro _ _ ⟨G1, ⟨e1, b1⟩, rfl, rfl⟩; refine ⟨ln, ?_⟩; (repeat first | simp [F] | simp (disch := omega) only [wC, if_pos, if_neg]); refine q2 5 ?_; refine q2 6 ?_; refine q2 7 ?_; refine q2 8 ?_; refine q2 9 ?_; refine q2 10 ?_; refine q2 11 ?_; refine q2 12 ?_; refine q2 13 ?_; refine q2 15 ?_; refine dc 14 rfl (c := c3 _ _ _ G1 e1 b1) (k := ?_); rintro _ _ ⟨rfl, rfl⟩
     refine ⟨by first | exact fun _ _ h => h | (refine aI [15, 9, 8, 7, 6, 5] (by kernel_rfl) ?_; (repeat' first | exact ln2 | refine lc ?_ ?_) <;> constructor <;> first | rfl | (simp [F]; done)), ?_⟩
     (repeat first | simp [F] | simp (disch := omega) only [wC, if_pos, if_neg]); refine dc 16 rfl (c := hli _) (k := ?_); rintro _ _ ⟨rfl, rfl⟩
     refine ⟨by first | exact fun _ _ h => h | (refine aI [9, 8, 7, 6, 5] (by kernel_rfl) ?_; (repeat' first | exact ln2 | refine lc ?_ ?_) <;> constructor <;> first | rfl | (simp [F]; done)), ?_⟩
     (repeat first | simp [F] | simp (disch := omega) only [wC, if_pos, if_neg]); refine dc 17 rfl (c := c4 _) (k := ?_); rintro _ _ ⟨rfl, rfl⟩
     refine ⟨by first | exact fun _ _ h => h | (refine aI [9, 8, 7, 6, 5] (by kernel_rfl) ?_; (repeat' first | exact ln2 | refine lc ?_ ?_) <;> constructor <;> first | rfl | (simp [F]; done)), ?_⟩
     (repeat first | simp [F] | simp (disch := omega) only [wC, if_pos, if_neg]); refine q2 18 ?_; refine q2 19 ?_; refine dd ?_; apply hJ26; apply hK25; refine ra ?_
     obtain ⟨L, r, hL⟩ := hfin G1 _
     rw [hL]
     exact gcr

end Go.Proofs.YtjpnjhlfieklfaaGreat
