import Derived.Test.YtjpnjhlfieklfaaGreatZ7
import Derived.Test.YtjpnjhlfieklfaaGreatZ18
/-
  The laws PersonActs, PersonRights, PersonNil.
-/
namespace Go.Proofs.YtjpnjhlfieklfaaGreat
set_option maxHeartbeats 1600000
set_option linter.unnecessarySimpa false
set_option maxRecDepth 100000
open Go Go.Vm
set_option linter.unusedSimpArgs false
set_option linter.unusedVariables false
attribute [local simp] dK aJ dJ opA bD bH cJ bP ofValue dC plain aR aS bY b6 cA cC b7 cE b8 b9 cX cB cH cG cD bU aV aU bL cS aW dN dP bI bC cN gI bR dD bW AV.cells AV.bA dE cI e6 bF aY cQ dI dS dY cL aO dR dQ cW cU cM List.getElem?_cons_zero List.getElem?_cons_succ fK fI fH fG fN fM fJ fL dF eT eF eZ cV
variable {Ru : UInt8 → List Pr}

def c5 : bB := ⟨1, ⟨5, by decide⟩⟩

def c7 : bB := ⟨1, ⟨7, by decide⟩⟩

def a5 : Acc := ⟨1, 0, 1, ⟨2, 0, 9, [c5], []⟩, 0, Num.zero, Num.zero⟩

def lP : List AV := [.v (.int .u8 1), .v (.int .u64 0), .v (.int .u8 1), .v (.int .u8 2), .v (.int .u64 0), .v (.int .u64 9), .sl 5 [.v (.int .u8 1), .v (.int .u64 5), .v (.int .u64 0), .v (.int .u64 0), .v (.int .u64 0)] 1 .full, .sl 0 [] 0 .full, .v (.int .u8 0), .v (.int .u64 0), .v (.int .u64 0), .v (.int .u64 0), .v (.int .u64 0), .v (.int .u64 0), .v (.int .u64 0), .v (.int .u64 0), .v (.int .u64 0)]

theorem Ej : Wk (.agg lP) (.agg (dM a5)) := by
 have e : dM a5 = [.v (.int .u8 1), .v (.int .u64 0), .v (.int .u8 1), .v (.int .u8 2), .v (.int .u64 0), .v (.int .u64 9), .sl 5 [.v (.int .u8 1), .v (.int .u64 5), .v (.int .u64 0), .v (.int .u64 0), .v (.int .u64 0)] 1 .shut, .sl 2 [] 0 .shut, .v (.int .u8 0), .v (.int .u64 0), .v (.int .u64 0), .v (.int .u64 0), .v (.int .u64 0), .v (.int .u64 0), .v (.int .u64 0), .v (.int .u64 0), .v (.int .u64 0)] := by simp [dM, a5, c5, Num.zero, dL, aL, dV, aP, eN]
 rw [e]
 exact WkL.agg (.cons (Wk.refl _) (.cons (Wk.refl _) (.cons (Wk.refl _) (.cons (Wk.refl _) (.cons (Wk.refl _) (.cons (Wk.refl _) (.cons (Wk.shut _ _ _ _) (.cons (Wk.nil _ _ _) (WkL.refl _)))))))))

theorem Ac {d : UInt8} {x : Num} (h1 : d.toNat < 8) (h2 : x.v ≠ 0) : bM [⟨d, x⟩] := iA (l := []) |>.2 ⟨Go.Vm.gV, ⟨h1, h2⟩, fun b hb => absurd hb (by simp)⟩

theorem CT : bM [c5] := Ac (by decide) (by decide)

theorem By : bM [c7] := Ac (by decide) (by decide)

theorem Am : fB a5 := by
 refine ⟨by decide, by decide, by decide, ?_, .inl rfl, .inr (by decide)⟩
 have h := CT
 simp [bJ, a5, h]

theorem JX : a5.Ok := ⟨by decide, by decide, by decide, by simp [a5], by simp [a5], fun x h => absurd h (by simp [a5])⟩

theorem KD : nK [] a5 = ⟨[a5], 0⟩ := by rw [nK, if_neg (not_not_intro Am)]; rfl

theorem II : nK [a5] a5 = ⟨[a5], 9⟩ := by rw [nK, if_neg (not_not_intro Am)]; rfl

theorem GM : tY [a5] 1 8 [c7] = [⟨1, Num.of 2⟩] := by
 rw [← xU By]
 have hl : pA [a5] 1 8 = [c5] := by
  show pD [c5] (fY ⟨2, 0, 9, [c5], []⟩ 8) = [c5]
  have hv : fY ⟨2, 0, 9, [c5], []⟩ 8 = [] := by simp [fY]
  rw [hv]; exact FH CT
 have hk : rE [a5] 1 = 0 := rfl
 rw [hl, hk]
 have hg : spG [c5] 0 1 7 = 2 := by simp [spG, spN, amt, c5]
 simp only [mR, List.flatMap_cons, List.flatMap_nil, List.append_nil]
 show j1 1 (Num.of (spG [c5] 0 1 7)) = _
 rw [hg]; rfl

theorem j6 {σ : St} : aB Tryz.prog 9 [] σ (fun av σ' => av = .v (.bool true) ∧ σ = σ') := by
 refine aM ?_ rfl
 have k1 : aB Tryz.prog 14 [.ptr σ.objs.length 0, .agg lP] (Sp σ eM [lP]) (fun av σ' => ∃ G', dH Rp0 G'.s [a5] 1 ∧ av = .v (.int .i64 0) ∧ σ' = Sp σ G' [lP]) := by
  have := DK (σ := σ) (v := a5) (l := [lP]) dH.nil (by omega) JX
  rw [KD] at this
  exact iS (.cons (Wk.refl _) (.cons Ej .nil)) this
 have k2 : ∀ G, dH Rp0 G.s [a5] 1 → aB Tryz.prog 16 [.ptr σ.objs.length 0, .v (.int .u8 1), .sl 5 [.v (.int .u8 1), .v (.int .u64 7), .v (.int .u64 0), .v (.int .u64 0), .v (.int .u64 0)] 1 .full] (Sp σ G [lP]) (fun av σ' => ∃ G', (dH (fun c => pl G'.s.l [c]) G'.s [a5] (1 + 16) ∧ gC (fun c => pl G.s.l [c]) G'.s (tbM 1 [c7]) (1 + 16)) ∧ av = .v (.int .i64 0) ∧ σ' = Sp σ G' [lP]) := fun G hG => by
  have := Ii (σ := σ) (a := 1) (C := [c7]) (l := [lP]) (tl := .full) hG (by omega) (by decide) By
  simpa [aL, dV, aP, dL, c7] using this
 have k3 : ∀ (Ru Rv : UInt8 → List Pr) (G : Sg), dH Ru G.s [a5] (1 + 16) → gC Rv G.s (tbM 1 [c7]) (1 + 16) → aB Tryz.prog 19 [.ptr σ.objs.length 0, .v (.int .u8 1), .v (.int .u64 8)] (Sp σ G [lP]) (fun av σ' => av = .sl 5 [.v (.int .u8 1), .v (.int .u64 2), .v (.int .u64 0), .v (.int .u64 0), .v (.int .u64 0)] 1 .shut ∧ Sp σ G [lP] = σ') := fun Ru Rv G hG hB => by
  have := CG (a := 1) (t := 8) (Sp.has σ G [lP]) hG hB (by omega) (by omega) (by decide)
  rw [JU, GM] at this
  have e : aL [(⟨1, Num.of 2⟩ : bB)] = [.v (.int .u8 1), .v (.int .u64 2), .v (.int .u64 0), .v (.int .u64 0), .v (.int .u64 0)] := by simp [aL, dV, aP, dL]
  rw [e] at this; exact this
 have k4 : ∀ (Ru : UInt8 → List Pr) (G : Sg), dH Ru G.s [a5] (1 + 16) → aB Tryz.prog 14 [.ptr σ.objs.length 0, .agg lP] (Sp σ G [lP]) (fun av σ' => ∃ G', dH Ru G'.s [a5] (1 + 16 + 1) ∧ av = .v (.int .i64 9) ∧ σ' = Sp σ G' [lP]) := fun Ru G hG => by
  have := DK (σ := σ) (v := a5) (l := [lP]) hG (by omega) JX
  rw [II] at this
  exact iS (.cons (Wk.refl _) (.cons Ej .nil)) this
 have hlen := Sp.len σ
 have hapx := Sp.app σ
 have g1 : ∀ G x l, (Sp σ G (x :: l)).objs[σ.objs.length + 1]? = some x := fun G x l => by simp [Sp]
 have g2 : ∀ G x l (h2 : σ.objs.length + 1 < (Sp σ G (x :: l)).objs.length), (Sp σ G (x :: l)).objs[σ.objs.length + 1]'h2 = x := fun G x l h2 => (List.getElem?_eq_some_iff.1 (g1 G x l)).2
 have hX : lP = [.v (.int .u8 1), .v (.int .u64 0), .v (.int .u8 1), .v (.int .u8 2), .v (.int .u64 0), .v (.int .u64 9), .sl 5 [.v (.int .u8 1), .v (.int .u64 5), .v (.int .u64 0), .v (.int .u64 0), .v (.int .u64 0)] 1 .full, .sl 0 [] 0 .full, .v (.int .u8 0), .v (.int .u64 0), .v (.int .u64 0), .v (.int .u64 0), .v (.int .u64 0), .v (.int .u64 0), .v (.int .u64 0), .v (.int .u64 0), .v (.int .u64 0)] := rfl
 obtain ⟨X, hXe⟩ : ∃ X, X = lP := ⟨_, rfl⟩
 have hXl : X.length = 17 := by rw [hXe]; rfl
 have hXt : List.take 17 X = X := by subst hXe; rfl
 have hXf : [.v (.int .u8 1), .v (.int .u64 0), .v (.int .u8 1), .v (.int .u8 2), .v (.int .u64 0), .v (.int .u64 9), .sl 5 [.v (.int .u8 1), .v (.int .u64 5), .v (.int .u64 0), .v (.int .u64 0), .v (.int .u64 0)] 1 .full, .sl 0 [] 0 .full, .v (.int .u8 0), .v (.int .u64 0), .v (.int .u64 0), .v (.int .u64 0), .v (.int .u64 0), .v (.int .u64 0), .v (.int .u64 0), .v (.int .u64 0), .v (.int .u64 0)] = X := by rw [hXe, hX]
 simp only [← hXe] at k1 k2 k3 k4
 have F := And.intro hlen (And.intro g1 (And.intro g2 (And.intro hXl (And.intro hXt (True.intro)))))
 refine aA Tryz.func9 rfl rfl rfl ?_; refine sr fun _ hJ2 => ?_; apply hJ2; refine sr fun _ hJ4 => ?_; refine ca (c := tX) (k := ?_); rintro _ _ ⟨rfl, rfl⟩; (repeat first | simp [F] | simp (disch := omega) only [wC, if_pos, if_neg]); apply hJ4; refine sr fun _ hJ6 => ?_; apply hJ6; refine sq fun K7 hK7 => ?_; refine sq fun K8 hK8 => ?_
 rw [hXf, hapx]
 refine rg' (h := fun J9 hJ9 => ?_); refine ca (c := k1) (k := ?_); rintro _ _ ⟨G1, e1, rfl, rfl⟩; (repeat first | simp [F] | simp (disch := omega) only [wC, if_pos, if_neg]); (iterate 4 refine go2 (k := ?_)); refine ca (c := k2 G1 e1) (k := ?_); rintro _ _ ⟨G2, ⟨e2, b2⟩, rfl, rfl⟩; (repeat first | simp [F] | simp (disch := omega) only [wC, if_pos, if_neg]); refine go2 (k := ?_); apply hJ9; apply hK8; refine cf ?_; refine aD ?_; apply hK7; refine sr fun _ hJ11 => ?_; refine ca (c := k3 _ _ G2 e2 b2) (k := ?_); rintro _ _ ⟨rfl, rfl⟩; (repeat first | simp [F] | simp (disch := omega) only [wC, if_pos, if_neg]); apply hJ11; refine sr fun _ hJ13 => ?_; (iterate 8 refine go2 (k := ?_)); refine ca (c := k4 _ G2 e2) (k := ?_); rintro _ _ ⟨G3, e3, rfl, rfl⟩; (repeat first | simp [F] | simp (disch := omega) only [wC, if_pos, if_neg]); refine go2 (k := ?_); apply hJ13; refine ra ?_; simp only [Sp]
 exact gcr

theorem HN {σ : St} {n : Nat} {G : Sg} {L : List Acc} {T : Tb} {W : Pw} {a : AcA} (hi : dH Ru G.s L n) (hn : n ≤ 900) (ha : a.x.Ok) :
  aB Tryz.prog 28 [.ptr σ.objs.length 0, .ptr (σ.objs.length + 1) 0, .agg (aaC a)] (Sp σ G [wdC T L W]) (fun av σ' => ∃ G' L', dH Ru G'.s L' (n + 1) ∧ av = .v (.bool true) ∧ σ' = Sp σ G' [wdC T L' W]) :=
 bV (FP (fr := frW T L W) (Sp.has σ G [wdC T L W]) (Sp.sw σ G _ _) (by omega) hi hn ha) (fun av σ' ⟨G', L', e1, e2, e3⟩ => ⟨G', L', e1, e2, by rw [e3, Sp.put, Sp.sA, KO]⟩)

structure FA where
 i : Nat
 G : Sg
 L : List Acc

theorem zF {σ : St} {l : List AcA} (hl : l.length ≤ 9223372036854775807) (hb : ∀ a ∈ l, a.x.Ok) :
  aB Tryz.prog 7 [.sl 18 (AX l) l.length .shut] σ (fun av σ' => av = .v (.bool true) ∧ σ = σ') := by
 refine aM ?_ rfl
 have hlc := Cg l
 have hlen := Sp.len σ
 have F := And.intro hlc (And.intro hlen (True.intro))
 refine aA Tryz.func7 rfl rfl rfl ?_; refine sr fun _ hJ2 => ?_; apply hJ2; refine sq fun K3 hK3 => ?_; refine sr fun _ hJ5 => ?_; refine ca (c := j6) (k := ?_); rintro _ _ ⟨rfl, rfl⟩; (repeat first | simp [F] | simp (disch := omega) only [wC, if_pos, if_neg]); refine go2 (k := ?_); refine ca (c := GQ hl hb) (k := ?_); rintro _ _ ⟨b, hbf, rfl, rfl⟩; (repeat first | simp [F] | simp (disch := omega) only [wC, if_pos, if_neg]); refine go2 (k := ?_); apply hJ5; refine cs (fun c12 => ?_) (fun c12 => ?_)
 · (try exact aG c12); all_goals have c12p := c12; try simp [F] at c12p
   all_goals
    replace F := aF c12 F; (try replace F := aF c12p F); refine sr fun _ hJ7 => ?_; refine ca (c := j6) (k := ?_); rintro _ _ ⟨rfl, rfl⟩; (repeat first | simp [F] | simp (disch := omega) only [wC, if_pos, if_neg]); apply hJ7; refine ra ?_; exact gcr
 (try exact aG c12); all_goals have c12p := c12; try simp [F] at c12p
 all_goals
  replace F := aF c12 F; try replace F := aF c12p F
  have h30 : l.length ≤ 20 := hbf (by have h := c12; simpa using h)
  refine aD ?_; apply hK3; refine sr fun _ hJ9 => ?_; refine ca (c := tX) (k := ?_); rintro _ _ ⟨rfl, rfl⟩; (repeat first | simp [F] | simp (disch := omega) only [wC, if_pos, if_neg]); apply hJ9; refine sq fun K10 hK10 => ?_; refine sq fun K11 hK11 => ?_; refine Hx σ ?_; refine rg' (h := fun J12 hJ12 => ?_); apply hJ12; apply hK11; refine aH ?_; refine cZ (X := FA) [0, 3, 4] (fun x ρ σ1 => (x.i ≤ l.length) ∧ (dH Rp0 x.G.s x.L x.i) ∧ (ρ 5 = .v (.int .i64 x.i)) ∧ (σ1 = Sp σ x.G [wdC tb0 x.L pw0])) (fun x => l.length - x.i) (⟨0, eM, []⟩) ?st1 ?rd1
  case st1 =>
   refine ⟨lp, ?_, lp, lp⟩
   · exact dH.nil
  case rd1 =>
   rintro x ρ1 σ1 hF1 ⟨h1, h2, h5, hσ⟩; obtain rfl := hσ.symm
   have f1 := dX hF1
   (try simp [dW, F] at f1); replace F := aF h5 F; (try replace F := aF f1 F); refine sq fun K13 hK13 => ?_; refine sr fun _ hJ15 => ?_; apply hJ15; refine cs (fun c20 => ?_) (fun c20 => ?_)
   · (try exact aG c20); all_goals have c20p := c20; try simp [F] at c20p
     all_goals
      replace F := aF c20 F; try replace F := aF c20p F
      have hlt : x.i < l.length := by have h := c20; simp at h; omega
      obtain ⟨R, hR⟩ := EF hlt
      obtain ⟨a, ha⟩ : ∃ a, a = l[x.i] := ⟨_, rfl⟩
      rw [← ha] at hR
      have hao : a.x.Ok := hb a (by rw [ha]; exact List.getElem_mem _)
      have hR3 : List.take 18 (List.drop (x.i * 18) (AX l)) = aaC a := by rw [hR]; exact List.take_left' (Bm a)
      have d3 : x.i * 18 + 18 ≤ l.length * 18 := by omega
      have hi1 : x.i + 1 ≤ l.length := hlt
      have hwi : IntKind.i64.wrap ((x.i : Int) + 1) = (x.i : Int) + 1 := wrap_i64 _ (by omega) (by omega)
      have k2 := HN (σ := σ) (T := tb0) (W := pw0) h2 (by omega) hao
      have hcl : (∀ x, x ∈ aaC a → x.bA = true) = True := eq_true (KS a)
      have hAl : (aaC a).length = 18 := rfl
      have hAt : List.take 18 (aaC a) = aaC a := List.take_of_length_le (Nat.le_of_eq hAl)
      obtain ⟨A, hA⟩ : ∃ A, A = aaC a := ⟨_, rfl⟩
      rw [← hA] at hR3 hcl hAl hAt k2
      simp only [AV.bA] at hcl
      replace F := aF hlt (And.intro hR3 (And.intro d3 (And.intro hi1 (And.intro hwi (And.intro hcl (And.intro hAl (And.intro hAt F))))))); refine aD ?_; apply hK13; refine sq fun K16 hK16 => ?_; refine aH ?_; refine sr fun _ hJ18 => ?_; refine ca (c := k2) (k := ?_); rintro _ _ ⟨G1, L1, e1, rfl, rfl⟩; (repeat first | simp [F] | simp (disch := omega) only [wC, if_pos, if_neg]); iterate 2 refine go2 (k := ?_)
      refine ca (c := FW (fr := frW tb0 L1 pw0) (Sp.has σ G1 [wdC tb0 L1 pw0]) (Sp.sw σ G1 _ _) e1 (by omega)) (k := ?_)
      rintro _ _ ⟨rfl, rfl⟩; (repeat first | simp [F] | simp (disch := omega) only [wC, if_pos, if_neg]); refine go2 (k := ?_); apply hJ18; refine cf ?_; refine aD ?_; apply hK16; refine rg' (h := fun J19 hJ19 => ?_); apply hJ19; refine ⟨(⟨x.i + 1, G1, L1⟩), ⟨kp, lp, ?_, lp, lp⟩, lp⟩
      · exact e1
   (try exact aG c20); all_goals have c20p := c20; try simp [F] at c20p
   all_goals
    replace F := aF c20 F; (try replace F := aF c20p F); refine bO ?_; apply hK10; refine sr fun _ hJ21 => ?_; apply hJ21; refine ra ?_; simp only [Sp]
    exact gcr

theorem vW {σ : St} {v : Acc} (hv : v.Ok) :
  aB Tryz.prog 3 [.agg (dM v)] σ (fun av σ' => av = .v (.bool true) ∧ σ = σ') := by
 refine aM ?_ rfl
 have hs := fun τ => r6 (σ := τ) hv
 have h1 := fun τ => As (σ := τ) hv
 have h2 := fun τ => m5 (σ := τ) hv
 obtain ⟨B, hB⟩ : ∃ B, B = decide (fB v) := ⟨_, rfl⟩
 obtain ⟨Q, hQ⟩ : ∃ Q, Q = dM v := ⟨_, rfl⟩
 have hQl : Q.length = 17 := by rw [hQ]; rfl
 have hQt : List.take 17 Q = Q := by subst hQ; rfl
 simp only [← hQ] at hs
 simp only [← hQ, ← hB] at h1 h2
 rw [← hQ]
 have F := And.intro hQl (And.intro hQt (True.intro))
 refine aA Tryz.func3 rfl rfl rfl ?_; refine sr fun _ hJ2 => ?_; apply hJ2; refine sq fun K3 hK3 => ?_; refine sr fun _ hJ5 => ?_; refine ca (c := j6) (k := ?_); rintro _ _ ⟨rfl, rfl⟩; (repeat first | simp [F] | simp (disch := omega) only [wC, if_pos, if_neg]); refine go2 (k := ?_); refine ca (c := hs _) (k := ?_); rintro _ _ ⟨b, rfl, rfl⟩; (repeat first | simp [F] | simp (disch := omega) only [wC, if_pos, if_neg]); refine go2 (k := ?_); apply hJ5; refine cs (fun c9 => ?_) (fun c9 => ?_)
 · (try exact aG c9); all_goals have c9p := c9; try simp [F] at c9p
   all_goals
    replace F := aF c9 F; (try replace F := aF c9p F); refine sr fun _ hJ7 => ?_; refine ca (c := j6) (k := ?_); rintro _ _ ⟨rfl, rfl⟩; (repeat first | simp [F] | simp (disch := omega) only [wC, if_pos, if_neg]); apply hJ7; refine ra ?_; exact gcr
 (try exact aG c9); all_goals have c9p := c9; try simp [F] at c9p
 all_goals
  replace F := aF c9 F; (try replace F := aF c9p F); refine aD ?_; apply hK3; refine sq fun K8 hK8 => ?_
  refine bQ (by kernel_rfl) fun J9 hJ9 => ?_
  refine q2 0 ?_; refine q2 2 ?_; refine dc 1 rfl (c := h1 _) (k := ?_); rintro _ _ ⟨rfl, rfl⟩
  refine ⟨by first | exact fun _ _ h => h | (refine aI [2] (by kernel_rfl) ?_; (repeat' first | exact ln2 | refine lc ?_ ?_) <;> constructor <;> first | rfl | (simp [F]; done)), ?_⟩
  (repeat first | simp [F] | simp (disch := omega) only [wC, if_pos, if_neg]); refine dc 3 rfl (c := h2 _) (k := ?_); rintro _ _ ⟨rfl, rfl⟩; refine ⟨ln, ?_⟩; (repeat first | simp [F] | simp (disch := omega) only [wC, if_pos, if_neg]); refine q2 4 ?_; refine q2 5 ?_; refine dd ?_; apply hJ9; apply hK8; refine ra ?_; exact gcr

theorem AT {σ : St} {v : Acc} {t : Nat} (hv : v.Ok) (ht : t < 2 ^ 64) :
  aB Tryz.prog 8 [.agg (dM v), .v (.int .u64 t)] σ (fun av σ' => av = .v (.bool true) ∧ σ = σ') := by
 refine aM ?_ rfl
 have hs := fun τ => r6 (σ := τ) hv
 have n1 := fun τ => Cf (σ := τ) (a := v.a)
 have n2 := fun τ => FT (σ := τ) (a := v.a) ht
 have n3 := fun τ => BT (σ := τ) (v := v)
 have n4 := fun τ => Io (σ := τ) (v := v)
 have n5 := fun τ => Gw (σ := τ) (a := v.a)
 have z1 : mG.length = 17 := rfl
 have z2 := yM
 simp only [AV.bA] at z2
 have z3 : List.take 17 mG = mG := rfl
 obtain ⟨Z, hZ⟩ : ∃ Z, Z = mG := ⟨_, rfl⟩
 simp only [← hZ] at n1 z1 z2 z3
 obtain ⟨Q, hQ⟩ : ∃ Q, Q = dM v := ⟨_, rfl⟩
 have hQl : Q.length = 17 := by rw [hQ]; rfl
 have hQt : List.take 17 Q = Q := by subst hQ; rfl
 have hQ0 : ∀ h2 : 0 < Q.length, Q[0]'h2 = .v (.int .u8 (v.a.toNat : Nat)) := fun h2 => by subst hQ; rfl
 simp only [← hQ] at hs n3 n4
 rw [← hQ]
 have F := And.intro hQl (And.intro hQt (And.intro hQ0 (And.intro z1 (And.intro z2 (And.intro z3 (True.intro))))))
 refine aA Tryz.func8 rfl rfl rfl ?_; refine sr fun _ hJ2 => ?_; apply hJ2; refine sq fun K3 hK3 => ?_; refine sr fun _ hJ5 => ?_; refine ca (c := j6) (k := ?_); rintro _ _ ⟨rfl, rfl⟩; (repeat first | simp [F] | simp (disch := omega) only [wC, if_pos, if_neg]); refine go2 (k := ?_); refine ca (c := hs _) (k := ?_); rintro _ _ ⟨b, rfl, rfl⟩; (repeat first | simp [F] | simp (disch := omega) only [wC, if_pos, if_neg]); refine go2 (k := ?_); apply hJ5; refine cs (fun c13 => ?_) (fun c13 => ?_)
 · (try exact aG c13); all_goals have c13p := c13; try simp [F] at c13p
   all_goals
    replace F := aF c13 F; (try replace F := aF c13p F); refine sr fun _ hJ7 => ?_; refine ca (c := j6) (k := ?_); rintro _ _ ⟨rfl, rfl⟩; (repeat first | simp [F] | simp (disch := omega) only [wC, if_pos, if_neg]); apply hJ7; refine ra ?_; exact gcr
 (try exact aG c13); all_goals have c13p := c13; try simp [F] at c13p
 all_goals
  replace F := aF c13 F; (try replace F := aF c13p F); refine aD ?_; apply hK3; refine sr fun _ hJ9 => ?_; refine ca (c := n1 _) (k := ?_); rintro _ _ ⟨rfl, rfl⟩; (repeat first | simp [F] | simp (disch := omega) only [wC, if_pos, if_neg]); apply hJ9; refine sq fun K10 hK10 => ?_
  refine bQ (by kernel_rfl) fun J11 hJ11 => ?_
  refine q2 0 ?_; refine q2 1 ?_; refine q2 2 ?_; refine q2 5 ?_; refine q2 6 ?_; refine q2 7 ?_; refine dc 3 rfl (c := Gk) (k := ?_); rintro _ _ ⟨rfl, rfl⟩
  refine ⟨by first | exact fun _ _ h => h | (refine aI [7, 6, 5, 1, 0] (by kernel_rfl) ?_; (repeat' first | exact ln2 | refine lc ?_ ?_) <;> constructor <;> first | rfl | (simp [F]; done)), ?_⟩
  (repeat first | simp [F] | simp (disch := omega) only [wC, if_pos, if_neg]); refine q2 4 ?_; refine dc 8 rfl (c := n2 _) (k := ?_); rintro _ _ ⟨rfl, rfl⟩
  refine ⟨by first | exact fun _ _ h => h | (refine aI [4, 5, 1, 0] (by kernel_rfl) ?_; (repeat' first | exact ln2 | refine lc ?_ ?_) <;> constructor <;> first | rfl | (simp [F]; done)), ?_⟩
  (repeat first | simp [F] | simp (disch := omega) only [wC, if_pos, if_neg]); refine q2 9 ?_; refine q2 10 ?_; refine q2 11 ?_; refine q2 12 ?_; refine q2 13 ?_; refine q2 14 ?_; refine dc 15 rfl (c := n3 _) (k := ?_); rintro _ _ ⟨rfl, rfl⟩
  refine ⟨by first | exact fun _ _ h => h | (refine aI [12, 11, 10, 9, 4, 5, 1, 0] (by kernel_rfl) ?_; (repeat' first | exact ln2 | refine lc ?_ ?_) <;> constructor <;> first | rfl | (simp [F]; done)), ?_⟩
  (repeat first | simp [F] | simp (disch := omega) only [wC, if_pos, if_neg]); refine q2 16 ?_; refine q2 17 ?_; refine q2 18 ?_; refine q2 19 ?_; refine dc 20 rfl (c := n4 _) (k := ?_); rintro _ _ ⟨rfl, rfl⟩
  refine ⟨by first | exact fun _ _ h => h | (refine aI [17, 16, 12, 11, 10, 9, 4, 5, 1, 0] (by kernel_rfl) ?_; (repeat' first | exact ln2 | refine lc ?_ ?_) <;> constructor <;> first | rfl | (simp [F]; done)), ?_⟩
  (repeat first | simp [F] | simp (disch := omega) only [wC, if_pos, if_neg]); refine q2 21 ?_; refine q2 22 ?_; refine q2 23 ?_; refine q2 24 ?_; refine q2 25 ?_; refine dc 26 rfl (c := n5 _) (k := ?_); rintro _ _ ⟨rfl, rfl⟩
  refine ⟨by first | exact fun _ _ h => h | (refine aI [24, 22, 21, 17, 16, 12, 11, 10, 9, 4, 5, 1, 0] (by kernel_rfl) ?_; (repeat' first | exact ln2 | refine lc ?_ ?_) <;> constructor <;> first | rfl | (simp [F]; done)), ?_⟩
  (repeat first | simp [F] | simp (disch := omega) only [wC, if_pos, if_neg]); refine q2 27 ?_; refine q2 28 ?_; refine q2 29 ?_; refine dd ?_; apply hJ11; apply hK10; refine ra ?_; exact gcr

end Go.Proofs.YtjpnjhlfieklfaaGreat
