import Derived.Test.YtjpnjhlfieklfaaGreatZ7
import Derived.Test.YtjpnjhlfieklfaaGreatZ15
import Derived.Test.YtjpnjhlfieklfaaGreatZ12
import Derived.Test.YtjpnjhlfieklfaaGreatZ11
set_option linter.unnecessarySimpa false
set_option maxRecDepth 100000
set_option linter.unusedSimpArgs false
set_option linter.unusedVariables false
namespace Go.Proofs.YtjpnjhlfieklfaaGreat
set_option maxHeartbeats 1600000
open Go Go.Vm
attribute [local simp] dM aI dJ opA bH bN cM bP ofValue dC plain aQ aR cA b8 cC cB bY b7 b9 bZ cV bW cG cD b6 bU aT aS bO cU aW dQ dR bK aZ cL gA bS dE cF AV.cells AV.bL dF cO eZ bF aV cQ dI dS dV cN aN dP dO cW cT cI List.getElem?_cons_zero List.getElem?_cons_succ fK fL fH fG fJ fM fI fF dL eQ eB fB dA
variable {Ru : UInt8 → List Pr}
attribute [local simp] aM in
theorem Cd {σ : St} {o k n x : Nat} {G : Sg} {K : List UInt8} {t : eO} (h : gT σ o k G) (hG : G.s.Ok n) (hn : n ≤ 900000) (hg : fN G.s.l K = enc x) (hx : x < 2 ^ 256) :
  aE Tryz.prog 74 [.ptr o 0, .sl 1 (aY K) K.length t] σ (fun av σ' => av = .agg (aM x) ∧ σ = σ') := by
 refine aU ?_ rfl
 have hge := fun l => BK (key := K) (t1 := t) (h.app l σ.toks) hG (by omega)
 rw [hg] at hge
 obtain ⟨P, hP⟩ : ∃ P, P = (enc x).getD [] := ⟨_, rfl⟩
 have hrd := fun τ => yF (σ := τ) (p := P)
 have hnp : numOf P = x := by rw [hP]; exact Kg hx
 simp only [hnp] at hrd
 rw [← hP] at hge
 obtain ⟨b, hb⟩ : ∃ b, b = (enc x).isSome := ⟨_, rfl⟩
 rw [← hb] at hge
 have F := True.intro
 refine aB Tryz.func74 rfl rfl rfl ?_; refine sr fun _ hJ2 => ?_; apply hJ2; refine sr fun _ hJ4 => ?_; refine ca (c := hge _) (k := ?_); rintro _ _ ⟨rfl, rfl⟩; (try simp [F]); apply hJ4; refine sr fun _ hJ6 => ?_; refine ca (c := hrd _) (k := ?_); rintro _ _ ⟨rfl, rfl⟩; (try simp [F]); apply hJ6; refine sr fun _ hJ8 => ?_; apply hJ8; refine bQ ?_; (try simp only [eD, bG, bV]); refine j1 (h := ?_); exact gcr
theorem FL {σ : St} {o k n x : Nat} {G : Sg} {K : List UInt8} {t : eO} (h : gT σ o k G) (hG : G.s.Ok n) (hn : n ≤ 900000) (hx : x < 2 ^ 256) (hK : K.length ≤ 1000) :
  aE Tryz.prog 75 [.ptr o 0, .agg (aM x), .sl 1 (aY K) K.length t] σ (fun av σ' => ∃ G', G'.s = doS G.s K (enc x) ∧ av = .tup [] ∧ σ' = eR σ o k G') := by
 have hpa := fun (G' : Sg) (l : List (List AV)) => xZ h G' l
 have hz := k8 ⟨x, hx⟩
 simp only [aM] at hz
 have h32 := mC hx
 have hde := fun l => LR (key := K) (t1 := t) (h.app l σ.toks) hG (by omega) (by omega)
 have hse := fun l => HQ (key := K) (val := aO x) (t1 := t) (t2 := .shut) (h.app l σ.toks) hG (by omega) (by omega) (by omega)
 have hby := fun τ => Cr (σ := τ) hx
 simp only [aM] at hby
 obtain ⟨B, hB⟩ : ∃ B, B = aO x := ⟨_, rfl⟩
 simp only [← hB] at hse hby
 obtain ⟨E, hE⟩ : ∃ E, E = enc x := ⟨_, rfl⟩
 rw [← hE]
 refine cS (nU (X := Nat × Nat × Nat) (A := fun _ => .tup []) (T := fun y => ⟨doS G.s K E, y.1, y.2.1, y.2.2⟩) h (fun _ => rfl) ?_) (fun av σ' ⟨x, e1, e2⟩ => ⟨_, rfl, e1, e2⟩); simp only [aM]
 have F := And.intro hz (True.intro)
 refine aB Tryz.func75 rfl rfl rfl ?_; refine sr fun _ hJ2 => ?_; apply hJ2; refine sq fun K3 hK3 => ?_; refine sr fun _ hJ5 => ?_; apply hJ5; refine cs (fun c8 => ?_) (fun c8 => ?_)
 · all_goals
    replace F := aF c8 F
    have hx0 : x = 0 := by have h := c8; simpa using h
    have hE0 : E = none := by rw [hE, enc, if_pos hx0]
    refine sr fun _ hJ7 => ?_; refine ca (c := hde _) (k := ?_); rintro _ _ ⟨G', e0, rfl, rfl⟩; (try simp [F]); apply hJ7; refine bQ ?_; (try simp only [eD, bG, bV, if_true]); refine gI rfl (.inr rfl) ?_
    obtain ⟨gs, a1, a2, a3⟩ := G'
    simp only at e0
    rw [← hE0] at e0
    subst e0
    refine ⟨(a1, a2, a3), ?_⟩
    rw [hpa]
    exact gcr
 all_goals
  replace F := aF c8 F
  have hx0 : ¬ x = 0 := by have h := c8; simpa using h
  have hE0 : E = some B := by rw [hE, enc, if_neg hx0, hB]
  refine aA ?_; apply hK3; refine rg' (h := fun J8 hJ8 => ?_); refine ca (c := hby _) (k := ?_); rintro _ _ ⟨rfl, rfl⟩; (try simp [F]); refine ca (c := hse _) (k := ?_); rintro _ _ ⟨G', e0, rfl, rfl⟩; (try simp [F]); apply hJ8; (try simp only [eD, bG, bV, if_true]); refine gI rfl (.inl rfl) ?_
  obtain ⟨gs, a1, a2, a3⟩ := G'
  simp only at e0
  rw [← hE0] at e0
  subst e0
  refine ⟨(a1, a2, a3), ?_⟩
  rw [hpa]
  exact gcr
attribute [local simp] fB xH nL xJ xF BD uJ sZ qS in
theorem Dt {σ : St} {o k n : Nat} {G : Sg} {T : Tb} {O : Option UInt8} {t : eO} (h : gT σ o k G) (hi : gK Ru G.s T n) (hn : n ≤ 100000) :
  aE Tryz.prog 73 [.ptr o 0, .sl 1 (aY (kk O)) (kk O).length t] σ (fun av σ' => av = .sl 5 (aL (T O)) (T O).length .shut ∧ σ = σ') := by
 refine aU ?_ (by simp [AV.under])
 have hkl0 := IC O
 have hke := JM (p := kk O) (t := t) h hi.ok (by omega)
 have hkl : xM G.s.l (kk O) = (T O).map fun c => key O c.d := by rw [tX hi.ok.srt]; show (pl G.s.l (kk O)).map (·.k) = _; rw [hi.pl, List.map_map]; rfl
 rw [hkl, List.length_map] at hke
 have hol := cZ h.o
 have hRt := hi.rt O
 have h8 := dZ hRt
 obtain ⟨L, hL⟩ : ∃ L, L = T O := ⟨_, rfl⟩
 have hva : ∀ (j : Nat) (hj : j < L.length) tk, aE Tryz.prog 74 [.ptr o 0, .sl 1 (aY (key O L[j].d)) (key O L[j].d).length .shut] { σ with toks := tk } (fun av σ' => av = .agg (aM L[j].n.v) ∧ { σ with toks := tk } = σ') := fun j hj tk => by
  subst hL
  have hg := hi.gt O (T O)[j].d
  rw [rK hRt.2 (List.getElem_mem hj)] at hg
  exact Cd (by simpa using h.app [] tk) hi.ok (by omega) hg (T O)[j].n.h
 rw [← hL] at hke h8 hRt ⊢
 obtain ⟨K, hK⟩ : ∃ K, K = L.map fun c => key O c.d := ⟨_, rfl⟩
 have hKl : K.length = L.length := by rw [hK, List.length_map]
 rw [← hK] at hke
 have hkc := Ha K
 rw [hKl] at hkc
 have hap : ∀ (O : List bD) (x : bD) objs, O.length ≤ 1000000 → dG Tryz.prog 23 (lsA σ.toks.length 5 (aL O) O.length) (.sl 5 (dX x) 1 .full) ⟨objs, σ.toks ++ lsT O.length, σ.gl, σ.rows⟩ = some (lsA σ.toks.length 5 (aL (O ++ [x])) (O.length + 1), ⟨objs, σ.toks ++ lsT (O.length + 1), σ.gl, σ.rows⟩) := fun O x objs hO => by
  rw [← qK]
  exact r5 elemT_23 ti_38 (by decide) rfl (fun h => by rw [List.eq_nil_of_length_eq_zero h]; rfl) rfl (by omega) (by simp only [gH]; omega) (by simp only [maxLen]; omega)
 have F := And.intro hol (And.intro hkc (And.intro hKl (True.intro)))
 refine aB Tryz.func73 rfl rfl rfl ?_; refine sr fun _ hJ2 => ?_; apply hJ2; refine sr fun _ hJ4 => ?_; apply hJ4; refine sq fun K5 hK5 => ?_; refine sr fun _ hJ7 => ?_; refine ca (c := hke) (k := ?_); rintro _ _ ⟨rfl, rfl⟩; (try simp [F]); apply hJ7; refine aD ?_; refine cK (X := Nat) [0, 4, 10, 11] (fun j ρ σ1 => (j ≤ L.length) ∧ (ρ 12 = .v (.int .i64 j)) ∧ (ρ 5 = lsA σ.toks.length 5 (aL (L.take j)) j) ∧ (σ1 = { σ with toks := σ.toks ++ lsT j })) (fun j => L.length - j) (0) ?st1 ?rd1
 case st1 =>
  refine ⟨lp, lp, lp, ?_⟩
  · simp [nL]
 case rd1 =>
  rintro j ρ1 σ1 hF1 ⟨h1, h16, h7, hσ⟩; obtain rfl := hσ.symm
  have f1 := dU hF1
  (try simp [dT, F] at f1); replace F := aF h16 F; replace F := aF h7 F; (try replace F := aF f1 F); refine sr fun _ hJ9 => ?_; apply hJ9; refine sq fun K10 hK10 => ?_; refine cs (fun c13 => ?_) (fun c13 => ?_)
  · all_goals
     replace F := aF c13 F
     have hlt : j < L.length := by have h := c13; simp at h; omega
     obtain ⟨x, hx⟩ : ∃ x, x = key O L[j].d := ⟨_, rfl⟩
     have hxl := Bq O L[j].d
     rw [← hx] at hxl
     have hgK : ∀ h : j < (mF K).length, (mF K)[j]'h = .sl 1 (aY x) x.length .shut := fun h => by rw [JW (by omega) h]; simp only [hK, List.getElem_map, hx]
     have hv1 := hva j hlt
     rw [← hx] at hv1
     have hj1 : j + 1 ≤ L.length := hlt
     have hbl : (aY x).length = x.length := by simp
     have hlast : ∀ h2 : x.length - 1 < (aY x).length, (aY x)[x.length - 1]'h2 = .v (.int .u8 (L[j].d.toNat : Nat)) := fun h2 => by
      have e : (aY x)[x.length - 1]? = some (.v (.int .u8 (L[j].d.toNat : Nat))) := by rw [hx]; cases O <;> rfl
      exact (List.getElem?_eq_some_iff.1 e).2
     have hsub : IntKind.i64.wrap ((x.length : Int) - 1) = ((x.length - 1 : Nat) : Int) := by rw [wrap_i64 _ (by omega) (by omega)]; omega
     have hx1 : x.length - 1 < x.length := by omega
     have hx0 : (0 : Int) ≤ (x.length - 1 : Nat) := by omega
     have hTj : (L.take j).length = j := by rw [List.length_take]; omega
     have hta : L.take j ++ [L[j]] = L.take (j + 1) := List.take_append_getElem hlt
     have hap0 := fun objs => hap (L.take j) L[j] objs (by omega)
     simp only [hta, hTj] at hap0
     have hcc : AV.v (.int .u8 (L[j].d.toNat : Nat)) :: aM L[j].n.v = dX L[j] := rfl
     have hnl : (aM L[j].n.v).length = 4 := rfl
     have hec : (dX L[j]).length = 5 := rfl
     have hnc : (∀ x, x ∈ aM L[j].n.v → x.bL = true) = True := eq_true (fun x hx => by simp only [aM, List.mem_cons, List.not_mem_nil, or_false] at hx; rcases hx with rfl | rfl | rfl | rfl <;> rfl)
     have hcl : (∀ x, x ∈ dX L[j] → x.bL = true) = True := eq_true (fun x hx => by simp only [dX, aM, List.mem_cons, List.not_mem_nil, or_false] at hx; rcases hx with rfl | rfl | rfl | rfl | rfl <;> rfl)
     obtain ⟨N, hN⟩ : ∃ N, N = aM L[j].n.v := ⟨_, rfl⟩
     obtain ⟨Q, hQ⟩ : ∃ Q, Q = dX L[j] := ⟨_, rfl⟩
     rw [← hN] at hnl hnc
     rw [← hQ] at hec hcl
     rw [← hN, ← hQ] at hcc
     simp only [← hN] at hv1
     simp only [← hQ] at hap0
     simp only [AV.bL] at hcl hnc
     have hap1 : ∀ objs, dG Tryz.prog 23 (lsA σ.toks.length 5 (aL (L.take j)) j) (.sl 5 (AV.v (.int .u8 (L[j].d.toNat : Nat)) :: N) 1 .full) ⟨objs, σ.toks ++ lsT j, σ.gl, σ.rows⟩ = some (lsA σ.toks.length 5 (aL (L.take (j + 1))) (j + 1), ⟨objs, σ.toks ++ lsT (j + 1), σ.gl, σ.rows⟩) := fun objs => by rw [hcc]; exact hap0 objs
     replace F := aF hlt (And.intro hgK (And.intro hj1 (And.intro hbl (And.intro hlast (And.intro hsub (And.intro hx1 (And.intro hx0 (And.intro hnl (And.intro hnc (And.intro hap1 F)))))))))); refine aA ?_; apply hK10; refine sq fun K11 hK11 => ?_; refine aD ?_; refine sr fun _ hJ13 => ?_; apply hJ13
     refine bI (by kernel_rfl) fun J14 hJ14 => ?_
     refine q2 0 ?_; refine q2 1 ?_; refine q2 2 ?_; refine q2 3 ?_; refine q2 4 ?_; refine q2 5 ?_; refine q2 6 ?_; refine q2 7 ?_; refine q2 8 ?_; refine dc 9 rfl (c := hv1 _) (k := ?_); rintro _ _ ⟨rfl, rfl⟩
     refine ⟨by first | exact fun _ _ h => h | (refine aH [6, 5, 4, 3, 2, 1, 0] (by kernel_rfl) ?_; (repeat' first | exact ln2 | refine lc ?_ ?_) <;> constructor <;> first | rfl | (simp [F]; done)), ?_⟩
     (try simp [F]); refine q2 10 ?_; refine q2 11 ?_; refine dop 12 rfl ?_; try simp [F]
     refine ⟨by first | exact fun _ _ h => h | (refine aH [10, 6, 5, 4, 3, 2, 1] (by kernel_rfl) ?_; (repeat' first | exact ln2 | refine lc ?_ ?_) <;> constructor <;> first | rfl | (simp [F]; done)), ?_⟩
     refine dop 13 rfl ?_; (try simp [F]); (try refine ⟨ln, ?_⟩); refine dd ?_; apply hJ14; apply hK11; refine rg' (h := fun J15 hJ15 => ?_); apply hJ15; refine ⟨(j + 1), ⟨kp, lp, lp, lp, lp⟩, lp⟩
  all_goals
   replace F := aF c13 F
   have hje : L.take j = L := List.take_of_length_le (by have h := c13; simp at h; omega)
   have hjl : j = L.length := by have h := c13; simp at h; omega
   have hwk := sT (k := σ.toks.length) (sz := 5) (n := j) (cs := aL L) (fun h => by rw [List.eq_nil_of_length_eq_zero (l := L) (by omega)]; rfl)
   refine bJ ?_; apply hK5; refine sr fun _ hJ17 => ?_; apply hJ17; refine ra ?_
   rw [hje] at h7
   rw [← hjl]
   exact gcr (hA := by simp only [aP]; simp [F]; rw [hje]; exact hwk)
end Go.Proofs.YtjpnjhlfieklfaaGreat
namespace Go.Proofs.YtjpnjhlfieklfaaGreat
set_option maxHeartbeats 1600000
open Go Go.Vm
attribute [local simp] dM aI dJ opA bH bN cM bP ofValue dC plain aQ aR cA b8 cC cB bY b7 b9 bZ cV bW cG cD b6 bU aT aS bO cU aW dQ dR bK aZ cL gA bS dE cF AV.cells AV.bL dF cO eZ bF aV cQ dI dS dV cN aN dP dO cW cT cI List.getElem?_cons_zero List.getElem?_cons_succ fK fL fH fG fJ fM fI fF dL eQ eB fB dA
variable {Ru : UInt8 → List Pr}
def isB (a : UInt8) : Bool := decide (a.toNat < 200) || (decide (200 ≤ a.toNat) && decide (a.toNat ≤ 204))
theorem Nb {σ : St} {a : UInt8} : aE Tryz.prog 69 [.v (.int .u8 a.toNat)] σ (fun av σ' => av = .v (.bool (isB a)) ∧ σ = σ') := by
 obtain ⟨B, hB⟩ : ∃ B, B = isB a := ⟨_, rfl⟩
 rw [← hB]
 have F := True.intro
 refine aB Tryz.func69 rfl rfl rfl ?_; refine sr fun _ hJ2 => ?_; apply hJ2; refine sr fun _ hJ4 => ?_; refine gs 5 (fun g1_2 => ?_) (fun g1_2 => ?_)
 · try exact aK g1_2
   all_goals
    replace F := aF g1_2 F
    have h1 : a.toNat < 200 := by have h := g1_2; simp at h; omega
    have hb : B = true := by rw [hB, isB, decide_eq_true h1]; rfl
    replace F := aF hb F; (iterate 6 refine no2 (k := ?_)); apply hJ4; refine ra ?_; exact rt
 try exact aK g1_2
 all_goals
  replace F := aF g1_2 F
  have h1 : ¬ a.toNat < 200 := by have h := g1_2; simp at h; omega
  have hb : decide ((a.toNat : Int) ≤ 204) = B := by rw [hB, isB, decide_eq_false h1, decide_eq_true (by omega : 200 ≤ a.toNat)]; simp; omega
  have hb2 : decide (a.toNat ≤ 204) = B := by rw [hB, isB, decide_eq_false h1, decide_eq_true (by omega : 200 ≤ a.toNat)]; simp
  replace F := aF hb2 F
  have h2 : 200 ≤ a.toNat := by omega
  have h3 : (200 : Int) ≤ (a.toNat : Int) := by omega
  replace F := aF hb (And.intro h2 (And.intro h3 F)); (iterate 3 refine go2 (k := ?_)); refine gs 8 (fun g1_5 => ?_) (fun g1_5 => ?_)
  · try exact aK g1_5
    all_goals
     replace F := aF g1_5 F; (iterate 3 refine go2 (k := ?_)); apply hJ4; refine ra ?_; exact rt
  try exact aK g1_5
  all_goals
   replace F := aF g1_5 F; (iterate 2 refine no2 (k := ?_)); refine go2 (k := ?_); apply hJ4; refine ra ?_; exact rt
theorem Iy {σ : St} {a : UInt8} : aE Tryz.prog 76 [.v (.int .u8 a.toNat)] σ (fun av σ' => av = .v (.bool (isB a)) ∧ σ = σ') := by
 obtain ⟨B, hB⟩ : ∃ B, B = isB a := ⟨_, rfl⟩
 rw [← hB]
 have F := True.intro
 refine aB Tryz.func76 rfl rfl rfl ?_; refine sr fun _ hJ2 => ?_; apply hJ2; refine sr fun _ hJ4 => ?_; refine gs 5 (fun g1_2 => ?_) (fun g1_2 => ?_)
 · try exact aK g1_2
   all_goals
    replace F := aF g1_2 F
    have h1 : a.toNat < 200 := by have h := g1_2; simp at h; omega
    have hb : B = true := by rw [hB, isB, decide_eq_true h1]; rfl
    replace F := aF hb F; (iterate 6 refine no2 (k := ?_)); apply hJ4; refine ra ?_; exact rt
 try exact aK g1_2
 all_goals
  replace F := aF g1_2 F
  have h1 : ¬ a.toNat < 200 := by have h := g1_2; simp at h; omega
  have hb : decide ((a.toNat : Int) ≤ 204) = B := by rw [hB, isB, decide_eq_false h1, decide_eq_true (by omega : 200 ≤ a.toNat)]; simp; omega
  have hb2 : decide (a.toNat ≤ 204) = B := by rw [hB, isB, decide_eq_false h1, decide_eq_true (by omega : 200 ≤ a.toNat)]; simp
  replace F := aF hb2 F
  have h2 : 200 ≤ a.toNat := by omega
  have h3 : (200 : Int) ≤ (a.toNat : Int) := by omega
  replace F := aF hb (And.intro h2 (And.intro h3 F)); (iterate 3 refine go2 (k := ?_)); refine gs 8 (fun g1_5 => ?_) (fun g1_5 => ?_)
  · try exact aK g1_5
    all_goals
     replace F := aF g1_5 F; (iterate 3 refine go2 (k := ?_)); apply hJ4; refine ra ?_; exact rt
  try exact aK g1_5
  all_goals
   replace F := aF g1_5 F; (iterate 2 refine no2 (k := ?_)); refine go2 (k := ?_); apply hJ4; refine ra ?_; exact rt
theorem FE {σ : St} {o k n : Nat} {G : Sg} {T : Tb} {a : UInt8} (h : gT σ o k G) (hi : gK Ru G.s T n) (hn : n ≤ 100000) :
  aE Tryz.prog 46 [.ptr o 0, .v (.int .u8 a.toNat)] σ (fun av σ' => av = .sl 5 (aL (T (some a))) (T (some a)).length .shut ∧ σ = σ') := by
 have hl : aE Tryz.prog 73 [.ptr o 0, .sl 1 [.v (.int .u8 98), .v (.int .u8 a.toNat)] 2 .full] σ _ := Dt (O := some a) (t := .full) h hi hn
 have F := True.intro
 refine aB Tryz.func46 rfl rfl rfl ?_; refine sr fun _ hJ2 => ?_; apply hJ2; refine sr fun _ hJ4 => ?_; refine ca (c := hl) (k := ?_); rintro _ _ ⟨rfl, rfl⟩; (try simp [F]); apply hJ4; refine ra ?_; exact rt
theorem Fv {σ : St} {o k n : Nat} {G : Sg} {T : Tb} (h : gT σ o k G) (hi : gK Ru G.s T n) (hn : n ≤ 100000) :
  aE Tryz.prog 38 [.ptr o 0] σ (fun av σ' => av = .sl 5 (aL (T none)) (T none).length .shut ∧ σ = σ') := by
 have hl : aE Tryz.prog 73 [.ptr o 0, .sl 1 [.v (.int .u8 115)] 1 .full] σ _ := Dt (O := none) (t := .full) h hi hn
 have F := True.intro
 refine aB Tryz.func38 rfl rfl rfl ?_; refine sr fun _ hJ2 => ?_; apply hJ2; refine sr fun _ hJ4 => ?_; refine ca (c := hl) (k := ?_); rintro _ _ ⟨rfl, rfl⟩; (try simp [F]); apply hJ4; refine ra ?_; exact rt
theorem Jc {σ : St} {o : Nat} {l : List bD} {a : UInt8} (hl : l.length ≤ 9223372036854775807) :
  aE Tryz.prog 36 [.ptr o 0, .sl 5 (aL l) l.length .shut, .sl 1 [.v (.int .u8 a.toNat)] 1 .full] σ (fun av σ' => av = .v (.bool (isB a && decide (bA l))) ∧ σ = σ') := by
 obtain ⟨B, hB⟩ : ∃ B, B = (isB a && decide (bA l)) := ⟨_, rfl⟩
 rw [← hB]
 have hr := tC (σ := σ) (tl := .shut) hl
 have hz := Nb (σ := σ) (a := a)
 have F := True.intro
 refine aB Tryz.func36 rfl rfl rfl ?_; refine sr fun _ hJ2 => ?_; apply hJ2; refine sq fun K3 hK3 => ?_; refine sr fun _ hJ5 => ?_; apply hJ5; refine aD ?_; refine cK (X := Nat) [0, 1, 9, 10] (fun j ρ σ1 => (j ≤ 1) ∧ (0 < j → isB a = true) ∧ (ρ 11 = .v (.int .i64 j)) ∧ (σ1 = σ)) (fun j => 1 - j) (0) ?st1 ?rd1
 case st1 =>
  refine ⟨lp, ?_, lp, lp⟩
  · intro h
    omega
 case rd1 =>
  rintro j ρ1 σ1 hF1 ⟨h1, h2, h3, hσ⟩; obtain rfl := hσ.symm
  have f1 := dU hF1
  (try simp [dT, F] at f1); replace F := aF h3 F; (try replace F := aF f1 F); refine sr fun _ hJ7 => ?_; apply hJ7; refine sq fun K8 hK8 => ?_; refine cs (fun c12 => ?_) (fun c12 => ?_)
  · all_goals
     replace F := aF c12 F
     have hj : j = 0 := by have h := c12; simp at h; omega
     subst hj
     refine aA ?_; apply hK8; refine sq fun K9 hK9 => ?_; refine aD ?_; refine sr fun _ hJ11 => ?_; apply hJ11; refine sr fun _ hJ13 => ?_; refine ca (c := hz) (k := ?_); rintro _ _ ⟨rfl, rfl⟩; (try simp [F]); apply hJ13; refine cs (fun c17 => ?_) (fun c17 => ?_)
     · all_goals
        replace F := aF c17 F
        have hb : B = false := by rw [hB]; have h := c17; simp at h; rw [h]; rfl
        replace F := aF hb F; refine sr fun _ hJ15 => ?_; apply hJ15; refine ra ?_; exact rt
     all_goals
      replace F := aF c17 F; refine aA ?_; apply hK9; refine rg' (h := fun J16 hJ16 => ?_); apply hJ16; refine ⟨(1), ⟨kp, lp, ?_, lp, lp⟩, lp⟩
      · intro _
        simpa using c17
  all_goals
   replace F := aF c12 F
   have hj : j = 1 := by have h := c12; simp at h; omega
   have hia := h2 (by omega)
   have hb : B = decide (bA l) := by rw [hB, hia]; rfl
   replace F := aF hb F; refine bJ ?_; apply hK3; refine sr fun _ hJ18 => ?_; refine go2 (k := ?_); refine ca (c := hr) (k := ?_); rintro _ _ ⟨rfl, rfl⟩; (try simp [F]); apply hJ18; refine ra ?_; exact rt
end Go.Proofs.YtjpnjhlfieklfaaGreat
namespace Go.Proofs.YtjpnjhlfieklfaaGreat
open Go Go.Vm
attribute [local simp] dM aI dJ opA bH bN cM bP ofValue dC plain aQ aR cA b8 cC cB bY b7 b9 bZ cV bW cG cD b6 bU aT aS bO cU aW dQ dR bK aZ cL gA bS dE cF AV.cells AV.bL dF cO eZ bF aV cQ dI dS dV cN aN dP dO cW cT cI List.getElem?_cons_zero List.getElem?_cons_succ fK fL fH fG fJ fM fI fF dL eQ eB fB
variable {Ru : UInt8 → List Pr}
def gB (σ : St) (o k : Nat) (G : Sg) (l : List (List AV)) (t : List Nat) : St := eR { σ with objs := σ.objs ++ l, toks := σ.toks ++ t } o k G
theorem gB.has {σ : St} {o k : Nat} {G0 : Sg} (h : gT σ o k G0) (G : Sg) (l : List (List AV)) (t : List Nat) : gT (gB σ o k G l t) o k G := (h.app l (σ.toks ++ t)).put G
theorem gB.put (σ : St) (o k : Nat) (G G' : Sg) (l : List (List AV)) (t : List Nat) : eR (gB σ o k G l t) o k G' = gB σ o k G' l t := Ca _ _ _ _ _
theorem gB.len (σ : St) (o k : Nat) (G : Sg) (l : List (List AV)) (t : List Nat) : (gB σ o k G l t).objs.length = σ.objs.length + l.length := by simp [gB, eR]
theorem gB.app {σ : St} {o k : Nat} {G0 : Sg} (h : gT σ o k G0) (G : Sg) (l : List (List AV)) (t : List Nat) (x : List AV) (y : Nat) : { gB σ o k G l t with objs := (gB σ o k G l t).objs ++ [x], toks := (gB σ o k G l t).toks ++ [y] } = gB σ o k G (l ++ [x]) (t ++ [y]) := by
 have hl := cZ h.o
 simp only [gB, eR]
 rw [← List.append_assoc, ← List.append_assoc, List.set_append_left _ _ (by simp; omega : o < (σ.objs ++ l).length)]
theorem gB.Nm {σ : St} {o k : Nat} {G0 : Sg} (h : gT σ o k G0) (G : Sg) (l : List (List AV)) (t : List Nat) (x : List AV) : { gB σ o k G l t with objs := (gB σ o k G l t).objs ++ [x] } = gB σ o k G (l ++ [x]) t := by
 have hl := cZ h.o
 simp only [gB, eR]
 rw [← List.append_assoc, List.set_append_left _ _ (by simp; omega : o < (σ.objs ++ l).length)]
theorem gB.get {σ : St} {o k : Nat} {G0 : Sg} (h : gT σ o k G0) (G : Sg) (l m : List (List AV)) (t : List Nat) (x : List AV) : (gB σ o k G (l ++ x :: m) t).objs[σ.objs.length + l.length]? = some x := by
 have hl := cZ h.o
 simp only [gB, eR]
 rw [List.getElem?_set_ne (by omega), List.getElem?_append_right (by omega), Nat.add_sub_cancel_left, List.getElem?_append_right (Nat.le_refl _), Nat.sub_self]; rfl
theorem gB.self {σ : St} {o k : Nat} {G : Sg} (h : gT σ o k G) : gB σ o k G [] [] = σ := by
 simp only [gB, List.append_nil]; exact u9 h
theorem gB.fin {σ : St} {o k : Nat} {G0 : Sg} (h : gT σ o k G0) (G : Sg) (l : List (List AV)) (t : List Nat) : gB σ o k G l t = { eR σ o k G with objs := (eR σ o k G).objs ++ l, toks := σ.toks ++ t } := EP h l (σ.toks ++ t) G
theorem Ll {K : List UInt8} {tl : eO} (hl : K.length ≤ 1000) (objs : List (List AV)) (tk : List Nat) (gl : Nat → Option (List AV)) (rows : List fY) : dG Tryz.prog 102 (.sl 0 [] 0 .full) (.sl 1 (aY K) K.length tl) ⟨objs, tk, gl, rows⟩ = some (.sl 1 (aY K) K.length (.own tk.length), ⟨objs, tk ++ [K.length], gl, rows⟩) := by
 have e1 := elemT_102
 have e2 := ti_5
 have h1 : K.length ≤ 9223372036854775807 := by omega
 have h2 : K.length ≤ 140737488355328 := by omega
 simp [dG, j7, e1, e2, gH, maxLen, h1, h2, Value.cells]
theorem Ln {cs : List AV} {n : Nat} {x : AV} (hl : n ≤ 1000) (objs : List (List AV)) (tk : List Nat) (gl : Nat → Option (List AV)) (rows : List fY) : dG Tryz.prog 102 (.sl 1 cs n (.own tk.length)) (.sl 1 [x] 1 .full) ⟨objs, tk ++ [n], gl, rows⟩ = some (.sl 1 (cs ++ [x]) (n + 1) (.own tk.length), ⟨objs, tk ++ [n + 1], gl, rows⟩) := by
 have e1 := elemT_102
 have e2 := ti_5
 have h1 : n + 1 ≤ 9223372036854775807 := by omega
 have h2 : n + 1 ≤ 140737488355328 := by omega
 simp [dG, j7, e1, e2, gH, maxLen, h1, h2, Value.cells]
structure TkS where
 j : Nat
 G : Sg
 l : List (List AV)
 t : List Nat
theorem HG {l : List bD} (h : bA l) : ∀ (i d : Nat), amt (l.take i) d ≤ amt l d := fun i d => by
 have e := yB (l.take i) (l.drop i) d
 rw [List.take_append_drop] at e
 rw [e]
 by_cases hx : ∃ c ∈ l.take i, c.d.toNat = d
 · rw [if_pos hx]; exact Nat.le_refl _
 · rw [l8 (fun c hc q => hx ⟨c, hc, q⟩)]; exact Nat.zero_le _
set_option maxHeartbeats 1600000 in
attribute [local simp] dA List.getElem?_cons_zero List.getElem?_cons_succ in
theorem EX {σ : St} {o k n : Nat} {G : Sg} {T : Tb} {O : Option UInt8} {l : List bD} (h : gT σ o k G) (hi : gK Ru G.s T n) (hn : n ≤ 1000) (hR : bA l) (hno : ∀ d, d < 8 → amt (T O) d + amt l d < 2 ^ 256) :
  aE Tryz.prog 39 [.ptr o 0, .sl 5 (aL l) l.length .shut, .sl 1 (aY (kk O)) (kk O).length .full] σ (fun av σ' => ∃ G', gK Ru G'.s (upd T O (lY (T O) l)) (n + 8) ∧ av = .tup [] ∧ σ' = eR σ o k G') := by
 have h8 := dZ hR
 have hlc := y7 l
 refine cS (nA (X := { G' : Sg // gK Ru G'.s (upd T O (lY (T O) l)) (n + 8) }) (A := fun _ => .tup []) (τ := fun x => eR σ o k x.1) ?_ (fun _ => rfl) (fun x => by simp [eR]) (fun x => rfl) (fun x => by simp [eR]) (fun x => rfl) (fun x => BZ h _) (fun x => BQ (o := o) (k := k) (σ := σ) _)) (fun av σ' ⟨x, e1, e2⟩ => ⟨x.1, x.2, e1, e2⟩)
 have hself := (gB.self h).symm
 have hgl := gB.len σ o k
 have hap2 := gB.app h
 have hap1 := gB.Nm h
 have hget := gB.get h
 have hput := gB.put σ o k
 have hkk := IC O
 obtain ⟨KB, hKB⟩ : ∃ KB, KB = aY (kk O) := ⟨_, rfl⟩
 obtain ⟨KN, hKN⟩ : ∃ KN, KN = (kk O).length := ⟨_, rfl⟩
 have b1 := fun objs tk gl rows => Ll (K := kk O) (tl := .full) (by omega) objs tk gl rows
 have b2 := fun x objs tk gl rows => Ln (cs := KB) (n := KN) (x := x) (by omega) objs tk gl rows
 simp only [← hKB, ← hKN] at b1
 have hey : ∀ d : UInt8, KB ++ [.v (.int .u8 d.toNat)] = aY (key O d) := fun d => by rw [hKB, key]; simp [aY]
 have hel : ∀ d : UInt8, KN + 1 = (key O d).length := fun d => by rw [hKN, key]; simp
 rw [← hKB, ← hKN]
 have F := And.intro hlc (And.intro hgl (And.intro b1 (And.intro b2 (True.intro))))
 refine aB Tryz.func39 rfl rfl rfl ?_; refine sq fun K1 hK1 => ?_
 rw [hself]
 refine rg' (h := fun J2 hJ2 => ?_); apply hJ2; apply hK1; refine aD ?_; refine cK (X := TkS) [0, 2, 11, 12] (fun x ρ σ1 => (x.j ≤ l.length) ∧ (gK Ru x.G.s (upd T O (lY (T O) (l.take x.j))) (n + x.j)) ∧ (ρ 13 = .v (.int .i64 x.j)) ∧ (σ1 = gB σ o k x.G x.l x.t)) (fun x => l.length - x.j) (⟨0, G, [], []⟩) ?st1 ?rd1
 case st1 =>
  refine ⟨lp, ?_, lp, lp⟩
  · rw [List.take_zero, Hv (hi.rt O), KT]
    exact hi
 case rd1 =>
  rintro x ρ1 σ1 hF1 ⟨h1, h2, h3, hσ⟩; obtain rfl := hσ.symm
  have f1 := dU hF1
  (try simp [dT, F] at f1); replace F := aF h3 F; (try replace F := aF f1 F); refine sr fun _ hJ4 => ?_; apply hJ4; refine sq fun K5 hK5 => ?_; refine cs (fun c14 => ?_) (fun c14 => ?_)
  · all_goals
     replace F := aF c14 F
     have hlt : x.j < l.length := by have h := c14; simp at h; omega
     obtain ⟨c, hc⟩ : ∃ c, c = l[x.j] := ⟨_, rfl⟩
     have hta : l.take x.j ++ [c] = l.take (x.j + 1) := by rw [hc]; exact List.take_append_getElem hlt
     have hRb : bA (l.take x.j ++ [c]) := by rw [hta]; exact sX hR _
     have hat := gG hlt
     rw [← hc] at hat
     have hR5 : List.take 5 (List.drop (x.j * 5) (aL l)) = dX c := by rw [hat]; rfl
     have hc8 := (hRb.1 c (by simp)).1
     obtain ⟨v0, hv0⟩ : ∃ v0, v0 = amt (lY (T O) (l.take x.j)) c.d.toNat := ⟨_, rfl⟩
     have hv0l : v0 < 2 ^ 256 := by rw [hv0]; exact gD _ _
     have hg := h2.gt O c.d
     rw [lZ, ← hv0] at hg
     obtain ⟨v1, hv1e⟩ : ∃ v1, v1 = v0 + c.n.v := ⟨_, rfl⟩
     have hstp := Gu hRb (fun d hd => Nat.lt_of_le_of_lt (Nat.add_le_add_left (by rw [hta]; exact HG hR _ d) _) (hno d hd))
     have hv1l : v1 < 2 ^ 256 := by rw [hv1e, hv0]; exact hstp.2
     have hv1 : FC (lY (T O) (l.take x.j)) c.d.toNat v1 = lY (T O) (l.take x.j ++ [c]) := by rw [hv1e, hv0]; exact hstp.1
     have hst := h2.set (o := O) (d := c.d) hc8 hv1l
     rw [lZ, I3, hv1, hta] at hst
     have hrd : ∀ τ tl, gT τ o k x.G → aE Tryz.prog 74 [.ptr o 0, .sl 1 (KB ++ [.v (.int .u8 c.d.toNat)]) (KN + 1) tl] τ (fun av σ' => av = .agg (aM v0) ∧ τ = σ') := fun τ tl hh => by rw [hey, hel c.d]; exact Cd hh h2.ok (by omega) hg hv0l
     have hb1 := gB.has h x.G
     have hb2 : ∀ L t y, gT { gB σ o k x.G L t with objs := (gB σ o k x.G L t).objs ++ [y] } o k x.G := fun L t y => by rw [hap1]; exact gB.has h x.G _ _
     have hwr : ∀ L t, aE Tryz.prog 75 [.ptr o 0, .agg (aM v1), .sl 1 (KB ++ [.v (.int .u8 c.d.toNat)]) (KN + 1) (.own (gB σ o k x.G x.l x.t).toks.length)] (gB σ o k x.G L t) (fun av σ' => ∃ G', gK Ru G'.s (upd T O (lY (T O) (l.take (x.j + 1)))) (n + x.j + 1) ∧ av = .tup [] ∧ σ' = gB σ o k G' L t) := fun L t => by
      rw [hey, hel c.d]; exact cS (FL (gB.has h x.G L t) h2.ok (by omega) hv1l (by have := Bq O c.d; omega)) (fun av σ' ⟨G', e1, e2, e3⟩ => ⟨G', by rw [e1]; exact hst, e2, by rw [e3, hput]⟩)
     have hi1 : x.j + 1 ≤ l.length := hlt
     have hwi : IntKind.i64.wrap ((x.j : Int) + 1) = (x.j : Int) + 1 := wrap_i64 _ (by omega) (by omega)
     have b5 : x.j * 5 + 5 ≤ l.length * 5 := by omega
     have c0 : ∀ h2 : 0 < (dX c).length, (dX c)[0]'h2 = .v (.int .u8 (c.d.toNat : Nat)) := fun _ => rfl
     have c1 : List.take 4 (dX c).tail = aM c.n.v := rfl
     have cl : (dX c).length = 5 := rfl
     have hcl : (∀ x, x ∈ dX c → x.bL = true) = True := eq_true (fun x hx => by simp only [dX, aM, List.mem_cons, List.not_mem_nil, or_false] at hx; rcases hx with rfl | rfl | rfl | rfl | rfl <;> rfl)
     have ct : List.take 5 (dX c) = dX c := rfl
     obtain ⟨C, hC⟩ : ∃ C, C = dX c := ⟨_, rfl⟩
     rw [← hC] at hR5 c1 cl hcl ct
     simp only [← hC] at c0
     simp only [AV.bL] at hcl
     have g1 := fun G' m t => hget G' x.l m t C
     have g2 : ∀ G' m t (h2 : σ.objs.length + x.l.length < (gB σ o k G' (x.l ++ C :: m) t).objs.length), (gB σ o k G' (x.l ++ C :: m) t).objs[σ.objs.length + x.l.length]'h2 = C := fun G' m t h2 => (List.getElem?_eq_some_iff.1 (g1 G' m t)).2
     have hrs := fun τ => BM (σ := τ) hv0l c.n.h
     have hadd : nH v0 c.n.v = v1 := by rw [hv1e, nH, if_pos (by rw [← hv1e]; exact hv1l)]
     simp only [hadd] at hrs
     have hn1l : (aM v1).length = 4 := rfl
     have hn1t : List.take 4 (aM v1) = aM v1 := rfl
     have hn1c : (∀ x, x ∈ aM v1 → x.bL = true) = True := eq_true (fun x hx => by simp only [aM, List.mem_cons, List.not_mem_nil, or_false] at hx; rcases hx with rfl | rfl | rfl | rfl <;> rfl)
     obtain ⟨N1, hN1⟩ : ∃ N1, N1 = aM v1 := ⟨_, rfl⟩
     rw [← hN1] at hn1l hn1t hn1c
     simp only [← hN1] at hrs hwr
     simp only [AV.bL] at hn1c
     have g3 : ∀ G' t, (gB σ o k G' (x.l ++ [C, N1]) t).objs[σ.objs.length + (x.l.length + 1)]? = some N1 := fun G' t => by have := hget G' (x.l ++ [C]) [] t N1; rw [List.length_append, List.append_assoc] at this; exact this
     have g4 : ∀ G' t (h2 : σ.objs.length + (x.l.length + 1) < (gB σ o k G' (x.l ++ [C, N1]) t).objs.length), (gB σ o k G' (x.l ++ [C, N1]) t).objs[σ.objs.length + (x.l.length + 1)]'h2 = N1 := fun G' t h2 => (List.getElem?_eq_some_iff.1 (g3 G' t)).2
     replace F := aF hn1l (And.intro hn1t (And.intro hn1c (And.intro g3 (And.intro g4 F)))); replace F := aF hlt (And.intro hR5 (And.intro hi1 (And.intro hwi (And.intro b5 (And.intro c0 (And.intro c1 (And.intro cl (And.intro hcl (And.intro ct (And.intro g1 (And.intro g2 F))))))))))); refine aA ?_; apply hK5; refine sq fun K6 hK6 => ?_; refine aD ?_; refine sr fun _ hJ8 => ?_; apply hJ8; refine sq fun K9 hK9 => ?_
     refine bI (by kernel_rfl) fun J10 hJ10 => ?_
     refine q2 0 ?_; refine q2 2 ?_; refine q2 3 ?_; refine q2 4 ?_; refine dop 1 rfl ?_; try simp [F]
     refine ⟨by first | exact fun _ _ h => h | (refine aH [4, 3, 2] (by kernel_rfl) ?_; (repeat' first | exact ln2 | refine lc ?_ ?_) <;> constructor <;> first | rfl | (simp [F]; done)), ?_⟩
     refine dop 5 rfl ?_; try simp [F]
     refine ⟨by first | exact fun _ _ h => h | (refine aH [3, 2] (by kernel_rfl) ?_; (repeat' first | exact ln2 | refine lc ?_ ?_) <;> constructor <;> first | rfl | (simp [F]; done)), ?_⟩
     refine q2 6 ?_; refine dd ?_; apply hJ10; apply hK9; refine sq fun K11 hK11 => ?_
     rw [hap2]
     refine bI (by kernel_rfl) fun J12 hJ12 => ?_
     refine q2 0 ?_; refine q2 1 ?_; refine q2 3 ?_; refine q2 4 ?_; refine d2 2 9 ?_ ?_
     · refine ac 2 rfl (c := hrd _ _ (by first | exact hb1 _ _ | exact hb2 _ _ _)) (k := ?_)
       rintro _ _ ⟨rfl, rfl⟩
       refine ⟨by first | exact fun _ _ h => h | (refine aH [4, 3] (by kernel_rfl) ?_; (repeat' first | exact ln2 | refine lc ?_ ?_) <;> constructor <;> first | rfl | (simp [F]; done)), ?_⟩
       (try simp [F]); refine d2 5 9 ?_ ?_
       · refine ac 5 rfl (c := hrs _) (k := ?_); rintro _ _ ⟨rfl, rfl⟩
         refine ⟨by first | exact fun _ _ h => h | (refine aH [3] (by kernel_rfl) ?_; (repeat' first | exact ln2 | refine lc ?_ ?_) <;> constructor <;> first | rfl | (simp [F]; done)), ?_⟩
         (try simp [F]); refine q2 6 ?_; refine q2 7 ?_; refine q2 8 ?_; refine dop 9 rfl ?_; try simp [F]
         refine ⟨by first | exact cH _ (by kernel_rfl) | exact bT (by kernel_rfl) rfl, ?_⟩
         refine dop 10 rfl ?_; try simp [F]
         refine ⟨cE (by kernel_rfl), ?_⟩
         refine q2 11 ?_; refine dd ?_; apply hJ12; apply hK11
         rw [hap1]
         refine rg' (h := fun J13 hJ13 => ?_); refine ca (c := hwr _ _) (k := ?_); rintro _ _ ⟨G1, e1, rfl, rfl⟩; (try simp [F]); apply hJ13; apply hK6; refine rg' (h := fun J14 hJ14 => ?_); apply hJ14; refine ⟨(⟨x.j + 1, G1, x.l ++ [C, N1], x.t ++ [KN + 1]⟩), ⟨kp, lp, ?_, lp, lp⟩, lp⟩
         · exact e1
       · refine ao 9 rfl ?_; try simp [F]
         refine ⟨by first | exact cH _ (by kernel_rfl) | exact bT (by kernel_rfl) rfl, ?_⟩
         refine dc 5 rfl (c := hrs _) (k := ?_); rintro _ _ ⟨rfl, rfl⟩
         refine ⟨by first | exact fun _ _ h => h | (refine aH [3] (by kernel_rfl) ?_; (repeat' first | exact ln2 | refine lc ?_ ?_) <;> constructor <;> first | rfl | (simp [F]; done)), ?_⟩
         (try simp [F]); refine q2 6 ?_; refine q2 7 ?_; refine q2 8 ?_; refine dop 10 rfl ?_; try simp [F]
         refine ⟨cE (by kernel_rfl), ?_⟩
         refine q2 11 ?_; refine dd ?_; apply hJ12; apply hK11
         rw [hap1]
         refine rg' (h := fun J15 hJ15 => ?_); refine ca (c := hwr _ _) (k := ?_); rintro _ _ ⟨G1, e1, rfl, rfl⟩; (try simp [F]); apply hJ15; apply hK6; refine rg' (h := fun J16 hJ16 => ?_); apply hJ16; refine ⟨(⟨x.j + 1, G1, x.l ++ [C, N1], x.t ++ [KN + 1]⟩), ⟨kp, lp, ?_, lp, lp⟩, lp⟩
         · exact e1
     · refine ao 9 rfl ?_; try simp [F]
       refine ⟨by first | exact cH _ (by kernel_rfl) | exact bT (by kernel_rfl) rfl, ?_⟩
       refine dc 2 rfl (c := hrd _ _ (by first | exact hb1 _ _ | exact hb2 _ _ _)) (k := ?_)
       rintro _ _ ⟨rfl, rfl⟩
       refine ⟨by first | exact fun _ _ h => h | (refine aH [4, 3] (by kernel_rfl) ?_; (repeat' first | exact ln2 | refine lc ?_ ?_) <;> constructor <;> first | rfl | (simp [F]; done)), ?_⟩
       (try simp [F]); refine dc 5 rfl (c := hrs _) (k := ?_); rintro _ _ ⟨rfl, rfl⟩
       refine ⟨by first | exact fun _ _ h => h | (refine aH [3] (by kernel_rfl) ?_; (repeat' first | exact ln2 | refine lc ?_ ?_) <;> constructor <;> first | rfl | (simp [F]; done)), ?_⟩
       (try simp [F]); refine q2 6 ?_; refine q2 7 ?_; refine q2 8 ?_; refine dop 10 rfl ?_; try simp [F]
       refine ⟨cE (by kernel_rfl), ?_⟩
       refine q2 11 ?_; refine dd ?_; apply hJ12; apply hK11
       rw [hap1]
       refine rg' (h := fun J17 hJ17 => ?_); refine ca (c := hwr _ _) (k := ?_); rintro _ _ ⟨G1, e1, rfl, rfl⟩; (try simp [F]); apply hJ17; apply hK6; refine rg' (h := fun J18 hJ18 => ?_); apply hJ18; refine ⟨(⟨x.j + 1, G1, x.l ++ [C, N1], x.t ++ [KN + 1]⟩), ⟨kp, lp, ?_, lp, lp⟩, lp⟩
       · exact e1
  all_goals
   replace F := aF c14 F
   have hje : l.take x.j = l := List.take_of_length_le (by have h := c14; simp at h; omega)
   rw [hje] at h2
   refine bJ ?_; (try simp only [eD, bG, bV, if_true]); refine gI rfl (.inl rfl) ?_
   refine ⟨⟨x.G, h2.mono (by omega)⟩, ?_⟩
   rw [gB.fin h]
   exact gcr
end Go.Proofs.YtjpnjhlfieklfaaGreat
namespace Go.Proofs.YtjpnjhlfieklfaaGreat
open Go Go.Vm
attribute [local simp] dM aI dJ opA bH bN cM bP ofValue dC plain aQ aR cA b8 cC cB bY b7 b9 bZ cV bW cG cD b6 bU aT aS bO cU aW dQ dR bK aZ cL gA bS dE cF AV.cells AV.bL dF cO eZ bF aV cQ dI dS dV cN aN dP dO cW cT cI List.getElem?_cons_zero List.getElem?_cons_succ fK fL fH fG fJ fM fI fF dL eQ eB fB
variable {Ru : UInt8 → List Pr}
def Ax (f : UInt8 → Nat) : Nat → Nat
 | 0 => 0
 | n + 1 => Ax f n + f (UInt8.ofNat n)
theorem Cx {f : UInt8 → Nat} {a : UInt8} : ∀ n, n ≤ 256 → a.toNat < n → f a ≤ Ax f n
 | 0, _, h => by omega
 | n + 1, hn, h => by
   simp only [Ax]
   by_cases e : a.toNat = n
   · have : UInt8.ofNat n = a := by rw [← e]; exact UInt8.toNat_inj.1 (toNat_ofNat a.toNat_lt)
     rw [this]; omega
   · have := Cx (f := f) n (by omega) (by omega : a.toNat < n)
     omega
def Mm (T : Tb) (d : Nat) : Nat := Ax (fun a => amt (T (some a)) d) 256
theorem I6 (T : Tb) (a : UInt8) (d : Nat) : amt (T (some a)) d ≤ Mm T d := Cx (f := fun x => amt (T (some x)) d) 256 (Nat.le_refl _) a.toNat_lt
def BW (T : Tb) : Prop := ∀ d, d < 8 → Mm T d = amt (T none) d
theorem La (U : Tb) (b : UInt8) (L : List bD) : upd U (some b) L none = U none := rF _ _ (by simp)
structure BR where
 T : Tb
 e : Nat
def nE (T : Tb) (b : UInt8) (l : List bD) : BR :=
 if ¬ (isB b = true ∧ bA l) then ⟨T, 1⟩ else if ¬ iD (T none) l = 0 then ⟨T, 2⟩ else
 ⟨upd (upd T none (lY (T none) l)) (some b) (lY (T (some b)) l), 0⟩
theorem Ag {T : Tb} {b : UInt8} {l : List bD} (hs : BW T) (hw : iD (T none) l = 0) : ∀ d, d < 8 → amt (T (some b)) d + amt l d < 2 ^ 256 := fun d hd => by
 have h2 := I6 T b d
 have h4 := jJ.1 hw d hd
 have h5 := hs d hd
 omega
theorem BW.nil : BW tb0 := fun d hd => by
 have : ∀ n, Ax (fun a => amt (tb0 (some a)) d) n = 0 := fun n => by
  induction n with
  | zero => rfl
  | succ n ih => simp only [Ax, ih]; rfl
 exact this 256
set_option maxHeartbeats 1600000 in
attribute [local simp] dA List.getElem?_cons_zero List.getElem?_cons_succ in
theorem Is {σ : St} {o k n : Nat} {G : Sg} {T : Tb} {b : UInt8} {l : List bD} (h : gT σ o k G) (hi : gK Ru G.s T n) (hs : BW T) (hn : n ≤ 900) (hl : l.length ≤ 9223372036854775807) :
  aE Tryz.prog 16 [.ptr o 0, .v (.int .u8 b.toNat), .sl 5 (aL l) l.length .shut] σ (fun av σ' => ∃ G', gK Ru G'.s (nE T b l).T (n + 16) ∧ av = .v (.int .i64 ((nE T b l).e : Nat)) ∧ σ' = eR σ o k G') := by
 obtain ⟨⟨PT, PE⟩, hP⟩ : ∃ P, P = nE T b l := ⟨_, rfl⟩
 rw [← hP]
 simp only
 have hmy := Jc (σ := σ) (o := o) (a := b) hl
 have hsu := Fv h hi (by omega)
 have hRn := dZ (hi.rt none)
 have hcd := B2 (σ := σ) (a := T none) (b := l) (ta := .shut) (tb := .shut) (by omega) hl
 have hself := u9 h
 have hev := F4 (T none) l
 obtain ⟨E, hE⟩ : ∃ E, E = iD (T none) l := ⟨_, rfl⟩
 obtain ⟨AL, hAL⟩ : ∃ AL, AL = iN (T none) l := ⟨_, rfl⟩
 rw [← hE] at hev
 simp only [← hE, ← hAL] at hcd
 have ha1 : bA l → E = 0 → aE Tryz.prog 39 [.ptr o 0, .sl 5 (aL l) l.length .shut, .sl 1 [.v (.int .u8 115)] 1 .full] σ (fun av σ' => ∃ G', gK Ru G'.s (upd T none (lY (T none) l)) (n + 8) ∧ av = .tup [] ∧ σ' = eR σ o k G') := fun hR hw => EX (O := none) h hi (by omega) hR (jJ.1 (hE ▸ hw))
 have ha2 : bA l → E = 0 → ∀ G1, gK Ru G1.s (upd T none (lY (T none) l)) (n + 8) → aE Tryz.prog 39 [.ptr o 0, .sl 5 (aL l) l.length .shut, .sl 1 [.v (.int .u8 98), .v (.int .u8 b.toNat)] 2 .full] (eR σ o k G1) (fun av σ' => ∃ G', gK Ru G'.s (upd (upd T none (lY (T none) l)) (some b) (lY (T (some b)) l)) (n + 8 + 8) ∧ av = .tup [] ∧ σ' = eR σ o k G') := fun hR hw G1 h1 => by
  have e0 : upd T none (lY (T none) l) (some b) = T (some b) := rF _ _ (by simp)
  have := EX (O := some b) (h.put G1) h1 (by omega) hR (by rw [e0]; exact Ag hs (hE ▸ hw))
  rw [e0] at this
  exact cS this (fun av σ' ⟨G', e1, e2, e3⟩ => ⟨G', e1, e2, by rw [e3, Ca]⟩)
 have F := True.intro
 refine aB Tryz.func16 rfl rfl rfl ?_; refine sr fun _ hJ2 => ?_; apply hJ2; refine sq fun K3 hK3 => ?_; refine sr fun _ hJ5 => ?_; refine ca (c := hmy) (k := ?_); rintro _ _ ⟨rfl, rfl⟩; (try simp [F]); apply hJ5; refine cs (fun c14 => ?_) (fun c14 => ?_)
 · all_goals
    replace F := aF c14 F
    have hR : ¬ (isB b = true ∧ bA l) := by have h := c14; simp at h; intro q; simp [q.1, q.2] at h
    obtain ⟨rfl, rfl⟩ : PT = T ∧ PE = 1 := by rw [nE, if_pos hR] at hP; simpa using hP
    refine sr fun _ hJ7 => ?_; apply hJ7; refine ra ?_; exact ⟨G, hi.mono (by omega), rfl, hself.symm⟩
 all_goals
  replace F := aF c14 F
  have hR : isB b = true ∧ bA l := by have h := c14; simp at h; exact h
  refine aA ?_; apply hK3; refine sq fun K8 hK8 => ?_; refine sr fun _ hJ10 => ?_; refine ca (c := hsu) (k := ?_); rintro _ _ ⟨rfl, rfl⟩; (try simp [F]); refine ca (c := hcd) (k := ?_); rintro _ _ ⟨rfl, rfl⟩; (try simp [F]); apply hJ10; refine sr fun _ hJ12 => ?_; apply hJ12; refine cs (fun c23 => ?_) (fun c23 => ?_)
  · all_goals
     replace F := aF c23 F
     have hw : ¬ E = 0 := by have h := c23; simpa using h
     obtain ⟨rfl, rfl⟩ : PT = T ∧ PE = 2 := by rw [nE, if_neg (Classical.not_not.2 hR), if_pos (hE ▸ hw)] at hP; simpa using hP
     have hE2 : E = 2 := by omega
     replace F := aF hE2 F; refine sr fun _ hJ14 => ?_; apply hJ14; refine ra ?_; exact ⟨G, hi.mono (by omega), by simp [F], hself.symm⟩
  all_goals
   replace F := aF c23 F
   have hw : E = 0 := by have h := c23; simpa using h
   obtain ⟨hPT, rfl⟩ : PT = upd (upd T none (lY (T none) l)) (some b) (lY (T (some b)) l) ∧ PE = 0 := by rw [nE, if_neg (Classical.not_not.2 hR), if_neg (Classical.not_not.2 (hE ▸ hw))] at hP; simpa using hP
   refine aA ?_; apply hK8; refine sr fun _ hJ16 => ?_; refine ca (c := ha1 hR.2 hw) (k := ?_); rintro _ _ ⟨G1, e1, rfl, rfl⟩; (try simp [F]); apply hJ16; refine sr fun _ hJ18 => ?_; refine ca (c := ha2 hR.2 hw G1 e1) (k := ?_); rintro _ _ ⟨G2, e2, rfl, rfl⟩; (try simp [F]); apply hJ18; refine sr fun _ hJ20 => ?_; apply hJ20; refine ra ?_; exact ⟨G2, by rw [hPT]; exact e2, rfl, rfl⟩
end Go.Proofs.YtjpnjhlfieklfaaGreat
namespace Go.Proofs.YtjpnjhlfieklfaaGreat
set_option maxHeartbeats 1600000
open Go Go.Vm
attribute [local simp] dM aI dJ opA bH bN cM bP ofValue dC plain aQ aR cA b8 cC cB bY b7 b9 bZ cV gN bW cG cD b6 bU aT aS bO cU aW dQ dR bK aZ cL gA bS dE cF AV.cells AV.bL dF cO eZ bF aV cQ dI dS dV cN aN dP dO fX eY eV cW cT cI List.getElem?_cons_zero List.getElem?_cons_succ mS kE dA
theorem FY {σ : St} {a b : List bD} {ta tb : eO} (hla : a.length ≤ 9223372036854775807) (hlb : b.length ≤ 9223372036854775807) :
  aE Tryz.prog 122 [.sl 5 (aL a) a.length ta, .sl 5 (aL b) b.length tb] σ (fun av σ' => av = .v (.bool (decide (a = b))) ∧ σ = σ') := by
 have hcl : ∀ c, (dX c).length = 5 := fun _ => rfl
 have hct : ∀ c R, List.take 5 (dX c ++ R) = dX c := fun _ _ => rfl
 have F := And.intro hcl (And.intro hct (True.intro))
 refine aB Tryz.func122 rfl rfl rfl ?_; refine sr fun _ hJ2 => ?_; apply hJ2; refine sq fun K3 hK3 => ?_; refine sr fun _ hJ5 => ?_; apply hJ5; refine cs (fun c10 => ?_) (fun c10 => ?_)
 · try exact aK c10
   all_goals
    replace F := aF c10 F
    have hne : ¬ a = b := fun e => by subst e; simp at c10
    replace F := aF hne F; refine sr fun _ hJ7 => ?_; apply hJ7; refine ra ?_; exact rt
 try exact aK c10
 all_goals
  replace F := aF c10 F; refine aA ?_; apply hK3; refine sq fun K8 hK8 => ?_; refine sq fun K9 hK9 => ?_
  have hlen : a.length = b.length := by have h := c10; simp at h; omega
  refine rg' (h := fun J10 hJ10 => ?_); apply hJ10; apply hK9; refine aD ?_; refine cK (X := Nat) [0, 1, 12] (fun i ρ σ1 => (i ≤ a.length) ∧ (a.take i = b.take i) ∧ (ρ 13 = .v (.int .i64 i)) ∧ (σ1 = σ)) (fun i => a.length - i) (0) ?st1 ?rd1
  case st1 =>
   refine ⟨lp, ?_, lp, ?_⟩
   · rfl
   · rfl
  case rd1 =>
   rintro i ρ1 σ1 hF1 ⟨hi, hE, h13, hσ⟩; obtain rfl := hσ.symm
   have f1 := dU hF1
   (try simp [dT, F] at f1); replace F := aF h13 F; (try replace F := aF f1 F); refine sr fun _ hJ12 => ?_; apply hJ12; refine sq fun K13 hK13 => ?_; refine cs (fun c14 => ?_) (fun c14 => ?_)
   · try exact aK c14
     all_goals
      replace F := aF c14 F; refine aA ?_; apply hK13; refine sq fun K14 hK14 => ?_; refine aD ?_; refine sq fun K15 hK15 => ?_
      have hlt : i < a.length := by simp at c14; omega
      have hltb : i < b.length := by omega
      have hat := gG hlt
      have hatb := gG hltb
      have hb1 : i * 5 + 5 ≤ a.length * 5 := by omega
      have hb2 : i * 5 + 5 ≤ b.length * 5 := by omega
      obtain ⟨x, hx⟩ : ∃ x, x = a[i] := ⟨_, rfl⟩
      obtain ⟨y, hy⟩ : ∃ y, y = b[i] := ⟨_, rfl⟩
      rw [← hx] at hat
      rw [← hy] at hatb
      have hta : a.take (i + 1) = a.take i ++ [x] := by rw [hx]; exact (List.take_append_getElem hlt).symm
      have htb : b.take (i + 1) = b.take i ++ [y] := by rw [hy]; exact (List.take_append_getElem hltb).symm
      replace F := aF hlt F; replace F := aF hltb F; replace F := aF hat F; replace F := aF hatb F; replace F := aF hb1 F; replace F := aF hb2 F; refine rg' (h := fun J16 hJ16 => ?_); apply hJ16; apply hK15; refine sq fun K17 hK17 => ?_
      refine bI (by kernel_rfl) fun J18 hJ18 => ?_
      refine q2 0 ?_; refine q2 1 ?_; refine q2 2 ?_; refine q2 3 ?_; refine q2 4 ?_; refine q2 5 ?_; refine q2 6 ?_; refine q2 7 ?_; refine q2 8 ?_; refine dd ?_; apply hJ18; apply hK17; refine cs (fun c24 => ?_) (fun c24 => ?_)
      · try exact aK c24
        all_goals
         replace F := aF c24 F
         have hne : ¬ a = b := fun e => by subst e; rw [← hx] at hy; subst hy; simp at c24
         replace F := aF hne F; refine sr fun _ hJ20 => ?_; apply hJ20; refine ra ?_; exact rt
      try exact aK c24
      all_goals
       replace F := aF c24 F
       have hxy : x = y := by simpa using c24
       refine aA ?_; apply hK14; refine rg' (h := fun J21 hJ21 => ?_); apply hJ21; refine ⟨(i + 1), ⟨kp, lp, ?_, lp, lp⟩, lp⟩
       · rw [hta, htb, hE, hxy]
   try exact aK c14
   all_goals
    replace F := aF c14 F
    have he : a = b := by have h := c14; simp at h; rw [List.take_of_length_le (by omega), List.take_of_length_le (by omega)] at hE; exact hE
    replace F := aF he F; refine bJ ?_; apply hK8; refine sr fun _ hJ23 => ?_; apply hJ23; refine ra ?_; exact rt
theorem xT {σ : St} {a b : List bD} {ta tb : eO} (hla : a.length ≤ 9223372036854775807) (hlb : b.length ≤ 9223372036854775807) :
  aE Tryz.prog 93 [.sl 5 (aL a) a.length ta, .sl 5 (aL b) b.length tb] σ (fun av σ' => av = .v (.bool (decide (a = b))) ∧ σ = σ') := by
 have F := True.intro
 refine aB Tryz.func93 rfl rfl rfl ?_; refine sr fun _ hJ2 => ?_; apply hJ2; refine sr fun _ hJ4 => ?_; refine ca (c := FY hla hlb) (k := ?_); rintro _ _ ⟨rfl, rfl⟩; (try simp [F]); apply hJ4; refine ra ?_; exact rt
theorem Dg {σ : St} {l : List bD} {tl : eO} (hl : l.length ≤ 9223372036854775807) :
  aE Tryz.prog 65 [.sl 5 (aL l) l.length tl] σ (fun av σ' => av = .v (.bool (decide (l ≠ [] ∧ bA l))) ∧ σ = σ') := by
 have h0 : 0 < l.length ↔ l ≠ [] := List.length_pos_iff
 have F := And.intro h0 (True.intro)
 refine aB Tryz.func65 rfl rfl rfl ?_; refine sr fun _ hJ2 => ?_; apply hJ2; refine sr fun _ hJ4 => ?_; refine gs 6 (fun g1_3 => ?_) (fun g1_3 => ?_)
 · try exact aK g1_3
   all_goals
    replace F := aF g1_3 F; refine go2 (k := ?_); refine ca (c := tC hl) (k := ?_); rintro _ _ ⟨rfl, rfl⟩; (try simp [F]); apply hJ4; refine ra ?_; exact rt
 try exact aK g1_3
 all_goals
  replace F := aF g1_3 F; (iterate 2 refine no2 (k := ?_)); apply hJ4; refine ra ?_; exact rt
end Go.Proofs.YtjpnjhlfieklfaaGreat
namespace Go.Vm
open Go
structure Per where
 l : Nat
 c : List bD
deriving DecidableEq
structure Pln where
 k : UInt8
 s : Nat
 e : Nat
 tot : List bD
 ps : List Per
deriving DecidableEq
def oB (p : Per) : List AV := [.v (.int .u64 p.l), .sl 5 (aL p.c) p.c.length .shut]
def e6 (l : List Per) : List AV := l.flatMap oB
def iK (p : Pln) : List AV := [.v (.int .u8 p.k.toNat), .v (.int .u64 p.s), .v (.int .u64 p.e), .sl 5 (aL p.tot) p.tot.length .shut, .sl 2 (e6 p.ps) p.ps.length .shut]
@[simp] theorem FF : e6 [] = [] := rfl
@[simp] theorem GP (l : List Per) : (e6 l).length = l.length * 2 := kP oB 2 (fun _ => rfl) l
theorem jS {l : List Per} {i : Nat} (h : i < l.length) : (e6 l).drop (i * 2) = oB l[i] ++ Dq oB l i := tO oB 2 (fun _ => rfl) l i h
theorem eK (n : Nat) : ∀ l : List Per, bM n (e6 l) = true := iP (fun p => by simp [oB, bM, AV.eM, aL, iP, dX, aM])
theorem nX (B : Bd) : ∀ l : List Per, bB B (e6 l) = true := iO (fun p => by simp [oB, bB, AV.under, aL, iO, dX, aM])
theorem uI (l m : List Per) : e6 l ++ e6 m = e6 (l ++ m) := by simp [e6]
def Pln.Ok (p : Pln) : Prop := p.s < 2 ^ 64 ∧ p.e < 2 ^ 64 ∧ p.tot.length ≤ 9223372036854775807 ∧ p.ps.length ≤ 9223372036854775807 ∧ ∀ x ∈ p.ps, x.l < 2 ^ 64 ∧ x.c.length ≤ 9223372036854775807
def lA : List Per → Nat → List bD → Option (Nat × List bD)
 | [], e, a => some (e, a)
 | x :: l, e, a => if x.l = 0 ∨ 2 ^ 40 < x.l ∨ 2 ^ 40 < e ∨ ¬ (x.c ≠ [] ∧ bA x.c) then none else if iD a x.c = 0 then lA l (e + x.l) (iN a x.c) else none
def sC (p : Pln) : Bool := decide (p.ps.length ≤ 16) && decide (lA p.ps p.s [] = some (p.e, p.tot))
def bR (p : Pln) : Bool :=
 if p.k = 0 then decide (p = ⟨0, 0, 0, [], []⟩)
 else if ¬ (p.tot ≠ [] ∧ bA p.tot) ∨ 2 ^ 40 < p.e then false
 else if p.k = 1 then decide (p.s < p.e ∧ p.ps = [])
 else if p.k = 2 then decide (p.s = 0 ∧ p.ps = [])
 else if p.k = 4 then decide (p.s = 0 ∧ p.e = 0 ∧ p.ps = [])
 else if p.k = 3 ∨ p.k = 5 then sC p
 else false
structure Eh where
 i : Nat
 e : Nat
 a : List bD
section
variable {P : Program} {z : kV} {N : Nat} {σ : St} {ρ : Nat → AV}
theorem oH {c : Code} {Q : Exit → (Nat → AV) → St → Prop} (d sz : Nat) {s : Nat} (h : ρ d = .sl s [] 0 .full := by first | rfl | (simp [F]; done))
  (k : Run z P N c (eF ρ (some d) (.sl sz [] 0 .shut)) σ Q) : Run z P N c ρ σ Q := Lv (fun i => by
 rw [aP]; split
 · rename_i e; subst e; rw [h]; exact Wk.nil _ _ _
 · exact Wk.refl _) k
end
end Go.Vm
namespace Go.Proofs.YtjpnjhlfieklfaaGreat
set_option maxHeartbeats 1600000
open Go Go.Vm
attribute [local simp] dM aI dJ opA bH bN cM bP ofValue dC plain aQ aR cA b8 cC cB bY b7 b9 bZ cV gN bW cG cD b6 bU aT aS bO cU aW dQ dR bK aZ cL gA bS dE cF AV.cells AV.bL dF cO eZ bF aV cQ dI dS dV cN aN dP dO fX eY eV cW cT cI List.getElem?_cons_zero List.getElem?_cons_succ mS kE dA
theorem FP {σ : St} {x y : Per} (hx : x.c.length ≤ 9223372036854775807) (hy : y.c.length ≤ 9223372036854775807) :
  aE Tryz.prog 95 [.agg (oB x), .agg (oB y)] σ (fun av σ' => av = .v (.bool (decide (x = y))) ∧ σ = σ') := by
 refine aU ?_ rfl
 obtain ⟨l, c⟩ := x
 obtain ⟨l2, c2⟩ := y
 simp only [Per.mk.injEq, oB, Bool.decide_and]
 have F := True.intro
 refine aB Tryz.func95 rfl rfl rfl ?_; refine sr fun _ hJ2 => ?_; apply hJ2; refine sr fun _ hJ4 => ?_; refine gs 10 (fun g1_5 => ?_) (fun g1_5 => ?_)
 · all_goals
    replace F := aF g1_5 F
    have hl : l = l2 := by have h := g1_5; simp at h; omega
    replace F := aF hl F; (iterate 4 refine go2 (k := ?_)); refine ca (c := xT hx hy) (k := ?_); rintro _ _ ⟨rfl, rfl⟩; (try simp [F]); apply hJ4; refine ra ?_; exact gcr
 all_goals
  replace F := aF g1_5 F
  have hl : ¬ l = l2 := by have h := g1_5; simp at h; omega
  replace F := aF hl F; (iterate 5 refine no2 (k := ?_)); apply hJ4; refine ra ?_; exact gcr
attribute [local simp] oB eK in
theorem GI {σ : St} {a b : List Per} {ta tb : eO} (hla : a.length ≤ 9223372036854775807) (hlb : b.length ≤ 9223372036854775807) (ha : ∀ x ∈ a, x.c.length ≤ 9223372036854775807) (hb : ∀ x ∈ b, x.c.length ≤ 9223372036854775807) :
  aE Tryz.prog 94 [.sl 2 (e6 a) a.length ta, .sl 2 (e6 b) b.length tb, .fn 95 []] σ (fun av σ' => av = .v (.bool (decide (a = b))) ∧ σ = σ') := by
 refine aU ?_ rfl
 have F := True.intro
 refine aB Tryz.func94 rfl rfl rfl ?_; refine sr fun _ hJ2 => ?_; apply hJ2; refine sq fun K3 hK3 => ?_; refine sr fun _ hJ5 => ?_; apply hJ5; refine cs (fun c14 => ?_) (fun c14 => ?_)
 · all_goals
    replace F := aF c14 F
    have hne : ¬ a = b := fun e => by subst e; simp at c14
    replace F := aF hne F; refine sr fun _ hJ7 => ?_; apply hJ7; refine ra ?_; exact gcr
 all_goals
  replace F := aF c14 F; refine aA ?_; apply hK3; refine sq fun K8 hK8 => ?_; refine sq fun K9 hK9 => ?_
  have hlen : a.length = b.length := by have h := c14; simp at h; omega
  refine rg' (h := fun J10 hJ10 => ?_); apply hJ10; apply hK9; refine aD ?_; refine fA (X := Nat) [1, 2, 15, 16] (fun i ρ σ1 => (i ≤ a.length) ∧ (a.take i = b.take i) ∧ (ρ 17 = .v (.int .i64 i)) ∧ (σ1 = σ)) (fun i => a.length - i) (0) ?st1 ?rd1
  case st1 =>
   refine ⟨lp, ?_, lp, ?_⟩
   · rfl
   · rfl
  case rd1 =>
   rintro i ρ1 σ1 hF1 ⟨hi, hE, h13, hσ⟩; obtain rfl := hσ.symm
   have f1 := dU hF1
   (try simp [dT, F] at f1); replace F := aF h13 F; (try replace F := aF f1 F); refine sr fun _ hJ12 => ?_; apply hJ12; refine sq fun K13 hK13 => ?_; refine cs (fun c18 => ?_) (fun c18 => ?_)
   · all_goals
      replace F := aF c18 F; refine aA ?_; apply hK13; refine sq fun K14 hK14 => ?_; refine aD ?_; refine sq fun K15 hK15 => ?_
      have hlt : i < a.length := by simp at c18; omega
      have hltb : i < b.length := by omega
      have hat := jS hlt
      have hatb := jS hltb
      have hb1 : i * 2 + 2 ≤ a.length * 2 := by omega
      have hb2 : i * 2 + 2 ≤ b.length * 2 := by omega
      obtain ⟨x, hx⟩ : ∃ x, x = a[i] := ⟨_, rfl⟩
      obtain ⟨y, hy⟩ : ∃ y, y = b[i] := ⟨_, rfl⟩
      rw [← hx] at hat
      rw [← hy] at hatb
      have hta : a.take (i + 1) = a.take i ++ [x] := by rw [hx]; exact (List.take_append_getElem hlt).symm
      have htb : b.take (i + 1) = b.take i ++ [y] := by rw [hy]; exact (List.take_append_getElem hltb).symm
      have hxl := ha x (by rw [hx]; exact List.getElem_mem _)
      have hyl := hb y (by rw [hy]; exact List.getElem_mem _)
      replace F := aF hlt F; replace F := aF hltb F; replace F := aF hat F; replace F := aF hatb F; replace F := aF hb1 F; replace F := aF hb2 F; refine rg' (h := fun J16 hJ16 => ?_); apply hJ16; apply hK15; refine sr fun _ hJ18 => ?_; apply hJ18; refine sr fun _ hJ20 => ?_; refine ca (c := (FP (x := x) (y := y) hxl hyl)) (k := ?_); rintro _ _ ⟨rfl, rfl⟩; (try simp [F]); apply hJ20; refine cs (fun c30 => ?_) (fun c30 => ?_)
      · all_goals
         replace F := aF c30 F
         have hne : ¬ a = b := fun e => by subst e; rw [← hx] at hy; subst hy; simp at c30
         replace F := aF hne F; refine sr fun _ hJ22 => ?_; apply hJ22; refine ra ?_; exact gcr
      all_goals
       replace F := aF c30 F
       have hxy : x = y := by simpa using c30
       refine aA ?_; apply hK14; refine rg' (h := fun J23 hJ23 => ?_); apply hJ23; refine ⟨gk, (i + 1), ⟨kpG, lpG, ?_, lpG, lpG⟩, lpG⟩
       · rw [hta, htb, hE, hxy]
   all_goals
    replace F := aF c18 F
    have he : a = b := by have h := c18; simp at h; rw [List.take_of_length_le (by omega), List.take_of_length_le (by omega)] at hE; exact hE
    replace F := aF he F; refine bJ ?_; apply hK8; refine sr fun _ hJ25 => ?_; apply hJ25; refine ra ?_; exact gcr
theorem FU {σ : St} {a b : Pln} (ha : a.Ok) (hb : b.Ok) :
  aE Tryz.prog 64 [.agg (iK a), .agg (iK b)] σ (fun av σ' => av = .v (.bool (decide (a = b))) ∧ σ = σ') := by
 refine aU ?_ rfl
 obtain ⟨ak, a1, a2, a3, a4⟩ := a
 obtain ⟨bk, b1, b2, b3, b4⟩ := b
 obtain ⟨ha1, ha2, ha3, ha4, ha5⟩ := ha
 obtain ⟨hb1, hb2, hb3, hb4, hb5⟩ := hb
 simp only [Pln.mk.injEq, iK, Bool.decide_and] at *
 have F := True.intro
 refine aB Tryz.func64 rfl rfl rfl ?_; refine sr fun _ hJ2 => ?_; apply hJ2; refine sr fun _ hJ4 => ?_; refine gs 10 (fun g1_5 => ?_) (fun g1_5 => ?_)
 · all_goals
    replace F := aF g1_5 F
    have hl1 : ak = bk := by have h := g1_5; simp at h; exact UInt8.toNat_inj.1 (by omega)
    replace F := aF hl1 F; (iterate 5 refine go2 (k := ?_)); refine gs 17 (fun g1_12 => ?_) (fun g1_12 => ?_)
    · all_goals
       replace F := aF g1_12 F
       have hl2 : a1 = b1 := by have h := g1_12; simp at h; omega
       replace F := aF hl2 F; (iterate 5 refine go2 (k := ?_)); refine gs 24 (fun g1_19 => ?_) (fun g1_19 => ?_)
       · all_goals
          replace F := aF g1_19 F
          have hl3 : a2 = b2 := by have h := g1_19; simp at h; omega
          replace F := aF hl3 F; (iterate 4 refine go2 (k := ?_)); refine ca (c := xT ha3 hb3) (k := ?_); rintro _ _ ⟨rfl, rfl⟩; (try simp [F]); refine gs 31 (fun g1_26 => ?_) (fun g1_26 => ?_)
          · all_goals
             replace F := aF g1_26 F; (iterate 4 refine go2 (k := ?_)); refine ca (c := GI ha4 hb4 (fun x hx ↦ (ha5 x hx).2) (fun x hx ↦ (hb5 x hx).2)) (k := ?_); rintro _ _ ⟨rfl, rfl⟩; (try simp [F]); apply hJ4; refine ra ?_; exact gcr
          all_goals
           replace F := aF g1_26 F; (iterate 5 refine no2 (k := ?_)); apply hJ4; refine ra ?_; exact gcr
       all_goals
        replace F := aF g1_19 F
        have hl3 : ¬ a2 = b2 := by have h := g1_19; simp at h; omega
        replace F := aF hl3 F; (iterate 10 refine no2 (k := ?_)); apply hJ4; refine ra ?_; exact gcr
    all_goals
     replace F := aF g1_12 F
     have hl2 : ¬ a1 = b1 := by have h := g1_12; simp at h; omega
     replace F := aF hl2 F; (iterate 15 refine no2 (k := ?_)); apply hJ4; refine ra ?_; exact gcr
 all_goals
  replace F := aF g1_5 F
  have hl1 : ¬ ak = bk := by have h := g1_5; simp at h; intro e; subst e; exact h rfl
  replace F := aF hl1 F; (iterate 20 refine no2 (k := ?_)); apply hJ4; refine ra ?_; exact gcr
attribute [local simp] oB eK in
theorem xU {σ : St} {p : Pln} (hp : p.Ok) (he : p.e ≤ 2 ^ 40) :
  aE Tryz.prog 66 [.agg (iK p)] σ (fun av σ' => av = .v (.bool (sC p)) ∧ σ = σ') := by
 refine aU ?_ rfl
 obtain ⟨pk, ps, pe, pt, pp⟩ := p
 obtain ⟨k1, k2, k3, k4, h5⟩ := hp
 simp only [iK, sC] at *
 have F := True.intro
 refine aB Tryz.func66 rfl rfl rfl ?_; refine sr fun _ hJ2 => ?_; apply hJ2; refine sq fun K3 hK3 => ?_; refine sr fun _ hJ5 => ?_; apply hJ5; refine cs (fun c11 => ?_) (fun c11 => ?_)
 · all_goals
    replace F := aF c11 F
    have hbig : ¬ pp.length ≤ 16 := by have h := c11; simp at h; omega
    replace F := aF hbig F; refine sr fun _ hJ7 => ?_; apply hJ7; refine ra ?_; exact gcr
 all_goals
  replace F := aF c11 F
  have hbig : pp.length ≤ 16 := by have h := c11; simp at h; omega
  replace F := aF hbig F; refine aA ?_; apply hK3; refine sr fun _ hJ9 => ?_; apply hJ9; refine sr fun _ hJ11 => ?_; apply hJ11; refine sq fun K12 hK12 => ?_; refine sq fun K13 hK13 => ?_; refine oH 4 5 (k := ?_); refine rg' (h := fun J14 hJ14 => ?_); apply hJ14; apply hK13; refine aD ?_; refine fA (X := Eh) [1, 15, 16] (fun q ρ σ1 => (q.i ≤ pp.length) ∧ (lA pp ps [] = lA (pp.drop q.i) q.e q.a) ∧ (q.e < 2 ^ 64) ∧ (q.a.length ≤ 8) ∧ (ρ 3 = .v (.int .u64 q.e)) ∧ (ρ 4 = .sl 5 (aL q.a) q.a.length .shut) ∧ (ρ 17 = .v (.int .i64 q.i)) ∧ (σ1 = { σ with objs := σ.objs ++ [[.v (.int .u8 pk.toNat), .v (.int .u64 ps), .v (.int .u64 pe), .sl 5 (aL pt) pt.length .shut, .sl 2 (e6 pp) pp.length .shut]] })) (fun q => pp.length - q.i) (⟨0, ps, []⟩) ?st1 ?rd1
  case st1 =>
   refine ⟨lp, ?_, lp, lp, lp, lp, lp, ?_⟩
   · rfl
   · rfl
  case rd1 =>
   rintro q ρ1 σ1 hF1 ⟨hi, hE, hqe, hqa, h3, h4, h17, hσ⟩; obtain rfl := hσ.symm
   have f1 := dU hF1
   (try simp [dT, F] at f1); replace F := aF h3 F; replace F := aF h4 F; replace F := aF h17 F; (try replace F := aF f1 F); refine sr fun _ hJ16 => ?_; apply hJ16; refine sq fun K17 hK17 => ?_; refine cs (fun c18 => ?_) (fun c18 => ?_)
   · all_goals
      replace F := aF c18 F; refine aA ?_; apply hK17; refine sq fun K18 hK18 => ?_; refine aD ?_; refine sq fun K19 hK19 => ?_
      obtain ⟨i, E, S⟩ := q
      simp only at hi hE hqe hqa h3 h4 h17
      have hlt : i < pp.length := by simp at c18; omega
      have hat := jS hlt
      have hb1 : i * 2 + 2 ≤ pp.length * 2 := by omega
      have hx5 := h5 _ (List.getElem_mem hlt)
      have hcons : pp.drop i = pp[i] :: pp.drop (i + 1) := List.drop_eq_getElem_cons hlt
      obtain ⟨x, hx⟩ : ∃ x, x = pp[i] := ⟨_, rfl⟩
      rw [← hx] at hat hx5 hcons
      rw [hcons] at hE
      obtain ⟨xl, xc⟩ := x
      obtain ⟨hxl, hxc⟩ := hx5
      simp only at hxl hxc
      simp only [lA] at hE
      replace F := aF hlt F; replace F := aF hat F; replace F := aF hb1 F; refine rg' (h := fun J20 hJ20 => ?_); apply hJ20; apply hK19; refine sq fun K21 hK21 => ?_; refine sr fun _ hJ23 => ?_; refine gs 24 (fun g8_3 => ?_) (fun g8_3 => ?_)
      · all_goals
         replace F := aF g8_3 F
         have hbad : lA pp ps [] = none := by rw [hE]; exact if_pos (.inl (by have h := g8_3; simp at h; omega))
         replace F := aF hbad F; (iterate 9 refine no2 (k := ?_)); apply hJ23; refine ct ?_; refine sr fun _ hJ25 => ?_; apply hJ25; refine ra ?_; exact gcr
      all_goals
       replace F := aF g8_3 F; (iterate 3 refine go2 (k := ?_)); refine gs 29 (fun g8_8 => ?_) (fun g8_8 => ?_)
       · all_goals
          replace F := aF g8_8 F
          have hbad : lA pp ps [] = none := by rw [hE]; exact if_pos (.inr (.inl (by have h := g8_8; simp at h; omega)))
          replace F := aF hbad F; (iterate 6 refine no2 (k := ?_)); apply hJ23; refine ct ?_; refine sr fun _ hJ27 => ?_; apply hJ27; refine ra ?_; exact gcr
       all_goals
        replace F := aF g8_8 F; (iterate 2 refine go2 (k := ?_)); refine gs 33 (fun g8_12 => ?_) (fun g8_12 => ?_)
        · all_goals
           replace F := aF g8_12 F
           have hbad : lA pp ps [] = none := by rw [hE]; exact if_pos (.inr (.inr (.inl (by have h := g8_12; simp at h; omega))))
           replace F := aF hbad F; (iterate 4 refine no2 (k := ?_)); apply hJ23; refine ct ?_; refine sr fun _ hJ29 => ?_; apply hJ29; refine ra ?_; exact gcr
        all_goals
         replace F := aF g8_12 F; (iterate 2 refine go2 (k := ?_)); refine ca (c := Dg hxc) (k := ?_); rintro _ _ ⟨rfl, rfl⟩; (try simp [F]); refine go2 (k := ?_); apply hJ23; refine cs (fun c38 => ?_) (fun c38 => ?_)
         · all_goals
            replace F := aF c38 F
            have hbad : lA pp ps [] = none := by rw [hE]; exact if_pos (.inr (.inr (.inr (by have h := c38; simp at h; intro hh; rcases h with h | h; exact hh.1 h; exact h hh.2))))
            replace F := aF hbad F; refine sr fun _ hJ31 => ?_; apply hJ31; refine ra ?_; exact gcr
         all_goals
          replace F := aF c38 F
          have n1 : ¬ xl = 0 := by have h := g8_3; simp at h; omega
          have n2 : ¬ 2 ^ 40 < xl := by have h := g8_8; simp at h; omega
          have n3 : ¬ 2 ^ 40 < E := by have h := g8_12; simp at h; omega
          have n4 : ¬ ¬ (xc ≠ [] ∧ bA xc) := by have h := c38; simp at h; exact fun hn => hn ⟨h.1, h.2⟩
          have hgood : ¬ (xl = 0 ∨ 2 ^ 40 < xl ∨ 2 ^ 40 < E ∨ ¬ (xc ≠ [] ∧ bA xc)) := fun h => h.elim n1 (fun h => h.elim n2 (fun h => h.elim n3 n4))
          have hw2 : E + xl < 2 ^ 64 := by omega
          obtain ⟨S2, hS2⟩ : ∃ S2, S2 = iN S xc := ⟨_, rfl⟩
          have hS2l : S2.length ≤ 8 := by rw [hS2]; exact dZ (j3 _ _)
          rw [← hS2] at hE
          rw [if_neg hgood] at hE
          have hw : IntKind.u64.wrap ((E : Int) + xl) = ((E + xl : Nat) : Int) := by rw [eI (by omega)]; rfl
          replace F := aF hw F; refine aA ?_; apply hK21; refine sr fun _ hJ33 => ?_; apply hJ33; refine sr fun _ hJ35 => ?_; apply hJ35; refine sr fun _ hJ37 => ?_
          refine ca (c := (hS2 ▸ B2 (by omega) hxc)) (k := ?_)
          rintro _ _ ⟨rfl, rfl⟩; (try simp [F]); apply hJ37; refine sr fun _ hJ39 => ?_; apply hJ39; refine cs (fun c51 => ?_) (fun c51 => ?_)
          · all_goals
             replace F := aF c51 F
             have hne : ¬ iD S xc = 0 := by have h := c51; simp at h; omega
             rw [if_neg hne] at hE
             replace F := aF hE F; refine sr fun _ hJ41 => ?_; apply hJ41; refine ra ?_; exact gcr
          all_goals
           replace F := aF c51 F
           have hye : iD S xc = 0 := by have h := c51; simp at h; omega
           rw [if_pos hye] at hE
           refine aA ?_; apply hK18; refine rg' (h := fun J42 hJ42 => ?_); apply hJ42; refine ⟨gk, (⟨i + 1, E + xl, S2⟩), ⟨kpG, lpG, ?_, ?_, ?_, lpG, lpG, lpG, lpG⟩, lpG⟩
           · exact hE
           · exact hw2
           · exact hS2l
   all_goals
    replace F := aF c18 F
    have hend : lA pp ps [] = some (q.e, q.a) := by rw [hE, List.drop_of_length_le (by have h := c18; simp at h; omega)]; rfl
    replace F := aF hend F; refine bJ ?_; apply hK12; refine sr fun _ hJ44 => ?_; refine gs 57 (fun g16_4 => ?_) (fun g16_4 => ?_)
    · all_goals
       replace F := aF g16_4 F
       have hee : q.e = pe := by have h := g16_4; simp at h; omega
       replace F := aF hee F; iterate 3 refine go2 (k := ?_)
       refine ca (c := xT (by omega) k3) (k := ?_)
       rintro _ _ ⟨rfl, rfl⟩; (try simp [F]); apply hJ44; refine ra ?_; exact gcr
    all_goals
     replace F := aF g16_4 F
     have hee : ¬ q.e = pe := by have h := g16_4; simp at h; omega
     replace F := aF hee F; (iterate 4 refine no2 (k := ?_)); apply hJ44; refine ra ?_; exact gcr
theorem KZ : (⟨0, 0, 0, [], []⟩ : Pln).Ok := ⟨by decide, by decide, by decide, by decide, fun x hx => absurd hx (by simp)⟩
theorem x7 {σ : St} {a : Pln} (ha : a.Ok) :
  aE Tryz.prog 64 [.agg (iK a), .agg [.v (.int .u8 0), .v (.int .u64 0), .v (.int .u64 0), .sl 0 [] 0 .full, .sl 0 [] 0 .full]] σ (fun av σ' => av = .v (.bool (decide (a = ⟨0, 0, 0, [], []⟩))) ∧ σ = σ') :=
 kO (.cons (Wk.refl _) (.cons (WkL.agg (.cons (Wk.refl _) (.cons (Wk.refl _) (.cons (Wk.refl _) (.cons (Wk.nil _ _ _) (.cons (Wk.nil _ _ _) .nil)))))) .nil)) (FU ha KZ)
attribute [local simp] oB iK eK in
theorem yP {σ : St} {p : Pln} (hp : p.Ok) :
  aE Tryz.prog 32 [.agg (iK p)] σ (fun av σ' => av = .v (.bool (bR p)) ∧ σ = σ') := by
 refine aU ?_ rfl
 have hsame := x7 (σ := σ) hp
 obtain ⟨pk, ps, pe, pt, pp⟩ := p
 have hp0 := hp
 obtain ⟨k1, k2, k3, k4, h5⟩ := hp
 have hnil : ((pp.length : Int) == 0) = decide (pp = []) := by cases pp <;> simp <;> omega
 have hkn : ∀ n : UInt8, pk = n ↔ (pk.toNat : Int) = (n.toNat : Int) := fun n => ⟨fun e => by rw [e], fun e => UInt8.toNat_inj.1 (Int.ofNat_inj.1 e)⟩
 simp only [iK] at *
 have F := And.intro hnil (True.intro)
 refine aB Tryz.func32 rfl rfl rfl ?_; refine sr fun _ hJ2 => ?_; apply hJ2; refine sq fun K3 hK3 => ?_; refine sr fun _ hJ5 => ?_; apply hJ5; refine cs (fun c5 => ?_) (fun c5 => ?_)
 · (try exact aK c5); all_goals have c5p := c5; try simp [F] at c5p
   all_goals
    replace F := aF c5 F; try replace F := aF c5p F
    have hk0 : pk = 0 := (hkn 0).2 (by have h := c5; simp at h; simpa using h)
    have hB : bR ⟨pk, ps, pe, pt, pp⟩ = decide ((⟨pk, ps, pe, pt, pp⟩ : Pln) = ⟨0, 0, 0, [], []⟩) := by rw [bR, if_pos hk0]
    replace F := aF hB F; refine sr fun _ hJ7 => ?_; refine ca (c := x7 hp0) (k := ?_); rintro _ _ ⟨rfl, rfl⟩; (try simp [F]); apply hJ7; refine ra ?_; exact gcr
 (try exact aK c5); all_goals have c5p := c5; try simp [F] at c5p
 all_goals
  replace F := aF c5 F; try replace F := aF c5p F
  have hk0 : ¬ pk = 0 := fun e => by rw [hkn] at e; have h := c5; simp at h; exact h (by simpa using e)
  refine aA ?_; apply hK3; refine sq fun K8 hK8 => ?_; refine sr fun _ hJ10 => ?_; refine ca (c := Dg k3) (k := ?_); rintro _ _ ⟨rfl, rfl⟩; (try simp [F]); refine gs 13 (fun g3_4 => ?_) (fun g3_4 => ?_)
  · (try exact aK g3_4); all_goals have g3_4p := g3_4; try simp [F] at g3_4p
    all_goals
     replace F := aF g3_4 F; try replace F := aF g3_4p F
     have hB : bR ⟨pk, ps, pe, pt, pp⟩ = false := by rw [bR, if_neg hk0, if_pos (.inl (by have h := g3_4; simp at h; intro hh; rcases h with h | h; exact hh.1 h; exact h hh.2))]
     replace F := aF hB F; (iterate 3 refine no2 (k := ?_)); apply hJ10; refine ct ?_; refine sr fun _ hJ12 => ?_; apply hJ12; refine ra ?_; exact gcr
  (try exact aK g3_4); all_goals have g3_4p := g3_4; try simp [F] at g3_4p
  all_goals
   replace F := aF g3_4 F; (try replace F := aF g3_4p F); (iterate 3 refine go2 (k := ?_)); apply hJ10; refine cs (fun c17 => ?_) (fun c17 => ?_)
   · (try exact aK c17); all_goals have c17p := c17; try simp [F] at c17p
     all_goals
      replace F := aF c17 F; try replace F := aF c17p F
      have hB : bR ⟨pk, ps, pe, pt, pp⟩ = false := by rw [bR, if_neg hk0, if_pos (.inr (by show 2 ^ 40 < pe; have h := c17; simp at h; omega))]
      replace F := aF hB F; refine sr fun _ hJ14 => ?_; apply hJ14; refine ra ?_; exact gcr
   (try exact aK c17); all_goals have c17p := c17; try simp [F] at c17p
   all_goals
    replace F := aF c17 F; try replace F := aF c17p F
    have hs1 : ¬ pt = [] := by have h := g3_4; simp at h; exact h.1
    have hs2 : bA pt := by have h := g3_4; simp at h; exact h.2
    have hs3 : pe ≤ 1099511627776 := by have h := c17; simp at h; omega
    have hs3' : ¬ 1099511627776 < pe := by omega
    replace F := aF hs1 (And.intro hs2 (And.intro hs3 (And.intro hs3' F))); refine aA ?_; apply hK8; refine sq fun K15 hK15 => ?_; refine sr fun _ hJ17 => ?_; apply hJ17; refine aD ?_; refine sr fun _ hJ19 => ?_; apply hJ19; refine cs (fun c20 => ?_) (fun c20 => ?_)
    · (try exact aK c20); all_goals have c20p := c20; try simp [F] at c20p
      all_goals
       replace F := aF c20 F; (try replace F := aF c20p F); refine sr fun _ hJ21 => ?_; refine gs 27 (fun g7_5 => ?_) (fun g7_5 => ?_)
       · (try exact aK g7_5); all_goals have g7_5p := g7_5; try simp [F] at g7_5p
         all_goals
          replace F := aF g7_5 F; try replace F := aF g7_5p F
          have h1 : ps < pe := by have h := g7_5; simp at h; omega
          have hB : bR ⟨pk, ps, pe, pt, pp⟩ = decide (pp = []) := by rw [bR]; simp [hkn, F, h1]
          replace F := aF hB F; (iterate 4 refine go2 (k := ?_)); apply hJ21; refine ra ?_; exact gcr
       (try exact aK g7_5); all_goals have g7_5p := g7_5; try simp [F] at g7_5p
       all_goals
        replace F := aF g7_5 F; try replace F := aF g7_5p F
        have h1 : ¬ ps < pe := by have h := g7_5; simp at h; omega
        have hB : bR ⟨pk, ps, pe, pt, pp⟩ = false := by rw [bR]; simp [hkn, F, h1]
        replace F := aF hB F; (iterate 4 refine no2 (k := ?_)); apply hJ21; refine ra ?_; exact gcr
    (try exact aK c20); all_goals have c20p := c20; try simp [F] at c20p
    all_goals
     replace F := aF c20 F; (try replace F := aF c20p F); refine sr fun _ hJ23 => ?_; apply hJ23; refine cs (fun c33 => ?_) (fun c33 => ?_)
     · (try exact aK c33); all_goals have c33p := c33; try simp [F] at c33p
       all_goals
        replace F := aF c33 F; (try replace F := aF c33p F); refine sr fun _ hJ25 => ?_; refine gs 38 (fun g9_3 => ?_) (fun g9_3 => ?_)
        · (try exact aK g9_3); all_goals have g9_3p := g9_3; try simp [F] at g9_3p
          all_goals
           replace F := aF g9_3 F; try replace F := aF g9_3p F
           have h1 : ps = 0 := by have h := g9_3; simp at h; omega
           have hB : bR ⟨pk, 0, pe, pt, pp⟩ = decide (pp = []) := by rw [bR]; simp [hkn, F, h1]
           replace F := aF hB F; (iterate 4 refine go2 (k := ?_)); apply hJ25; refine ra ?_; exact gcr
        (try exact aK g9_3); all_goals have g9_3p := g9_3; try simp [F] at g9_3p
        all_goals
         replace F := aF g9_3 F; try replace F := aF g9_3p F
         have h1 : ¬ ps = 0 := by have h := g9_3; simp at h; omega
         have hB : bR ⟨pk, ps, pe, pt, pp⟩ = false := by rw [bR]; simp [hkn, F, h1]
         replace F := aF hB F; (iterate 4 refine no2 (k := ?_)); apply hJ25; refine ra ?_; exact gcr
     (try exact aK c33); all_goals have c33p := c33; try simp [F] at c33p
     all_goals
      replace F := aF c33 F; (try replace F := aF c33p F); refine sr fun _ hJ27 => ?_; apply hJ27; refine cs (fun c44 => ?_) (fun c44 => ?_)
      · (try exact aK c44); all_goals have c44p := c44; try simp [F] at c44p
        all_goals
         replace F := aF c44 F; (try replace F := aF c44p F); refine sr fun _ hJ29 => ?_; refine gs 49 (fun g11_3 => ?_) (fun g11_3 => ?_)
         · (try exact aK g11_3); all_goals have g11_3p := g11_3; try simp [F] at g11_3p
           all_goals
            replace F := aF g11_3 F; try replace F := aF g11_3p F
            have h1 : ps = 0 := by have h := g11_3; simp at h; omega
            replace F := aF h1 F; (iterate 3 refine go2 (k := ?_)); refine gs 54 (fun g11_8 => ?_) (fun g11_8 => ?_)
            · (try exact aK g11_8); all_goals have g11_8p := g11_8; try simp [F] at g11_8p
              all_goals
               replace F := aF g11_8 F; try replace F := aF g11_8p F
               have h2 : pe = 0 := by have h := g11_8; simp at h; omega
               have hB : bR ⟨pk, 0, 0, pt, pp⟩ = decide (pp = []) := by rw [bR]; simp [hkn, F]
               replace F := aF hB F; (iterate 4 refine go2 (k := ?_)); apply hJ29; refine ra ?_; exact gcr
            (try exact aK g11_8); all_goals have g11_8p := g11_8; try simp [F] at g11_8p
            all_goals
             replace F := aF g11_8 F; try replace F := aF g11_8p F
             have h2 : ¬ pe = 0 := by have h := g11_8; simp at h; omega
             have hB : bR ⟨pk, 0, pe, pt, pp⟩ = false := by rw [bR]; simp [hkn, F, h2]
             replace F := aF hB F; (iterate 4 refine no2 (k := ?_)); apply hJ29; refine ra ?_; exact gcr
         (try exact aK g11_3); all_goals have g11_3p := g11_3; try simp [F] at g11_3p
         all_goals
          replace F := aF g11_3 F; try replace F := aF g11_3p F
          have h1 : ¬ ps = 0 := by have h := g11_3; simp at h; omega
          have hB : bR ⟨pk, ps, pe, pt, pp⟩ = false := by rw [bR]; simp [hkn, F, h1]
          replace F := aF hB F; (iterate 7 refine no2 (k := ?_)); apply hJ29; refine ra ?_; exact gcr
      (try exact aK c44); all_goals have c44p := c44; try simp [F] at c44p
      all_goals
       replace F := aF c44 F; (try replace F := aF c44p F); refine sq fun K30 hK30 => ?_; refine sr fun _ hJ32 => ?_; apply hJ32; refine cs (fun c60 => ?_) (fun c60 => ?_)
       · (try exact aK c60); all_goals have c60p := c60; try simp [F] at c60p
         all_goals
          replace F := aF c60 F; (try replace F := aF c60p F); refine aA ?_; apply hK30; refine cs (fun c60 => ?_) (fun c60 => ?_)
          · (try exact aK c60); all_goals have c60p := c60; try simp [F] at c60p
            all_goals
             replace F := aF c60 F; (try replace F := aF c60p F); refine sq fun K33 hK33 => ?_
             have h35 : (pk.toNat : Int) = 3 ∨ (pk.toNat : Int) = 5 := by have h := c60; simp at h; first | exact .inl (by simpa using h) | exact .inr (by simpa using h)
             have hB : bR ⟨pk, ps, pe, pt, pp⟩ = sC ⟨pk, ps, pe, pt, pp⟩ := by rw [bR]; rcases h35 with h35 | h35 <;> simp [hkn, hs1, hs2, hs3', h35]
             replace F := aF hB F; refine rg' (h := fun J34 hJ34 => ?_)
             refine ca (c := xU hp0 (by show pe ≤ 2 ^ 40; omega)) (k := ?_)
             rintro _ _ ⟨rfl, rfl⟩; (try simp [F]); apply hJ34; apply hK33; refine ra ?_; exact gcr
          (try exact aK c60); all_goals have c60p := c60; try simp [F] at c60p
          all_goals
           replace F := aF c60 F; (try replace F := aF c60p F); refine aA ?_; apply hK15; refine sq fun K35 hK35 => ?_
           have hB : bR ⟨pk, ps, pe, pt, pp⟩ = false := by rw [bR]; simp [hkn, F]
           replace F := aF hB F; refine rg' (h := fun J36 hJ36 => ?_); apply hJ36; apply hK35; refine ra ?_; exact gcr
       (try exact aK c60); all_goals have c60p := c60; try simp [F] at c60p
       all_goals
        replace F := aF c60 F; (try replace F := aF c60p F); refine rg' (h := fun J37 hJ37 => ?_); apply hJ37; apply hK30; refine cs (fun c60 => ?_) (fun c60 => ?_)
        · (try exact aK c60); all_goals have c60p := c60; try simp [F] at c60p
          all_goals
           replace F := aF c60 F; (try replace F := aF c60p F); refine sq fun K38 hK38 => ?_
           have h35 : (pk.toNat : Int) = 3 ∨ (pk.toNat : Int) = 5 := by have h := c60; simp at h; first | exact .inl (by simpa using h) | exact .inr (by simpa using h)
           have hB : bR ⟨pk, ps, pe, pt, pp⟩ = sC ⟨pk, ps, pe, pt, pp⟩ := by rw [bR]; rcases h35 with h35 | h35 <;> simp [hkn, hs1, hs2, hs3', h35]
           replace F := aF hB F; refine rg' (h := fun J39 hJ39 => ?_)
           refine ca (c := xU hp0 (by show pe ≤ 2 ^ 40; omega)) (k := ?_)
           rintro _ _ ⟨rfl, rfl⟩; (try simp [F]); apply hJ39; apply hK38; refine ra ?_; exact gcr
        (try exact aK c60); all_goals have c60p := c60; try simp [F] at c60p
        all_goals
         replace F := aF c60 F; (try replace F := aF c60p F); refine aA ?_; apply hK15; refine sq fun K40 hK40 => ?_
         have hB : bR ⟨pk, ps, pe, pt, pp⟩ = false := by rw [bR]; simp [hkn, F]
         replace F := aF hB F; refine rg' (h := fun J41 hJ41 => ?_); apply hJ41; apply hK40; refine ra ?_; exact gcr
end Go.Proofs.YtjpnjhlfieklfaaGreat
namespace Go.Vm
open Go
def iH : List Per → Nat → List bD → Option (Nat × List bD)
 | [], e, a => some (e, a)
 | x :: l, e, a => if x.l = 0 ∨ e < x.l ∨ x.c = [] ∨ ¬ bA x.c then none else if iD a x.c = 0 then iH l (e - x.l) (iN a x.c) else none
theorem Ap : ∀ (l : List Per) (E : Nat) (a : List bD) (e : Nat) (t : List bD), e ≤ 2 ^ 40 → (lA l E a = some (e, t) ↔ E ≤ e ∧ iH l (e - E) a = some (0, t))
 | [], E, a, e, t, he => by
   simp only [lA, iH, Option.some.injEq, Prod.mk.injEq]
   constructor
   · rintro ⟨h1, h2⟩; exact ⟨by omega, by omega, h2⟩
   · rintro ⟨h1, h2, h3⟩; exact ⟨by omega, h3⟩
 | x :: l, E, a, e, t, he => by
   have ih := Ap l (E + x.l) (iN a x.c) e t he
   have e1 : e - (E + x.l) = e - E - x.l := by omega
   rw [e1] at ih
   have e2 : x.l ≤ e - E ∧ E ≤ e ↔ E + x.l ≤ e := by omega
   simp only [lA, iH]
   by_cases h0 : x.l = 0
   · rw [if_pos (.inl h0), if_pos (.inl h0)]; simp
   by_cases h1 : x.c = []
   · rw [if_pos (.inr (.inr (.inr (fun h => h.1 h1)))), if_pos (.inr (.inr (.inl h1)))]; simp
   by_cases h2 : bA x.c
   · by_cases h3 : iD a x.c = 0
     · rw [if_pos h3, if_pos h3]
       by_cases h4 : E + x.l ≤ e
       · rw [if_neg (by rintro (h | h | h | h); exact h0 h; omega; omega; exact h ⟨h1, h2⟩), if_neg (by rintro (h | h | h | h); exact h0 h; omega; exact h1 h; exact h h2), ih]
         constructor
         · rintro ⟨_, h⟩; exact ⟨by omega, h⟩
         · rintro ⟨_, h⟩; exact ⟨h4, h⟩
       · constructor
         · intro h
           split at h
           · cases h
           · exact absurd (ih.1 h).1 h4
         · rintro ⟨h5, h⟩
           split at h
           · cases h
           · rename_i hn
             exact absurd (by omega : E + x.l ≤ e) h4
     · rw [if_neg h3, if_neg h3]
       constructor
       · intro h; split at h <;> cases h
       · rintro ⟨_, h⟩; split at h <;> cases h
   · rw [if_pos (.inr (.inr (.inr (fun h => h2 h.2)))), if_pos (.inr (.inr (.inr h2)))]; simp
theorem G9 {p : Pln} (he : p.e ≤ 2 ^ 40) (ht : p.tot ≠ []) : sC p = (decide (p.ps ≠ []) && decide (p.ps.length ≤ 16) && decide (p.s ≤ p.e) && decide (iH p.ps (p.e - p.s) [] = some (0, p.tot))) := by
 unfold sC
 have h := Ap p.ps p.s [] p.e p.tot he
 by_cases h0 : p.ps = []
 · have : ¬ lA p.ps p.s [] = some (p.e, p.tot) := by
    rw [h0]; simp only [lA, Option.some.injEq, Prod.mk.injEq]
    rintro ⟨_, h2⟩; exact ht h2.symm
   rw [decide_eq_false this]; simp [h0]
 · rw [Bool.eq_iff_iff]
   simp only [Bool.and_eq_true, decide_eq_true_eq, h]
   constructor
   · rintro ⟨a, b, c⟩; exact ⟨⟨⟨h0, a⟩, b⟩, c⟩
   · rintro ⟨⟨⟨_, a⟩, b⟩, c⟩; exact ⟨a, b, c⟩
end Go.Vm
namespace Go.Proofs.YtjpnjhlfieklfaaGreat
open Go Go.Vm
attribute [local simp] dM aI dJ opA bH bN cM bP ofValue dC plain aQ aR cA b8 cC cB bY b7 b9 bZ cV gN bW cG cD b6 bU aT aS bO cU aW dQ dR bK aZ cL gA bS dE cF AV.cells AV.bL dF cO eZ bF aV cQ dI dS dV cN aN dP dO fX eY eV cW cT cI List.getElem?_cons_zero List.getElem?_cons_succ mS kE
set_option maxHeartbeats 1600000 in
attribute [local simp] dA List.getElem?_cons_zero List.getElem?_cons_succ oB iK eK in
theorem D6 {σ : St} {p : Pln} (hp : p.Ok) :
  aE Tryz.prog 33 [.agg (iK p)] σ (fun av σ' => av = .v (.bool (bR p)) ∧ σ = σ') := by
 refine aU ?_ rfl
 have hp0 := hp
 have hp2 := @G9 p
 obtain ⟨pk, ps, pe, pt, pp⟩ := p
 obtain ⟨k1, k2, k3, k4, h5⟩ := hp
 have hnil : ((pp.length : Int) == 0) = decide (pp = []) := by cases pp <;> simp <;> omega
 have hnilt : ((pt.length : Int) == 0) = decide (pt = []) := by cases pt <;> simp <;> omega
 have hkn : ∀ n : UInt8, pk = n ↔ (pk.toNat : Int) = (n.toNat : Int) := fun n => ⟨fun e => by rw [e], fun e => UInt8.toNat_inj.1 (Int.ofNat_inj.1 e)⟩
 simp only at hp2
 have hpe0 : ((pe : Int) == 0) = decide (pe = 0) := by rw [Bool.eq_iff_iff]; simp
 have F := And.intro hnil (And.intro hnilt (And.intro hpe0 (True.intro)))
 refine aB Tryz.func33 rfl rfl rfl ?_; refine sr fun _ hJ2 => ?_; apply hJ2; refine sq fun K3 hK3 => ?_; refine sr fun _ hJ5 => ?_; apply hJ5; refine cs (fun c11 => ?_) (fun c11 => ?_)
 · (try exact aK c11); all_goals have c11p := c11; try simp [F] at c11p
   all_goals
    replace F := aF c11 F; (try replace F := aF c11p F); refine sr fun _ hJ7 => ?_; refine gs 15 (fun g2_3 => ?_) (fun g2_3 => ?_)
    · (try exact aK g2_3); all_goals have g2_3p := g2_3; try simp [F] at g2_3p
      all_goals
       replace F := aF g2_3 F; (try replace F := aF g2_3p F); (iterate 3 refine go2 (k := ?_)); refine gs 20 (fun g2_8 => ?_) (fun g2_8 => ?_)
       · (try exact aK g2_8); all_goals have g2_8p := g2_8; try simp [F] at g2_8p
         all_goals
          replace F := aF g2_8 F; (try replace F := aF g2_8p F); (iterate 4 refine go2 (k := ?_)); refine gs 26 (fun g2_14 => ?_) (fun g2_14 => ?_)
          · (try exact aK g2_14); all_goals have g2_14p := g2_14; try simp [F] at g2_14p
            all_goals
             replace F := aF g2_14 F; (try replace F := aF g2_14p F); (iterate 4 refine go2 (k := ?_)); apply hJ7; refine ra ?_; exact gcr (hA := by simp only [aP]; simp [bR, hkn, F]; exact Wk.refl _)
          (try exact aK g2_14); all_goals have g2_14p := g2_14; try simp [F] at g2_14p
          all_goals
           replace F := aF g2_14 F; (try replace F := aF g2_14p F); (iterate 4 refine no2 (k := ?_)); apply hJ7; refine ra ?_; exact gcr (hA := by simp only [aP]; simp [bR, hkn, F]; exact Wk.refl _)
       (try exact aK g2_8); all_goals have g2_8p := g2_8; try simp [F] at g2_8p
       all_goals
        replace F := aF g2_8 F; (try replace F := aF g2_8p F); (iterate 8 refine no2 (k := ?_)); apply hJ7; refine ra ?_; exact gcr (hA := by simp only [aP]; simp [bR, hkn, F]; exact Wk.refl _)
    (try exact aK g2_3); all_goals have g2_3p := g2_3; try simp [F] at g2_3p
    all_goals
     replace F := aF g2_3 F; (try replace F := aF g2_3p F); (iterate 11 refine no2 (k := ?_)); apply hJ7; refine ra ?_; exact gcr (hA := by simp only [aP]; simp [bR, hkn, F]; exact Wk.refl _)
 (try exact aK c11); all_goals have c11p := c11; try simp [F] at c11p
 all_goals
  replace F := aF c11 F; (try replace F := aF c11p F); refine aA ?_; apply hK3; refine sq fun K8 hK8 => ?_; refine sr fun _ hJ10 => ?_; refine gs 35 (fun g3_3 => ?_) (fun g3_3 => ?_)
  · (try exact aK g3_3); all_goals have g3_3p := g3_3; try simp [F] at g3_3p
    all_goals
     replace F := aF g3_3 F; try replace F := aF g3_3p F
     have n1 : ¬ (pk.toNat : Int) = 1 ∧ ¬ (pk.toNat : Int) = 2 ∧ ¬ (pk.toNat : Int) = 3 ∧ ¬ (pk.toNat : Int) = 4 ∧ ¬ (pk.toNat : Int) = 5 := by have h := g3_3; simp at h; omega
     replace F := aF n1 F; (iterate 11 refine no2 (k := ?_)); apply hJ10; refine ct ?_; refine sr fun _ hJ12 => ?_; apply hJ12; refine ra ?_; exact gcr (hA := by simp only [aP]; simp [bR, hkn, F]; exact Wk.refl _)
  (try exact aK g3_3); all_goals have g3_3p := g3_3; try simp [F] at g3_3p
  all_goals
   replace F := aF g3_3 F; (try replace F := aF g3_3p F); (iterate 4 refine go2 (k := ?_)); refine gs 41 (fun g3_9 => ?_) (fun g3_9 => ?_)
   · (try exact aK g3_9); all_goals have g3_9p := g3_9; try simp [F] at g3_9p
     all_goals
      replace F := aF g3_9 F; (try replace F := aF g3_9p F); (iterate 7 refine no2 (k := ?_)); apply hJ10; refine ct ?_; refine sr fun _ hJ14 => ?_; apply hJ14; refine ra ?_; exact gcr (hA := by simp only [aP]; simp [bR, hkn, F]; exact Wk.refl _)
   (try exact aK g3_9); all_goals have g3_9p := g3_9; try simp [F] at g3_9p
   all_goals
    replace F := aF g3_9 F; (try replace F := aF g3_9p F); (iterate 2 refine go2 (k := ?_)); refine ca (c := rO k3) (k := ?_); rintro _ _ ⟨rfl, rfl⟩; (try simp [F]); refine go2 (k := ?_); refine gs 47 (fun g3_15 => ?_) (fun g3_15 => ?_)
    · (try exact aK g3_15); all_goals have g3_15p := g3_15; try simp [F] at g3_15p
      all_goals
       replace F := aF g3_15 F; (try replace F := aF g3_15p F); (iterate 3 refine no2 (k := ?_)); apply hJ10; refine ct ?_; refine sr fun _ hJ16 => ?_; apply hJ16; refine ra ?_; exact gcr (hA := by simp only [aP]; simp [bR, hkn, F]; exact Wk.refl _)
    (try exact aK g3_15); all_goals have g3_15p := g3_15; try simp [F] at g3_15p
    all_goals
     replace F := aF g3_15 F; (try replace F := aF g3_15p F); (iterate 3 refine go2 (k := ?_)); apply hJ10; refine cs (fun c51 => ?_) (fun c51 => ?_)
     · (try exact aK c51); all_goals have c51p := c51; try simp [F] at c51p
       all_goals
        replace F := aF c51 F; try replace F := aF c51p F
        have n1 : 1099511627776 < pe := by have h := c51; simp at h; omega
        replace F := aF n1 F; refine sr fun _ hJ18 => ?_; apply hJ18; refine ra ?_; exact gcr (hA := by simp only [aP]; simp [bR, hkn, F]; exact Wk.refl _)
     (try exact aK c51); all_goals have c51p := c51; try simp [F] at c51p
     all_goals
      replace F := aF c51 F; try replace F := aF c51p F
      have hs3' : ¬ 1099511627776 < pe := by have h := c51; simp at h; omega
      have hs1 : ¬ pt = [] := by simp [F]
      have hs2 : bA pt := by simp [F]
      have hb := hp2 (by omega) hs1
      replace F := aF hb (And.intro hs3' F); refine aA ?_; apply hK8; refine sq fun K19 hK19 => ?_; refine sr fun _ hJ21 => ?_; refine gs 55 (fun g5_3 => ?_) (fun g5_3 => ?_)
      · (try exact aK g5_3); all_goals have g5_3p := g5_3; try simp [F] at g5_3p
        all_goals
         replace F := aF g5_3 F; (try replace F := aF g5_3p F); (iterate 3 refine go2 (k := ?_)); apply hJ21; refine cs (fun c59 => ?_) (fun c59 => ?_)
         · (try exact aK c59); all_goals have c59p := c59; try simp [F] at c59p
           all_goals
            replace F := aF c59 F; (try replace F := aF c59p F); refine sq fun K22 hK22 => ?_; refine sr fun _ hJ24 => ?_; apply hJ24; refine cs (fun c63 => ?_) (fun c63 => ?_)
            · (try exact aK c63); all_goals have c63p := c63; try simp [F] at c63p
              all_goals
               replace F := aF c63 F; try replace F := aF c63p F
               have n1 : ¬ pp = [] := fun e => by rw [e] at c63; simp at c63
               replace F := aF n1 F; refine sr fun _ hJ26 => ?_; apply hJ26; refine ra ?_; exact gcr (hA := by simp only [aP]; simp [bR, hkn, F]; exact Wk.refl _)
            (try exact aK c63); all_goals have c63p := c63; try simp [F] at c63p
            all_goals
             replace F := aF c63 F; (try replace F := aF c63p F); refine aA ?_; apply hK22; refine sr fun _ hJ28 => ?_; refine gs 67 (fun g8_3 => ?_) (fun g8_3 => ?_)
             · (try exact aK g8_3); all_goals have g8_3p := g8_3; try simp [F] at g8_3p
               all_goals
                replace F := aF g8_3 F; (try replace F := aF g8_3p F); (iterate 5 refine go2 (k := ?_)); refine gs 74 (fun g8_10 => ?_) (fun g8_10 => ?_)
                · (try exact aK g8_10); all_goals have g8_10p := g8_10; try simp [F] at g8_10p
                  all_goals
                   replace F := aF g8_10 F; (try replace F := aF g8_10p F); (iterate 21 refine no2 (k := ?_)); apply hJ28; refine ra ?_; exact gcr (hA := by simp only [aP]; simp [bR, hkn, F]; exact Wk.refl _)
                (try exact aK g8_10); all_goals have g8_10p := g8_10; try simp [F] at g8_10p
                all_goals
                 replace F := aF g8_10 F; (try replace F := aF g8_10p F); (iterate 4 refine go2 (k := ?_)); refine gs 78 (fun g8_14 => ?_) (fun g8_14 => ?_)
                 · (try exact aK g8_14); all_goals have g8_14p := g8_14; try simp [F] at g8_14p
                   all_goals
                    replace F := aF g8_14 F; (try replace F := aF g8_14p F); (iterate 4 refine go2 (k := ?_)); refine gs 84 (fun g8_20 => ?_) (fun g8_20 => ?_)
                    · (try exact aK g8_20); all_goals have g8_20p := g8_20; try simp [F] at g8_20p
                      all_goals
                       replace F := aF g8_20 F; (try replace F := aF g8_20p F); (iterate 13 refine no2 (k := ?_)); apply hJ28; refine ra ?_; exact gcr (hA := by simp only [aP]; simp [bR, hkn, F]; exact Wk.refl _)
                    (try exact aK g8_20); all_goals have g8_20p := g8_20; try simp [F] at g8_20p
                    all_goals
                     replace F := aF g8_20 F; (try replace F := aF g8_20p F); (iterate 4 refine go2 (k := ?_)); refine gs 88 (fun g8_24 => ?_) (fun g8_24 => ?_)
                     · (try exact aK g8_24); all_goals have g8_24p := g8_24; try simp [F] at g8_24p
                       all_goals
                        replace F := aF g8_24 F; (try replace F := aF g8_24p F); (iterate 5 refine go2 (k := ?_)); refine gs 93 (fun g8_29 => ?_) (fun g8_29 => ?_)
                        · (try exact aK g8_29); all_goals have g8_29p := g8_29; try simp [F] at g8_29p
                          all_goals
                           replace F := aF g8_29 F; (try replace F := aF g8_29p F); (iterate 4 refine go2 (k := ?_)); apply hJ28; refine ra ?_; exact gcr (hA := by simp only [aP]; simp [bR, hkn, F]; exact Wk.refl _)
                        (try exact aK g8_29); all_goals have g8_29p := g8_29; try simp [F] at g8_29p
                        all_goals
                         replace F := aF g8_29 F; (try replace F := aF g8_29p F); (iterate 3 refine no2 (k := ?_)); refine go2 (k := ?_); apply hJ28; refine ra ?_; exact gcr (hA := by simp only [aP]; simp [bR, hkn, F]; exact Wk.refl _)
                     (try exact aK g8_24); all_goals have g8_24p := g8_24; try simp [F] at g8_24p
                     all_goals
                      replace F := aF g8_24 F; (try replace F := aF g8_24p F); (iterate 3 refine no2 (k := ?_)); (iterate 2 refine go2 (k := ?_)); (iterate 3 refine no2 (k := ?_)); refine go2 (k := ?_); apply hJ28; refine ra ?_; exact gcr (hA := by simp only [aP]; simp [bR, hkn, F]; exact Wk.refl _)
                 (try exact aK g8_14); all_goals have g8_14p := g8_14; try simp [F] at g8_14p
                 all_goals
                  replace F := aF g8_14 F; (try replace F := aF g8_14p F); (iterate 3 refine no2 (k := ?_)); (iterate 5 refine go2 (k := ?_)); refine gs 88 (fun g8_24 => ?_) (fun g8_24 => ?_)
                  · (try exact aK g8_24); all_goals have g8_24p := g8_24; try simp [F] at g8_24p
                    all_goals
                     replace F := aF g8_24 F; (try replace F := aF g8_24p F); (iterate 5 refine go2 (k := ?_)); refine gs 93 (fun g8_29 => ?_) (fun g8_29 => ?_)
                     · (try exact aK g8_29); all_goals have g8_29p := g8_29; try simp [F] at g8_29p
                       all_goals
                        replace F := aF g8_29 F; (try replace F := aF g8_29p F); (iterate 4 refine go2 (k := ?_)); apply hJ28; refine ra ?_; exact gcr (hA := by simp only [aP]; simp [bR, hkn, F]; exact Wk.refl _)
                     (try exact aK g8_29); all_goals have g8_29p := g8_29; try simp [F] at g8_29p
                     all_goals
                      replace F := aF g8_29 F; (try replace F := aF g8_29p F); (iterate 3 refine no2 (k := ?_)); refine go2 (k := ?_); apply hJ28; refine ra ?_; exact gcr (hA := by simp only [aP]; simp [bR, hkn, F]; exact Wk.refl _)
                  (try exact aK g8_24); all_goals have g8_24p := g8_24; try simp [F] at g8_24p
                  all_goals
                   replace F := aF g8_24 F; (try replace F := aF g8_24p F); (iterate 3 refine no2 (k := ?_)); (iterate 2 refine go2 (k := ?_)); (iterate 3 refine no2 (k := ?_)); refine go2 (k := ?_); apply hJ28; refine ra ?_; exact gcr (hA := by simp only [aP]; simp [bR, hkn, F]; exact Wk.refl _)
             (try exact aK g8_3); all_goals have g8_3p := g8_3; try simp [F] at g8_3p
             all_goals
              replace F := aF g8_3 F; (try replace F := aF g8_3p F); (iterate 5 refine no2 (k := ?_)); (iterate 4 refine go2 (k := ?_)); refine gs 78 (fun g8_14 => ?_) (fun g8_14 => ?_)
              · (try exact aK g8_14); all_goals have g8_14p := g8_14; try simp [F] at g8_14p
                all_goals
                 replace F := aF g8_14 F; (try replace F := aF g8_14p F); (iterate 4 refine go2 (k := ?_)); refine gs 84 (fun g8_20 => ?_) (fun g8_20 => ?_)
                 · (try exact aK g8_20); all_goals have g8_20p := g8_20; try simp [F] at g8_20p
                   all_goals
                    replace F := aF g8_20 F; (try replace F := aF g8_20p F); (iterate 13 refine no2 (k := ?_)); apply hJ28; refine ra ?_; exact gcr (hA := by simp only [aP]; simp [bR, hkn, F]; exact Wk.refl _)
                 (try exact aK g8_20); all_goals have g8_20p := g8_20; try simp [F] at g8_20p
                 all_goals
                  replace F := aF g8_20 F; (try replace F := aF g8_20p F); (iterate 4 refine go2 (k := ?_)); refine gs 88 (fun g8_24 => ?_) (fun g8_24 => ?_)
                  · (try exact aK g8_24); all_goals have g8_24p := g8_24; try simp [F] at g8_24p
                    all_goals
                     replace F := aF g8_24 F; (try replace F := aF g8_24p F); (iterate 5 refine go2 (k := ?_)); refine gs 93 (fun g8_29 => ?_) (fun g8_29 => ?_)
                     · (try exact aK g8_29); all_goals have g8_29p := g8_29; try simp [F] at g8_29p
                       all_goals
                        replace F := aF g8_29 F; (try replace F := aF g8_29p F); (iterate 4 refine go2 (k := ?_)); apply hJ28; refine ra ?_; exact gcr (hA := by simp only [aP]; simp [bR, hkn, F]; exact Wk.refl _)
                     (try exact aK g8_29); all_goals have g8_29p := g8_29; try simp [F] at g8_29p
                     all_goals
                      replace F := aF g8_29 F; (try replace F := aF g8_29p F); (iterate 3 refine no2 (k := ?_)); refine go2 (k := ?_); apply hJ28; refine ra ?_; exact gcr (hA := by simp only [aP]; simp [bR, hkn, F]; exact Wk.refl _)
                  (try exact aK g8_24); all_goals have g8_24p := g8_24; try simp [F] at g8_24p
                  all_goals
                   replace F := aF g8_24 F; (try replace F := aF g8_24p F); (iterate 3 refine no2 (k := ?_)); (iterate 2 refine go2 (k := ?_)); (iterate 3 refine no2 (k := ?_)); refine go2 (k := ?_); apply hJ28; refine ra ?_; exact gcr (hA := by simp only [aP]; simp [bR, hkn, F]; exact Wk.refl _)
              (try exact aK g8_14); all_goals have g8_14p := g8_14; try simp [F] at g8_14p
              all_goals
               replace F := aF g8_14 F; (try replace F := aF g8_14p F); (iterate 3 refine no2 (k := ?_)); (iterate 5 refine go2 (k := ?_)); refine gs 88 (fun g8_24 => ?_) (fun g8_24 => ?_)
               · (try exact aK g8_24); all_goals have g8_24p := g8_24; try simp [F] at g8_24p
                 all_goals
                  replace F := aF g8_24 F; (try replace F := aF g8_24p F); (iterate 5 refine go2 (k := ?_)); refine gs 93 (fun g8_29 => ?_) (fun g8_29 => ?_)
                  · (try exact aK g8_29); all_goals have g8_29p := g8_29; try simp [F] at g8_29p
                    all_goals
                     replace F := aF g8_29 F; (try replace F := aF g8_29p F); (iterate 4 refine go2 (k := ?_)); apply hJ28; refine ra ?_; exact gcr (hA := by simp only [aP]; simp [bR, hkn, F]; exact Wk.refl _)
                  (try exact aK g8_29); all_goals have g8_29p := g8_29; try simp [F] at g8_29p
                  all_goals
                   replace F := aF g8_29 F; (try replace F := aF g8_29p F); (iterate 3 refine no2 (k := ?_)); refine go2 (k := ?_); apply hJ28; refine ra ?_; exact gcr (hA := by simp only [aP]; simp [bR, hkn, F]; exact Wk.refl _)
               (try exact aK g8_24); all_goals have g8_24p := g8_24; try simp [F] at g8_24p
               all_goals
                replace F := aF g8_24 F; (try replace F := aF g8_24p F); (iterate 3 refine no2 (k := ?_)); (iterate 2 refine go2 (k := ?_)); (iterate 3 refine no2 (k := ?_)); refine go2 (k := ?_); apply hJ28; refine ra ?_; exact gcr (hA := by simp only [aP]; simp [bR, hkn, F]; exact Wk.refl _)
         (try exact aK c59); all_goals have c59p := c59; try simp [F] at c59p
         all_goals
          replace F := aF c59 F; (try replace F := aF c59p F); refine aA ?_; apply hK19; refine sq fun K29 hK29 => ?_; refine sr fun _ hJ31 => ?_; refine gs 103 (fun g9_4 => ?_) (fun g9_4 => ?_)
          · (try exact aK g9_4); all_goals have g9_4p := g9_4; try simp [F] at g9_4p
            all_goals
             replace F := aF g9_4 F; try replace F := aF g9_4p F
             have n0 : pp = [] := by simpa using g9_4
             have n2 : sC ⟨pk, ps, pe, pt, []⟩ = false := by rw [← n0, hb]; simp [n0]
             replace F := aF n2 F; (iterate 9 refine no2 (k := ?_)); apply hJ31; refine ct ?_; refine sr fun _ hJ33 => ?_; apply hJ33; refine ra ?_; exact gcr (hA := by simp only [aP]; simp [bR, hkn, F]; exact Wk.refl _)
          (try exact aK g9_4); all_goals have g9_4p := g9_4; try simp [F] at g9_4p
          all_goals
           replace F := aF g9_4 F; (try replace F := aF g9_4p F); (iterate 4 refine go2 (k := ?_)); refine gs 109 (fun g9_10 => ?_) (fun g9_10 => ?_)
           · (try exact aK g9_10); all_goals have g9_10p := g9_10; try simp [F] at g9_10p
             all_goals
              replace F := aF g9_10 F; try replace F := aF g9_10p F
              have n1 : ¬ pp.length ≤ 16 := by have h := g9_10; simp at h; omega
              have n2 : sC ⟨pk, ps, pe, pt, pp⟩ = false := by rw [hb]; simp [n1]
              replace F := aF n2 F; (iterate 5 refine no2 (k := ?_)); apply hJ31; refine ct ?_; refine sr fun _ hJ35 => ?_; apply hJ35; refine ra ?_; exact gcr (hA := by simp only [aP]; simp [bR, hkn, F]; exact Wk.refl _)
           (try exact aK g9_10); all_goals have g9_10p := g9_10; try simp [F] at g9_10p
           all_goals
            replace F := aF g9_10 F; (try replace F := aF g9_10p F); (iterate 5 refine go2 (k := ?_)); apply hJ31; refine cs (fun c115 => ?_) (fun c115 => ?_)
            · (try exact aK c115); all_goals have c115p := c115; try simp [F] at c115p
              all_goals
               replace F := aF c115 F; try replace F := aF c115p F
               have n1 : pp = [] ∨ ¬ pp.length ≤ 16 ∨ ¬ ps ≤ pe := by first | (have h := c115; simp at h; omega) | (have h := g9_10; simp at h; omega) | exact .inl (by simpa using g9_4)
               have n2 : sC ⟨pk, ps, pe, pt, pp⟩ = false := by rw [hb]; rcases n1 with h | h | h <;> simp [h]
               replace F := aF n2 F; refine sr fun _ hJ37 => ?_; apply hJ37; refine ra ?_; exact gcr (hA := by simp only [aP]; simp [bR, hkn, F]; exact Wk.refl _)
            (try exact aK c115); all_goals have c115p := c115; try simp [F] at c115p
            all_goals
             replace F := aF c115 F; (try replace F := aF c115p F); refine aA ?_; apply hK29; refine sq fun K38 hK38 => ?_
             have hse : ps ≤ pe := by have h := c115; simp at h; omega
             have hp16 : pp.length ≤ 16 := by have h := g9_10; simp at h; omega
             have hpn : ¬ pp = [] := by simp [F]
             have hpB : sC ⟨pk, ps, pe, pt, pp⟩ = decide (iH pp (pe - ps) [] = some (0, pt)) := by rw [hb]; simp [hse, hp16, hpn]
             have hw0 : IntKind.u64.wrap ((pe : Int) - ps) = ((pe - ps : Nat) : Int) := by rw [eI (by omega)]; omega
             replace F := aF hpB (And.intro hw0 F); refine rg' (h := fun J39 hJ39 => ?_); apply hJ39; apply hK38; refine sr fun _ hJ41 => ?_; apply hJ41; refine sq fun K42 hK42 => ?_; refine sq fun K43 hK43 => ?_; refine oH 4 5 (k := ?_); refine rg' (h := fun J44 hJ44 => ?_); apply hJ44; apply hK43; refine aD ?_; refine fA (X := Eh) [1] (fun q ρ σ1 => (q.i ≤ pp.length) ∧ (iH pp (pe - ps) [] = iH (pp.drop q.i) q.e q.a) ∧ (q.e < 2 ^ 64) ∧ (bA q.a) ∧ (ρ 3 = .v (.int .u64 q.e)) ∧ (ρ 4 = .sl 5 (aL q.a) q.a.length .shut) ∧ (ρ 5 = .v (.int .i64 q.i)) ∧ (σ1 = { σ with objs := σ.objs ++ [[.v (.int .u8 pk.toNat), .v (.int .u64 ps), .v (.int .u64 pe), .sl 5 (aL pt) pt.length .shut, .sl 2 (e6 pp) pp.length .shut]] })) (fun q => pp.length - q.i) (⟨0, pe - ps, []⟩) ?st1 ?rd1
             case st1 =>
              refine ⟨lp, ?_, lp, ?_, lp, lp, lp, ?_⟩
              · rfl
              · exact Go.Vm.fC
              · simp [F]
             case rd1 =>
              rintro q ρ1 σ1 hF1 ⟨hi, hE, hqe, hqr, h3, h4, h17, hσ⟩; obtain rfl := hσ.symm
              have f1 := dU hF1
              (try simp [dT, F] at f1); replace F := aF h3 F; replace F := aF h4 F; replace F := aF h17 F; (try replace F := aF f1 F); refine sq fun K45 hK45 => ?_; refine sr fun _ hJ47 => ?_; apply hJ47; refine cs (fun c125 => ?_) (fun c125 => ?_)
              · (try exact aK c125); all_goals have c125p := c125; try simp [F] at c125p
                all_goals
                 replace F := aF c125 F; (try replace F := aF c125p F); refine aA ?_; apply hK45; refine sq fun K48 hK48 => ?_; refine aD ?_; refine sq fun K49 hK49 => ?_
                 obtain ⟨i, E, S⟩ := q
                 simp only at hi hE hqe hqr h3 h4 h17
                 have hlt : i < pp.length := by simp at c125; omega
                 have hat := jS hlt
                 have hb1 : i * 2 + 2 ≤ pp.length * 2 := by omega
                 have hx5 := h5 _ (List.getElem_mem hlt)
                 have hcons : pp.drop i = pp[i] :: pp.drop (i + 1) := List.drop_eq_getElem_cons hlt
                 obtain ⟨x, hx⟩ : ∃ x, x = pp[i] := ⟨_, rfl⟩
                 rw [← hx] at hat hx5 hcons
                 rw [hcons] at hE
                 obtain ⟨xl, xc⟩ := x
                 obtain ⟨hxl, hxc⟩ := hx5
                 simp only at hxl hxc
                 simp only [iH] at hE
                 have hnilx : ((xc.length : Int) == 0) = decide (xc = []) := by cases xc <;> simp <;> omega
                 replace F := aF hlt F; replace F := aF hat F; replace F := aF hb1 F; replace F := aF hnilx F; refine rg' (h := fun J50 hJ50 => ?_); apply hJ50; apply hK49; refine sq fun K51 hK51 => ?_; refine sr fun _ hJ53 => ?_; refine gs 136 (fun g17_3 => ?_) (fun g17_3 => ?_)
                 · (try exact aK g17_3); all_goals have g17_3p := g17_3; try simp [F] at g17_3p
                   all_goals
                    replace F := aF g17_3 F; try replace F := aF g17_3p F
                    have hbad : iH pp (pe - ps) [] = none := by rw [hE]; exact if_pos (.inl (by have h := g17_3; simp at h; omega))
                    replace F := aF hbad F; (iterate 12 refine no2 (k := ?_)); apply hJ53; refine ct ?_; refine sr fun _ hJ55 => ?_; apply hJ55; refine ra ?_; exact gcr (hA := by simp only [aP]; simp [bR, hkn, F]; exact Wk.refl _)
                 (try exact aK g17_3); all_goals have g17_3p := g17_3; try simp [F] at g17_3p
                 all_goals
                  replace F := aF g17_3 F; (try replace F := aF g17_3p F); (iterate 4 refine go2 (k := ?_)); refine gs 142 (fun g17_9 => ?_) (fun g17_9 => ?_)
                  · (try exact aK g17_9); all_goals have g17_9p := g17_9; try simp [F] at g17_9p
                    all_goals
                     replace F := aF g17_9 F; try replace F := aF g17_9p F
                     have hbad : iH pp (pe - ps) [] = none := by rw [hE]; exact if_pos (.inr (.inl (by have h := g17_9; simp at h; omega)))
                     replace F := aF hbad F; (iterate 8 refine no2 (k := ?_)); apply hJ53; refine ct ?_; refine sr fun _ hJ57 => ?_; apply hJ57; refine ra ?_; exact gcr (hA := by simp only [aP]; simp [bR, hkn, F]; exact Wk.refl _)
                  (try exact aK g17_9); all_goals have g17_9p := g17_9; try simp [F] at g17_9p
                  all_goals
                   replace F := aF g17_9 F; (try replace F := aF g17_9p F); (iterate 4 refine go2 (k := ?_)); refine gs 148 (fun g17_15 => ?_) (fun g17_15 => ?_)
                   · (try exact aK g17_15); all_goals have g17_15p := g17_15; try simp [F] at g17_15p
                     all_goals
                      replace F := aF g17_15 F; try replace F := aF g17_15p F
                      have hbad : iH pp (pe - ps) [] = none := by rw [hE]; exact if_pos (.inr (.inr (.inl (by simpa using g17_15))))
                      replace F := aF hbad F; (iterate 4 refine no2 (k := ?_)); apply hJ53; refine ct ?_; refine sr fun _ hJ59 => ?_; apply hJ59; refine ra ?_; exact gcr (hA := by simp only [aP]; simp [bR, hkn, F]; exact Wk.refl _)
                   (try exact aK g17_15); all_goals have g17_15p := g17_15; try simp [F] at g17_15p
                   all_goals
                    replace F := aF g17_15 F; (try replace F := aF g17_15p F); (iterate 2 refine go2 (k := ?_)); refine ca (c := rO hxc) (k := ?_); rintro _ _ ⟨rfl, rfl⟩; (try simp [F]); refine go2 (k := ?_); apply hJ53; refine cs (fun c153 => ?_) (fun c153 => ?_)
                    · (try exact aK c153); all_goals have c153p := c153; try simp [F] at c153p
                      all_goals
                       replace F := aF c153 F; try replace F := aF c153p F
                       have hbad : iH pp (pe - ps) [] = none := by rw [hE]; exact if_pos (.inr (.inr (.inr (by simpa using c153))))
                       replace F := aF hbad F; refine sr fun _ hJ61 => ?_; apply hJ61; refine ra ?_; exact gcr (hA := by simp only [aP]; simp [bR, hkn, F]; exact Wk.refl _)
                    (try exact aK c153); all_goals have c153p := c153; try simp [F] at c153p
                    all_goals
                     replace F := aF c153 F; try replace F := aF c153p F
                     have n1 : ¬ xl = 0 := by have h := g17_3; simp at h; omega
                     have n2 : ¬ E < xl := by have h := g17_9; simp at h; omega
                     have n3 : ¬ xc = [] := by simpa using g17_15
                     have hxr : bA xc := by simpa using c153
                     have hgood : ¬ (xl = 0 ∨ E < xl ∨ xc = [] ∨ ¬ bA xc) := fun h => h.elim n1 (fun h => h.elim n2 (fun h => h.elim n3 (fun h => h hxr)))
                     have hw2 : E - xl < 2 ^ 64 := by omega
                     obtain ⟨S2, hS2⟩ : ∃ S2, S2 = iN S xc := ⟨_, rfl⟩
                     have hS2r : bA S2 := by rw [hS2]; exact j3 _ _
                     rw [← hS2] at hE
                     rw [if_neg hgood] at hE
                     have hw : IntKind.u64.wrap ((E : Int) - xl) = ((E - xl : Nat) : Int) := by rw [eI (by omega)]; omega
                     replace F := aF hw F; refine aA ?_; apply hK51; refine sr fun _ hJ63 => ?_; apply hJ63; refine sr fun _ hJ65 => ?_; refine ca (c := (hS2 ▸ qW hqr hxr)) (k := ?_); rintro _ _ ⟨rfl, rfl⟩; (try simp [F]); apply hJ65; refine sq fun K66 hK66 => ?_; refine sr fun _ hJ68 => ?_; apply hJ68; refine cs (fun c166 => ?_) (fun c166 => ?_)
                     · (try exact aK c166); all_goals have c166p := c166; try simp [F] at c166p
                       all_goals
                        replace F := aF c166 F; try replace F := aF c166p F
                        have hne : ¬ iD S xc = 0 := by simpa using c166
                        rw [if_neg hne] at hE
                        replace F := aF hE F; refine sr fun _ hJ70 => ?_; apply hJ70; refine ra ?_; exact gcr (hA := by simp only [aP]; simp [bR, hkn, F]; exact Wk.refl _)
                     (try exact aK c166); all_goals have c166p := c166; try simp [F] at c166p
                     all_goals
                      replace F := aF c166 F; try replace F := aF c166p F
                      have hye : iD S xc = 0 := by simpa using c166
                      rw [if_pos hye] at hE
                      refine aA ?_; apply hK66; refine rg' (h := fun J71 hJ71 => ?_); apply hJ71; apply hK48; refine rg' (h := fun J72 hJ72 => ?_); apply hJ72; refine ⟨gk, (⟨i + 1, E - xl, S2⟩), ⟨kpG, lpG, ?_, ?_, ?_, lpG, lpG, lpG, lpG⟩, lpG⟩
                      · exact hE
                      · exact hw2
                      · exact hS2r
              (try exact aK c125); all_goals have c125p := c125; try simp [F] at c125p
              all_goals
               replace F := aF c125 F; try replace F := aF c125p F
               have hend : iH pp (pe - ps) [] = some (q.e, q.a) := by rw [hE, List.drop_of_length_le (by have h := c125; simp at h; omega)]; rfl
               replace F := aF hend F; refine bJ ?_; apply hK42; refine sr fun _ hJ74 => ?_; refine gs 170 (fun g24_2 => ?_) (fun g24_2 => ?_)
               · (try exact aK g24_2); all_goals have g24_2p := g24_2; try simp [F] at g24_2p
                 all_goals
                  replace F := aF g24_2 F; try replace F := aF g24_2p F
                  have hee : q.e = 0 := by have h := g24_2; simp at h; omega
                  replace F := aF hee F; iterate 3 refine go2 (k := ?_)
                  refine ca (c := xX (by have := dZ hqr; omega) k3) (k := ?_)
                  rintro _ _ ⟨rfl, rfl⟩; (try simp [F]); apply hJ74; refine ra ?_; exact gcr (hA := by simp only [aP]; simp [bR, hkn, F]; exact Wk.refl _)
               (try exact aK g24_2); all_goals have g24_2p := g24_2; try simp [F] at g24_2p
               all_goals
                replace F := aF g24_2 F; try replace F := aF g24_2p F
                have hee : ¬ q.e = 0 := by have h := g24_2; simp at h; omega
                replace F := aF hee F; (iterate 4 refine no2 (k := ?_)); apply hJ74; refine ra ?_; exact gcr (hA := by simp only [aP]; simp [bR, hkn, F]; exact Wk.refl _)
      (try exact aK g5_3); all_goals have g5_3p := g5_3; try simp [F] at g5_3p
      all_goals
       replace F := aF g5_3 F; (try replace F := aF g5_3p F); (iterate 3 refine no2 (k := ?_)); apply hJ21; refine cf ?_; refine aA ?_; apply hK19; refine sq fun K75 hK75 => ?_; refine sr fun _ hJ77 => ?_; refine gs 103 (fun g9_4 => ?_) (fun g9_4 => ?_)
       · (try exact aK g9_4); all_goals have g9_4p := g9_4; try simp [F] at g9_4p
         all_goals
          replace F := aF g9_4 F; try replace F := aF g9_4p F
          have n0 : pp = [] := by simpa using g9_4
          have n2 : sC ⟨pk, ps, pe, pt, []⟩ = false := by rw [← n0, hb]; simp [n0]
          replace F := aF n2 F; (iterate 9 refine no2 (k := ?_)); apply hJ77; refine ct ?_; refine sr fun _ hJ79 => ?_; apply hJ79; refine ra ?_; exact gcr (hA := by simp only [aP]; simp [bR, hkn, F]; exact Wk.refl _)
       (try exact aK g9_4); all_goals have g9_4p := g9_4; try simp [F] at g9_4p
       all_goals
        replace F := aF g9_4 F; (try replace F := aF g9_4p F); (iterate 4 refine go2 (k := ?_)); refine gs 109 (fun g9_10 => ?_) (fun g9_10 => ?_)
        · (try exact aK g9_10); all_goals have g9_10p := g9_10; try simp [F] at g9_10p
          all_goals
           replace F := aF g9_10 F; try replace F := aF g9_10p F
           have n1 : ¬ pp.length ≤ 16 := by have h := g9_10; simp at h; omega
           have n2 : sC ⟨pk, ps, pe, pt, pp⟩ = false := by rw [hb]; simp [n1]
           replace F := aF n2 F; (iterate 5 refine no2 (k := ?_)); apply hJ77; refine ct ?_; refine sr fun _ hJ81 => ?_; apply hJ81; refine ra ?_; exact gcr (hA := by simp only [aP]; simp [bR, hkn, F]; exact Wk.refl _)
        (try exact aK g9_10); all_goals have g9_10p := g9_10; try simp [F] at g9_10p
        all_goals
         replace F := aF g9_10 F; (try replace F := aF g9_10p F); (iterate 5 refine go2 (k := ?_)); apply hJ77; refine cs (fun c115 => ?_) (fun c115 => ?_)
         · (try exact aK c115); all_goals have c115p := c115; try simp [F] at c115p
           all_goals
            replace F := aF c115 F; try replace F := aF c115p F
            have n1 : pp = [] ∨ ¬ pp.length ≤ 16 ∨ ¬ ps ≤ pe := by first | (have h := c115; simp at h; omega) | (have h := g9_10; simp at h; omega) | exact .inl (by simpa using g9_4)
            have n2 : sC ⟨pk, ps, pe, pt, pp⟩ = false := by rw [hb]; rcases n1 with h | h | h <;> simp [h]
            replace F := aF n2 F; refine sr fun _ hJ83 => ?_; apply hJ83; refine ra ?_; exact gcr (hA := by simp only [aP]; simp [bR, hkn, F]; exact Wk.refl _)
         (try exact aK c115); all_goals have c115p := c115; try simp [F] at c115p
         all_goals
          replace F := aF c115 F; (try replace F := aF c115p F); refine aA ?_; apply hK75; refine sq fun K84 hK84 => ?_
          have hse : ps ≤ pe := by have h := c115; simp at h; omega
          have hp16 : pp.length ≤ 16 := by have h := g9_10; simp at h; omega
          have hpn : ¬ pp = [] := by simp [F]
          have hpB : sC ⟨pk, ps, pe, pt, pp⟩ = decide (iH pp (pe - ps) [] = some (0, pt)) := by rw [hb]; simp [hse, hp16, hpn]
          have hw0 : IntKind.u64.wrap ((pe : Int) - ps) = ((pe - ps : Nat) : Int) := by rw [eI (by omega)]; omega
          replace F := aF hpB (And.intro hw0 F); refine rg' (h := fun J85 hJ85 => ?_); apply hJ85; apply hK84; refine sr fun _ hJ87 => ?_; apply hJ87; refine sq fun K88 hK88 => ?_; refine sq fun K89 hK89 => ?_; refine oH 4 5 (k := ?_); refine rg' (h := fun J90 hJ90 => ?_); apply hJ90; apply hK89; refine aD ?_; refine fA (X := Eh) [1] (fun q ρ σ1 => (q.i ≤ pp.length) ∧ (iH pp (pe - ps) [] = iH (pp.drop q.i) q.e q.a) ∧ (q.e < 2 ^ 64) ∧ (bA q.a) ∧ (ρ 3 = .v (.int .u64 q.e)) ∧ (ρ 4 = .sl 5 (aL q.a) q.a.length .shut) ∧ (ρ 5 = .v (.int .i64 q.i)) ∧ (σ1 = { σ with objs := σ.objs ++ [[.v (.int .u8 pk.toNat), .v (.int .u64 ps), .v (.int .u64 pe), .sl 5 (aL pt) pt.length .shut, .sl 2 (e6 pp) pp.length .shut]] })) (fun q => pp.length - q.i) (⟨0, pe - ps, []⟩) ?st1 ?rd1
          case st1 =>
           refine ⟨lp, ?_, lp, ?_, lp, lp, lp, ?_⟩
           · rfl
           · exact Go.Vm.fC
           · simp [F]
          case rd1 =>
           rintro q ρ1 σ1 hF1 ⟨hi, hE, hqe, hqr, h3, h4, h17, hσ⟩; obtain rfl := hσ.symm
           have f1 := dU hF1
           (try simp [dT, F] at f1); replace F := aF h3 F; replace F := aF h4 F; replace F := aF h17 F; (try replace F := aF f1 F); refine sq fun K91 hK91 => ?_; refine sr fun _ hJ93 => ?_; apply hJ93; refine cs (fun c125 => ?_) (fun c125 => ?_)
           · (try exact aK c125); all_goals have c125p := c125; try simp [F] at c125p
             all_goals
              replace F := aF c125 F; (try replace F := aF c125p F); refine aA ?_; apply hK91; refine sq fun K94 hK94 => ?_; refine aD ?_; refine sq fun K95 hK95 => ?_
              obtain ⟨i, E, S⟩ := q
              simp only at hi hE hqe hqr h3 h4 h17
              have hlt : i < pp.length := by simp at c125; omega
              have hat := jS hlt
              have hb1 : i * 2 + 2 ≤ pp.length * 2 := by omega
              have hx5 := h5 _ (List.getElem_mem hlt)
              have hcons : pp.drop i = pp[i] :: pp.drop (i + 1) := List.drop_eq_getElem_cons hlt
              obtain ⟨x, hx⟩ : ∃ x, x = pp[i] := ⟨_, rfl⟩
              rw [← hx] at hat hx5 hcons
              rw [hcons] at hE
              obtain ⟨xl, xc⟩ := x
              obtain ⟨hxl, hxc⟩ := hx5
              simp only at hxl hxc
              simp only [iH] at hE
              have hnilx : ((xc.length : Int) == 0) = decide (xc = []) := by cases xc <;> simp <;> omega
              replace F := aF hlt F; replace F := aF hat F; replace F := aF hb1 F; replace F := aF hnilx F; refine rg' (h := fun J96 hJ96 => ?_); apply hJ96; apply hK95; refine sq fun K97 hK97 => ?_; refine sr fun _ hJ99 => ?_; refine gs 136 (fun g17_3 => ?_) (fun g17_3 => ?_)
              · (try exact aK g17_3); all_goals have g17_3p := g17_3; try simp [F] at g17_3p
                all_goals
                 replace F := aF g17_3 F; try replace F := aF g17_3p F
                 have hbad : iH pp (pe - ps) [] = none := by rw [hE]; exact if_pos (.inl (by have h := g17_3; simp at h; omega))
                 replace F := aF hbad F; (iterate 12 refine no2 (k := ?_)); apply hJ99; refine ct ?_; refine sr fun _ hJ101 => ?_; apply hJ101; refine ra ?_; exact gcr (hA := by simp only [aP]; simp [bR, hkn, F]; exact Wk.refl _)
              (try exact aK g17_3); all_goals have g17_3p := g17_3; try simp [F] at g17_3p
              all_goals
               replace F := aF g17_3 F; (try replace F := aF g17_3p F); (iterate 4 refine go2 (k := ?_)); refine gs 142 (fun g17_9 => ?_) (fun g17_9 => ?_)
               · (try exact aK g17_9); all_goals have g17_9p := g17_9; try simp [F] at g17_9p
                 all_goals
                  replace F := aF g17_9 F; try replace F := aF g17_9p F
                  have hbad : iH pp (pe - ps) [] = none := by rw [hE]; exact if_pos (.inr (.inl (by have h := g17_9; simp at h; omega)))
                  replace F := aF hbad F; (iterate 8 refine no2 (k := ?_)); apply hJ99; refine ct ?_; refine sr fun _ hJ103 => ?_; apply hJ103; refine ra ?_; exact gcr (hA := by simp only [aP]; simp [bR, hkn, F]; exact Wk.refl _)
               (try exact aK g17_9); all_goals have g17_9p := g17_9; try simp [F] at g17_9p
               all_goals
                replace F := aF g17_9 F; (try replace F := aF g17_9p F); (iterate 4 refine go2 (k := ?_)); refine gs 148 (fun g17_15 => ?_) (fun g17_15 => ?_)
                · (try exact aK g17_15); all_goals have g17_15p := g17_15; try simp [F] at g17_15p
                  all_goals
                   replace F := aF g17_15 F; try replace F := aF g17_15p F
                   have hbad : iH pp (pe - ps) [] = none := by rw [hE]; exact if_pos (.inr (.inr (.inl (by simpa using g17_15))))
                   replace F := aF hbad F; (iterate 4 refine no2 (k := ?_)); apply hJ99; refine ct ?_; refine sr fun _ hJ105 => ?_; apply hJ105; refine ra ?_; exact gcr (hA := by simp only [aP]; simp [bR, hkn, F]; exact Wk.refl _)
                (try exact aK g17_15); all_goals have g17_15p := g17_15; try simp [F] at g17_15p
                all_goals
                 replace F := aF g17_15 F; (try replace F := aF g17_15p F); (iterate 2 refine go2 (k := ?_)); refine ca (c := rO hxc) (k := ?_); rintro _ _ ⟨rfl, rfl⟩; (try simp [F]); refine go2 (k := ?_); apply hJ99; refine cs (fun c153 => ?_) (fun c153 => ?_)
                 · (try exact aK c153); all_goals have c153p := c153; try simp [F] at c153p
                   all_goals
                    replace F := aF c153 F; try replace F := aF c153p F
                    have hbad : iH pp (pe - ps) [] = none := by rw [hE]; exact if_pos (.inr (.inr (.inr (by simpa using c153))))
                    replace F := aF hbad F; refine sr fun _ hJ107 => ?_; apply hJ107; refine ra ?_; exact gcr (hA := by simp only [aP]; simp [bR, hkn, F]; exact Wk.refl _)
                 (try exact aK c153); all_goals have c153p := c153; try simp [F] at c153p
                 all_goals
                  replace F := aF c153 F; try replace F := aF c153p F
                  have n1 : ¬ xl = 0 := by have h := g17_3; simp at h; omega
                  have n2 : ¬ E < xl := by have h := g17_9; simp at h; omega
                  have n3 : ¬ xc = [] := by simpa using g17_15
                  have hxr : bA xc := by simpa using c153
                  have hgood : ¬ (xl = 0 ∨ E < xl ∨ xc = [] ∨ ¬ bA xc) := fun h => h.elim n1 (fun h => h.elim n2 (fun h => h.elim n3 (fun h => h hxr)))
                  have hw2 : E - xl < 2 ^ 64 := by omega
                  obtain ⟨S2, hS2⟩ : ∃ S2, S2 = iN S xc := ⟨_, rfl⟩
                  have hS2r : bA S2 := by rw [hS2]; exact j3 _ _
                  rw [← hS2] at hE
                  rw [if_neg hgood] at hE
                  have hw : IntKind.u64.wrap ((E : Int) - xl) = ((E - xl : Nat) : Int) := by rw [eI (by omega)]; omega
                  replace F := aF hw F; refine aA ?_; apply hK97; refine sr fun _ hJ109 => ?_; apply hJ109; refine sr fun _ hJ111 => ?_; refine ca (c := (hS2 ▸ qW hqr hxr)) (k := ?_); rintro _ _ ⟨rfl, rfl⟩; (try simp [F]); apply hJ111; refine sq fun K112 hK112 => ?_; refine sr fun _ hJ114 => ?_; apply hJ114; refine cs (fun c166 => ?_) (fun c166 => ?_)
                  · (try exact aK c166); all_goals have c166p := c166; try simp [F] at c166p
                    all_goals
                     replace F := aF c166 F; try replace F := aF c166p F
                     have hne : ¬ iD S xc = 0 := by simpa using c166
                     rw [if_neg hne] at hE
                     replace F := aF hE F; refine sr fun _ hJ116 => ?_; apply hJ116; refine ra ?_; exact gcr (hA := by simp only [aP]; simp [bR, hkn, F]; exact Wk.refl _)
                  (try exact aK c166); all_goals have c166p := c166; try simp [F] at c166p
                  all_goals
                   replace F := aF c166 F; try replace F := aF c166p F
                   have hye : iD S xc = 0 := by simpa using c166
                   rw [if_pos hye] at hE
                   refine aA ?_; apply hK112; refine rg' (h := fun J117 hJ117 => ?_); apply hJ117; apply hK94; refine rg' (h := fun J118 hJ118 => ?_); apply hJ118; refine ⟨gk, (⟨i + 1, E - xl, S2⟩), ⟨kpG, lpG, ?_, ?_, ?_, lpG, lpG, lpG, lpG⟩, lpG⟩
                   · exact hE
                   · exact hw2
                   · exact hS2r
           (try exact aK c125); all_goals have c125p := c125; try simp [F] at c125p
           all_goals
            replace F := aF c125 F; try replace F := aF c125p F
            have hend : iH pp (pe - ps) [] = some (q.e, q.a) := by rw [hE, List.drop_of_length_le (by have h := c125; simp at h; omega)]; rfl
            replace F := aF hend F; refine bJ ?_; apply hK88; refine sr fun _ hJ120 => ?_; refine gs 170 (fun g24_2 => ?_) (fun g24_2 => ?_)
            · (try exact aK g24_2); all_goals have g24_2p := g24_2; try simp [F] at g24_2p
              all_goals
               replace F := aF g24_2 F; try replace F := aF g24_2p F
               have hee : q.e = 0 := by have h := g24_2; simp at h; omega
               replace F := aF hee F; iterate 3 refine go2 (k := ?_)
               refine ca (c := xX (by have := dZ hqr; omega) k3) (k := ?_)
               rintro _ _ ⟨rfl, rfl⟩; (try simp [F]); apply hJ120; refine ra ?_; exact gcr (hA := by simp only [aP]; simp [bR, hkn, F]; exact Wk.refl _)
            (try exact aK g24_2); all_goals have g24_2p := g24_2; try simp [F] at g24_2p
            all_goals
             replace F := aF g24_2 F; try replace F := aF g24_2p F
             have hee : ¬ q.e = 0 := by have h := g24_2; simp at h; omega
             replace F := aF hee F; (iterate 4 refine no2 (k := ?_)); apply hJ120; refine ra ?_; exact gcr (hA := by simp only [aP]; simp [bR, hkn, F]; exact Wk.refl _)
end Go.Proofs.YtjpnjhlfieklfaaGreat
namespace Go.Vm
open Go
def gU : List Per → Nat → Nat → Nat
 | [], _, _ => 0
 | x :: l, E, t => if t < E + x.l then 0 else gU l (E + x.l) t + 1
theorem yH : ∀ (l : List Per) (E t : Nat), gU l E t ≤ l.length
 | [], _, _ => Nat.le_refl _
 | x :: l, E, t => by
   unfold gU
   split
   · exact Nat.zero_le _
   · have := yH l (E + x.l) t; simp; omega
def pE : List Per → Nat
 | [] => 0
 | x :: l => x.l + pE l
def oK : List Per → List bD → List bD
 | [], a => a
 | x :: l, a => oK l (iN a x.c)
theorem sS : ∀ (l : List Per) (a : List bD), bA a → bA (oK l a)
 | [], _, h => h
 | _ :: l, _, _ => sS l _ (j3 _ _)
def gW (c : bD) (s e t : Nat) : Nat := c.n.v * (t - s) / (e - s)
theorem lU {c : bD} {s e t : Nat} (h : t ≤ e) : gW c s e t < 2 ^ 256 := by
 unfold gW
 have h1 : c.n.v * (t - s) ≤ c.n.v * (e - s) := Nat.mul_le_mul_left _ (by omega)
 have h2 : c.n.v * (t - s) / (e - s) ≤ c.n.v := by
  by_cases h0 : e - s = 0
  · rw [h0]; simp
  · exact Nat.le_trans (Nat.div_le_div_right h1) (by rw [Nat.mul_div_cancel _ (by omega)]; exact Nat.le_refl _)
 have := c.n.h
 omega
def eS (s e t : Nat) : List bD → List bD
 | [] => []
 | c :: l => j4 c.d (Num.of (gW c s e t)) ++ eS s e t l
theorem mY (s e t : Nat) (c : bD) : ∀ l, eS s e t (l ++ [c]) = eS s e t l ++ j4 c.d (Num.of (gW c s e t))
 | [] => by simp [eS]
 | x :: l => by simp [eS, mY s e t c l]
theorem mN (s e t : Nat) : ∀ l, (eS s e t l).length ≤ l.length
 | [] => Nat.le_refl _
 | c :: l => by
   have := mN s e t l
   simp only [eS, List.length_append, List.length_cons]
   have : (j4 c.d (Num.of (gW c s e t))).length ≤ 1 := by unfold j4; split <;> simp
   omega
theorem Ea (l : List Per) (i : Nat) : (e6 l).take (i * 2) = e6 (l.take i) := by
 conv => lhs; rw [← List.take_append_drop i l, ← uI]
 by_cases h : i ≤ l.length
 · rw [List.take_append_of_le_length (by simp; omega), List.take_of_length_le (by simp; omega)]
 · rw [List.drop_of_length_le (by omega), FF, List.append_nil, List.take_of_length_le (by simp; omega)]
def eC (p : Pln) (t : Nat) : List bD :=
 if p.k = 3 ∨ p.k = 5 then oK (p.ps.take (gU p.ps p.s t)) []
 else if (¬ p.k = 1 ∧ ¬ p.k = 2) ∨ (p.k = 1 ∧ t ≤ p.s) then []
 else if p.e ≤ t then p.tot
 else if p.k = 2 then []
 else eS p.s p.e t p.tot
end Go.Vm
namespace Go.Proofs.YtjpnjhlfieklfaaGreat
set_option maxHeartbeats 1600000
open Go Go.Vm
attribute [local simp] dM aI dJ opA bH bN cM bP ofValue dC plain aQ aR cA b8 cC cB bY b7 b9 bZ cV gN bW cG cD b6 bU aT aS bO cU aW dQ dR bK aZ cL gA bS dE cF AV.cells AV.bL dF cO eZ bF aV cQ dI dS dV cN aN dP dO fX eY eV cW cT cI List.getElem?_cons_zero List.getElem?_cons_succ mS kE dA
section
attribute [local simp] j7 kD dG gH maxLen
theorem rL {σ : St} {l : List bD} {tl : eO} (hl : l.length ≤ 1000000) :
  aE Tryz.prog 110 [.sl 5 (aL l) l.length tl] σ (fun av σ' => av = .sl 5 (aL l) l.length .shut ∧ σ = σ') := by
 refine aU ?_ (by simp [AV.under])
 have h1 : l.length * 40 ≤ 140737488355328 := by omega
 have h2 : l.length ≤ 9223372036854775807 := by omega
 have F := And.intro h1 (And.intro h2 (True.intro))
 refine aB Tryz.func110 rfl rfl rfl ?_; refine sr fun _ hJ2 => ?_; apply hJ2; refine sq fun K3 hK3 => ?_; refine sr fun _ hJ5 => ?_; refine sn rfl rfl (fun b4 hb4 => ?_); (try simp [F]); apply hJ5; refine cs (fun c4 => ?_) (fun c4 => ?_)
 · try exact aK c4
   all_goals
    replace F := aF c4 F
    have hl0 : l = [] := by cases l with | nil => rfl | cons x l => (exfalso; simp_all)
    subst hl0
    refine sr fun _ hJ7 => ?_; apply hJ7; refine ra ?_; exact gcr
 try exact aK c4
 all_goals
  replace F := aF c4 F; refine aA ?_; apply hK3; refine sr fun _ hJ9 => ?_; apply hJ9; refine ra ?_; exact gcr
end
attribute [local simp] oB eK in
theorem Ke {σ : St} {l : List Per} {tl : eO} (hl : l.length ≤ 9223372036854775807) (h5 : ∀ x ∈ l, x.c.length ≤ 9223372036854775807) :
  aE Tryz.prog 108 [.sl 2 (e6 l) l.length tl] σ (fun av σ' => av = .sl 5 (aL (oK l [])) (oK l []).length .shut ∧ σ = σ') := by
 refine aU ?_ (by simp [AV.under])
 have F := True.intro
 refine aB Tryz.func108 rfl rfl rfl ?_; refine sr fun _ hJ2 => ?_; apply hJ2; refine sr fun _ hJ4 => ?_; apply hJ4; refine sq fun K5 hK5 => ?_; refine sq fun K6 hK6 => ?_; refine oH 3 5 (k := ?_); refine rg' (h := fun J7 hJ7 => ?_); apply hJ7; apply hK6; refine aD ?_; refine fA (X := Eh) [2, 6, 7] (fun q ρ σ1 => (q.i ≤ l.length) ∧ (oK l [] = oK (l.drop q.i) q.a) ∧ (q.a.length ≤ 8) ∧ (ρ 3 = .sl 5 (aL q.a) q.a.length .shut) ∧ (ρ 8 = .v (.int .i64 q.i)) ∧ (σ1 = σ)) (fun q => l.length - q.i) (⟨0, 0, []⟩) ?st1 ?rd1
 case st1 =>
  refine ⟨lp, ?_, lp, lp, lp, ?_⟩
  · rfl
  · rfl
 case rd1 =>
  rintro q ρ1 σ1 hF1 ⟨hi, hE, hqa, h4, h17, hσ⟩; obtain rfl := hσ.symm
  have f1 := dU hF1
  (try simp [dT, F] at f1); replace F := aF h4 F; replace F := aF h17 F; (try replace F := aF f1 F); refine sr fun _ hJ9 => ?_; apply hJ9; refine sq fun K10 hK10 => ?_; refine cs (fun c9 => ?_) (fun c9 => ?_)
  · try exact aK c9
    all_goals
     replace F := aF c9 F; refine aA ?_; apply hK10; refine sq fun K11 hK11 => ?_; refine aD ?_; refine sq fun K12 hK12 => ?_
     obtain ⟨i, E, S⟩ := q
     simp only at hi hE hqa h4 h17
     have hlt : i < l.length := by simp at c9; omega
     have hat := jS hlt
     have hb1 : i * 2 + 2 ≤ l.length * 2 := by omega
     have hxc := h5 _ (List.getElem_mem hlt)
     have hcons : l.drop i = l[i] :: l.drop (i + 1) := List.drop_eq_getElem_cons hlt
     obtain ⟨x, hx⟩ : ∃ x, x = l[i] := ⟨_, rfl⟩
     rw [← hx] at hat hxc hcons
     rw [hcons] at hE
     obtain ⟨xl, xc⟩ := x
     simp only at hxc
     simp only [oK] at hE
     obtain ⟨S2, hS2⟩ : ∃ S2, S2 = iN S xc := ⟨_, rfl⟩
     have hS2l : S2.length ≤ 8 := by rw [hS2]; exact dZ (j3 _ _)
     rw [← hS2] at hE
     replace F := aF hlt F; replace F := aF hat F; replace F := aF hb1 F; refine rg' (h := fun J13 hJ13 => ?_); apply hJ13; apply hK12; refine rg' (h := fun J14 hJ14 => ?_)
     refine ca (c := (hS2 ▸ B2 (by omega) hxc)) (k := ?_)
     rintro _ _ ⟨rfl, rfl⟩; (try simp [F]); apply hJ14; apply hK11; refine rg' (h := fun J15 hJ15 => ?_); apply hJ15; refine ⟨gk, (⟨i + 1, E, S2⟩), ⟨kpG, lpG, ?_, ?_, lpG, lpG, lpG⟩, lpG⟩
     · exact hE
     · exact hS2l
  try exact aK c9
  all_goals
   replace F := aF c9 F
   have hend : oK l [] = q.a := by rw [hE, List.drop_of_length_le (by have h := c9; simp at h; omega)]; rfl
   replace F := aF hend F; refine bJ ?_; apply hK5; refine sr fun _ hJ17 => ?_; apply hJ17; refine ra ?_; exact gcr
attribute [local simp] oB iK eK in
theorem Cm {σ : St} {p : Pln} {t : Nat} (hp : p.Ok) (hs : p.s + pE p.ps < 2 ^ 64) :
  aE Tryz.prog 109 [.agg (iK p), .v (.int .u64 t)] σ (fun av σ' => av = .sl 2 (e6 (p.ps.take (gU p.ps p.s t))) (gU p.ps p.s t) .shut ∧ σ = σ') := by
 refine aU ?_ (by simp [AV.under, nX])
 obtain ⟨pk, ps, pe, pt, pp⟩ := p
 obtain ⟨k1, k2, k3, k4, h5⟩ := hp
 simp only at hs k4 k1 h5
 have F := True.intro
 refine aB Tryz.func109 rfl rfl rfl ?_; refine sr fun _ hJ2 => ?_; apply hJ2; refine sr fun _ hJ4 => ?_; apply hJ4; refine sq fun K5 hK5 => ?_; refine sr fun _ hJ7 => ?_; apply hJ7; refine aD ?_; refine fA (X := Eh) [1, 2, 11, 12] (fun q ρ σ1 => (q.i ≤ pp.length) ∧ (gU pp ps t = gU (pp.drop q.i) q.e t + q.i) ∧ (q.e + pE (pp.drop q.i) < 2 ^ 64) ∧ (ρ 5 = .v (.int .u64 q.e)) ∧ (ρ 13 = .v (.int .i64 q.i)) ∧ (σ1 = { σ with objs := σ.objs ++ [[.v (.int .u8 pk.toNat), .v (.int .u64 ps), .v (.int .u64 pe), .sl 5 (aL pt) pt.length .shut, .sl 2 (e6 pp) pp.length .shut]] })) (fun q => pp.length - q.i) (⟨0, ps, []⟩) ?st1 ?rd1
 case st1 =>
  refine ⟨lp, ?_, ?_, lp, lp, ?_⟩
  · rfl
  · exact hs
  · rfl
 case rd1 =>
  rintro q ρ1 σ1 hF1 ⟨hi, hE, hqe, h4, h17, hσ⟩; obtain rfl := hσ.symm
  have f1 := dU hF1
  (try simp [dT, F] at f1); replace F := aF h4 F; replace F := aF h17 F; (try replace F := aF f1 F); refine sr fun _ hJ9 => ?_; apply hJ9; refine sq fun K10 hK10 => ?_; refine cs (fun c14 => ?_) (fun c14 => ?_)
  · try exact aK c14
    all_goals
     replace F := aF c14 F; refine aA ?_; apply hK10; refine sq fun K11 hK11 => ?_; refine aD ?_; refine sq fun K12 hK12 => ?_
     obtain ⟨i, E, S⟩ := q
     simp only at hi hE hqe h4 h17
     have hlt : i < pp.length := by simp at c14; omega
     have hat := jS hlt
     have hb1 : i * 2 + 2 ≤ pp.length * 2 := by omega
     have hcons : pp.drop i = pp[i] :: pp.drop (i + 1) := List.drop_eq_getElem_cons hlt
     obtain ⟨x, hx⟩ : ∃ x, x = pp[i] := ⟨_, rfl⟩
     rw [← hx] at hat hcons
     rw [hcons] at hE hqe
     obtain ⟨xl, xc⟩ := x
     simp only [gU] at hE
     simp only [pE] at hqe
     have hw : IntKind.u64.wrap ((E : Int) + xl) = ((E + xl : Nat) : Int) := by rw [eI (by omega)]; rfl
     replace F := aF hlt F; replace F := aF hat F; replace F := aF hb1 F; replace F := aF hw F; refine rg' (h := fun J13 hJ13 => ?_); apply hJ13; apply hK12; refine sr fun _ hJ15 => ?_; apply hJ15; refine sr fun _ hJ17 => ?_; apply hJ17; refine cs (fun c24 => ?_) (fun c24 => ?_)
     · try exact aK c24
       all_goals
        replace F := aF c24 F
        have h1 : t < E + xl := by have h := c24; simp at h; omega
        rw [if_pos h1, Nat.zero_add] at hE
        have hpt := Ea pp i
        replace F := aF hE (And.intro hpt F); refine sr fun _ hJ19 => ?_; apply hJ19; refine ra ?_; exact gcr
     try exact aK c24
     all_goals
      replace F := aF c24 F
      have h1 : ¬ t < E + xl := by have h := c24; simp at h; omega
      rw [if_neg h1] at hE
      have hE2 : gU pp ps t = gU (pp.drop (i + 1)) (E + xl) t + (i + 1) := by rw [hE]; omega
      have hqe2 : E + xl + pE (pp.drop (i + 1)) < 2 ^ 64 := by omega
      refine aA ?_; apply hK11; refine rg' (h := fun J20 hJ20 => ?_); apply hJ20; refine ⟨gk, (⟨i + 1, E + xl, []⟩), ⟨kpG, lpG, ?_, ?_, lpG, lpG, lpG⟩, lpG⟩
      · exact hE2
      · exact hqe2
  try exact aK c14
  all_goals
   replace F := aF c14 F
   have hii : q.i = pp.length := by have h := c14; simp at h; omega
   have hend : gU pp ps t = pp.length := by rw [hE, List.drop_of_length_le (by omega)]; simp [gU, hii]
   have htk : pp.take pp.length = pp := List.take_length
   replace F := aF hend (And.intro htk F); refine bJ ?_; apply hK5; refine sr fun _ hJ22 => ?_; apply hJ22; refine ra ?_; exact gcr
end Go.Proofs.YtjpnjhlfieklfaaGreat
