import Derived.Test.YtjpnjhlfieklfaaGreatZ7
import Derived.Test.YtjpnjhlfieklfaaGreatZ17
import Derived.Test.YtjpnjhlfieklfaaGreatZ15
import Derived.Test.YtjpnjhlfieklfaaGreatZ16
set_option linter.unnecessarySimpa false
set_option maxRecDepth 100000
set_option linter.unusedSimpArgs false
set_option linter.unusedVariables false
namespace Go.Proofs.YtjpnjhlfieklfaaGreat
open Go Go.Vm
attribute [local simp] dM aI dJ opA bH bN cM bP ofValue dC plain aQ aR cA b8 cC cB bY b7 b9 bZ cV gN bW cG cD b6 bU aT aS bO cU aW dQ dR bK aZ cL gA bS dE cF AV.cells AV.bL dF cO eZ bF aV cQ dI dS dV cN aN dP dO fX eY eV cW cT cI List.getElem?_cons_zero List.getElem?_cons_succ mS kE
def Ew (s : Option (List UInt8)) : Per := ⟨be (dN 8 s), gJ (cJ 8 s)⟩
def Hy (s : Option (List UInt8)) : Option (List UInt8) := lI (cJ 8 s)
def pV : Nat → Option (List UInt8) → List Per → List Per × Option (List UInt8)
 | 0, s, l => (l, s)
 | _ + 1, none, l => (l, none)
 | m + 1, some p, l => pV m (Hy (some p)) (l ++ [Ew (some p)])
theorem Ce {m : Nat} {s : Option (List UInt8)} {l : List Per} (hm : 0 < m) (hs : ¬ s = none) : pV m s l = pV (m - 1) (Hy s) (l ++ [Ew s]) := by
 match m, s, hm, hs with
 | m + 1, some p, _, _ => rfl
theorem CR {m : Nat} {s : Option (List UInt8)} {l : List Per} (h : m = 0 ∨ s = none) : pV m s l = (l, s) := by
 match m, s, h with
 | 0, _, _ => rfl
 | m + 1, none, _ => rfl
def s4S (s : Option (List UInt8)) : Option (List UInt8) := lI (cJ 8 (cJ 8 (cJ 1 s)))
def uS (s : Option (List UInt8)) : List Per × Option (List UInt8) := pV (be (dN 1 (s4S s))) (cJ 1 (s4S s)) []
def p6 (s : Option (List UInt8)) (L : List Per) : Pln := ⟨yY s, be (dN 8 (cJ 1 s)), be (dN 8 (cJ 8 (cJ 1 s))), gJ (cJ 8 (cJ 8 (cJ 1 s))), L⟩
def sJ (s : Option (List UInt8)) : Option (List UInt8) := if bR (p6 s (uS s).1) = true then (uS s).2 else none
def y9 (s : Option (List UInt8)) : Pln := if sJ s = none then ⟨0, 0, 0, [], []⟩ else p6 s (uS s).1
theorem vU {s S : Option (List UInt8)} {L : List Per} (h : uS s = (L, S)) (h2 : bR (p6 s L) = false ∨ S = none) : y9 s = ⟨0, 0, 0, [], []⟩ ∧ sJ s = none := by
 have e : sJ s = none := by
  unfold sJ
  rw [h]
  rcases h2 with h2 | h2
  · simp [h2]
  · simp [h2]
 exact ⟨by simp [y9, e], e⟩
theorem As {s S : Option (List UInt8)} {L : List Per} (h : uS s = (L, S)) (h1 : bR (p6 s L) = true) (h2 : ¬ S = none) : y9 s = p6 s L ∧ sJ s = S := by
 have e : sJ s = S := by
  unfold sJ
  rw [h, if_pos h1]
 exact ⟨by rw [y9, e, if_neg h2, h], e⟩
theorem HK {s : Option (List UInt8)} {L : List Per} (hl : L.length ≤ 255) (hx : ∀ x ∈ L, x.l < 2 ^ 64 ∧ x.c.length ≤ 255) : (p6 s L).Ok := by
 refine ⟨Er _ (j5 8 _), Er _ (j5 8 _), ?_, ?_, fun x h => ⟨(hx x h).1, ?_⟩⟩
 · have := An (cJ 8 (cJ 8 (cJ 1 s))); simp only [p6]; omega
 · simp only [p6]; omega
 · have := (hx x h).2; omega
theorem Jo (s : Option (List UInt8)) : (Ew s).l < 2 ^ 64 ∧ (Ew s).c.length ≤ 255 := ⟨Er _ (j5 8 _), An _⟩
structure TSt where
 m : Nat
 s : Option (List UInt8)
 l : List Per
theorem M7 {L : List Per} (h : iS L.length = false) : e6 L = [] ∧ L.length = 0 := by
 have h0 := kH h
 have : L = [] := List.length_eq_zero_iff.1 h0
 subst this
 exact ⟨rfl, rfl⟩
theorem EY {s : Option (List UInt8)} {L : List Per} {k : Nat} : WkL [.v (.int .u8 (be (dN 1 s))), .v (.int .u64 (be (dN 8 (cJ 1 s)))), .v (.int .u64 (be (dN 8 (cJ 8 (cJ 1 s))))), .sl 5 (aL (gJ (cJ 8 (cJ 8 (cJ 1 s))))) (gJ (cJ 8 (cJ 8 (cJ 1 s)))).length .shut, grA k 2 (iS L.length) (e6 L) L.length] (iK (p6 s L)) :=
 .cons (by rw [C3]; exact Wk.refl _) (.cons (Wk.refl _) (.cons (Wk.refl _) (.cons (Wk.refl _) (.cons (rJ M7) .nil))))
set_option maxHeartbeats 1600000 in
attribute [local simp] dA List.getElem?_cons_zero List.getElem?_cons_succ oB eK in
theorem Hk {σ : St} {id : Nat} {s : Option (List UInt8)} (h : σ.objs[id]? = some (rd s)) :
  aE Tryz.prog 60 [.ptr id 0] σ (fun av σ' => av = .agg (iK (y9 s)) ∧ σ' = { σ with objs := σ.objs.set id (rd (sJ s)) }) := by
 refine sD (Q := fun av σ' => Wk av (.agg (iK (y9 s))) ∧ ∃ l m r, σ' = { σ with objs := σ.objs.set id (rd (sJ s)) ++ l, toks := σ.toks ++ m, rows := σ.rows ++ r }) ?_ (fun av σ' h => h) (by simp [AV.under, bB, iK, nX]) (xN _ _)
 have hs := cY h
 have hlt := cZ h
 have ho1 : ∀ r, (σ.objs ++ r)[id]? = some (rd s) := fun r => by rw [List.getElem?_append_left hlt]; exact h
 have ho2 : ∀ x r, (σ.objs.set id x ++ r)[id]? = some x := fun x r => by rw [List.getElem?_append_left (by simpa using hlt)]; exact hs x
 have ho3 : ∀ x r, (σ.objs ++ r).set id x = σ.objs.set id x ++ r := fun x r => List.set_append_left _ _ hlt
 have ho4 : ∀ x y r, (σ.objs.set id y ++ r).set id x = σ.objs.set id x ++ r := fun x y r => by rw [List.set_append_left _ _ (by simpa using hlt), List.set_set]
 have hm := zD (j5 1 (s4S s))
 have hgc : ∀ (k : Nat) (b : Bool) (cs : List AV) (n : Nat), (grA k 2 b cs n).bL = true := fun k b cs n => by cases b <;> rfl
 simp only [AV.bL] at hgc
 have hdr : ∀ f : Nat → AV, List.drop 2 (List.map f (List.range 2)) = [] := fun _ => rfl
 have hdr5 : ∀ f : Nat → AV, List.drop 5 (List.map f (List.range 5)) = [] := fun _ => rfl
 have hR : ∀ (L : List Per) (k : Nat) (τ : St), L.length ≤ 255 → (∀ x ∈ L, x.l < 2 ^ 64 ∧ x.c.length ≤ 255) → aE Tryz.prog 32 [.agg [.v (.int .u8 (be (dN 1 s))), .v (.int .u64 (be (dN 8 (cJ 1 s)))), .v (.int .u64 (be (dN 8 (cJ 8 (cJ 1 s))))), .sl 5 (aL (gJ (cJ 8 (cJ 8 (cJ 1 s))))) (gJ (cJ 8 (cJ 8 (cJ 1 s)))).length .shut, grA k 2 (iS L.length) (e6 L) L.length]] τ (fun av σ' => av = .v (.bool (bR (p6 s L))) ∧ τ = σ') :=
  fun L k τ hl hx => kO (.cons (WkL.agg EY) .nil) (yP (HK hl hx))
 have F := And.intro ho1 (And.intro ho2 (And.intro ho3 (And.intro ho4 (And.intro hlt (And.intro hdr (And.intro hdr5 (And.intro hgc (True.intro))))))))
 refine aB Tryz.func60 rfl rfl rfl ?_; refine sr fun _ hJ2 => ?_; apply hJ2; refine sr fun _ hJ4 => ?_; refine ca (c := nV (ho1 _)) (k := ?_); rintro _ _ ⟨rfl, rfl⟩; (try simp [F]); refine ca (c := xC (ho2 _ _)) (k := ?_); rintro _ _ ⟨rfl, rfl⟩; (try simp [F]); refine ca (c := xC (ho2 _ _)) (k := ?_); rintro _ _ ⟨rfl, rfl⟩; (try simp [F]); refine ca (c := xO (ho2 _ _)) (k := ?_); rintro _ _ ⟨rfl, rfl⟩; (try simp [F]); apply hJ4; refine sq fun K5 hK5 => ?_; refine sr fun _ hJ7 => ?_; refine ca (c := nV (ho2 _ _)) (k := ?_); rintro _ _ ⟨rfl, rfl⟩; (try simp [F]); apply hJ7; refine aD ?_; refine cK (X := TSt) [0, 2, 3] (fun q ρ σ1 => (q.m + q.l.length ≤ 255) ∧ (∀ x ∈ q.l, x.l < 2 ^ 64 ∧ x.c.length ≤ 255) ∧ (pV q.m q.s q.l = uS s) ∧ (ρ 4 = .v (.int .u8 q.m)) ∧ (σ1 = { σ with objs := σ.objs.set id (rd q.s) ++ [[.v (.int .u8 0), .v (.int .u64 0), .v (.int .u64 0), .sl 0 [] 0 .full, .sl 0 [] 0 .full], [.v (.int .u8 (be (dN 1 s))), .v (.int .u64 (be (dN 8 (cJ 1 s)))), .v (.int .u64 (be (dN 8 (cJ 8 (cJ 1 s))))), .sl 5 (aL (gJ (cJ 8 (cJ 8 (cJ 1 s))))) (gJ (cJ 8 (cJ 8 (cJ 1 s)))).length .shut, grA σ.toks.length 2 (iS q.l.length) (e6 q.l) q.l.length]], toks := σ.toks ++ grT (iS q.l.length) q.l.length })) (fun q => q.m) (⟨be (dN 1 (s4S s)), cJ 1 (s4S s), []⟩) ?st1 ?rd1
 case st1 =>
  refine ⟨?_, ?_, ?_, lp, ?_⟩
  · simp
    omega
  · simp
  · rfl
  · simp [F, s4S]
 case rd1 =>
  rintro q ρ1 σ1 hF1 ⟨hm, hx, hg, h4, hσ⟩; obtain rfl := hσ.symm
  have f1 := dU hF1
  (try simp [dT, F] at f1); replace F := aF h4 F; (try replace F := aF f1 F); refine sq fun K8 hK8 => ?_; refine sqc (X := Unit) [0, 2, 3, 4] (fun k ρ σ1 => (ρ 22 = .v (.bool (decide (0 < q.m) && !q.s.isNone))) ∧ (σ1 = { σ with objs := σ.objs.set id (rd q.s) ++ [[.v (.int .u8 0), .v (.int .u64 0), .v (.int .u64 0), .sl 0 [] 0 .full, .sl 0 [] 0 .full], [.v (.int .u8 (be (dN 1 s))), .v (.int .u64 (be (dN 8 (cJ 1 s)))), .v (.int .u64 (be (dN 8 (cJ 8 (cJ 1 s))))), .sl 5 (aL (gJ (cJ 8 (cJ 8 (cJ 1 s))))) (gJ (cJ 8 (cJ 8 (cJ 1 s)))).length .shut, grA σ.toks.length 2 (iS q.l.length) (e6 q.l) q.l.length]], toks := σ.toks ++ grT (iS q.l.length) q.l.length })) ?cy9 ?cx9
  case cy9 =>
   rintro k ρCr3 σ1 hFCr3 ⟨h22, hσ⟩; obtain rfl := hσ.symm
   have fCr3 := dU hFCr3
   (try simp [dT, F] at fCr3); replace F := aF h22 F; (try replace F := aF fCr3 F); refine cs (t := (decide (0 < q.m) && !q.s.isNone)) (fun c22 => ?_) (fun c22 => ?_)
   · (try exact aK c22); all_goals have c22p := c22; try simp [F] at c22p
     all_goals
      replace F := aF c22 F; (try replace F := aF c22p F); refine aA ?_; apply hK8; refine sq fun K10 hK10 => ?_; refine aD ?_
      obtain ⟨m, S, L⟩ := q
      simp only at hm hx hg h4
      have hmS : 0 < m ∧ ¬ S = none := by have h := c22; simp at h; exact ⟨h.1, by intro e; rw [e] at h; simp at h⟩
      have hnx := Ce (l := L) hmS.1 hmS.2
      have hP : e6 (L ++ [Ew S]) = e6 L ++ [.v (.int .u64 (be (dN 8 S))), .sl 5 (aL (gJ (cJ 8 S))) (gJ (cJ 8 S)).length .shut] := by rw [← uI]; rfl
      have hLl : L.length ≤ 254 := by omega
      have happ : ∀ objs, dG Tryz.prog 24 (grA σ.toks.length 2 (iS L.length) (e6 L) L.length) (.sl 2 [.v (.int .u64 (be (dN 8 S))), .sl 5 (aL (gJ (cJ 8 S))) (gJ (cJ 8 S)).length .shut] 1 .full) ⟨objs, σ.toks ++ grT (iS L.length) L.length, σ.gl, σ.rows⟩ = some (grA σ.toks.length 2 true (e6 L ++ [.v (.int .u64 (be (dN 8 S))), .sl 5 (aL (gJ (cJ 8 S))) (gJ (cJ 8 S)).length .shut]) (L.length + 1), ⟨objs, σ.toks ++ grT true (L.length + 1), σ.gl, σ.rows⟩) := fun objs => kM elemT_24 ti_75 (by decide) rfl M7 (.inl rfl) (by simp [gH]; omega) (by simp [maxLen]; omega)
      have hwm : IntKind.u8.wrap ((m : Int) - 1) = ((m - 1 : Nat) : Int) := by rw [y5 (by omega)]; omega
      replace F := aF happ F
      refine bI (by kernel_rfl) fun J11 hJ11 => ?_
      refine q2 0 ?_; refine q2 1 ?_; refine q2 2 ?_; refine q2 4 ?_; refine dc 3 rfl (c := xC (ho2 _ _)) (k := ?_); rintro _ _ ⟨rfl, rfl⟩
      refine ⟨by first | exact fun _ _ h => h | (refine aH [4, 1, 0] (by kernel_rfl) ?_; (repeat' first | exact ln2 | refine lc ?_ ?_) <;> constructor <;> first | rfl | (simp [F]; done)), ?_⟩
      (try simp [F]); refine dc 5 rfl (c := xO (ho2 _ _)) (k := ?_); rintro _ _ ⟨rfl, rfl⟩
      refine ⟨by first | exact fun _ _ h => h | (refine aH [1, 0] (by kernel_rfl) ?_; (repeat' first | exact ln2 | refine lc ?_ ?_) <;> constructor <;> first | rfl | (simp [F]; done)), ?_⟩
      (try simp [F]); refine q2 6 ?_; refine q2 7 ?_; refine dop 8 rfl ?_; try simp [F]
      refine ⟨by first | exact fun _ _ h => h | (refine aH [6, 0] (by kernel_rfl) ?_; (repeat' first | exact ln2 | refine lc ?_ ?_) <;> constructor <;> first | rfl | (simp [F]; done)), ?_⟩
      refine q2 9 ?_; refine dop 10 rfl ?_; (try simp [F]); refine ⟨ln, ?_⟩; refine dd ?_; apply hJ11; apply hK10; replace F := aF hwm F; refine rg' (h := fun J12 hJ12 => ?_); apply hJ12; refine ⟨(⟨m - 1, Hy S, L ++ [Ew S]⟩), ⟨kp, ?_, ?_, ?_, lp, ?_⟩, ?_⟩
      · simp
        omega
      · intro x hxm
        rcases List.mem_append.1 hxm with h | h
        · exact hx x h
        · simp at h; subst h; exact Jo S
      · rw [← hg]
        exact hnx.symm
      · simp [F, hP, Hy]
      · simp
        omega
   (try exact aK c22); all_goals have c22p := c22; try simp [F] at c22p
   all_goals
    replace F := aF c22 F; try replace F := aF c22p F
    have he : uS s = (q.l, q.s) := by rw [← hg]; exact CR (by have h := c22; simp at h; by_cases h0 : q.m = 0; exact .inl h0; exact .inr (h (by omega)))
    have hql : q.l.length ≤ 255 := by omega
    refine bJ ?_; apply hK5; refine sq fun K13 hK13 => ?_; refine sr fun _ hJ15 => ?_; refine ca (c := hR q.l _ _ hql hx) (k := ?_); rintro _ _ ⟨rfl, rfl⟩; (try simp [F]); apply hJ15; refine cs (fun c37 => ?_) (fun c37 => ?_)
    · (try exact aK c37); all_goals have c37p := c37; try simp [F] at c37p
      all_goals
       replace F := aF c37 F; (try replace F := aF c37p F); refine rg' (h := fun J16 hJ16 => ?_); refine ca (c := nW (ho2 _ _)) (k := ?_); rintro _ _ ⟨rfl, rfl⟩; (try simp [F]); apply hJ16; apply hK13; refine sq fun K17 hK17 => ?_; refine sr fun _ hJ19 => ?_; refine ca (c := lH (ho2 _ _)) (k := ?_); rintro _ _ ⟨rfl, rfl⟩; (try simp [F]); apply hJ19; refine cs (fun c41 => ?_) (fun c41 => ?_)
       · (try exact aK c41); all_goals have c41p := c41; try simp [F] at c41p
         all_goals
          replace F := aF c41 F; (try replace F := aF c41p F); refine sr fun _ hJ21 => ?_; apply hJ21; refine bQ ?_; (try simp only [eD, bG, bV]); refine j1 (h := ?_)
          obtain ⟨e1, e2⟩ := vU he (.inl (by simpa using c37))
          rw [e1, e2]
          refine gcr (τ := { σ with objs := σ.objs.set id (rd none) }) (hA := ?_); exact WkL.agg (BG rfl)
       (try exact aK c41); all_goals have c41p := c41; try simp [F] at c41p
       all_goals
        replace F := aF c41 F; (try replace F := aF c41p F); refine aA ?_; apply hK17; refine sr fun _ hJ23 => ?_; apply hJ23; refine bQ ?_; (try simp only [eD, bG, bV]); refine j1 (h := ?_)
        obtain ⟨e1, e2⟩ := vU he (.inl (by simpa using c37))
        rw [e1, e2]
        refine gcr (τ := { σ with objs := σ.objs.set id (rd none) }) (hA := ?_); exact WkL.agg (BG rfl)
    (try exact aK c37); all_goals have c37p := c37; try simp [F] at c37p
    all_goals
     replace F := aF c37 F; (try replace F := aF c37p F); refine aA ?_; apply hK13; refine sq fun K24 hK24 => ?_; refine sr fun _ hJ26 => ?_; refine ca (c := lH (ho2 _ _)) (k := ?_); rintro _ _ ⟨rfl, rfl⟩; (try simp [F]); apply hJ26; refine cs (fun c41 => ?_) (fun c41 => ?_)
     · (try exact aK c41); all_goals have c41p := c41; try simp [F] at c41p
       all_goals
        replace F := aF c41 F; (try replace F := aF c41p F); refine sr fun _ hJ28 => ?_; apply hJ28; refine bQ ?_; (try simp only [eD, bG, bV]); refine j1 (h := ?_)
        obtain ⟨e1, e2⟩ := vU he (.inr (by simpa using c41))
        rw [e1, e2]
        refine gcr (τ := { σ with objs := σ.objs.set id (rd none) }) (hA := ?_); exact WkL.agg (BG rfl)
     (try exact aK c41); all_goals have c41p := c41; try simp [F] at c41p
     all_goals
      replace F := aF c41 F; (try replace F := aF c41p F); refine aA ?_; apply hK24; refine sr fun _ hJ30 => ?_; apply hJ30; refine bQ ?_; (try simp only [eD, bG, bV]); refine j1 (h := ?_)
      obtain ⟨e1, e2⟩ := As he (by simpa using c37) (by intro e; rw [e] at c41; simp at c41)
      rw [e1, e2]
      refine gcr (τ := { σ with objs := σ.objs.set id (rd q.s) }) (hA := ?_); exact WkL.agg EY
  case cx9 =>
   intro K9 hK9
   refine rg' (h := fun J31 hJ31 => ?_); refine gs 18 (fun g3_2 => ?_) (fun g3_2 => ?_)
   · (try exact aK g3_2); all_goals have g3_2p := g3_2; try simp [F] at g3_2p
     all_goals
      replace F := aF g3_2 F; (try replace F := aF g3_2p F); refine go2 (k := ?_); refine ca (c := lH (ho2 _ _)) (k := ?_); rintro _ _ ⟨rfl, rfl⟩; (try simp [F]); refine go2 (k := ?_); apply hJ31; refine hK9 (()) _ _ ⟨kp, ?_, lp⟩
      · have h := g3_2
        simp at h
        simp [F, h]
   (try exact aK g3_2); all_goals have g3_2p := g3_2; try simp [F] at g3_2p
   all_goals
    replace F := aF g3_2 F; (try replace F := aF g3_2p F); (iterate 3 refine no2 (k := ?_)); apply hJ31; refine hK9 (()) _ _ ⟨kp, ?_, lp⟩
    · have h := g3_2
      simp at h
      simp [F, h]
end Go.Proofs.YtjpnjhlfieklfaaGreat
namespace Go.Proofs.YtjpnjhlfieklfaaGreat
open Go Go.Vm
theorem pH {n : Nat} (h : n < 2 ^ 64) : be (eE 8 n) = n := by
 have e : eE 8 n = [UInt8.ofNat (n / 2 ^ 56 % 256), UInt8.ofNat (n / 2 ^ 48 % 256), UInt8.ofNat (n / 2 ^ 40 % 256), UInt8.ofNat (n / 2 ^ 32 % 256), UInt8.ofNat (n / 2 ^ 24 % 256), UInt8.ofNat (n / 2 ^ 16 % 256), UInt8.ofNat (n / 2 ^ 8 % 256), UInt8.ofNat (n / 2 ^ 0 % 256)] := rfl
 rw [e]
 have hb : ∀ x, (UInt8.ofNat (x % 256)).toNat = x % 256 := fun x => by rw [toNat_ofNat (by omega)]
 simp only [be, List.foldl_cons, List.foldl_nil, hb]
 omega
def vY (x : Per) : List UInt8 := eE 8 x.l ++ kY x.c
def fQ (l : List Per) : List UInt8 := l.flatMap vY
def oI (p : Pln) : List UInt8 := p.k :: (eE 8 p.s ++ (eE 8 p.e ++ (kY p.tot ++ (UInt8.ofNat p.ps.length :: fQ p.ps))))
theorem BL (l : List Per) (x : Per) : fQ (l ++ [x]) = fQ l ++ vY x := by simp [fQ]
theorem Ah {l : List bD} (h : l.length ≤ 8) : (kY l).length ≤ 273 := by
 have := rX l
 simp only [kY, List.length_cons]; omega
theorem qC : ∀ l : List Per, (∀ x ∈ l, x.c.length ≤ 8) → (fQ l).length ≤ 281 * l.length
 | [], _ => by simp [fQ]
 | x :: l, h => by
   have h1 := qC l (fun y hy => h y (by simp [hy]))
   have h2 := Ah (h x (by simp))
   have e : fQ (x :: l) = vY x ++ fQ l := rfl
   rw [e]
   simp only [vY, List.length_append, gM, List.length_cons]
   omega
theorem zJ : ∀ (L : List Per) (q : List UInt8) (l : List Per), (∀ x ∈ L, x.l < 2 ^ 64 ∧ bA x.c) → pV L.length (some (fQ L ++ q)) l = (l ++ L, some q)
 | [], q, l, _ => by simp [pV, fQ]
 | x :: L, q, l, h => by
   obtain ⟨h1, h2⟩ := h x (by simp)
   have hl := dZ h2
   obtain ⟨t1, t2⟩ := vV (E := eE 8 x.l) (q := kY x.c ++ (fQ L ++ q)) (n := 8) (gM _ _)
   have e : fQ (x :: L) ++ q = eE 8 x.l ++ (kY x.c ++ (fQ L ++ q)) := by simp [fQ, vY]
   rw [e, List.length_cons, pV, Hy, Ew, t1, t2, pH h1, zB (by omega) h2, uX (by omega) h2]
   rw [zJ L q _ (fun y hy => h y (by simp [hy]))]
   simp
theorem HE {p : Pln} (h1 : p.s < 2 ^ 64) (h2 : p.e < 2 ^ 64) (h3 : bA p.tot) (h4 : p.ps.length ≤ 255) (h5 : ∀ x ∈ p.ps, x.l < 2 ^ 64 ∧ bA x.c) (hr : bR p = true) (q : List UInt8) :
  y9 (some (oI p ++ q)) = p ∧ sJ (some (oI p ++ q)) = some q := by
 obtain ⟨k, s, e, t, ps⟩ := p
 simp only at h1 h2 h3 h4 h5
 have hl := dZ h3
 obtain ⟨a1, a2⟩ := mD k (eE 8 s ++ (eE 8 e ++ (kY t ++ (UInt8.ofNat ps.length :: (fQ ps ++ q)))))
 obtain ⟨b1, b2⟩ := vV (E := eE 8 s) (q := eE 8 e ++ (kY t ++ (UInt8.ofNat ps.length :: (fQ ps ++ q)))) (n := 8) (gM _ _)
 obtain ⟨c1, c2⟩ := vV (E := eE 8 e) (q := kY t ++ (UInt8.ofNat ps.length :: (fQ ps ++ q))) (n := 8) (gM _ _)
 have d1 := uX (by omega : t.length ≤ 255) h3 (UInt8.ofNat ps.length :: (fQ ps ++ q))
 have d2 := zB (by omega : t.length ≤ 255) h3 (UInt8.ofNat ps.length :: (fQ ps ++ q))
 obtain ⟨e1, e2⟩ := mD (UInt8.ofNat ps.length) (fQ ps ++ q)
 have hcnt : be [UInt8.ofNat ps.length] = ps.length := by
  have : (UInt8.ofNat ps.length).toNat = ps.length := toNat_ofNat (by omega)
  simp [be, this]
 have hE : oI ⟨k, s, e, t, ps⟩ ++ q = k :: (eE 8 s ++ (eE 8 e ++ (kY t ++ (UInt8.ofNat ps.length :: (fQ ps ++ q))))) := by simp [oI]
 rw [hE]
 have hR : uS (some (k :: (eE 8 s ++ (eE 8 e ++ (kY t ++ (UInt8.ofNat ps.length :: (fQ ps ++ q))))))) = (ps, some q) := by
  unfold uS s4S
  rw [a1, b1, c1, d1, e1, e2, hcnt, zJ ps q [] h5]
  rfl
 have hP : p6 (some (k :: (eE 8 s ++ (eE 8 e ++ (kY t ++ (UInt8.ofNat ps.length :: (fQ ps ++ q))))))) ps = ⟨k, s, e, t, ps⟩ := by
  unfold p6 yY
  rw [a1, a2, b1, b2, c1, c2, d2, pH h1, pH h2]
  rfl
 have := As hR (by rw [hP]; exact hr) (by simp)
 rw [hP] at this
 exact this
end Go.Proofs.YtjpnjhlfieklfaaGreat
namespace Go.Proofs.YtjpnjhlfieklfaaGreat
open Go Go.Vm
attribute [local simp] dM aI dJ opA bH bN cM bP ofValue dC plain aQ aR cA b8 cC cB bY b7 b9 bZ cV gN bW cG cD b6 bU aT aS bO cU aW dQ dR bK aZ cL gA bS dE cF AV.cells AV.bL dF cO eZ bF aV cQ dI dS dV cN aN dP dO fX eY eV cW cT cI List.getElem?_cons_zero List.getElem?_cons_succ mS kE
def WQ (id : Nat) (σ : St) (k : Nat) (l A : List UInt8) : AV → St → Prop := fun av σ' => av = .ptr id 0 ∧ ∃ k' tk', Wr σ.toks k l tk' k' A ∧ σ' = { σ with objs := σ.objs.set id [wrA k' A], toks := tk' }
theorem IB {σ : St} {id k : Nat} {l A : List UInt8} {b : UInt8} (hA : A = l ++ [b]) (h : σ.objs[id]? = some [wrA k l]) (ht : Tk σ.toks k l) (hl : l.length ≤ 300000) :
  aE Tryz.prog 97 [.ptr id 0, .v (.int .u8 b.toNat)] σ (WQ id σ k l A) := by
 subst hA; exact Cf h ht (by omega)
theorem D1 {σ : St} {id k n : Nat} {l A : List UInt8} (hA : A = l ++ eE 8 n) (h : σ.objs[id]? = some [wrA k l]) (ht : Tk σ.toks k l) (hn : n < 2 ^ 64) (hl : l.length ≤ 300000) :
  aE Tryz.prog 96 [.ptr id 0, .v (.int .u64 n)] σ (WQ id σ k l A) := by
 subst hA; exact Dh h ht hn (by omega)
theorem EZ {σ : St} {id k : Nat} {l A : List UInt8} {L : List bD} {tL : eO} (hA : A = l ++ kY L) (h : σ.objs[id]? = some [wrA k l]) (ht : Tk σ.toks k l) (hL : L.length ≤ 255) (hl : l.length ≤ 300000) :
  aE Tryz.prog 125 [.ptr id 0, .sl 5 (aL L) L.length tL] σ (WQ id σ k l A) := by
 subst hA; exact FR h ht hL (by omega)
structure LSt where
 i : Nat
 k : Nat
 tk : List Nat
set_option maxHeartbeats 1600000 in
attribute [local simp] dA List.getElem?_cons_zero List.getElem?_cons_succ iK oB eK oP yU in
theorem Jz {σ : St} {id k : Nat} {l A : List UInt8} {p : Pln} (hA : A = l ++ oI p) (h : σ.objs[id]? = some [wrA k l]) (ht : Tk σ.toks k l) (hl : l.length ≤ 100000)
  (p1 : p.s < 2 ^ 64) (p2 : p.e < 2 ^ 64) (p3 : p.tot.length ≤ 8) (p4 : p.ps.length ≤ 255) (p5 : ∀ x ∈ p.ps, x.l < 2 ^ 64 ∧ x.c.length ≤ 8) :
  aE Tryz.prog 99 [.ptr id 0, .agg (iK p)] σ (fun av σ' => av = .tup [] ∧ ∃ k' tk', Wr σ.toks k l tk' k' A ∧ σ' = { σ with objs := σ.objs.set id [wrA k' A], toks := tk' }) := by
 have hlt := cZ h
 refine cS (qO (A := .tup []) (Pi := fun i : Nat × List Nat => Wr σ.toks k l i.2 i.1 A) (τ := fun i => { σ with objs := σ.objs.set id [wrA i.1 A], toks := i.2 }) ?_ (by simp [AV.gcO, s8]) (fun _ => by simp) (fun _ => rfl) (fun _ => BH (xE _) (oP _ _ _)) (fun _ => uV _)) (fun av σ' ⟨h1, i, h2, h3⟩ => ⟨h1, i.1, i.2, h2, h3⟩)
 have hs := cY h
 obtain ⟨pk, ps, pe, pt, pp⟩ := p
 simp only at p1 p2 p3 p4 p5
 obtain ⟨c, hc⟩ : ∃ c, c = UInt8.ofNat pp.length := ⟨_, rfl⟩
 have hcn : c.toNat = pp.length := by rw [hc]; exact toNat_ofNat (by omega)
 have hw : IntKind.u8.wrap (pp.length : Int) = (c.toNat : Int) := by rw [wrap_u8, hcn, Nat.mod_eq_of_lt (by omega)]
 obtain ⟨A1, hA1⟩ : ∃ A1, A1 = l ++ [pk] := ⟨_, rfl⟩
 obtain ⟨A2, hA2⟩ : ∃ A2, A2 = A1 ++ eE 8 ps := ⟨_, rfl⟩
 obtain ⟨A3, hA3⟩ : ∃ A3, A3 = A2 ++ eE 8 pe := ⟨_, rfl⟩
 obtain ⟨A4, hA4⟩ : ∃ A4, A4 = A3 ++ kY pt := ⟨_, rfl⟩
 obtain ⟨A5, hA5⟩ : ∃ A5, A5 = A4 ++ [c] := ⟨_, rfl⟩
 have n1 : A1.length = l.length + 1 := by rw [hA1]; simp
 have n2 : A2.length = l.length + 9 := by rw [hA2, List.length_append, gM, n1]
 have n3 : A3.length = l.length + 17 := by rw [hA3, List.length_append, gM, n2]
 have n4 : A4.length ≤ l.length + 290 := by have := Ah p3; rw [hA4, List.length_append, n3]; omega
 have n5 : A5.length ≤ l.length + 291 := by rw [hA5, List.length_append]; simp; omega
 obtain ⟨Bf, hBf⟩ : ∃ Bf : Nat → List UInt8, Bf = fun i => A5 ++ fQ (pp.take i) := ⟨_, rfl⟩
 have hB0 : A5 = Bf 0 := by rw [hBf]; simp [fQ]
 have hBl : ∀ i, i ≤ pp.length → (Bf i).length ≤ 200000 := fun i hi => by
  have := qC (pp.take i) (fun x hx => (p5 x (List.mem_of_mem_take hx)).2)
  have e : (pp.take i).length = i := by simp; omega
  rw [hBf]; simp only [List.length_append]; rw [e] at this; omega
 have hBs : ∀ i (hi : i < pp.length), Bf (i + 1) = Bf i ++ eE 8 pp[i].l ++ kY pp[i].c := fun i hi => by
  rw [hBf]; simp only; rw [← List.take_append_getElem hi, BL]; simp [vY]
 have hBA : Bf pp.length = A := by
  rw [hA, hBf]; simp only; rw [List.take_length, hA5, hA4, hA3, hA2, hA1, hc]; simp [oI]
 clear hBf hA
 have ho1 : ∀ r, (σ.objs ++ r)[id]? = some [wrA k l] := fun r => by rw [List.getElem?_append_left hlt]; exact h
 have ho2 : ∀ x r, (σ.objs.set id x ++ r)[id]? = some x := fun x r => by rw [List.getElem?_append_left (by simpa using hlt)]; exact hs x
 have ho3 : ∀ x r, (σ.objs ++ r).set id x = σ.objs.set id x ++ r := fun x r => List.set_append_left _ _ hlt
 have ho4 : ∀ x y r, (σ.objs.set id y ++ r).set id x = σ.objs.set id x ++ r := fun x y r => by rw [List.set_append_left _ _ (by simpa using hlt), List.set_set]
 have hlt1 : id < σ.objs.length + 1 := by omega
 have htk : ∀ (x a b : List AV), List.take (σ.objs.length + 1) (σ.objs.set id x ++ [a, b]) = σ.objs.set id x ++ [a] := fun x a b => by
  have := List.take_length_add_append (l₁ := σ.objs.set id x) (l₂ := [a, b]) 1
  rw [List.length_set] at this
  exact this
 have F := And.intro hw (And.intro ho1 (And.intro ho2 (And.intro ho3 (And.intro ho4 (And.intro hlt (And.intro hlt1 (And.intro htk (True.intro))))))))
 refine aB Tryz.func99 rfl rfl rfl ?_; refine sr fun _ hJ2 => ?_; apply hJ2; refine sq fun K3 hK3 => ?_
 refine bI (by kernel_rfl) fun J4 hJ4 => ?_
 refine q2 0 ?_; refine q2 1 ?_; refine q2 2 ?_; refine q2 4 ?_; refine q2 5 ?_; refine q2 7 ?_; refine q2 8 ?_; refine q2 10 ?_; refine q2 11 ?_; refine q2 13 ?_; refine q2 14 ?_; refine q2 15 ?_; refine q2 16 ?_
 refine dc 3 rfl (c := IB hA1 (ho1 _) ht (by omega)) (k := ?_)
 rintro _ _ ⟨rfl, k1, tk1, hw1, rfl⟩
 refine ⟨by first | exact fun _ _ h => h | (refine aH [16, 15, 14, 13, 11, 10, 8, 7, 5, 4, 1] (by kernel_rfl) ?_; (repeat' first | exact ln2 | refine lc ?_ ?_) <;> constructor <;> first | rfl | (simp [F]; done)), ?_⟩
 try simp [F]
 refine dc 6 rfl (c := D1 hA2 (ho2 _ _) hw1.tok p1 (by omega)) (k := ?_)
 rintro _ _ ⟨rfl, k2, tk2, hw2, rfl⟩
 refine ⟨by first | exact fun _ _ h => h | (refine aH [16, 15, 14, 13, 11, 10, 8, 7, 4, 1] (by kernel_rfl) ?_; (repeat' first | exact ln2 | refine lc ?_ ?_) <;> constructor <;> first | rfl | (simp [F]; done)), ?_⟩
 try simp [F]
 refine dc 9 rfl (c := D1 hA3 (ho2 _ _) hw2.tok p2 (by omega)) (k := ?_)
 rintro _ _ ⟨rfl, k3, tk3, hw3, rfl⟩
 refine ⟨by first | exact fun _ _ h => h | (refine aH [16, 15, 14, 13, 11, 10, 7, 4, 1] (by kernel_rfl) ?_; (repeat' first | exact ln2 | refine lc ?_ ?_) <;> constructor <;> first | rfl | (simp [F]; done)), ?_⟩
 try simp [F]
 refine dc 12 rfl (c := EZ hA4 (ho2 _ _) hw3.tok (by omega) (by omega)) (k := ?_)
 rintro _ _ ⟨rfl, k4, tk4, hw4, rfl⟩
 refine ⟨by first | exact fun _ _ h => h | (refine aH [16, 15, 14, 13, 10, 7, 4, 1] (by kernel_rfl) ?_; (repeat' first | exact ln2 | refine lc ?_ ?_) <;> constructor <;> first | rfl | (simp [F]; done)), ?_⟩
 try simp [F]
 refine dc 17 rfl (c := IB hA5 (ho2 _ _) hw4.tok (by omega)) (k := ?_)
 rintro _ _ ⟨rfl, k5, tk5, hw5, rfl⟩
 refine ⟨by first | exact fun _ _ h => h | (refine aH [15, 14, 13, 10, 7, 4, 1] (by kernel_rfl) ?_; (repeat' first | exact ln2 | refine lc ?_ ?_) <;> constructor <;> first | rfl | (simp [F]; done)), ?_⟩
 (try simp [F]); refine dd ?_; apply hJ4; apply hK3; refine sr fun _ hJ6 => ?_; apply hJ6; refine aD ?_; refine fA (X := LSt) [0, 25, 26] (fun q ρ σ1 => (q.i ≤ pp.length) ∧ (Wr σ.toks k l q.tk q.k (Bf q.i)) ∧ (ρ 27 = .v (.int .i64 q.i)) ∧ (σ1 = { σ with objs := σ.objs.set id [wrA q.k (Bf q.i)] ++ [[.v (.int .u8 pk.toNat), .v (.int .u64 ps), .v (.int .u64 pe), .sl 5 (aL pt) pt.length .shut, .sl 2 (e6 pp) pp.length .shut]], toks := q.tk })) (fun q => pp.length - q.i) (⟨0, k5, tk5⟩) ?st1 ?rd1
 case st1 =>
  refine ⟨lp, ?_, lp, ?_⟩
  · rw [← hB0]
    exact (((hw1.trans hw2).trans hw3).trans hw4).trans hw5
  · simp only [← hB0]
 case rd1 =>
  rintro q ρ1 σ1 hF1 ⟨hj, hq, h27, hσ⟩; obtain rfl := hσ.symm
  have f1 := dU hF1
  (try simp [dT, F] at f1); replace F := aF h27 F; (try replace F := aF f1 F); refine sr fun _ hJ8 => ?_; apply hJ8; refine sq fun K9 hK9 => ?_; refine cs (fun c28 => ?_) (fun c28 => ?_)
  · all_goals
     replace F := aF c28 F; refine aA ?_; apply hK9; refine sq fun K10 hK10 => ?_; refine aD ?_; refine sq fun K11 hK11 => ?_
     have hlt2 : q.i < pp.length := by have h := c28; simp at h; omega
     have hat := jS hlt2
     have hb1 : q.i * 2 + 2 ≤ pp.length * 2 := by omega
     have hx5 := p5 _ (List.getElem_mem hlt2)
     have hBs1 := hBs _ hlt2
     have hBl1 := hBl q.i hj
     obtain ⟨x, hx⟩ : ∃ x, x = pp[q.i] := ⟨_, rfl⟩
     rw [← hx] at hat hx5 hBs1
     obtain ⟨xl, xc⟩ := x
     simp only at hx5 hBs1
     obtain ⟨C1, hC1⟩ : ∃ C1, C1 = Bf q.i ++ eE 8 xl := ⟨_, rfl⟩
     rw [← hC1] at hBs1
     have nC : C1.length = (Bf q.i).length + 8 := by rw [hC1, List.length_append, gM]
     replace F := aF hlt2 F; replace F := aF hat F; replace F := aF hb1 F; refine rg' (h := fun J12 hJ12 => ?_); apply hJ12; apply hK11
     refine bI (by kernel_rfl) fun J13 hJ13 => ?_
     refine q2 0 ?_; refine q2 1 ?_; refine q2 2 ?_; refine q2 4 ?_; refine q2 5 ?_
     refine dc 3 rfl (c := D1 hC1 (ho2 _ _) hq.tok hx5.1 (by omega)) (k := ?_)
     rintro _ _ ⟨rfl, k6, tk6, hw6, rfl⟩
     refine ⟨by first | exact fun _ _ h => h | (refine aH [5, 4, 1] (by kernel_rfl) ?_; (repeat' first | exact ln2 | refine lc ?_ ?_) <;> constructor <;> first | rfl | (simp [F]; done)), ?_⟩
     try simp [F]
     refine dc 6 rfl (c := EZ hBs1 (ho2 _ _) hw6.tok (by omega) (by omega)) (k := ?_)
     rintro _ _ ⟨rfl, k7, tk7, hw7, rfl⟩
     refine ⟨by first | exact fun _ _ h => h | (refine aH [4, 1] (by kernel_rfl) ?_; (repeat' first | exact ln2 | refine lc ?_ ?_) <;> constructor <;> first | rfl | (simp [F]; done)), ?_⟩
     (try simp [F]); refine dd ?_; apply hJ13; apply hK10; refine rg' (h := fun J14 hJ14 => ?_); apply hJ14; refine ⟨gk, (⟨q.i + 1, k7, tk7⟩), ⟨kpG, lpG, ?_, lpG, ?_⟩, lpG⟩
     · exact (hq.trans hw6).trans hw7
     · simp [St.fU, F]
  all_goals
   replace F := aF c28 F; refine bJ ?_; (try simp only [eD, bG, bV, if_true]); refine gI rfl (.inl rfl) ?_
   have hii : q.i = pp.length := by have h := c28; simp at h; omega
   rw [hii, hBA] at hq
   rw [hii, hBA]
   exact ⟨(q.k, q.tk), hq, rfl, _, rfl⟩
end Go.Proofs.YtjpnjhlfieklfaaGreat
namespace Go.Proofs.YtjpnjhlfieklfaaGreat
open Go Go.Vm
attribute [local simp] dM aI dJ opA bH bN cM bP ofValue dC plain aQ aR cA b8 cC cB bY b7 b9 bZ cV bW cG cD b6 bU aT aS bO cU aW dQ dR bK aZ cL gA bS dE cF AV.cells AV.bL dF cO eZ bF aV cQ dI dS dV cN aN dP dO cW cT cI List.getElem?_cons_zero List.getElem?_cons_succ fK fL fH fG fJ fM fI fF dL eQ eB fB
variable {Ru : UInt8 → List Pr}
structure Acc where
 a : UInt8
 q : Nat
 y : UInt8
 p : Pln
 f : UInt8
 k : Num
 r : Num
def Acc.Ok (x : Acc) : Prop := x.q < 2 ^ 64 ∧ x.p.Ok
def hH (x : Acc) : List AV := [.v (.int .u8 x.a.toNat), .v (.int .u64 x.q), .v (.int .u8 x.y.toNat), .v (.int .u8 x.p.k.toNat), .v (.int .u64 x.p.s), .v (.int .u64 x.p.e), .sl 5 (aL x.p.tot) x.p.tot.length .shut, .sl 2 (e6 x.p.ps) x.p.ps.length .shut, .v (.int .u8 x.f.toNat), .v (.int .u64 (eN x.k.v 0 : Nat)), .v (.int .u64 (eN x.k.v 1 : Nat)), .v (.int .u64 (eN x.k.v 2 : Nat)), .v (.int .u64 (eN x.k.v 3 : Nat)), .v (.int .u64 (eN x.r.v 0 : Nat)), .v (.int .u64 (eN x.r.v 1 : Nat)), .v (.int .u64 (eN x.r.v 2 : Nat)), .v (.int .u64 (eN x.r.v 3 : Nat))]
def iQ (l : List Acc) : List AV := l.flatMap hH
theorem rR (l : List Acc) : (iQ l).length = l.length * 17 := kP hH 17 (fun _ => rfl) l
theorem Gf (l m : List Acc) : iQ (l ++ m) = iQ l ++ iQ m := by simp [iQ]
theorem xV (B : Bd) (v : Acc) : bB B (hH v) = true := by simp [hH, bB, AV.under, nX]
theorem mZ (n : Nat) (v : Acc) : bM n (hH v) = true := by simp [hH, bM, AV.eM, eK]
theorem wA (B : Bd) (l : List Acc) : bB B (iQ l) = true := iO (xV B) l
theorem vZ (nb : Nat) (l : List Acc) : bM nb (iQ l) = true := iP (mZ nb) l
theorem uA {l : List Acc} {i : Nat} (h : i < l.length) : ∃ R, (iQ l).drop (i * 17) = hH l[i] ++ R := ⟨_, tO hH 17 (fun _ => rfl) l i h⟩
theorem Hr (v : Acc) : (∀ x ∈ hH v, AV.bL x = true) := fun x hx => by simp only [hH, List.mem_cons, List.not_mem_nil, or_false] at hx; rcases hx with rfl | rfl | rfl | rfl | rfl | rfl | rfl | rfl | rfl | rfl | rfl | rfl | rfl | rfl | rfl | rfl | rfl <;> rfl
def vR (x : Acc) : List UInt8 := eE 8 x.q ++ (x.y :: x.f :: (kZ x.k.v ++ (kZ x.r.v ++ oI x.p)))
def kJ (i : UInt8) : List UInt8 := [97, i]
def prA (x : Acc) : Pr := ⟨kJ x.a, vR x⟩
def gR (x : Acc) : Prop := x.a.toNat < 200 ∧ x.y.toNat < 200 ∧ x.f.toNat < 200 ∧ bR x.p = true ∧ (x.f = 0 ∨ x.p.k = 5) ∧ (x.f ≠ x.a ∨ x.p.k ≠ 5)
instance (x : Acc) : Decidable (gR x) := by unfold gR; exact inferInstance
theorem wB : ∀ {l : List Per} {e : Nat} {a : List bD} {r : Nat × List bD}, lA l e a = some r → ∀ x ∈ l, x.l ≤ 2 ^ 40 ∧ bA x.c
 | [], _, _, _, _, x, hx => absurd hx (by simp)
 | y :: l, e, a, r, h, x, hx => by
   rw [lA] at h
   split at h
   · cases h
   · rename_i hn
     split at h
     · rcases List.mem_cons.1 hx with rfl | hx
       · exact ⟨Nat.le_of_not_lt fun q => hn (.inr (.inl q)), Classical.byContradiction fun q => hn (.inr (.inr (.inr fun z => q z.2)))⟩
       · exact wB h x hx
     · cases h
theorem w9 : ∀ {l : List Per}, (∀ x ∈ l, x.l ≤ 2 ^ 40) → pE l ≤ l.length * 2 ^ 40
 | [], _ => by simp [pE]
 | x :: l, h => by
   have h1 := h x (by simp)
   have h2 := w9 (fun y hy => h y (List.mem_cons_of_mem _ hy))
   simp only [pE, List.length_cons, Nat.add_mul]; omega
structure Good (p : Pln) : Prop where
 tot : bA p.tot
 len : p.ps.length ≤ 16
 ps : ∀ x ∈ p.ps, x.l ≤ 2 ^ 40 ∧ bA x.c
 s : p.s < 2 ^ 64
 e : p.e < 2 ^ 64
 fit : p.s + pE p.ps < 2 ^ 64
theorem pD {p : Pln} (h : bR p = true) (ho : p.Ok) : Good p := by
 have hz : ∀ {q : Pln}, q.ps = [] → q.Ok → bA q.tot → Good q := fun e o t => ⟨t, by rw [e]; simp, by rw [e]; simp, o.1, o.2.1, by rw [e]; simpa [pE] using o.1⟩
 unfold bR at h
 split at h
 · rw [decide_eq_true_eq] at h; subst h; exact hz rfl ho Go.Vm.fC
 · split at h
   · cases h
   · rename_i hn
     have ht : bA p.tot := Classical.byContradiction fun q => hn (.inl fun z => q z.2)
     split at h
     · rw [decide_eq_true_eq] at h; exact hz h.2 ho ht
     · split at h
       · rw [decide_eq_true_eq] at h; exact hz h.2 ho ht
       · split at h
         · rw [decide_eq_true_eq] at h; exact hz h.2.2 ho ht
         · split at h
           · simp only [sC, Bool.and_eq_true, decide_eq_true_eq] at h
             have hf := wB h.2
             refine ⟨ht, h.1, hf, ho.1, ho.2.1, ?_⟩
             have hl := w9 (fun x hx => (hf x hx).1)
             have hs : p.s ≤ 2 ^ 40 := by
              have h2 := h.2
              cases hp : p.ps with
              | nil =>
                rw [hp, lA] at h2
                have e1 := congrArg Prod.fst (Option.some.inj h2)
                simp only at e1
                have : ¬ 2 ^ 40 < p.e := fun q => hn (.inr q)
                omega
              | cons y l =>
                rw [hp, lA] at h2
                split at h2
                · cases h2
                · rename_i hq
                  exact Nat.le_of_not_lt fun q => hq (.inr (.inr (.inl q)))
             have : p.ps.length * 2 ^ 40 ≤ 16 * 2 ^ 40 := Nat.mul_le_mul_right _ h.1
             omega
           · cases h
theorem Gs {p : Pln} (g : Good p) : (oI p).length ≤ 4800 := by
 have h1 := HI g.tot
 have h2 := qC p.ps (fun x hx => dZ (g.ps x hx).2)
 have := g.len
 simp only [oI, List.length_append, List.length_cons, gM]; omega
theorem yX {x : Acc} (g : Good x.p) : (vR x).length ≤ 4900 := by
 have := B8 x.k.h; have := B8 x.r.h; have := Gs g
 simp only [vR, List.length_append, List.length_cons, gM]; omega
theorem B4 (i : UInt8) : preB (kJ i) [97] = true := by simp [preB, kJ]
theorem JK (i : UInt8) {c : UInt8} (h : c ≠ 97) : preB (kJ i) [c] = false := by simp [kJ, preB]; exact fun e => h e.symm
theorem Fp (i j : UInt8) : ltB (kJ i) (kJ j) = decide (i.toNat < j.toNat) := by
 simp only [kJ, ltB, if_true]
 by_cases e : i = j
 · subst e; simp
 · rw [if_neg e]
theorem yA {i j : UInt8} : kJ i = kJ j ↔ i = j := by simp [kJ]
def rE (d : Acc) : List Acc → List Acc
 | [] => [d]
 | x :: l => if x.a = d.a then d :: l else if d.a.toNat < x.a.toNat then d :: x :: l else x :: rE d l
theorem B6 (d : Acc) : ∀ l : List Acc, iA (l.map prA) (kJ d.a) (some (vR d)) = (rE d l).map prA
 | [] => rfl
 | x :: l => by
   have ih := B6 d l
   rw [List.map_cons, n9, rE]
   have hk : (prA x).k = kJ x.a := rfl
   rw [hk]
   by_cases e : x.a = d.a
   · rw [if_pos (yA.2 e), if_pos e]; rfl
   · rw [if_neg (fun q => e (yA.1 q)), if_neg e, Fp]
     by_cases e2 : d.a.toNat < x.a.toNat
     · rw [if_pos (decide_eq_true e2), if_pos e2]; rfl
     · rw [if_neg (by simpa using e2), if_neg e2, ih]; rfl
theorem C5 {d y : Acc} : ∀ {l : List Acc}, y ∈ rE d l → y = d ∨ y ∈ l
 | [], h => .inl (by simpa [rE] using h)
 | x :: l, h => by
   rw [rE] at h
   split at h
   · rcases List.mem_cons.1 h with h | h
     · exact .inl h
     · exact .inr (by simp [h])
   · split at h
     · rcases List.mem_cons.1 h with h | h
       · exact .inl h
       · exact .inr h
     · rcases List.mem_cons.1 h with h | h
       · exact .inr (by simp [h])
       · rcases C5 h with h | h
         · exact .inl h
         · exact .inr (by simp [h])
theorem Cs (d : Acc) : ∀ l : List Acc, (rE d l).length ≤ l.length + 1
 | [] => by simp [rE]
 | x :: l => by
   have ih := Cs d l
   rw [rE]
   split
   · simp
   · split
     · simp
     · simp only [List.length_cons]; omega
def Nr (x y : Acc) : Prop := x.a.toNat < y.a.toNat
structure eT (Ru : UInt8 → List Pr) (s : Sto) (L : List Acc) (n : Nat) : Prop where
 ok : s.Ok n
 pa : pl s.l [97] = L.map prA
 rt : ∀ x ∈ L, gR x ∧ x.Ok
 nl : L.length ≤ n
 rs : ∀ c, c ≠ 97 → pl s.l [c] = Ru c
theorem eT.nil : eT Rp0 fP.s [] 0 := ⟨y6, rfl, fun x h => absurd h (by simp), Nat.le_refl _, fun c h => rfl⟩
theorem eT.mono {s : Sto} {L : List Acc} {n m : Nat} (h : eT Ru s L n) (hm : n ≤ m) : eT Ru s L m := ⟨h.ok.mono hm, h.pa, h.rt, Nat.le_trans h.nl hm, h.rs⟩
theorem eT.Fk {Rv : UInt8 → List Pr} {s s' : Sto} {L : List Acc} {n m : Nat} (h : eT Ru s L n) (ho : s'.Ok m) (hm : n ≤ m) (e1 : pl s'.l [97] = pl s.l [97]) (e3 : ∀ c, c ≠ 97 → pl s'.l [c] = Rv c) : eT Rv s' L m :=
 ⟨ho, e1.trans h.pa, h.rt, Nat.le_trans h.nl hm, e3⟩
theorem eT.Mx {s : Sto} {L : List Acc} {n : Nat} (h : eT Ru s L n) {x : Acc} (hx : x ∈ L) : Good x.p := pD (h.rt x hx).1.2.2.2.1 (h.rt x hx).2.2
theorem eT.srt {s : Sto} {L : List Acc} {n : Nat} (h : eT Ru s L n) : L.Pairwise Nr := by
 have hs := Bh (p := [97]) h.ok.srt
 rw [h.pa, Srt, List.pairwise_map] at hs
 refine List.Pairwise.imp (fun {x y} hxy => ?_) hs
 have e : ltB (kJ x.a) (kJ y.a) = true := hxy
 rw [Fp, decide_eq_true_eq] at e
 exact e
theorem eT.yes {s : Sto} {L : List Acc} {n : Nat} {x : Acc} (h : eT Ru s L n) (hx : x ∈ L) : fN s.l (kJ x.a) = some (vR x) := by
 have hs := Bh (p := [97]) h.ok.srt
 rw [← nQ (B4 _), h.pa]
 rw [h.pa] at hs
 exact nO hs (p := prA x) (List.mem_map_of_mem hx)
theorem eT.no {s : Sto} {L : List Acc} {n : Nat} {a : UInt8} (h : eT Ru s L n) (hx : ∀ x ∈ L, x.a ≠ a) : fN s.l (kJ a) = none := by
 rw [← nQ (B4 _), h.pa]
 refine EN (fun p hp => ?_)
 obtain ⟨d, hd, rfl⟩ := List.mem_map.1 hp
 exact fun e => hx d hd (yA.1 e)
theorem eT.set {s : Sto} {L : List Acc} {n : Nat} {x : Acc} (h : eT Ru s L n) (hR : gR x) (ho : x.Ok) : eT Ru (doS s (kJ x.a) (some (vR x))) (rE x L) (n + 1) := by
 have hl := yX (pD hR.2.2.2.1 ho.2)
 refine ⟨H8 h.ok (by simp [kJ]) (by simp; omega), ?_, fun y hy => ?_, Nat.le_trans (Cs x L) (Nat.succ_le_succ h.nl), fun c h1 => (DK (JK _ h1)).trans (h.rs c h1)⟩
 · show pl (iA s.l _ _) _ = _
   rw [KA (B4 _) h.ok.srt, h.pa, B6]
 · rcases C5 hy with rfl | hy
   · exact ⟨hR, ho⟩
   · exact h.rt y hy
def j8 (L : List Acc) (a : UInt8) : Option Acc := L.find? fun x => decide (x.a = a)
theorem sW {L : List Acc} {a : UInt8} {x : Acc} (h : j8 L a = some x) : x ∈ L ∧ x.a = a := ⟨List.mem_of_find?_eq_some h, by simpa using List.find?_some h⟩
theorem pT {L : List Acc} {a : UInt8} : j8 L a = none ↔ ∀ x ∈ L, x.a ≠ a := by simp [j8]
def uE (L : List Acc) (a : UInt8) : Bool := (j8 L a).isSome
structure PrA where
 L : List Acc
 e : Nat
def oW (L : List Acc) (x : Acc) : PrA := if ¬ gR x then ⟨L, 1⟩ else if uE L x.a = true then ⟨L, 9⟩ else ⟨rE x L, 0⟩
def pl0 : Pln := ⟨0, 0, 0, [], []⟩
theorem K0 : pl0.Ok := ⟨by decide, by decide, by simp [pl0], by simp [pl0], fun x h => absurd h (by simp [pl0])⟩
end Go.Proofs.YtjpnjhlfieklfaaGreat
namespace Go.Proofs.YtjpnjhlfieklfaaGreat
set_option maxHeartbeats 1600000
open Go Go.Vm
attribute [local simp] dM aI dJ opA bH bN cM bP ofValue dC plain aQ aR cA b8 cC cB bY b7 b9 bZ cV bW cG cD b6 bU aT aS bO cU aW dQ dR bK aZ cL gA bS dE cF AV.cells AV.bL dF cO eZ bF aV cQ dI dS dV cN aN dP dO cW cT cI List.getElem?_cons_zero List.getElem?_cons_succ fK fL fH fG fJ fM fI fF dL eQ eB fB dA
variable {Ru : UInt8 → List Pr}
theorem Lp {σ : St} {id k n : Nat} {l A : List UInt8} (hA : A = l ++ eE 8 n) (h : σ.objs[id]? = some [wrA k l]) (ht : Tk σ.toks k l) (hn : n < 2 ^ 64) (hl : l.length ≤ 300000) :
  aE Tryz.prog 96 [.ptr id 0, .v (.int .u64 n)] σ (WL id σ k l A) := by
 subst hA; exact Dh h ht hn (by omega)
theorem M5 {σ : St} {id n : Nat} {p q : List UInt8} (hp : p = eE 8 n ++ q) (hn : n < 2 ^ 64) (h : σ.objs[id]? = some (rd (some p))) :
  aE Tryz.prog 57 [.ptr id 0] σ (fun av σ' => av = .v (.int .u64 n) ∧ σ' = { σ with objs := σ.objs.set id (rd (some q)) }) := by
 subst hp
 obtain ⟨t1, t2⟩ := vV (E := eE 8 n) (q := q) (n := 8) (gM _ _)
 exact cS (xC h) (fun av σ' ⟨e1, e2⟩ => by
  rw [t2, pH hn] at e1; rw [t1] at e2
  exact ⟨e1, e2⟩)
theorem MJ {σ : St} {id k : Nat} {l A : List UInt8} {p : Pln} (hA : A = l ++ oI p) (h : σ.objs[id]? = some [wrA k l]) (ht : Tk σ.toks k l) (hl : l.length ≤ 100000) (g : Good p) :
  aE Tryz.prog 99 [.ptr id 0, .agg (iK p)] σ (fun av σ' => av = .tup [] ∧ ∃ k' tk', Wr σ.toks k l tk' k' A ∧ σ' = { σ with objs := σ.objs.set id [wrA k' A], toks := tk' }) :=
 Jz hA h ht hl g.s g.e (dZ g.tot) (by have := g.len; omega) (fun x hx => ⟨by have := (g.ps x hx).1; omega, dZ (g.ps x hx).2⟩)
theorem MM {σ : St} {id : Nat} {p : Pln} {P q : List UInt8} (hp : P = oI p ++ q) (g : Good p) (hr : bR p = true) (h : σ.objs[id]? = some (rd (some P))) :
  aE Tryz.prog 60 [.ptr id 0] σ (fun av σ' => av = .agg (iK p) ∧ σ' = { σ with objs := σ.objs.set id (rd (some q)) }) := by
 subst hp
 obtain ⟨t1, t2⟩ := HE g.s g.e g.tot (by have := g.len; omega) (fun x hx => ⟨by have := (g.ps x hx).1; omega, (g.ps x hx).2⟩) hr q
 exact cS (Hk h) (fun av σ' ⟨e1, e2⟩ => by
  rw [t1] at e1; rw [t2] at e2
  exact ⟨e1, e2⟩)
theorem xD {σ : St} {a : UInt8} : aE Tryz.prog 55 [.v (.int .u8 a.toNat)] σ (fun av σ' => av = .sl 1 [.v (.int .u8 97), .v (.int .u8 a.toNat)] 2 .full ∧ σ = σ') := by
 have F := True.intro
 refine aB Tryz.func55 rfl rfl rfl ?_; refine sr fun _ hJ2 => ?_; apply hJ2; refine sr fun _ hJ4 => ?_; apply hJ4; refine ra ?_; exact rt
attribute [local simp] hH in
theorem GS {σ : St} {o k n : Nat} {G : Sg} {v : Acc} (h : gT σ o k G) (hG : G.s.Ok n) (hn : n ≤ 900000) (g : Good v.p) (hq : v.q < 2 ^ 64) :
  aE Tryz.prog 68 [.ptr o 0, .agg (hH v)] σ (fun av σ' => ∃ G', G'.s = doS G.s (kJ v.a) (some (vR v)) ∧ av = .tup [] ∧ σ' = eR σ o k G') := by
 have h700 := yX g
 obtain ⟨A1, hA1⟩ : ∃ A, A = [] ++ eE 8 v.q := ⟨_, rfl⟩
 obtain ⟨A2, hA2⟩ : ∃ A, A = A1 ++ [v.y] := ⟨_, rfl⟩
 obtain ⟨A3, hA3⟩ : ∃ A, A = A2 ++ [v.f] := ⟨_, rfl⟩
 obtain ⟨A4, hA4⟩ : ∃ A, A = A3 ++ kZ v.k.v := ⟨_, rfl⟩
 obtain ⟨A5, hA5⟩ : ∃ A, A = A4 ++ kZ v.r.v := ⟨_, rfl⟩
 obtain ⟨A6, hA6⟩ : ∃ A, A = A5 ++ oI v.p := ⟨_, rfl⟩
 have hA : vR v = A6 := by rw [hA6, hA5, hA4, hA3, hA2, hA1]; simp [vR]
 rw [hA] at h700
 have l6 := congrArg List.length hA6; have l5 := congrArg List.length hA5; have l4 := congrArg List.length hA4; have l3 := congrArg List.length hA3; have l2 := congrArg List.length hA2; have l1 := congrArg List.length hA1
 simp only [List.length_append, List.length_cons, List.length_nil] at l1 l2 l3 l4 l5 l6
 have hne : A6 ≠ [] := by rw [← hA]; intro e; have e2 := congrArg List.length e; simp [vR] at e2
 have hw0 : [AV.sl 0 [] 0 eO.full] = [wrA 0 []] := rfl
 have hse : ∀ l tk, aE Tryz.prog 100 [.ptr o 0, .sl 1 [.v (.int .u8 97), .v (.int .u8 v.a.toNat)] 2 .full, .sl 1 (aY A6) A6.length .shut] { σ with objs := σ.objs ++ l, toks := tk } (fun av σ' => ∃ G', G'.s = doS G.s (kJ v.a) (some A6) ∧ av = .tup [] ∧ σ' = eR { σ with objs := σ.objs ++ l, toks := tk } o k G') := fun l tk => Lo (K := kJ v.a) h hG hn (by simp [kJ]) (by omega) l tk
 have hpa := EP h
 have hg0 : ∀ (G' : Sg) x r tk, (eR { σ with objs := σ.objs ++ x :: r, toks := tk } o k G').objs[σ.objs.length]? = some x := fun G' x r tk => by rw [hpa]; simp [eR]
 rw [hA]
 refine cS (nU (X := Nat × Nat × Nat) (A := fun _ => .tup []) (T := fun x => ⟨doS G.s (kJ v.a) (some A6), x.1, x.2.1, x.2.2⟩) h (fun _ => rfl) ?_) (fun av σ' ⟨x, e1, e2⟩ => ⟨_, rfl, e1, e2⟩)
 have hpl : ∀ (τ : St) id j, τ.objs[id]? = some [wrA j A5] → Tk τ.toks j A5 → aE Tryz.prog 99 [.ptr id 0, .agg [.v (.int .u8 v.p.k.toNat), .v (.int .u64 v.p.s), .v (.int .u64 v.p.e), .sl 5 (aL v.p.tot) v.p.tot.length .shut, .sl 2 (e6 v.p.ps) v.p.ps.length .shut]] τ (fun av σ' => av = .tup [] ∧ ∃ k' tk', Wr τ.toks j A5 tk' k' A6 ∧ σ' = { τ with objs := τ.objs.set id [wrA k' A6], toks := tk' }) := fun τ id j q1 q2 => MJ hA6 q1 q2 (by omega) g
 have F := And.intro hg0 (True.intro)
 refine aB Tryz.func68 rfl rfl rfl ?_; refine sr fun _ hJ2 => ?_; apply hJ2; refine sr fun _ hJ4 => ?_; apply hJ4; refine sq fun K5 hK5 => ?_; replace F := aF hw0 F
 refine bI (by kernel_rfl) fun J6 hJ6 => ?_
 refine q2 0 ?_; refine q2 1 ?_; refine q2 2 ?_; refine q2 4 ?_; refine q2 5 ?_; refine q2 7 ?_; refine q2 8 ?_; refine q2 10 ?_; refine q2 11 ?_; refine q2 12 ?_; refine q2 14 ?_; refine q2 15 ?_; refine q2 16 ?_
 refine dc 3 rfl (c := Lp (k := 0) (l := []) hA1 (by simp [F, hw0]) (.inl rfl) hq (by simp)) (k := ?_)
 rintro _ _ ⟨rfl, k1, tk1, w1, rfl⟩
 refine ⟨by first | exact fun _ _ h => h | (refine aH [16, 15, 14, 12, 11, 10, 8, 7, 5, 4, 1] (by kernel_rfl) ?_; (repeat' first | exact ln2 | refine lc ?_ ?_) <;> constructor <;> first | rfl | (simp [F]; done)), ?_⟩
 try simp [F]
 refine dc 6 rfl (c := Hi hA2 (by simp [F]) w1.tok (by omega)) (k := ?_)
 rintro _ _ ⟨rfl, k2, tk2, w2, rfl⟩
 refine ⟨by first | exact fun _ _ h => h | (refine aH [16, 15, 14, 12, 11, 10, 8, 7, 4, 1] (by kernel_rfl) ?_; (repeat' first | exact ln2 | refine lc ?_ ?_) <;> constructor <;> first | rfl | (simp [F]; done)), ?_⟩
 try simp [F]
 refine dc 9 rfl (c := Hi hA3 (by simp [F]) w2.tok (by omega)) (k := ?_)
 rintro _ _ ⟨rfl, k3, tk3, w3, rfl⟩
 refine ⟨by first | exact fun _ _ h => h | (refine aH [16, 15, 14, 12, 11, 10, 7, 4, 1] (by kernel_rfl) ?_; (repeat' first | exact ln2 | refine lc ?_ ?_) <;> constructor <;> first | rfl | (simp [F]; done)), ?_⟩
 try simp [F]
 refine dc 13 rfl (c := KL hA4 (by simp [F]) w3.tok (by omega)) (k := ?_)
 rintro _ _ ⟨rfl, k4, tk4, w4, rfl⟩
 refine ⟨by first | exact fun _ _ h => h | (refine aH [16, 15, 14, 11, 10, 7, 4, 1] (by kernel_rfl) ?_; (repeat' first | exact ln2 | refine lc ?_ ?_) <;> constructor <;> first | rfl | (simp [F]; done)), ?_⟩
 try simp [F]
 refine dc 17 rfl (c := KL hA5 (by simp [F]) w4.tok (by omega)) (k := ?_)
 rintro _ _ ⟨rfl, k5, tk5, w5, rfl⟩
 refine ⟨by first | exact fun _ _ h => h | (refine aH [15, 14, 11, 10, 7, 4, 1] (by kernel_rfl) ?_; (repeat' first | exact ln2 | refine lc ?_ ?_) <;> constructor <;> first | rfl | (simp [F]; done)), ?_⟩
 (try simp [F]); refine dd ?_; apply hJ6; apply hK5; refine sr fun _ hJ8 => ?_
 refine ca (c := hpl _ _ k5 (by simp [F]) w5.tok) (k := ?_)
 rintro _ _ ⟨rfl, k6, tk6, w6, rfl⟩; (try simp [F]); apply hJ8; refine rg' (h := fun J9 hJ9 => ?_); refine ca (c := xD) (k := ?_); rintro _ _ ⟨rfl, rfl⟩; try simp [F]
 refine ca (c := Mr (l := A6) (k := k6) (by simp [F]) hne (by omega)) (k := ?_)
 rintro _ _ ⟨rfl, rfl⟩; (try simp [F]); refine ca (c := hse _ _) (k := ?_); rintro _ _ ⟨G', e0, rfl, rfl⟩; (try simp [F]); apply hJ9; (try simp only [eD, bG, bV, if_true]); refine gI rfl (.inl rfl) ?_
 obtain ⟨gs, a1, a2, a3⟩ := G'
 simp only at e0
 subst e0
 refine ⟨(a1, a2, a3), ?_⟩
 obtain ⟨tm, htm⟩ := ((w1.trans w2).trans ((w3.trans w4).trans (w5.trans w6))).pre
 rw [hpa, htm]
 exact gcr
def Ec : List AV := [.v (.int .u8 0), .v (.int .u64 0), .v (.int .u8 0), .v (.int .u8 0), .v (.int .u64 0), .v (.int .u64 0), .sl 0 [] 0 .full, .sl 0 [] 0 .full, .v (.int .u8 0), .v (.int .u64 0), .v (.int .u64 0), .v (.int .u64 0), .v (.int .u64 0), .v (.int .u64 0), .v (.int .u64 0), .v (.int .u64 0), .v (.int .u64 0)]
attribute [local simp] hH aM in
theorem Hf {σ : St} {o k n : Nat} {G : Sg} {v : Acc} (h : gT σ o k G) (hG : G.s.Ok n) (hn : n ≤ 900000) (g : Good v.p) (hr : bR v.p = true) (hq : v.q < 2 ^ 64) (hg : fN G.s.l (kJ v.a) = some (vR v)) :
  aE Tryz.prog 23 [.ptr o 0, .v (.int .u8 v.a.toNat)] σ (fun av σ' => av = .tup [.agg (hH v), .v (.bool true)] ∧ σ = σ') := by
 refine aU ?_ (by simp [AV.under, xV, bB, nX])
 have h700 := yX g
 have hge : ∀ l, aE Tryz.prog 54 [.ptr o 0, .sl 1 [.v (.int .u8 97), .v (.int .u8 v.a.toNat)] 2 .full] { σ with objs := σ.objs ++ l } _ := fun l => BK (key := kJ v.a) (t1 := .full) (h.app l σ.toks) hG (by omega)
 rw [hg] at hge
 simp only [Option.getD_some, Option.isSome_some] at hge
 obtain ⟨q5, hq5⟩ : ∃ q, q = oI v.p ++ [] := ⟨_, rfl⟩
 obtain ⟨q4, hq4⟩ : ∃ q, q = kZ v.r.v ++ q5 := ⟨_, rfl⟩
 obtain ⟨q3, hq3⟩ : ∃ q, q = kZ v.k.v ++ q4 := ⟨_, rfl⟩
 obtain ⟨q1, hq1⟩ : ∃ q, q = v.y :: (v.f :: q3) := ⟨_, rfl⟩
 obtain ⟨P, hP⟩ : ∃ q, q = eE 8 v.q ++ q1 := ⟨_, rfl⟩
 have hp : vR v = P := by rw [hP, hq1, hq3, hq4, hq5]; simp [vR]
 rw [hp] at h700 hge
 have hrd := fun τ => L0 (σ := τ) (p := P) (tl := .shut) (by omega)
 have htk := fun (τ : St) id (h : τ.objs[id]? = some (rd (some q5))) => MM hq5 g hr h
 simp only [iK] at htk
 have F := True.intro
 refine aB Tryz.func23 rfl rfl rfl ?_; refine sr fun _ hJ2 => ?_; apply hJ2; refine sr fun _ hJ4 => ?_; refine ca (c := xD) (k := ?_); rintro _ _ ⟨rfl, rfl⟩; (try simp [F]); refine ca (c := hge _) (k := ?_); rintro _ _ ⟨rfl, rfl⟩; (try simp [F]); apply hJ4; refine sq fun K5 hK5 => ?_; refine sr fun _ hJ7 => ?_; apply hJ7; refine cf ?_; refine aA ?_; apply hK5; refine sr fun _ hJ9 => ?_; refine ca (c := hrd _) (k := ?_); rintro _ _ ⟨rfl, rfl⟩; (try simp [F]); apply hJ9; refine sr fun _ hJ11 => ?_
 refine ca (c := M5 hP hq (by simp [F])) (k := ?_)
 rintro _ _ ⟨rfl, rfl⟩; try simp [F]
 refine ca (c := KP (b := v.y) (q := v.f :: q3) (by simp [F, hq1])) (k := ?_)
 rintro _ _ ⟨rfl, rfl⟩; try simp [F]
 refine ca (c := KP (b := v.f) (q := q3) (by simp [F])) (k := ?_)
 rintro _ _ ⟨rfl, rfl⟩; (try simp [F]); apply hJ11; refine sr fun _ hJ13 => ?_
 refine ca (c := Mu (x := v.k) hq3 (by simp [F])) (k := ?_)
 rintro _ _ ⟨rfl, rfl⟩; try simp [F]
 refine ca (c := Mu (x := v.r) hq4 (by simp [F])) (k := ?_)
 rintro _ _ ⟨rfl, rfl⟩; (try simp [F]); apply hJ13; refine sr fun _ hJ15 => ?_
 refine ca (c := htk _ _ (by simp [F])) (k := ?_)
 rintro _ _ ⟨rfl, rfl⟩; (try simp [F]); apply hJ15; refine sr fun _ hJ17 => ?_; apply hJ17; refine bQ ?_; (try simp only [eD, bG, bV]); refine gY (h := ?_); exact gcr
attribute [local simp] Ec in
theorem Kh {σ : St} {o k n : Nat} {G : Sg} {a : UInt8} (h : gT σ o k G) (hG : G.s.Ok n) (hn : n ≤ 900000) (hg : fN G.s.l (kJ a) = none) :
  aE Tryz.prog 23 [.ptr o 0, .v (.int .u8 a.toNat)] σ (fun av σ' => av = .tup [.agg Ec, .v (.bool false)] ∧ σ = σ') := by
 refine aU ?_ rfl
 have hge : ∀ l, aE Tryz.prog 54 [.ptr o 0, .sl 1 [.v (.int .u8 97), .v (.int .u8 a.toNat)] 2 .full] { σ with objs := σ.objs ++ l } _ := fun l => BK (key := kJ a) (t1 := .full) (h.app l σ.toks) hG (by omega)
 rw [hg] at hge
 have F := True.intro
 refine aB Tryz.func23 rfl rfl rfl ?_; refine sr fun _ hJ2 => ?_; apply hJ2; refine sr fun _ hJ4 => ?_; refine ca (c := xD) (k := ?_); rintro _ _ ⟨rfl, rfl⟩; (try simp [F]); refine ca (c := hge _) (k := ?_); rintro _ _ ⟨rfl, rfl⟩; (try simp [F]); apply hJ4; refine sq fun K5 hK5 => ?_; refine sr fun _ hJ7 => ?_; apply hJ7; refine ct ?_; refine sr fun _ hJ9 => ?_; apply hJ9; refine bQ ?_; (try simp only [eD, bG, bV]); refine gY (h := ?_); exact gcr
theorem wI (v : Acc) : decide (gR v) = (decide ((v.a.toNat : Int) < 200) && (decide ((v.y.toNat : Int) < 200) && (decide ((v.f.toNat : Int) < 200) && (bR v.p && ((decide ((v.f.toNat : Int) = 0) || decide ((v.p.k.toNat : Int) = 5)) && (!decide ((v.f.toNat : Int) = v.a.toNat) || !decide ((v.p.k.toNat : Int) = 5))))))) := by
 have p1 : v.f = 0 ↔ v.f.toNat = 0 := ⟨fun e => by rw [e]; rfl, fun e => UInt8.toNat_inj.1 e⟩
 have p2 : v.p.k = 5 ↔ v.p.k.toNat = 5 := ⟨fun e => by rw [e]; rfl, fun e => UInt8.toNat_inj.1 e⟩
 have p3 : v.f = v.a ↔ v.f.toNat = v.a.toNat := UInt8.toNat_inj.symm
 rw [Bool.eq_iff_iff]
 simp only [decide_eq_true_eq, Bool.and_eq_true, Bool.or_eq_true, Bool.not_eq_true', decide_eq_false_iff_not, gR, p1, p2, p3, ne_eq]
 constructor
 · rintro ⟨h1, h2, h3, h4, h5, h6⟩; exact ⟨by omega, by omega, by omega, h4, by omega, by omega⟩
 · rintro ⟨h1, h2, h3, h4, h5, h6⟩; exact ⟨by omega, by omega, by omega, h4, by omega, by omega⟩
attribute [local simp] hH in
theorem Gj {σ : St} {v : Acc} (hv : v.Ok) :
  aE Tryz.prog 11 [.agg (hH v)] σ (fun av σ' => av = .v (.bool (decide (gR v))) ∧ σ = σ') := by
 refine aU ?_ rfl
 have hx := fun τ => yP (σ := τ) hv.2
 simp only [iK] at hx
 have hB := wI v
 obtain ⟨B, hBe⟩ : ∃ B, B = decide (gR v) := ⟨_, rfl⟩
 obtain ⟨RB, hRB⟩ : ∃ RB, RB = bR v.p := ⟨_, rfl⟩
 rw [← hBe] at hB ⊢
 rw [← hRB] at hB
 simp only [← hRB] at hx
 have F := True.intro
 refine aB Tryz.func11 rfl rfl rfl ?_; refine sr fun _ hJ2 => ?_; apply hJ2; refine sr fun _ hJ4 => ?_; refine gs 6 (fun g1_3 => ?_) (fun g1_3 => ?_)
 · (try exact aK g1_3); all_goals have g1_3p := g1_3; try simp [F] at g1_3p
   all_goals
    replace F := aF g1_3 F; (try replace F := aF g1_3p F); (iterate 3 refine go2 (k := ?_)); refine gs 11 (fun g1_8 => ?_) (fun g1_8 => ?_)
    · (try exact aK g1_8); all_goals have g1_8p := g1_8; try simp [F] at g1_8p
      all_goals
       replace F := aF g1_8 F; (try replace F := aF g1_8p F); (iterate 3 refine go2 (k := ?_)); refine gs 16 (fun g1_13 => ?_) (fun g1_13 => ?_)
       · (try exact aK g1_13); all_goals have g1_13p := g1_13; try simp [F] at g1_13p
         all_goals
          replace F := aF g1_13 F; (try replace F := aF g1_13p F); (iterate 2 refine go2 (k := ?_)); refine ca (c := hx _) (k := ?_); rintro _ _ ⟨rfl, rfl⟩; (try simp [F]); refine gs 21 (fun g1_18 => ?_) (fun g1_18 => ?_)
          · (try exact aK g1_18); all_goals have g1_18p := g1_18; try simp [F] at g1_18p
            all_goals
             replace F := aF g1_18 F; (try replace F := aF g1_18p F); (iterate 4 refine go2 (k := ?_)); refine gs 25 (fun g1_22 => ?_) (fun g1_22 => ?_)
             · (try exact aK g1_22); all_goals have g1_22p := g1_22; try simp [F] at g1_22p
               all_goals
                replace F := aF g1_22 F; (try replace F := aF g1_22p F); (iterate 4 refine no2 (k := ?_)); (iterate 7 refine go2 (k := ?_)); refine gs 38 (fun g1_35 => ?_) (fun g1_35 => ?_)
                · (try exact aK g1_35); all_goals have g1_35p := g1_35; try simp [F] at g1_35p
                  all_goals
                   replace F := aF g1_35 F; (try replace F := aF g1_35p F); (iterate 4 refine no2 (k := ?_)); refine go2 (k := ?_); apply hJ4; refine ra ?_; refine gcr (hA := ?_); simp [hB, F] <;> exact Wk.refl _
                (try exact aK g1_35); all_goals have g1_35p := g1_35; try simp [F] at g1_35p
                all_goals
                 replace F := aF g1_35 F; (try replace F := aF g1_35p F); (iterate 5 refine go2 (k := ?_)); apply hJ4; refine ra ?_; refine gcr (hA := ?_); simp [hB, F] <;> exact Wk.refl _
             (try exact aK g1_22); all_goals have g1_22p := g1_22; try simp [F] at g1_22p
             all_goals
              replace F := aF g1_22 F; (try replace F := aF g1_22p F); (iterate 5 refine go2 (k := ?_)); refine gs 32 (fun g1_29 => ?_) (fun g1_29 => ?_)
              · (try exact aK g1_29); all_goals have g1_29p := g1_29; try simp [F] at g1_29p
                all_goals
                 replace F := aF g1_29 F; (try replace F := aF g1_29p F); (iterate 6 refine go2 (k := ?_)); refine gs 38 (fun g1_35 => ?_) (fun g1_35 => ?_)
                 · (try exact aK g1_35); all_goals have g1_35p := g1_35; try simp [F] at g1_35p
                   all_goals
                    replace F := aF g1_35 F; (try replace F := aF g1_35p F); (iterate 4 refine no2 (k := ?_)); refine go2 (k := ?_); apply hJ4; refine ra ?_; refine gcr (hA := ?_); simp [hB, F] <;> exact Wk.refl _
                 (try exact aK g1_35); all_goals have g1_35p := g1_35; try simp [F] at g1_35p
                 all_goals
                  replace F := aF g1_35 F; (try replace F := aF g1_35p F); (iterate 5 refine go2 (k := ?_)); apply hJ4; refine ra ?_; refine gcr (hA := ?_); simp [hB, F] <;> exact Wk.refl _
              (try exact aK g1_29); all_goals have g1_29p := g1_29; try simp [F] at g1_29p
              all_goals
               replace F := aF g1_29 F; (try replace F := aF g1_29p F); (iterate 11 refine no2 (k := ?_)); apply hJ4; refine ra ?_; refine gcr (hA := ?_); simp [hB, F] <;> exact Wk.refl _
          (try exact aK g1_18); all_goals have g1_18p := g1_18; try simp [F] at g1_18p
          all_goals
           replace F := aF g1_18 F; (try replace F := aF g1_18p F); (iterate 20 refine no2 (k := ?_)); apply hJ4; refine ra ?_; refine gcr (hA := ?_); simp [hB, F] <;> exact Wk.refl _
       (try exact aK g1_13); all_goals have g1_13p := g1_13; try simp [F] at g1_13p
       all_goals
        replace F := aF g1_13 F; (try replace F := aF g1_13p F); (iterate 23 refine no2 (k := ?_)); apply hJ4; refine ra ?_; refine gcr (hA := ?_); simp [hB, F] <;> exact Wk.refl _
    (try exact aK g1_8); all_goals have g1_8p := g1_8; try simp [F] at g1_8p
    all_goals
     replace F := aF g1_8 F; (try replace F := aF g1_8p F); (iterate 26 refine no2 (k := ?_)); apply hJ4; refine ra ?_; refine gcr (hA := ?_); simp [hB, F] <;> exact Wk.refl _
 (try exact aK g1_3); all_goals have g1_3p := g1_3; try simp [F] at g1_3p
 all_goals
  replace F := aF g1_3 F; (try replace F := aF g1_3p F); (iterate 29 refine no2 (k := ?_)); apply hJ4; refine ra ?_; refine gcr (hA := ?_); simp [hB, F] <;> exact Wk.refl _
end Go.Proofs.YtjpnjhlfieklfaaGreat
namespace Go.Proofs.YtjpnjhlfieklfaaGreat
open Go Go.Vm
attribute [local simp] dM aI dJ opA bH bN cM bP ofValue dC plain aQ aR cA b8 cC cB bY b7 b9 bZ cV bW cG cD b6 bU aT aS bO cU aW dQ dR bK aZ cL gA bS dE cF AV.cells AV.bL dF cO eZ bF aV cQ dI dS dV cN aN dP dO cW cT cI List.getElem?_cons_zero List.getElem?_cons_succ fK fL fH fG fJ fM fI fF dL eQ eB fB
def nF (g : Nat → Nat → Nat) (l : List bD) : List bD := l.flatMap fun c => j4 c.d (Num.of (g c.d.toNat c.n.v))
theorem Ai (g : Nat → Nat → Nat) (l : List bD) (c : bD) : nF g (l ++ [c]) = nF g l ++ j4 c.d (Num.of (g c.d.toNat c.n.v)) := by simp [nF]
theorem Ht {g : Nat → Nat → Nat} {l : List bD} {c : bD} (h : c ∈ nF g l) : ∃ b ∈ l, b.d = c.d := by
 obtain ⟨b, hb, h2⟩ := List.mem_flatMap.1 h
 refine ⟨b, hb, ?_⟩
 unfold j4 at h2
 split at h2
 · simp at h2; rw [h2]
 · simp at h2
theorem Cc (g : Nat → Nat → Nat) : ∀ l : List bD, (nF g l).length ≤ l.length
 | [] => by simp [nF]
 | c :: l => by
   have ih := Cc g l
   have h1 : (j4 c.d (Num.of (g c.d.toNat c.n.v))).length ≤ 1 := by unfold j4; split <;> simp
   simp only [nF, List.flatMap_cons, List.length_append, List.length_cons] at ih ⊢
   omega
theorem CP {g : Nat → Nat → Nat} (g0 : ∀ d, g d 0 = 0) (gl : ∀ d x, x < 2 ^ 256 → g d x < 2 ^ 256) : ∀ r : List bD, bA r.reverse → bA (nF g r.reverse) ∧ ∀ d, d < 8 → amt (nF g r.reverse) d = g d (amt r.reverse d)
 | [], _ => ⟨Go.Vm.fC, fun d _ => (g0 d).symm⟩
 | c :: r, h => by
   rw [List.reverse_cons] at h ⊢
   obtain ⟨h1, h2, h3⟩ := gX.1 h
   obtain ⟨i1, i2⟩ := CP g0 gl r h1
   have hs := qJ h
   have hx := gl c.d.toNat c.n.v c.n.h
   rw [Ai]
   by_cases hz : g c.d.toNat c.n.v = 0
   · have e : j4 c.d (Num.of (g c.d.toNat c.n.v)) = [] := by unfold j4; rw [if_neg (fun q => q.2 (by rw [Num.qA hx]; exact hz))]
     rw [e, List.append_nil]
     refine ⟨i1, fun d hd => ?_⟩
     rw [i2 d hd, hs]
     by_cases q : d = c.d.toNat
     · subst q
       rw [if_pos rfl, hz, l8 (fun b hb e => by have := h3 b hb; omega), g0]
     · rw [if_neg q]
   · have e : j4 c.d (Num.of (g c.d.toNat c.n.v)) = [⟨c.d, Num.of (g c.d.toNat c.n.v)⟩] := by unfold j4; rw [if_pos ⟨h2.1, by rw [Num.qA hx]; exact hz⟩]
     rw [e]
     have hR : bA (nF g r.reverse ++ [⟨c.d, Num.of (g c.d.toNat c.n.v)⟩]) := gX.2 ⟨i1, ⟨h2.1, by rw [Num.qA hx]; exact hz⟩, fun b hb => by
      obtain ⟨b2, hb2, e2⟩ := Ht hb
      have := h3 b2 hb2
      rw [e2] at this
      exact this⟩
     refine ⟨hR, fun d hd => ?_⟩
     rw [qJ hR, hs]
     by_cases q : d = c.d.toNat
     · subst q; rw [if_pos rfl, if_pos rfl, Num.qA hx]
     · rw [if_neg q, if_neg q, i2 d hd]
theorem It {g : Nat → Nat → Nat} (g0 : ∀ d, g d 0 = 0) (gl : ∀ d x, x < 2 ^ 256 → g d x < 2 ^ 256) {l : List bD} (h : bA l) : nF g l = fR (fun d => g d (amt l d)) 8 := by
 obtain ⟨h1, h2⟩ := CP g0 gl l.reverse (by simpa using h)
 rw [List.reverse_reverse] at h1 h2
 have hf : ∀ d, d < 8 → g d (amt l d) < 2 ^ 256 := fun d _ => gl _ _ (gD _ _)
 exact AP h1 (iG hf 8 (Nat.le_refl _)) (fun d hd => by rw [h2 d hd, qB hf (Nat.le_refl 8) hd])
def spN (x lk kp : Nat) : Nat := x - (lk - kp)
def spG (lk : List bD) (kp d x : Nat) : Nat := spN x (amt lk d) (if d = 0 then kp else 0)
theorem IL (lk : List bD) (kp d : Nat) : spG lk kp d 0 = 0 := by simp [spG, spN]
theorem Bc (lk : List bD) (kp d x : Nat) (h : x < 2 ^ 256) : spG lk kp d x < 2 ^ 256 := by unfold spG spN; omega
def kN (L : List Acc) (a : UInt8) (t : Nat) : List bD := match j8 L a with | some x => kA x.p.tot (eC x.p t) | none => []
def nI (L : List Acc) (a : UInt8) : Nat := match j8 L a with | some x => x.k.v | none => 0
def m9 (L : List Acc) (a : UInt8) (t : Nat) (B : List bD) : List bD := fR (fun d => spG (kN L a t) (nI L a) d (amt B d)) 8
theorem BF {L : List Acc} {a : UInt8} {t : Nat} {B : List bD} : bA (m9 L a t B) := iG (fun d _ => Bc _ _ _ _ (gD _ _)) 8 (Nat.le_refl _)
theorem xP {L : List Acc} {a : UInt8} {t : Nat} {B : List bD} (h : bA B) : nF (spG (kN L a t) (nI L a)) B = m9 L a t B := It (IL _ _) (Bc _ _) h
end Go.Proofs.YtjpnjhlfieklfaaGreat
namespace Go.Proofs.YtjpnjhlfieklfaaGreat
set_option maxHeartbeats 1600000
open Go Go.Vm
attribute [local simp] dM aI dJ opA bH bN cM bP ofValue dC plain aQ aR cA b8 cC cB bY b7 b9 bZ cV bW cG cD b6 bU aT aS bO cU aW dQ dR bK aZ cL gA bS dE cF AV.cells AV.bL dF cO eZ bF aV cQ dI dS dV cN aN dP dO cW cT cI List.getElem?_cons_zero List.getElem?_cons_succ fK fL fH fG fJ fM fI fF dL eQ eB fB dA
variable {Ru Rv : UInt8 → List Pr}
theorem eT.is {s : Sto} {L : List Acc} {n : Nat} (h : eT Ru s L n) (a : UInt8) : (fN s.l (kJ a)).isSome = uE L a := by
 unfold uE
 cases hf : j8 L a with
 | none => rw [h.no (pT.1 hf)]; rfl
 | some x => obtain ⟨h1, h2⟩ := sW hf; rw [← h2, h.yes h1]; rfl
theorem Lu : (∀ x, x ∈ Ec → x.bL = true) = True := eq_true (fun x hx => by simp only [Ec, List.mem_cons, List.not_mem_nil, or_false] at hx; rcases hx with rfl | rfl | rfl | rfl | rfl | rfl | rfl | rfl | rfl | rfl | rfl | rfl | rfl | rfl | rfl | rfl | rfl <;> rfl)
structure HS (L : List Acc) (a : UInt8) (Z : List AV) : Prop where
 len : Z.length = 17
 cells : (∀ x, x ∈ Z → x.bL = true) = True
 yes : ∀ x, j8 L a = some x → Z = hH x
 no : j8 L a = none → Z = Ec
theorem E3 {σ : St} {o k n : Nat} {G : Sg} {L : List Acc} {a : UInt8} (h : gT σ o k G) (hi : eT Ru G.s L n) (hn : n ≤ 1000) :
  aE Tryz.prog 23 [.ptr o 0, .v (.int .u8 a.toNat)] σ (fun av σ' => ∃ Z : List AV, HS L a Z ∧ av = .tup [.agg Z, .v (.bool (uE L a))] ∧ σ = σ') := by
 cases hf : j8 L a with
 | none =>
   have := Kh (a := a) h hi.ok (by omega) (hi.no (pT.1 hf))
   exact cS this (fun av σ' ⟨e1, e2⟩ => ⟨Ec, ⟨rfl, Lu, fun x h => (by rw [hf] at h; cases h), fun _ => rfl⟩, by rw [e1, uE, hf]; rfl, e2⟩)
 | some x =>
   obtain ⟨h1, h2⟩ := sW hf
   have hr := hi.rt x h1
   have := Hf (v := x) h hi.ok (by omega) (hi.Mx h1) hr.1.2.2.2.1 hr.2.1 (hi.yes h1)
   rw [h2] at this
   exact cS this (fun av σ' ⟨e1, e2⟩ => ⟨hH x, ⟨rfl, eq_true (Hr _), fun y h => (by rw [hf] at h; cases h; rfl), fun h => (by rw [hf] at h; cases h)⟩, by rw [e1, uE, hf]; rfl, e2⟩)
theorem Ia : Wk (.agg [.v (.int .u8 0), .v (.int .u64 0), .v (.int .u64 0), .sl 0 [] 0 .full, .sl 0 [] 0 .full]) (.agg (iK pl0)) :=
 WkL.agg (.cons (Wk.refl _) (.cons (Wk.refl _) (.cons (Wk.refl _) (.cons (Wk.nil _ _ _) (.cons (Wk.nil _ _ _) .nil)))))
theorem HS.lock {σ : St} {L : List Acc} {a : UInt8} {Z : List AV} {t : Nat} (h : HS L a Z) (hL : ∀ x ∈ L, Good x.p ∧ x.Ok) (ht : t < 2 ^ 64) :
  aE Tryz.prog 45 [.agg (List.take 5 (List.drop 3 Z)), .v (.int .u64 t)] σ (fun av σ' => av = .sl 5 (aL (kN L a t)) (kN L a t).length .shut ∧ σ = σ') := by
 unfold kN
 cases hf : j8 L a with
 | none =>
   have e : kA pl0.tot (eC pl0 t) = [] := by simp only [pl0]; rw [uF]; exact (iI (g := amt []) (fun i _ => by simp [amt])).trans (oG Go.Vm.fC)
   have := yS (σ := σ) (p := pl0) (t := t) K0 (by simp [pl0]) (by simp [pl0, pE]) ht
   rw [e] at this
   rw [h.no hf]
   exact kO (.cons Ia (.cons (Wk.refl _) .nil)) this
 | some x =>
   rw [h.yes x hf]
   obtain ⟨h1, h2⟩ := sW hf
   have g := (hL x h1).1
   exact yS (hL x h1).2.2 (by have := dZ g.tot; omega) g.fit ht
theorem HS.kept {L : List Acc} {a : UInt8} {Z : List AV} (h : HS L a Z) : List.take 4 (List.drop 9 Z) = aM (nI L a) := by
 unfold nI
 cases hf : j8 L a with
 | none => rw [h.no hf]; simp [Ec, aM, eN]
 | some x => rw [h.yes x hf]; rfl
def tK (L : List Acc) (v : Acc) (b : Bool) (e : Nat) : PrA := if ¬ gR v then ⟨L, 1⟩ else if uE L v.a = b then ⟨rE v L, 0⟩ else ⟨L, e⟩
theorem G8 (L : List Acc) (v : Acc) : oW L v = tK L v false 9 := by
 unfold oW tK; split
 · rfl
 · cases uE L v.a <;> rfl
theorem Ku {σ : St} {o k n e : Nat} {G : Sg} {L : List Acc} {v : Acc} {b : Bool} (h : gT σ o k G) (hi : eT Ru G.s L n) (hn : n ≤ 1000) (hv : v.Ok) :
  aE Tryz.prog 34 [.ptr o 0, .agg (hH v), .v (.bool b), .v (.int .i64 (e : Nat))] σ (fun av σ' => ∃ G', eT Ru G'.s (tK L v b e).L (n + 1) ∧ av = .v (.int .i64 ((tK L v b e).e : Nat)) ∧ σ' = eR σ o k G') := by
 obtain ⟨⟨PW, PE⟩, hP0⟩ : ∃ P, P = tK L v b e := ⟨_, rfl⟩
 rw [← hP0]
 simp only
 refine cS (nA (X := { G' : Sg // eT Ru G'.s PW (n + 1) }) (A := fun _ => .v (.int .i64 (PE : Nat))) (τ := fun x => eR σ o k x.1) ?_ (fun _ => rfl) (fun x => by simp [eR]) (fun x => rfl) (fun x => by simp [eR]) (fun x => rfl) (fun x => BZ h _) (fun x => BQ (o := o) (k := k) (σ := σ) _)) (fun av σ' ⟨x, e1, e2⟩ => ⟨x.1, x.2, e1, e2⟩)
 have hr1 := fun l => Gj (σ := { σ with objs := σ.objs ++ l }) hv
 have hge : ∀ l, aE Tryz.prog 54 [.ptr o 0, .sl 1 [.v (.int .u8 97), .v (.int .u8 v.a.toNat)] 2 .full] { σ with objs := σ.objs ++ l } _ := fun l => BK (key := kJ v.a) (t1 := .full) (h.app l σ.toks) hi.ok (by omega)
 rw [hi.is] at hge
 obtain ⟨X, hX⟩ : ∃ X, X = byC ((fN G.s.l (kJ v.a)).getD []) := ⟨_, rfl⟩
 rw [← hX] at hge
 have hwr := fun (hR : gR v) l => GS (v := v) (h.app l σ.toks) hi.ok (by omega) (pD hR.2.2.2.1 hv.2) hv.1
 have hpa := fun (G' : Sg) (l : List (List AV)) => xZ h G' l
 have hself := u9 h
 obtain ⟨B, hB⟩ : ∃ B, B = uE L v.a := ⟨_, rfl⟩
 simp only [← hB] at hge
 obtain ⟨Q, hQ⟩ : ∃ Q, Q = hH v := ⟨_, rfl⟩
 have hQl : Q.length = 17 := by rw [hQ]; rfl
 have hQt : List.take 17 Q = Q := by subst hQ; rfl
 have hQ0 : ∀ h2 : 0 < Q.length, Q[0]'h2 = .v (.int .u8 (v.a.toNat : Nat)) := fun h2 => by subst hQ; rfl
 simp only [← hQ] at hr1 hwr
 rw [← hQ]
 have F := And.intro hQl (And.intro hQt (And.intro hQ0 (True.intro)))
 refine aB Tryz.func34 rfl rfl rfl ?_; refine sr fun _ hJ2 => ?_; apply hJ2; refine sq fun K3 hK3 => ?_; refine sr fun _ hJ5 => ?_; refine go2 (k := ?_); refine ca (c := hr1 _) (k := ?_); rintro _ _ ⟨rfl, rfl⟩; (try simp [F]); refine go2 (k := ?_); apply hJ5; refine cs (fun c17 => ?_) (fun c17 => ?_)
 · all_goals
    replace F := aF c17 F
    have hR : ¬ gR v := by have h := c17; simpa using h
    obtain ⟨rfl, rfl⟩ : PW = L ∧ PE = 1 := by rw [tK, if_pos hR] at hP0; simpa using hP0
    refine sr fun _ hJ7 => ?_; apply hJ7; refine ra ?_; refine ⟨⟨G, hi.mono (Nat.le_succ _)⟩, ?_⟩
    rw [hself]
    exact gcr
 all_goals
  replace F := aF c17 F
  have hR : gR v := by have h := c17; simpa using h
  refine aA ?_; apply hK3; refine sq fun K8 hK8 => ?_; refine sr fun _ hJ10 => ?_; refine ca (c := xD) (k := ?_); rintro _ _ ⟨rfl, rfl⟩; (try simp [F]); refine ca (c := hge _) (k := ?_); rintro _ _ ⟨rfl, rfl⟩; (try simp [F]); apply hJ10; refine sr fun _ hJ12 => ?_; apply hJ12; refine cs (fun c28 => ?_) (fun c28 => ?_)
  · all_goals
     replace F := aF c28 F
     have hb : ¬ uE L v.a = b := by have h := c28; rw [hB] at h; simpa using h
     obtain ⟨rfl, rfl⟩ : PW = L ∧ PE = e := by rw [tK, if_neg (not_not_intro hR), if_neg hb] at hP0; simpa using hP0
     refine sr fun _ hJ14 => ?_; apply hJ14; refine ra ?_; refine ⟨⟨G, hi.mono (Nat.le_succ _)⟩, ?_⟩
     rw [hself]
     exact gcr
  all_goals
   replace F := aF c28 F
   have hb : uE L v.a = b := by have h := c28; rw [hB] at h; simpa using h
   obtain ⟨rfl, rfl⟩ : PW = rE v L ∧ PE = 0 := by rw [tK, if_neg (not_not_intro hR), if_pos hb] at hP0; simpa using hP0
   have hw2 := hwr hR
   refine aA ?_; apply hK8; refine sr fun _ hJ16 => ?_; refine ca (c := hw2 _) (k := ?_); rintro _ _ ⟨G', e0, rfl, rfl⟩; (try simp [F]); apply hJ16; refine sr fun _ hJ18 => ?_; apply hJ18; refine ra ?_
   refine ⟨⟨G', by rw [e0]; exact hi.set hR hv⟩, ?_⟩
   rw [hpa]
   exact gcr
theorem Ko {σ : St} {o k n : Nat} {G : Sg} {L : List Acc} {v : Acc} (h : gT σ o k G) (hi : eT Ru G.s L n) (hn : n ≤ 1000) (hv : v.Ok) :
  aE Tryz.prog 14 [.ptr o 0, .agg (hH v)] σ (fun av σ' => ∃ G', eT Ru G'.s (oW L v).L (n + 1) ∧ av = .v (.int .i64 ((oW L v).e : Nat)) ∧ σ' = eR σ o k G') := by
 rw [G8]
 obtain ⟨⟨PW, PE⟩, hP0⟩ : ∃ P, P = tK L v false 9 := ⟨_, rfl⟩
 rw [← hP0]
 simp only
 refine cS (nA (X := { G' : Sg // eT Ru G'.s PW (n + 1) }) (A := fun _ => .v (.int .i64 (PE : Nat))) (τ := fun x => eR σ o k x.1) ?_ (fun _ => rfl) (fun x => by simp [eR]) (fun x => rfl) (fun x => by simp [eR]) (fun x => rfl) (fun x => BZ h _) (fun x => BQ (o := o) (k := k) (σ := σ) _)) (fun av σ' ⟨x, e1, e2⟩ => ⟨x.1, x.2, e1, e2⟩)
 have hs := fun l => Ku (e := 9) (b := false) (h.app l σ.toks) hi hn hv
 rw [← hP0] at hs
 have hpa := fun (G' : Sg) (l : List (List AV)) => xZ h G' l
 obtain ⟨Q, hQ⟩ : ∃ Q, Q = hH v := ⟨_, rfl⟩
 have hQl : Q.length = 17 := by rw [hQ]; rfl
 have hQt : List.take 17 Q = Q := by subst hQ; rfl
 simp only [← hQ] at hs
 rw [← hQ]
 have F := And.intro hQl (And.intro hQt (True.intro))
 refine aB Tryz.func14 rfl rfl rfl ?_; refine sr fun _ hJ2 => ?_; apply hJ2; refine sr fun _ hJ4 => ?_; refine ca (c := hs _) (k := ?_); rintro _ _ ⟨G', e0, rfl, rfl⟩; (try simp [F]); apply hJ4; refine ra ?_; refine ⟨⟨G', e0⟩, ?_⟩
 rw [hpa]
 exact gcr
theorem AQ {σ : St} {x y z : Nat} (hx : x < 2 ^ 256) (hy : y < 2 ^ 256) (hz : z < 2 ^ 256) :
  aE Tryz.prog 47 [.agg (aM x), .agg (aM y), .agg (aM z)] σ (fun av σ' => av = .agg (aM (spN x y z)) ∧ σ = σ') := by
 refine aU ?_ (by simp [AV.under, bB, aM])
 have h1 := fun τ => zE (σ := τ) hy hz
 have h2 := fun τ => zE (σ := τ) hx (show y - z < 2 ^ 256 by omega)
 simp only [spN]
 have F := True.intro
 refine aB Tryz.func47 rfl rfl rfl ?_; refine sr fun _ hJ2 => ?_; apply hJ2; refine sq fun K3 hK3 => ?_
 refine bI (by kernel_rfl) fun J4 hJ4 => ?_
 refine q2 0 ?_; refine q2 1 ?_; refine q2 2 ?_; refine dc 3 rfl (c := h1 _) (k := ?_); rintro _ _ ⟨rfl, rfl⟩
 refine ⟨by first | exact fun _ _ h => h | (refine aH [0] (by kernel_rfl) ?_; (repeat' first | exact ln2 | refine lc ?_ ?_) <;> constructor <;> first | rfl | (simp [F]; done)), ?_⟩
 (try simp [F]); refine dc 4 rfl (c := h2 _) (k := ?_); rintro _ _ ⟨rfl, rfl⟩; refine ⟨ln, ?_⟩; (try simp [F]); refine dop 5 rfl ?_; (try simp [F]); refine ⟨ln, ?_⟩; refine dd ?_; apply hJ4; apply hK3; refine bQ ?_; (try simp only [eD, bG, bV]); refine j1 (h := ?_); exact gcr
attribute [local simp] dX in
theorem CM {σ : St} {o k n m t : Nat} {G : Sg} {L : List Acc} {T : Tb} {a : UInt8} (h : gT σ o k G) (hi : eT Ru G.s L n) (hb : gK Rv G.s T m) (hn : n ≤ 1000) (hm : m ≤ 1000) (ht : t < 2 ^ 64) :
  aE Tryz.prog 19 [.ptr o 0, .v (.int .u8 a.toNat), .v (.int .u64 t)] σ (fun av σ' => av = .sl 5 (aL (m9 L a t (T (some a)))) (m9 L a t (T (some a))).length .shut ∧ σ = σ') := by
 refine aU ?_ (by simp [AV.under])
 have hR := hb.rt (some a)
 rw [← xP hR]
 have hge := fun l => E3 (a := a) (h.app l σ.toks) hi hn
 have hco := fun l => FE (a := a) (h.app l σ.toks) hb (by omega)
 have hLg : ∀ x ∈ L, Good x.p ∧ x.Ok := fun x hx => ⟨hi.Mx hx, (hi.rt x hx).2⟩
 have hlr : (kN L a t).length ≤ 8 := by
  unfold kN; split
  · exact dZ (v9 _ _)
  · simp
 have hkl : nI L a < 2 ^ 256 := by unfold nI; split <;> first | exact Num.h _ | decide
 obtain ⟨B, hB⟩ : ∃ B, B = T (some a) := ⟨_, rfl⟩
 rw [← hB] at hR
 simp only [← hB] at hco ⊢
 have hBl := dZ hR
 obtain ⟨g, hg⟩ : ∃ g, g = spG (kN L a t) (nI L a) := ⟨_, rfl⟩
 rw [← hg]
 have hgl : ∀ d x, x < 2 ^ 256 → g d x < 2 ^ 256 := by rw [hg]; exact Bc _ _
 have hgs : ∀ d x, g d x = spN x (amt (kN L a t) d) (if d = 0 then nI L a else 0) := by rw [hg]; exact fun _ _ => rfl
 obtain ⟨K, hK⟩ : ∃ K, K = kN L a t := ⟨_, rfl⟩
 obtain ⟨kp, hkp⟩ : ∃ kp, kp = nI L a := ⟨_, rfl⟩
 rw [← hK] at hlr
 simp only [← hK, ← hkp] at hgs
 rw [← hkp] at hkl
 have hz4 : aM 0 = [.v (.int .u64 0), .v (.int .u64 0), .v (.int .u64 0), .v (.int .u64 0)] := by simp [aM, eN]
 have hol := cZ h.o
 have hge0 := E3 (a := a) h hi hn
 have F := And.intro hol (True.intro)
 refine aB Tryz.func19 rfl rfl rfl ?_; refine sr fun _ hJ2 => ?_; apply hJ2; refine sr fun _ hJ4 => ?_; refine ca (c := hge0) (k := ?_); rintro _ _ ⟨Z, hZ, rfl, rfl⟩
 have z1 := hZ.len
 have z2 := hZ.cells
 simp only [AV.bL] at z2
 have z3 : List.take 17 Z = Z := List.take_of_length_le (Nat.le_of_eq z1)
 have hlk := fun τ => hZ.lock (σ := τ) hLg ht
 simp only [← hK] at hlk
 have hkt := hZ.kept
 rw [← hkp] at hkt
 replace F := aF z1 (And.intro z2 (And.intro z3 (And.intro hkt F))); (try simp [F]); apply hJ4; refine sr fun _ hJ6 => ?_; refine ca (c := hlk _) (k := ?_); rintro _ _ ⟨rfl, rfl⟩; (try simp [F]); apply hJ6; refine sr fun _ hJ8 => ?_; apply hJ8; refine sq fun K9 hK9 => ?_; refine sr fun _ hJ11 => ?_; refine ca (c := hco _) (k := ?_); rintro _ _ ⟨rfl, rfl⟩; (try simp [F]); apply hJ11; refine aD ?_; refine fA (X := Nat) [6, 7, 9, 27, 28] (fun j ρ σ1 => (j ≤ B.length) ∧ (ρ 10 = grA σ.toks.length 5 (iS j) (aL (nF g (B.take j))) (nF g (B.take j)).length) ∧ (ρ 29 = .v (.int .i64 j)) ∧ (σ1 = { σ with objs := σ.objs ++ [Z], toks := σ.toks ++ grT (iS j) (nF g (B.take j)).length })) (fun j => B.length - j) (0) ?st1 ?rd1
 case st1 =>
  refine ⟨lp, lp, lp, ?_⟩
  · simp [F]
 case rd1 =>
  rintro j ρ1 σ1 hF1 ⟨h1, h10, h29, hσ⟩; obtain rfl := hσ.symm
  have f1 := dU hF1
  (try simp [dT, F] at f1); replace F := aF h10 F; replace F := aF h29 F; (try replace F := aF f1 F); refine sr fun _ hJ13 => ?_; apply hJ13; refine sq fun K14 hK14 => ?_; refine cs (fun c30 => ?_) (fun c30 => ?_)
  · all_goals
     replace F := aF c30 F; refine aA ?_; apply hK14; refine sq fun K15 hK15 => ?_; refine aD ?_; refine sq fun K16 hK16 => ?_
     have hlt : j < B.length := by simp at c30; omega
     have hat := gG hlt
     have hb1 : j * 5 + 5 ≤ B.length * 5 := by omega
     obtain ⟨x, hx⟩ : ∃ x, x = B[j] := ⟨_, rfl⟩
     rw [← hx] at hat
     simp only [dX] at hat
     obtain ⟨n, hn⟩ : ∃ n, n = Num.of (g x.d.toNat x.n.v) := ⟨_, rfl⟩
     have hnv : n.v = g x.d.toNat x.n.v := by rw [hn]; exact Num.qA (hgl _ _ x.n.h)
     obtain ⟨O, hO⟩ : ∃ O, O = nF g (B.take j) := ⟨_, rfl⟩
     obtain ⟨M, hM⟩ : ∃ M, M = j4 x.d n := ⟨_, rfl⟩
     have hnx : nF g (B.take (j + 1)) = O ++ M := by rw [hO, hM, hn, hx, ← List.take_append_getElem hlt, Ai]
     have hOl : O.length ≤ j := by rw [hO]; exact Nat.le_trans (Cc _ _) (by simp; omega)
     have hMl : M.length ≤ 1 := by rw [hM]; unfold j4; split <;> simp
     rw [← hO] at h10 F
     rw [← hO]
     have hb0 : iS j = false → aL O = [] ∧ O.length = 0 := fun h => by have h0 := kH h; subst h0; rw [hO]; simp [nF]
     have happ : ∀ objs, dG Tryz.prog 23 (grA σ.toks.length 5 (iS j) (aL O) O.length) (.sl 5 (aL M) M.length .shut) ⟨objs, σ.toks ++ grT (iS j) O.length, σ.gl, σ.rows⟩ = some (grA σ.toks.length 5 true (aL O ++ aL M) (O.length + M.length), ⟨objs, σ.toks ++ grT true (O.length + M.length), σ.gl, σ.rows⟩) := fun objs => kM elemT_23 ti_38 (by decide) rfl hb0 (.inl rfl) (by simp [gH]; omega) (by simp [maxLen]; omega)
     replace F := aF hlt F; replace F := aF hat F; replace F := aF hb1 F; replace F := aF happ F; refine rg' (h := fun J17 hJ17 => ?_); apply hJ17; apply hK16; refine sr fun _ hJ19 => ?_; apply hJ19; refine sq fun K20 hK20 => ?_; refine sr fun _ hJ22 => ?_; apply hJ22; refine cs (fun c36 => ?_) (fun c36 => ?_)
     · all_goals
        replace F := aF c36 F
        have h0 : x.d.toNat = 0 := by have h := c36; simp at h; omega
        have hsp := fun τ => AQ (σ := τ) x.n.h (gD K x.d.toNat) hkl
        have e : spN x.n.v (amt K x.d.toNat) kp = n.v := by rw [hnv, hgs, if_pos h0]
        simp only [e] at hsp
        refine rg' (h := fun J23 hJ23 => ?_); apply hJ23; apply hK20; refine sq fun K24 hK24 => ?_
        refine bI (by kernel_rfl) fun J25 hJ25 => ?_
        refine q2 0 ?_; refine q2 1 ?_; refine q2 2 ?_; refine q2 3 ?_; refine q2 4 ?_; refine q2 6 ?_; refine d2 5 8 ?_ ?_
        · refine ac 5 rfl (c := mQ (l := K) (d := x.d) (tl := .shut) (by omega)) (k := ?_)
          rintro _ _ ⟨rfl, rfl⟩
          refine ⟨by first | exact fun _ _ h => h | (refine aH [6, 3, 1, 0] (by kernel_rfl) ?_; (repeat' first | exact ln2 | refine lc ?_ ?_) <;> constructor <;> first | rfl | (simp [F]; done)), ?_⟩
          (try simp [F]); refine d2 7 8 ?_ ?_
          · refine ac 7 rfl (c := hsp _) (k := ?_); rintro _ _ ⟨rfl, rfl⟩
            refine ⟨by first | exact fun _ _ h => h | (refine aH [3, 0] (by kernel_rfl) ?_; (repeat' first | exact ln2 | refine lc ?_ ?_) <;> constructor <;> first | rfl | (simp [F]; done)), ?_⟩
            (try simp [F]); refine dop 8 rfl ?_; try simp [F]
            refine ⟨by first | exact cH _ (by kernel_rfl) | exact bT (by kernel_rfl) rfl, ?_⟩
            refine dop 9 rfl ?_; (try simp [F]); refine ⟨ln, ?_⟩; refine dd ?_; apply hJ25; apply hK24; refine rg' (h := fun J26 hJ26 => ?_); refine ca (c := (hM ▸ iF (d := x.d) (n := n))) (k := ?_); rintro _ _ ⟨rfl, rfl⟩; (try simp [F]); apply hJ26; apply hK15; refine rg' (h := fun J27 hJ27 => ?_); apply hJ27; refine ⟨gk, (j + 1), ⟨kpG, lpG, ?_, lpG, ?_⟩, lpG⟩
            · rw [hnx, ← cX]
              simp [F, AV.gcO, cP]
            · rw [hnx]
              simp [F, St.fU]
          · refine ao 8 rfl ?_; try simp [F]
            refine ⟨by first | exact cH _ (by kernel_rfl) | exact bT (by kernel_rfl) rfl, ?_⟩
            refine dc 7 rfl (c := hsp _) (k := ?_); rintro _ _ ⟨rfl, rfl⟩
            refine ⟨by first | exact fun _ _ h => h | (refine aH [3, 0] (by kernel_rfl) ?_; (repeat' first | exact ln2 | refine lc ?_ ?_) <;> constructor <;> first | rfl | (simp [F]; done)), ?_⟩
            (try simp [F]); refine dop 9 rfl ?_; (try simp [F]); refine ⟨ln, ?_⟩; refine dd ?_; apply hJ25; apply hK24; refine rg' (h := fun J28 hJ28 => ?_); refine ca (c := (hM ▸ iF (d := x.d) (n := n))) (k := ?_); rintro _ _ ⟨rfl, rfl⟩; (try simp [F]); apply hJ28; apply hK15; refine rg' (h := fun J29 hJ29 => ?_); apply hJ29; refine ⟨gk, (j + 1), ⟨kpG, lpG, ?_, lpG, ?_⟩, lpG⟩
            · rw [hnx, ← cX]
              simp [F, AV.gcO, cP]
            · rw [hnx]
              simp [F, St.fU]
        · refine ao 8 rfl ?_; try simp [F]
          refine ⟨by first | exact cH _ (by kernel_rfl) | exact bT (by kernel_rfl) rfl, ?_⟩
          refine dc 5 rfl (c := mQ (l := K) (d := x.d) (tl := .shut) (by omega)) (k := ?_)
          rintro _ _ ⟨rfl, rfl⟩
          refine ⟨by first | exact fun _ _ h => h | (refine aH [6, 3, 1, 0] (by kernel_rfl) ?_; (repeat' first | exact ln2 | refine lc ?_ ?_) <;> constructor <;> first | rfl | (simp [F]; done)), ?_⟩
          (try simp [F]); refine dc 7 rfl (c := hsp _) (k := ?_); rintro _ _ ⟨rfl, rfl⟩
          refine ⟨by first | exact fun _ _ h => h | (refine aH [3, 0] (by kernel_rfl) ?_; (repeat' first | exact ln2 | refine lc ?_ ?_) <;> constructor <;> first | rfl | (simp [F]; done)), ?_⟩
          (try simp [F]); refine dop 9 rfl ?_; (try simp [F]); refine ⟨ln, ?_⟩; refine dd ?_; apply hJ25; apply hK24; refine rg' (h := fun J30 hJ30 => ?_); refine ca (c := (hM ▸ iF (d := x.d) (n := n))) (k := ?_); rintro _ _ ⟨rfl, rfl⟩; (try simp [F]); apply hJ30; apply hK15; refine rg' (h := fun J31 hJ31 => ?_); apply hJ31; refine ⟨gk, (j + 1), ⟨kpG, lpG, ?_, lpG, ?_⟩, lpG⟩
          · rw [hnx, ← cX]
            simp [F, AV.gcO, cP]
          · rw [hnx]
            simp [F, St.fU]
     all_goals
      replace F := aF c36 F
      have h0 : ¬ x.d.toNat = 0 := by have h := c36; simp at h; omega
      have hsp := fun τ => AQ (σ := τ) x.n.h (gD K x.d.toNat) (show 0 < 2 ^ 256 by decide)
      have e : spN x.n.v (amt K x.d.toNat) 0 = n.v := by rw [hnv, hgs, if_neg h0]
      simp only [e, hz4] at hsp
      refine aA ?_; apply hK20; refine sq fun K32 hK32 => ?_
      refine bI (by kernel_rfl) fun J33 hJ33 => ?_
      refine q2 0 ?_; refine q2 1 ?_; refine q2 2 ?_; refine q2 3 ?_; refine q2 4 ?_; refine q2 6 ?_; refine d2 5 8 ?_ ?_
      · refine ac 5 rfl (c := mQ (l := K) (d := x.d) (tl := .shut) (by omega)) (k := ?_)
        rintro _ _ ⟨rfl, rfl⟩
        refine ⟨by first | exact fun _ _ h => h | (refine aH [6, 3, 1, 0] (by kernel_rfl) ?_; (repeat' first | exact ln2 | refine lc ?_ ?_) <;> constructor <;> first | rfl | (simp [F]; done)), ?_⟩
        (try simp [F]); refine d2 7 8 ?_ ?_
        · refine ac 7 rfl (c := hsp _) (k := ?_); rintro _ _ ⟨rfl, rfl⟩
          refine ⟨by first | exact fun _ _ h => h | (refine aH [3, 0] (by kernel_rfl) ?_; (repeat' first | exact ln2 | refine lc ?_ ?_) <;> constructor <;> first | rfl | (simp [F]; done)), ?_⟩
          (try simp [F]); refine dop 8 rfl ?_; try simp [F]
          refine ⟨by first | exact cH _ (by kernel_rfl) | exact bT (by kernel_rfl) rfl, ?_⟩
          refine dop 9 rfl ?_; (try simp [F]); refine ⟨ln, ?_⟩; refine dd ?_; apply hJ33; apply hK32; refine rg' (h := fun J34 hJ34 => ?_); refine ca (c := (hM ▸ iF (d := x.d) (n := n))) (k := ?_); rintro _ _ ⟨rfl, rfl⟩; (try simp [F]); apply hJ34; apply hK15; refine rg' (h := fun J35 hJ35 => ?_); apply hJ35; refine ⟨gk, (j + 1), ⟨kpG, lpG, ?_, lpG, ?_⟩, lpG⟩
          · rw [hnx, ← cX]
            simp [F, AV.gcO, cP]
          · rw [hnx]
            simp [F, St.fU]
        · refine ao 8 rfl ?_; try simp [F]
          refine ⟨by first | exact cH _ (by kernel_rfl) | exact bT (by kernel_rfl) rfl, ?_⟩
          refine dc 7 rfl (c := hsp _) (k := ?_); rintro _ _ ⟨rfl, rfl⟩
          refine ⟨by first | exact fun _ _ h => h | (refine aH [3, 0] (by kernel_rfl) ?_; (repeat' first | exact ln2 | refine lc ?_ ?_) <;> constructor <;> first | rfl | (simp [F]; done)), ?_⟩
          (try simp [F]); refine dop 9 rfl ?_; (try simp [F]); refine ⟨ln, ?_⟩; refine dd ?_; apply hJ33; apply hK32; refine rg' (h := fun J36 hJ36 => ?_); refine ca (c := (hM ▸ iF (d := x.d) (n := n))) (k := ?_); rintro _ _ ⟨rfl, rfl⟩; (try simp [F]); apply hJ36; apply hK15; refine rg' (h := fun J37 hJ37 => ?_); apply hJ37; refine ⟨gk, (j + 1), ⟨kpG, lpG, ?_, lpG, ?_⟩, lpG⟩
          · rw [hnx, ← cX]
            simp [F, AV.gcO, cP]
          · rw [hnx]
            simp [F, St.fU]
      · refine ao 8 rfl ?_; try simp [F]
        refine ⟨by first | exact cH _ (by kernel_rfl) | exact bT (by kernel_rfl) rfl, ?_⟩
        refine dc 5 rfl (c := mQ (l := K) (d := x.d) (tl := .shut) (by omega)) (k := ?_)
        rintro _ _ ⟨rfl, rfl⟩
        refine ⟨by first | exact fun _ _ h => h | (refine aH [6, 3, 1, 0] (by kernel_rfl) ?_; (repeat' first | exact ln2 | refine lc ?_ ?_) <;> constructor <;> first | rfl | (simp [F]; done)), ?_⟩
        (try simp [F]); refine dc 7 rfl (c := hsp _) (k := ?_); rintro _ _ ⟨rfl, rfl⟩
        refine ⟨by first | exact fun _ _ h => h | (refine aH [3, 0] (by kernel_rfl) ?_; (repeat' first | exact ln2 | refine lc ?_ ?_) <;> constructor <;> first | rfl | (simp [F]; done)), ?_⟩
        (try simp [F]); refine dop 9 rfl ?_; (try simp [F]); refine ⟨ln, ?_⟩; refine dd ?_; apply hJ33; apply hK32; refine rg' (h := fun J38 hJ38 => ?_); refine ca (c := (hM ▸ iF (d := x.d) (n := n))) (k := ?_); rintro _ _ ⟨rfl, rfl⟩; (try simp [F]); apply hJ38; apply hK15; refine rg' (h := fun J39 hJ39 => ?_); apply hJ39; refine ⟨gk, (j + 1), ⟨kpG, lpG, ?_, lpG, ?_⟩, lpG⟩
        · rw [hnx, ← cX]
          simp [F, AV.gcO, cP]
        · rw [hnx]
          simp [F, St.fU]
  all_goals
   replace F := aF c30 F
   have hii : j = B.length := by have h := c30; simp at h; omega
   have hv : nF g B = nF g (B.take j) := by rw [hii, List.take_length]
   refine bJ ?_; apply hK9; refine sr fun _ hJ41 => ?_; apply hJ41; refine ra ?_
   rw [hv]
   exact gcr (hA := by simp only [aP]; simp [F]; exact rJ (fun h => by have h0 := kH h; subst h0; simp [nF]))
end Go.Proofs.YtjpnjhlfieklfaaGreat
namespace Go.Proofs.YtjpnjhlfieklfaaGreat
open Go Go.Vm
attribute [local simp] dM aI dJ opA bH bN cM bP ofValue dC plain aQ aR cA b8 cC cB bY b7 b9 bZ cV bW cG cD b6 bU aT aS bO cU aW dQ dR bK aZ cL gA bS dE cF AV.cells AV.bL dF cO eZ bF aV cQ dI dS dV cN aN dP dO cW cT cI List.getElem?_cons_zero List.getElem?_cons_succ fK fL fH fG fJ fM fI fF dL eQ eB fB
structure Fr where
 t : AV
 s : AV
 b : AV
 a : AV
 v : AV
 d : AV
 e : AV
 h : AV
 no : ∀ x ∈ [t, s, b, a, v, d, e, h], (∀ n, x.eM n = true) ∧ ∀ B, x.under B = true
@[simp] theorem Fr.nt (f : Fr) (n : Nat) : f.t.eM n = true := (f.no _ (by simp)).1 n
@[simp] theorem Fr.ut (f : Fr) (B : Bd) : f.t.under B = true := (f.no _ (by simp)).2 B
@[simp] theorem Fr.ns (f : Fr) (n : Nat) : f.s.eM n = true := (f.no _ (by simp)).1 n
@[simp] theorem Fr.us (f : Fr) (B : Bd) : f.s.under B = true := (f.no _ (by simp)).2 B
@[simp] theorem Fr.nb (f : Fr) (n : Nat) : f.b.eM n = true := (f.no _ (by simp)).1 n
@[simp] theorem Fr.ub (f : Fr) (B : Bd) : f.b.under B = true := (f.no _ (by simp)).2 B
@[simp] theorem Fr.na (f : Fr) (n : Nat) : f.a.eM n = true := (f.no _ (by simp)).1 n
@[simp] theorem Fr.ua (f : Fr) (B : Bd) : f.a.under B = true := (f.no _ (by simp)).2 B
@[simp] theorem Fr.nv (f : Fr) (n : Nat) : f.v.eM n = true := (f.no _ (by simp)).1 n
@[simp] theorem Fr.uv (f : Fr) (B : Bd) : f.v.under B = true := (f.no _ (by simp)).2 B
@[simp] theorem Fr.nd (f : Fr) (n : Nat) : f.d.eM n = true := (f.no _ (by simp)).1 n
@[simp] theorem Fr.ud (f : Fr) (B : Bd) : f.d.under B = true := (f.no _ (by simp)).2 B
@[simp] theorem Fr.ne (f : Fr) (n : Nat) : f.e.eM n = true := (f.no _ (by simp)).1 n
@[simp] theorem Fr.ue (f : Fr) (B : Bd) : f.e.under B = true := (f.no _ (by simp)).2 B
@[simp] theorem Fr.nh (f : Fr) (n : Nat) : f.h.eM n = true := (f.no _ (by simp)).1 n
@[simp] theorem Fr.uh (f : Fr) (B : Bd) : f.h.under B = true := (f.no _ (by simp)).2 B
def Sp (σ : St) (G : Sg) (l : List (List AV)) : St := { σ with objs := σ.objs ++ stC σ.rows.length G :: l, rows := σ.rows ++ [p8 G, pO G, oL G] }
theorem Sp.has (σ : St) (G : Sg) (l : List (List AV)) : gT (Sp σ G l) σ.objs.length σ.rows.length G := ⟨by simp [Sp], by simp [Sp], by simp [Sp], by simp [Sp]⟩
theorem Sp.put (σ : St) (G G' : Sg) (l : List (List AV)) : eR (Sp σ G l) σ.objs.length σ.rows.length G' = Sp σ G' l := by simp [Sp, eR]
theorem Sp.app (σ : St) (G : Sg) (l : List (List AV)) (x : List AV) : { Sp σ G l with objs := (Sp σ G l).objs ++ [x] } = Sp σ G (l ++ [x]) := by simp [Sp]
theorem Sp.len (σ : St) (G : Sg) (l : List (List AV)) : (Sp σ G l).objs.length = σ.objs.length + (1 + l.length) := by simp [Sp]; omega
theorem Cz {σ : St} : aE Tryz.prog 13 [] σ (fun av σ' => av = .ptr σ.objs.length 0 ∧ σ' = Sp σ fP []) := Fx
end Go.Proofs.YtjpnjhlfieklfaaGreat
namespace Go.Proofs.YtjpnjhlfieklfaaGreat
set_option maxHeartbeats 1600000
open Go Go.Vm
attribute [local simp] dM aI dJ opA bH bN cM bP ofValue dC plain aQ aR cA b8 cC cB bY b7 b9 bZ cV bW cG cD b6 bU aT aS bO cU aW dQ dR bK aZ cL gA bS dE cF AV.cells AV.bL dF cO eZ bF aV cQ dI dS dV cN aN dP dO cW cT cI List.getElem?_cons_zero List.getElem?_cons_succ fK fL fH fG fJ fM fI fF dL eQ eB fB dA
variable {Ru : UInt8 → List Pr}
theorem oN {l : List AV} {i j : Nat} {x : AV} (h : (l.drop i)[j]? = some x) : ∀ h2 : i + j < l.length, l[i + j]'h2 = x := fun h2 => by
 rw [List.getElem?_drop] at h
 exact (List.getElem?_eq_some_iff.1 h).2
variable {fr : Fr}
structure Bl where
 a : UInt8
 l : List bD
def ltA (x y : Bl) : Prop := x.a.toNat < y.a.toNat
def oQ (b : Bl) : List AV := [.v (.int .u8 b.a.toNat), cos b.l]
def jA (l : List Bl) : List AV := l.flatMap oQ
theorem AN (l : List Bl) : (jA l).length = l.length * 2 := kP oQ 2 (fun _ => rfl) l
theorem Gr (l m : List Bl) : jA (l ++ m) = jA l ++ jA m := by simp [jA]
theorem El (B : Bd) (v : Bl) : bB B (oQ v) = true := by simp [oQ, cos, bB, AV.under]
theorem zQ (n : Nat) (v : Bl) : bM n (oQ v) = true := by simp [oQ, cos, bM, AV.eM]
theorem v7 (B : Bd) (l : List Bl) : bB B (jA l) = true := iO (El B) l
theorem wV (nb : Nat) (l : List Bl) : bM nb (jA l) = true := iP (zQ nb) l
theorem CZ {l : List Bl} {i : Nat} (h : i < l.length) : ∃ R, (jA l).drop (i * 2) = oQ l[i] ++ R := ⟨_, tO oQ 2 (fun _ => rfl) l i h⟩
theorem LU (v : Bl) : (∀ x ∈ oQ v, AV.bL x = true) := fun x hx => by simp only [oQ, cos, List.mem_cons, List.not_mem_nil, or_false] at hx; rcases hx with rfl | rfl <;> rfl
def bE (T : Tb) (i : Nat) : List Bl := if T (some (UInt8.ofNat i)) = [] then [] else [⟨UInt8.ofNat i, T (some (UInt8.ofNat i))⟩]
def o4 (T : Tb) : Nat → List Bl
 | 0 => []
 | n + 1 => o4 T n ++ bE T n
def mB (T : Tb) : List Bl := o4 T 256
theorem HV {T : Tb} {i : Nat} {b : Bl} (hi : i < 256) : b ∈ bE T i ↔ b.a.toNat = i ∧ b.l = T (some b.a) ∧ b.l ≠ [] := by
 unfold bE
 constructor
 · intro h
   split at h
   · simp at h
   · rename_i hne
     simp only [List.mem_singleton] at h
     subst h
     exact ⟨toNat_ofNat hi, rfl, hne⟩
 · intro ⟨h1, h2, h3⟩
   have e : UInt8.ofNat i = b.a := by rw [← h1]; exact UInt8.toNat_inj.1 (toNat_ofNat b.a.toNat_lt)
   rw [e, if_neg (by rw [← h2]; exact h3), ← h2]
   simp
theorem vX {T : Tb} {b : Bl} : ∀ n, n ≤ 256 → (b ∈ o4 T n ↔ b.a.toNat < n ∧ b.l = T (some b.a) ∧ b.l ≠ [])
 | 0, _ => by simp [o4]
 | n + 1, hn => by
   rw [o4, List.mem_append, vX n (by omega), HV (by omega)]
   constructor
   · rintro (⟨h1, h2⟩ | ⟨h1, h2⟩)
     · exact ⟨by omega, h2⟩
     · exact ⟨by omega, h2⟩
   · intro ⟨h1, h2⟩
     by_cases e : b.a.toNat = n
     · exact .inr ⟨e, h2⟩
     · exact .inl ⟨by omega, h2⟩
theorem qL {T : Tb} {b : Bl} : b ∈ mB T ↔ b.l = T (some b.a) ∧ b.l ≠ [] := by
 rw [mB, vX 256 (Nat.le_refl _)]
 exact ⟨fun h => h.2, fun h => ⟨b.a.toNat_lt, h⟩⟩
theorem AW {T : Tb} : ∀ n, n ≤ 256 → (o4 T n).Pairwise ltA
 | 0, _ => .nil
 | n + 1, hn => by
   rw [o4, List.pairwise_append]
   refine ⟨AW n (by omega), ?_, fun x hx y hy => ?_⟩
   · unfold bE; split
     · exact .nil
     · exact List.pairwise_singleton _ _
   · have h1 := (vX n (by omega)).1 hx
     have h2 := (HV (by omega)).1 hy
     show x.a.toNat < y.a.toNat
     omega
theorem zG (T : Tb) : (mB T).Pairwise ltA := AW 256 (Nat.le_refl _)
theorem A8 (T : Tb) : ∀ n, (o4 T n).length ≤ n
 | 0 => Nat.le_refl _
 | n + 1 => by
   have h : (bE T n).length ≤ 1 := by unfold bE; split <;> simp
   rw [o4, List.length_append]
   have := A8 T n
   omega
theorem Du (T : Tb) : (mB T).length ≤ 256 := A8 T 256
theorem Ey {T U : Tb} (h : ∀ a, T (some a) = U (some a)) : mB T = mB U := by
 have : ∀ n, o4 T n = o4 U n := fun n => by
  induction n with
  | zero => rfl
  | succ n ih => rw [o4, o4, ih, bE, bE, h]
 exact this 256
theorem Gy (T : Tb) (l : List bD) : mB (upd T none l) = mB T := Ey fun a => rF _ _ (by simp)
theorem Cb : ∀ {l m : List Bl}, l.Pairwise ltA → m.Pairwise ltA → (∀ b, b ∈ l ↔ b ∈ m) → l = m
 | [], [], _, _, _ => rfl
 | [], y :: m, _, _, h => absurd ((h y).2 (by simp)) (by simp)
 | x :: l, [], _, _, h => absurd ((h x).1 (by simp)) (by simp)
 | x :: l, y :: m, h1, h2, h => by
   have p1 := List.pairwise_cons.1 h1
   have p2 := List.pairwise_cons.1 h2
   have e : x = y := by
    rcases List.mem_cons.1 ((h x).1 (by simp)) with e | e
    · exact e
    · rcases List.mem_cons.1 ((h y).2 (by simp)) with e2 | e2
      · exact e2.symm
      · have a1 := p2.1 x e; have a2 := p1.1 y e2
        unfold ltA at a1 a2; omega
   subst e
   rw [Cb p1.2 p2.2 (fun b => ?_)]
   constructor
   · intro hb
     rcases List.mem_cons.1 ((h b).1 (by simp [hb])) with e | e
     · subst e; have := p1.1 b hb; unfold ltA at this; omega
     · exact e
   · intro hb
     rcases List.mem_cons.1 ((h b).2 (by simp [hb])) with e | e
     · subst e; have := p2.1 b hb; unfold ltA at this; omega
     · exact e
def pGo (n : Bl) : List Bl → Bool → List Bl → List Bl
 | [], b, out => if b then out else out ++ [n]
 | x :: r, b, out => if b = false ∧ n.a.toNat < x.a.toNat then (if x.a ≠ n.a then pGo n r true (out ++ [n] ++ [x]) else pGo n r true (out ++ [n])) else (if x.a ≠ n.a then pGo n r b (out ++ [x]) else pGo n r b out)
def BB (n : Bl) (z : Bool) (B : List Bl) : List Bl := B.filter (fun x => decide (x.a.toNat < n.a.toNat)) ++ (if z then [] else [n]) ++ B.filter (fun x => decide (n.a.toNat < x.a.toNat))
theorem KM {x n : Bl} (h : n.a.toNat < x.a.toNat) : x.a ≠ n.a := fun e => by rw [e] at h; omega
theorem tV {n : Bl} : ∀ {l out : List Bl}, (∀ x ∈ l, ltA n x) → pGo n l true out = out ++ l
 | [], out, _ => by simp [pGo]
 | x :: l, out, h => by rw [pGo, if_neg (by simp), if_pos (KM (h x (by simp))), tV (fun y hy => h y (by simp [hy]))]; simp
theorem Ho {n : Bl} : ∀ {l out : List Bl}, (∀ x ∈ l, ltA n x) → pGo n l false out = out ++ n :: l
 | [], out, _ => by simp [pGo]
 | x :: l, out, h => by rw [pGo, if_pos ⟨rfl, h x (by simp)⟩, if_pos (KM (h x (by simp))), tV (fun y hy => h y (by simp [hy]))]; simp
theorem xB {n : Bl} {l : List Bl} (h : ∀ x ∈ l, ltA n x) : l.filter (fun x => decide (x.a.toNat < n.a.toNat)) = [] ∧ l.filter (fun x => decide (n.a.toNat < x.a.toNat)) = l := by
 constructor
 · rw [List.filter_eq_nil_iff]; intro x hx; have := h x hx; unfold ltA at this; simp; omega
 · rw [List.filter_eq_self]; intro x hx; have := h x hx; unfold ltA at this; simpa using this
theorem Fl {n : Bl} {z : Bool} : ∀ {l out : List Bl}, l.Pairwise ltA → pGo n l z out = out ++ BB n z l
 | [], out, _ => by cases z <;> simp [pGo, BB]
 | x :: l, out, h => by
   have l1 := List.pairwise_cons.1 h
   have ih := fun out => Fl (n := n) (z := z) (out := out) l1.2
   by_cases e2 : n.a.toNat < x.a.toNat
   · have hg : ∀ y ∈ x :: l, ltA n y := fun y hy => by
      rcases List.mem_cons.1 hy with rfl | hy
      · exact e2
      · have := l1.1 y hy; unfold ltA at *; omega
     rw [BB, (xB hg).1, (xB hg).2]
     cases z with
     | true => rw [tV hg]; simp
     | false => rw [Ho hg]; simp
   · rw [pGo, if_neg (fun q => e2 q.2)]
     by_cases e : x.a = n.a
     · have hg : ∀ y ∈ l, ltA n y := fun y hy => by have := l1.1 y hy; unfold ltA at *; rw [e] at this; exact this
       rw [if_neg (fun q => q e), BB, List.filter_cons_of_neg (by rw [e]; simp), List.filter_cons_of_neg (by rw [e]; simp), (xB hg).1, (xB hg).2]
       cases z with
       | true => rw [tV hg]; simp
       | false => rw [Ho hg]; simp
     · have e3 : x.a.toNat < n.a.toNat := by
        have : x.a.toNat ≠ n.a.toNat := fun q => e (UInt8.toNat_inj.1 q)
        omega
       rw [if_pos e, ih, BB, BB, List.filter_cons_of_pos (by simpa using e3), List.filter_cons_of_neg (by simpa using e2)]
       simp
theorem F3 {T : Tb} {a : UInt8} {l : List bD} : BB ⟨a, l⟩ (decide (l.length = 0)) (mB T) = mB (upd T (some a) l) := by
 have hs := zG T
 have hz : ∀ b, b ∈ (if decide (l.length = 0) = true then ([] : List Bl) else [⟨a, l⟩]) ↔ b = ⟨a, l⟩ ∧ l ≠ [] := fun b => by
  by_cases e : l = [] <;> simp [e]
 refine Cb ?_ (zG _) (fun b => ?_)
 · unfold BB
   rw [List.append_assoc, List.pairwise_append, List.pairwise_append]
   refine ⟨hs.filter _, ⟨?_, hs.filter _, fun x hx y hy => ?_⟩, fun x hx y hy => ?_⟩
   · split
     · exact .nil
     · exact List.pairwise_singleton _ _
   · have e := ((hz x).1 hx).1
     subst e
     have := (List.mem_filter.1 hy).2
     show a.toNat < y.a.toNat
     simpa using this
   · have h1 : x.a.toNat < a.toNat := by simpa using (List.mem_filter.1 hx).2
     rcases List.mem_append.1 hy with hy | hy
     · have e := ((hz y).1 hy).1
       subst e; exact h1
     · have h2 : a.toNat < y.a.toNat := by simpa using (List.mem_filter.1 hy).2
       show x.a.toNat < y.a.toNat
       omega
 · rw [qL]
   unfold BB
   rw [List.mem_append, List.mem_append, List.mem_filter, List.mem_filter, qL, hz]
   simp only [decide_eq_true_eq]
   by_cases e : b.a = a
   · rw [show upd T (some a) l (some b.a) = l by rw [e]; exact lZ _ _ _, e]
     constructor
     · rintro ((⟨_, h⟩ | ⟨h, h2⟩) | ⟨_, h⟩)
       · omega
       · rw [h]; exact ⟨rfl, h2⟩
       · omega
     · intro ⟨h1, h2⟩
       cases b; simp only at e h1 h2; subst e h1
       exact .inl (.inr ⟨rfl, h2⟩)
   · rw [rF T _ (fun q => e (Option.some.inj q))]
     have : b.a.toNat ≠ a.toNat := fun q => e (UInt8.toNat_inj.1 q)
     constructor
     · rintro ((⟨h, _⟩ | ⟨h, h2⟩) | ⟨h, _⟩)
       · exact h
       · exact absurd (by rw [h]) e
       · exact h
     · intro h
       by_cases q : b.a.toNat < a.toNat
       · exact .inl (.inl ⟨h, q⟩)
       · exact .inr ⟨h, by omega⟩
def bX (fr : Fr) (x y : AV) : List AV := [fr.t, x, y, fr.a, fr.v, fr.d, fr.e, fr.h]
def bC (fr : Fr) (T : Tb) : List AV := bX fr (.sl 5 (aL (T none)) (T none).length .shut) (.sl 2 (jA (mB T)) (mB T).length .shut)
theorem Mn {x x' y y' : AV} (hx : Wk x x') (hy : Wk y y') : WkL (bX fr x y) (bX fr x' y') :=
 .cons (Wk.refl _) (.cons hx (.cons hy (.cons (Wk.refl _) (.cons (Wk.refl _) (.cons (Wk.refl _) (.cons (Wk.refl _) (.cons (Wk.refl _) .nil)))))))
theorem HA (B : Bd) (T : Tb) : bB B (bC fr T) = true := by simp [bC, bX, bB, AV.under, v7]
def kX (fr : Fr) (σ : St) (m : Nat) (T : Tb) : St := { σ with objs := σ.objs.set m (bC fr T) }
theorem Fy (σ : St) (m : Nat) (T U : Tb) : kX fr (kX fr σ m T) m U = kX fr σ m U := by simp [kX]
theorem GY {σ : St} {m : Nat} (T : Tb) (h : m < σ.objs.length) : (kX fr σ m T).objs[m]? = some (bC fr T) := by simp [kX, h]
theorem DC {σ : St} {m : Nat} {T : Tb} (h : σ.objs[m]? = some (bC fr T)) : kX fr σ m T = σ := by rw [kX, iE h]
theorem MF {P : Program} {f : FuncId} {args : List AV} {σ : St} {m : Nat} {W : Tb} {A : AV} (hw : m < σ.objs.length) (hA : A.under σ.bd = true)
  (k : aE P f args σ (fun av σ' => av = A ∧ ∃ tk x y l r, Wk x (.sl 5 (aL (W none)) (W none).length .shut) ∧ Wk y (.sl 2 (jA (mB W)) (mB W).length .shut) ∧ σ' = { σ with objs := σ.objs.set m (bX fr x y) ++ l, toks := σ.toks ++ tk, rows := σ.rows ++ r })) :
  aE P f args σ (fun av σ' => av = A ∧ σ' = kX fr σ m W) := by
 refine yI (A := A) (τ := kX fr σ m W) ?_ hA (by simp [kX]) rfl rfl rfl (Ez (Br _) (HA _ _)) (x4 _)
 refine mT k (fun av σ' h => ?_)
 obtain ⟨rfl, tk, x, y, l, r, hx, hy, rfl⟩ := h
 refine ⟨av, { σ with objs := σ.objs.set m (bC fr W) ++ l, toks := σ.toks ++ tk, rows := σ.rows ++ r }, Wk.refl _, ?_, Wk.refl _, l, tk, r, by simp [kX]⟩
 rw [← List.set_append_left _ _ hw, ← List.set_append_left _ _ hw]
 exact WkS.set (σ := { σ with toks := σ.toks ++ tk, rows := σ.rows ++ r }) (Mn hx hy)
theorem Az {σ : St} {m : Nat} {T : Tb} {a : UInt8} (h : σ.objs[m]? = some (bC fr T)) :
  aE Tryz.prog 43 [.ptr m 0, .v (.int .u8 a.toNat)] σ (fun av σ' => av = .sl 5 (aL (T (some a))) (T (some a)).length .shut ∧ σ = σ') := by
 refine aU ?_ (by simp [AV.under])
 have hmem := fun b => qL (T := T) (b := b)
 obtain ⟨B, hB⟩ : ∃ B, B = mB T := ⟨_, rfl⟩
 have hBl : B.length ≤ 256 := by rw [hB]; exact Du T
 simp only [bC, bX, ← hB] at h hmem
 have hBc := AN B
 have hge : ∀ h2 : m < σ.objs.length, σ.objs[m]'h2 = _ := fun h2 => (List.getElem?_eq_some_iff.1 h).2
 have hml := cZ h
 have F := And.intro h (And.intro hge (And.intro hml (And.intro hBc (True.intro))))
 refine aB Tryz.func43 rfl rfl rfl ?_; refine sr fun _ hJ2 => ?_; apply hJ2; refine sq fun K3 hK3 => ?_; refine sr fun _ hJ5 => ?_; apply hJ5; refine aD ?_; refine cK (X := Nat) [0, 1] (fun i ρ σ1 => (i ≤ B.length) ∧ (∀ j (hj : j < B.length), j < i → B[j].a ≠ a) ∧ (ρ 5 = .v (.int .i64 i)) ∧ (σ1 = σ)) (fun i => B.length - i) (0) ?st1 ?rd1
 case st1 =>
  refine ⟨lp, ?_, lp, lp⟩
  · intro j hj q
    omega
 case rd1 =>
  rintro i ρ1 σ1 hF1 ⟨h1, h2, h5, hσ⟩; obtain rfl := hσ.symm
  have f1 := dU hF1
  (try simp [dT, F] at f1); replace F := aF h5 F; (try replace F := aF f1 F); refine sq fun K6 hK6 => ?_; refine sr fun _ hJ8 => ?_; apply hJ8; refine cs (fun c12 => ?_) (fun c12 => ?_)
  · all_goals
     replace F := aF c12 F
     have hlt : i < B.length := by have h := c12; simp at h; omega
     obtain ⟨R, hR⟩ := CZ hlt
     obtain ⟨b, hb⟩ : ∃ b, b = B[i] := ⟨_, rfl⟩
     rw [← hb] at hR
     have f0 : ∀ h2 : i * 2 < (jA B).length, (jA B)[i * 2]'h2 = .v (.int .u8 (b.a.toNat : Nat)) := fun h2 => by have := oN (l := jA B) (i := i * 2) (j := 0) (x := .v (.int .u8 (b.a.toNat : Nat))) (by rw [hR]; rfl); exact this h2
     have f1 := oN (l := jA B) (i := i * 2) (j := 1) (x := .sl 5 (aL b.l) b.l.length .shut) (by rw [hR]; rfl)
     have d0 : i * 2 < B.length * 2 := by omega
     have d1 : i * 2 + 1 < B.length * 2 := by omega
     have hi1 : i + 1 ≤ B.length := hlt
     have hwi : IntKind.i64.wrap ((i : Int) + 1) = (i : Int) + 1 := wrap_i64 _ (by omega) (by omega)
     have hbm := (hmem b).1 (by rw [hb]; exact List.getElem_mem hlt)
     replace F := aF hlt (And.intro f0 (And.intro f1 (And.intro d0 (And.intro d1 (And.intro hi1 (And.intro hwi F)))))); refine aA ?_; apply hK6; refine sq fun K9 hK9 => ?_; refine aD ?_; refine sr fun _ hJ11 => ?_; apply hJ11; refine cs (fun c24 => ?_) (fun c24 => ?_)
     · all_goals
        replace F := aF c24 F
        have e : b.a = a := by have h := c24; simp at h; exact UInt8.toNat_inj.1 (by omega)
        have e2 : b.l = T (some a) := by rw [hbm.1, e]
        replace F := aF e2 F; refine sr fun _ hJ13 => ?_; apply hJ13; refine ra ?_; exact gcr
     all_goals
      replace F := aF c24 F; refine aA ?_; apply hK9; refine rg' (h := fun J14 hJ14 => ?_); apply hJ14; refine ⟨(i + 1), ⟨kp, lp, ?_, lp, lp⟩, lp⟩
      · intro j hj q
        by_cases e : j = i
        · subst e; rw [← hb]; intro e3; have h := c24; simp [e3] at h
        · exact h2 j hj (by omega)
  all_goals
   replace F := aF c12 F
   have hie : i = B.length := by have h := c12; simp at h; omega
   have e0 : T (some a) = [] := Classical.byContradiction fun q => by
    obtain ⟨j, hj, e⟩ := List.mem_iff_getElem.1 ((hmem ⟨a, T (some a)⟩).2 ⟨rfl, q⟩)
    exact h2 j hj (by omega) (by rw [e])
   replace F := aF e0 F; refine bJ ?_; apply hK3; refine sr fun _ hJ16 => ?_; apply hJ16; refine ra ?_
   rw [e0]
   exact gcr (hA := by simpa using Wk.nil _ _ _)
structure GB where
 i : Nat
 O : List Bl
 b : Bool
attribute [local simp] xH nL xJ xF BD uJ wV in
theorem JQ {σ : St} {m : Nat} {T : Tb} {a : UInt8} {l : List bD} (h : σ.objs[m]? = some (bC fr T)) (hl : l.length ≤ 9223372036854775807) :
  aE Tryz.prog 44 [.ptr m 0, .v (.int .u8 a.toNat), .sl 5 (aL l) l.length .shut] σ (fun av σ' => av = .tup [] ∧ σ' = kX fr σ m (upd T (some a) l)) := by
 have hw := cZ h
 refine MF hw rfl ?_
 rw [La]
 obtain ⟨E, hE⟩ : ∃ E, E = mB (upd T (some a) l) := ⟨_, rfl⟩
 rw [← hE]
 obtain ⟨n, hn⟩ : ∃ n : Bl, n = ⟨a, l⟩ := ⟨_, rfl⟩
 obtain ⟨z, hz⟩ : ∃ z, z = decide (l.length = 0) := ⟨_, rfl⟩
 have hzi : ((l.length : Int) == 0) = z := by rw [hz, Bool.eq_iff_iff]; simp
 have hgo : pGo n (mB T) z [] = E := by rw [Fl (zG T), List.nil_append, hn, hz, F3, ← hE]
 have hna : n.a = a := by rw [hn]
 have hnC : oQ n = [.v (.int .u8 a.toNat), .sl 5 (aL l) l.length .shut] := by rw [hn]; rfl
 obtain ⟨B, hB⟩ : ∃ B, B = mB T := ⟨_, rfl⟩
 have hBl : B.length ≤ 256 := by rw [hB]; exact Du T
 rw [← hB] at hgo
 obtain ⟨X, hX⟩ : ∃ X, X = AV.sl 5 (aL (T none)) (T none).length .shut := ⟨_, rfl⟩
 have hXo : ∀ n, X.eM n = true := fun n => by rw [hX]; simp [AV.eM]
 simp only [bC, bX, ← hB, ← hX] at h
 rw [← hX]
 have hoX : ∀ l, (σ.objs ++ l)[m]? = some _ := fun l => by rw [List.getElem?_append_left hw]; exact h
 have ho3 : ∀ x l, (σ.objs ++ l).set m x = σ.objs.set m x ++ l := fun x l => List.set_append_left _ _ hw
 have hge : ∀ h2 : m < σ.objs.length, σ.objs[m]'h2 = _ := fun h2 => (List.getElem?_eq_some_iff.1 h).2
 have hBc := AN B
 have hap : ∀ (O : List Bl) (x : Bl) objs, O.length ≤ 1000000 → dG Tryz.prog 42 (lsA σ.toks.length 2 (jA O) O.length) (.sl 2 (oQ x) 1 .full) ⟨objs, σ.toks ++ lsT O.length, σ.gl, σ.rows⟩ = some (lsA σ.toks.length 2 (jA (O ++ [x])) (O.length + 1), ⟨objs, σ.toks ++ lsT (O.length + 1), σ.gl, σ.rows⟩) := fun O x objs hO => by
  rw [Gr, show jA [x] = oQ x by simp [jA]]
  exact r5 elemT_42 ti_127 (by decide) rfl (fun h => by rw [List.eq_nil_of_length_eq_zero h]; rfl) rfl (by omega) (by simp only [gH]; omega) (by simp only [maxLen]; omega)
 have F := And.intro hzi (And.intro hoX (And.intro h (And.intro ho3 (And.intro hge (And.intro hw (And.intro hBc (And.intro hXo (True.intro))))))))
 refine aB Tryz.func44 rfl rfl rfl ?_; refine sr fun _ hJ2 => ?_; apply hJ2; refine sr fun _ hJ4 => ?_; apply hJ4; refine sq fun K5 hK5 => ?_; refine sr fun _ hJ7 => ?_; apply hJ7; refine aD ?_; refine fA (X := GB) [0, 1, 2] (fun x ρ σ1 => (x.i ≤ B.length) ∧ (pGo n (B.drop x.i) x.b x.O = E) ∧ (x.O.length ≤ 2 * x.i) ∧ (ρ 6 = lsA σ.toks.length 2 (jA x.O) x.O.length) ∧ (ρ 7 = .v (.bool x.b)) ∧ (ρ 8 = .v (.int .i64 x.i)) ∧ (σ1 = { σ with toks := σ.toks ++ lsT x.O.length })) (fun x => B.length - x.i) (⟨0, [], z⟩) ?st1 ?rd1
 case st1 =>
  refine ⟨lp, ?_, lp, lp, lp, lp, ?_⟩
  · exact hgo
  · simp [nL, F]
 case rd1 =>
  rintro x ρ1 σ1 hF1 ⟨h1, h2, h3, h4, h5, h6, hσ⟩; obtain rfl := hσ.symm
  have f1 := dU hF1
  (try simp [dT, F] at f1); replace F := aF h4 F; replace F := aF h5 F; replace F := aF h6 F; (try replace F := aF f1 F); refine sq fun K8 hK8 => ?_; refine sr fun _ hJ10 => ?_; apply hJ10; refine cs (fun c19 => ?_) (fun c19 => ?_)
  · all_goals
     replace F := aF c19 F
     have hlt : x.i < B.length := by have h := c19; simp at h; omega
     obtain ⟨R, hR9⟩ := CZ (l := B) (i := x.i) hlt
     obtain ⟨y, hy⟩ : ∃ y, y = B[x.i] := ⟨_, rfl⟩
     rw [← hy] at hR9
     have hR3 : List.take 2 (List.drop (x.i * 2) (jA B)) = oQ y := by rw [hR9]; rfl
     have d3 : x.i * 2 + 2 ≤ B.length * 2 := by omega
     have hi1 : x.i + 1 ≤ B.length := hlt
     have hwi : IntKind.i64.wrap ((x.i : Int) + 1) = (x.i : Int) + 1 := wrap_i64 _ (by omega) (by omega)
     have hdr : B.drop x.i = y :: B.drop (x.i + 1) := by rw [hy]; exact List.drop_eq_getElem_cons hlt
     rw [hdr, pGo, hna] at h2
     have p1 := fun objs => hap x.O y objs (by omega)
     have p2 := fun objs => hap x.O n objs (by omega)
     have p3 := fun objs => hap (x.O ++ [n]) y objs (by simp; omega)
     simp only [List.length_append, List.length_cons, List.length_nil, Nat.zero_add] at p3
     have hyc : (∀ x, x ∈ oQ y → x.bL = true) = True := eq_true (LU y)
     have hyl : (oQ y).length = 2 := rfl
     have hyt : List.take 2 (oQ y) = oQ y := rfl
     have hyo : ∀ nb, bM nb (oQ y) = true := fun nb => zQ nb y
     obtain ⟨Y, hY⟩ : ∃ Y, Y = oQ y := ⟨_, rfl⟩
     have y0 : ∀ h2 : 0 < Y.length, Y[0]'h2 = .v (.int .u8 (y.a.toNat : Nat)) := fun h2 => by subst hY; rfl
     rw [← hY] at hyc hyl hR3 hyt
     simp only [← hY] at hyo p1 p3
     simp only [AV.bL] at hyc
     simp only [hnC] at p2
     replace F := aF hlt (And.intro hR3 (And.intro d3 (And.intro hi1 (And.intro hwi (And.intro hyc (And.intro hyl (And.intro hyt (And.intro hyo (And.intro y0 (And.intro p1 (And.intro p2 (And.intro p3 F)))))))))))); refine aA ?_; apply hK8; refine sq fun K11 hK11 => ?_; refine aD ?_; refine sr fun _ hJ13 => ?_; apply hJ13; refine sq fun K14 hK14 => ?_; refine sr fun _ hJ16 => ?_; refine gs 31 (fun g6_2 => ?_) (fun g6_2 => ?_)
     · all_goals
        replace F := aF g6_2 F
        have hb : x.b = false := by simpa using g6_2
        (iterate 4 refine go2 (k := ?_)); apply hJ16; refine cs (fun c36 => ?_) (fun c36 => ?_)
        · all_goals
           replace F := aF c36 F
           have hla : a.toNat < y.a.toNat := by have h := c36; simp at h; omega
           rw [if_pos ⟨hb, hla⟩] at h2
           refine sr fun _ hJ18 => ?_; apply hJ18; refine rg' (h := fun J19 hJ19 => ?_); apply hJ19; apply hK14; refine sr fun _ hJ21 => ?_; apply hJ21; refine cs (fun c46 => ?_) (fun c46 => ?_)
           · all_goals
              replace F := aF c46 F
              have hne : y.a ≠ a := by intro q; have h := c46; simp [q] at h
              rw [if_pos hne] at h2
              refine rg' (h := fun J22 hJ22 => ?_); apply hJ22; apply hK11; refine rg' (h := fun J23 hJ23 => ?_); apply hJ23; refine ⟨gk, (⟨x.i + 1, x.O ++ [n] ++ [y], true⟩), ⟨kpG, lpG, ?_, ?_, lpG, lpG, lpG, lpG⟩, lpG⟩
              · exact h2
              · simp
                omega
           all_goals
            replace F := aF c46 F
            have heq : y.a = a := by have h := c46; simp at h; exact UInt8.toNat_inj.1 (by omega)
            rw [if_neg (not_not_intro heq)] at h2
            refine aA ?_; apply hK11; refine rg' (h := fun J24 hJ24 => ?_); apply hJ24; refine ⟨gk, (⟨x.i + 1, x.O ++ [n], true⟩), ⟨kpG, lpG, ?_, ?_, lpG, lpG, lpG, lpG⟩, lpG⟩
            · exact h2
            · simp
              omega
        all_goals
         replace F := aF c36 F; (try (have hla : ¬ a.toNat < y.a.toNat := by { have h := c36; simp at h; omega }; rw [if_neg (fun q => hla q.2)] at h2)); refine aA ?_; apply hK14; refine sr fun _ hJ26 => ?_; apply hJ26; refine cs (fun c46 => ?_) (fun c46 => ?_)
         · all_goals
            replace F := aF c46 F
            have hne : y.a ≠ a := by intro q; have h := c46; simp [q] at h
            rw [if_pos hne] at h2
            refine rg' (h := fun J27 hJ27 => ?_); apply hJ27; apply hK11; refine rg' (h := fun J28 hJ28 => ?_); apply hJ28; refine ⟨gk, (⟨x.i + 1, x.O ++ [y], x.b⟩), ⟨kpG, lpG, ?_, ?_, lpG, lpG, lpG, lpG⟩, lpG⟩
            · exact h2
            · simp
              omega
         all_goals
          replace F := aF c46 F
          have heq : y.a = a := by have h := c46; simp at h; exact UInt8.toNat_inj.1 (by omega)
          rw [if_neg (not_not_intro heq)] at h2
          refine aA ?_; apply hK11; refine rg' (h := fun J29 hJ29 => ?_); apply hJ29; refine ⟨gk, (⟨x.i + 1, x.O, x.b⟩), ⟨kpG, lpG, ?_, ?_, lpG, lpG, lpG, lpG⟩, lpG⟩
          · exact h2
          · simp
            omega
     all_goals
      replace F := aF g6_2 F
      have hb : x.b = true := by simpa using g6_2
      rw [if_neg (by rw [hb]; simp)] at h2
      (iterate 4 refine no2 (k := ?_)); apply hJ16; refine cf ?_; refine aA ?_; apply hK14; refine sr fun _ hJ31 => ?_; apply hJ31; refine cs (fun c46 => ?_) (fun c46 => ?_)
      · all_goals
         replace F := aF c46 F
         have hne : y.a ≠ a := by intro q; have h := c46; simp [q] at h
         rw [if_pos hne] at h2
         refine rg' (h := fun J32 hJ32 => ?_); apply hJ32; apply hK11; refine rg' (h := fun J33 hJ33 => ?_); apply hJ33; refine ⟨gk, (⟨x.i + 1, x.O ++ [y], x.b⟩), ⟨kpG, lpG, ?_, ?_, lpG, lpG, lpG, lpG⟩, lpG⟩
         · exact h2
         · simp
           omega
      all_goals
       replace F := aF c46 F
       have heq : y.a = a := by have h := c46; simp at h; exact UInt8.toNat_inj.1 (by omega)
       rw [if_neg (not_not_intro heq)] at h2
       refine aA ?_; apply hK11; refine rg' (h := fun J34 hJ34 => ?_); apply hJ34; refine ⟨gk, (⟨x.i + 1, x.O, x.b⟩), ⟨kpG, lpG, ?_, ?_, lpG, lpG, lpG, lpG⟩, lpG⟩
       · exact h2
       · simp
         omega
  all_goals
   replace F := aF c19 F
   have hde : B.drop x.i = [] := List.drop_of_length_le (by have h := c19; simp at h; omega)
   rw [hde, pGo] at h2
   have p2 := fun objs => hap x.O n objs (by omega)
   simp only [hnC] at p2
   replace F := aF p2 F; refine bJ ?_; apply hK5; refine sq fun K35 hK35 => ?_; refine sr fun _ hJ37 => ?_; apply hJ37; refine cs (fun c52 => ?_) (fun c52 => ?_)
   · all_goals
      replace F := aF c52 F
      have hb : x.b = false := by simpa using c52
      rw [hb, if_neg (by simp)] at h2
      refine rg' (h := fun J38 hJ38 => ?_); apply hJ38; apply hK35; refine rg' (h := fun J39 hJ39 => ?_); apply hJ39; (try simp only [eD, bG, bV, if_true]); refine gI rfl (.inl rfl) ?_
      refine ⟨by simp [F], lsT (x.O.length + 1), _, lsA σ.toks.length 2 (jA (x.O ++ [n])) (x.O.length + 1), [], [], Wk.refl _, by rw [← h2]; simpa using sT (k := σ.toks.length) (sz := 2) (n := x.O.length + 1) (cs := jA (x.O ++ [n])) (fun h => by simp at h), by simp [bX]⟩
   all_goals
    replace F := aF c52 F
    have hb : x.b = true := by simpa using c52
    rw [hb, if_pos rfl] at h2
    refine aA ?_; apply hK35; refine rg' (h := fun J40 hJ40 => ?_); apply hJ40; (try simp only [eD, bG, bV, if_true]); refine gI rfl (.inl rfl) ?_
    refine ⟨by simp [F], lsT x.O.length, _, lsA σ.toks.length 2 (jA x.O) x.O.length, [], [], Wk.refl _, by rw [← h2]; exact sT (k := σ.toks.length) (sz := 2) (n := x.O.length) (cs := jA x.O) (fun h => by rw [List.eq_nil_of_length_eq_zero h]; rfl), by simp [bX]⟩
end Go.Proofs.YtjpnjhlfieklfaaGreat
namespace Go.Proofs.YtjpnjhlfieklfaaGreat
set_option maxHeartbeats 1600000
open Go Go.Vm
attribute [local simp] dM aI dJ opA bH bN cM bP ofValue dC plain aQ aR cA b8 cC cB bY b7 b9 bZ cV bW cG cD b6 bU aT aS bO cU aW dQ dR bK aZ cL gA bS dE cF AV.cells AV.bL dF cO eZ bF aV cQ dI dS dV cN aN dP dO cW cT cI List.getElem?_cons_zero List.getElem?_cons_succ fK fL fH fG fJ fM fI fF dL eQ eB fB dA
variable {fr fb : Fr}
def aX (fr : Fr) (x : AV) : List AV := [fr.t, fr.s, fr.b, x, fr.v, fr.d, fr.e, fr.h]
def aC (fr : Fr) (L : List Acc) : List AV := aX fr (.sl 17 (iQ L) L.length .shut)
theorem MP {x x' : AV} (hx : Wk x x') : WkL (aX fr x) (aX fr x') :=
 .cons (Wk.refl _) (.cons (Wk.refl _) (.cons (Wk.refl _) (.cons hx (WkL.refl _))))
theorem Iq (B : Bd) (L : List Acc) : bB B (aC fr L) = true := by simp [aC, aX, bB, AV.under, wA]
def y8 (fr : Fr) (σ : St) (m : Nat) (L : List Acc) : St := { σ with objs := σ.objs.set m (aC fr L) }
theorem Mz {P : Program} {f : FuncId} {args : List AV} {σ : St} {m : Nat} {W : List Acc} {A : AV} (hw : m < σ.objs.length) (hA : A.under σ.bd = true)
  (k : aE P f args σ (fun av σ' => av = A ∧ ∃ tk x l r, Wk x (.sl 17 (iQ W) W.length .shut) ∧ σ' = { σ with objs := σ.objs.set m (aX fr x) ++ l, toks := σ.toks ++ tk, rows := σ.rows ++ r })) :
  aE P f args σ (fun av σ' => av = A ∧ σ' = y8 fr σ m W) := by
 refine yI (A := A) (τ := y8 fr σ m W) ?_ hA (by simp [y8]) rfl rfl rfl (Ez (Br _) (Iq _ _)) (x4 _)
 refine mT k (fun av σ' h => ?_)
 obtain ⟨rfl, tk, x, l, r, hx, rfl⟩ := h
 refine ⟨av, { σ with objs := σ.objs.set m (aC fr W) ++ l, toks := σ.toks ++ tk, rows := σ.rows ++ r }, Wk.refl _, ?_, Wk.refl _, l, tk, r, by simp [y8]⟩
 rw [← List.set_append_left _ _ hw, ← List.set_append_left _ _ hw]
 exact WkS.set (σ := { σ with toks := σ.toks ++ tk, rows := σ.rows ++ r }) (MP hx)
attribute [local simp] hH in
theorem wN {σ : St} {v : Acc} (hv : v.Ok) :
  aE Tryz.prog 12 [.agg (hH v)] σ (fun av σ' => av = .v (.bool (decide (gR v))) ∧ σ = σ') := by
 refine aU ?_ rfl
 have hx := fun τ => D6 (σ := τ) hv.2
 simp only [iK] at hx
 have hB := wI v
 obtain ⟨B, hBe⟩ : ∃ B, B = decide (gR v) := ⟨_, rfl⟩
 obtain ⟨RB, hRB⟩ : ∃ RB, RB = bR v.p := ⟨_, rfl⟩
 rw [← hBe] at hB ⊢
 rw [← hRB] at hB
 simp only [← hRB] at hx
 have F := True.intro
 refine aB Tryz.func12 rfl rfl rfl ?_; refine sr fun _ hJ2 => ?_; apply hJ2; refine sq fun K3 hK3 => ?_; refine sr fun _ hJ5 => ?_; refine gs 6 (fun g1_3 => ?_) (fun g1_3 => ?_)
 · (try exact aK g1_3); all_goals have g1_3p := g1_3; try simp [F] at g1_3p
   all_goals
    replace F := aF g1_3 F; try replace F := aF g1_3p F
    have q : ¬ (v.a.toNat : Int) < 200 := by have h := g1_3; simp at h; omega
    replace F := aF q F; (iterate 10 refine no2 (k := ?_)); apply hJ5; refine ct ?_; refine sr fun _ hJ7 => ?_; apply hJ7; refine ra ?_
    have hq0 : ((v.f.toNat : Int) == 0) = decide (v.f.toNat = 0) := by rw [Bool.eq_iff_iff]; simp
    have hq1 : ((v.f.toNat : Int) != v.a.toNat) = !decide (v.f.toNat = v.a.toNat) := by rw [Bool.eq_iff_iff]; simp <;> omega
    have hq2 : decide ((v.f.toNat : Int) = v.a.toNat) = decide (v.f.toNat = v.a.toNat) := decide_eq_decide.2 (by omega)
    refine gcr (hA := ?_); simp [hB, F, hq0, hq1, hq2] <;> exact Wk.refl _
 (try exact aK g1_3); all_goals have g1_3p := g1_3; try simp [F] at g1_3p
 all_goals
  replace F := aF g1_3 F; try replace F := aF g1_3p F
  have q : (v.a.toNat : Int) < 200 := by have h := g1_3; simp at h; omega
  replace F := aF q F; (iterate 3 refine go2 (k := ?_)); refine gs 11 (fun g1_8 => ?_) (fun g1_8 => ?_)
  · (try exact aK g1_8); all_goals have g1_8p := g1_8; try simp [F] at g1_8p
    all_goals
     replace F := aF g1_8 F; try replace F := aF g1_8p F
     have q : ¬ (v.y.toNat : Int) < 200 := by have h := g1_8; simp at h; omega
     replace F := aF q F; (iterate 7 refine no2 (k := ?_)); apply hJ5; refine ct ?_; refine sr fun _ hJ9 => ?_; apply hJ9; refine ra ?_
     have hq0 : ((v.f.toNat : Int) == 0) = decide (v.f.toNat = 0) := by rw [Bool.eq_iff_iff]; simp
     have hq1 : ((v.f.toNat : Int) != v.a.toNat) = !decide (v.f.toNat = v.a.toNat) := by rw [Bool.eq_iff_iff]; simp <;> omega
     have hq2 : decide ((v.f.toNat : Int) = v.a.toNat) = decide (v.f.toNat = v.a.toNat) := decide_eq_decide.2 (by omega)
     refine gcr (hA := ?_); simp [hB, F, hq0, hq1, hq2] <;> exact Wk.refl _
  (try exact aK g1_8); all_goals have g1_8p := g1_8; try simp [F] at g1_8p
  all_goals
   replace F := aF g1_8 F; try replace F := aF g1_8p F
   have q : (v.y.toNat : Int) < 200 := by have h := g1_8; simp at h; omega
   replace F := aF q F; (iterate 3 refine go2 (k := ?_)); refine gs 16 (fun g1_13 => ?_) (fun g1_13 => ?_)
   · (try exact aK g1_13); all_goals have g1_13p := g1_13; try simp [F] at g1_13p
     all_goals
      replace F := aF g1_13 F; try replace F := aF g1_13p F
      have q : ¬ (v.f.toNat : Int) < 200 := by have h := g1_13; simp at h; omega
      replace F := aF q F; (iterate 4 refine no2 (k := ?_)); apply hJ5; refine ct ?_; refine sr fun _ hJ11 => ?_; apply hJ11; refine ra ?_
      have hq0 : ((v.f.toNat : Int) == 0) = decide (v.f.toNat = 0) := by rw [Bool.eq_iff_iff]; simp
      have hq1 : ((v.f.toNat : Int) != v.a.toNat) = !decide (v.f.toNat = v.a.toNat) := by rw [Bool.eq_iff_iff]; simp <;> omega
      have hq2 : decide ((v.f.toNat : Int) = v.a.toNat) = decide (v.f.toNat = v.a.toNat) := decide_eq_decide.2 (by omega)
      refine gcr (hA := ?_); simp [hB, F, hq0, hq1, hq2] <;> exact Wk.refl _
   (try exact aK g1_13); all_goals have g1_13p := g1_13; try simp [F] at g1_13p
   all_goals
    replace F := aF g1_13 F; try replace F := aF g1_13p F
    have q : (v.f.toNat : Int) < 200 := by have h := g1_13; simp at h; omega
    replace F := aF q F; (iterate 2 refine go2 (k := ?_)); refine ca (c := hx _) (k := ?_); rintro _ _ ⟨rfl, rfl⟩; (try simp [F]); refine go2 (k := ?_); apply hJ5; refine cs (fun c21 => ?_) (fun c21 => ?_)
    · (try exact aK c21); all_goals have c21p := c21; try simp [F] at c21p
      all_goals
       replace F := aF c21 F; (try replace F := aF c21p F); refine sr fun _ hJ13 => ?_; apply hJ13; refine ra ?_
       have hq0 : ((v.f.toNat : Int) == 0) = decide (v.f.toNat = 0) := by rw [Bool.eq_iff_iff]; simp
       have hq1 : ((v.f.toNat : Int) != v.a.toNat) = !decide (v.f.toNat = v.a.toNat) := by rw [Bool.eq_iff_iff]; simp <;> omega
       have hq2 : decide ((v.f.toNat : Int) = v.a.toNat) = decide (v.f.toNat = v.a.toNat) := decide_eq_decide.2 (by omega)
       refine gcr (hA := ?_); simp [hB, F, hq0, hq1, hq2] <;> exact Wk.refl _
    (try exact aK c21); all_goals have c21p := c21; try simp [F] at c21p
    all_goals
     replace F := aF c21 F; (try replace F := aF c21p F); refine aA ?_; apply hK3; refine sq fun K14 hK14 => ?_; refine sr fun _ hJ16 => ?_; apply hJ16; refine cs (fun c25 => ?_) (fun c25 => ?_)
     · (try exact aK c25); all_goals have c25p := c25; try simp [F] at c25p
       all_goals
        replace F := aF c25 F; (try replace F := aF c25p F); refine sr fun _ hJ18 => ?_; apply hJ18; refine ra ?_
        have hq0 : ((v.f.toNat : Int) == 0) = decide (v.f.toNat = 0) := by rw [Bool.eq_iff_iff]; simp
        have hq1 : ((v.f.toNat : Int) != v.a.toNat) = !decide (v.f.toNat = v.a.toNat) := by rw [Bool.eq_iff_iff]; simp <;> omega
        have hq2 : decide ((v.f.toNat : Int) = v.a.toNat) = decide (v.f.toNat = v.a.toNat) := decide_eq_decide.2 (by omega)
        refine gcr (hA := ?_); simp [hB, F, hq0, hq1, hq2] <;> exact Wk.refl _
     (try exact aK c25); all_goals have c25p := c25; try simp [F] at c25p
     all_goals
      replace F := aF c25 F; (try replace F := aF c25p F); refine aA ?_; apply hK14; refine sr fun _ hJ20 => ?_; apply hJ20; refine ra ?_
      have hq0 : ((v.f.toNat : Int) == 0) = decide (v.f.toNat = 0) := by rw [Bool.eq_iff_iff]; simp
      have hq1 : ((v.f.toNat : Int) != v.a.toNat) = !decide (v.f.toNat = v.a.toNat) := by rw [Bool.eq_iff_iff]; simp <;> omega
      have hq2 : decide ((v.f.toNat : Int) = v.a.toNat) = decide (v.f.toNat = v.a.toNat) := decide_eq_decide.2 (by omega)
      refine gcr (hA := ?_); simp [hB, F, hq0, hq1, hq2] <;> exact Wk.refl _
def Nn (L : List Acc) (a : UInt8) (z : Int) : Prop := (z = -1 ∧ j8 L a = none) ∨ ∃ (i : Nat) (h : i < L.length), z = i ∧ j8 L a = some L[i]
theorem H7 {L : List Acc} {a : UInt8} {i : Nat} (hi : i < L.length) (h2 : ∀ j (hj : j < L.length), j < i → L[j].a ≠ a) (e : L[i].a = a) : j8 L a = some L[i] := by
 unfold j8
 rw [List.find?_eq_some_iff_getElem]
 exact ⟨by simpa using e, i, hi, rfl, fun j hj => by simpa using h2 j (by omega) hj⟩
theorem FN {L : List Acc} {a : UInt8} (h2 : ∀ j (hj : j < L.length), L[j].a ≠ a) : j8 L a = none :=
 pT.2 fun x hx => by obtain ⟨j, hj, e⟩ := List.mem_iff_getElem.1 hx; rw [← e]; exact h2 j hj
theorem s6 {σ : St} {m : Nat} {L : List Acc} {a : UInt8} (h : σ.objs[m]? = some (aC fr L)) (hl : L.length ≤ 1000000) :
  aE Tryz.prog 35 [.ptr m 0, .v (.int .u8 a.toNat)] σ (fun av σ' => ∃ z : Int, Nn L a z ∧ av = .v (.int .i64 z) ∧ σ = σ') := by
 have hml := cZ h
 simp only [aC, aX] at h
 have hge : ∀ h2 : m < σ.objs.length, σ.objs[m]'h2 = _ := fun h2 => (List.getElem?_eq_some_iff.1 h).2
 have hLc := rR L
 have F := And.intro h (And.intro hge (And.intro hml (And.intro hLc (True.intro))))
 refine aB Tryz.func35 rfl rfl rfl ?_; refine sr fun _ hJ2 => ?_; apply hJ2; refine sq fun K3 hK3 => ?_; refine sr fun _ hJ5 => ?_; apply hJ5; refine aD ?_; refine cK (X := Nat) [0, 1] (fun i ρ σ1 => (i ≤ L.length) ∧ (∀ j (hj : j < L.length), j < i → L[j].a ≠ a) ∧ (ρ 5 = .v (.int .i64 i)) ∧ (σ1 = σ)) (fun i => L.length - i) (0) ?st1 ?rd1
 case st1 =>
  refine ⟨lp, ?_, lp, lp⟩
  · intro j hj q
    omega
 case rd1 =>
  rintro i ρ1 σ1 hF1 ⟨h1, h2, h5, hσ⟩; obtain rfl := hσ.symm
  have f1 := dU hF1
  (try simp [dT, F] at f1); replace F := aF h5 F; (try replace F := aF f1 F); refine sq fun K6 hK6 => ?_; refine sr fun _ hJ8 => ?_; apply hJ8; refine cs (fun c12 => ?_) (fun c12 => ?_)
  · all_goals
     replace F := aF c12 F
     have hlt : i < L.length := by have h := c12; simp at h; omega
     obtain ⟨R, hR⟩ := uA hlt
     obtain ⟨b, hb⟩ : ∃ b, b = L[i] := ⟨_, rfl⟩
     rw [← hb] at hR
     have f0 : ∀ h2 : i * 17 < (iQ L).length, (iQ L)[i * 17]'h2 = .v (.int .u8 (b.a.toNat : Nat)) := fun h2 => by have := oN (l := iQ L) (i := i * 17) (j := 0) (x := .v (.int .u8 (b.a.toNat : Nat))) (by rw [hR]; rfl); exact this h2
     have d0 : i * 17 < L.length * 17 := by omega
     have hi1 : i + 1 ≤ L.length := hlt
     have hwi : IntKind.i64.wrap ((i : Int) + 1) = (i : Int) + 1 := wrap_i64 _ (by omega) (by omega)
     replace F := aF hlt (And.intro f0 (And.intro d0 (And.intro hi1 (And.intro hwi F)))); refine aA ?_; apply hK6; refine sq fun K9 hK9 => ?_; refine aD ?_; refine sr fun _ hJ11 => ?_; apply hJ11; refine cs (fun c24 => ?_) (fun c24 => ?_)
     · all_goals
        replace F := aF c24 F
        have e : b.a = a := by have h := c24; simp at h; exact UInt8.toNat_inj.1 (by omega)
        refine sr fun _ hJ13 => ?_; apply hJ13; refine ra ?_; exact ⟨(i : Int), .inr ⟨i, hlt, rfl, H7 hlt h2 (by rw [← hb]; exact e)⟩, rfl, rfl⟩
     all_goals
      replace F := aF c24 F; refine aA ?_; apply hK9; refine rg' (h := fun J14 hJ14 => ?_); apply hJ14; refine ⟨(i + 1), ⟨kp, lp, ?_, lp, lp⟩, lp⟩
      · intro j hj q
        by_cases e : j = i
        · subst e; rw [← hb]; intro e3; have h := c24; simp [e3] at h
        · exact h2 j hj (by omega)
  all_goals
   replace F := aF c12 F
   have hie : i = L.length := by have h := c12; simp at h; omega
   refine bJ ?_; apply hK3; refine sr fun _ hJ16 => ?_; apply hJ16; refine ra ?_; exact ⟨-1, .inl ⟨rfl, FN (fun j hj => h2 j hj (by omega))⟩, rfl, rfl⟩
def aGo (v : Acc) : List Acc → Bool → List Acc → List Acc
 | [], b, out => if b then out else out ++ [v]
 | x :: l, b, out => if b = false ∧ v.a.toNat < x.a.toNat then aGo v l true (out ++ [v] ++ [x]) else aGo v l b (out ++ [x])
theorem Cj {v : Acc} : ∀ {l out : List Acc}, aGo v l true out = out ++ l
 | [], out => by simp [aGo]
 | x :: l, out => by rw [aGo, if_neg (by simp), Cj]; simp
theorem EK {v : Acc} : ∀ {l out : List Acc}, (∀ x ∈ l, x.a ≠ v.a) → aGo v l false out = out ++ rE v l
 | [], out, _ => by simp [aGo, rE]
 | x :: l, out, h => by
   rw [aGo, rE, if_neg (h x (by simp))]
   by_cases e : v.a.toNat < x.a.toNat
   · rw [if_pos ⟨rfl, e⟩, if_pos e, Cj]; simp
   · rw [if_neg (fun q => e q.2), if_neg e, EK (fun y hy => h y (by simp [hy]))]; simp
theorem Gp {σ : St} {m : Nat} {L : List Acc} (h : σ.objs[m]? = some (aC fr L)) : ∀ l, { σ with objs := σ.objs ++ l } = { σ with objs := σ.objs.set m (aC fr L) ++ l, toks := σ.toks ++ [], rows := σ.rows ++ [] } := fun l => by rw [iE h]; simp
structure GA where
 i : Nat
 O : List Acc
 b : Bool
attribute [local simp] xH nL xJ xF BD uJ vZ in
theorem F8 {σ : St} {m : Nat} {L : List Acc} {v : Acc} (h : σ.objs[m]? = some (aC fr L)) (hl : L.length ≤ 1000) (hv : v.Ok) :
  aE Tryz.prog 15 [.ptr m 0, .agg (hH v)] σ (fun av σ' => av = .v (.int .i64 ((oW L v).e : Nat)) ∧ σ' = y8 fr σ m (oW L v).L) := by
 have hw := cZ h
 obtain ⟨⟨PW, PE⟩, hP0⟩ : ∃ P, P = oW L v := ⟨_, rfl⟩
 rw [← hP0]
 simp only
 have hr1 := fun l => wN (σ := { σ with objs := σ.objs ++ l }) hv
 have hoX : ∀ l, (σ.objs ++ l)[m]? = some (aC fr L) := fun l => by rw [List.getElem?_append_left hw]; exact h
 have hfi := fun l => s6 (σ := { σ with objs := σ.objs ++ l }) (a := v.a) (hoX l) (by omega)
 obtain ⟨Q, hQ⟩ : ∃ Q, Q = hH v := ⟨_, rfl⟩
 have hQl : Q.length = 17 := by rw [hQ]; rfl
 have hQt : List.take 17 Q = Q := by subst hQ; rfl
 have hQ0 : ∀ h2 : 0 < Q.length, Q[0]'h2 = .v (.int .u8 (v.a.toNat : Nat)) := fun h2 => by subst hQ; rfl
 have hQc : (∀ x, x ∈ Q → x.bL = true) = True := eq_true (by rw [hQ]; exact Hr v)
 simp only [AV.bL] at hQc
 have hQo : ∀ nb, bM nb Q = true := fun nb => by rw [hQ]; exact mZ nb v
 refine Mz hw rfl ?_
 have ho3 : ∀ x l, (σ.objs ++ l).set m x = σ.objs.set m x ++ l := fun x l => List.set_append_left _ _ hw
 have hb0 := Gp h
 have hge : ∀ h2 : m < σ.objs.length, σ.objs[m]'h2 = _ := fun h2 => (List.getElem?_eq_some_iff.1 h).2
 have hw1 : m < σ.objs.length + 1 := by omega
 simp only [aC, aX] at h hoX hge
 have hDc := rR L
 have hap : ∀ (O : List Acc) (x : Acc) objs, O.length ≤ 1000000 → dG Tryz.prog 43 (lsA σ.toks.length 17 (iQ O) O.length) (.sl 17 (hH x) 1 .full) ⟨objs, σ.toks ++ lsT O.length, σ.gl, σ.rows⟩ = some (lsA σ.toks.length 17 (iQ (O ++ [x])) (O.length + 1), ⟨objs, σ.toks ++ lsT (O.length + 1), σ.gl, σ.rows⟩) := fun O x objs hO => by
  rw [Gf, show iQ [x] = hH x by simp [iQ]]
  exact r5 elemT_43 ti_32 (by decide) rfl (fun h => by rw [List.eq_nil_of_length_eq_zero h]; rfl) rfl (by omega) (by simp only [gH]; omega) (by simp only [maxLen]; omega)
 simp only [← hQ] at hr1
 rw [← hQ]
 have F := And.intro hQl (And.intro hQt (And.intro hQ0 (And.intro hQc (And.intro hQo (And.intro hoX (And.intro h (And.intro ho3 (And.intro hge (And.intro hw (And.intro hw1 (And.intro hDc (True.intro))))))))))))
 refine aB Tryz.func15 rfl rfl rfl ?_; refine sr fun _ hJ2 => ?_; apply hJ2; refine sq fun K3 hK3 => ?_; refine sr fun _ hJ5 => ?_; refine ca (c := hr1 _) (k := ?_); rintro _ _ ⟨rfl, rfl⟩; (try simp [F]); apply hJ5; refine cs (fun c10 => ?_) (fun c10 => ?_)
 · all_goals
    replace F := aF c10 F
    have hR : ¬ gR v := by have h := c10; simpa using h
    obtain ⟨rfl, rfl⟩ : PW = L ∧ PE = 1 := by rw [oW, if_pos hR] at hP0; simpa using hP0
    refine sr fun _ hJ7 => ?_; apply hJ7; refine ra ?_
    refine ⟨by simp [F], [], _, _, [], Wk.refl _, by rw [hb0]; rfl⟩
 all_goals
  replace F := aF c10 F
  have hR : gR v := by have h := c10; simpa using h
  refine aA ?_; apply hK3; refine sq fun K8 hK8 => ?_; refine sr fun _ hJ10 => ?_; refine ca (c := hfi _) (k := ?_); rintro _ _ ⟨z, hz, rfl, rfl⟩; (try simp [F]); apply hJ10; refine cs (fun c15 => ?_) (fun c15 => ?_)
  · all_goals
     replace F := aF c15 F
     have hh : uE L v.a = true := by
      rcases hz with ⟨e, _⟩ | ⟨i, _, _, e⟩
      · have h := c15; rw [e] at h; simp at h
      · rw [uE, e]; rfl
     obtain ⟨rfl, rfl⟩ : PW = L ∧ PE = 9 := by rw [oW, if_neg (not_not_intro hR), if_pos hh] at hP0; simpa using hP0
     refine sr fun _ hJ12 => ?_; apply hJ12; refine ra ?_
     refine ⟨by simp [F], [], _, _, [], Wk.refl _, by rw [hb0]; rfl⟩
  all_goals
   replace F := aF c15 F
   have hn : j8 L v.a = none := by
    rcases hz with ⟨_, e⟩ | ⟨i, _, e, _⟩
    · exact e
    · have h := c15; rw [e] at h; simp at h <;> omega
   obtain ⟨T, hT⟩ : ∃ T, T = rE v L := ⟨_, rfl⟩
   have hgo : aGo v L false [] = T := by rw [EK (pT.1 hn), hT]; rfl
   obtain ⟨rfl, rfl⟩ : PW = T ∧ PE = 0 := by rw [oW, if_neg (not_not_intro hR), if_neg (by rw [uE, hn]; simp), ← hT] at hP0; simpa using hP0
   refine aA ?_; apply hK8; refine sr fun _ hJ14 => ?_; apply hJ14; refine sr fun _ hJ16 => ?_; apply hJ16; refine sq fun K17 hK17 => ?_; refine sr fun _ hJ19 => ?_; apply hJ19; refine aD ?_; refine cK (X := GA) [0, 3, 4] (fun x ρ σ1 => (x.i ≤ L.length) ∧ (aGo v (L.drop x.i) x.b x.O = PW) ∧ (x.O.length ≤ 2 * x.i) ∧ (ρ 5 = lsA σ.toks.length 17 (iQ x.O) x.O.length) ∧ (ρ 6 = .v (.bool x.b)) ∧ (ρ 7 = .v (.int .i64 x.i)) ∧ (σ1 = { σ with objs := σ.objs ++ [Q], toks := σ.toks ++ lsT x.O.length })) (fun x => L.length - x.i) (⟨0, [], false⟩) ?st1 ?rd1
   case st1 =>
    refine ⟨lp, ?_, lp, lp, lp, lp, ?_⟩
    · exact hgo
    · simp [nL, F]
   case rd1 =>
    rintro x ρ1 σ1 hF1 ⟨h1, h2, h3, h4, h5, h6, hσ⟩; obtain rfl := hσ.symm
    have f1 := dU hF1
    (try simp [dT, F] at f1); replace F := aF h4 F; replace F := aF h5 F; replace F := aF h6 F; (try replace F := aF f1 F); refine sq fun K20 hK20 => ?_; refine sr fun _ hJ22 => ?_; apply hJ22; refine cs (fun c22 => ?_) (fun c22 => ?_)
    · all_goals
       replace F := aF c22 F
       have hlt : x.i < L.length := by have h := c22; simp at h; omega
       obtain ⟨R, hR9⟩ := uA (l := L) (i := x.i) hlt
       obtain ⟨y, hy⟩ : ∃ y, y = L[x.i] := ⟨_, rfl⟩
       rw [← hy] at hR9
       have hR3 : List.take 17 (List.drop (x.i * 17) (iQ L)) = hH y := by rw [hR9]; rfl
       have f0 : ∀ h2 : x.i * 17 < (iQ L).length, (iQ L)[x.i * 17]'h2 = .v (.int .u8 (y.a.toNat : Nat)) := fun h2 => by have := oN (l := iQ L) (i := x.i * 17) (j := 0) (x := .v (.int .u8 (y.a.toNat : Nat))) (by rw [hR9]; rfl); exact this h2
       have d0 : x.i * 17 < L.length * 17 := by omega
       have d3 : x.i * 17 + 17 ≤ L.length * 17 := by omega
       have hi1 : x.i + 1 ≤ L.length := hlt
       have hwi : IntKind.i64.wrap ((x.i : Int) + 1) = (x.i : Int) + 1 := wrap_i64 _ (by omega) (by omega)
       have hdr : L.drop x.i = y :: L.drop (x.i + 1) := by rw [hy]; exact List.drop_eq_getElem_cons hlt
       rw [hdr, aGo] at h2
       have p1 := fun objs => hap x.O y objs (by omega)
       have p2 := fun objs => hap x.O v objs (by omega)
       have p3 := fun objs => hap (x.O ++ [v]) y objs (by simp; omega)
       simp only [List.length_append, List.length_cons, List.length_nil, Nat.zero_add] at p3
       have hyc : (∀ x, x ∈ hH y → x.bL = true) = True := eq_true (Hr y)
       have hyl : (hH y).length = 17 := rfl
       have hyt : List.take 17 (hH y) = hH y := rfl
       have hyo : ∀ nb, bM nb (hH y) = true := fun nb => mZ nb y
       obtain ⟨Y, hY⟩ : ∃ Y, Y = hH y := ⟨_, rfl⟩
       rw [← hY] at hyc hyl hR3 hyt
       simp only [← hY] at hyo p1 p3
       simp only [AV.bL] at hyc
       simp only [← hQ] at p2
       replace F := aF hwi F; replace F := aF hlt (And.intro hR3 (And.intro f0 (And.intro d0 (And.intro d3 (And.intro hi1 (And.intro hyc (And.intro hyl (And.intro hyt (And.intro hyo (And.intro p1 (And.intro p2 (And.intro p3 F)))))))))))); refine aA ?_; apply hK20; refine sq fun K23 hK23 => ?_; refine aD ?_; refine sq fun K24 hK24 => ?_; refine sq fun K25 hK25 => ?_
       refine bI (by kernel_rfl) fun J26 hJ26 => ?_
       refine q2 0 ?_; refine q2 1 ?_; refine q2 2 ?_; refine gd 27 (fun g10_2 => ?_) (fun g10_2 => ?_)
       · all_goals
          replace F := aF g10_2 F
          have hb : x.b = false := by simpa using g10_2
          refine q2 3 ?_; refine q2 4 ?_; refine q2 5 ?_; refine q2 6 ?_; refine q2 7 ?_; refine q2 8 ?_; refine q2 9 ?_; refine q2 10 ?_; refine q2 11 ?_; refine q2 12 ?_; refine q2 13 ?_; refine q2 14 ?_; refine dd ?_; apply hJ26; apply hK25; refine cs (fun c39 => ?_) (fun c39 => ?_)
          · all_goals
             replace F := aF c39 F
             have hla : v.a.toNat < y.a.toNat := by have h := c39; simp at h; omega
             rw [if_pos ⟨hb, hla⟩] at h2
             refine sr fun _ hJ28 => ?_; apply hJ28; refine rg' (h := fun J29 hJ29 => ?_); apply hJ29; apply hK24; refine rg' (h := fun J30 hJ30 => ?_); apply hJ30; apply hK23; refine rg' (h := fun J31 hJ31 => ?_); apply hJ31; refine ⟨(⟨x.i + 1, x.O ++ [v] ++ [y], true⟩), ⟨kp, lp, ?_, ?_, lp, lp, lp, lp⟩, lp⟩
             · exact h2
             · simp
               omega
          all_goals
           replace F := aF c39 F; (try (have hla : ¬ v.a.toNat < y.a.toNat := by { have h := c39; simp at h; omega }; rw [if_neg (fun q => hla q.2)] at h2)); refine aA ?_; apply hK24; refine rg' (h := fun J32 hJ32 => ?_); apply hJ32; apply hK23; refine rg' (h := fun J33 hJ33 => ?_); apply hJ33; refine ⟨(⟨x.i + 1, x.O ++ [y], x.b⟩), ⟨kp, lp, ?_, ?_, lp, lp, lp, lp⟩, lp⟩
           · exact h2
           · simp
             omega
       all_goals
        replace F := aF g10_2 F
        have hb : x.b = true := by simpa using g10_2
        rw [if_neg (by rw [hb]; simp)] at h2
        refine q2 3 ?_; refine q2 4 ?_; refine q2 5 ?_; refine q2 6 ?_; refine q2 7 ?_; refine q2 8 ?_; refine q2 9 ?_; refine q2 10 ?_; refine q2 11 ?_; refine q2 12 ?_; refine q2 13 ?_; refine q2 14 ?_; refine dd ?_; apply hJ26; apply hK25; refine cf ?_; refine aA ?_; apply hK24; refine rg' (h := fun J34 hJ34 => ?_); apply hJ34; apply hK23; refine rg' (h := fun J35 hJ35 => ?_); apply hJ35; refine ⟨(⟨x.i + 1, x.O ++ [y], x.b⟩), ⟨kp, lp, ?_, ?_, lp, lp, lp, lp⟩, lp⟩
        · exact h2
        · simp
          omega
    all_goals
     replace F := aF c22 F
     have hde : L.drop x.i = [] := List.drop_of_length_le (by have h := c22; simp at h; omega)
     rw [hde, aGo] at h2
     have p2 := fun objs => hap x.O v objs (by omega)
     simp only [← hQ] at p2
     replace F := aF p2 F; refine bJ ?_; apply hK17; refine sq fun K36 hK36 => ?_; refine sr fun _ hJ38 => ?_; apply hJ38; refine cs (fun c55 => ?_) (fun c55 => ?_)
     · all_goals
        replace F := aF c55 F
        have hb : x.b = false := by simpa using c55
        rw [hb, if_neg (by simp)] at h2
        refine rg' (h := fun J39 hJ39 => ?_); apply hJ39; apply hK36; refine sr fun _ hJ41 => ?_; apply hJ41; refine sr fun _ hJ43 => ?_; apply hJ43; refine ra ?_
        refine ⟨by simp [F], lsT (x.O.length + 1), lsA σ.toks.length 17 (iQ (x.O ++ [v])) (x.O.length + 1), [Q], [], by rw [← h2]; simpa using sT (k := σ.toks.length) (sz := 17) (n := x.O.length + 1) (cs := iQ (x.O ++ [v])) (fun h => by simp at h), by simp [aX]⟩
     all_goals
      replace F := aF c55 F
      have hb : x.b = true := by simpa using c55
      rw [hb, if_pos rfl] at h2
      refine aA ?_; apply hK36; refine sr fun _ hJ45 => ?_; apply hJ45; refine sr fun _ hJ47 => ?_; apply hJ47; refine ra ?_
      refine ⟨by simp [F], lsT x.O.length, lsA σ.toks.length 17 (iQ x.O) x.O.length, [Q], [], by rw [← h2]; exact sT (k := σ.toks.length) (sz := 17) (n := x.O.length) (cs := iQ x.O) (fun h => by rw [List.eq_nil_of_length_eq_zero h]; rfl), by simp [aX]⟩
end Go.Proofs.YtjpnjhlfieklfaaGreat
namespace Go.Proofs.YtjpnjhlfieklfaaGreat
set_option maxHeartbeats 1600000
open Go Go.Vm
attribute [local simp] dM aI dJ opA bH bN cM bP ofValue dC plain aQ aR cA b8 cC cB bY b7 b9 bZ cV bW cG cD b6 bU aT aS bO cU aW dQ dR bK aZ cL gA bS dE cF AV.cells AV.bL dF cO eZ bF aV cQ dI dS dV cN aN dP dO cW cT cI List.getElem?_cons_zero List.getElem?_cons_succ fK fL fH fG fJ fM fI fF dL eQ eB fB dA
variable {Ru : UInt8 → List Pr}
variable {fr : Fr}
theorem Jw {σ : St} {l : List bD} {a b : UInt8} (hl : l.length ≤ 9223372036854775807) :
  aE Tryz.prog 41 [.sl 5 (aL l) l.length .shut, .v (.int .u8 a.toNat), .v (.int .u8 b.toNat)] σ (fun av σ' => av = .v (.bool (decide (bA l) && isB a && isB b)) ∧ σ = σ') := by
 have hr := rO (σ := σ) (tl := .shut) hl
 have ha := Iy (σ := σ) (a := a)
 have hb := Iy (σ := σ) (a := b)
 obtain ⟨R, hR⟩ : ∃ R, R = decide (bA l) := ⟨_, rfl⟩
 obtain ⟨A, hA⟩ : ∃ A, A = isB a := ⟨_, rfl⟩
 obtain ⟨B, hB⟩ : ∃ B, B = isB b := ⟨_, rfl⟩
 rw [← hR] at hr; rw [← hA] at ha; rw [← hB] at hb
 rw [← hR, ← hA, ← hB]
 have F := True.intro
 refine aB Tryz.func41 rfl rfl rfl ?_; refine sr fun _ hJ2 => ?_; apply hJ2; refine sr fun _ hJ4 => ?_; refine ca (c := hr) (k := ?_); rintro _ _ ⟨rfl, rfl⟩; (try simp [F]); refine gs 9 (fun g1_2 => ?_) (fun g1_2 => ?_)
 · all_goals
    replace F := aF g1_2 F; refine go2 (k := ?_); refine ca (c := ha) (k := ?_); rintro _ _ ⟨rfl, rfl⟩; (try simp [F]); refine gs 13 (fun g1_6 => ?_) (fun g1_6 => ?_)
    · all_goals
       replace F := aF g1_6 F; refine go2 (k := ?_); refine ca (c := hb) (k := ?_); rintro _ _ ⟨rfl, rfl⟩; (try simp [F]); apply hJ4; refine ra ?_; exact rt
    all_goals
     replace F := aF g1_6 F; (iterate 2 refine no2 (k := ?_)); apply hJ4; refine ra ?_; exact rt
 all_goals
  replace F := aF g1_2 F; (iterate 4 refine no2 (k := ?_)); apply hJ4; refine ra ?_; exact rt
theorem FG {T : Tb} {o : Option UInt8} {L : List bD} (hr : ∀ o, bA (T o)) (hL : bA L) : ∀ o', bA (upd T o L o') := fun o' => by
 by_cases e : o' = o
 · subst e; rw [lZ]; exact hL
 · rw [rF _ _ e]; exact hr o'
theorem GO {a b : List bD} (h : ∀ d, d < 8 → amt a d + amt b d < 2 ^ 256) : iN a b = lY a b ∧ iD a b = 0 := by
 have h0 := jJ.2 h
 exact ⟨rV h0, h0⟩
theorem Hw {σ : St} {m : Nat} {T : Tb} {b : UInt8} {l : List bD} (h : σ.objs[m]? = some (bC fr T)) (hr : ∀ o, bA (T o)) (hs : BW T) (hl : l.length ≤ 9223372036854775807) :
  aE Tryz.prog 18 [.ptr m 0, .v (.int .u8 b.toNat), .sl 5 (aL l) l.length .shut] σ (fun av σ' => av = .v (.int .i64 ((nE T b l).e : Nat)) ∧ σ' = kX fr σ m (nE T b l).T) := by
 have hw := cZ h
 obtain ⟨⟨PT, PE⟩, hP⟩ : ∃ P, P = nE T b l := ⟨_, rfl⟩
 rw [← hP]
 simp only
 have hmy := Jw (σ := σ) (a := b) (b := b) hl
 have hself := DC h
 have ha1 := fun hR => qW (σ := σ) (a := T none) (b := l) (ta := .shut) (tb := .shut) (hr _) hR
 have hroom := fun hw => Ag (T := T) (b := b) (l := l) hs hw
 obtain ⟨T1, hT1⟩ : ∃ T1, T1 = upd T none (iN (T none) l) := ⟨_, rfl⟩
 have hT1b : T1 (some b) = T (some b) := by rw [hT1]; exact rF _ _ (by simp)
 have hPT : isB b = true ∧ bA l → iD (T none) l = 0 → PT = upd T1 (some b) (iN (T1 (some b)) l) := fun q1 q2 => by
  have := congrArg BR.T hP
  simp only at this
  rw [this, nE, if_neg (not_not_intro q1), if_neg (not_not_intro q2), hT1b, (GO (hroom q2)).1, hT1, rV q2]; rfl
 have hPn : (¬ (isB b = true ∧ bA l) → PT = T ∧ PE = 1) := fun q => by
  rw [nE, if_pos q] at hP; simpa using hP
 have hPm : isB b = true ∧ bA l → ¬ iD (T none) l = 0 → PT = T ∧ PE = 2 := fun q1 q2 => by
  rw [nE, if_neg (not_not_intro q1), if_pos q2] at hP; simpa using hP
 have hP0 : isB b = true ∧ bA l → iD (T none) l = 0 → PE = 0 := fun q1 q2 => by
  rw [nE, if_neg (not_not_intro q1), if_neg (not_not_intro q2)] at hP; simp at hP; exact hP.2
 clear hP
 have hX1 : σ.objs.set m (bX fr (.sl 5 (aL (iN (T none) l)) (iN (T none) l).length .shut) (.sl 2 (jA (mB T)) (mB T).length .shut)) = σ.objs.set m (bC fr T1) := by
  rw [hT1, bC, lZ, Gy]
 have h1 := GY (fr := fr) (σ := σ) (m := m) T1 hw
 have hc1 := Az (a := b) h1
 have hrt : ∀ o, bA (T1 o) := by rw [hT1]; exact FG hr (j3 _ _)
 have had := fun hR => qW (σ := kX fr σ m T1) (a := T1 (some b)) (b := l) (ta := .shut) (tb := .shut) (hrt _) hR
 have hcl : (iN (T1 (some b)) l).length ≤ 9223372036854775807 := by have := dZ (j3 (T1 (some b)) l); omega
 have hp2 := JQ (a := b) (l := iN (T1 (some b)) l) h1 hcl
 rw [Fy] at hp2
 obtain ⟨S, hS⟩ : ∃ S, S = iN (T1 (some b)) l := ⟨_, rfl⟩
 obtain ⟨A1, hA1⟩ : ∃ A1, A1 = iN (T none) l := ⟨_, rfl⟩
 obtain ⟨Y, hY⟩ : ∃ Y, Y = AV.sl 2 (jA (mB T)) (mB T).length .shut := ⟨_, rfl⟩
 simp only [← hS] at had hp2 hPT
 simp only [← hA1, ← hY] at ha1 hX1
 have hg := h
 simp only [bC, bX, ← hY] at hg
 simp only [bX] at hX1
 have hge : ∀ h2 : m < σ.objs.length, σ.objs[m]'h2 = _ := fun h2 => (List.getElem?_eq_some_iff.1 hg).2
 have hst : ∀ X, X = σ.objs.set m (bC fr T1) → ({ σ with objs := X } : St) = kX fr σ m T1 := fun X e => by rw [e, kX]
 clear hT1
 have F := And.intro hg (And.intro hge (And.intro hw (True.intro)))
 refine aB Tryz.func18 rfl rfl rfl ?_; refine sr fun _ hJ2 => ?_; apply hJ2; refine sq fun K3 hK3 => ?_; refine sr fun _ hJ5 => ?_; refine ca (c := hmy) (k := ?_); rintro _ _ ⟨rfl, rfl⟩; (try simp [F]); apply hJ5; refine cs (fun c15 => ?_) (fun c15 => ?_)
 · all_goals
    replace F := aF c15 F
    have hR : ¬ (isB b = true ∧ bA l) := by have h := c15; simp at h; intro q; simp [q.1, q.2] at h
    obtain ⟨rfl, rfl⟩ := hPn hR
    refine sr fun _ hJ7 => ?_; apply hJ7; refine ra ?_; exact ⟨rfl, hself.symm⟩
 all_goals
  replace F := aF c15 F
  have hR : isB b = true ∧ bA l := by have h := c15; simp at h; exact ⟨h.2, h.1⟩
  refine aA ?_; apply hK3; refine sr fun _ hJ9 => ?_; refine ca (c := ha1 hR.2) (k := ?_); rintro _ _ ⟨rfl, rfl⟩; (try simp [F]); apply hJ9; refine sq fun K10 hK10 => ?_; refine sr fun _ hJ12 => ?_; apply hJ12; refine cs (fun c26 => ?_) (fun c26 => ?_)
  · all_goals
     replace F := aF c26 F
     have hw9 : ¬ iD (T none) l = 0 := by have h := c26; simpa using h
     obtain ⟨rfl, rfl⟩ := hPm hR hw9
     refine sr fun _ hJ14 => ?_; apply hJ14; refine ra ?_; exact ⟨rfl, hself.symm⟩
  all_goals
   replace F := aF c26 F
   have hw9 : iD (T none) l = 0 := by have h := c26; simpa using h
   obtain rfl := hP0 hR hw9
   have hPT2 := hPT hR hw9
   refine aA ?_; apply hK10; refine sr fun _ hJ16 => ?_; apply hJ16; refine sq fun K17 hK17 => ?_
   rw [hst _ hX1]
   refine rg' (h := fun J18 hJ18 => ?_); refine ca (c := hc1) (k := ?_); rintro _ _ ⟨rfl, rfl⟩; (try simp [F]); refine ca (c := had hR.2) (k := ?_); rintro _ _ ⟨rfl, rfl⟩; (try simp [F]); apply hJ18; apply hK17; refine sr fun _ hJ20 => ?_; refine ca (c := hp2) (k := ?_); rintro _ _ ⟨rfl, rfl⟩; (try simp [F]); apply hJ20; refine sr fun _ hJ22 => ?_; apply hJ22; refine ra ?_; exact ⟨rfl, by rw [hPT2]⟩
end Go.Proofs.YtjpnjhlfieklfaaGreat
namespace Go.Proofs.YtjpnjhlfieklfaaGreat
set_option maxHeartbeats 1600000
open Go Go.Vm
attribute [local simp] dM aI dJ opA bH bN cM bP ofValue dC plain aQ aR cA b8 cC cB bY b7 b9 bZ cV bW cG cD b6 bU aT aS bO cU aW dQ dR bK aZ cL gA bS dE cF AV.cells AV.bL dF cO eZ bF aV cQ dI dS dV cN aN dP dO cW cT cI List.getElem?_cons_zero List.getElem?_cons_succ fK fL fH fG fJ fM fI fF dL eQ eB fB dA
variable {fr fb : Fr}
theorem sQ {σ : St} {x y z : Nat} (hx : x < 2 ^ 256) (hy : y < 2 ^ 256) (hz : z < 2 ^ 256) :
  aE Tryz.prog 52 [.agg (aM x), .agg (aM y), .agg (aM z)] σ (fun av σ' => av = .agg (aM (spN x y z)) ∧ σ = σ') := by
 refine aU ?_ (by simp [AV.under, bB, aM])
 have h0 := fun τ => Bv (σ := τ) hy hz
 have h1 := fun τ => yW (σ := τ) hy hz
 have h2 := fun τ => yW (σ := τ) hx (show y - z < 2 ^ 256 by omega)
 simp only [spN]
 obtain ⟨R, hR⟩ : ∃ R, R = x - (y - z) := ⟨_, rfl⟩
 simp only [← hR] at h2 ⊢
 have F := True.intro
 refine aB Tryz.func52 rfl rfl rfl ?_; refine sr fun _ hJ2 => ?_; apply hJ2; refine sq fun K3 hK3 => ?_; refine sr fun _ hJ5 => ?_; refine ca (c := h0 _) (k := ?_); rintro _ _ ⟨rfl, rfl⟩; (try simp [F]); apply hJ5; refine cs (fun c10 => ?_) (fun c10 => ?_)
 · all_goals
    replace F := aF c10 F
    have hle : y ≤ z := by
     have h := c10; unfold nG at h
     by_cases h1 : y < z
     · omega
     · rw [if_neg h1] at h; by_cases h2 : z < y
       · rw [if_pos h2] at h; simp at h
       · omega
    have e : R = x := by rw [hR]; omega
    replace F := aF e F; refine sr fun _ hJ7 => ?_; apply hJ7; refine bQ ?_; (try simp only [eD, bG, bV]); refine j1 (h := ?_); exact gcr
 all_goals
  replace F := aF c10 F; refine aA ?_; apply hK3; refine sq fun K8 hK8 => ?_
  refine bI (by kernel_rfl) fun J9 hJ9 => ?_
  refine q2 0 ?_; refine q2 1 ?_; refine q2 2 ?_; refine dc 3 rfl (c := h1 _) (k := ?_); rintro _ _ ⟨rfl, rfl⟩
  refine ⟨by first | exact fun _ _ h => h | (refine aH [0] (by kernel_rfl) ?_; (repeat' first | exact ln2 | refine lc ?_ ?_) <;> constructor <;> first | rfl | (simp [F]; done)), ?_⟩
  (try simp [F]); refine dc 4 rfl (c := h2 _) (k := ?_); rintro _ _ ⟨rfl, rfl⟩; refine ⟨ln, ?_⟩; (try simp [F]); refine dop 5 rfl ?_; (try simp [F]); refine ⟨ln, ?_⟩; refine dd ?_; apply hJ9; apply hK8; refine bQ ?_; (try simp only [eD, bG, bV]); refine j1 (h := ?_); exact gcr
theorem CU (L : List Acc) (a : UInt8) (t : Nat) : bA (kN L a t) := by
 unfold kN; split
 · exact v9 _ _
 · exact Go.Vm.fC
theorem BU {σ : St} {m t : Nat} {L : List Acc} {a : UInt8} (h : σ.objs[m]? = some (aC fr L)) (hl : L.length ≤ 1000) (hg : ∀ x ∈ L, Good x.p ∧ x.Ok) (ht : t < 2 ^ 64) :
  aE Tryz.prog 51 [.ptr m 0, .v (.int .u8 a.toNat), .v (.int .u64 t)] σ (fun av σ' => av = .sl 5 (aL (kN L a t)) (kN L a t).length .shut ∧ σ = σ') := by
 refine aU ?_ (by simp [AV.under])
 have hfi := s6 (a := a) h (by omega)
 have hml := cZ h
 have hlk : ∀ x ∈ L, ∀ τ, aE Tryz.prog 81 [.agg (iK x.p), .v (.int .u64 t)] τ (fun av σ' => av = .sl 5 (aL (kA x.p.tot (eC x.p t))) (kA x.p.tot (eC x.p t)).length .shut ∧ τ = σ') := fun x hx τ => DP (hg x hx).2.2 (hg x hx).1.tot (fun y hy => ((hg x hx).1.ps y hy).2) ht
 simp only [aC, aX] at h
 have hge : ∀ h2 : m < σ.objs.length, σ.objs[m]'h2 = _ := fun h2 => (List.getElem?_eq_some_iff.1 h).2
 have hLc := rR L
 have F := And.intro h (And.intro hge (And.intro hml (And.intro hLc (True.intro))))
 refine aB Tryz.func51 rfl rfl rfl ?_; refine sr fun _ hJ2 => ?_; apply hJ2; refine sr fun _ hJ4 => ?_; refine ca (c := hfi) (k := ?_); rintro _ _ ⟨z, hz, rfl, rfl⟩; (try simp [F]); apply hJ4; refine sq fun K5 hK5 => ?_; refine sr fun _ hJ7 => ?_; apply hJ7; refine cs (fun c12 => ?_) (fun c12 => ?_)
 · all_goals
    replace F := aF c12 F
    have hn : j8 L a = none := by
     rcases hz with ⟨_, e⟩ | ⟨i, _, e, _⟩
     · exact e
     · have h := c12; rw [e] at h; simp at h <;> omega
    have hv : kN L a t = [] := by rw [kN, hn]
    replace F := aF hv F; refine sr fun _ hJ9 => ?_; apply hJ9; refine ra ?_
    rw [hv]
    exact gcr (hA := by simpa using Wk.nil _ _ _)
 all_goals
  replace F := aF c12 F
  obtain ⟨i, b1, rfl, hf⟩ : ∃ (i : Nat) (h : i < L.length), z = i ∧ j8 L a = some L[i] := by
   rcases hz with ⟨e, _⟩ | e
   · have h := c12; rw [e] at h; simp at h
   · exact e
  obtain ⟨R, hR⟩ := uA b1
  obtain ⟨x, hx⟩ : ∃ x, x = L[i] := ⟨_, rfl⟩
  rw [← hx] at hR hf
  have hv : kN L a t = kA x.p.tot (eC x.p t) := by rw [kN, hf]
  have hlx := hlk x (by rw [hx]; exact List.getElem_mem b1)
  have hpl : List.take 5 (List.drop (i * 17 + 3) (iQ L)) = iK x.p := by rw [← List.drop_drop, hR]; rfl
  have d3 : i * 17 + 3 + 5 ≤ L.length * 17 := by omega
  have d4 : i * 17 + 3 < L.length * 17 := by omega
  have d5 : i * 17 + 17 ≤ L.length * 17 := by omega
  replace F := aF b1 (And.intro hpl (And.intro d3 (And.intro d4 (And.intro d5 (And.intro hv F))))); refine aA ?_; apply hK5; refine sr fun _ hJ11 => ?_; refine ca (c := hlx _) (k := ?_); rintro _ _ ⟨rfl, rfl⟩; (try simp [F]); apply hJ11; refine ra ?_
  rw [hv]
  exact gcr
theorem Dv {σ : St} {m t : Nat} {L : List Acc} {T : Tb} {a : UInt8} (h : σ.objs[m]? = some (aC fr L)) (h2 : σ.objs[m]? = some (bC fb T)) (hl : L.length ≤ 1000) (hg : ∀ x ∈ L, Good x.p ∧ x.Ok) (hT : bA (T (some a))) (ht : t < 2 ^ 64) :
  aE Tryz.prog 21 [.ptr m 0, .v (.int .u8 a.toNat), .v (.int .u64 t)] σ (fun av σ' => av = .sl 5 (aL (m9 L a t (T (some a)))) (m9 L a t (T (some a))).length .shut ∧ σ = σ') := by
 refine aU ?_ (by simp [AV.under])
 have hml := cZ h
 have hoX : ∀ l, (σ.objs ++ l)[m]? = some (aC fr L) := fun l => by rw [List.getElem?_append_left hml]; exact h
 have hoY : ∀ l, (σ.objs ++ l)[m]? = some (bC fb T) := fun l => by rw [List.getElem?_append_left hml]; exact h2
 have hfi := fun l => s6 (σ := { σ with objs := σ.objs ++ l }) (a := a) (hoX l) (by omega)
 have hco := fun l => Az (σ := { σ with objs := σ.objs ++ l }) (a := a) (hoY l)
 have hlk := fun l => BU (σ := { σ with objs := σ.objs ++ l }) (a := a) (hoX l) hl hg ht
 have hPl := lQ
 have hPt := mA
 have hPd := mX
 have hPn : ∀ n g, bM n (iV (fD g)) = true := fun n g => lN n _
 have hPc := rQ
 simp only [AV.bL] at hPc
 obtain ⟨K, hK⟩ : ∃ K, K = kN L a t := ⟨_, rfl⟩
 have hKr : bA K := by rw [hK]; exact CU _ _ _
 obtain ⟨B, hB⟩ : ∃ B, B = T (some a) := ⟨_, rfl⟩
 obtain ⟨kq, hkq⟩ : ∃ kq, kq = nI L a := ⟨_, rfl⟩
 have hkl : kq < 2 ^ 256 := by rw [hkq]; unfold nI; split <;> first | exact Num.h _ | decide
 obtain ⟨S, hS⟩ : ∃ S, S = m9 L a t B := ⟨_, rfl⟩
 have hSe : S = fR (fun d => spG K kq d (amt B d)) 8 := by rw [hS, hK, hkq]; rfl
 simp only [← hB] at hco hT ⊢
 simp only [← hK] at hlk
 rw [← hS]
 obtain ⟨fa, hfa⟩ : ∃ fa, fa = amt B := ⟨_, rfl⟩
 obtain ⟨fk, hfk⟩ : ∃ fk, fk = amt K := ⟨_, rfl⟩
 have hla : ∀ d, fa d < 2 ^ 256 := fun d => by rw [hfa]; exact gD _ _
 have hlb : ∀ d, fk d < 2 ^ 256 := fun d => by rw [hfk]; exact gD _ _
 obtain ⟨g, hg9⟩ : ∃ g : Nat → Nat, g = fun d => spN (fa d) (fk d) (if d = 0 then kq else 0) := ⟨_, rfl⟩
 have hSg : S = fR g 8 := by rw [hSe]; exact iI (fun i _ => by rw [hg9, hfa, hfk]; rfl)
 have hgl : ∀ d, g d < 2 ^ 256 := fun d => by rw [hg9]; have := hla d; simp only [spN]; omega
 obtain ⟨fs, hfs⟩ : ∃ fs : Nat → Nat → Nat, fs = fun d j => if j < d then g j else 0 := ⟨_, rfl⟩
 have hfs0 : fs 0 = fun _ => 0 := by rw [hfs]; funext j; simp
 have hz4 : aM 0 = [.v (.int .u64 0), .v (.int .u64 0), .v (.int .u64 0), .v (.int .u64 0)] := by simp [aM, eN]
 have hoC : ∀ l, (σ.objs ++ l)[m]? = _ := hoX
 simp only [aC, aX] at hoC
 have hge : ∀ l (h2 : m < (σ.objs ++ l).length), (σ.objs ++ l)[m]'h2 = _ := fun l h2 => (List.getElem?_eq_some_iff.1 (hoC l)).2
 have hLc := rR L
 have hfi1 := fun l => hfi l
 have F := And.intro hPl (And.intro hPt (And.intro hPd (And.intro hPc (And.intro hPn (And.intro hml (And.intro hoC (And.intro hLc (And.intro hge (True.intro)))))))))
 refine aB Tryz.func21 rfl rfl rfl ?_; refine sr fun _ hJ2 => ?_; apply hJ2; refine sr fun _ hJ4 => ?_; apply hJ4; refine sr fun _ hJ6 => ?_; refine ca (c := hlk _) (k := ?_); rintro _ _ ⟨rfl, rfl⟩; (try simp [F]); refine ca (c := (hfk ▸ nM (tl := .shut) hKr)) (k := ?_); rintro _ _ ⟨rfl, rfl⟩; (try simp [F]); apply hJ6; refine sr fun _ hJ8 => ?_; refine ca (c := hco _) (k := ?_); rintro _ _ ⟨rfl, rfl⟩; (try simp [F]); refine ca (c := (hfa ▸ nM (tl := .shut) hT)) (k := ?_); rintro _ _ ⟨rfl, rfl⟩; (try simp [F]); apply hJ8; refine sr fun _ hJ10 => ?_; refine ca (c := hfi _) (k := ?_); rintro _ _ ⟨z, hz, rfl, rfl⟩; (try simp [F]); apply hJ10; refine sq fun K11 hK11 => ?_; refine sr fun _ hJ13 => ?_; apply hJ13; refine aD ?_; refine cK (X := Nat) [0, 6, 7, 8, 9, 10] (fun d ρ σ1 => (d ≤ 8) ∧ (ρ 11 = .v (.int .i64 d)) ∧ (σ1 = { σ with objs := σ.objs ++ [iV (fD (fs d)), iV (fD fk), iV (fD fa)] })) (fun d => 8 - d) (0) ?st1 ?rd1
 case st1 =>
  refine ⟨lp, lp, ?_⟩
  · rw [hfs0, rZ]
 case rd1 =>
  rintro d ρ1 σ1 hF1 ⟨hd, h8, hσ⟩; obtain rfl := hσ.symm
  have f1 := dU hF1
  (try simp [dT, F] at f1); replace F := aF h8 F; (try replace F := aF f1 F); refine sq fun K14 hK14 => ?_; refine sr fun _ hJ16 => ?_; apply hJ16; refine cs (fun c25 => ?_) (fun c25 => ?_)
  · all_goals
     replace F := aF c25 F; refine aA ?_; apply hK14; refine sq fun K17 hK17 => ?_; refine aD ?_; refine sq fun K18 hK18 => ?_
     have hd8 : d < 8 := by simp at c25; omega
     have hd5 : (d : Int) < 8 := by omega
     have hb2 : d * 4 + 4 ≤ 32 := by omega
     have hata := kR (P := fD fa) (d := d) (by simpa using hd8)
     rw [jZ hd8] at hata
     have hatb := kR (P := fD fk) (d := d) (by simpa using hd8)
     rw [jZ hd8] at hatb
     have hset := oM (P := fD (fs d)) (d := d) (by simpa using hd8) (g d)
     rw [oX] at hset
     have hnx : (fun j => if j = d then g d else fs d j) = fs (d + 1) := by
      rw [hfs]; funext j; simp only
      by_cases e1 : j = d
      · subst e1; simp
      · rw [if_neg e1]; by_cases e2 : j < d
        · rw [if_pos e2, if_pos (by omega)]
        · rw [if_neg e2, if_neg (by omega)]
     rw [hnx] at hset
     replace F := aF hata (And.intro hatb (And.intro hset (And.intro hd8 (And.intro hd5 (And.intro hb2 F))))); refine rg' (h := fun J19 hJ19 => ?_); refine gs 30 (fun g8_2 => ?_) (fun g8_2 => ?_)
     · all_goals
        replace F := aF g8_2 F
        have hd0 : d = 0 := by have h := g8_2; simp at h; omega
        have za := kR (P := fD fa) (d := 0) (by simp)
        rw [jZ (by omega), Nat.zero_mul, List.drop_zero] at za
        have za2 : List.take 4 (iV (fD fa)) = aM (fa 0) := by rw [za]; exact List.take_left' (by simp [aM])
        have zk := kR (P := fD fk) (d := 0) (by simp)
        rw [jZ (by omega), Nat.zero_mul, List.drop_zero] at zk
        have zk2 : List.take 4 (iV (fD fk)) = aM (fk 0) := by rw [zk]; exact List.take_left' (by simp [aM])
        have zs := hset
        rw [hd0] at zs
        simp only [Nat.zero_mul, List.take_zero, List.nil_append, Nat.zero_add] at zs
        replace F := aF za2 (And.intro zk2 (And.intro zs F)); (iterate 2 refine go2 (k := ?_)); apply hJ19; apply hK18; refine cs (fun c33 => ?_) (fun c33 => ?_)
        · all_goals
           replace F := aF c33 F
           obtain ⟨i, b1, rfl, hf⟩ : ∃ (i : Nat) (h : i < L.length), z = i ∧ j8 L a = some L[i] := by
            rcases hz with ⟨e, _⟩ | e
            · have h := c33; rw [e] at h; simp at h
            · exact e
           obtain ⟨R, hR⟩ := uA b1
           obtain ⟨x, hx⟩ : ∃ x, x = L[i] := ⟨_, rfl⟩
           rw [← hx] at hR hf
           have hkx : kq = x.k.v := by rw [hkq, nI, hf]
           have hpl : List.take 4 (List.drop (i * 17 + 9) (iQ L)) = aM kq := by rw [← List.drop_drop, hR, hkx]; rfl
           have d3 : i * 17 + 9 + 4 ≤ L.length * 17 := by omega
           have d4 : i * 17 + 9 < L.length * 17 := by omega
           have d5 : i * 17 + 17 ≤ L.length * 17 := by omega
           have hgd : spN (fa d) (fk d) kq = g d := by rw [hg9]; simp [hd0]
           have hsp := fun τ => sQ (σ := τ) (hla d) (hlb d) hkl
           simp only [hgd] at hsp
           replace F := aF b1 (And.intro hpl (And.intro d3 (And.intro d4 (And.intro d5 F))))
           refine bI (by kernel_rfl) fun J20 hJ20 => ?_
           refine q2 0 ?_; refine q2 1 ?_; refine q2 2 ?_; refine q2 3 ?_; refine q2 4 ?_; refine q2 5 ?_; refine q2 6 ?_; refine q2 7 ?_; refine q2 8 ?_; refine q2 9 ?_; refine q2 10 ?_; refine q2 11 ?_; refine q2 12 ?_; refine q2 13 ?_; refine q2 14 ?_; refine q2 15 ?_; refine dc 16 rfl (c := hsp _) (k := ?_); rintro _ _ ⟨rfl, rfl⟩
           refine ⟨by first | exact fun _ _ h => h | (refine aH [14, 13, 12, 11, 10, 9, 8, 7, 5, 4, 2, 1, 0] (by kernel_rfl) ?_; (repeat' first | exact ln2 | refine lc ?_ ?_) <;> constructor <;> first | rfl | (simp [F]; done)), ?_⟩
           (try simp [F]); refine q2 17 ?_; refine dop 18 rfl ?_; (try simp [F]); refine ⟨ln, ?_⟩; refine dd ?_; apply hJ20; apply hK17; refine rg' (h := fun J21 hJ21 => ?_); apply hJ21; refine ⟨(d + 1), ⟨kp, lp, lp, lp⟩, lp⟩
        all_goals
         replace F := aF c33 F
         have hk0 : (if d = 0 then kq else 0) = 0 := by
          by_cases hd0 : d = 0
          · rcases hz with ⟨_, e⟩ | ⟨i, _, e, _⟩
            · rw [if_pos hd0, hkq, nI, e]
            · exfalso; first | (have h := c33; rw [e] at h; simp at h <;> omega) | (have h := g8_2; simp [hd0] at h) | (have h := c33; simp [hd0, e] at h)
          · rw [if_neg hd0]
         have hgd : spN (fa d) (fk d) 0 = g d := by rw [hg9]; simp only [hk0]
         have hsp := fun τ => sQ (σ := τ) (hla d) (hlb d) (show 0 < 2 ^ 256 by decide)
         simp only [hgd, hz4] at hsp
         refine bI (by kernel_rfl) fun J22 hJ22 => ?_
         refine q2 0 ?_; refine q2 1 ?_; refine q2 2 ?_; refine q2 3 ?_; refine q2 4 ?_; refine q2 5 ?_; refine q2 6 ?_; refine q2 7 ?_; refine dc 8 rfl (c := hsp _) (k := ?_); rintro _ _ ⟨rfl, rfl⟩
         refine ⟨by first | exact fun _ _ h => h | (refine aH [5, 4, 2, 1, 0] (by kernel_rfl) ?_; (repeat' first | exact ln2 | refine lc ?_ ?_) <;> constructor <;> first | rfl | (simp [F]; done)), ?_⟩
         (try simp [F]); refine q2 9 ?_; refine dop 10 rfl ?_; (try simp [F]); refine ⟨ln, ?_⟩; refine dd ?_; apply hJ22; apply hK17; refine rg' (h := fun J23 hJ23 => ?_); apply hJ23; refine ⟨(d + 1), ⟨kp, lp, lp, lp⟩, lp⟩
     all_goals
      replace F := aF g8_2 F
      have hd0 : ¬ d = 0 := by have h := g8_2; simp at h; omega
      have hgd : spN (fa d) (fk d) 0 = g d := by rw [hg9]; simp [hd0]
      have hsp := fun τ => sQ (σ := τ) (hla d) (hlb d) (show 0 < 2 ^ 256 by decide)
      simp only [hgd, hz4] at hsp
      (iterate 2 refine no2 (k := ?_)); apply hJ19; apply hK18; refine cf ?_
      refine bI (by kernel_rfl) fun J24 hJ24 => ?_
      refine q2 0 ?_; refine q2 1 ?_; refine q2 2 ?_; refine q2 3 ?_; refine q2 4 ?_; refine q2 5 ?_; refine q2 6 ?_; refine q2 7 ?_; refine dc 8 rfl (c := hsp _) (k := ?_); rintro _ _ ⟨rfl, rfl⟩
      refine ⟨by first | exact fun _ _ h => h | (refine aH [5, 4, 2, 1, 0] (by kernel_rfl) ?_; (repeat' first | exact ln2 | refine lc ?_ ?_) <;> constructor <;> first | rfl | (simp [F]; done)), ?_⟩
      (try simp [F]); refine q2 9 ?_; refine dop 10 rfl ?_; (try simp [F]); refine ⟨ln, ?_⟩; refine dd ?_; apply hJ24; apply hK17; refine rg' (h := fun J25 hJ25 => ?_); apply hJ25; refine ⟨(d + 1), ⟨kp, lp, lp, lp⟩, lp⟩
  all_goals
   replace F := aF c25 F
   obtain rfl : d = 8 := by simp at c25; omega
   have hL : fR (fs 8) 8 = S := by rw [hSg, hfs]; exact iI (fun i hi => by simp [hi])
   have hf8 : ∀ d, d < 8 → fs 8 d < 2 ^ 256 := fun d hd => by rw [hfs]; simp only [if_pos hd]; exact hgl d
   refine bJ ?_; apply hK11; refine sr fun _ hJ27 => ?_; refine ca (c := (hL ▸ qP hf8)) (k := ?_); rintro _ _ ⟨rfl, rfl⟩; (try simp [F]); apply hJ27; refine ra ?_; exact gcr
end Go.Proofs.YtjpnjhlfieklfaaGreat
namespace Go.Vm
open Go
theorem tH {go go' : TypeId → Option (List TypeId)} (h : ∀ t l, go t = some l → go' t = some l) : ∀ (fs : List Field) (acc ls : List TypeId), mI go fs acc = some ls → mI go' fs acc = some ls
 | [], acc, ls, e => e
 | f :: fs, acc, ls, e => by
   simp only [mI] at e ⊢
   split at e
   · rename_i hf
     rw [if_pos hf]
     cases hg : go f.type with
     | none => rw [hg] at e; cases e
     | some l =>
       rw [hg] at e
       rw [h _ _ hg]
       exact tH h fs _ ls e
   · cases e
theorem v5 {P : Program} : ∀ (n : Nat) (t : TypeId) (l : List TypeId), leaves P n t = some l → leaves P (n + 1) t = some l
 | 0, t, l, h => by simp [leaves] at h
 | n + 1, t, l, h => by
   have ih := v5 (P := P) n
   rw [leaves] at h ⊢
   split at h
   · exact h
   · exact h
   · exact h
   · rename_i e hu
     cases hg : leaves P n e with
     | none => rw [hg] at h; cases h
     | some l' => rw [hg] at h; simp only [ih _ _ hg]; exact h
   · rename_i fs hu
     cases hg : mI (leaves P n) fs.toList [] with
     | none => rw [hg] at h; cases h
     | some l' => rw [hg] at h; simp only [tH ih _ _ _ hg]; exact h
   · rename_i k e hu
     cases hg : leaves P n e with
     | none => rw [hg] at h; cases h
     | some l' => rw [hg] at h; simp only [ih _ _ hg]; exact h
   · cases h
theorem sV {P : Program} {n : Nat} {t : TypeId} {l : List TypeId} (h : leaves P n t = some l) : ∀ k, leaves P (n + k) t = some l
 | 0 => h
 | k + 1 => v5 _ _ _ (sV h k)
theorem sY {P : Program} {n m : Nat} {t : TypeId} {l l' : List TypeId} (h : leaves P n t = some l) (h' : leaves P m t = some l') : l = l' := by
 have h1 := sV h m
 have h2 := sV h' n
 rw [Nat.add_comm] at h2
 rw [h1] at h2
 exact Option.some.inj h2
theorem K2 {a b c d : Nat} (ha : a < 2 ^ 64) (hb : b < 2 ^ 64) (hc : c < 2 ^ 64) (hd : d < 2 ^ 64) : ∃ x, x < 2 ^ 256 ∧ eN x 0 = a ∧ eN x 1 = b ∧ eN x 2 = c ∧ eN x 3 = d := by
 refine ⟨a + 2 ^ 64 * (b + 2 ^ 64 * (c + 2 ^ 64 * d)), ?_, ?_, ?_, ?_, ?_⟩ <;> (try simp only [eN, Nat.reduceMul, Nat.reducePow]) <;> omega
theorem nS {P : Program} {u : TypeId} {a : AV} (hu : P.underlying u = some (.int .u64)) (w : WC P u a) : ∃ n : Nat, n < 2 ^ 64 ∧ a = .v (.int .u64 n) := by
 cases w with
 | bool h => rw [hu] at h; cases h
 | string h _ => rw [hu] at h; cases h
 | slice h _ _ _ _ => rw [hu] at h; cases h
 | int h hw =>
   rename_i k n
   rw [hu] at h
   cases h
   have m1 : IntKind.u64.min = 0 := rfl
   have m2 : IntKind.u64.max = 18446744073709551615 := rfl
   simp [Lit.wf, m1, m2] at hw
   exact ⟨n.toNat, by omega, by congr 2; omega⟩
theorem Al {P : Program} {u : TypeId} {a : AV} (hu : P.underlying u = some (.int .u8)) (w : WC P u a) : ∃ b : UInt8, a = .v (.int .u8 b.toNat) := by
 cases w with
 | bool h => rw [hu] at h; cases h
 | string h _ => rw [hu] at h; cases h
 | slice h _ _ _ _ => rw [hu] at h; cases h
 | int h hw =>
   rename_i k n
   rw [hu] at h
   cases h
   have m1 : IntKind.u8.min = 0 := rfl
   have m2 : IntKind.u8.max = 255 := rfl
   simp [Lit.wf, m1, m2] at hw
   refine ⟨UInt8.ofNat n.toNat, ?_⟩
   have e : (UInt8.ofNat n.toNat).toNat = n.toNat := mW (by omega)
   rw [e]
   congr 2; omega
theorem D4 {P : Program} {u : TypeId} {a b c d : AV} (hu : P.underlying u = some (.int .u64)) (ha : WC P u a) (hb : WC P u b) (hc : WC P u c) (hd : WC P u d) : ∃ x : Num, [a, b, c, d] = aM x.v := by
 obtain ⟨na, ga, rfl⟩ := nS hu ha
 obtain ⟨nb, gb, rfl⟩ := nS hu hb
 obtain ⟨nc, gc, rfl⟩ := nS hu hc
 obtain ⟨nd, gd, rfl⟩ := nS hu hd
 obtain ⟨x, hx, x0, x1, x2, x3⟩ := K2 ga gb gc gd
 exact ⟨⟨x, hx⟩, by simp [aM, x0, x1, x2, x3]⟩
theorem B0 {P : Program} {α : Type} {f : α → List AV} {ls : List TypeId} (hl : 0 < ls.length) (hf : ∀ a, (f a).length = ls.length)
  (one : ∀ cs : List AV, cs.length = ls.length → (∀ (j : Nat) a u, cs[j]? = some a → ls[j]? = some u → WC P u a) → ∃ x, cs = f x) :
  ∀ (n : Nat) (cs : List AV), cs.length = n * ls.length → (∀ (j : Nat) a u, cs[j]? = some a → ls[j % ls.length]? = some u → WC P u a) → ∃ l : List α, l.length = n ∧ cs = l.flatMap f
 | 0, cs, h, _ => ⟨[], rfl, by simpa using h⟩
 | n + 1, cs, h, hc => by
   have hle : ls.length ≤ cs.length := by rw [h, Nat.add_mul]; omega
   obtain ⟨x, hx⟩ := one (cs.take ls.length) (by simp; omega) (fun j a u ha hu => by
    have hj : j < ls.length := (List.getElem?_eq_some_iff.1 hu).1
    rw [List.getElem?_take, if_pos hj] at ha
    exact hc j a u ha (by rw [Nat.mod_eq_of_lt hj]; exact hu))
   obtain ⟨l, hln, hl2⟩ := B0 hl hf one n (cs.drop ls.length) (by rw [List.length_drop, h, Nat.add_mul]; omega) (fun j a u ha hu => by
    rw [List.getElem?_drop] at ha
    exact hc (ls.length + j) a u ha (by rw [Nat.add_mod_left]; exact hu))
   exact ⟨x :: l, by simp [hln], by rw [List.flatMap_cons, ← hx, ← hl2, List.take_append_drop]⟩
theorem zW {P : Program} {t e tb u : TypeId} {k : Nat} {a : AV} (ht : P.underlying t = some (.slice e)) (hle : leaves P k e = some [tb, u, u, u, u]) (hb : P.underlying tb = some (.int .u8)) (hu : P.underlying u = some (.int .u64)) (w : WC P t a) : ∃ L : List bD, a = .sl 5 (aL L) L.length .shut := by
 cases w with
 | bool h => rw [ht] at h; cases h
 | string h _ => rw [ht] at h; cases h
 | int h _ => rw [ht] at h; cases h
 | slice h hls hl hn hc =>
   rw [ht] at h
   cases h
   rename_i fuel ls cs n
   obtain rfl := sY hle hls
   obtain ⟨L, hL, rfl⟩ := B0 (f := dX) (ls := [tb, u, u, u, u]) (by simp) (fun _ => rfl) (fun cs h1 h2 => by
    obtain ⟨a0, a1, a2, a3, a4, rfl⟩ : ∃ a0 a1 a2 a3 a4, cs = [a0, a1, a2, a3, a4] := by
     match cs, h1 with
     | [a0, a1, a2, a3, a4], _ => exact ⟨a0, a1, a2, a3, a4, rfl⟩
    obtain ⟨b, hb⟩ := Al hb (h2 0 a0 tb rfl rfl)
    obtain ⟨x, hx⟩ := D4 hu (h2 1 a1 u rfl rfl) (h2 2 a2 u rfl rfl) (h2 3 a3 u rfl rfl) (h2 4 a4 u rfl rfl)
    exact ⟨⟨b, x⟩, by rw [hb, hx]; rfl⟩) n cs hl hc
   exact ⟨L, by rw [← hL]; rfl⟩
theorem Eo {P : Program} {t : TypeId} {sz n : Nat} {cs : List AV} {tl : eO} (w : WC P t (.sl sz cs n tl)) : n ≤ 9223372036854775807 := by
 generalize hx : AV.sl sz cs n tl = x at w
 cases w with
 | bool h => cases hx
 | string h _ => cases hx
 | int h _ => cases hx
 | slice h hls hl hn hc => cases hx; exact hn
theorem JA {P : Program} {t e u tc ec tb : TypeId} {k k2 : Nat} {a : AV} (ht : P.underlying t = some (.slice e)) (hle : leaves P k e = some [u, tc]) (hu : P.underlying u = some (.int .u64)) (hb : P.underlying tb = some (.int .u8)) {un : TypeId} (hun : P.underlying un = some (.int .u64))
  (htc : P.underlying tc = some (.slice ec)) (hlc : leaves P k2 ec = some [tb, un, un, un, un]) (w : WC P t a) : ∃ L : List Per, a = .sl 2 (e6 L) L.length .shut ∧ L.length ≤ 9223372036854775807 ∧ ∀ x ∈ L, x.l < 2 ^ 64 ∧ x.c.length ≤ 9223372036854775807 := by
 have w0 := w
 cases w with
 | bool h => rw [ht] at h; cases h
 | string h _ => rw [ht] at h; cases h
 | int h _ => rw [ht] at h; cases h
 | slice h hls hl hn hc =>
   rw [ht] at h
   cases h
   rename_i fuel ls cs n
   obtain rfl := sY hle hls
   obtain ⟨L, hL, rfl⟩ := B0 (α := { x : Per // x.l < 2 ^ 64 ∧ x.c.length ≤ 9223372036854775807 }) (f := fun x => oB x.1) (ls := [u, tc]) (by simp) (fun _ => rfl) (fun cs h1 h2 => by
    obtain ⟨a0, a1, rfl⟩ : ∃ a0 a1, cs = [a0, a1] := by
     match cs, h1 with
     | [a0, a1], _ => exact ⟨a0, a1, rfl⟩
    obtain ⟨m, hm, e0⟩ := nS hu (h2 0 a0 u rfl rfl)
    have w1 := h2 1 a1 tc rfl rfl
    obtain ⟨M, hM⟩ := zW htc hlc hb hun w1
    subst hM
    exact ⟨⟨⟨m, M⟩, hm, Eo w1⟩, by rw [e0]; rfl⟩) n cs hl hc
   refine ⟨L.map Subtype.val, ?_, by rw [List.length_map, hL]; exact hn, fun x hx => ?_⟩
   · rw [List.length_map, hL]
     show AV.sl 2 _ n .shut = _
     congr 1
     simp [e6]
   · obtain ⟨y, _, rfl⟩ := List.mem_map.1 hx
     exact y.2
theorem LV {P : Program} {tk u tc tp e ec tb un : TypeId} {k k2 : Nat} {l : List AV} (h1 : l.length = [tk, u, u, tc, tp].length) (h2 : ∀ (j : Nat) a v, l[j]? = some a → [tk, u, u, tc, tp][j]? = some v → WC P v a) (hk : P.underlying tk = some (.int .u8)) (hu : P.underlying u = some (.int .u64)) (hb : P.underlying tb = some (.int .u8)) (hun : P.underlying un = some (.int .u64))
  (htc : P.underlying tc = some (.slice ec)) (hlc : leaves P k2 ec = some [tb, un, un, un, un]) (htp : P.underlying tp = some (.slice e)) (hle : leaves P k e = some [u, tc]) : ∃ p : Pln, l = iK p ∧ p.Ok := by
 obtain ⟨a0, a1, a2, a3, a4, rfl⟩ : ∃ a0 a1 a2 a3 a4, l = [a0, a1, a2, a3, a4] := by
  match l, h1 with
  | [a0, a1, a2, a3, a4], _ => exact ⟨a0, a1, a2, a3, a4, rfl⟩
 obtain ⟨b, e0⟩ := Al hk (h2 0 a0 _ rfl rfl)
 obtain ⟨s, hs, e1⟩ := nS hu (h2 1 a1 _ rfl rfl)
 obtain ⟨n, hn, e2⟩ := nS hu (h2 2 a2 _ rfl rfl)
 have w3 := h2 3 a3 _ rfl rfl
 obtain ⟨M, e3⟩ := zW htc hlc hb hun w3
 subst e3
 obtain ⟨L, e4, hL, h5⟩ := JA htp hle hu hb hun htc hlc (h2 4 a4 _ rfl rfl)
 exact ⟨⟨b, s, n, M, L⟩, by rw [e0, e1, e2, e4]; rfl, hs, hn, Eo w3, hL, h5⟩
end Go.Vm
namespace Go.Proofs.YtjpnjhlfieklfaaGreat
open Go Go.Vm
attribute [local simp] dM aI dJ opA bH bN cM bP ofValue dC plain aQ aR cA b8 cC cB bY b7 b9 bZ cV bW cG cD b6 bU aT aS bO cU aW dQ dR bK aZ cL gA bS dE cF AV.cells AV.bL dF cO eZ bF aV cQ dI dS dV cN aN dP dO cW cT cI List.getElem?_cons_zero List.getElem?_cons_succ fK fL fH fG fJ fM fI fF dL eQ eB fB
structure AcA where
 m : UInt8
 x : Acc
def aaC (a : AcA) : List AV := .v (.int .u8 a.m.toNat) :: hH a.x
def Lz (l : List AcA) : List AV := l.flatMap aaC
theorem AO {P : Program} {k2 k3 : Nat} {u b c ec tp ep : TypeId} {a0 a1 a2 a3 a4 a5 a6 a7 a8 a9 a10 a11 a12 a13 a14 a15 a16 : AV} (hu : P.underlying u = some (.int .u64)) (hb : P.underlying b = some (.int .u8)) (hc : P.underlying c = some (.slice ec)) (hlc : leaves P k2 ec = some [b, u, u, u, u]) (hp : P.underlying tp = some (.slice ep)) (hlp : leaves P k3 ep = some [u, c]) (h0 : WC P b a0) (h1 : WC P u a1) (h2 : WC P b a2) (h3 : WC P b a3) (h4 : WC P u a4) (h5 : WC P u a5) (h6 : WC P c a6) (h7 : WC P tp a7) (h8 : WC P b a8) (h9 : WC P u a9) (h10 : WC P u a10) (h11 : WC P u a11) (h12 : WC P u a12) (h13 : WC P u a13) (h14 : WC P u a14) (h15 : WC P u a15) (h16 : WC P u a16) : ∃ e : Acc, [a0, a1, a2, a3, a4, a5, a6, a7, a8, a9, a10, a11, a12, a13, a14, a15, a16] = hH e ∧ e.Ok := by
 obtain ⟨x0, rfl⟩ := Al hb h0
 obtain ⟨q, hq, rfl⟩ := nS hu h1
 obtain ⟨x2, rfl⟩ := Al hb h2
 obtain ⟨p, hp1, hp2⟩ := LV (l := [a3, a4, a5, a6, a7]) (tk := b) (u := u) (tc := c) (tp := tp) rfl (fun j a v e1 e2 => by
  match j with
  | 0 => simp at e1 e2; subst e1 e2; exact h3
  | 1 => simp at e1 e2; subst e1 e2; exact h4
  | 2 => simp at e1 e2; subst e1 e2; exact h5
  | 3 => simp at e1 e2; subst e1 e2; exact h6
  | 4 => simp at e1 e2; subst e1 e2; exact h7
  | j + 5 => simp at e1) hb hu hb hu hc hlc hp hlp
 obtain ⟨x8, rfl⟩ := Al hb h8
 obtain ⟨f, hf⟩ := D4 hu h9 h10 h11 h12
 obtain ⟨g, hg⟩ := D4 hu h13 h14 h15 h16
 simp only [aM, List.cons.injEq, and_true] at hf hg
 obtain ⟨rfl, rfl, rfl, rfl⟩ := hf
 obtain ⟨rfl, rfl, rfl, rfl⟩ := hg
 simp only [iK, List.cons.injEq, and_true] at hp1
 obtain ⟨rfl, rfl, rfl, rfl, rfl⟩ := hp1
 exact ⟨⟨x0, q, x2, p, x8, f, g⟩, rfl, hq, hp2⟩
theorem Kv {P : Program} {k2 k3 : Nat} {u b c ec tp ep : TypeId} {n : Nat} {ty : TypeId} {H : Type} {enc : TypeId × Value → H} {W : World} {spare : Nat → Bool} {cs : Array Value} {d : DataW H} {ps : List MemPlace} (hl : leaves P n ty = some [b, u, b, b, u, u, c, tp, b, u, u, u, u, u, u, u, u]) (hu : P.underlying u = some (.int .u64)) (hb : P.underlying b = some (.int .u8)) (hc : P.underlying c = some (.slice ec)) (hlc : leaves P k2 ec = some [b, u, u, u, u]) (hp : P.underlying tp = some (.slice ep)) (hlp : leaves P k3 ep = some [u, c])
  (h : DataW.Trod enc P W 0 spare true ty (.agg cs) d ps) : ∃ e : Acc, e.Ok ∧ AVR (kB W) W (.agg cs) (.agg (hH e)) := by
 obtain ⟨l, h1, h2, h3, h4⟩ := x5 hl h
 have hc9 : Value.cells (.agg cs) = cs := rfl
 rw [hc9] at h2 h3
 match l, h1, h2, h3, h4 with
 | [a0, a1, a2, a3, a4, a5, a6, a7, a8, a9, a10, a11, a12, a13, a14, a15, a16], _, h2, h3, h4 =>
   obtain ⟨e, he, ho⟩ := AO hu hb hc hlc hp hlp (h4 0 a0 _ rfl rfl) (h4 1 a1 _ rfl rfl) (h4 2 a2 _ rfl rfl) (h4 3 a3 _ rfl rfl) (h4 4 a4 _ rfl rfl) (h4 5 a5 _ rfl rfl) (h4 6 a6 _ rfl rfl) (h4 7 a7 _ rfl rfl) (h4 8 a8 _ rfl rfl) (h4 9 a9 _ rfl rfl) (h4 10 a10 _ rfl rfl) (h4 11 a11 _ rfl rfl) (h4 12 a12 _ rfl rfl) (h4 13 a13 _ rfl rfl) (h4 14 a14 _ rfl rfl) (h4 15 a15 _ rfl rfl) (h4 16 a16 _ rfl rfl)
   rw [he] at h2 h3
   exact ⟨e, ho, .agg h2 h3⟩
theorem Lq {P : Program} {k k2 k3 : Nat} {u b c ec tp ep : TypeId} {ty e : TypeId} {a : AV} (hty : P.underlying ty = some (.slice e)) (hle : leaves P k e = some [b, b, u, b, b, u, u, c, tp, b, u, u, u, u, u, u, u, u]) (hu : P.underlying u = some (.int .u64)) (hb : P.underlying b = some (.int .u8)) (hc : P.underlying c = some (.slice ec)) (hlc : leaves P k2 ec = some [b, u, u, u, u]) (hp : P.underlying tp = some (.slice ep)) (hlp : leaves P k3 ep = some [u, c]) (w : WC P ty a) :
  ∃ L : List AcA, a = .sl 18 (Lz L) L.length .shut ∧ L.length ≤ 9223372036854775807 ∧ ∀ x ∈ L, x.x.Ok := by
 cases w with
 | bool h => rw [hty] at h; cases h
 | string h _ => rw [hty] at h; cases h
 | int h _ => rw [hty] at h; cases h
 | slice h hls hl hn hcc =>
   rw [hty] at h
   cases h
   rename_i fuel ls cs n
   obtain rfl := sY hle hls
   obtain ⟨L, hL, rfl⟩ := B0 (α := { x : AcA // x.x.Ok }) (f := fun x => aaC x.1) (ls := [b, b, u, b, b, u, u, c, tp, b, u, u, u, u, u, u, u, u]) (by simp) (fun _ => rfl) (fun cs h1 h2 => by
    match cs, h1, h2 with
    | [a0, a1, a2, a3, a4, a5, a6, a7, a8, a9, a10, a11, a12, a13, a14, a15, a16, a17], _, h2 =>
      obtain ⟨m, e0⟩ := Al hb (h2 0 a0 b rfl rfl)
      obtain ⟨e, e1, o1⟩ := AO hu hb hc hlc hp hlp (h2 1 a1 _ rfl rfl) (h2 2 a2 _ rfl rfl) (h2 3 a3 _ rfl rfl) (h2 4 a4 _ rfl rfl) (h2 5 a5 _ rfl rfl) (h2 6 a6 _ rfl rfl) (h2 7 a7 _ rfl rfl) (h2 8 a8 _ rfl rfl) (h2 9 a9 _ rfl rfl) (h2 10 a10 _ rfl rfl) (h2 11 a11 _ rfl rfl) (h2 12 a12 _ rfl rfl) (h2 13 a13 _ rfl rfl) (h2 14 a14 _ rfl rfl) (h2 15 a15 _ rfl rfl) (h2 16 a16 _ rfl rfl) (h2 17 a17 _ rfl rfl)
      refine ⟨⟨⟨m, e⟩, o1⟩, ?_⟩
      show _ = AV.v (.int .u8 m.toNat) :: hH e
      rw [← e1, e0]) n cs hl hcc
   refine ⟨L.map Subtype.val, ?_, by rw [List.length_map, hL]; exact hn, fun x hx => ?_⟩
   · rw [List.length_map, hL]
     show AV.sl 18 _ n .shut = _
     congr 1
     simp [Lz, List.flatMap_map]
   · obtain ⟨y, _, rfl⟩ := List.mem_map.1 hx
     exact y.2
theorem Ng {P : Program} {n k k2 k3 : Nat} {u b c ec tp ep : TypeId} {ty e : TypeId} {H : Type} {enc : TypeId × Value → H} {W : World} {spare : Nat → Bool} {ad : Option Addr} {m c9 : Nat} {d : DataW H} {ps : List MemPlace} (hl : leaves P n ty = some [ty]) (hty : P.underlying ty = some (.slice e)) (hle : leaves P k e = some [b, b, u, b, b, u, u, c, tp, b, u, u, u, u, u, u, u, u]) (hu : P.underlying u = some (.int .u64)) (hb : P.underlying b = some (.int .u8)) (hc : P.underlying c = some (.slice ec)) (hlc : leaves P k2 ec = some [b, u, u, u, u]) (hp : P.underlying tp = some (.slice ep)) (hlp : leaves P k3 ep = some [u, c])
  (h : DataW.Trod enc P W 0 spare true ty (.slice ad m c9) d ps) : ∃ L : List AcA, L.length ≤ 9223372036854775807 ∧ (∀ x ∈ L, x.x.Ok) ∧ AVR (kB W) W (.slice ad m c9) (.sl 18 (Lz L) L.length .shut) := by
 obtain ⟨l, h1, h2, h3, h4⟩ := x5 hl h
 have hc9 : Value.cells (.slice ad m c9) = #[.slice ad m c9] := rfl
 obtain ⟨a, rfl⟩ : ∃ a, l = [a] := by
  match l, h1 with
  | [a], _ => exact ⟨a, rfl⟩
 obtain ⟨L, rfl, e1, e2⟩ := Lq hty hle hu hb hc hlc hp hlp (h4 0 a ty rfl rfl)
 exact ⟨L, e1, e2, h3 0 _ _ (by rw [hc9]; rfl) rfl⟩
theorem Jb {P : Program} {n k2 : Nat} {u b ec : TypeId} {ty : TypeId} {H : Type} {enc : TypeId × Value → H} {W : World} {spare : Nat → Bool} {ad : Option Addr} {m c9 : Nat} {d : DataW H} {ps : List MemPlace} (hl : leaves P n ty = some [ty]) (hty : P.underlying ty = some (.slice ec)) (hu : P.underlying u = some (.int .u64)) (hb : P.underlying b = some (.int .u8)) (hlc : leaves P k2 ec = some [b, u, u, u, u])
  (h : DataW.Trod enc P W 0 spare true ty (.slice ad m c9) d ps) : ∃ L : List bD, L.length ≤ 9223372036854775807 ∧ AVR (kB W) W (.slice ad m c9) (.sl 5 (aL L) L.length .shut) := by
 obtain ⟨l, h1, h2, h3, h4⟩ := x5 hl h
 have hc9 : Value.cells (.slice ad m c9) = #[.slice ad m c9] := rfl
 obtain ⟨a, rfl⟩ : ∃ a, l = [a] := by
  match l, h1 with
  | [a], _ => exact ⟨a, rfl⟩
 have w := h4 0 a ty rfl rfl
 obtain ⟨L, rfl⟩ := zW hty hlc hb hu w
 exact ⟨L, Eo w, h3 0 _ _ (by rw [hc9]; rfl) rfl⟩
end Go.Proofs.YtjpnjhlfieklfaaGreat
namespace Go.Proofs.YtjpnjhlfieklfaaGreat
open Go Go.Vm
attribute [local simp] dM aI dJ opA bH bN cM bP ofValue dC plain aQ aR cA b8 cC cB bY b7 b9 bZ cV bW cG cD b6 bU aT aS bO cU aW dQ dR bK aZ cL gA bS dE cF AV.cells AV.bL dF cO eZ bF aV cQ dI dS dV cN aN dP dO cW cT cI List.getElem?_cons_zero List.getElem?_cons_succ fK fL fH fG fJ fM fI fF dL eQ eB fB
variable {Ru : UInt8 → List Pr}
structure AB where
 f : UInt8
 a : UInt8
 b : UInt8
 l : List bD
 z : Bool
def AB.Ok (x : AB) : Prop := x.l.length ≤ 9223372036854775807
def wZ (l : List bD) : Nat → Nat := l.foldl (fun f c j => if j = c.d.toNat % 8 then c.n.v else f j) (fun _ => 0)
theorem Fw (l : List bD) (c : bD) : wZ (l ++ [c]) = fun j => if j = c.d.toNat % 8 then c.n.v else wZ l j := by simp [wZ]
theorem E8 : ∀ (l : List bD) (f : Nat → Nat), (∀ j, f j < 2 ^ 256) → ∀ j, l.foldl (fun f c j => if j = c.d.toNat % 8 then c.n.v else f j) f j < 2 ^ 256
 | [], f, h => h
 | c :: l, f, h => E8 l _ (fun j => by
   show (if j = c.d.toNat % 8 then c.n.v else f j) < _
   split
   · exact c.n.h
   · exact h j)
theorem Fc (l : List bD) (j : Nat) : wZ l j < 2 ^ 256 := E8 l _ (fun _ => Nat.two_pow_pos 256) j
theorem JG (b : UInt8) (m : Nat) (hm : (m : Int) ≠ 0) (xo yo : Operand) : iM Tryz.prog .rem 5 xo yo (.v (.int .u8 (b.toNat : Nat))) (.v (.int .u8 m)) = some (.v (.int .u8 ((b.toNat % m : Nat) : Int))) := by rw [bU (h := hm)]; rfl
structure BkI (Ru : UInt8 → List Pr) (s : Sto) (T : Tb) (n : Nat) : Prop where
 bk : gK Ru s T n
 sm : BW T
theorem BkI.nil : BkI R0 fP.s tb0 0 := ⟨gK.nil, BW.nil⟩
end Go.Proofs.YtjpnjhlfieklfaaGreat
namespace Go.Proofs.YtjpnjhlfieklfaaGreat
open Go Go.Vm
attribute [local simp] dM aI dJ opA bH bN cM bP ofValue dC plain aQ aR cA b8 cC cB bY b7 b9 bZ cV bW cG cD b6 bU aT aS bO cU aW dQ dR bK aZ cL gA bS dE cF AV.cells AV.bL dF cO eZ bF aV cQ dI dS dV cN aN dP dO cW cT cI List.getElem?_cons_zero List.getElem?_cons_succ fK fL fH fG fJ fM fI fF dL eQ eB fB
variable {Ru : UInt8 → List Pr} {fr : Fr}
structure GD where
 i : Nat
 O : List Dl
 b : Bool
end Go.Proofs.YtjpnjhlfieklfaaGreat
namespace Go.Proofs.YtjpnjhlfieklfaaGreat
open Go Go.Vm
attribute [local simp] dM aI dJ opA bH bN cM bP ofValue dC plain aQ aR cA b8 cC cB bY b7 b9 bZ cV bW cG cD b6 bU aT aS bO cU aW dQ dR bK aZ cL gA bS dE cF AV.cells AV.bL dF cO eZ bF aV cQ dI dS dV cN aN dP dO cW cT cI List.getElem?_cons_zero List.getElem?_cons_succ fK fL fH fG fJ fM fI fF dL eQ eB fB
variable {Ru : UInt8 → List Pr}
def frW (T : Tb) (L : List Acc) (W : Pw) : Fr where
 t := .v (.int .u64 0)
 s := .sl 5 (aL (T none)) (T none).length .shut
 b := .sl 2 (jA (mB T)) (mB T).length .shut
 a := .sl 17 (iQ L) L.length .shut
 v := .sl 14 (Lf W.V) W.V.length .shut
 d := .sl 7 (Lw W.D) W.D.length .shut
 e := .sl 0 [] 0 .full
 h := .sl 0 [] 0 .full
 no := fun x hx => by
  simp only [List.mem_cons, List.not_mem_nil, or_false] at hx
  rcases hx with rfl | rfl | rfl | rfl | rfl | rfl | rfl | rfl <;> exact ⟨fun n => by simp [AV.eM, wV, vZ, EG, Es, bM], fun B => by simp [AV.under, v7, wA, D7, DZ, bB]⟩
def wdC (T : Tb) (L : List Acc) (W : Pw) : List AV := aC (frW T L W) L
theorem KV (T : Tb) (L L' : List Acc) (W : Pw) : aC (frW T L W) L' = wdC T L' W := rfl
theorem L3 (T T' : Tb) (L : List Acc) (W : Pw) : bC (frW T L W) T' = wdC T' L W := rfl
def Kt : List AV := [.v (.int .u64 0), .sl 0 [] 0 .full, .sl 0 [] 0 .full, .sl 0 [] 0 .full, .sl 0 [] 0 .full, .sl 0 [] 0 .full, .sl 0 [] 0 .full, .sl 0 [] 0 .full]
theorem H0 : mB tb0 = [] := by
 have h : ∀ b, ¬ b ∈ mB tb0 := fun b hb => (qL.1 hb).2 (qL.1 hb).1
 exact List.eq_nil_iff_forall_not_mem.2 h
theorem Lx : WkL Kt (wdC tb0 [] pw0) := by
 have e : wdC tb0 [] pw0 = [.v (.int .u64 0), .sl 5 [] 0 .shut, .sl 2 [] 0 .shut, .sl 17 [] 0 .shut, .sl 14 [] 0 .shut, .sl 7 [] 0 .shut, .sl 0 [] 0 .full, .sl 0 [] 0 .full] := by
  simp only [wdC, aC, aX, frW, H0]; rfl
 rw [e]
 exact .cons (Wk.refl _) (.cons (Wk.nil _ _ _) (.cons (Wk.nil _ _ _) (.cons (Wk.nil _ _ _) (.cons (Wk.nil _ _ _) (.cons (Wk.nil _ _ _) (.cons (Wk.refl _) (.cons (Wk.refl _) .nil)))))))
section
variable {z : kV} {P : Program} {N : Nat} {ρ : Nat → AV}
theorem HH {c : Code} {Q : Exit → (Nat → AV) → St → Prop} (σ : St) (k : Run z P N c ρ (Sp σ fP [wdC tb0 [] pw0]) Q) :
  Run z P N c ρ { Sp σ fP [] with objs := (Sp σ fP []).objs ++ [Kt] } Q := by
 have h0 : WkS { σ with objs := (σ.objs ++ [stC σ.rows.length fP, []]).set (σ.objs.length + 1) Kt, rows := σ.rows ++ [p8 fP, pO fP, oL fP] }
   { σ with objs := (σ.objs ++ [stC σ.rows.length fP, []]).set (σ.objs.length + 1) (wdC tb0 [] pw0), rows := σ.rows ++ [p8 fP, pO fP, oL fP] } :=
  WkS.set (σ := { σ with rows := σ.rows ++ [p8 fP, pO fP, oL fP] }) Lx
 simp only [List.set_append_right _ _ (Nat.le_add_right _ _), Nat.add_sub_cancel_left, List.set_cons_succ, List.set_cons_zero] at h0
 have e : ∀ a b : St, a = b → Run z P N c ρ b Q → Run z P N c ρ a Q := fun a b h k => h ▸ k
 refine e _ _ ?_ (J0 h0 k); simp [Sp]
end
theorem Sp.sw (σ : St) (G : Sg) (X : List AV) (l : List (List AV)) : (Sp σ G (X :: l)).objs[σ.objs.length + 1]? = some X := by simp [Sp]
theorem Sp.sA (σ : St) (G : Sg) (X : List AV) (l : List (List AV)) (fr : Fr) (L : List Acc) : y8 fr (Sp σ G (X :: l)) (σ.objs.length + 1) L = Sp σ G (aC fr L :: l) := by simp [Sp, y8]
theorem Sp.sB (σ : St) (G : Sg) (X : List AV) (l : List (List AV)) (fr : Fr) (T : Tb) : kX fr (Sp σ G (X :: l)) (σ.objs.length + 1) T = Sp σ G (bC fr T :: l) := by simp [Sp, kX]
theorem MY {s : Sto} {L : List Acc} {n : Nat} (h : eT Rp0 s L n) : gK (fun c => pl s.l [c]) s tb0 n := gK.nil.Fk h.ok (h.rs 98 (by decide)) (h.rs 115 (by decide)) (fun c _ _ => rfl)
theorem Gv {s s' : Sto} {L : List Acc} {T : Tb} {n m : Nat} (h : eT Ru s L n) (hb : gK (fun c => pl s.l [c]) s' T m) (hm : n ≤ m) : eT (fun c => pl s'.l [c]) s' L m := h.Fk hb.ok hm (hb.rs 97 (by decide) (by decide)) (fun c _ => rfl)
def tbM (a : UInt8) (C : List bD) : Tb := upd (upd tb0 none C) (some a) C
theorem Fj (a : UInt8) (C : List bD) : tbM a C (some a) = C := lZ _ _ _
theorem FZ {C : List bD} (h : bA C) : lY [] C = C := by
 have : lY [] C = fR (amt C) 8 := iI (fun i _ => by simp [amt])
 rw [this]; exact oG h
theorem KK {a : UInt8} {C : List bD} (ha : isB a = true) (hC : bA C) : nE tb0 a C = ⟨tbM a C, 0⟩ := by
 have h0 : iD (tb0 none) C = 0 := jJ.2 (fun d hd => by have := gD C d; simpa [tb0, amt] using this)
 rw [nE, if_neg (not_not_intro ⟨ha, hC⟩), if_neg (not_not_intro h0)]
 simp only [tbM, tb0, FZ hC]
theorem Hz {a : UInt8} (h : a.toNat < 200) : isB a = true := by simp [isB]; omega
theorem Ef {σ : St} {n : Nat} {G : Sg} {L : List Acc} {v : Acc} {l : List (List AV)} (hi : eT Ru G.s L n) (hn : n ≤ 1000) (hv : v.Ok) :
  aE Tryz.prog 14 [.ptr σ.objs.length 0, .agg (hH v)] (Sp σ G l) (fun av σ' => ∃ G', eT Ru G'.s (oW L v).L (n + 1) ∧ av = .v (.int .i64 ((oW L v).e : Nat)) ∧ σ' = Sp σ G' l) :=
 cS (Ko (Sp.has σ G l) hi hn hv) (fun av σ' ⟨G', e1, e2, e3⟩ => ⟨G', e1, e2, by rw [e3, Sp.put]⟩)
set_option maxHeartbeats 1600000 in
attribute [local simp] dA List.getElem?_cons_zero List.getElem?_cons_succ in
theorem IV {σ : St} {n : Nat} {G : Sg} {L : List Acc} {a : UInt8} {C : List bD} {l : List (List AV)} {tl : eO} (hi : eT Rp0 G.s L n) (hn : n ≤ 900) (ha : a.toNat < 200) (hC : bA C) :
  aE Tryz.prog 16 [.ptr σ.objs.length 0, .v (.int .u8 a.toNat), .sl 5 (aL C) C.length tl] (Sp σ G l) (fun av σ' => ∃ G', (eT (fun c => pl G'.s.l [c]) G'.s L (n + 16) ∧ gK (fun c => pl G.s.l [c]) G'.s (tbM a C) (n + 16)) ∧ av = .v (.int .i64 0) ∧ σ' = Sp σ G' l) := by
 have h8 := dZ hC
 have := Is (b := a) (l := C) (Sp.has σ G l) (MY hi) BW.nil hn (by omega)
 rw [KK (Hz ha) hC] at this
 exact kO (.cons (Wk.refl _) (.cons (Wk.refl _) (.cons (Wk.shut _ _ _ _) .nil))) (cS this (fun av σ' ⟨G', e1, e2, e3⟩ => ⟨G', ⟨Gv hi e1 (by omega), e1⟩, e2, by rw [e3, Sp.put]⟩))
theorem Ie {σ : St} {v : Acc} (hv : v.Ok) : aE Tryz.prog 10 [.agg (hH v)] σ (fun av σ' => ∃ b : Bool, av = .v (.bool b) ∧ σ = σ') := by
 refine cS (nA (X := Bool) (A := fun b => .v (.bool b)) (τ := fun _ => σ) ?_ (fun _ => rfl) (fun _ => rfl) (fun _ => rfl) (fun _ => rfl) (fun _ => rfl) (fun _ _ _ h => .inl h) (fun _ _ r h => .inl ⟨r, h, rfl⟩)) (fun av σ' ⟨b, e1, e2⟩ => ⟨b, e1, e2.symm⟩)
 have hp := hv.2
 obtain ⟨Q, hQ⟩ : ∃ Q, Q = hH v := ⟨_, rfl⟩
 have hQl : Q.length = 17 := by rw [hQ]; rfl
 have hQt : List.take 17 Q = Q := by subst hQ; rfl
 obtain ⟨M, hM⟩ : ∃ M, M = iK v.p := ⟨_, rfl⟩
 have hQp : List.take 5 (List.drop 3 Q) = M := by rw [hQ, hM]; rfl
 have hMl : M.length = 5 := by rw [hM]; rfl
 have hMt : List.take 5 M = M := by subst hM; rfl
 have hM3 : ∀ h2 : 3 < M.length, M[3]'h2 = .sl 5 (aL v.p.tot) v.p.tot.length .shut := fun h2 => by subst hM; rfl
 have hM4 : ∀ h2 : 4 < M.length, M[4]'h2 = .sl 2 (e6 v.p.ps) v.p.ps.length .shut := fun h2 => by subst hM; rfl
 have hMc : (∀ x, x ∈ M → x.bL = true) = True := eq_true (fun x hx => by subst hM; simp only [iK, List.mem_cons, List.not_mem_nil, or_false] at hx; rcases hx with rfl | rfl | rfl | rfl | rfl <;> rfl)
 simp only [AV.bL] at hMc
 obtain ⟨S, hS⟩ : ∃ S, S = v.p.ps := ⟨_, rfl⟩
 rw [← hS] at hM4
 have hSl : S.length ≤ 9223372036854775807 := by rw [hS]; exact hp.2.2.2.1
 have hSc : (e6 S).length = S.length * 2 := GP S
 have hSn := fun n => eK n S
 have hMo : ∀ nb, bM nb M = true := fun nb => by rw [hM]; simp [iK, bM, AV.eM, eK]
 have hQo : ∀ nb, bM nb Q = true := fun nb => by rw [hQ]; exact mZ nb v
 rw [← hQ]
 have F := And.intro hQl (And.intro hQt (And.intro hQp (And.intro hMl (And.intro hMt (And.intro hM3 (And.intro hM4 (And.intro hMc (And.intro hSc (And.intro hSn (And.intro hMo (And.intro hQo (True.intro))))))))))))
 refine aB Tryz.func10 rfl rfl rfl ?_; refine sr fun _ hJ2 => ?_; apply hJ2; refine sr fun _ hJ4 => ?_; apply hJ4; refine sq fun K5 hK5 => ?_; refine sr fun _ hJ7 => ?_; refine gs 11 (fun g2_4 => ?_) (fun g2_4 => ?_)
 · all_goals
    replace F := aF g2_4 F; (iterate 4 refine no2 (k := ?_)); apply hJ7; refine ct ?_; refine sr fun _ hJ9 => ?_; apply hJ9; refine ra ?_; exact ⟨false, gcr⟩
 all_goals
  replace F := aF g2_4 F; (iterate 4 refine go2 (k := ?_)); apply hJ7; refine cs (fun c16 => ?_) (fun c16 => ?_)
  · all_goals
     replace F := aF c16 F; refine sr fun _ hJ11 => ?_; apply hJ11; refine ra ?_; exact ⟨false, gcr⟩
  all_goals
   replace F := aF c16 F; refine aA ?_; apply hK5; refine sq fun K12 hK12 => ?_; refine sr fun _ hJ14 => ?_; apply hJ14; refine aD ?_; refine cK (X := Nat) [3] (fun i ρ σ1 => (i ≤ S.length) ∧ (ρ 4 = .v (.int .i64 i)) ∧ (σ1 = { σ with objs := σ.objs ++ [Q, M] })) (fun i => S.length - i) (0) ?st1 ?rd1
   case st1 =>
    refine ⟨lp, lp, lp⟩
   case rd1 =>
    rintro i ρ1 σ1 hF1 ⟨h1, h5, hσ⟩; obtain rfl := hσ.symm
    have f1 := dU hF1
    (try simp [dT, F] at f1); replace F := aF h5 F; (try replace F := aF f1 F); refine sq fun K15 hK15 => ?_; refine sr fun _ hJ17 => ?_; apply hJ17; refine cs (fun c21 => ?_) (fun c21 => ?_)
    · all_goals
       replace F := aF c21 F
       have hlt : i < S.length := by have h := c21; simp at h; omega
       have hR := jS hlt
       obtain ⟨x, hx⟩ : ∃ x, x = S[i] := ⟨_, rfl⟩
       rw [← hx] at hR
       have f1 := oN (l := e6 S) (i := i * 2) (j := 1) (x := .sl 5 (aL x.c) x.c.length .shut) (by rw [hR]; rfl)
       have d1 : i * 2 + 1 < S.length * 2 := by omega
       have d4 : i * 2 + 2 ≤ S.length * 2 := by omega
       have hi1 : i + 1 ≤ S.length := hlt
       have hwi : IntKind.i64.wrap ((i : Int) + 1) = (i : Int) + 1 := wrap_i64 _ (by omega) (by omega)
       replace F := aF hlt (And.intro f1 (And.intro d1 (And.intro d4 (And.intro hi1 (And.intro hwi F))))); refine aA ?_; apply hK15; refine sq fun K18 hK18 => ?_; refine aD ?_; refine sr fun _ hJ20 => ?_; apply hJ20; refine cs (fun c31 => ?_) (fun c31 => ?_)
       · all_goals
          replace F := aF c31 F; refine sr fun _ hJ22 => ?_; apply hJ22; refine ra ?_; exact ⟨false, gcr⟩
       all_goals
        replace F := aF c31 F; refine aA ?_; apply hK18; refine rg' (h := fun J23 hJ23 => ?_); apply hJ23; refine ⟨(i + 1), ⟨kp, lp, lp, lp⟩, lp⟩
    all_goals
     replace F := aF c21 F; refine bJ ?_; apply hK12; refine sr fun _ hJ25 => ?_; apply hJ25; refine ra ?_; exact ⟨true, gcr⟩
end Go.Proofs.YtjpnjhlfieklfaaGreat
namespace Go.Proofs.YtjpnjhlfieklfaaGreat
open Go Go.Vm
attribute [local simp] dM aI dJ opA bH bN cM bP ofValue dC plain aQ aR cA b8 cC cB bY b7 b9 bZ cV bW cG cD b6 bU aT aS bO cU aW dQ dR bK aZ cL gA bS dE cF AV.cells AV.bL dF cO eZ bF aV cQ dI dS dV cN aN dP dO cW cT cI List.getElem?_cons_zero List.getElem?_cons_succ fK fL fH fG fJ fM fI fF dL eQ eB fB
variable {Ru : UInt8 → List Pr}
def c5 : bD := ⟨1, ⟨5, by decide⟩⟩
def c7 : bD := ⟨1, ⟨7, by decide⟩⟩
def a5 : Acc := ⟨1, 0, 1, ⟨2, 0, 9, [c5], []⟩, 0, Num.zero, Num.zero⟩
def lX : List AV := [.v (.int .u8 1), .v (.int .u64 0), .v (.int .u8 1), .v (.int .u8 2), .v (.int .u64 0), .v (.int .u64 9), .sl 5 [.v (.int .u8 1), .v (.int .u64 5), .v (.int .u64 0), .v (.int .u64 0), .v (.int .u64 0)] 1 .full, .sl 0 [] 0 .full, .v (.int .u8 0), .v (.int .u64 0), .v (.int .u64 0), .v (.int .u64 0), .v (.int .u64 0), .v (.int .u64 0), .v (.int .u64 0), .v (.int .u64 0), .v (.int .u64 0)]
theorem E9 : Wk (.agg lX) (.agg (hH a5)) := by
 have e : hH a5 = [.v (.int .u8 1), .v (.int .u64 0), .v (.int .u8 1), .v (.int .u8 2), .v (.int .u64 0), .v (.int .u64 9), .sl 5 [.v (.int .u8 1), .v (.int .u64 5), .v (.int .u64 0), .v (.int .u64 0), .v (.int .u64 0)] 1 .shut, .sl 2 [] 0 .shut, .v (.int .u8 0), .v (.int .u64 0), .v (.int .u64 0), .v (.int .u64 0), .v (.int .u64 0), .v (.int .u64 0), .v (.int .u64 0), .v (.int .u64 0), .v (.int .u64 0)] := by simp [hH, a5, c5, Num.zero, eN, aL, dX, aM, e6]
 rw [e]
 exact WkL.agg (.cons (Wk.refl _) (.cons (Wk.refl _) (.cons (Wk.refl _) (.cons (Wk.refl _) (.cons (Wk.refl _) (.cons (Wk.refl _) (.cons (Wk.shut _ _ _ _) (.cons (Wk.nil _ _ _) (WkL.refl _)))))))))
theorem Am {d : UInt8} {x : Num} (h1 : d.toNat < 8) (h2 : x.v ≠ 0) : bA [⟨d, x⟩] := gX (l := []) |>.2 ⟨Go.Vm.fC, ⟨h1, h2⟩, fun b hb => absurd hb (by simp)⟩
theorem Co : bA [c5] := Am (by decide) (by decide)
theorem Ds : bA [c7] := Am (by decide) (by decide)
theorem AM : gR a5 := by
 refine ⟨by decide, by decide, by decide, ?_, .inl rfl, .inr (by decide)⟩
 have h := Co
 simp [bR, a5, h]
theorem KC : a5.Ok := ⟨by decide, by decide, by decide, by simp [a5], by simp [a5], fun x h => absurd h (by simp [a5])⟩
theorem LI : oW [] a5 = ⟨[a5], 0⟩ := by rw [oW, if_neg (not_not_intro AM)]; rfl
theorem JI : oW [a5] a5 = ⟨[a5], 9⟩ := by rw [oW, if_neg (not_not_intro AM)]; rfl
theorem HC : m9 [a5] 1 8 [c7] = [⟨1, Num.of 2⟩] := by
 rw [← xP Ds]
 have hl : kN [a5] 1 8 = [c5] := by
  show kA [c5] (eC ⟨2, 0, 9, [c5], []⟩ 8) = [c5]
  have hv : eC ⟨2, 0, 9, [c5], []⟩ 8 = [] := by simp [eC]
  rw [hv]; exact GC Co
 have hk : nI [a5] 1 = 0 := rfl
 rw [hl, hk]
 have hg : spG [c5] 0 1 7 = 2 := by simp [spG, spN, amt, c5]
 simp only [nF, List.flatMap_cons, List.flatMap_nil, List.append_nil]
 show j4 1 (Num.of (spG [c5] 0 1 7)) = _
 rw [hg]; rfl
set_option maxHeartbeats 1600000 in
attribute [local simp] dA List.getElem?_cons_zero List.getElem?_cons_succ in
theorem xA {σ : St} : aE Tryz.prog 9 [] σ (fun av σ' => av = .v (.bool true) ∧ σ = σ') := by
 refine aU ?_ rfl
 have k1 : aE Tryz.prog 14 [.ptr σ.objs.length 0, .agg lX] (Sp σ fP [lX]) (fun av σ' => ∃ G', eT Rp0 G'.s [a5] 1 ∧ av = .v (.int .i64 0) ∧ σ' = Sp σ G' [lX]) := by
  have := Ef (σ := σ) (v := a5) (l := [lX]) eT.nil (by omega) KC
  rw [LI] at this
  exact kO (.cons (Wk.refl _) (.cons E9 .nil)) this
 have k2 : ∀ G, eT Rp0 G.s [a5] 1 → aE Tryz.prog 16 [.ptr σ.objs.length 0, .v (.int .u8 1), .sl 5 [.v (.int .u8 1), .v (.int .u64 7), .v (.int .u64 0), .v (.int .u64 0), .v (.int .u64 0)] 1 .full] (Sp σ G [lX]) (fun av σ' => ∃ G', (eT (fun c => pl G'.s.l [c]) G'.s [a5] (1 + 16) ∧ gK (fun c => pl G.s.l [c]) G'.s (tbM 1 [c7]) (1 + 16)) ∧ av = .v (.int .i64 0) ∧ σ' = Sp σ G' [lX]) := fun G hG => by
  have := IV (σ := σ) (a := 1) (C := [c7]) (l := [lX]) (tl := .full) hG (by omega) (by decide) Ds
  simpa [aL, dX, aM, eN, c7] using this
 have k3 : ∀ (Ru Rv : UInt8 → List Pr) (G : Sg), eT Ru G.s [a5] (1 + 16) → gK Rv G.s (tbM 1 [c7]) (1 + 16) → aE Tryz.prog 19 [.ptr σ.objs.length 0, .v (.int .u8 1), .v (.int .u64 8)] (Sp σ G [lX]) (fun av σ' => av = .sl 5 [.v (.int .u8 1), .v (.int .u64 2), .v (.int .u64 0), .v (.int .u64 0), .v (.int .u64 0)] 1 .shut ∧ Sp σ G [lX] = σ') := fun Ru Rv G hG hB => by
  have := CM (a := 1) (t := 8) (Sp.has σ G [lX]) hG hB (by omega) (by omega) (by decide)
  rw [Fj, HC] at this
  have e : aL [(⟨1, Num.of 2⟩ : bD)] = [.v (.int .u8 1), .v (.int .u64 2), .v (.int .u64 0), .v (.int .u64 0), .v (.int .u64 0)] := by simp [aL, dX, aM, eN]
  rw [e] at this; exact this
 have k4 : ∀ (Ru : UInt8 → List Pr) (G : Sg), eT Ru G.s [a5] (1 + 16) → aE Tryz.prog 14 [.ptr σ.objs.length 0, .agg lX] (Sp σ G [lX]) (fun av σ' => ∃ G', eT Ru G'.s [a5] (1 + 16 + 1) ∧ av = .v (.int .i64 9) ∧ σ' = Sp σ G' [lX]) := fun Ru G hG => by
  have := Ef (σ := σ) (v := a5) (l := [lX]) hG (by omega) KC
  rw [JI] at this
  exact kO (.cons (Wk.refl _) (.cons E9 .nil)) this
 have hlen := Sp.len σ
 have hapx := Sp.app σ
 have g1 : ∀ G x l, (Sp σ G (x :: l)).objs[σ.objs.length + 1]? = some x := fun G x l => by simp [Sp]
 have g2 : ∀ G x l (h2 : σ.objs.length + 1 < (Sp σ G (x :: l)).objs.length), (Sp σ G (x :: l)).objs[σ.objs.length + 1]'h2 = x := fun G x l h2 => (List.getElem?_eq_some_iff.1 (g1 G x l)).2
 have hX : lX = [.v (.int .u8 1), .v (.int .u64 0), .v (.int .u8 1), .v (.int .u8 2), .v (.int .u64 0), .v (.int .u64 9), .sl 5 [.v (.int .u8 1), .v (.int .u64 5), .v (.int .u64 0), .v (.int .u64 0), .v (.int .u64 0)] 1 .full, .sl 0 [] 0 .full, .v (.int .u8 0), .v (.int .u64 0), .v (.int .u64 0), .v (.int .u64 0), .v (.int .u64 0), .v (.int .u64 0), .v (.int .u64 0), .v (.int .u64 0), .v (.int .u64 0)] := rfl
 obtain ⟨X, hXe⟩ : ∃ X, X = lX := ⟨_, rfl⟩
 have hXl : X.length = 17 := by rw [hXe]; rfl
 have hXt : List.take 17 X = X := by subst hXe; rfl
 have hXf : [.v (.int .u8 1), .v (.int .u64 0), .v (.int .u8 1), .v (.int .u8 2), .v (.int .u64 0), .v (.int .u64 9), .sl 5 [.v (.int .u8 1), .v (.int .u64 5), .v (.int .u64 0), .v (.int .u64 0), .v (.int .u64 0)] 1 .full, .sl 0 [] 0 .full, .v (.int .u8 0), .v (.int .u64 0), .v (.int .u64 0), .v (.int .u64 0), .v (.int .u64 0), .v (.int .u64 0), .v (.int .u64 0), .v (.int .u64 0), .v (.int .u64 0)] = X := by rw [hXe, hX]
 simp only [← hXe] at k1 k2 k3 k4
 have F := And.intro hlen (And.intro g1 (And.intro g2 (And.intro hXl (And.intro hXt (True.intro)))))
 refine aB Tryz.func9 rfl rfl rfl ?_; refine sr fun _ hJ2 => ?_; apply hJ2; refine sr fun _ hJ4 => ?_; refine ca (c := Cz) (k := ?_); rintro _ _ ⟨rfl, rfl⟩; (try simp [F]); apply hJ4; refine sr fun _ hJ6 => ?_; apply hJ6; refine sq fun K7 hK7 => ?_; refine sq fun K8 hK8 => ?_
 rw [hXf, hapx]
 refine rg' (h := fun J9 hJ9 => ?_); refine ca (c := k1) (k := ?_); rintro _ _ ⟨G1, e1, rfl, rfl⟩; (try simp [F]); (iterate 4 refine go2 (k := ?_)); refine ca (c := k2 G1 e1) (k := ?_); rintro _ _ ⟨G2, ⟨e2, b2⟩, rfl, rfl⟩; (try simp [F]); refine go2 (k := ?_); apply hJ9; apply hK8; refine cf ?_; refine aA ?_; apply hK7; refine sr fun _ hJ11 => ?_; refine ca (c := k3 _ _ G2 e2 b2) (k := ?_); rintro _ _ ⟨rfl, rfl⟩; (try simp [F]); apply hJ11; refine sr fun _ hJ13 => ?_; (iterate 8 refine go2 (k := ?_)); refine ca (c := k4 _ G2 e2) (k := ?_); rintro _ _ ⟨G3, e3, rfl, rfl⟩; (try simp [F]); refine go2 (k := ?_); apply hJ13; refine ra ?_; simp only [Sp]
 exact gcr
structure FA where
 i : Nat
 G : Sg
 L : List Acc
end Go.Proofs.YtjpnjhlfieklfaaGreat
