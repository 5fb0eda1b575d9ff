import Derived.Test.YtjpnjhlfieklfaaGreatZ7
import Derived.Test.YtjpnjhlfieklfaaGreatZ17
import Derived.Test.YtjpnjhlfieklfaaGreatZ15
import Derived.Test.YtjpnjhlfieklfaaGreatZ16
/-
  A plan, read of any bytes..
-/
namespace Go.Proofs.YtjpnjhlfieklfaaGreat
set_option linter.unnecessarySimpa false
set_option maxRecDepth 100000
set_option linter.unusedSimpArgs false
set_option linter.unusedVariables false
open Go Go.Vm
attribute [local simp] dK aJ dJ opA bD bH cJ bP ofValue dC plain aR aS bY b6 cA cC b7 cE b8 b9 cX iC cB cH cG cD bU aV aU bL cS aW dN dP bI bC cN gI bR dD bW AV.cells AV.bA dE cI e6 bF aY cQ dI dS dY cL aO dR dQ gM fU fR cW cU cM List.getElem?_cons_zero List.getElem?_cons_succ o7 lZ

def C3 (s : Option (List UInt8)) : Per := ⟨be (dG 8 s), fX (bX 8 s)⟩

def Ie (s : Option (List UInt8)) : Option (List UInt8) := lA (bX 8 s)

def o6 : Nat → Option (List UInt8) → List Per → List Per × Option (List UInt8)
 | 0, s, l => (l, s)
 | _ + 1, none, l => (l, none)
 | m + 1, some p, l => o6 m (Ie (some p)) (l ++ [C3 (some p)])

theorem Cb {m : Nat} {s : Option (List UInt8)} {l : List Per} (hm : 0 < m) (hs : ¬ s = none) : o6 m s l = o6 (m - 1) (Ie s) (l ++ [C3 s]) := by
 match m, s, hm, hs with
 | m + 1, some p, _, _ => rfl

theorem CB {m : Nat} {s : Option (List UInt8)} {l : List Per} (h : m = 0 ∨ s = none) : o6 m s l = (l, s) := by
 match m, s, h with
 | 0, _, _ => rfl
 | m + 1, none, _ => rfl

def s4S (s : Option (List UInt8)) : Option (List UInt8) := lA (bX 8 (bX 8 (bX 1 s)))

def sU (s : Option (List UInt8)) : List Per × Option (List UInt8) := o6 (be (dG 1 (s4S s))) (bX 1 (s4S s)) []

def pE (s : Option (List UInt8)) (L : List Per) : Pln := ⟨wY s, be (dG 8 (bX 1 s)), be (dG 8 (bX 8 (bX 1 s))), fX (bX 8 (bX 8 (bX 1 s))), L⟩

def rH (s : Option (List UInt8)) : Option (List UInt8) := if bJ (pE s (sU s).1) = true then (sU s).2 else none

def xZ (s : Option (List UInt8)) : Pln := if rH s = none then ⟨0, 0, 0, [], []⟩ else pE s (sU s).1

theorem u0 {s S : Option (List UInt8)} {L : List Per} (h : sU s = (L, S)) (h2 : bJ (pE s L) = false ∨ S = none) : xZ s = ⟨0, 0, 0, [], []⟩ ∧ rH s = none := by
 have e : rH s = none := by
  unfold rH
  rw [h]
  rcases h2 with h2 | h2
  · simp [h2]
  · simp [h2]
 exact ⟨by simp [xZ, e], e⟩

theorem Ai {s S : Option (List UInt8)} {L : List Per} (h : sU s = (L, S)) (h1 : bJ (pE s L) = true) (h2 : ¬ S = none) : xZ s = pE s L ∧ rH s = S := by
 have e : rH s = S := by
  unfold rH
  rw [h, if_pos h1]
 exact ⟨by rw [xZ, e, if_neg h2, h], e⟩

theorem GP {s : Option (List UInt8)} {L : List Per} (hl : L.length ≤ 255) (hx : ∀ x ∈ L, x.l < 2 ^ 64 ∧ x.c.length ≤ 255) : (pE s L).Ok := by
 refine ⟨DC _ (jW 8 _), DC _ (jW 8 _), ?_, ?_, fun x h => ⟨(hx x h).1, ?_⟩⟩
 · have := z9 (bX 8 (bX 8 (bX 1 s))); simp only [pE]; omega
 · simp only [pE]; omega
 · have := (hx x h).2; omega

theorem IW (s : Option (List UInt8)) : (C3 s).l < 2 ^ 64 ∧ (C3 s).c.length ≤ 255 := ⟨DC _ (jW 8 _), z9 _⟩

structure TSt where
 m : Nat
 s : Option (List UInt8)
 l : List Per

theorem LV {L : List Per} (h : iD L.length = false) : eN L = [] ∧ L.length = 0 := by
 have h0 := j4 h
 have : L = [] := List.length_eq_zero_iff.1 h0
 subst this
 exact ⟨rfl, rfl⟩

theorem Ee {s : Option (List UInt8)} {L : List Per} {k : Nat} : WkL [.v (.int .u8 (be (dG 1 s))), .v (.int .u64 (be (dG 8 (bX 1 s)))), .v (.int .u64 (be (dG 8 (bX 8 (bX 1 s))))), .sl 5 (aL (fX (bX 8 (bX 8 (bX 1 s))))) (fX (bX 8 (bX 8 (bX 1 s)))).length .shut, grA k 2 (iD L.length) (eN L) L.length] (iR (pE s L)) :=
 .cons (by rw [CH]; exact Wk.refl _) (.cons (Wk.refl _) (.cons (Wk.refl _) (.cons (Wk.refl _) (.cons (qL LV) .nil))))

set_option maxHeartbeats 1600000 in
attribute [local simp] cV List.getElem?_cons_zero List.getElem?_cons_succ oA eY in
theorem Il {σ : St} {id : Nat} {s : Option (List UInt8)} (h : σ.objs[id]? = some (rd s)) :
  aB Tryz.prog 60 [.ptr id 0] σ (fun av σ' => av = .agg (iR (xZ s)) ∧ σ' = { σ with objs := σ.objs.set id (rd (rH s)) }) := by
 refine rK (Q := fun av σ' => Wk av (.agg (iR (xZ s))) ∧ ∃ l m r, σ' = { σ with objs := σ.objs.set id (rd (rH s)) ++ l, toks := σ.toks ++ m, rows := σ.rows ++ r }) ?_ (fun av σ' h => h) (by simp [AV.under, aZ, iR, m4]) (yU _ _)
 have hs := cP h
 have hlt := cR h
 have ho1 : ∀ r, (σ.objs ++ r)[id]? = some (rd s) := fun r => by rw [List.getElem?_append_left hlt]; exact h
 have ho2 : ∀ x r, (σ.objs.set id x ++ r)[id]? = some x := fun x r => by rw [List.getElem?_append_left (by simpa using hlt)]; exact hs x
 have ho3 : ∀ x r, (σ.objs ++ r).set id x = σ.objs.set id x ++ r := fun x r => List.set_append_left _ _ hlt
 have ho4 : ∀ x y r, (σ.objs.set id y ++ r).set id x = σ.objs.set id x ++ r := fun x y r => by rw [List.set_append_left _ _ (by simpa using hlt), List.set_set]
 have hm := wW (jW 1 (s4S s))
 have hgc : ∀ (k : Nat) (b : Bool) (cs : List AV) (n : Nat), (grA k 2 b cs n).bA = true := fun k b cs n => by cases b <;> rfl
 simp only [AV.bA] at hgc
 have hdr : ∀ f : Nat → AV, List.drop 2 (List.map f (List.range 2)) = [] := fun _ => rfl
 have hdr5 : ∀ f : Nat → AV, List.drop 5 (List.map f (List.range 5)) = [] := fun _ => rfl
 have hR : ∀ (L : List Per) (k : Nat) (τ : St), L.length ≤ 255 → (∀ x ∈ L, x.l < 2 ^ 64 ∧ x.c.length ≤ 255) → aB Tryz.prog 32 [.agg [.v (.int .u8 (be (dG 1 s))), .v (.int .u64 (be (dG 8 (bX 1 s)))), .v (.int .u64 (be (dG 8 (bX 8 (bX 1 s))))), .sl 5 (aL (fX (bX 8 (bX 8 (bX 1 s))))) (fX (bX 8 (bX 8 (bX 1 s)))).length .shut, grA k 2 (iD L.length) (eN L) L.length]] τ (fun av σ' => av = .v (.bool (bJ (pE s L))) ∧ τ = σ') :=
  fun L k τ hl hx => iS (.cons (WkL.agg Ee) .nil) (yX (GP hl hx))
 have F := And.intro ho1 (And.intro ho2 (And.intro ho3 (And.intro ho4 (And.intro hlt (And.intro hdr (And.intro hdr5 (And.intro hgc (True.intro))))))))
 refine aA Tryz.func60 rfl rfl rfl ?_; refine sr fun _ hJ2 => ?_; apply hJ2; refine sr fun _ hJ4 => ?_; refine ca (c := m6 (ho1 _)) (k := ?_); rintro _ _ ⟨rfl, rfl⟩; (repeat first | simp [F] | simp (disch := omega) only [wC, if_pos, if_neg]); refine ca (c := wF (ho2 _ _)) (k := ?_); rintro _ _ ⟨rfl, rfl⟩; (repeat first | simp [F] | simp (disch := omega) only [wC, if_pos, if_neg]); refine ca (c := wF (ho2 _ _)) (k := ?_); rintro _ _ ⟨rfl, rfl⟩; (repeat first | simp [F] | simp (disch := omega) only [wC, if_pos, if_neg]); refine ca (c := w7 (ho2 _ _)) (k := ?_); rintro _ _ ⟨rfl, rfl⟩; (repeat first | simp [F] | simp (disch := omega) only [wC, if_pos, if_neg]); apply hJ4; refine sq fun K5 hK5 => ?_; refine sr fun _ hJ7 => ?_; refine ca (c := m6 (ho2 _ _)) (k := ?_); rintro _ _ ⟨rfl, rfl⟩; (repeat first | simp [F] | simp (disch := omega) only [wC, if_pos, if_neg]); apply hJ7; refine aH ?_; refine cZ (X := TSt) [0, 2, 3] (fun q ρ σ1 => (q.m + q.l.length ≤ 255) ∧ (∀ x ∈ q.l, x.l < 2 ^ 64 ∧ x.c.length ≤ 255) ∧ (o6 q.m q.s q.l = sU s) ∧ (ρ 4 = .v (.int .u8 q.m)) ∧ (σ1 = { σ with objs := σ.objs.set id (rd q.s) ++ [[.v (.int .u8 0), .v (.int .u64 0), .v (.int .u64 0), .sl 0 [] 0 .full, .sl 0 [] 0 .full], [.v (.int .u8 (be (dG 1 s))), .v (.int .u64 (be (dG 8 (bX 1 s)))), .v (.int .u64 (be (dG 8 (bX 8 (bX 1 s))))), .sl 5 (aL (fX (bX 8 (bX 8 (bX 1 s))))) (fX (bX 8 (bX 8 (bX 1 s)))).length .shut, grA σ.toks.length 2 (iD q.l.length) (eN q.l) q.l.length]], toks := σ.toks ++ grT (iD q.l.length) q.l.length })) (fun q => q.m) (⟨be (dG 1 (s4S s)), bX 1 (s4S s), []⟩) ?st1 ?rd1
 case st1 =>
  refine ⟨?_, ?_, ?_, lp, ?_⟩
  · simp
    omega
  · simp
  · rfl
  · simp [F, s4S]
 case rd1 =>
  rintro q ρ1 σ1 hF1 ⟨hm, hx, hg, h4, hσ⟩; obtain rfl := hσ.symm
  have f1 := dX hF1
  (try simp [dW, F] at f1); replace F := aF h4 F; (try replace F := aF f1 F); refine sq fun K8 hK8 => ?_; refine sqc (X := Unit) [0, 2, 3, 4] (fun k ρ σ1 => (ρ 22 = .v (.bool (decide (0 < q.m) && !q.s.isNone))) ∧ (σ1 = { σ with objs := σ.objs.set id (rd q.s) ++ [[.v (.int .u8 0), .v (.int .u64 0), .v (.int .u64 0), .sl 0 [] 0 .full, .sl 0 [] 0 .full], [.v (.int .u8 (be (dG 1 s))), .v (.int .u64 (be (dG 8 (bX 1 s)))), .v (.int .u64 (be (dG 8 (bX 8 (bX 1 s))))), .sl 5 (aL (fX (bX 8 (bX 8 (bX 1 s))))) (fX (bX 8 (bX 8 (bX 1 s)))).length .shut, grA σ.toks.length 2 (iD q.l.length) (eN q.l) q.l.length]], toks := σ.toks ++ grT (iD q.l.length) q.l.length })) ?cy9 ?cx9
  case cy9 =>
   rintro k ρCr3 σ1 hFCr3 ⟨h22, hσ⟩; obtain rfl := hσ.symm
   have fCr3 := dX hFCr3
   (try simp [dW, F] at fCr3); replace F := aF h22 F; (try replace F := aF fCr3 F); refine cs (t := (decide (0 < q.m) && !q.s.isNone)) (fun c22 => ?_) (fun c22 => ?_)
   · (try exact aG c22); all_goals have c22p := c22; try simp [F] at c22p
     all_goals
      replace F := aF c22 F; (try replace F := aF c22p F); refine aD ?_; apply hK8; refine sq fun K10 hK10 => ?_; refine aH ?_
      obtain ⟨m, S, L⟩ := q
      simp only at hm hx hg h4
      have hmS : 0 < m ∧ ¬ S = none := by have h := c22; simp at h; exact ⟨h.1, by intro e; rw [e] at h; simp at h⟩
      have hnx := Cb (l := L) hmS.1 hmS.2
      have hP : eN (L ++ [C3 S]) = eN L ++ [.v (.int .u64 (be (dG 8 S))), .sl 5 (aL (fX (bX 8 S))) (fX (bX 8 S)).length .shut] := by rw [← sB]; rfl
      have hLl : L.length ≤ 254 := by omega
      have happ : ∀ objs, dA Tryz.prog 24 (grA σ.toks.length 2 (iD L.length) (eN L) L.length) (.sl 2 [.v (.int .u64 (be (dG 8 S))), .sl 5 (aL (fX (bX 8 S))) (fX (bX 8 S)).length .shut] 1 .full) ⟨objs, σ.toks ++ grT (iD L.length) L.length, σ.gl, σ.rows⟩ = some (grA σ.toks.length 2 true (eN L ++ [.v (.int .u64 (be (dG 8 S))), .sl 5 (aL (fX (bX 8 S))) (fX (bX 8 S)).length .shut]) (L.length + 1), ⟨objs, σ.toks ++ grT true (L.length + 1), σ.gl, σ.rows⟩) := fun objs => kC elemT_24 ti_75 (by decide) rfl LV (.inl rfl) (by simp [fZ]; omega) (by simp [maxLen]; omega)
      have hwm : IntKind.u8.wrap ((m : Int) - 1) = ((m - 1 : Nat) : Int) := by rw [wN (by omega)]; omega
      replace F := aF happ F
      refine bQ (by kernel_rfl) fun J11 hJ11 => ?_
      refine q2 0 ?_; refine q2 1 ?_; refine q2 2 ?_; refine q2 4 ?_; refine dc 3 rfl (c := wF (ho2 _ _)) (k := ?_); rintro _ _ ⟨rfl, rfl⟩
      refine ⟨by first | exact fun _ _ h => h | (refine aI [4, 1, 0] (by kernel_rfl) ?_; (repeat' first | exact ln2 | refine lc ?_ ?_) <;> constructor <;> first | rfl | (simp [F]; done)), ?_⟩
      (repeat first | simp [F] | simp (disch := omega) only [wC, if_pos, if_neg]); refine dc 5 rfl (c := w7 (ho2 _ _)) (k := ?_); rintro _ _ ⟨rfl, rfl⟩
      refine ⟨by first | exact fun _ _ h => h | (refine aI [1, 0] (by kernel_rfl) ?_; (repeat' first | exact ln2 | refine lc ?_ ?_) <;> constructor <;> first | rfl | (simp [F]; done)), ?_⟩
      (repeat first | simp [F] | simp (disch := omega) only [wC, if_pos, if_neg]); refine q2 6 ?_; refine q2 7 ?_; refine dop 8 rfl ?_; repeat (first | simp [F] | simp (disch := omega) only [wC, if_pos, if_neg])
      refine ⟨by first | exact fun _ _ h => h | (refine aI [6, 0] (by kernel_rfl) ?_; (repeat' first | exact ln2 | refine lc ?_ ?_) <;> constructor <;> first | rfl | (simp [F]; done)), ?_⟩
      refine q2 9 ?_; refine dop 10 rfl ?_; (repeat first | simp [F] | simp (disch := omega) only [wC, if_pos, if_neg]); refine ⟨ln, ?_⟩; refine dd ?_; apply hJ11; apply hK10; replace F := aF hwm F; refine rg' (h := fun J12 hJ12 => ?_); apply hJ12; refine ⟨(⟨m - 1, Ie S, L ++ [C3 S]⟩), ⟨kp, ?_, ?_, ?_, lp, ?_⟩, ?_⟩
      · simp
        omega
      · intro x hxm
        rcases List.mem_append.1 hxm with h | h
        · exact hx x h
        · simp at h; subst h; exact IW S
      · rw [← hg]
        exact hnx.symm
      · simp [F, hP, Ie]
      · simp
        omega
   (try exact aG c22); all_goals have c22p := c22; try simp [F] at c22p
   all_goals
    replace F := aF c22 F; try replace F := aF c22p F
    have he : sU s = (q.l, q.s) := by rw [← hg]; exact CB (by have h := c22; simp at h; by_cases h0 : q.m = 0; exact .inl h0; exact .inr (h (by omega)))
    have hql : q.l.length ≤ 255 := by omega
    refine bO ?_; apply hK5; refine sq fun K13 hK13 => ?_; refine sr fun _ hJ15 => ?_; refine ca (c := hR q.l _ _ hql hx) (k := ?_); rintro _ _ ⟨rfl, rfl⟩; (repeat first | simp [F] | simp (disch := omega) only [wC, if_pos, if_neg]); apply hJ15; refine cs (fun c37 => ?_) (fun c37 => ?_)
    · (try exact aG c37); all_goals have c37p := c37; try simp [F] at c37p
      all_goals
       replace F := aF c37 F; (try replace F := aF c37p F); refine rg' (h := fun J16 hJ16 => ?_); refine ca (c := nG (ho2 _ _)) (k := ?_); rintro _ _ ⟨rfl, rfl⟩; (repeat first | simp [F] | simp (disch := omega) only [wC, if_pos, if_neg]); apply hJ16; apply hK13; refine sq fun K17 hK17 => ?_; refine sr fun _ hJ19 => ?_; refine ca (c := lG (ho2 _ _)) (k := ?_); rintro _ _ ⟨rfl, rfl⟩; (repeat first | simp [F] | simp (disch := omega) only [wC, if_pos, if_neg]); apply hJ19; refine cs (fun c41 => ?_) (fun c41 => ?_)
       · (try exact aG c41); all_goals have c41p := c41; try simp [F] at c41p
         all_goals
          replace F := aF c41 F; (try replace F := aF c41p F); refine sr fun _ hJ21 => ?_; apply hJ21; refine bZ ?_; (try simp only [eQ, bK, cK]); refine kZ (h := ?_)
          obtain ⟨e1, e2⟩ := u0 he (.inl (by simpa using c37))
          rw [e1, e2]
          refine gcr (τ := { σ with objs := σ.objs.set id (rd none) }) (hA := ?_); exact WkL.agg (Bk rfl)
       (try exact aG c41); all_goals have c41p := c41; try simp [F] at c41p
       all_goals
        replace F := aF c41 F; (try replace F := aF c41p F); refine aD ?_; apply hK17; refine sr fun _ hJ23 => ?_; apply hJ23; refine bZ ?_; (try simp only [eQ, bK, cK]); refine kZ (h := ?_)
        obtain ⟨e1, e2⟩ := u0 he (.inl (by simpa using c37))
        rw [e1, e2]
        refine gcr (τ := { σ with objs := σ.objs.set id (rd none) }) (hA := ?_); exact WkL.agg (Bk rfl)
    (try exact aG c37); all_goals have c37p := c37; try simp [F] at c37p
    all_goals
     replace F := aF c37 F; (try replace F := aF c37p F); refine aD ?_; apply hK13; refine sq fun K24 hK24 => ?_; refine sr fun _ hJ26 => ?_; refine ca (c := lG (ho2 _ _)) (k := ?_); rintro _ _ ⟨rfl, rfl⟩; (repeat first | simp [F] | simp (disch := omega) only [wC, if_pos, if_neg]); apply hJ26; refine cs (fun c41 => ?_) (fun c41 => ?_)
     · (try exact aG c41); all_goals have c41p := c41; try simp [F] at c41p
       all_goals
        replace F := aF c41 F; (try replace F := aF c41p F); refine sr fun _ hJ28 => ?_; apply hJ28; refine bZ ?_; (try simp only [eQ, bK, cK]); refine kZ (h := ?_)
        obtain ⟨e1, e2⟩ := u0 he (.inr (by simpa using c41))
        rw [e1, e2]
        refine gcr (τ := { σ with objs := σ.objs.set id (rd none) }) (hA := ?_); exact WkL.agg (Bk rfl)
     (try exact aG c41); all_goals have c41p := c41; try simp [F] at c41p
     all_goals
      replace F := aF c41 F; (try replace F := aF c41p F); refine aD ?_; apply hK24; refine sr fun _ hJ30 => ?_; apply hJ30; refine bZ ?_; (try simp only [eQ, bK, cK]); refine kZ (h := ?_)
      obtain ⟨e1, e2⟩ := Ai he (by simpa using c37) (by intro e; rw [e] at c41; simp at c41)
      rw [e1, e2]
      refine gcr (τ := { σ with objs := σ.objs.set id (rd q.s) }) (hA := ?_); exact WkL.agg Ee
  case cx9 =>
   intro K9 hK9
   refine rg' (h := fun J31 hJ31 => ?_); refine gs 18 (fun g3_2 => ?_) (fun g3_2 => ?_)
   · (try exact aG g3_2); all_goals have g3_2p := g3_2; try simp [F] at g3_2p
     all_goals
      replace F := aF g3_2 F; (try replace F := aF g3_2p F); refine go2 (k := ?_); refine ca (c := lG (ho2 _ _)) (k := ?_); rintro _ _ ⟨rfl, rfl⟩; (repeat first | simp [F] | simp (disch := omega) only [wC, if_pos, if_neg]); refine go2 (k := ?_); apply hJ31; refine hK9 (()) _ _ ⟨kp, ?_, lp⟩
      · have h := g3_2
        simp at h
        simp [F, h]
   (try exact aG g3_2); all_goals have g3_2p := g3_2; try simp [F] at g3_2p
   all_goals
    replace F := aF g3_2 F; (try replace F := aF g3_2p F); (iterate 3 refine no2 (k := ?_)); apply hJ31; refine hK9 (()) _ _ ⟨kp, ?_, lp⟩
    · have h := g3_2
      simp at h
      simp [F, h]

end Go.Proofs.YtjpnjhlfieklfaaGreat

/-
  What was laid of a plan reads back: the plain law.
-/
namespace Go.Proofs.YtjpnjhlfieklfaaGreat
set_option linter.unnecessarySimpa false
set_option maxRecDepth 100000
set_option linter.unusedSimpArgs false
set_option linter.unusedVariables false
open Go Go.Vm

theorem oL {n : Nat} (h : n < 2 ^ 64) : be (dZ 8 n) = n := by
 have e : dZ 8 n = [UInt8.ofNat (n / 2 ^ 56 % 256), UInt8.ofNat (n / 2 ^ 48 % 256), UInt8.ofNat (n / 2 ^ 40 % 256), UInt8.ofNat (n / 2 ^ 32 % 256), UInt8.ofNat (n / 2 ^ 24 % 256), UInt8.ofNat (n / 2 ^ 16 % 256), UInt8.ofNat (n / 2 ^ 8 % 256), UInt8.ofNat (n / 2 ^ 0 % 256)] := rfl
 rw [e]
 have hb : ∀ x, (UInt8.ofNat (x % 256)).toNat = x % 256 := fun x => by rw [toNat_ofNat (by omega)]
 simp only [be, List.foldl_cons, List.foldl_nil, hb]
 omega

def uV (x : Per) : List UInt8 := dZ 8 x.l ++ kH x.c

def fA (l : List Per) : List UInt8 := l.flatMap uV

def nS (p : Pln) : List UInt8 := p.k :: (dZ 8 p.s ++ (dZ 8 p.e ++ (kH p.tot ++ (UInt8.ofNat p.ps.length :: fA p.ps))))

theorem AK (l : List Per) (x : Per) : fA (l ++ [x]) = fA l ++ uV x := by simp [fA]

theorem z8 {l : List bB} (h : l.length ≤ 8) : (kH l).length ≤ 273 := by
 have := qN l
 simp only [kH, List.length_cons]; omega

theorem pT : ∀ l : List Per, (∀ x ∈ l, x.c.length ≤ 8) → (fA l).length ≤ 281 * l.length
 | [], _ => by simp [fA]
 | x :: l, h => by
   have h1 := pT l (fun y hy => h y (by simp [hy]))
   have h2 := z8 (h x (by simp))
   have e : fA (x :: l) = uV x ++ fA l := rfl
   rw [e]
   simp only [uV, List.length_append, gF, List.length_cons]
   omega

theorem xG : ∀ (L : List Per) (q : List UInt8) (l : List Per), (∀ x ∈ L, x.l < 2 ^ 64 ∧ bM x.c) → o6 L.length (some (fA L ++ q)) l = (l ++ L, some q)
 | [], q, l, _ => by simp [o6, fA]
 | x :: L, q, l, h => by
   obtain ⟨h1, h2⟩ := h x (by simp)
   have hl := eI h2
   obtain ⟨t1, t2⟩ := uC (E := dZ 8 x.l) (q := kH x.c ++ (fA L ++ q)) (n := 8) (gF _ _)
   have e : fA (x :: L) ++ q = dZ 8 x.l ++ (kH x.c ++ (fA L ++ q)) := by simp [fA, uV]
   rw [e, List.length_cons, o6, Ie, C3, t1, t2, oL h1, wL (by omega) h2, uR (by omega) h2]
   rw [xG L q _ (fun y hy => h y (by simp [hy]))]
   simp

theorem HP {p : Pln} (h1 : p.s < 2 ^ 64) (h2 : p.e < 2 ^ 64) (h3 : bM p.tot) (h4 : p.ps.length ≤ 255) (h5 : ∀ x ∈ p.ps, x.l < 2 ^ 64 ∧ bM x.c) (hr : bJ p = true) (q : List UInt8) :
  xZ (some (nS p ++ q)) = p ∧ rH (some (nS p ++ q)) = some q := by
 obtain ⟨k, s, e, t, ps⟩ := p
 simp only at h1 h2 h3 h4 h5
 have hl := eI h3
 obtain ⟨a1, a2⟩ := lO k (dZ 8 s ++ (dZ 8 e ++ (kH t ++ (UInt8.ofNat ps.length :: (fA ps ++ q)))))
 obtain ⟨b1, b2⟩ := uC (E := dZ 8 s) (q := dZ 8 e ++ (kH t ++ (UInt8.ofNat ps.length :: (fA ps ++ q)))) (n := 8) (gF _ _)
 obtain ⟨c1, c2⟩ := uC (E := dZ 8 e) (q := kH t ++ (UInt8.ofNat ps.length :: (fA ps ++ q))) (n := 8) (gF _ _)
 have d1 := uR (by omega : t.length ≤ 255) h3 (UInt8.ofNat ps.length :: (fA ps ++ q))
 have d2 := wL (by omega : t.length ≤ 255) h3 (UInt8.ofNat ps.length :: (fA ps ++ q))
 obtain ⟨e1, e2⟩ := lO (UInt8.ofNat ps.length) (fA ps ++ q)
 have hcnt : be [UInt8.ofNat ps.length] = ps.length := by
  have : (UInt8.ofNat ps.length).toNat = ps.length := toNat_ofNat (by omega)
  simp [be, this]
 have hE : nS ⟨k, s, e, t, ps⟩ ++ q = k :: (dZ 8 s ++ (dZ 8 e ++ (kH t ++ (UInt8.ofNat ps.length :: (fA ps ++ q))))) := by simp [nS]
 rw [hE]
 have hR : sU (some (k :: (dZ 8 s ++ (dZ 8 e ++ (kH t ++ (UInt8.ofNat ps.length :: (fA ps ++ q))))))) = (ps, some q) := by
  unfold sU s4S
  rw [a1, b1, c1, d1, e1, e2, hcnt, xG ps q [] h5]
  rfl
 have hP : pE (some (k :: (dZ 8 s ++ (dZ 8 e ++ (kH t ++ (UInt8.ofNat ps.length :: (fA ps ++ q))))))) ps = ⟨k, s, e, t, ps⟩ := by
  unfold pE wY
  rw [a1, a2, b1, b2, c1, c2, d2, oL h1, oL h2]
  rfl
 have := Ai hR (by rw [hP]; exact hr) (by simp)
 rw [hP] at this
 exact this

end Go.Proofs.YtjpnjhlfieklfaaGreat

/-
  A plan is laid..
-/
namespace Go.Proofs.YtjpnjhlfieklfaaGreat
set_option linter.unnecessarySimpa false
set_option maxRecDepth 100000
set_option linter.unusedSimpArgs false
set_option linter.unusedVariables false
open Go Go.Vm
attribute [local simp] dK aJ dJ opA bD bH cJ bP ofValue dC plain aR aS bY b6 cA cC b7 cE b8 b9 cX iC cB cH cG cD bU aV aU bL cS aW dN dP bI bC cN gI bR dD bW AV.cells AV.bA dE cI e6 bF aY cQ dI dS dY cL aO dR dQ gM fU fR cW cU cM List.getElem?_cons_zero List.getElem?_cons_succ o7 lZ

def WQ (id : Nat) (σ : St) (k : Nat) (l A : List UInt8) : AV → St → Prop := fun av σ' => av = .ptr id 0 ∧ ∃ k' tk', Wr σ.toks k l tk' k' A ∧ σ' = { σ with objs := σ.objs.set id [wrA k' A], toks := tk' }

theorem Im {σ : St} {id k : Nat} {l A : List UInt8} {b : UInt8} (hA : A = l ++ [b]) (h : σ.objs[id]? = some [wrA k l]) (ht : Tk σ.toks k l) (hl : l.length ≤ 300000) :
  aB Tryz.prog 97 [.ptr id 0, .v (.int .u8 b.toNat)] σ (WQ id σ k l A) := by
 subst hA; exact BV h ht (by omega)

theorem Di {σ : St} {id k n : Nat} {l A : List UInt8} (hA : A = l ++ dZ 8 n) (h : σ.objs[id]? = some [wrA k l]) (ht : Tk σ.toks k l) (hn : n < 2 ^ 64) (hl : l.length ≤ 300000) :
  aB Tryz.prog 96 [.ptr id 0, .v (.int .u64 n)] σ (WQ id σ k l A) := by
 subst hA; exact Cp h ht hn (by omega)

theorem EN {σ : St} {id k : Nat} {l A : List UInt8} {L : List bB} {tL : eK} (hA : A = l ++ kH L) (h : σ.objs[id]? = some [wrA k l]) (ht : Tk σ.toks k l) (hL : L.length ≤ 255) (hl : l.length ≤ 300000) :
  aB Tryz.prog 125 [.ptr id 0, .sl 5 (aL L) L.length tL] σ (WQ id σ k l A) := by
 subst hA; exact FN h ht hL (by omega)

structure LSt where
 i : Nat
 k : Nat
 tk : List Nat

set_option maxHeartbeats 1600000 in
attribute [local simp] cV List.getElem?_cons_zero List.getElem?_cons_succ iR oA eY oF yZ in
theorem IC {σ : St} {id k : Nat} {l A : List UInt8} {p : Pln} (hA : A = l ++ nS p) (h : σ.objs[id]? = some [wrA k l]) (ht : Tk σ.toks k l) (hl : l.length ≤ 100000)
  (p1 : p.s < 2 ^ 64) (p2 : p.e < 2 ^ 64) (p3 : p.tot.length ≤ 8) (p4 : p.ps.length ≤ 255) (p5 : ∀ x ∈ p.ps, x.l < 2 ^ 64 ∧ x.c.length ≤ 8) :
  aB Tryz.prog 99 [.ptr id 0, .agg (iR p)] σ (fun av σ' => av = .tup [] ∧ ∃ k' tk', Wr σ.toks k l tk' k' A ∧ σ' = { σ with objs := σ.objs.set id [wrA k' A], toks := tk' }) := by
 have hlt := cR h
 refine bV (qF (A := .tup []) (Pi := fun i : Nat × List Nat => Wr σ.toks k l i.2 i.1 A) (τ := fun i => { σ with objs := σ.objs.set id [wrA i.1 A], toks := i.2 }) ?_ (by simp [AV.gcO, tN]) (fun _ => by simp) (fun _ => rfl) (fun _ => A9 (v7 _) (oF _ _ _)) (fun _ => sX _)) (fun av σ' ⟨h1, i, h2, h3⟩ => ⟨h1, i.1, i.2, h2, h3⟩)
 have hs := cP h
 obtain ⟨pk, ps, pe, pt, pp⟩ := p
 simp only at p1 p2 p3 p4 p5
 obtain ⟨c, hc⟩ : ∃ c, c = UInt8.ofNat pp.length := ⟨_, rfl⟩
 have hcn : c.toNat = pp.length := by rw [hc]; exact toNat_ofNat (by omega)
 have hw : IntKind.u8.wrap (pp.length : Int) = (c.toNat : Int) := by rw [wrap_u8, hcn, Nat.mod_eq_of_lt (by omega)]
 obtain ⟨A1, hA1⟩ : ∃ A1, A1 = l ++ [pk] := ⟨_, rfl⟩
 obtain ⟨A2, hA2⟩ : ∃ A2, A2 = A1 ++ dZ 8 ps := ⟨_, rfl⟩
 obtain ⟨A3, hA3⟩ : ∃ A3, A3 = A2 ++ dZ 8 pe := ⟨_, rfl⟩
 obtain ⟨A4, hA4⟩ : ∃ A4, A4 = A3 ++ kH pt := ⟨_, rfl⟩
 obtain ⟨A5, hA5⟩ : ∃ A5, A5 = A4 ++ [c] := ⟨_, rfl⟩
 have n1 : A1.length = l.length + 1 := by rw [hA1]; simp
 have n2 : A2.length = l.length + 9 := by rw [hA2, List.length_append, gF, n1]
 have n3 : A3.length = l.length + 17 := by rw [hA3, List.length_append, gF, n2]
 have n4 : A4.length ≤ l.length + 290 := by have := z8 p3; rw [hA4, List.length_append, n3]; omega
 have n5 : A5.length ≤ l.length + 291 := by rw [hA5, List.length_append]; simp; omega
 obtain ⟨Bf, hBf⟩ : ∃ Bf : Nat → List UInt8, Bf = fun i => A5 ++ fA (pp.take i) := ⟨_, rfl⟩
 have hB0 : A5 = Bf 0 := by rw [hBf]; simp [fA]
 have hBl : ∀ i, i ≤ pp.length → (Bf i).length ≤ 200000 := fun i hi => by
  have := pT (pp.take i) (fun x hx => (p5 x (List.mem_of_mem_take hx)).2)
  have e : (pp.take i).length = i := by simp; omega
  rw [hBf]; simp only [List.length_append]; rw [e] at this; omega
 have hBs : ∀ i (hi : i < pp.length), Bf (i + 1) = Bf i ++ dZ 8 pp[i].l ++ kH pp[i].c := fun i hi => by
  rw [hBf]; simp only; rw [← List.take_append_getElem hi, AK]; simp [uV]
 have hBA : Bf pp.length = A := by
  rw [hA, hBf]; simp only; rw [List.take_length, hA5, hA4, hA3, hA2, hA1, hc]; simp [nS]
 clear hBf hA
 have ho1 : ∀ r, (σ.objs ++ r)[id]? = some [wrA k l] := fun r => by rw [List.getElem?_append_left hlt]; exact h
 have ho2 : ∀ x r, (σ.objs.set id x ++ r)[id]? = some x := fun x r => by rw [List.getElem?_append_left (by simpa using hlt)]; exact hs x
 have ho3 : ∀ x r, (σ.objs ++ r).set id x = σ.objs.set id x ++ r := fun x r => List.set_append_left _ _ hlt
 have ho4 : ∀ x y r, (σ.objs.set id y ++ r).set id x = σ.objs.set id x ++ r := fun x y r => by rw [List.set_append_left _ _ (by simpa using hlt), List.set_set]
 have hlt1 : id < σ.objs.length + 1 := by omega
 have htk : ∀ (x a b : List AV), List.take (σ.objs.length + 1) (σ.objs.set id x ++ [a, b]) = σ.objs.set id x ++ [a] := fun x a b => by
  have := List.take_length_add_append (l₁ := σ.objs.set id x) (l₂ := [a, b]) 1
  rw [List.length_set] at this
  exact this
 have F := And.intro hw (And.intro ho1 (And.intro ho2 (And.intro ho3 (And.intro ho4 (And.intro hlt (And.intro hlt1 (And.intro htk (True.intro))))))))
 refine aA Tryz.func99 rfl rfl rfl ?_; refine sr fun _ hJ2 => ?_; apply hJ2; refine sq fun K3 hK3 => ?_
 refine bQ (by kernel_rfl) fun J4 hJ4 => ?_
 refine q2 0 ?_; refine q2 1 ?_; refine q2 2 ?_; refine q2 4 ?_; refine q2 5 ?_; refine q2 7 ?_; refine q2 8 ?_; refine q2 10 ?_; refine q2 11 ?_; refine q2 13 ?_; refine q2 14 ?_; refine q2 15 ?_; refine q2 16 ?_
 refine dc 3 rfl (c := Im hA1 (ho1 _) ht (by omega)) (k := ?_)
 rintro _ _ ⟨rfl, k1, tk1, hw1, rfl⟩
 refine ⟨by first | exact fun _ _ h => h | (refine aI [16, 15, 14, 13, 11, 10, 8, 7, 5, 4, 1] (by kernel_rfl) ?_; (repeat' first | exact ln2 | refine lc ?_ ?_) <;> constructor <;> first | rfl | (simp [F]; done)), ?_⟩
 repeat (first | simp [F] | simp (disch := omega) only [wC, if_pos, if_neg])
 refine dc 6 rfl (c := Di hA2 (ho2 _ _) hw1.tok p1 (by omega)) (k := ?_)
 rintro _ _ ⟨rfl, k2, tk2, hw2, rfl⟩
 refine ⟨by first | exact fun _ _ h => h | (refine aI [16, 15, 14, 13, 11, 10, 8, 7, 4, 1] (by kernel_rfl) ?_; (repeat' first | exact ln2 | refine lc ?_ ?_) <;> constructor <;> first | rfl | (simp [F]; done)), ?_⟩
 repeat (first | simp [F] | simp (disch := omega) only [wC, if_pos, if_neg])
 refine dc 9 rfl (c := Di hA3 (ho2 _ _) hw2.tok p2 (by omega)) (k := ?_)
 rintro _ _ ⟨rfl, k3, tk3, hw3, rfl⟩
 refine ⟨by first | exact fun _ _ h => h | (refine aI [16, 15, 14, 13, 11, 10, 7, 4, 1] (by kernel_rfl) ?_; (repeat' first | exact ln2 | refine lc ?_ ?_) <;> constructor <;> first | rfl | (simp [F]; done)), ?_⟩
 repeat (first | simp [F] | simp (disch := omega) only [wC, if_pos, if_neg])
 refine dc 12 rfl (c := EN hA4 (ho2 _ _) hw3.tok (by omega) (by omega)) (k := ?_)
 rintro _ _ ⟨rfl, k4, tk4, hw4, rfl⟩
 refine ⟨by first | exact fun _ _ h => h | (refine aI [16, 15, 14, 13, 10, 7, 4, 1] (by kernel_rfl) ?_; (repeat' first | exact ln2 | refine lc ?_ ?_) <;> constructor <;> first | rfl | (simp [F]; done)), ?_⟩
 repeat (first | simp [F] | simp (disch := omega) only [wC, if_pos, if_neg])
 refine dc 17 rfl (c := Im hA5 (ho2 _ _) hw4.tok (by omega)) (k := ?_)
 rintro _ _ ⟨rfl, k5, tk5, hw5, rfl⟩
 refine ⟨by first | exact fun _ _ h => h | (refine aI [15, 14, 13, 10, 7, 4, 1] (by kernel_rfl) ?_; (repeat' first | exact ln2 | refine lc ?_ ?_) <;> constructor <;> first | rfl | (simp [F]; done)), ?_⟩
 (repeat first | simp [F] | simp (disch := omega) only [wC, if_pos, if_neg]); refine dd ?_; apply hJ4; apply hK3; refine sr fun _ hJ6 => ?_; apply hJ6; refine aH ?_; refine eO (X := LSt) [0, 25, 26] (fun q ρ σ1 => (q.i ≤ pp.length) ∧ (Wr σ.toks k l q.tk q.k (Bf q.i)) ∧ (ρ 27 = .v (.int .i64 q.i)) ∧ (σ1 = { σ with objs := σ.objs.set id [wrA q.k (Bf q.i)] ++ [[.v (.int .u8 pk.toNat), .v (.int .u64 ps), .v (.int .u64 pe), .sl 5 (aL pt) pt.length .shut, .sl 2 (eN pp) pp.length .shut]], toks := q.tk })) (fun q => pp.length - q.i) (⟨0, k5, tk5⟩) ?st1 ?rd1
 case st1 =>
  refine ⟨lp, ?_, lp, ?_⟩
  · rw [← hB0]
    exact (((hw1.trans hw2).trans hw3).trans hw4).trans hw5
  · simp only [← hB0]
 case rd1 =>
  rintro q ρ1 σ1 hF1 ⟨hj, hq, h27, hσ⟩; obtain rfl := hσ.symm
  have f1 := dX hF1
  (try simp [dW, F] at f1); replace F := aF h27 F; (try replace F := aF f1 F); refine sr fun _ hJ8 => ?_; apply hJ8; refine sq fun K9 hK9 => ?_; refine cs (fun c28 => ?_) (fun c28 => ?_)
  · (try exact aG c28); all_goals have c28p := c28; try simp [F] at c28p
    all_goals
     replace F := aF c28 F; (try replace F := aF c28p F); refine aD ?_; apply hK9; refine sq fun K10 hK10 => ?_; refine aH ?_; refine sq fun K11 hK11 => ?_
     have hlt2 : q.i < pp.length := by have h := c28; simp at h; omega
     have hat := jN hlt2
     have hb1 : q.i * 2 + 2 ≤ pp.length * 2 := by omega
     have hx5 := p5 _ (List.getElem_mem hlt2)
     have hBs1 := hBs _ hlt2
     have hBl1 := hBl q.i hj
     obtain ⟨x, hx⟩ : ∃ x, x = pp[q.i] := ⟨_, rfl⟩
     rw [← hx] at hat hx5 hBs1
     obtain ⟨xl, xc⟩ := x
     simp only at hx5 hBs1
     obtain ⟨C1, hC1⟩ : ∃ C1, C1 = Bf q.i ++ dZ 8 xl := ⟨_, rfl⟩
     rw [← hC1] at hBs1
     have nC : C1.length = (Bf q.i).length + 8 := by rw [hC1, List.length_append, gF]
     replace F := aF hlt2 F; replace F := aF hat F; replace F := aF hb1 F; refine rg' (h := fun J12 hJ12 => ?_); apply hJ12; apply hK11
     refine bQ (by kernel_rfl) fun J13 hJ13 => ?_
     refine q2 0 ?_; refine q2 1 ?_; refine q2 2 ?_; refine q2 4 ?_; refine q2 5 ?_
     refine dc 3 rfl (c := Di hC1 (ho2 _ _) hq.tok hx5.1 (by omega)) (k := ?_)
     rintro _ _ ⟨rfl, k6, tk6, hw6, rfl⟩
     refine ⟨by first | exact fun _ _ h => h | (refine aI [5, 4, 1] (by kernel_rfl) ?_; (repeat' first | exact ln2 | refine lc ?_ ?_) <;> constructor <;> first | rfl | (simp [F]; done)), ?_⟩
     repeat (first | simp [F] | simp (disch := omega) only [wC, if_pos, if_neg])
     refine dc 6 rfl (c := EN hBs1 (ho2 _ _) hw6.tok (by omega) (by omega)) (k := ?_)
     rintro _ _ ⟨rfl, k7, tk7, hw7, rfl⟩
     refine ⟨by first | exact fun _ _ h => h | (refine aI [4, 1] (by kernel_rfl) ?_; (repeat' first | exact ln2 | refine lc ?_ ?_) <;> constructor <;> first | rfl | (simp [F]; done)), ?_⟩
     (repeat first | simp [F] | simp (disch := omega) only [wC, if_pos, if_neg]); refine dd ?_; apply hJ13; apply hK10; refine rg' (h := fun J14 hJ14 => ?_); apply hJ14; refine ⟨gk, (⟨q.i + 1, k7, tk7⟩), ⟨kpG, lpG, ?_, lpG, ?_⟩, lpG⟩
     · exact (hq.trans hw6).trans hw7
     · simp [St.fD, F]
  (try exact aG c28); all_goals have c28p := c28; try simp [F] at c28p
  all_goals
   replace F := aF c28 F; (try replace F := aF c28p F); refine bO ?_; (try simp only [eQ, bK, cK, if_true]); refine gU rfl (.inl rfl) ?_
   have hii : q.i = pp.length := by have h := c28; simp at h; omega
   rw [hii, hBA] at hq
   rw [hii, hBA]
   exact ⟨(q.k, q.tk), hq, rfl, _, rfl⟩

end Go.Proofs.YtjpnjhlfieklfaaGreat

/-
  Accounts: their records, and what is kept of them.
-/
namespace Go.Proofs.YtjpnjhlfieklfaaGreat
set_option linter.unnecessarySimpa false
set_option maxRecDepth 100000
open Go Go.Vm
set_option linter.unusedSimpArgs false
set_option linter.unusedVariables false
attribute [local simp] dK aJ dJ opA bD bH cJ bP ofValue dC plain aR aS bY b6 cA cC b7 cE b8 b9 cX cB cH cG cD bU aV aU bL cS aW dN dP bI bC cN gI bR dD bW AV.cells AV.bA dE cI e6 bF aY cQ dI dS dY cL aO dR dQ cW cU cM List.getElem?_cons_zero List.getElem?_cons_succ fK fI fH fG fN fM fJ fL dF eT eF eZ
variable {Ru : UInt8 → List Pr}

structure Acc where
 a : UInt8
 q : Nat
 y : UInt8
 p : Pln
 f : UInt8
 k : Num
 r : Num

def Acc.Ok (x : Acc) : Prop := x.q < 2 ^ 64 ∧ x.p.Ok

def dM (x : Acc) : List AV := [.v (.int .u8 x.a.toNat), .v (.int .u64 x.q), .v (.int .u8 x.y.toNat), .v (.int .u8 x.p.k.toNat), .v (.int .u64 x.p.s), .v (.int .u64 x.p.e), .sl 5 (aL x.p.tot) x.p.tot.length .shut, .sl 2 (eN x.p.ps) x.p.ps.length .shut, .v (.int .u8 x.f.toNat), .v (.int .u64 (dL x.k.v 0 : Nat)), .v (.int .u64 (dL x.k.v 1 : Nat)), .v (.int .u64 (dL x.k.v 2 : Nat)), .v (.int .u64 (dL x.k.v 3 : Nat)), .v (.int .u64 (dL x.r.v 0 : Nat)), .v (.int .u64 (dL x.r.v 1 : Nat)), .v (.int .u64 (dL x.r.v 2 : Nat)), .v (.int .u64 (dL x.r.v 3 : Nat))]

def eR (l : List Acc) : List AV := l.flatMap dM

theorem oC (l : List Acc) : (eR l).length = l.length * 17 := kD dM 17 (fun _ => rfl) l

theorem Aq (l m : List Acc) : eR (l ++ m) = eR l ++ eR m := by simp [eR]

theorem xB (B : Bd) (v : Acc) : aZ B (dM v) = true := by simp [dM, aZ, AV.under, m4]

theorem lB (n : Nat) (v : Acc) : bG n (dM v) = true := by simp [dM, bG, AV.eH, eY]

theorem qJ (B : Bd) (l : List Acc) : aZ B (eR l) = true := iE (xB B) l

theorem mT (nb : Nat) (l : List Acc) : bG nb (eR l) = true := iF (lB nb) l

theorem xP {l : List Acc} {i : Nat} (h : i < l.length) : ∃ R, (eR l).drop (i * 17) = dM l[i] ++ R := ⟨_, tB dM 17 (fun _ => rfl) l i h⟩

theorem sK (v : Acc) : (∀ x ∈ dM v, AV.bA x = true) := fun x hx => by simp only [dM, List.mem_cons, List.not_mem_nil, or_false] at hx; rcases hx with rfl | rfl | rfl | rfl | rfl | rfl | rfl | rfl | rfl | rfl | rfl | rfl | rfl | rfl | rfl | rfl | rfl <;> rfl

def uG (x : Acc) : List UInt8 := dZ 8 x.q ++ (x.y :: x.f :: (kQ x.k.v ++ (kQ x.r.v ++ nS x.p)))

def jX (i : UInt8) : List UInt8 := [97, i]

def prA (x : Acc) : Pr := ⟨jX x.a, uG x⟩

def fB (x : Acc) : Prop := x.a.toNat < 200 ∧ x.y.toNat < 200 ∧ x.f.toNat < 200 ∧ bJ x.p = true ∧ (x.f = 0 ∨ x.p.k = 5) ∧ (x.f ≠ x.a ∨ x.p.k ≠ 5)

instance (x : Acc) : Decidable (fB x) := by unfold fB; exact inferInstance

theorem vL : ∀ {l : List Per} {e : Nat} {a : List bB} {r : Nat × List bB}, kG l e a = some r → ∀ x ∈ l, x.l ≤ 2 ^ 40 ∧ bM x.c
 | [], _, _, _, _, x, hx => absurd hx (by simp)
 | y :: l, e, a, r, h, x, hx => by
   rw [kG] at h
   split at h
   · cases h
   · rename_i hn
     split at h
     · rcases List.mem_cons.1 hx with rfl | hx
       · exact ⟨Nat.le_of_not_lt fun q => hn (.inr (.inl q)), Classical.byContradiction fun q => hn (.inr (.inr (.inr fun z => q z.2)))⟩
       · exact vL h x hx
     · cases h

theorem v9 : ∀ {l : List Per}, (∀ x ∈ l, x.l ≤ 2 ^ 40) → oT l ≤ l.length * 2 ^ 40
 | [], _ => by simp [oT]
 | x :: l, h => by
   have h1 := h x (by simp)
   have h2 := v9 (fun y hy => h y (List.mem_cons_of_mem _ hy))
   simp only [oT, List.length_cons, Nat.add_mul]; omega

structure Good (p : Pln) : Prop where
 tot : bM p.tot
 len : p.ps.length ≤ 16
 ps : ∀ x ∈ p.ps, x.l ≤ 2 ^ 40 ∧ bM x.c
 s : p.s < 2 ^ 64
 e : p.e < 2 ^ 64
 fit : p.s + oT p.ps < 2 ^ 64

theorem rV {p : Pln} (h : bJ p = true) (ho : p.Ok) : Good p := by
 have hz : ∀ {q : Pln}, q.ps = [] → q.Ok → bM q.tot → Good q := fun e o t => ⟨t, by rw [e]; simp, by rw [e]; simp, o.1, o.2.1, by rw [e]; simpa [oT] using o.1⟩
 unfold bJ at h
 split at h
 · rw [decide_eq_true_eq] at h; subst h; exact hz rfl ho Go.Vm.gV
 · split at h
   · cases h
   · rename_i hn
     have ht : bM p.tot := Classical.byContradiction fun q => hn (.inl fun z => q z.2)
     split at h
     · rw [decide_eq_true_eq] at h; exact hz h.2 ho ht
     · split at h
       · rw [decide_eq_true_eq] at h; exact hz h.2 ho ht
       · split at h
         · rw [decide_eq_true_eq] at h; exact hz h.2.2 ho ht
         · split at h
           · simp only [rB, Bool.and_eq_true, decide_eq_true_eq] at h
             have hf := vL h.2
             refine ⟨ht, h.1, hf, ho.1, ho.2.1, ?_⟩
             have hl := v9 (fun x hx => (hf x hx).1)
             have hs : p.s ≤ 2 ^ 40 := by
              have h2 := h.2
              cases hp : p.ps with
              | nil =>
                rw [hp, kG] at h2
                have e1 := congrArg Prod.fst (Option.some.inj h2)
                simp only at e1
                have : ¬ 2 ^ 40 < p.e := fun q => hn (.inr q)
                omega
              | cons y l =>
                rw [hp, kG] at h2
                split at h2
                · cases h2
                · rename_i hq
                  exact Nat.le_of_not_lt fun q => hq (.inr (.inr (.inl q)))
             have : p.ps.length * 2 ^ 40 ≤ 16 * 2 ^ 40 := Nat.mul_le_mul_right _ h.1
             omega
           · cases h

theorem E1 {p : Pln} (g : Good p) : (nS p).length ≤ 4800 := by
 have h1 := G7 g.tot
 have h2 := pT p.ps (fun x hx => eI (g.ps x hx).2)
 have := g.len
 simp only [nS, List.length_append, List.length_cons, gF]; omega

theorem yC {x : Acc} (g : Good x.p) : (uG x).length ≤ 4900 := by
 have := Cd x.k.h; have := Cd x.r.h; have := E1 g
 simp only [uG, List.length_append, List.length_cons, gF]; omega

theorem A7 (i : UInt8) : preB (jX i) [97] = true := by simp [preB, jX]

theorem Jo (i : UInt8) {c : UInt8} (h : c ≠ 97) : preB (jX i) [c] = false := by simp [jX, preB]; exact fun e => h e.symm

theorem Er (i j : UInt8) : ltB (jX i) (jX j) = decide (i.toNat < j.toNat) := by
 simp only [jX, ltB, if_true]
 by_cases e : i = j
 · subst e; simp
 · rw [if_neg e]

theorem yD {i j : UInt8} : jX i = jX j ↔ i = j := by simp [jX]

def lW (d : Acc) : List Acc → List Acc
 | [] => [d]
 | x :: l => if x.a = d.a then d :: l else if d.a.toNat < x.a.toNat then d :: x :: l else x :: lW d l

theorem B3 (d : Acc) : ∀ l : List Acc, gR (l.map prA) (jX d.a) (some (uG d)) = (lW d l).map prA
 | [] => rfl
 | x :: l => by
   have ih := B3 d l
   rw [List.map_cons, nI, lW]
   have hk : (prA x).k = jX x.a := rfl
   rw [hk]
   by_cases e : x.a = d.a
   · rw [if_pos (yD.2 e), if_pos e]; rfl
   · rw [if_neg (fun q => e (yD.1 q)), if_neg e, Er]
     by_cases e2 : d.a.toNat < x.a.toNat
     · rw [if_pos (decide_eq_true e2), if_pos e2]; rfl
     · rw [if_neg (by simpa using e2), if_neg e2, ih]; rfl

theorem BJ {d y : Acc} : ∀ {l : List Acc}, y ∈ lW d l → y = d ∨ y ∈ l
 | [], h => .inl (by simpa [lW] using h)
 | x :: l, h => by
   rw [lW] at h
   split at h
   · rcases List.mem_cons.1 h with h | h
     · exact .inl h
     · exact .inr (by simp [h])
   · split at h
     · rcases List.mem_cons.1 h with h | h
       · exact .inl h
       · exact .inr h
     · rcases List.mem_cons.1 h with h | h
       · exact .inr (by simp [h])
       · rcases BJ h with h | h
         · exact .inl h
         · exact .inr (by simp [h])

theorem BZ (d : Acc) : ∀ l : List Acc, (lW d l).length ≤ l.length + 1
 | [] => by simp [lW]
 | x :: l => by
   have ih := BZ d l
   rw [lW]
   split
   · simp
   · split
     · simp
     · simp only [List.length_cons]; omega

def Jt (x y : Acc) : Prop := x.a.toNat < y.a.toNat

structure dH (Ru : UInt8 → List Pr) (s : Sto) (L : List Acc) (n : Nat) : Prop where
 ok : s.Ok n
 pa : pl s.l [97] = L.map prA
 rt : ∀ x ∈ L, fB x ∧ x.Ok
 nl : L.length ≤ n
 rs : ∀ c, c ≠ 97 → pl s.l [c] = Ru c

theorem dH.nil : dH Rp0 eM.s [] 0 := ⟨tA, rfl, fun x h => absurd h (by simp), Nat.le_refl _, fun c h => rfl⟩

theorem dH.mono {s : Sto} {L : List Acc} {n m : Nat} (h : dH Ru s L n) (hm : n ≤ m) : dH Ru s L m := ⟨h.ok.mono hm, h.pa, h.rt, Nat.le_trans h.nl hm, h.rs⟩

theorem dH.Ew {Rv : UInt8 → List Pr} {s s' : Sto} {L : List Acc} {n m : Nat} (h : dH Ru s L n) (ho : s'.Ok m) (hm : n ≤ m) (e1 : pl s'.l [97] = pl s.l [97]) (e3 : ∀ c, c ≠ 97 → pl s'.l [c] = Rv c) : dH Rv s' L m :=
 ⟨ho, e1.trans h.pa, h.rt, Nat.le_trans h.nl hm, e3⟩

theorem dH.Fl {s : Sto} {L : List Acc} {n : Nat} (h : dH Ru s L n) {x : Acc} (hx : x ∈ L) : Good x.p := rV (h.rt x hx).1.2.2.2.1 (h.rt x hx).2.2

theorem dH.srt {s : Sto} {L : List Acc} {n : Nat} (h : dH Ru s L n) : L.Pairwise Jt := by
 have hs := Ay (p := [97]) h.ok.srt
 rw [h.pa, Srt, List.pairwise_map] at hs
 refine List.Pairwise.imp (fun {x y} hxy => ?_) hs
 have e : ltB (jX x.a) (jX y.a) = true := hxy
 rw [Er, decide_eq_true_eq] at e
 exact e

theorem dH.yes {s : Sto} {L : List Acc} {n : Nat} {x : Acc} (h : dH Ru s L n) (hx : x ∈ L) : eX s.l (jX x.a) = some (uG x) := by
 have hs := Ay (p := [97]) h.ok.srt
 rw [← nF (A7 _), h.pa]
 rw [h.pa] at hs
 exact nE hs (p := prA x) (List.mem_map_of_mem hx)

theorem dH.no {s : Sto} {L : List Acc} {n : Nat} {a : UInt8} (h : dH Ru s L n) (hx : ∀ x ∈ L, x.a ≠ a) : eX s.l (jX a) = none := by
 rw [← nF (A7 _), h.pa]
 refine ES (fun p hp => ?_)
 obtain ⟨d, hd, rfl⟩ := List.mem_map.1 hp
 exact fun e => hx d hd (yD.1 e)

theorem dH.set {s : Sto} {L : List Acc} {n : Nat} {x : Acc} (h : dH Ru s L n) (hR : fB x) (ho : x.Ok) : dH Ru (doS s (jX x.a) (some (uG x))) (lW x L) (n + 1) := by
 have hl := yC (rV hR.2.2.2.1 ho.2)
 refine ⟨G5 h.ok (by simp [jX]) (by simp; omega), ?_, fun y hy => ?_, Nat.le_trans (BZ x L) (Nat.succ_le_succ h.nl), fun c h1 => (DU (Jo _ h1)).trans (h.rs c h1)⟩
 · show pl (gR s.l _ _) _ = _
   rw [J0 (A7 _) h.ok.srt, h.pa, B3]
 · rcases BJ hy with rfl | hy
   · exact ⟨hR, ho⟩
   · exact h.rt y hy

def jY (L : List Acc) (a : UInt8) : Option Acc := L.find? fun x => decide (x.a = a)

theorem oS {L : List Acc} {a : UInt8} {x : Acc} (h : jY L a = some x) : x ∈ L ∧ x.a = a := ⟨List.mem_of_find?_eq_some h, by simpa using List.find?_some h⟩

theorem oZ {L : List Acc} {a : UInt8} : jY L a = none ↔ ∀ x ∈ L, x.a ≠ a := by simp [jY]

def lT (L : List Acc) (a : UInt8) : Bool := (jY L a).isSome

structure PrA where
 L : List Acc
 e : Nat

def nK (L : List Acc) (x : Acc) : PrA := if ¬ fB x then ⟨L, 1⟩ else if lT L x.a = true then ⟨L, 9⟩ else ⟨lW x L, 0⟩

def mV (L : List Acc) (x : Acc) : PrA := if ¬ fB x then ⟨L, 1⟩ else if lT L x.a = true then ⟨lW x L, 0⟩ else ⟨L, 5⟩

def pl0 : Pln := ⟨0, 0, 0, [], []⟩

def yQ (a : UInt8) : Acc := ⟨a, 0, a, pl0, 0, Num.zero, Num.zero⟩

def C4 (L : List Acc) (a : UInt8) : PrA := if 200 ≤ a.toNat then ⟨L, 1⟩ else if lT L a = true then ⟨L, 0⟩ else ⟨lW (yQ a) L, 0⟩

theorem Hg : pl0.Ok := ⟨by decide, by decide, by simp [pl0], by simp [pl0], fun x h => absurd h (by simp [pl0])⟩

theorem FD : bJ pl0 = true := by decide

theorem Bx {a : UInt8} : fB (yQ a) ↔ a.toNat < 200 := by
 refine ⟨fun h => h.1, fun h => ⟨h, h, by simp [yQ], FD, .inl rfl, .inr (by simp [yQ, pl0])⟩⟩

theorem Ei (a : UInt8) : (yQ a).Ok := ⟨by simp [yQ], Hg⟩

end Go.Proofs.YtjpnjhlfieklfaaGreat

/-
  Accounts in a store: what is written and read.
-/
namespace Go.Proofs.YtjpnjhlfieklfaaGreat
set_option maxHeartbeats 1600000
set_option linter.unnecessarySimpa false
set_option maxRecDepth 100000
open Go Go.Vm
set_option linter.unusedSimpArgs false
set_option linter.unusedVariables false
attribute [local simp] dK aJ dJ opA bD bH cJ bP ofValue dC plain aR aS bY b6 cA cC b7 cE b8 b9 cX cB cH cG cD bU aV aU bL cS aW dN dP bI bC cN gI bR dD bW AV.cells AV.bA dE cI e6 bF aY cQ dI dS dY cL aO dR dQ cW cU cM List.getElem?_cons_zero List.getElem?_cons_succ fK fI fH fG fN fM fJ fL dF eT eF eZ cV
variable {Ru : UInt8 → List Pr}

theorem Kn {σ : St} {id k n : Nat} {l A : List UInt8} (hA : A = l ++ dZ 8 n) (h : σ.objs[id]? = some [wrA k l]) (ht : Tk σ.toks k l) (hn : n < 2 ^ 64) (hl : l.length ≤ 300000) :
  aB Tryz.prog 96 [.ptr id 0, .v (.int .u64 n)] σ (WL id σ k l A) := by
 subst hA; exact Cp h ht hn (by omega)

theorem L0 {σ : St} {id n : Nat} {p q : List UInt8} (hp : p = dZ 8 n ++ q) (hn : n < 2 ^ 64) (h : σ.objs[id]? = some (rd (some p))) :
  aB Tryz.prog 57 [.ptr id 0] σ (fun av σ' => av = .v (.int .u64 n) ∧ σ' = { σ with objs := σ.objs.set id (rd (some q)) }) := by
 subst hp
 obtain ⟨t1, t2⟩ := uC (E := dZ 8 n) (q := q) (n := 8) (gF _ _)
 exact bV (wF h) (fun av σ' ⟨e1, e2⟩ => by
  rw [t2, oL hn] at e1; rw [t1] at e2
  exact ⟨e1, e2⟩)

theorem LX {σ : St} {id k : Nat} {l A : List UInt8} {p : Pln} (hA : A = l ++ nS p) (h : σ.objs[id]? = some [wrA k l]) (ht : Tk σ.toks k l) (hl : l.length ≤ 100000) (g : Good p) :
  aB Tryz.prog 99 [.ptr id 0, .agg (iR p)] σ (fun av σ' => av = .tup [] ∧ ∃ k' tk', Wr σ.toks k l tk' k' A ∧ σ' = { σ with objs := σ.objs.set id [wrA k' A], toks := tk' }) :=
 IC hA h ht hl g.s g.e (eI g.tot) (by have := g.len; omega) (fun x hx => ⟨by have := (g.ps x hx).1; omega, eI (g.ps x hx).2⟩)

theorem LZ {σ : St} {id : Nat} {p : Pln} {P q : List UInt8} (hp : P = nS p ++ q) (g : Good p) (hr : bJ p = true) (h : σ.objs[id]? = some (rd (some P))) :
  aB Tryz.prog 60 [.ptr id 0] σ (fun av σ' => av = .agg (iR p) ∧ σ' = { σ with objs := σ.objs.set id (rd (some q)) }) := by
 subst hp
 obtain ⟨t1, t2⟩ := HP g.s g.e g.tot (by have := g.len; omega) (fun x hx => ⟨by have := (g.ps x hx).1; omega, (g.ps x hx).2⟩) hr q
 exact bV (Il h) (fun av σ' ⟨e1, e2⟩ => by
  rw [t1] at e1; rw [t2] at e2
  exact ⟨e1, e2⟩)

theorem sW {σ : St} {a : UInt8} : aB Tryz.prog 55 [.v (.int .u8 a.toNat)] σ (fun av σ' => av = .sl 1 [.v (.int .u8 97), .v (.int .u8 a.toNat)] 2 .full ∧ σ = σ') := by
 have F := True.intro
 refine aA Tryz.func55 rfl rfl rfl ?_; refine sr fun _ hJ2 => ?_; apply hJ2; refine sr fun _ hJ4 => ?_; apply hJ4; refine ra ?_; exact rt

attribute [local simp] dM in
theorem Gl {σ : St} {o k n : Nat} {G : Sg} {v : Acc} (h : fS σ o k G) (hG : G.s.Ok n) (hn : n ≤ 900000) (g : Good v.p) (hq : v.q < 2 ^ 64) :
  aB Tryz.prog 68 [.ptr o 0, .agg (dM v)] σ (fun av σ' => ∃ G', G'.s = doS G.s (jX v.a) (some (uG v)) ∧ av = .tup [] ∧ σ' = dU σ o k G') := by
 have h700 := yC g
 obtain ⟨A1, hA1⟩ : ∃ A, A = [] ++ dZ 8 v.q := ⟨_, rfl⟩
 obtain ⟨A2, hA2⟩ : ∃ A, A = A1 ++ [v.y] := ⟨_, rfl⟩
 obtain ⟨A3, hA3⟩ : ∃ A, A = A2 ++ [v.f] := ⟨_, rfl⟩
 obtain ⟨A4, hA4⟩ : ∃ A, A = A3 ++ kQ v.k.v := ⟨_, rfl⟩
 obtain ⟨A5, hA5⟩ : ∃ A, A = A4 ++ kQ v.r.v := ⟨_, rfl⟩
 obtain ⟨A6, hA6⟩ : ∃ A, A = A5 ++ nS v.p := ⟨_, rfl⟩
 have hA : uG v = A6 := by rw [hA6, hA5, hA4, hA3, hA2, hA1]; simp [uG]
 rw [hA] at h700
 have l6 := congrArg List.length hA6; have l5 := congrArg List.length hA5; have l4 := congrArg List.length hA4; have l3 := congrArg List.length hA3; have l2 := congrArg List.length hA2; have l1 := congrArg List.length hA1
 simp only [List.length_append, List.length_cons, List.length_nil] at l1 l2 l3 l4 l5 l6
 have hne : A6 ≠ [] := by rw [← hA]; intro e; have e2 := congrArg List.length e; simp [uG] at e2
 have hw0 : [AV.sl 0 [] 0 eK.full] = [wrA 0 []] := rfl
 have hse : ∀ l tk, aB Tryz.prog 100 [.ptr o 0, .sl 1 [.v (.int .u8 97), .v (.int .u8 v.a.toNat)] 2 .full, .sl 1 (aQ A6) A6.length .shut] { σ with objs := σ.objs ++ l, toks := tk } (fun av σ' => ∃ G', G'.s = doS G.s (jX v.a) (some A6) ∧ av = .tup [] ∧ σ' = dU { σ with objs := σ.objs ++ l, toks := tk } o k G') := fun l tk => Lr (K := jX v.a) h hG hn (by simp [jX]) (by omega) l tk
 have hpa := Ec h
 have hg0 : ∀ (G' : Sg) x r tk, (dU { σ with objs := σ.objs ++ x :: r, toks := tk } o k G').objs[σ.objs.length]? = some x := fun G' x r tk => by rw [hpa]; simp [dU]
 rw [hA]
 refine bV (m9 (X := Nat × Nat × Nat) (A := fun _ => .tup []) (T := fun x => ⟨doS G.s (jX v.a) (some A6), x.1, x.2.1, x.2.2⟩) h (fun _ => rfl) ?_) (fun av σ' ⟨x, e1, e2⟩ => ⟨_, rfl, e1, e2⟩)
 have hpl : ∀ (τ : St) id j, τ.objs[id]? = some [wrA j A5] → Tk τ.toks j A5 → aB Tryz.prog 99 [.ptr id 0, .agg [.v (.int .u8 v.p.k.toNat), .v (.int .u64 v.p.s), .v (.int .u64 v.p.e), .sl 5 (aL v.p.tot) v.p.tot.length .shut, .sl 2 (eN v.p.ps) v.p.ps.length .shut]] τ (fun av σ' => av = .tup [] ∧ ∃ k' tk', Wr τ.toks j A5 tk' k' A6 ∧ σ' = { τ with objs := τ.objs.set id [wrA k' A6], toks := tk' }) := fun τ id j q1 q2 => LX hA6 q1 q2 (by omega) g
 have F := And.intro hg0 (True.intro)
 refine aA Tryz.func68 rfl rfl rfl ?_; refine sr fun _ hJ2 => ?_; apply hJ2; refine sr fun _ hJ4 => ?_; apply hJ4; refine sq fun K5 hK5 => ?_; replace F := aF hw0 F
 refine bQ (by kernel_rfl) fun J6 hJ6 => ?_
 refine q2 0 ?_; refine q2 1 ?_; refine q2 2 ?_; refine q2 4 ?_; refine q2 5 ?_; refine q2 7 ?_; refine q2 8 ?_; refine q2 10 ?_; refine q2 11 ?_; refine q2 12 ?_; refine q2 14 ?_; refine q2 15 ?_; refine q2 16 ?_
 refine dc 3 rfl (c := Kn (k := 0) (l := []) hA1 (by simp [F, hw0]) (.inl rfl) hq (by simp)) (k := ?_)
 rintro _ _ ⟨rfl, k1, tk1, w1, rfl⟩
 refine ⟨by first | exact fun _ _ h => h | (refine aI [16, 15, 14, 12, 11, 10, 8, 7, 5, 4, 1] (by kernel_rfl) ?_; (repeat' first | exact ln2 | refine lc ?_ ?_) <;> constructor <;> first | rfl | (simp [F]; done)), ?_⟩
 repeat (first | simp [F] | simp (disch := omega) only [wC, if_pos, if_neg])
 refine dc 6 rfl (c := Hc hA2 (by simp [F]) w1.tok (by omega)) (k := ?_)
 rintro _ _ ⟨rfl, k2, tk2, w2, rfl⟩
 refine ⟨by first | exact fun _ _ h => h | (refine aI [16, 15, 14, 12, 11, 10, 8, 7, 4, 1] (by kernel_rfl) ?_; (repeat' first | exact ln2 | refine lc ?_ ?_) <;> constructor <;> first | rfl | (simp [F]; done)), ?_⟩
 repeat (first | simp [F] | simp (disch := omega) only [wC, if_pos, if_neg])
 refine dc 9 rfl (c := Hc hA3 (by simp [F]) w2.tok (by omega)) (k := ?_)
 rintro _ _ ⟨rfl, k3, tk3, w3, rfl⟩
 refine ⟨by first | exact fun _ _ h => h | (refine aI [16, 15, 14, 12, 11, 10, 7, 4, 1] (by kernel_rfl) ?_; (repeat' first | exact ln2 | refine lc ?_ ?_) <;> constructor <;> first | rfl | (simp [F]; done)), ?_⟩
 repeat (first | simp [F] | simp (disch := omega) only [wC, if_pos, if_neg])
 refine dc 13 rfl (c := Ki hA4 (by simp [F]) w3.tok (by omega)) (k := ?_)
 rintro _ _ ⟨rfl, k4, tk4, w4, rfl⟩
 refine ⟨by first | exact fun _ _ h => h | (refine aI [16, 15, 14, 11, 10, 7, 4, 1] (by kernel_rfl) ?_; (repeat' first | exact ln2 | refine lc ?_ ?_) <;> constructor <;> first | rfl | (simp [F]; done)), ?_⟩
 repeat (first | simp [F] | simp (disch := omega) only [wC, if_pos, if_neg])
 refine dc 17 rfl (c := Ki hA5 (by simp [F]) w4.tok (by omega)) (k := ?_)
 rintro _ _ ⟨rfl, k5, tk5, w5, rfl⟩
 refine ⟨by first | exact fun _ _ h => h | (refine aI [15, 14, 11, 10, 7, 4, 1] (by kernel_rfl) ?_; (repeat' first | exact ln2 | refine lc ?_ ?_) <;> constructor <;> first | rfl | (simp [F]; done)), ?_⟩
 (repeat first | simp [F] | simp (disch := omega) only [wC, if_pos, if_neg]); refine dd ?_; apply hJ6; apply hK5; refine sr fun _ hJ8 => ?_
 refine ca (c := hpl _ _ k5 (by simp [F]) w5.tok) (k := ?_)
 rintro _ _ ⟨rfl, k6, tk6, w6, rfl⟩; (repeat first | simp [F] | simp (disch := omega) only [wC, if_pos, if_neg]); apply hJ8; refine rg' (h := fun J9 hJ9 => ?_); refine ca (c := sW) (k := ?_); rintro _ _ ⟨rfl, rfl⟩; repeat (first | simp [F] | simp (disch := omega) only [wC, if_pos, if_neg])
 refine ca (c := L5 (l := A6) (k := k6) (by simp [F]) hne (by omega)) (k := ?_)
 rintro _ _ ⟨rfl, rfl⟩; (repeat first | simp [F] | simp (disch := omega) only [wC, if_pos, if_neg]); refine ca (c := hse _ _) (k := ?_); rintro _ _ ⟨G', e0, rfl, rfl⟩; (repeat first | simp [F] | simp (disch := omega) only [wC, if_pos, if_neg]); apply hJ9; (try simp only [eQ, bK, cK, if_true]); refine gU rfl (.inl rfl) ?_
 obtain ⟨gs, a1, a2, a3⟩ := G'
 simp only at e0
 subst e0
 refine ⟨(a1, a2, a3), ?_⟩
 obtain ⟨tm, htm⟩ := ((w1.trans w2).trans ((w3.trans w4).trans (w5.trans w6))).pre
 rw [hpa, htm]
 exact gcr

def mG : List AV := [.v (.int .u8 0), .v (.int .u64 0), .v (.int .u8 0), .v (.int .u8 0), .v (.int .u64 0), .v (.int .u64 0), .sl 0 [] 0 .full, .sl 0 [] 0 .full, .v (.int .u8 0), .v (.int .u64 0), .v (.int .u64 0), .v (.int .u64 0), .v (.int .u64 0), .v (.int .u64 0), .v (.int .u64 0), .v (.int .u64 0), .v (.int .u64 0)]

attribute [local simp] dM aP in
theorem pQ {σ : St} {o k n : Nat} {G : Sg} {v : Acc} (h : fS σ o k G) (hG : G.s.Ok n) (hn : n ≤ 900000) (g : Good v.p) (hr : bJ v.p = true) (hq : v.q < 2 ^ 64) (hg : eX G.s.l (jX v.a) = some (uG v)) :
  aB Tryz.prog 23 [.ptr o 0, .v (.int .u8 v.a.toNat)] σ (fun av σ' => av = .tup [.agg (dM v), .v (.bool true)] ∧ σ = σ') := by
 refine aM ?_ (by simp [AV.under, xB, aZ, m4])
 have h700 := yC g
 have hge : ∀ l, aB Tryz.prog 54 [.ptr o 0, .sl 1 [.v (.int .u8 97), .v (.int .u8 v.a.toNat)] 2 .full] { σ with objs := σ.objs ++ l } _ := fun l => AG (key := jX v.a) (t1 := .full) (h.app l σ.toks) hG (by omega)
 rw [hg] at hge
 simp only [Option.getD_some, Option.isSome_some] at hge
 obtain ⟨q5, hq5⟩ : ∃ q, q = nS v.p ++ [] := ⟨_, rfl⟩
 obtain ⟨q4, hq4⟩ : ∃ q, q = kQ v.r.v ++ q5 := ⟨_, rfl⟩
 obtain ⟨q3, hq3⟩ : ∃ q, q = kQ v.k.v ++ q4 := ⟨_, rfl⟩
 obtain ⟨q1, hq1⟩ : ∃ q, q = v.y :: (v.f :: q3) := ⟨_, rfl⟩
 obtain ⟨P, hP⟩ : ∃ q, q = dZ 8 v.q ++ q1 := ⟨_, rfl⟩
 have hp : uG v = P := by rw [hP, hq1, hq3, hq4, hq5]; simp [uG]
 rw [hp] at h700 hge
 have hrd := fun τ => Ky (σ := τ) (p := P) (tl := .shut) (by omega)
 have htk := fun (τ : St) id (h : τ.objs[id]? = some (rd (some q5))) => LZ hq5 g hr h
 simp only [iR] at htk
 have F := True.intro
 refine aA Tryz.func23 rfl rfl rfl ?_; refine sr fun _ hJ2 => ?_; apply hJ2; refine sr fun _ hJ4 => ?_; refine ca (c := sW) (k := ?_); rintro _ _ ⟨rfl, rfl⟩; (repeat first | simp [F] | simp (disch := omega) only [wC, if_pos, if_neg]); refine ca (c := hge _) (k := ?_); rintro _ _ ⟨rfl, rfl⟩; (repeat first | simp [F] | simp (disch := omega) only [wC, if_pos, if_neg]); apply hJ4; refine sq fun K5 hK5 => ?_; refine sr fun _ hJ7 => ?_; apply hJ7; refine cf ?_; refine aD ?_; apply hK5; refine sr fun _ hJ9 => ?_; refine ca (c := hrd _) (k := ?_); rintro _ _ ⟨rfl, rfl⟩; (repeat first | simp [F] | simp (disch := omega) only [wC, if_pos, if_neg]); apply hJ9; refine sr fun _ hJ11 => ?_
 refine ca (c := L0 hP hq (by simp [F])) (k := ?_)
 rintro _ _ ⟨rfl, rfl⟩; repeat (first | simp [F] | simp (disch := omega) only [wC, if_pos, if_neg])
 refine ca (c := Kd (b := v.y) (q := v.f :: q3) (by simp [F, hq1])) (k := ?_)
 rintro _ _ ⟨rfl, rfl⟩; repeat (first | simp [F] | simp (disch := omega) only [wC, if_pos, if_neg])
 refine ca (c := Kd (b := v.f) (q := q3) (by simp [F])) (k := ?_)
 rintro _ _ ⟨rfl, rfl⟩; (repeat first | simp [F] | simp (disch := omega) only [wC, if_pos, if_neg]); apply hJ11; refine sr fun _ hJ13 => ?_
 refine ca (c := Ms (x := v.k) hq3 (by simp [F])) (k := ?_)
 rintro _ _ ⟨rfl, rfl⟩; repeat (first | simp [F] | simp (disch := omega) only [wC, if_pos, if_neg])
 refine ca (c := Ms (x := v.r) hq4 (by simp [F])) (k := ?_)
 rintro _ _ ⟨rfl, rfl⟩; (repeat first | simp [F] | simp (disch := omega) only [wC, if_pos, if_neg]); apply hJ13; refine sr fun _ hJ15 => ?_
 refine ca (c := htk _ _ (by simp [F])) (k := ?_)
 rintro _ _ ⟨rfl, rfl⟩; (repeat first | simp [F] | simp (disch := omega) only [wC, if_pos, if_neg]); apply hJ15; refine sr fun _ hJ17 => ?_; apply hJ17; refine bZ ?_; (try simp only [eQ, bK, cK]); refine iW (h := ?_); exact gcr

attribute [local simp] mG in
theorem EL {σ : St} {o k n : Nat} {G : Sg} {a : UInt8} (h : fS σ o k G) (hG : G.s.Ok n) (hn : n ≤ 900000) (hg : eX G.s.l (jX a) = none) :
  aB Tryz.prog 23 [.ptr o 0, .v (.int .u8 a.toNat)] σ (fun av σ' => av = .tup [.agg mG, .v (.bool false)] ∧ σ = σ') := by
 refine aM ?_ rfl
 have hge : ∀ l, aB Tryz.prog 54 [.ptr o 0, .sl 1 [.v (.int .u8 97), .v (.int .u8 a.toNat)] 2 .full] { σ with objs := σ.objs ++ l } _ := fun l => AG (key := jX a) (t1 := .full) (h.app l σ.toks) hG (by omega)
 rw [hg] at hge
 have F := True.intro
 refine aA Tryz.func23 rfl rfl rfl ?_; refine sr fun _ hJ2 => ?_; apply hJ2; refine sr fun _ hJ4 => ?_; refine ca (c := sW) (k := ?_); rintro _ _ ⟨rfl, rfl⟩; (repeat first | simp [F] | simp (disch := omega) only [wC, if_pos, if_neg]); refine ca (c := hge _) (k := ?_); rintro _ _ ⟨rfl, rfl⟩; (repeat first | simp [F] | simp (disch := omega) only [wC, if_pos, if_neg]); apply hJ4; refine sq fun K5 hK5 => ?_; refine sr fun _ hJ7 => ?_; apply hJ7; refine ct ?_; refine sr fun _ hJ9 => ?_; apply hJ9; refine bZ ?_; (try simp only [eQ, bK, cK]); refine iW (h := ?_); exact gcr

attribute [local simp] mG in
theorem Cf {σ : St} {a : UInt8} : aB Tryz.prog 23 [.v (.pointer none), .v (.int .u8 a.toNat)] σ (fun av σ' => av = .tup [.agg mG, .v (.bool false)] ∧ σ = σ') := by
 refine aM ?_ rfl
 have F := True.intro
 refine aA Tryz.func23 rfl rfl rfl ?_; refine sr fun _ hJ2 => ?_; apply hJ2; refine sr fun _ hJ4 => ?_; refine ca (c := sW) (k := ?_); rintro _ _ ⟨rfl, rfl⟩; (repeat first | simp [F] | simp (disch := omega) only [wC, if_pos, if_neg]); refine ca (c := Ju) (k := ?_); rintro _ _ ⟨rfl, rfl⟩; (repeat first | simp [F] | simp (disch := omega) only [wC, if_pos, if_neg]); apply hJ4; refine sq fun K5 hK5 => ?_; refine sr fun _ hJ7 => ?_; apply hJ7; refine ct ?_; refine sr fun _ hJ9 => ?_; apply hJ9; refine bZ ?_; (try simp only [eQ, bK, cK]); refine iW (h := ?_); exact gcr

theorem vJ (v : Acc) : decide (fB v) = (decide ((v.a.toNat : Int) < 200) && (decide ((v.y.toNat : Int) < 200) && (decide ((v.f.toNat : Int) < 200) && (bJ v.p && ((decide ((v.f.toNat : Int) = 0) || decide ((v.p.k.toNat : Int) = 5)) && (!decide ((v.f.toNat : Int) = v.a.toNat) || !decide ((v.p.k.toNat : Int) = 5))))))) := by
 have p1 : v.f = 0 ↔ v.f.toNat = 0 := ⟨fun e => by rw [e]; rfl, fun e => UInt8.toNat_inj.1 e⟩
 have p2 : v.p.k = 5 ↔ v.p.k.toNat = 5 := ⟨fun e => by rw [e]; rfl, fun e => UInt8.toNat_inj.1 e⟩
 have p3 : v.f = v.a ↔ v.f.toNat = v.a.toNat := UInt8.toNat_inj.symm
 rw [Bool.eq_iff_iff]
 simp only [decide_eq_true_eq, Bool.and_eq_true, Bool.or_eq_true, Bool.not_eq_true', decide_eq_false_iff_not, fB, p1, p2, p3, ne_eq]
 constructor
 · rintro ⟨h1, h2, h3, h4, h5, h6⟩; exact ⟨by omega, by omega, by omega, h4, by omega, by omega⟩
 · rintro ⟨h1, h2, h3, h4, h5, h6⟩; exact ⟨by omega, by omega, by omega, h4, by omega, by omega⟩

attribute [local simp] dM in
theorem As {σ : St} {v : Acc} (hv : v.Ok) :
  aB Tryz.prog 11 [.agg (dM v)] σ (fun av σ' => av = .v (.bool (decide (fB v))) ∧ σ = σ') := by
 refine aM ?_ rfl
 have hx := fun τ => yX (σ := τ) hv.2
 simp only [iR] at hx
 have hB := vJ v
 obtain ⟨B, hBe⟩ : ∃ B, B = decide (fB v) := ⟨_, rfl⟩
 obtain ⟨RB, hRB⟩ : ∃ RB, RB = bJ v.p := ⟨_, rfl⟩
 rw [← hBe] at hB ⊢
 rw [← hRB] at hB
 simp only [← hRB] at hx
 have F := True.intro
 refine aA Tryz.func11 rfl rfl rfl ?_; refine sr fun _ hJ2 => ?_; apply hJ2; refine sr fun _ hJ4 => ?_; refine gs 6 (fun g1_3 => ?_) (fun g1_3 => ?_)
 · (try exact aG g1_3); all_goals have g1_3p := g1_3; try simp [F] at g1_3p
   all_goals
    replace F := aF g1_3 F; (try replace F := aF g1_3p F); (iterate 3 refine go2 (k := ?_)); refine gs 11 (fun g1_8 => ?_) (fun g1_8 => ?_)
    · (try exact aG g1_8); all_goals have g1_8p := g1_8; try simp [F] at g1_8p
      all_goals
       replace F := aF g1_8 F; (try replace F := aF g1_8p F); (iterate 3 refine go2 (k := ?_)); refine gs 16 (fun g1_13 => ?_) (fun g1_13 => ?_)
       · (try exact aG g1_13); all_goals have g1_13p := g1_13; try simp [F] at g1_13p
         all_goals
          replace F := aF g1_13 F; (try replace F := aF g1_13p F); (iterate 2 refine go2 (k := ?_)); refine ca (c := hx _) (k := ?_); rintro _ _ ⟨rfl, rfl⟩; (repeat first | simp [F] | simp (disch := omega) only [wC, if_pos, if_neg]); refine gs 21 (fun g1_18 => ?_) (fun g1_18 => ?_)
          · (try exact aG g1_18); all_goals have g1_18p := g1_18; try simp [F] at g1_18p
            all_goals
             replace F := aF g1_18 F; (try replace F := aF g1_18p F); (iterate 4 refine go2 (k := ?_)); refine gs 25 (fun g1_22 => ?_) (fun g1_22 => ?_)
             · (try exact aG g1_22); all_goals have g1_22p := g1_22; try simp [F] at g1_22p
               all_goals
                replace F := aF g1_22 F; (try replace F := aF g1_22p F); (iterate 4 refine no2 (k := ?_)); (iterate 7 refine go2 (k := ?_)); refine gs 38 (fun g1_35 => ?_) (fun g1_35 => ?_)
                · (try exact aG g1_35); all_goals have g1_35p := g1_35; try simp [F] at g1_35p
                  all_goals
                   replace F := aF g1_35 F; (try replace F := aF g1_35p F); (iterate 4 refine no2 (k := ?_)); refine go2 (k := ?_); apply hJ4; refine ra ?_; refine gcr (hA := ?_); simp [hB, F] <;> exact Wk.refl _
                (try exact aG g1_35); all_goals have g1_35p := g1_35; try simp [F] at g1_35p
                all_goals
                 replace F := aF g1_35 F; (try replace F := aF g1_35p F); (iterate 5 refine go2 (k := ?_)); apply hJ4; refine ra ?_; refine gcr (hA := ?_); simp [hB, F] <;> exact Wk.refl _
             (try exact aG g1_22); all_goals have g1_22p := g1_22; try simp [F] at g1_22p
             all_goals
              replace F := aF g1_22 F; (try replace F := aF g1_22p F); (iterate 5 refine go2 (k := ?_)); refine gs 32 (fun g1_29 => ?_) (fun g1_29 => ?_)
              · (try exact aG g1_29); all_goals have g1_29p := g1_29; try simp [F] at g1_29p
                all_goals
                 replace F := aF g1_29 F; (try replace F := aF g1_29p F); (iterate 6 refine go2 (k := ?_)); refine gs 38 (fun g1_35 => ?_) (fun g1_35 => ?_)
                 · (try exact aG g1_35); all_goals have g1_35p := g1_35; try simp [F] at g1_35p
                   all_goals
                    replace F := aF g1_35 F; (try replace F := aF g1_35p F); (iterate 4 refine no2 (k := ?_)); refine go2 (k := ?_); apply hJ4; refine ra ?_; refine gcr (hA := ?_); simp [hB, F] <;> exact Wk.refl _
                 (try exact aG g1_35); all_goals have g1_35p := g1_35; try simp [F] at g1_35p
                 all_goals
                  replace F := aF g1_35 F; (try replace F := aF g1_35p F); (iterate 5 refine go2 (k := ?_)); apply hJ4; refine ra ?_; refine gcr (hA := ?_); simp [hB, F] <;> exact Wk.refl _
              (try exact aG g1_29); all_goals have g1_29p := g1_29; try simp [F] at g1_29p
              all_goals
               replace F := aF g1_29 F; (try replace F := aF g1_29p F); (iterate 11 refine no2 (k := ?_)); apply hJ4; refine ra ?_; refine gcr (hA := ?_); simp [hB, F] <;> exact Wk.refl _
          (try exact aG g1_18); all_goals have g1_18p := g1_18; try simp [F] at g1_18p
          all_goals
           replace F := aF g1_18 F; (try replace F := aF g1_18p F); (iterate 20 refine no2 (k := ?_)); apply hJ4; refine ra ?_; refine gcr (hA := ?_); simp [hB, F] <;> exact Wk.refl _
       (try exact aG g1_13); all_goals have g1_13p := g1_13; try simp [F] at g1_13p
       all_goals
        replace F := aF g1_13 F; (try replace F := aF g1_13p F); (iterate 23 refine no2 (k := ?_)); apply hJ4; refine ra ?_; refine gcr (hA := ?_); simp [hB, F] <;> exact Wk.refl _
    (try exact aG g1_8); all_goals have g1_8p := g1_8; try simp [F] at g1_8p
    all_goals
     replace F := aF g1_8 F; (try replace F := aF g1_8p F); (iterate 26 refine no2 (k := ?_)); apply hJ4; refine ra ?_; refine gcr (hA := ?_); simp [hB, F] <;> exact Wk.refl _
 (try exact aG g1_3); all_goals have g1_3p := g1_3; try simp [F] at g1_3p
 all_goals
  replace F := aF g1_3 F; (try replace F := aF g1_3p F); (iterate 29 refine no2 (k := ?_)); apply hJ4; refine ra ?_; refine gcr (hA := ?_); simp [hB, F] <;> exact Wk.refl _

end Go.Proofs.YtjpnjhlfieklfaaGreat

/-
  What may be spent: the plain law.
-/
namespace Go.Proofs.YtjpnjhlfieklfaaGreat
set_option linter.unnecessarySimpa false
set_option maxRecDepth 100000
set_option linter.unusedSimpArgs false
set_option linter.unusedVariables false
open Go Go.Vm
attribute [local simp] dK aJ dJ opA bD bH cJ bP ofValue dC plain aR aS bY b6 cA cC b7 cE b8 b9 cX cB cH cG cD bU aV aU bL cS aW dN dP bI bC cN gI bR dD bW AV.cells AV.bA dE cI e6 bF aY cQ dI dS dY cL aO dR dQ cW cU cM List.getElem?_cons_zero List.getElem?_cons_succ fK fI fH fG fN fM fJ fL dF eT eF eZ

def mR (g : Nat → Nat → Nat) (l : List bB) : List bB := l.flatMap fun c => j1 c.d (Num.of (g c.d.toNat c.n.v))

theorem Ak (g : Nat → Nat → Nat) (l : List bB) (c : bB) : mR g (l ++ [c]) = mR g l ++ j1 c.d (Num.of (g c.d.toNat c.n.v)) := by simp [mR]

theorem HC {g : Nat → Nat → Nat} {l : List bB} {c : bB} (h : c ∈ mR g l) : ∃ b ∈ l, b.d = c.d := by
 obtain ⟨b, hb, h2⟩ := List.mem_flatMap.1 h
 refine ⟨b, hb, ?_⟩
 unfold j1 at h2
 split at h2
 · simp at h2; rw [h2]
 · simp at h2

theorem BC (g : Nat → Nat → Nat) : ∀ l : List bB, (mR g l).length ≤ l.length
 | [] => by simp [mR]
 | c :: l => by
   have ih := BC g l
   have h1 : (j1 c.d (Num.of (g c.d.toNat c.n.v))).length ≤ 1 := by unfold j1; split <;> simp
   simp only [mR, List.flatMap_cons, List.length_append, List.length_cons] at ih ⊢
   omega

theorem CJ {g : Nat → Nat → Nat} (g0 : ∀ d, g d 0 = 0) (gl : ∀ d x, x < 2 ^ 256 → g d x < 2 ^ 256) : ∀ r : List bB, bM r.reverse → bM (mR g r.reverse) ∧ ∀ d, d < 8 → amt (mR g r.reverse) d = g d (amt r.reverse d)
 | [], _ => ⟨Go.Vm.gV, fun d _ => (g0 d).symm⟩
 | c :: r, h => by
   rw [List.reverse_cons] at h ⊢
   obtain ⟨h1, h2, h3⟩ := iA.1 h
   obtain ⟨i1, i2⟩ := CJ g0 gl r h1
   have hs := sF h
   have hx := gl c.d.toNat c.n.v c.n.h
   rw [Ak]
   by_cases hz : g c.d.toNat c.n.v = 0
   · have e : j1 c.d (Num.of (g c.d.toNat c.n.v)) = [] := by unfold j1; rw [if_neg (fun q => q.2 (by rw [Num.s9 hx]; exact hz))]
     rw [e, List.append_nil]
     refine ⟨i1, fun d hd => ?_⟩
     rw [i2 d hd, hs]
     by_cases q : d = c.d.toNat
     · subst q
       rw [if_pos rfl, hz, lM (fun b hb e => by have := h3 b hb; omega), g0]
     · rw [if_neg q]
   · have e : j1 c.d (Num.of (g c.d.toNat c.n.v)) = [⟨c.d, Num.of (g c.d.toNat c.n.v)⟩] := by unfold j1; rw [if_pos ⟨h2.1, by rw [Num.s9 hx]; exact hz⟩]
     rw [e]
     have hR : bM (mR g r.reverse ++ [⟨c.d, Num.of (g c.d.toNat c.n.v)⟩]) := iA.2 ⟨i1, ⟨h2.1, by rw [Num.s9 hx]; exact hz⟩, fun b hb => by
      obtain ⟨b2, hb2, e2⟩ := HC hb
      have := h3 b2 hb2
      rw [e2] at this
      exact this⟩
     refine ⟨hR, fun d hd => ?_⟩
     rw [sF hR, hs]
     by_cases q : d = c.d.toNat
     · subst q; rw [if_pos rfl, if_pos rfl, Num.s9 hx]
     · rw [if_neg q, if_neg q, i2 d hd]

theorem Hy {g : Nat → Nat → Nat} (g0 : ∀ d, g d 0 = 0) (gl : ∀ d x, x < 2 ^ 256 → g d x < 2 ^ 256) {l : List bB} (h : bM l) : mR g l = gH (fun d => g d (amt l d)) 8 := by
 obtain ⟨h1, h2⟩ := CJ g0 gl l.reverse (by simpa using h)
 rw [List.reverse_reverse] at h1 h2
 have hf : ∀ d, d < 8 → g d (amt l d) < 2 ^ 256 := fun d _ => gl _ _ (jG _ _)
 exact Al h1 (iZ hf 8 (Nat.le_refl _)) (fun d hd => by rw [h2 d hd, sL hf (Nat.le_refl 8) hd])

def spN (x lk kp : Nat) : Nat := x - (lk - kp)

def spG (lk : List bB) (kp d x : Nat) : Nat := spN x (amt lk d) (if d = 0 then kp else 0)

theorem H0 (lk : List bB) (kp d : Nat) : spG lk kp d 0 = 0 := by simp [spG, spN]

theorem Ih (lk : List bB) (kp d x : Nat) (h : x < 2 ^ 256) : spG lk kp d x < 2 ^ 256 := by unfold spG spN; omega

def pA (L : List Acc) (a : UInt8) (t : Nat) : List bB := match jY L a with | some x => pD x.p.tot (fY x.p t) | none => []

def rE (L : List Acc) (a : UInt8) : Nat := match jY L a with | some x => x.k.v | none => 0

def tY (L : List Acc) (a : UInt8) (t : Nat) (B : List bB) : List bB := gH (fun d => spG (pA L a t) (rE L a) d (amt B d)) 8

theorem xU {L : List Acc} {a : UInt8} {t : Nat} {B : List bB} (h : bM B) : mR (spG (pA L a t) (rE L a)) B = tY L a t B := Hy (H0 _ _) (Ih _ _) h

end Go.Proofs.YtjpnjhlfieklfaaGreat

/-
  Accounts: one more, another one, all of them, what may be spent.
-/
namespace Go.Proofs.YtjpnjhlfieklfaaGreat
set_option maxHeartbeats 1600000
set_option linter.unnecessarySimpa false
set_option maxRecDepth 100000
open Go Go.Vm
set_option linter.unusedSimpArgs false
set_option linter.unusedVariables false
attribute [local simp] dK aJ dJ opA bD bH cJ bP ofValue dC plain aR aS bY b6 cA cC b7 cE b8 b9 cX cB cH cG cD bU aV aU bL cS aW dN dP bI bC cN gI bR dD bW AV.cells AV.bA dE cI e6 bF aY cQ dI dS dY cL aO dR dQ cW cU cM List.getElem?_cons_zero List.getElem?_cons_succ fK fI fH fG fN fM fJ fL dF eT eF eZ cV
variable {Ru Rv : UInt8 → List Pr}

theorem dH.is {s : Sto} {L : List Acc} {n : Nat} (h : dH Ru s L n) (a : UInt8) : (eX s.l (jX a)).isSome = lT L a := by
 unfold lT
 cases hf : jY L a with
 | none => rw [h.no (oZ.1 hf)]; rfl
 | some x => obtain ⟨h1, h2⟩ := oS hf; rw [← h2, h.yes h1]; rfl

theorem yM : (∀ x, x ∈ mG → x.bA = true) = True := eq_true (fun x hx => by simp only [mG, List.mem_cons, List.not_mem_nil, or_false] at hx; rcases hx with rfl | rfl | rfl | rfl | rfl | rfl | rfl | rfl | rfl | rfl | rfl | rfl | rfl | rfl | rfl | rfl | rfl <;> rfl)

structure E5 (L : List Acc) (a : UInt8) (Z : List AV) : Prop where
 len : Z.length = 17
 cells : (∀ x, x ∈ Z → x.bA = true) = True
 yes : ∀ x, jY L a = some x → Z = dM x
 no : jY L a = none → Z = mG

theorem EK {σ : St} {o k n : Nat} {G : Sg} {L : List Acc} {a : UInt8} (h : fS σ o k G) (hi : dH Ru G.s L n) (hn : n ≤ 1000) :
  aB Tryz.prog 23 [.ptr o 0, .v (.int .u8 a.toNat)] σ (fun av σ' => ∃ Z : List AV, E5 L a Z ∧ av = .tup [.agg Z, .v (.bool (lT L a))] ∧ σ = σ') := by
 cases hf : jY L a with
 | none =>
   have := EL (a := a) h hi.ok (by omega) (hi.no (oZ.1 hf))
   exact bV this (fun av σ' ⟨e1, e2⟩ => ⟨mG, ⟨rfl, yM, fun x h => (by rw [hf] at h; cases h), fun _ => rfl⟩, by rw [e1, lT, hf]; rfl, e2⟩)
 | some x =>
   obtain ⟨h1, h2⟩ := oS hf
   have hr := hi.rt x h1
   have := pQ (v := x) h hi.ok (by omega) (hi.Fl h1) hr.1.2.2.2.1 hr.2.1 (hi.yes h1)
   rw [h2] at this
   exact bV this (fun av σ' ⟨e1, e2⟩ => ⟨dM x, ⟨rfl, eq_true (sK _), fun y h => (by rw [hf] at h; cases h; rfl), fun h => (by rw [hf] at h; cases h)⟩, by rw [e1, lT, hf]; rfl, e2⟩)

theorem Iq : Wk (.agg [.v (.int .u8 0), .v (.int .u64 0), .v (.int .u64 0), .sl 0 [] 0 .full, .sl 0 [] 0 .full]) (.agg (iR pl0)) :=
 WkL.agg (.cons (Wk.refl _) (.cons (Wk.refl _) (.cons (Wk.refl _) (.cons (Wk.nil _ _ _) (.cons (Wk.nil _ _ _) .nil)))))

theorem E5.lock {σ : St} {L : List Acc} {a : UInt8} {Z : List AV} {t : Nat} (h : E5 L a Z) (hL : ∀ x ∈ L, Good x.p ∧ x.Ok) (ht : t < 2 ^ 64) :
  aB Tryz.prog 45 [.agg (List.take 5 (List.drop 3 Z)), .v (.int .u64 t)] σ (fun av σ' => av = .sl 5 (aL (pA L a t)) (pA L a t).length .shut ∧ σ = σ') := by
 unfold pA
 cases hf : jY L a with
 | none =>
   have e : pD pl0.tot (fY pl0 t) = [] := by simp only [pl0]; rw [xC]; exact (jA (g := amt []) (fun i _ => by simp [amt])).trans (nV Go.Vm.gV)
   have := yN (σ := σ) (p := pl0) (t := t) Hg (by simp [pl0]) (by simp [pl0, oT]) ht
   rw [e] at this
   rw [h.no hf]
   exact iS (.cons Iq (.cons (Wk.refl _) .nil)) this
 | some x =>
   rw [h.yes x hf]
   obtain ⟨h1, h2⟩ := oS hf
   have g := (hL x h1).1
   exact yN (hL x h1).2.2 (by have := eI g.tot; omega) g.fit ht

theorem E5.kept {L : List Acc} {a : UInt8} {Z : List AV} (h : E5 L a Z) : List.take 4 (List.drop 9 Z) = aP (rE L a) := by
 unfold rE
 cases hf : jY L a with
 | none => rw [h.no hf]; simp [mG, aP, dL]
 | some x => rw [h.yes x hf]; rfl

def pU (L : List Acc) (v : Acc) (b : Bool) (e : Nat) : PrA := if ¬ fB v then ⟨L, 1⟩ else if lT L v.a = b then ⟨lW v L, 0⟩ else ⟨L, e⟩

theorem Ij (L : List Acc) (v : Acc) : nK L v = pU L v false 9 := by
 unfold nK pU; split
 · rfl
 · cases lT L v.a <;> rfl

theorem GU (L : List Acc) (v : Acc) : mV L v = pU L v true 5 := rfl

theorem EU {σ : St} {o k n e : Nat} {G : Sg} {L : List Acc} {v : Acc} {b : Bool} (h : fS σ o k G) (hi : dH Ru G.s L n) (hn : n ≤ 1000) (hv : v.Ok) :
  aB Tryz.prog 34 [.ptr o 0, .agg (dM v), .v (.bool b), .v (.int .i64 (e : Nat))] σ (fun av σ' => ∃ G', dH Ru G'.s (pU L v b e).L (n + 1) ∧ av = .v (.int .i64 ((pU L v b e).e : Nat)) ∧ σ' = dU σ o k G') := by
 obtain ⟨⟨PW, PE⟩, hP0⟩ : ∃ P, P = pU L v b e := ⟨_, rfl⟩
 rw [← hP0]
 simp only
 refine bV (kA (X := { G' : Sg // dH Ru G'.s PW (n + 1) }) (A := fun _ => .v (.int .i64 (PE : Nat))) (τ := fun x => dU σ o k x.1) ?_ (fun _ => rfl) (fun x => by simp [dU]) (fun x => rfl) (fun x => by simp [dU]) (fun x => rfl) (fun x => uI h _) (fun x => uU (o := o) (k := k) (σ := σ) _)) (fun av σ' ⟨x, e1, e2⟩ => ⟨x.1, x.2, e1, e2⟩)
 have hr1 := fun l => As (σ := { σ with objs := σ.objs ++ l }) hv
 have hge : ∀ l, aB Tryz.prog 54 [.ptr o 0, .sl 1 [.v (.int .u8 97), .v (.int .u8 v.a.toNat)] 2 .full] { σ with objs := σ.objs ++ l } _ := fun l => AG (key := jX v.a) (t1 := .full) (h.app l σ.toks) hi.ok (by omega)
 rw [hi.is] at hge
 obtain ⟨X, hX⟩ : ∃ X, X = byC ((eX G.s.l (jX v.a)).getD []) := ⟨_, rfl⟩
 rw [← hX] at hge
 have hwr := fun (hR : fB v) l => Gl (v := v) (h.app l σ.toks) hi.ok (by omega) (rV hR.2.2.2.1 hv.2) hv.1
 have hpa := fun (G' : Sg) (l : List (List AV)) => pS h G' l
 have hself := uD h
 obtain ⟨B, hB⟩ : ∃ B, B = lT L v.a := ⟨_, rfl⟩
 simp only [← hB] at hge
 obtain ⟨Q, hQ⟩ : ∃ Q, Q = dM v := ⟨_, rfl⟩
 have hQl : Q.length = 17 := by rw [hQ]; rfl
 have hQt : List.take 17 Q = Q := by subst hQ; rfl
 have hQ0 : ∀ h2 : 0 < Q.length, Q[0]'h2 = .v (.int .u8 (v.a.toNat : Nat)) := fun h2 => by subst hQ; rfl
 simp only [← hQ] at hr1 hwr
 rw [← hQ]
 have F := And.intro hQl (And.intro hQt (And.intro hQ0 (True.intro)))
 refine aA Tryz.func34 rfl rfl rfl ?_; refine sr fun _ hJ2 => ?_; apply hJ2; refine sq fun K3 hK3 => ?_; refine sr fun _ hJ5 => ?_; refine go2 (k := ?_); refine ca (c := hr1 _) (k := ?_); rintro _ _ ⟨rfl, rfl⟩; (repeat first | simp [F] | simp (disch := omega) only [wC, if_pos, if_neg]); refine go2 (k := ?_); apply hJ5; refine cs (fun c17 => ?_) (fun c17 => ?_)
 · (try exact aG c17); all_goals have c17p := c17; try simp [F] at c17p
   all_goals
    replace F := aF c17 F; try replace F := aF c17p F
    have hR : ¬ fB v := by have h := c17; simpa using h
    obtain ⟨rfl, rfl⟩ : PW = L ∧ PE = 1 := by rw [pU, if_pos hR] at hP0; simpa using hP0
    refine sr fun _ hJ7 => ?_; apply hJ7; refine ra ?_; refine ⟨⟨G, hi.mono (Nat.le_succ _)⟩, ?_⟩
    rw [hself]
    exact gcr
 (try exact aG c17); all_goals have c17p := c17; try simp [F] at c17p
 all_goals
  replace F := aF c17 F; try replace F := aF c17p F
  have hR : fB v := by have h := c17; simpa using h
  refine aD ?_; apply hK3; refine sq fun K8 hK8 => ?_; refine sr fun _ hJ10 => ?_; refine ca (c := sW) (k := ?_); rintro _ _ ⟨rfl, rfl⟩; (repeat first | simp [F] | simp (disch := omega) only [wC, if_pos, if_neg]); refine ca (c := hge _) (k := ?_); rintro _ _ ⟨rfl, rfl⟩; (repeat first | simp [F] | simp (disch := omega) only [wC, if_pos, if_neg]); apply hJ10; refine sr fun _ hJ12 => ?_; apply hJ12; refine cs (fun c28 => ?_) (fun c28 => ?_)
  · (try exact aG c28); all_goals have c28p := c28; try simp [F] at c28p
    all_goals
     replace F := aF c28 F; try replace F := aF c28p F
     have hb : ¬ lT L v.a = b := by have h := c28; rw [hB] at h; simpa using h
     obtain ⟨rfl, rfl⟩ : PW = L ∧ PE = e := by rw [pU, if_neg (not_not_intro hR), if_neg hb] at hP0; simpa using hP0
     refine sr fun _ hJ14 => ?_; apply hJ14; refine ra ?_; refine ⟨⟨G, hi.mono (Nat.le_succ _)⟩, ?_⟩
     rw [hself]
     exact gcr
  (try exact aG c28); all_goals have c28p := c28; try simp [F] at c28p
  all_goals
   replace F := aF c28 F; try replace F := aF c28p F
   have hb : lT L v.a = b := by have h := c28; rw [hB] at h; simpa using h
   obtain ⟨rfl, rfl⟩ : PW = lW v L ∧ PE = 0 := by rw [pU, if_neg (not_not_intro hR), if_pos hb] at hP0; simpa using hP0
   have hw2 := hwr hR
   refine aD ?_; apply hK8; refine sr fun _ hJ16 => ?_; refine ca (c := hw2 _) (k := ?_); rintro _ _ ⟨G', e0, rfl, rfl⟩; (repeat first | simp [F] | simp (disch := omega) only [wC, if_pos, if_neg]); apply hJ16; refine sr fun _ hJ18 => ?_; apply hJ18; refine ra ?_
   refine ⟨⟨G', by rw [e0]; exact hi.set hR hv⟩, ?_⟩
   rw [hpa]
   exact gcr

theorem Ba {σ : St} {o k n : Nat} {G : Sg} {L : List Acc} {v : Acc} (h : fS σ o k G) (hi : dH Ru G.s L n) (hn : n ≤ 1000) (hv : v.Ok) :
  aB Tryz.prog 14 [.ptr o 0, .agg (dM v)] σ (fun av σ' => ∃ G', dH Ru G'.s (nK L v).L (n + 1) ∧ av = .v (.int .i64 ((nK L v).e : Nat)) ∧ σ' = dU σ o k G') := by
 rw [Ij]
 obtain ⟨⟨PW, PE⟩, hP0⟩ : ∃ P, P = pU L v false 9 := ⟨_, rfl⟩
 rw [← hP0]
 simp only
 refine bV (kA (X := { G' : Sg // dH Ru G'.s PW (n + 1) }) (A := fun _ => .v (.int .i64 (PE : Nat))) (τ := fun x => dU σ o k x.1) ?_ (fun _ => rfl) (fun x => by simp [dU]) (fun x => rfl) (fun x => by simp [dU]) (fun x => rfl) (fun x => uI h _) (fun x => uU (o := o) (k := k) (σ := σ) _)) (fun av σ' ⟨x, e1, e2⟩ => ⟨x.1, x.2, e1, e2⟩)
 have hs := fun l => EU (e := 9) (b := false) (h.app l σ.toks) hi hn hv
 rw [← hP0] at hs
 have hpa := fun (G' : Sg) (l : List (List AV)) => pS h G' l
 obtain ⟨Q, hQ⟩ : ∃ Q, Q = dM v := ⟨_, rfl⟩
 have hQl : Q.length = 17 := by rw [hQ]; rfl
 have hQt : List.take 17 Q = Q := by subst hQ; rfl
 simp only [← hQ] at hs
 rw [← hQ]
 have F := And.intro hQl (And.intro hQt (True.intro))
 refine aA Tryz.func14 rfl rfl rfl ?_; refine sr fun _ hJ2 => ?_; apply hJ2; refine sr fun _ hJ4 => ?_; refine ca (c := hs _) (k := ?_); rintro _ _ ⟨G', e0, rfl, rfl⟩; (repeat first | simp [F] | simp (disch := omega) only [wC, if_pos, if_neg]); apply hJ4; refine ra ?_; refine ⟨⟨G', e0⟩, ?_⟩
 rw [hpa]
 exact gcr

theorem ER {σ : St} {o k n : Nat} {G : Sg} {L : List Acc} {v : Acc} (h : fS σ o k G) (hi : dH Ru G.s L n) (hn : n ≤ 1000) (hv : v.Ok) :
  aB Tryz.prog 24 [.ptr o 0, .agg (dM v)] σ (fun av σ' => ∃ G', dH Ru G'.s (mV L v).L (n + 1) ∧ av = .v (.int .i64 ((mV L v).e : Nat)) ∧ σ' = dU σ o k G') := by
 rw [GU]
 obtain ⟨⟨PW, PE⟩, hP0⟩ : ∃ P, P = pU L v true 5 := ⟨_, rfl⟩
 rw [← hP0]
 simp only
 refine bV (kA (X := { G' : Sg // dH Ru G'.s PW (n + 1) }) (A := fun _ => .v (.int .i64 (PE : Nat))) (τ := fun x => dU σ o k x.1) ?_ (fun _ => rfl) (fun x => by simp [dU]) (fun x => rfl) (fun x => by simp [dU]) (fun x => rfl) (fun x => uI h _) (fun x => uU (o := o) (k := k) (σ := σ) _)) (fun av σ' ⟨x, e1, e2⟩ => ⟨x.1, x.2, e1, e2⟩)
 have hs := fun l => EU (e := 5) (b := true) (h.app l σ.toks) hi hn hv
 rw [← hP0] at hs
 have hpa := fun (G' : Sg) (l : List (List AV)) => pS h G' l
 obtain ⟨Q, hQ⟩ : ∃ Q, Q = dM v := ⟨_, rfl⟩
 have hQl : Q.length = 17 := by rw [hQ]; rfl
 have hQt : List.take 17 Q = Q := by subst hQ; rfl
 simp only [← hQ] at hs
 rw [← hQ]
 have F := And.intro hQl (And.intro hQt (True.intro))
 refine aA Tryz.func24 rfl rfl rfl ?_; refine sr fun _ hJ2 => ?_; apply hJ2; refine sr fun _ hJ4 => ?_; refine ca (c := hs _) (k := ?_); rintro _ _ ⟨G', e0, rfl, rfl⟩; (repeat first | simp [F] | simp (disch := omega) only [wC, if_pos, if_neg]); apply hJ4; refine ra ?_; refine ⟨⟨G', e0⟩, ?_⟩
 rw [hpa]
 exact gcr

def Ds (a : UInt8) : List AV := [.v (.int .u8 a.toNat), .v (.int .u64 0), .v (.int .u8 a.toNat), .v (.int .u8 0), .v (.int .u64 0), .v (.int .u64 0), .sl 0 [] 0 .full, .sl 0 [] 0 .full, .v (.int .u8 0), .v (.int .u64 0), .v (.int .u64 0), .v (.int .u64 0), .v (.int .u64 0), .v (.int .u64 0), .v (.int .u64 0), .v (.int .u64 0), .v (.int .u64 0)]

theorem DG (a : UInt8) : Wk (.agg (Ds a)) (.agg (dM (yQ a))) := by
 have e : dM (yQ a) = [.v (.int .u8 a.toNat), .v (.int .u64 0), .v (.int .u8 a.toNat), .v (.int .u8 0), .v (.int .u64 0), .v (.int .u64 0), .sl 5 [] 0 .shut, .sl 2 [] 0 .shut, .v (.int .u8 0), .v (.int .u64 0), .v (.int .u64 0), .v (.int .u64 0), .v (.int .u64 0), .v (.int .u64 0), .v (.int .u64 0), .v (.int .u64 0), .v (.int .u64 0)] := by simp [dM, yQ, pl0, Num.zero, dL, aL, eN]
 rw [e]
 exact WkL.agg (.cons (Wk.refl _) (.cons (Wk.refl _) (.cons (Wk.refl _) (.cons (Wk.refl _) (.cons (Wk.refl _) (.cons (Wk.refl _) (.cons (Wk.nil _ _ _) (.cons (Wk.nil _ _ _) (WkL.refl _)))))))))

theorem Hu (L : List Acc) (a : UInt8) : nK L (yQ a) = if 200 ≤ a.toNat then ⟨L, 1⟩ else if lT L a = true then ⟨L, 9⟩ else ⟨lW (yQ a) L, 0⟩ := by
 unfold nK
 by_cases h : 200 ≤ a.toNat
 · rw [if_pos (fun q => by have := Bx.1 q; omega), if_pos h]
 · rw [if_neg (not_not_intro (Bx.2 (by omega))), if_neg h]; rfl

theorem I9 {σ : St} {o k n : Nat} {G : Sg} {L : List Acc} {a : UInt8} (h : fS σ o k G) (hi : dH Ru G.s L n) (hn : n ≤ 1000) :
  aB Tryz.prog 31 [.ptr o 0, .v (.int .u8 a.toNat)] σ (fun av σ' => ∃ G', dH Ru G'.s (C4 L a).L (n + 1) ∧ av = .v (.int .i64 ((C4 L a).e : Nat)) ∧ σ' = dU σ o k G') := by
 have hs : aB Tryz.prog 14 [.ptr o 0, .agg (Ds a)] σ _ := iS (.cons (Wk.refl _) (.cons (DG a) .nil)) (Ba h hi hn (Ei a))
 rw [Hu] at hs
 simp only [Ds] at hs
 rw [C4]
 by_cases h1 : 200 ≤ a.toNat
 · simp only [if_pos h1] at hs ⊢
   have F := True.intro
   refine aA Tryz.func31 rfl rfl rfl ?_; refine sq fun K1 hK1 => ?_; refine rg' (h := fun J2 hJ2 => ?_); apply hJ2; apply hK1; refine sq fun K3 hK3 => ?_; refine sq fun K4 hK4 => ?_; refine rg' (h := fun J5 hJ5 => ?_); refine ca (c := hs) (k := ?_); rintro _ _ ⟨G', e0, rfl, rfl⟩; (repeat first | simp [F] | simp (disch := omega) only [wC, if_pos, if_neg]); apply hJ5; apply hK4; refine sq fun K6 hK6 => ?_; refine rg' (h := fun J7 hJ7 => ?_); apply hJ7; apply hK6; refine ct ?_; refine sq fun K8 hK8 => ?_; refine rg' (h := fun J9 hJ9 => ?_); apply hJ9; apply hK8; refine ra ?_; exact ⟨G', e0, rfl, rfl⟩
 · by_cases h2 : lT L a = true
   · simp only [if_neg h1, if_pos h2] at hs ⊢
     have F := True.intro
     refine aA Tryz.func31 rfl rfl rfl ?_; refine sq fun K1 hK1 => ?_; refine rg' (h := fun J2 hJ2 => ?_); apply hJ2; apply hK1; refine sq fun K3 hK3 => ?_; refine sq fun K4 hK4 => ?_; refine rg' (h := fun J5 hJ5 => ?_); refine ca (c := hs) (k := ?_); rintro _ _ ⟨G', e0, rfl, rfl⟩; (repeat first | simp [F] | simp (disch := omega) only [wC, if_pos, if_neg]); apply hJ5; apply hK4; refine sq fun K6 hK6 => ?_; refine rg' (h := fun J7 hJ7 => ?_); apply hJ7; apply hK6; refine cf ?_; refine aD ?_; apply hK3; refine sq fun K8 hK8 => ?_; refine rg' (h := fun J9 hJ9 => ?_); apply hJ9; apply hK8; refine ra ?_; exact ⟨G', e0, rfl, rfl⟩
   · simp only [if_neg h1, if_neg h2] at hs ⊢
     have F := True.intro
     refine aA Tryz.func31 rfl rfl rfl ?_; refine sq fun K1 hK1 => ?_; refine rg' (h := fun J2 hJ2 => ?_); apply hJ2; apply hK1; refine sq fun K3 hK3 => ?_; refine sq fun K4 hK4 => ?_; refine rg' (h := fun J5 hJ5 => ?_); refine ca (c := hs) (k := ?_); rintro _ _ ⟨G', e0, rfl, rfl⟩; (repeat first | simp [F] | simp (disch := omega) only [wC, if_pos, if_neg]); apply hJ5; apply hK4; refine sq fun K6 hK6 => ?_; refine rg' (h := fun J7 hJ7 => ?_); apply hJ7; apply hK6; refine ct ?_; refine sq fun K8 hK8 => ?_; refine rg' (h := fun J9 hJ9 => ?_); apply hJ9; apply hK8; refine ra ?_; exact ⟨G', e0, rfl, rfl⟩

attribute [local simp] eZ wG nD wB wE AJ tH mT oG m7 in
theorem HH {σ : St} {o k n : Nat} {G : Sg} {V : List Acc} (h : fS σ o k G) (hi : dH Ru G.s V n) (hn : n ≤ 1000) :
  aB Tryz.prog 30 [.ptr o 0] σ (fun av σ' => av = .sl 17 (eR V) V.length .shut ∧ σ = σ') := by
 refine aM ?_ (by simp [AV.under, qJ])
 have hke : aB Tryz.prog 63 [.ptr o 0, .sl 1 [.v (.int .u8 97)] 1 .full] σ _ := Ey (p := [97]) (t := .full) h hi.ok (by omega)
 have hkl : vN G.s.l [97] = V.map fun v => jX v.a := by rw [oN hi.ok.srt]; show (pl G.s.l [97]).map (·.k) = _; rw [hi.pa, List.map_map]; rfl
 rw [hkl, List.length_map] at hke
 have hlv : V.length ≤ 1000 := Nat.le_trans hi.nl hn
 have hol := cR h.o
 have hva : ∀ (j : Nat) (hj : j < V.length) tk, aB Tryz.prog 23 [.ptr o 0, .v (.int .u8 V[j].a.toNat)] { σ with toks := tk } (fun av σ' => av = .tup [.agg (dM V[j]), .v (.bool true)] ∧ { σ with toks := tk } = σ') := fun j hj tk => by
  have hm := List.getElem_mem hj
  exact pQ (by simpa using h.app [] tk) hi.ok (by omega) (hi.Fl hm) (hi.rt _ hm).1.2.2.2.1 (hi.rt _ hm).2.1 (hi.yes hm)
 obtain ⟨K, hK⟩ : ∃ K, K = V.map fun v => jX v.a := ⟨_, rfl⟩
 have hKl : K.length = V.length := by rw [hK, List.length_map]
 rw [← hK] at hke
 have hkc := Ce K
 rw [hKl] at hkc
 have hap : ∀ (O : List Acc) (x : Acc) objs, O.length ≤ 1000000 → dA Tryz.prog 43 (lsA σ.toks.length 17 (eR O) O.length) (.sl 17 (dM x) 1 .full) ⟨objs, σ.toks ++ lsT O.length, σ.gl, σ.rows⟩ = some (lsA σ.toks.length 17 (eR (O ++ [x])) (O.length + 1), ⟨objs, σ.toks ++ lsT (O.length + 1), σ.gl, σ.rows⟩) := fun O x objs hO => by
  rw [Aq, show eR [x] = dM x by simp [eR]]
  exact qS elemT_43 ti_32 (by decide) rfl (fun h => by rw [List.eq_nil_of_length_eq_zero h]; rfl) rfl (by omega) (by simp only [fZ]; omega) (by simp only [maxLen]; omega)
 have F := And.intro hol (And.intro hkc (And.intro hKl (True.intro)))
 refine aA Tryz.func30 rfl rfl rfl ?_; refine sr fun _ hJ2 => ?_; apply hJ2; refine sr fun _ hJ4 => ?_; apply hJ4; refine sq fun K5 hK5 => ?_; refine sr fun _ hJ7 => ?_; refine ca (c := hke) (k := ?_); rintro _ _ ⟨rfl, rfl⟩; (repeat first | simp [F] | simp (disch := omega) only [wC, if_pos, if_neg]); apply hJ7; refine aH ?_; refine eO (X := Nat) [0, 2, 10, 11] (fun j ρ σ1 => (j ≤ V.length) ∧ (ρ 12 = .v (.int .i64 j)) ∧ (ρ 3 = lsA σ.toks.length 17 (eR (V.take j)) j) ∧ (σ1 = { σ with toks := σ.toks ++ lsT j })) (fun j => V.length - j) (0) ?st1 ?rd1
 case st1 =>
  refine ⟨lp, lp, lp, ?_⟩
  · simp [nD]
 case rd1 =>
  rintro j ρ1 σ1 hF1 ⟨h1, h16, h7, hσ⟩; obtain rfl := hσ.symm
  have f1 := dX hF1
  (try simp [dW, F] at f1); replace F := aF h16 F; replace F := aF h7 F; (try replace F := aF f1 F); refine sr fun _ hJ9 => ?_; apply hJ9; refine sq fun K10 hK10 => ?_; refine cs (fun c13 => ?_) (fun c13 => ?_)
  · (try exact aG c13); all_goals have c13p := c13; try simp [F] at c13p
    all_goals
     replace F := aF c13 F; try replace F := aF c13p F
     have hlt : j < V.length := by have h := c13; simp at h; omega
     have hgK : ∀ h : j < (lF K).length, (lF K)[j]'h = .sl 1 [.v (.int .u8 97), .v (.int .u8 V[j].a.toNat)] 2 .shut := fun h => by rw [Eh (by omega) h]; simp only [hK, List.getElem_map]; rfl
     have hv1 := hva j hlt
     have hj1 : j + 1 ≤ V.length := hlt
     have hTj : (V.take j).length = j := by rw [List.length_take]; omega
     have hta : V.take j ++ [V[j]] = V.take (j + 1) := List.take_append_getElem hlt
     have hap0 := fun objs => hap (V.take j) V[j] objs (by omega)
     simp only [hta, hTj] at hap0
     have hec : (dM V[j]).length = 17 := rfl
     have hcl : (∀ x, x ∈ dM V[j] → x.bA = true) = True := eq_true (sK _)
     have hyo : ∀ nb, bG nb (dM V[j]) = true := fun nb => lB nb _
     have hyt : List.take 17 (dM V[j]) = dM V[j] := rfl
     obtain ⟨Q, hQ⟩ : ∃ Q, Q = dM V[j] := ⟨_, rfl⟩
     rw [← hQ] at hec hcl hyt
     simp only [← hQ] at hv1 hap0 hyo
     simp only [AV.bA] at hcl
     replace F := aF hlt (And.intro hgK (And.intro hj1 (And.intro hec (And.intro hcl (And.intro hyo (And.intro hyt (And.intro hap0 F))))))); refine aD ?_; apply hK10; refine sq fun K11 hK11 => ?_; refine aH ?_; refine sr fun _ hJ13 => ?_; apply hJ13; refine sr fun _ hJ15 => ?_; refine ca (c := hv1 _) (k := ?_); rintro _ _ ⟨rfl, rfl⟩; (repeat first | simp [F] | simp (disch := omega) only [wC, if_pos, if_neg]); apply hJ15; refine rg' (h := fun J16 hJ16 => ?_); apply hJ16; apply hK11; refine rg' (h := fun J17 hJ17 => ?_); apply hJ17; refine ⟨gk, (j + 1), ⟨kpG, lpG, lpG, lpG, lpG⟩, lpG⟩
  (try exact aG c13); all_goals have c13p := c13; try simp [F] at c13p
  all_goals
   replace F := aF c13 F; try replace F := aF c13p F
   have hje : V.take j = V := List.take_of_length_le (by have h := c13; simp at h; omega)
   have hjl : j = V.length := by have h := c13; simp at h; omega
   have hwk := uK (k := σ.toks.length) (sz := 17) (n := j) (cs := eR V) (fun h => by rw [List.eq_nil_of_length_eq_zero (l := V) (by omega)]; rfl)
   refine bO ?_; apply hK5; refine sr fun _ hJ19 => ?_; apply hJ19; refine ra ?_
   rw [hje] at h7
   rw [← hjl]
   exact gcr (hA := by simp only [aT]; simp [F]; rw [hje]; exact hwk)

theorem zI {σ : St} {x y z : Nat} (hx : x < 2 ^ 256) (hy : y < 2 ^ 256) (hz : z < 2 ^ 256) :
  aB Tryz.prog 47 [.agg (aP x), .agg (aP y), .agg (aP z)] σ (fun av σ' => av = .agg (aP (spN x y z)) ∧ σ = σ') := by
 refine aM ?_ (by simp [AV.under, aZ, aP])
 have h1 := fun τ => yS (σ := τ) hy hz
 have h2 := fun τ => yS (σ := τ) hx (show y - z < 2 ^ 256 by omega)
 simp only [spN]
 have F := True.intro
 refine aA Tryz.func47 rfl rfl rfl ?_; refine sr fun _ hJ2 => ?_; apply hJ2; refine sq fun K3 hK3 => ?_
 refine bQ (by kernel_rfl) fun J4 hJ4 => ?_
 refine q2 0 ?_; refine q2 1 ?_; refine q2 2 ?_; refine dc 3 rfl (c := h1 _) (k := ?_); rintro _ _ ⟨rfl, rfl⟩
 refine ⟨by first | exact fun _ _ h => h | (refine aI [0] (by kernel_rfl) ?_; (repeat' first | exact ln2 | refine lc ?_ ?_) <;> constructor <;> first | rfl | (simp [F]; done)), ?_⟩
 (repeat first | simp [F] | simp (disch := omega) only [wC, if_pos, if_neg]); refine dc 4 rfl (c := h2 _) (k := ?_); rintro _ _ ⟨rfl, rfl⟩; refine ⟨ln, ?_⟩; (repeat first | simp [F] | simp (disch := omega) only [wC, if_pos, if_neg]); refine dop 5 rfl ?_; (repeat first | simp [F] | simp (disch := omega) only [wC, if_pos, if_neg]); refine ⟨ln, ?_⟩; refine dd ?_; apply hJ4; apply hK3; refine bZ ?_; (try simp only [eQ, bK, cK]); refine kZ (h := ?_); exact gcr

attribute [local simp] dV in
theorem CG {σ : St} {o k n m t : Nat} {G : Sg} {L : List Acc} {T : Tb} {a : UInt8} (h : fS σ o k G) (hi : dH Ru G.s L n) (hb : gC Rv G.s T m) (hn : n ≤ 1000) (hm : m ≤ 1000) (ht : t < 2 ^ 64) :
  aB Tryz.prog 19 [.ptr o 0, .v (.int .u8 a.toNat), .v (.int .u64 t)] σ (fun av σ' => av = .sl 5 (aL (tY L a t (T (some a)))) (tY L a t (T (some a))).length .shut ∧ σ = σ') := by
 refine aM ?_ (by simp [AV.under])
 have hR := hb.rt (some a)
 rw [← xU hR]
 have hge := fun l => EK (a := a) (h.app l σ.toks) hi hn
 have hco := fun l => FK (a := a) (h.app l σ.toks) hb (by omega)
 have hLg : ∀ x ∈ L, Good x.p ∧ x.Ok := fun x hx => ⟨hi.Fl hx, (hi.rt x hx).2⟩
 have hlr : (pA L a t).length ≤ 8 := by
  unfold pA; split
  · exact eI (CK _ _)
  · simp
 have hkl : rE L a < 2 ^ 256 := by unfold rE; split <;> first | exact Num.h _ | decide
 obtain ⟨B, hB⟩ : ∃ B, B = T (some a) := ⟨_, rfl⟩
 rw [← hB] at hR
 simp only [← hB] at hco ⊢
 have hBl := eI hR
 obtain ⟨g, hg⟩ : ∃ g, g = spG (pA L a t) (rE L a) := ⟨_, rfl⟩
 rw [← hg]
 have hgl : ∀ d x, x < 2 ^ 256 → g d x < 2 ^ 256 := by rw [hg]; exact Ih _ _
 have hgs : ∀ d x, g d x = spN x (amt (pA L a t) d) (if d = 0 then rE L a else 0) := by rw [hg]; exact fun _ _ => rfl
 obtain ⟨K, hK⟩ : ∃ K, K = pA L a t := ⟨_, rfl⟩
 obtain ⟨kp, hkp⟩ : ∃ kp, kp = rE L a := ⟨_, rfl⟩
 rw [← hK] at hlr
 simp only [← hK, ← hkp] at hgs
 rw [← hkp] at hkl
 have hz4 : aP 0 = [.v (.int .u64 0), .v (.int .u64 0), .v (.int .u64 0), .v (.int .u64 0)] := by simp [aP, dL]
 have hol := cR h.o
 have hge0 := EK (a := a) h hi hn
 have F := And.intro hol (True.intro)
 refine aA Tryz.func19 rfl rfl rfl ?_; refine sr fun _ hJ2 => ?_; apply hJ2; refine sr fun _ hJ4 => ?_; refine ca (c := hge0) (k := ?_); rintro _ _ ⟨Z, hZ, rfl, rfl⟩
 have z1 := hZ.len
 have z2 := hZ.cells
 simp only [AV.bA] at z2
 have z3 : List.take 17 Z = Z := List.take_of_length_le (Nat.le_of_eq z1)
 have hlk := fun τ => hZ.lock (σ := τ) hLg ht
 simp only [← hK] at hlk
 have hkt := hZ.kept
 rw [← hkp] at hkt
 replace F := aF z1 (And.intro z2 (And.intro z3 (And.intro hkt F))); (repeat first | simp [F] | simp (disch := omega) only [wC, if_pos, if_neg]); apply hJ4; refine sr fun _ hJ6 => ?_; refine ca (c := hlk _) (k := ?_); rintro _ _ ⟨rfl, rfl⟩; (repeat first | simp [F] | simp (disch := omega) only [wC, if_pos, if_neg]); apply hJ6; refine sr fun _ hJ8 => ?_; apply hJ8; refine sq fun K9 hK9 => ?_; refine sr fun _ hJ11 => ?_; refine ca (c := hco _) (k := ?_); rintro _ _ ⟨rfl, rfl⟩; (repeat first | simp [F] | simp (disch := omega) only [wC, if_pos, if_neg]); apply hJ11; refine aH ?_; refine eO (X := Nat) [6, 7, 9, 27, 28] (fun j ρ σ1 => (j ≤ B.length) ∧ (ρ 10 = grA σ.toks.length 5 (iD j) (aL (mR g (B.take j))) (mR g (B.take j)).length) ∧ (ρ 29 = .v (.int .i64 j)) ∧ (σ1 = { σ with objs := σ.objs ++ [Z], toks := σ.toks ++ grT (iD j) (mR g (B.take j)).length })) (fun j => B.length - j) (0) ?st1 ?rd1
 case st1 =>
  refine ⟨lp, lp, lp, ?_⟩
  · simp [F]
 case rd1 =>
  rintro j ρ1 σ1 hF1 ⟨h1, h10, h29, hσ⟩; obtain rfl := hσ.symm
  have f1 := dX hF1
  (try simp [dW, F] at f1); replace F := aF h10 F; replace F := aF h29 F; (try replace F := aF f1 F); refine sr fun _ hJ13 => ?_; apply hJ13; refine sq fun K14 hK14 => ?_; refine cs (fun c30 => ?_) (fun c30 => ?_)
  · (try exact aG c30); all_goals have c30p := c30; try simp [F] at c30p
    all_goals
     replace F := aF c30 F; (try replace F := aF c30p F); refine aD ?_; apply hK14; refine sq fun K15 hK15 => ?_; refine aH ?_; refine sq fun K16 hK16 => ?_
     have hlt : j < B.length := by simp at c30; omega
     have hat := gD hlt
     have hb1 : j * 5 + 5 ≤ B.length * 5 := by omega
     obtain ⟨x, hx⟩ : ∃ x, x = B[j] := ⟨_, rfl⟩
     rw [← hx] at hat
     simp only [dV] at hat
     obtain ⟨n, hn⟩ : ∃ n, n = Num.of (g x.d.toNat x.n.v) := ⟨_, rfl⟩
     have hnv : n.v = g x.d.toNat x.n.v := by rw [hn]; exact Num.s9 (hgl _ _ x.n.h)
     obtain ⟨O, hO⟩ : ∃ O, O = mR g (B.take j) := ⟨_, rfl⟩
     obtain ⟨M, hM⟩ : ∃ M, M = j1 x.d n := ⟨_, rfl⟩
     have hnx : mR g (B.take (j + 1)) = O ++ M := by rw [hO, hM, hn, hx, ← List.take_append_getElem hlt, Ak]
     have hOl : O.length ≤ j := by rw [hO]; exact Nat.le_trans (BC _ _) (by simp; omega)
     have hMl : M.length ≤ 1 := by rw [hM]; unfold j1; split <;> simp
     rw [← hO] at h10 F
     rw [← hO]
     have hb0 : iD j = false → aL O = [] ∧ O.length = 0 := fun h => by have h0 := j4 h; subst h0; rw [hO]; simp [mR]
     have happ : ∀ objs, dA Tryz.prog 23 (grA σ.toks.length 5 (iD j) (aL O) O.length) (.sl 5 (aL M) M.length .shut) ⟨objs, σ.toks ++ grT (iD j) O.length, σ.gl, σ.rows⟩ = some (grA σ.toks.length 5 true (aL O ++ aL M) (O.length + M.length), ⟨objs, σ.toks ++ grT true (O.length + M.length), σ.gl, σ.rows⟩) := fun objs => kC elemT_23 ti_38 (by decide) rfl hb0 (.inl rfl) (by simp [fZ]; omega) (by simp [maxLen]; omega)
     replace F := aF hlt F; replace F := aF hat F; replace F := aF hb1 F; replace F := aF happ F; refine rg' (h := fun J17 hJ17 => ?_); apply hJ17; apply hK16; refine sr fun _ hJ19 => ?_; apply hJ19; refine sq fun K20 hK20 => ?_; refine sr fun _ hJ22 => ?_; apply hJ22; refine cs (fun c36 => ?_) (fun c36 => ?_)
     · (try exact aG c36); all_goals have c36p := c36; try simp [F] at c36p
       all_goals
        replace F := aF c36 F; try replace F := aF c36p F
        have h0 : x.d.toNat = 0 := by have h := c36; simp at h; omega
        have hsp := fun τ => zI (σ := τ) x.n.h (jG K x.d.toNat) hkl
        have e : spN x.n.v (amt K x.d.toNat) kp = n.v := by rw [hnv, hgs, if_pos h0]
        simp only [e] at hsp
        refine rg' (h := fun J23 hJ23 => ?_); apply hJ23; apply hK20; refine sq fun K24 hK24 => ?_
        refine bQ (by kernel_rfl) fun J25 hJ25 => ?_
        refine q2 0 ?_; refine q2 1 ?_; refine q2 2 ?_; refine q2 3 ?_; refine q2 4 ?_; refine q2 6 ?_; refine d2 5 8 ?_ ?_
        · refine ac 5 rfl (c := mC (l := K) (d := x.d) (tl := .shut) (by omega)) (k := ?_)
          rintro _ _ ⟨rfl, rfl⟩
          refine ⟨by first | exact fun _ _ h => h | (refine aI [6, 3, 1, 0] (by kernel_rfl) ?_; (repeat' first | exact ln2 | refine lc ?_ ?_) <;> constructor <;> first | rfl | (simp [F]; done)), ?_⟩
          (repeat first | simp [F] | simp (disch := omega) only [wC, if_pos, if_neg]); refine d2 7 8 ?_ ?_
          · refine ac 7 rfl (c := hsp _) (k := ?_); rintro _ _ ⟨rfl, rfl⟩
            refine ⟨by first | exact fun _ _ h => h | (refine aI [3, 0] (by kernel_rfl) ?_; (repeat' first | exact ln2 | refine lc ?_ ?_) <;> constructor <;> first | rfl | (simp [F]; done)), ?_⟩
            (repeat first | simp [F] | simp (disch := omega) only [wC, if_pos, if_neg]); refine dop 8 rfl ?_; repeat (first | simp [F] | simp (disch := omega) only [wC, if_pos, if_neg])
            refine ⟨by first | exact bT _ (by kernel_rfl) | exact bN (by kernel_rfl) rfl, ?_⟩
            refine dop 9 rfl ?_; (repeat first | simp [F] | simp (disch := omega) only [wC, if_pos, if_neg]); refine ⟨ln, ?_⟩; refine dd ?_; apply hJ25; apply hK24; refine rg' (h := fun J26 hJ26 => ?_); refine ca (c := (hM ▸ gY (d := x.d) (n := n))) (k := ?_); rintro _ _ ⟨rfl, rfl⟩; (repeat first | simp [F] | simp (disch := omega) only [wC, if_pos, if_neg]); apply hJ26; apply hK15; refine rg' (h := fun J27 hJ27 => ?_); apply hJ27; refine ⟨gk, (j + 1), ⟨kpG, lpG, ?_, lpG, ?_⟩, lpG⟩
            · rw [hnx, ← cO]
              simp [F, AV.gcO, cF]
            · rw [hnx]
              simp [F, St.fD]
          · refine ao 8 rfl ?_; repeat (first | simp [F] | simp (disch := omega) only [wC, if_pos, if_neg])
            refine ⟨by first | exact bT _ (by kernel_rfl) | exact bN (by kernel_rfl) rfl, ?_⟩
            refine dc 7 rfl (c := hsp _) (k := ?_); rintro _ _ ⟨rfl, rfl⟩
            refine ⟨by first | exact fun _ _ h => h | (refine aI [3, 0] (by kernel_rfl) ?_; (repeat' first | exact ln2 | refine lc ?_ ?_) <;> constructor <;> first | rfl | (simp [F]; done)), ?_⟩
            (repeat first | simp [F] | simp (disch := omega) only [wC, if_pos, if_neg]); refine dop 9 rfl ?_; (repeat first | simp [F] | simp (disch := omega) only [wC, if_pos, if_neg]); refine ⟨ln, ?_⟩; refine dd ?_; apply hJ25; apply hK24; refine rg' (h := fun J28 hJ28 => ?_); refine ca (c := (hM ▸ gY (d := x.d) (n := n))) (k := ?_); rintro _ _ ⟨rfl, rfl⟩; (repeat first | simp [F] | simp (disch := omega) only [wC, if_pos, if_neg]); apply hJ28; apply hK15; refine rg' (h := fun J29 hJ29 => ?_); apply hJ29; refine ⟨gk, (j + 1), ⟨kpG, lpG, ?_, lpG, ?_⟩, lpG⟩
            · rw [hnx, ← cO]
              simp [F, AV.gcO, cF]
            · rw [hnx]
              simp [F, St.fD]
        · refine ao 8 rfl ?_; repeat (first | simp [F] | simp (disch := omega) only [wC, if_pos, if_neg])
          refine ⟨by first | exact bT _ (by kernel_rfl) | exact bN (by kernel_rfl) rfl, ?_⟩
          refine dc 5 rfl (c := mC (l := K) (d := x.d) (tl := .shut) (by omega)) (k := ?_)
          rintro _ _ ⟨rfl, rfl⟩
          refine ⟨by first | exact fun _ _ h => h | (refine aI [6, 3, 1, 0] (by kernel_rfl) ?_; (repeat' first | exact ln2 | refine lc ?_ ?_) <;> constructor <;> first | rfl | (simp [F]; done)), ?_⟩
          (repeat first | simp [F] | simp (disch := omega) only [wC, if_pos, if_neg]); refine dc 7 rfl (c := hsp _) (k := ?_); rintro _ _ ⟨rfl, rfl⟩
          refine ⟨by first | exact fun _ _ h => h | (refine aI [3, 0] (by kernel_rfl) ?_; (repeat' first | exact ln2 | refine lc ?_ ?_) <;> constructor <;> first | rfl | (simp [F]; done)), ?_⟩
          (repeat first | simp [F] | simp (disch := omega) only [wC, if_pos, if_neg]); refine dop 9 rfl ?_; (repeat first | simp [F] | simp (disch := omega) only [wC, if_pos, if_neg]); refine ⟨ln, ?_⟩; refine dd ?_; apply hJ25; apply hK24; refine rg' (h := fun J30 hJ30 => ?_); refine ca (c := (hM ▸ gY (d := x.d) (n := n))) (k := ?_); rintro _ _ ⟨rfl, rfl⟩; (repeat first | simp [F] | simp (disch := omega) only [wC, if_pos, if_neg]); apply hJ30; apply hK15; refine rg' (h := fun J31 hJ31 => ?_); apply hJ31; refine ⟨gk, (j + 1), ⟨kpG, lpG, ?_, lpG, ?_⟩, lpG⟩
          · rw [hnx, ← cO]
            simp [F, AV.gcO, cF]
          · rw [hnx]
            simp [F, St.fD]
     (try exact aG c36); all_goals have c36p := c36; try simp [F] at c36p
     all_goals
      replace F := aF c36 F; try replace F := aF c36p F
      have h0 : ¬ x.d.toNat = 0 := by have h := c36; simp at h; omega
      have hsp := fun τ => zI (σ := τ) x.n.h (jG K x.d.toNat) (show 0 < 2 ^ 256 by decide)
      have e : spN x.n.v (amt K x.d.toNat) 0 = n.v := by rw [hnv, hgs, if_neg h0]
      simp only [e, hz4] at hsp
      refine aD ?_; apply hK20; refine sq fun K32 hK32 => ?_
      refine bQ (by kernel_rfl) fun J33 hJ33 => ?_
      refine q2 0 ?_; refine q2 1 ?_; refine q2 2 ?_; refine q2 3 ?_; refine q2 4 ?_; refine q2 6 ?_; refine d2 5 8 ?_ ?_
      · refine ac 5 rfl (c := mC (l := K) (d := x.d) (tl := .shut) (by omega)) (k := ?_)
        rintro _ _ ⟨rfl, rfl⟩
        refine ⟨by first | exact fun _ _ h => h | (refine aI [6, 3, 1, 0] (by kernel_rfl) ?_; (repeat' first | exact ln2 | refine lc ?_ ?_) <;> constructor <;> first | rfl | (simp [F]; done)), ?_⟩
        (repeat first | simp [F] | simp (disch := omega) only [wC, if_pos, if_neg]); refine d2 7 8 ?_ ?_
        · refine ac 7 rfl (c := hsp _) (k := ?_); rintro _ _ ⟨rfl, rfl⟩
          refine ⟨by first | exact fun _ _ h => h | (refine aI [3, 0] (by kernel_rfl) ?_; (repeat' first | exact ln2 | refine lc ?_ ?_) <;> constructor <;> first | rfl | (simp [F]; done)), ?_⟩
          (repeat first | simp [F] | simp (disch := omega) only [wC, if_pos, if_neg]); refine dop 8 rfl ?_; repeat (first | simp [F] | simp (disch := omega) only [wC, if_pos, if_neg])
          refine ⟨by first | exact bT _ (by kernel_rfl) | exact bN (by kernel_rfl) rfl, ?_⟩
          refine dop 9 rfl ?_; (repeat first | simp [F] | simp (disch := omega) only [wC, if_pos, if_neg]); refine ⟨ln, ?_⟩; refine dd ?_; apply hJ33; apply hK32; refine rg' (h := fun J34 hJ34 => ?_); refine ca (c := (hM ▸ gY (d := x.d) (n := n))) (k := ?_); rintro _ _ ⟨rfl, rfl⟩; (repeat first | simp [F] | simp (disch := omega) only [wC, if_pos, if_neg]); apply hJ34; apply hK15; refine rg' (h := fun J35 hJ35 => ?_); apply hJ35; refine ⟨gk, (j + 1), ⟨kpG, lpG, ?_, lpG, ?_⟩, lpG⟩
          · rw [hnx, ← cO]
            simp [F, AV.gcO, cF]
          · rw [hnx]
            simp [F, St.fD]
        · refine ao 8 rfl ?_; repeat (first | simp [F] | simp (disch := omega) only [wC, if_pos, if_neg])
          refine ⟨by first | exact bT _ (by kernel_rfl) | exact bN (by kernel_rfl) rfl, ?_⟩
          refine dc 7 rfl (c := hsp _) (k := ?_); rintro _ _ ⟨rfl, rfl⟩
          refine ⟨by first | exact fun _ _ h => h | (refine aI [3, 0] (by kernel_rfl) ?_; (repeat' first | exact ln2 | refine lc ?_ ?_) <;> constructor <;> first | rfl | (simp [F]; done)), ?_⟩
          (repeat first | simp [F] | simp (disch := omega) only [wC, if_pos, if_neg]); refine dop 9 rfl ?_; (repeat first | simp [F] | simp (disch := omega) only [wC, if_pos, if_neg]); refine ⟨ln, ?_⟩; refine dd ?_; apply hJ33; apply hK32; refine rg' (h := fun J36 hJ36 => ?_); refine ca (c := (hM ▸ gY (d := x.d) (n := n))) (k := ?_); rintro _ _ ⟨rfl, rfl⟩; (repeat first | simp [F] | simp (disch := omega) only [wC, if_pos, if_neg]); apply hJ36; apply hK15; refine rg' (h := fun J37 hJ37 => ?_); apply hJ37; refine ⟨gk, (j + 1), ⟨kpG, lpG, ?_, lpG, ?_⟩, lpG⟩
          · rw [hnx, ← cO]
            simp [F, AV.gcO, cF]
          · rw [hnx]
            simp [F, St.fD]
      · refine ao 8 rfl ?_; repeat (first | simp [F] | simp (disch := omega) only [wC, if_pos, if_neg])
        refine ⟨by first | exact bT _ (by kernel_rfl) | exact bN (by kernel_rfl) rfl, ?_⟩
        refine dc 5 rfl (c := mC (l := K) (d := x.d) (tl := .shut) (by omega)) (k := ?_)
        rintro _ _ ⟨rfl, rfl⟩
        refine ⟨by first | exact fun _ _ h => h | (refine aI [6, 3, 1, 0] (by kernel_rfl) ?_; (repeat' first | exact ln2 | refine lc ?_ ?_) <;> constructor <;> first | rfl | (simp [F]; done)), ?_⟩
        (repeat first | simp [F] | simp (disch := omega) only [wC, if_pos, if_neg]); refine dc 7 rfl (c := hsp _) (k := ?_); rintro _ _ ⟨rfl, rfl⟩
        refine ⟨by first | exact fun _ _ h => h | (refine aI [3, 0] (by kernel_rfl) ?_; (repeat' first | exact ln2 | refine lc ?_ ?_) <;> constructor <;> first | rfl | (simp [F]; done)), ?_⟩
        (repeat first | simp [F] | simp (disch := omega) only [wC, if_pos, if_neg]); refine dop 9 rfl ?_; (repeat first | simp [F] | simp (disch := omega) only [wC, if_pos, if_neg]); refine ⟨ln, ?_⟩; refine dd ?_; apply hJ33; apply hK32; refine rg' (h := fun J38 hJ38 => ?_); refine ca (c := (hM ▸ gY (d := x.d) (n := n))) (k := ?_); rintro _ _ ⟨rfl, rfl⟩; (repeat first | simp [F] | simp (disch := omega) only [wC, if_pos, if_neg]); apply hJ38; apply hK15; refine rg' (h := fun J39 hJ39 => ?_); apply hJ39; refine ⟨gk, (j + 1), ⟨kpG, lpG, ?_, lpG, ?_⟩, lpG⟩
        · rw [hnx, ← cO]
          simp [F, AV.gcO, cF]
        · rw [hnx]
          simp [F, St.fD]
  (try exact aG c30); all_goals have c30p := c30; try simp [F] at c30p
  all_goals
   replace F := aF c30 F; try replace F := aF c30p F
   have hii : j = B.length := by have h := c30; simp at h; omega
   have hv : mR g B = mR g (B.take j) := by rw [hii, List.take_length]
   refine bO ?_; apply hK9; refine sr fun _ hJ41 => ?_; apply hJ41; refine ra ?_
   rw [hv]
   exact gcr (hA := by simp only [aT]; simp [F]; exact qL (fun h => by have h0 := j4 h; subst h0; simp [mR]))

end Go.Proofs.YtjpnjhlfieklfaaGreat

/-
  What else a document's state holds.
-/
namespace Go.Proofs.YtjpnjhlfieklfaaGreat
set_option linter.unnecessarySimpa false
set_option maxRecDepth 100000
set_option linter.unusedSimpArgs false
set_option linter.unusedVariables false
open Go Go.Vm
attribute [local simp] dK aJ dJ opA bD bH cJ bP ofValue dC plain aR aS bY b6 cA cC b7 cE b8 b9 cX cB cH cG cD bU aV aU bL cS aW dN dP bI bC cN gI bR dD bW AV.cells AV.bA dE cI e6 bF aY cQ dI dS dY cL aO dR dQ cW cU cM List.getElem?_cons_zero List.getElem?_cons_succ fK fI fH fG fN fM fJ fL dF eT eF eZ

structure Fr where
 t : AV
 s : AV
 b : AV
 a : AV
 v : AV
 d : AV
 e : AV
 h : AV
 no : ∀ x ∈ [t, s, b, a, v, d, e, h], (∀ n, x.eH n = true) ∧ ∀ B, x.under B = true
@[simp] theorem Fr.nt (f : Fr) (n : Nat) : f.t.eH n = true := (f.no _ (by simp)).1 n
@[simp] theorem Fr.ut (f : Fr) (B : Bd) : f.t.under B = true := (f.no _ (by simp)).2 B
@[simp] theorem Fr.ns (f : Fr) (n : Nat) : f.s.eH n = true := (f.no _ (by simp)).1 n
@[simp] theorem Fr.us (f : Fr) (B : Bd) : f.s.under B = true := (f.no _ (by simp)).2 B
@[simp] theorem Fr.nb (f : Fr) (n : Nat) : f.b.eH n = true := (f.no _ (by simp)).1 n
@[simp] theorem Fr.ub (f : Fr) (B : Bd) : f.b.under B = true := (f.no _ (by simp)).2 B
@[simp] theorem Fr.na (f : Fr) (n : Nat) : f.a.eH n = true := (f.no _ (by simp)).1 n
@[simp] theorem Fr.ua (f : Fr) (B : Bd) : f.a.under B = true := (f.no _ (by simp)).2 B
@[simp] theorem Fr.nv (f : Fr) (n : Nat) : f.v.eH n = true := (f.no _ (by simp)).1 n
@[simp] theorem Fr.uv (f : Fr) (B : Bd) : f.v.under B = true := (f.no _ (by simp)).2 B
@[simp] theorem Fr.nd (f : Fr) (n : Nat) : f.d.eH n = true := (f.no _ (by simp)).1 n
@[simp] theorem Fr.ud (f : Fr) (B : Bd) : f.d.under B = true := (f.no _ (by simp)).2 B
@[simp] theorem Fr.ne (f : Fr) (n : Nat) : f.e.eH n = true := (f.no _ (by simp)).1 n
@[simp] theorem Fr.ue (f : Fr) (B : Bd) : f.e.under B = true := (f.no _ (by simp)).2 B
@[simp] theorem Fr.nh (f : Fr) (n : Nat) : f.h.eH n = true := (f.no _ (by simp)).1 n
@[simp] theorem Fr.uh (f : Fr) (B : Bd) : f.h.under B = true := (f.no _ (by simp)).2 B

def Sp (σ : St) (G : Sg) (l : List (List AV)) : St := { σ with objs := σ.objs ++ stC σ.rows.length G :: l, rows := σ.rows ++ [pF G, oI G, oD G] }

theorem Sp.has (σ : St) (G : Sg) (l : List (List AV)) : fS (Sp σ G l) σ.objs.length σ.rows.length G := ⟨by simp [Sp], by simp [Sp], by simp [Sp], by simp [Sp]⟩

theorem Sp.put (σ : St) (G G' : Sg) (l : List (List AV)) : dU (Sp σ G l) σ.objs.length σ.rows.length G' = Sp σ G' l := by simp [Sp, dU]

theorem Sp.app (σ : St) (G : Sg) (l : List (List AV)) (x : List AV) : { Sp σ G l with objs := (Sp σ G l).objs ++ [x] } = Sp σ G (l ++ [x]) := by simp [Sp]

theorem Sp.len (σ : St) (G : Sg) (l : List (List AV)) : (Sp σ G l).objs.length = σ.objs.length + (1 + l.length) := by simp [Sp]; omega

theorem tX {σ : St} : aB Tryz.prog 13 [] σ (fun av σ' => av = .ptr σ.objs.length 0 ∧ σ' = Sp σ eM []) := Fy

end Go.Proofs.YtjpnjhlfieklfaaGreat

/-
  The document's bank: who has what; that he has something else.
-/
namespace Go.Proofs.YtjpnjhlfieklfaaGreat
set_option linter.unnecessarySimpa false
set_option maxRecDepth 100000
open Go Go.Vm
set_option linter.unusedSimpArgs false
set_option linter.unusedVariables false
attribute [local simp] dK aJ dJ opA bD bH cJ bP ofValue dC plain aR aS bY b6 cA cC b7 cE b8 b9 cX cB cH cG cD bU aV aU bL cS aW dN dP bI bC cN gI bR dD bW AV.cells AV.bA dE cI e6 bF aY cQ dI dS dY cL aO dR dQ cW cU cM List.getElem?_cons_zero List.getElem?_cons_succ fK fI fH fG fN fM fJ fL dF eT eF eZ
variable {Ru : UInt8 → List Pr}

theorem qW {l : List AV} {i j : Nat} {x : AV} (h : (l.drop i)[j]? = some x) : ∀ h2 : i + j < l.length, l[i + j]'h2 = x := fun h2 => by
 rw [List.getElem?_drop] at h
 exact (List.getElem?_eq_some_iff.1 h).2

variable {fr : Fr}

structure Bl where
 a : UInt8
 l : List bB

def H6 (b : Bl) : List AV := [.v (.int .u8 b.a.toNat), cos b.l]

def Hz (l : List Bl) : List AV := l.flatMap H6

theorem Dk (B : Bd) (v : Bl) : aZ B (H6 v) = true := by simp [H6, cos, aZ, AV.under]

theorem DQ (n : Nat) (v : Bl) : bG n (H6 v) = true := by simp [H6, cos, bG, AV.eH]

theorem B4 (B : Bd) (l : List Bl) : aZ B (Hz l) = true := iE (Dk B) l

theorem CO (nb : Nat) (l : List Bl) : bG nb (Hz l) = true := iF (DQ nb) l

def bE (T : Tb) (i : Nat) : List Bl := if T (some (UInt8.ofNat i)) = [] then [] else [⟨UInt8.ofNat i, T (some (UInt8.ofNat i))⟩]

def Co (T : Tb) : Nat → List Bl
 | 0 => []
 | n + 1 => Co T n ++ bE T n

def Gc (T : Tb) : List Bl := Co T 256

theorem Lv {T : Tb} {i : Nat} {b : Bl} (hi : i < 256) : b ∈ bE T i ↔ b.a.toNat = i ∧ b.l = T (some b.a) ∧ b.l ≠ [] := by
 unfold bE
 constructor
 · intro h
   split at h
   · simp at h
   · rename_i hne
     simp only [List.mem_singleton] at h
     subst h
     exact ⟨toNat_ofNat hi, rfl, hne⟩
 · intro ⟨h1, h2, h3⟩
   have e : UInt8.ofNat i = b.a := by rw [← h1]; exact UInt8.toNat_inj.1 (toNat_ofNat b.a.toNat_lt)
   rw [e, if_neg (by rw [← h2]; exact h3), ← h2]
   simp

theorem zJ {T : Tb} {b : Bl} : ∀ n, n ≤ 256 → (b ∈ Co T n ↔ b.a.toNat < n ∧ b.l = T (some b.a) ∧ b.l ≠ [])
 | 0, _ => by simp [Co]
 | n + 1, hn => by
   rw [Co, List.mem_append, zJ n (by omega), Lv (by omega)]
   constructor
   · rintro (⟨h1, h2⟩ | ⟨h1, h2⟩)
     · exact ⟨by omega, h2⟩
     · exact ⟨by omega, h2⟩
   · intro ⟨h1, h2⟩
     by_cases e : b.a.toNat = n
     · exact .inr ⟨e, h2⟩
     · exact .inl ⟨by omega, h2⟩

theorem CS {T : Tb} {b : Bl} : b ∈ Gc T ↔ b.l = T (some b.a) ∧ b.l ≠ [] := by
 rw [Gc, zJ 256 (Nat.le_refl _)]
 exact ⟨fun h => h.2, fun h => ⟨b.a.toNat_lt, h⟩⟩

structure GB where
 i : Nat
 O : List Bl
 b : Bool

end Go.Proofs.YtjpnjhlfieklfaaGreat

/-
  The document of accounts.
-/
namespace Go.Proofs.YtjpnjhlfieklfaaGreat
set_option maxHeartbeats 1600000
set_option linter.unnecessarySimpa false
set_option maxRecDepth 100000
open Go Go.Vm
set_option linter.unusedSimpArgs false
set_option linter.unusedVariables false
attribute [local simp] dK aJ dJ opA bD bH cJ bP ofValue dC plain aR aS bY b6 cA cC b7 cE b8 b9 cX cB cH cG cD bU aV aU bL cS aW dN dP bI bC cN gI bR dD bW AV.cells AV.bA dE cI e6 bF aY cQ dI dS dY cL aO dR dQ cW cU cM List.getElem?_cons_zero List.getElem?_cons_succ fK fI fH fG fN fM fJ fL dF eT eF eZ cV
variable {fr fb : Fr}

def aX (fr : Fr) (x : AV) : List AV := [fr.t, fr.s, fr.b, x, fr.v, fr.d, fr.e, fr.h]

def aC (fr : Fr) (L : List Acc) : List AV := aX fr (.sl 17 (eR L) L.length .shut)

theorem Mq {x x' : AV} (hx : Wk x x') : WkL (aX fr x) (aX fr x') :=
 .cons (Wk.refl _) (.cons (Wk.refl _) (.cons (Wk.refl _) (.cons hx (WkL.refl _))))

theorem CZ (B : Bd) (L : List Acc) : aZ B (aC fr L) = true := by simp [aC, aX, aZ, AV.under, qJ]

def jZ (fr : Fr) (σ : St) (m : Nat) (L : List Acc) : St := { σ with objs := σ.objs.set m (aC fr L) }

theorem JY {P : Program} {f : FuncId} {args : List AV} {σ : St} {m : Nat} {W : List Acc} {A : AV} (hw : m < σ.objs.length) (hA : A.under σ.bd = true)
  (k : aB P f args σ (fun av σ' => av = A ∧ ∃ tk x l r, Wk x (.sl 17 (eR W) W.length .shut) ∧ σ' = { σ with objs := σ.objs.set m (aX fr x) ++ l, toks := σ.toks ++ tk, rows := σ.rows ++ r })) :
  aB P f args σ (fun av σ' => av = A ∧ σ' = jZ fr σ m W) := by
 refine DW (A := A) (τ := jZ fr σ m W) ?_ hA (by simp [jZ]) rfl rfl rfl (Dy (EB _) (CZ _ _)) (B7 _)
 refine o5 k (fun av σ' h => ?_)
 obtain ⟨rfl, tk, x, l, r, hx, rfl⟩ := h
 refine ⟨av, { σ with objs := σ.objs.set m (aC fr W) ++ l, toks := σ.toks ++ tk, rows := σ.rows ++ r }, Wk.refl _, ?_, Wk.refl _, l, tk, r, by simp [jZ]⟩
 rw [← List.set_append_left _ _ hw, ← List.set_append_left _ _ hw]
 exact WkS.set (σ := { σ with toks := σ.toks ++ tk, rows := σ.rows ++ r }) (Mq hx)

attribute [local simp] dM in
theorem m5 {σ : St} {v : Acc} (hv : v.Ok) :
  aB Tryz.prog 12 [.agg (dM v)] σ (fun av σ' => av = .v (.bool (decide (fB v))) ∧ σ = σ') := by
 refine aM ?_ rfl
 have hx := fun τ => Dv (σ := τ) hv.2
 simp only [iR] at hx
 have hB := vJ v
 obtain ⟨B, hBe⟩ : ∃ B, B = decide (fB v) := ⟨_, rfl⟩
 obtain ⟨RB, hRB⟩ : ∃ RB, RB = bJ v.p := ⟨_, rfl⟩
 rw [← hBe] at hB ⊢
 rw [← hRB] at hB
 simp only [← hRB] at hx
 have F := True.intro
 refine aA Tryz.func12 rfl rfl rfl ?_; refine sr fun _ hJ2 => ?_; apply hJ2; refine sq fun K3 hK3 => ?_; refine sr fun _ hJ5 => ?_; refine gs 6 (fun g1_3 => ?_) (fun g1_3 => ?_)
 · (try exact aG g1_3); all_goals have g1_3p := g1_3; try simp [F] at g1_3p
   all_goals
    replace F := aF g1_3 F; try replace F := aF g1_3p F
    have q : ¬ (v.a.toNat : Int) < 200 := by have h := g1_3; simp at h; omega
    replace F := aF q F; (iterate 10 refine no2 (k := ?_)); apply hJ5; refine ct ?_; refine sr fun _ hJ7 => ?_; apply hJ7; refine ra ?_
    have hq0 : ((v.f.toNat : Int) == 0) = decide (v.f.toNat = 0) := by rw [Bool.eq_iff_iff]; simp
    have hq1 : ((v.f.toNat : Int) != v.a.toNat) = !decide (v.f.toNat = v.a.toNat) := by rw [Bool.eq_iff_iff]; simp <;> omega
    have hq2 : decide ((v.f.toNat : Int) = v.a.toNat) = decide (v.f.toNat = v.a.toNat) := decide_eq_decide.2 (by omega)
    refine gcr (hA := ?_); simp [hB, F, hq0, hq1, hq2] <;> exact Wk.refl _
 (try exact aG g1_3); all_goals have g1_3p := g1_3; try simp [F] at g1_3p
 all_goals
  replace F := aF g1_3 F; try replace F := aF g1_3p F
  have q : (v.a.toNat : Int) < 200 := by have h := g1_3; simp at h; omega
  replace F := aF q F; (iterate 3 refine go2 (k := ?_)); refine gs 11 (fun g1_8 => ?_) (fun g1_8 => ?_)
  · (try exact aG g1_8); all_goals have g1_8p := g1_8; try simp [F] at g1_8p
    all_goals
     replace F := aF g1_8 F; try replace F := aF g1_8p F
     have q : ¬ (v.y.toNat : Int) < 200 := by have h := g1_8; simp at h; omega
     replace F := aF q F; (iterate 7 refine no2 (k := ?_)); apply hJ5; refine ct ?_; refine sr fun _ hJ9 => ?_; apply hJ9; refine ra ?_
     have hq0 : ((v.f.toNat : Int) == 0) = decide (v.f.toNat = 0) := by rw [Bool.eq_iff_iff]; simp
     have hq1 : ((v.f.toNat : Int) != v.a.toNat) = !decide (v.f.toNat = v.a.toNat) := by rw [Bool.eq_iff_iff]; simp <;> omega
     have hq2 : decide ((v.f.toNat : Int) = v.a.toNat) = decide (v.f.toNat = v.a.toNat) := decide_eq_decide.2 (by omega)
     refine gcr (hA := ?_); simp [hB, F, hq0, hq1, hq2] <;> exact Wk.refl _
  (try exact aG g1_8); all_goals have g1_8p := g1_8; try simp [F] at g1_8p
  all_goals
   replace F := aF g1_8 F; try replace F := aF g1_8p F
   have q : (v.y.toNat : Int) < 200 := by have h := g1_8; simp at h; omega
   replace F := aF q F; (iterate 3 refine go2 (k := ?_)); refine gs 16 (fun g1_13 => ?_) (fun g1_13 => ?_)
   · (try exact aG g1_13); all_goals have g1_13p := g1_13; try simp [F] at g1_13p
     all_goals
      replace F := aF g1_13 F; try replace F := aF g1_13p F
      have q : ¬ (v.f.toNat : Int) < 200 := by have h := g1_13; simp at h; omega
      replace F := aF q F; (iterate 4 refine no2 (k := ?_)); apply hJ5; refine ct ?_; refine sr fun _ hJ11 => ?_; apply hJ11; refine ra ?_
      have hq0 : ((v.f.toNat : Int) == 0) = decide (v.f.toNat = 0) := by rw [Bool.eq_iff_iff]; simp
      have hq1 : ((v.f.toNat : Int) != v.a.toNat) = !decide (v.f.toNat = v.a.toNat) := by rw [Bool.eq_iff_iff]; simp <;> omega
      have hq2 : decide ((v.f.toNat : Int) = v.a.toNat) = decide (v.f.toNat = v.a.toNat) := decide_eq_decide.2 (by omega)
      refine gcr (hA := ?_); simp [hB, F, hq0, hq1, hq2] <;> exact Wk.refl _
   (try exact aG g1_13); all_goals have g1_13p := g1_13; try simp [F] at g1_13p
   all_goals
    replace F := aF g1_13 F; try replace F := aF g1_13p F
    have q : (v.f.toNat : Int) < 200 := by have h := g1_13; simp at h; omega
    replace F := aF q F; (iterate 2 refine go2 (k := ?_)); refine ca (c := hx _) (k := ?_); rintro _ _ ⟨rfl, rfl⟩; (repeat first | simp [F] | simp (disch := omega) only [wC, if_pos, if_neg]); refine go2 (k := ?_); apply hJ5; refine cs (fun c21 => ?_) (fun c21 => ?_)
    · (try exact aG c21); all_goals have c21p := c21; try simp [F] at c21p
      all_goals
       replace F := aF c21 F; (try replace F := aF c21p F); refine sr fun _ hJ13 => ?_; apply hJ13; refine ra ?_
       have hq0 : ((v.f.toNat : Int) == 0) = decide (v.f.toNat = 0) := by rw [Bool.eq_iff_iff]; simp
       have hq1 : ((v.f.toNat : Int) != v.a.toNat) = !decide (v.f.toNat = v.a.toNat) := by rw [Bool.eq_iff_iff]; simp <;> omega
       have hq2 : decide ((v.f.toNat : Int) = v.a.toNat) = decide (v.f.toNat = v.a.toNat) := decide_eq_decide.2 (by omega)
       refine gcr (hA := ?_); simp [hB, F, hq0, hq1, hq2] <;> exact Wk.refl _
    (try exact aG c21); all_goals have c21p := c21; try simp [F] at c21p
    all_goals
     replace F := aF c21 F; (try replace F := aF c21p F); refine aD ?_; apply hK3; refine sq fun K14 hK14 => ?_; refine sr fun _ hJ16 => ?_; apply hJ16; refine cs (fun c25 => ?_) (fun c25 => ?_)
     · (try exact aG c25); all_goals have c25p := c25; try simp [F] at c25p
       all_goals
        replace F := aF c25 F; (try replace F := aF c25p F); refine sr fun _ hJ18 => ?_; apply hJ18; refine ra ?_
        have hq0 : ((v.f.toNat : Int) == 0) = decide (v.f.toNat = 0) := by rw [Bool.eq_iff_iff]; simp
        have hq1 : ((v.f.toNat : Int) != v.a.toNat) = !decide (v.f.toNat = v.a.toNat) := by rw [Bool.eq_iff_iff]; simp <;> omega
        have hq2 : decide ((v.f.toNat : Int) = v.a.toNat) = decide (v.f.toNat = v.a.toNat) := decide_eq_decide.2 (by omega)
        refine gcr (hA := ?_); simp [hB, F, hq0, hq1, hq2] <;> exact Wk.refl _
     (try exact aG c25); all_goals have c25p := c25; try simp [F] at c25p
     all_goals
      replace F := aF c25 F; (try replace F := aF c25p F); refine aD ?_; apply hK14; refine sr fun _ hJ20 => ?_; apply hJ20; refine ra ?_
      have hq0 : ((v.f.toNat : Int) == 0) = decide (v.f.toNat = 0) := by rw [Bool.eq_iff_iff]; simp
      have hq1 : ((v.f.toNat : Int) != v.a.toNat) = !decide (v.f.toNat = v.a.toNat) := by rw [Bool.eq_iff_iff]; simp <;> omega
      have hq2 : decide ((v.f.toNat : Int) = v.a.toNat) = decide (v.f.toNat = v.a.toNat) := decide_eq_decide.2 (by omega)
      refine gcr (hA := ?_); simp [hB, F, hq0, hq1, hq2] <;> exact Wk.refl _

def MP (L : List Acc) (a : UInt8) (z : Int) : Prop := (z = -1 ∧ jY L a = none) ∨ ∃ (i : Nat) (h : i < L.length), z = i ∧ jY L a = some L[i]

theorem GV {L : List Acc} {a : UInt8} {i : Nat} (hi : i < L.length) (h2 : ∀ j (hj : j < L.length), j < i → L[j].a ≠ a) (e : L[i].a = a) : jY L a = some L[i] := by
 unfold jY
 rw [List.find?_eq_some_iff_getElem]
 exact ⟨by simpa using e, i, hi, rfl, fun j hj => by simpa using h2 j (by omega) hj⟩

theorem Ff {L : List Acc} {a : UInt8} (h2 : ∀ j (hj : j < L.length), L[j].a ≠ a) : jY L a = none :=
 oZ.2 fun x hx => by obtain ⟨j, hj, e⟩ := List.mem_iff_getElem.1 hx; rw [← e]; exact h2 j hj

theorem rW {σ : St} {m : Nat} {L : List Acc} {a : UInt8} (h : σ.objs[m]? = some (aC fr L)) (hl : L.length ≤ 1000000) :
  aB Tryz.prog 35 [.ptr m 0, .v (.int .u8 a.toNat)] σ (fun av σ' => ∃ z : Int, MP L a z ∧ av = .v (.int .i64 z) ∧ σ = σ') := by
 have hml := cR h
 simp only [aC, aX] at h
 have hge : ∀ h2 : m < σ.objs.length, σ.objs[m]'h2 = _ := fun h2 => (List.getElem?_eq_some_iff.1 h).2
 have hLc := oC L
 have F := And.intro h (And.intro hge (And.intro hml (And.intro hLc (True.intro))))
 refine aA Tryz.func35 rfl rfl rfl ?_; refine sr fun _ hJ2 => ?_; apply hJ2; refine sq fun K3 hK3 => ?_; refine sr fun _ hJ5 => ?_; apply hJ5; refine aH ?_; refine cZ (X := Nat) [0, 1] (fun i ρ σ1 => (i ≤ L.length) ∧ (∀ j (hj : j < L.length), j < i → L[j].a ≠ a) ∧ (ρ 5 = .v (.int .i64 i)) ∧ (σ1 = σ)) (fun i => L.length - i) (0) ?st1 ?rd1
 case st1 =>
  refine ⟨lp, ?_, lp, lp⟩
  · intro j hj q
    omega
 case rd1 =>
  rintro i ρ1 σ1 hF1 ⟨h1, h2, h5, hσ⟩; obtain rfl := hσ.symm
  have f1 := dX hF1
  (try simp [dW, F] at f1); replace F := aF h5 F; (try replace F := aF f1 F); refine sq fun K6 hK6 => ?_; refine sr fun _ hJ8 => ?_; apply hJ8; refine cs (fun c12 => ?_) (fun c12 => ?_)
  · (try exact aG c12); all_goals have c12p := c12; try simp [F] at c12p
    all_goals
     replace F := aF c12 F; try replace F := aF c12p F
     have hlt : i < L.length := by have h := c12; simp at h; omega
     obtain ⟨R, hR⟩ := xP hlt
     obtain ⟨b, hb⟩ : ∃ b, b = L[i] := ⟨_, rfl⟩
     rw [← hb] at hR
     have f0 : ∀ h2 : i * 17 < (eR L).length, (eR L)[i * 17]'h2 = .v (.int .u8 (b.a.toNat : Nat)) := fun h2 => by have := qW (l := eR L) (i := i * 17) (j := 0) (x := .v (.int .u8 (b.a.toNat : Nat))) (by rw [hR]; rfl); exact this h2
     have d0 : i * 17 < L.length * 17 := by omega
     have hi1 : i + 1 ≤ L.length := hlt
     have hwi : IntKind.i64.wrap ((i : Int) + 1) = (i : Int) + 1 := wrap_i64 _ (by omega) (by omega)
     replace F := aF hlt (And.intro f0 (And.intro d0 (And.intro hi1 (And.intro hwi F)))); refine aD ?_; apply hK6; refine sq fun K9 hK9 => ?_; refine aH ?_; refine sr fun _ hJ11 => ?_; apply hJ11; refine cs (fun c24 => ?_) (fun c24 => ?_)
     · (try exact aG c24); all_goals have c24p := c24; try simp [F] at c24p
       all_goals
        replace F := aF c24 F; try replace F := aF c24p F
        have e : b.a = a := by have h := c24; simp at h; exact UInt8.toNat_inj.1 (by omega)
        refine sr fun _ hJ13 => ?_; apply hJ13; refine ra ?_; exact ⟨(i : Int), .inr ⟨i, hlt, rfl, GV hlt h2 (by rw [← hb]; exact e)⟩, rfl, rfl⟩
     (try exact aG c24); all_goals have c24p := c24; try simp [F] at c24p
     all_goals
      replace F := aF c24 F; (try replace F := aF c24p F); refine aD ?_; apply hK9; refine rg' (h := fun J14 hJ14 => ?_); apply hJ14; refine ⟨(i + 1), ⟨kp, lp, ?_, lp, lp⟩, lp⟩
      · intro j hj q
        by_cases e : j = i
        · subst e; rw [← hb]; intro e3; have h := c24; simp [e3] at h
        · exact h2 j hj (by omega)
  (try exact aG c12); all_goals have c12p := c12; try simp [F] at c12p
  all_goals
   replace F := aF c12 F; try replace F := aF c12p F
   have hie : i = L.length := by have h := c12; simp at h; omega
   refine bO ?_; apply hK3; refine sr fun _ hJ16 => ?_; apply hJ16; refine ra ?_; exact ⟨-1, .inl ⟨rfl, Ff (fun j hj => h2 j hj (by omega))⟩, rfl, rfl⟩

def aGo (v : Acc) : List Acc → Bool → List Acc → List Acc
 | [], b, out => if b then out else out ++ [v]
 | x :: l, b, out => if b = false ∧ v.a.toNat < x.a.toNat then aGo v l true (out ++ [v] ++ [x]) else aGo v l b (out ++ [x])

theorem BG {v : Acc} : ∀ {l out : List Acc}, aGo v l true out = out ++ l
 | [], out => by simp [aGo]
 | x :: l, out => by rw [aGo, if_neg (by simp), BG]; simp

theorem EJ {v : Acc} : ∀ {l out : List Acc}, (∀ x ∈ l, x.a ≠ v.a) → aGo v l false out = out ++ lW v l
 | [], out, _ => by simp [aGo, lW]
 | x :: l, out, h => by
   rw [aGo, lW, if_neg (h x (by simp))]
   by_cases e : v.a.toNat < x.a.toNat
   · rw [if_pos ⟨rfl, e⟩, if_pos e, BG]; simp
   · rw [if_neg (fun q => e q.2), if_neg e, EJ (fun y hy => h y (by simp [hy]))]; simp

theorem BA {v : Acc} : ∀ {l : List Acc} {i : Nat} (h : i < l.length), l.Pairwise Jt → l[i].a = v.a → lW v l = l.set i v
 | x :: l, 0, _, _, e => by rw [lW, if_pos (by simpa using e)]; rfl
 | x :: l, i + 1, h, hs, e => by
   have p := List.pairwise_cons.1 hs
   have hi : i < l.length := by simpa using h
   have e2 : l[i].a = v.a := by simpa using e
   have hlt := p.1 l[i] (List.getElem_mem _)
   unfold Jt at hlt
   rw [e2] at hlt
   rw [lW, if_neg (fun q => by rw [q] at hlt; omega), if_neg (by omega), BA hi p.2 e2]; rfl

theorem zT {σ : St} {m : Nat} {L : List Acc} (h : σ.objs[m]? = some (aC fr L)) : ∀ l, { σ with objs := σ.objs ++ l } = { σ with objs := σ.objs.set m (aC fr L) ++ l, toks := σ.toks ++ [], rows := σ.rows ++ [] } := fun l => by rw [gX h]; simp

structure GA where
 i : Nat
 O : List Acc
 b : Bool

attribute [local simp] wG nD wB wE AJ tH mT in
theorem zN {σ : St} {m : Nat} {L : List Acc} {v : Acc} (h : σ.objs[m]? = some (aC fr L)) (hl : L.length ≤ 1000) (hv : v.Ok) :
  aB Tryz.prog 15 [.ptr m 0, .agg (dM v)] σ (fun av σ' => av = .v (.int .i64 ((nK L v).e : Nat)) ∧ σ' = jZ fr σ m (nK L v).L) := by
 have hw := cR h
 obtain ⟨⟨PW, PE⟩, hP0⟩ : ∃ P, P = nK L v := ⟨_, rfl⟩
 rw [← hP0]
 simp only
 have hr1 := fun l => m5 (σ := { σ with objs := σ.objs ++ l }) hv
 have hoX : ∀ l, (σ.objs ++ l)[m]? = some (aC fr L) := fun l => by rw [List.getElem?_append_left hw]; exact h
 have hfi := fun l => rW (σ := { σ with objs := σ.objs ++ l }) (a := v.a) (hoX l) (by omega)
 obtain ⟨Q, hQ⟩ : ∃ Q, Q = dM v := ⟨_, rfl⟩
 have hQl : Q.length = 17 := by rw [hQ]; rfl
 have hQt : List.take 17 Q = Q := by subst hQ; rfl
 have hQ0 : ∀ h2 : 0 < Q.length, Q[0]'h2 = .v (.int .u8 (v.a.toNat : Nat)) := fun h2 => by subst hQ; rfl
 have hQc : (∀ x, x ∈ Q → x.bA = true) = True := eq_true (by rw [hQ]; exact sK v)
 simp only [AV.bA] at hQc
 have hQo : ∀ nb, bG nb Q = true := fun nb => by rw [hQ]; exact lB nb v
 refine JY hw rfl ?_
 have ho3 : ∀ x l, (σ.objs ++ l).set m x = σ.objs.set m x ++ l := fun x l => List.set_append_left _ _ hw
 have hb0 := zT h
 have hge : ∀ h2 : m < σ.objs.length, σ.objs[m]'h2 = _ := fun h2 => (List.getElem?_eq_some_iff.1 h).2
 have hw1 : m < σ.objs.length + 1 := by omega
 simp only [aC, aX] at h hoX hge
 have hDc := oC L
 have hap : ∀ (O : List Acc) (x : Acc) objs, O.length ≤ 1000000 → dA Tryz.prog 43 (lsA σ.toks.length 17 (eR O) O.length) (.sl 17 (dM x) 1 .full) ⟨objs, σ.toks ++ lsT O.length, σ.gl, σ.rows⟩ = some (lsA σ.toks.length 17 (eR (O ++ [x])) (O.length + 1), ⟨objs, σ.toks ++ lsT (O.length + 1), σ.gl, σ.rows⟩) := fun O x objs hO => by
  rw [Aq, show eR [x] = dM x by simp [eR]]
  exact qS elemT_43 ti_32 (by decide) rfl (fun h => by rw [List.eq_nil_of_length_eq_zero h]; rfl) rfl (by omega) (by simp only [fZ]; omega) (by simp only [maxLen]; omega)
 simp only [← hQ] at hr1
 rw [← hQ]
 have F := And.intro hQl (And.intro hQt (And.intro hQ0 (And.intro hQc (And.intro hQo (And.intro hoX (And.intro h (And.intro ho3 (And.intro hge (And.intro hw (And.intro hw1 (And.intro hDc (True.intro))))))))))))
 refine aA Tryz.func15 rfl rfl rfl ?_; refine sr fun _ hJ2 => ?_; apply hJ2; refine sq fun K3 hK3 => ?_; refine sr fun _ hJ5 => ?_; refine ca (c := hr1 _) (k := ?_); rintro _ _ ⟨rfl, rfl⟩; (repeat first | simp [F] | simp (disch := omega) only [wC, if_pos, if_neg]); apply hJ5; refine cs (fun c10 => ?_) (fun c10 => ?_)
 · (try exact aG c10); all_goals have c10p := c10; try simp [F] at c10p
   all_goals
    replace F := aF c10 F; try replace F := aF c10p F
    have hR : ¬ fB v := by have h := c10; simpa using h
    obtain ⟨rfl, rfl⟩ : PW = L ∧ PE = 1 := by rw [nK, if_pos hR] at hP0; simpa using hP0
    refine sr fun _ hJ7 => ?_; apply hJ7; refine ra ?_
    refine ⟨by simp [F], [], _, _, [], Wk.refl _, by rw [hb0]; rfl⟩
 (try exact aG c10); all_goals have c10p := c10; try simp [F] at c10p
 all_goals
  replace F := aF c10 F; try replace F := aF c10p F
  have hR : fB v := by have h := c10; simpa using h
  refine aD ?_; apply hK3; refine sq fun K8 hK8 => ?_; refine sr fun _ hJ10 => ?_; refine ca (c := hfi _) (k := ?_); rintro _ _ ⟨z, hz, rfl, rfl⟩; (repeat first | simp [F] | simp (disch := omega) only [wC, if_pos, if_neg]); apply hJ10; refine cs (fun c15 => ?_) (fun c15 => ?_)
  · (try exact aG c15); all_goals have c15p := c15; try simp [F] at c15p
    all_goals
     replace F := aF c15 F; try replace F := aF c15p F
     have hh : lT L v.a = true := by
      rcases hz with ⟨e, _⟩ | ⟨i, _, _, e⟩
      · have h := c15; rw [e] at h; simp at h
      · rw [lT, e]; rfl
     obtain ⟨rfl, rfl⟩ : PW = L ∧ PE = 9 := by rw [nK, if_neg (not_not_intro hR), if_pos hh] at hP0; simpa using hP0
     refine sr fun _ hJ12 => ?_; apply hJ12; refine ra ?_
     refine ⟨by simp [F], [], _, _, [], Wk.refl _, by rw [hb0]; rfl⟩
  (try exact aG c15); all_goals have c15p := c15; try simp [F] at c15p
  all_goals
   replace F := aF c15 F; try replace F := aF c15p F
   have hn : jY L v.a = none := by
    rcases hz with ⟨_, e⟩ | ⟨i, _, e, _⟩
    · exact e
    · have h := c15; rw [e] at h; simp at h <;> omega
   obtain ⟨T, hT⟩ : ∃ T, T = lW v L := ⟨_, rfl⟩
   have hgo : aGo v L false [] = T := by rw [EJ (oZ.1 hn), hT]; rfl
   obtain ⟨rfl, rfl⟩ : PW = T ∧ PE = 0 := by rw [nK, if_neg (not_not_intro hR), if_neg (by rw [lT, hn]; simp), ← hT] at hP0; simpa using hP0
   refine aD ?_; apply hK8; refine sr fun _ hJ14 => ?_; apply hJ14; refine sr fun _ hJ16 => ?_; apply hJ16; refine sq fun K17 hK17 => ?_; refine sr fun _ hJ19 => ?_; apply hJ19; refine aH ?_; refine cZ (X := GA) [0, 3, 4] (fun x ρ σ1 => (x.i ≤ L.length) ∧ (aGo v (L.drop x.i) x.b x.O = PW) ∧ (x.O.length ≤ 2 * x.i) ∧ (ρ 5 = lsA σ.toks.length 17 (eR x.O) x.O.length) ∧ (ρ 6 = .v (.bool x.b)) ∧ (ρ 7 = .v (.int .i64 x.i)) ∧ (σ1 = { σ with objs := σ.objs ++ [Q], toks := σ.toks ++ lsT x.O.length })) (fun x => L.length - x.i) (⟨0, [], false⟩) ?st1 ?rd1
   case st1 =>
    refine ⟨lp, ?_, lp, lp, lp, lp, ?_⟩
    · exact hgo
    · simp [nD, F]
   case rd1 =>
    rintro x ρ1 σ1 hF1 ⟨h1, h2, h3, h4, h5, h6, hσ⟩; obtain rfl := hσ.symm
    have f1 := dX hF1
    (try simp [dW, F] at f1); replace F := aF h4 F; replace F := aF h5 F; replace F := aF h6 F; (try replace F := aF f1 F); refine sq fun K20 hK20 => ?_; refine sr fun _ hJ22 => ?_; apply hJ22; refine cs (fun c22 => ?_) (fun c22 => ?_)
    · (try exact aG c22); all_goals have c22p := c22; try simp [F] at c22p
      all_goals
       replace F := aF c22 F; try replace F := aF c22p F
       have hlt : x.i < L.length := by have h := c22; simp at h; omega
       obtain ⟨R, hR9⟩ := xP (l := L) (i := x.i) hlt
       obtain ⟨y, hy⟩ : ∃ y, y = L[x.i] := ⟨_, rfl⟩
       rw [← hy] at hR9
       have hR3 : List.take 17 (List.drop (x.i * 17) (eR L)) = dM y := by rw [hR9]; rfl
       have f0 : ∀ h2 : x.i * 17 < (eR L).length, (eR L)[x.i * 17]'h2 = .v (.int .u8 (y.a.toNat : Nat)) := fun h2 => by have := qW (l := eR L) (i := x.i * 17) (j := 0) (x := .v (.int .u8 (y.a.toNat : Nat))) (by rw [hR9]; rfl); exact this h2
       have d0 : x.i * 17 < L.length * 17 := by omega
       have d3 : x.i * 17 + 17 ≤ L.length * 17 := by omega
       have hi1 : x.i + 1 ≤ L.length := hlt
       have hwi : IntKind.i64.wrap ((x.i : Int) + 1) = (x.i : Int) + 1 := wrap_i64 _ (by omega) (by omega)
       have hdr : L.drop x.i = y :: L.drop (x.i + 1) := by rw [hy]; exact List.drop_eq_getElem_cons hlt
       rw [hdr, aGo] at h2
       have p1 := fun objs => hap x.O y objs (by omega)
       have p2 := fun objs => hap x.O v objs (by omega)
       have p3 := fun objs => hap (x.O ++ [v]) y objs (by simp; omega)
       simp only [List.length_append, List.length_cons, List.length_nil, Nat.zero_add] at p3
       have hyc : (∀ x, x ∈ dM y → x.bA = true) = True := eq_true (sK y)
       have hyl : (dM y).length = 17 := rfl
       have hyt : List.take 17 (dM y) = dM y := rfl
       have hyo : ∀ nb, bG nb (dM y) = true := fun nb => lB nb y
       obtain ⟨Y, hY⟩ : ∃ Y, Y = dM y := ⟨_, rfl⟩
       rw [← hY] at hyc hyl hR3 hyt
       simp only [← hY] at hyo p1 p3
       simp only [AV.bA] at hyc
       simp only [← hQ] at p2
       replace F := aF hwi F; replace F := aF hlt (And.intro hR3 (And.intro f0 (And.intro d0 (And.intro d3 (And.intro hi1 (And.intro hyc (And.intro hyl (And.intro hyt (And.intro hyo (And.intro p1 (And.intro p2 (And.intro p3 F)))))))))))); refine aD ?_; apply hK20; refine sq fun K23 hK23 => ?_; refine aH ?_; refine sq fun K24 hK24 => ?_; refine sq fun K25 hK25 => ?_
       refine bQ (by kernel_rfl) fun J26 hJ26 => ?_
       refine q2 0 ?_; refine q2 1 ?_; refine q2 2 ?_; refine gd 27 (fun g10_2 => ?_) (fun g10_2 => ?_)
       · (try exact aG g10_2); all_goals have g10_2p := g10_2; try simp [F] at g10_2p
         all_goals
          replace F := aF g10_2 F; try replace F := aF g10_2p F
          have hb : x.b = false := by simpa using g10_2
          refine q2 3 ?_; refine q2 4 ?_; refine q2 5 ?_; refine q2 6 ?_; refine q2 7 ?_; refine q2 8 ?_; refine q2 9 ?_; refine q2 10 ?_; refine q2 11 ?_; refine q2 12 ?_; refine q2 13 ?_; refine q2 14 ?_; refine dd ?_; apply hJ26; apply hK25; refine cs (fun c39 => ?_) (fun c39 => ?_)
          · (try exact aG c39); all_goals have c39p := c39; try simp [F] at c39p
            all_goals
             replace F := aF c39 F; try replace F := aF c39p F
             have hla : v.a.toNat < y.a.toNat := by have h := c39; simp at h; omega
             rw [if_pos ⟨hb, hla⟩] at h2
             refine sr fun _ hJ28 => ?_; apply hJ28; refine rg' (h := fun J29 hJ29 => ?_); apply hJ29; apply hK24; refine rg' (h := fun J30 hJ30 => ?_); apply hJ30; apply hK23; refine rg' (h := fun J31 hJ31 => ?_); apply hJ31; refine ⟨(⟨x.i + 1, x.O ++ [v] ++ [y], true⟩), ⟨kp, lp, ?_, ?_, lp, lp, lp, lp⟩, lp⟩
             · exact h2
             · simp
               omega
          (try exact aG c39); all_goals have c39p := c39; try simp [F] at c39p
          all_goals
           replace F := aF c39 F; (try replace F := aF c39p F); (try (have hla : ¬ v.a.toNat < y.a.toNat := by { have h := c39; simp at h; omega }; rw [if_neg (fun q => hla q.2)] at h2)); refine aD ?_; apply hK24; refine rg' (h := fun J32 hJ32 => ?_); apply hJ32; apply hK23; refine rg' (h := fun J33 hJ33 => ?_); apply hJ33; refine ⟨(⟨x.i + 1, x.O ++ [y], x.b⟩), ⟨kp, lp, ?_, ?_, lp, lp, lp, lp⟩, lp⟩
           · exact h2
           · simp
             omega
       (try exact aG g10_2); all_goals have g10_2p := g10_2; try simp [F] at g10_2p
       all_goals
        replace F := aF g10_2 F; try replace F := aF g10_2p F
        have hb : x.b = true := by simpa using g10_2
        rw [if_neg (by rw [hb]; simp)] at h2
        refine q2 3 ?_; refine q2 4 ?_; refine q2 5 ?_; refine q2 6 ?_; refine q2 7 ?_; refine q2 8 ?_; refine q2 9 ?_; refine q2 10 ?_; refine q2 11 ?_; refine q2 12 ?_; refine q2 13 ?_; refine q2 14 ?_; refine dd ?_; apply hJ26; apply hK25; refine cf ?_; refine aD ?_; apply hK24; refine rg' (h := fun J34 hJ34 => ?_); apply hJ34; apply hK23; refine rg' (h := fun J35 hJ35 => ?_); apply hJ35; refine ⟨(⟨x.i + 1, x.O ++ [y], x.b⟩), ⟨kp, lp, ?_, ?_, lp, lp, lp, lp⟩, lp⟩
        · exact h2
        · simp
          omega
    (try exact aG c22); all_goals have c22p := c22; try simp [F] at c22p
    all_goals
     replace F := aF c22 F; try replace F := aF c22p F
     have hde : L.drop x.i = [] := List.drop_of_length_le (by have h := c22; simp at h; omega)
     rw [hde, aGo] at h2
     have p2 := fun objs => hap x.O v objs (by omega)
     simp only [← hQ] at p2
     replace F := aF p2 F; refine bO ?_; apply hK17; refine sq fun K36 hK36 => ?_; refine sr fun _ hJ38 => ?_; apply hJ38; refine cs (fun c55 => ?_) (fun c55 => ?_)
     · (try exact aG c55); all_goals have c55p := c55; try simp [F] at c55p
       all_goals
        replace F := aF c55 F; try replace F := aF c55p F
        have hb : x.b = false := by simpa using c55
        rw [hb, if_neg (by simp)] at h2
        refine rg' (h := fun J39 hJ39 => ?_); apply hJ39; apply hK36; refine sr fun _ hJ41 => ?_; apply hJ41; refine sr fun _ hJ43 => ?_; apply hJ43; refine ra ?_
        refine ⟨by simp [F], lsT (x.O.length + 1), lsA σ.toks.length 17 (eR (x.O ++ [v])) (x.O.length + 1), [Q], [], by rw [← h2]; simpa using uK (k := σ.toks.length) (sz := 17) (n := x.O.length + 1) (cs := eR (x.O ++ [v])) (fun h => by simp at h), by simp [aX]⟩
     (try exact aG c55); all_goals have c55p := c55; try simp [F] at c55p
     all_goals
      replace F := aF c55 F; try replace F := aF c55p F
      have hb : x.b = true := by simpa using c55
      rw [hb, if_pos rfl] at h2
      refine aD ?_; apply hK36; refine sr fun _ hJ45 => ?_; apply hJ45; refine sr fun _ hJ47 => ?_; apply hJ47; refine ra ?_
      refine ⟨by simp [F], lsT x.O.length, lsA σ.toks.length 17 (eR x.O) x.O.length, [Q], [], by rw [← h2]; exact uK (k := σ.toks.length) (sz := 17) (n := x.O.length) (cs := eR x.O) (fun h => by rw [List.eq_nil_of_length_eq_zero h]; rfl), by simp [aX]⟩

attribute [local simp] dA kK kE fZ maxLen zeroCell Value.oneCell' Value.cells in
theorem FO {σ : St} {m : Nat} {L : List Acc} {v : Acc} (h : σ.objs[m]? = some (aC fr L)) (hs : L.Pairwise Jt) (hl : L.length ≤ 1000) (hv : v.Ok) :
  aB Tryz.prog 61 [.ptr m 0, .agg (dM v)] σ (fun av σ' => av = .v (.int .i64 ((mV L v).e : Nat)) ∧ σ' = jZ fr σ m (mV L v).L) := by
 have hw := cR h
 obtain ⟨⟨PW, PE⟩, hP0⟩ : ∃ P, P = mV L v := ⟨_, rfl⟩
 rw [← hP0]
 simp only
 have hr1 := fun l => m5 (σ := { σ with objs := σ.objs ++ l }) hv
 have hoX : ∀ l, (σ.objs ++ l)[m]? = some (aC fr L) := fun l => by rw [List.getElem?_append_left hw]; exact h
 have hfi := fun l => rW (σ := { σ with objs := σ.objs ++ l }) (a := v.a) (hoX l) (by omega)
 obtain ⟨Q, hQ⟩ : ∃ Q, Q = dM v := ⟨_, rfl⟩
 have hQl : Q.length = 17 := by rw [hQ]; rfl
 have hQt : List.take 17 Q = Q := by subst hQ; rfl
 have hQ0 : ∀ h2 : 0 < Q.length, Q[0]'h2 = .v (.int .u8 (v.a.toNat : Nat)) := fun h2 => by subst hQ; rfl
 have hQc : (∀ x, x ∈ Q → x.bA = true) = True := eq_true (by rw [hQ]; exact sK v)
 simp only [AV.bA] at hQc
 refine JY hw rfl ?_
 have ho3 : ∀ x l, (σ.objs ++ l).set m x = σ.objs.set m x ++ l := fun x l => List.set_append_left _ _ hw
 have hb0 := zT h
 simp only [aC, aX] at h hoX
 have hVc := oC L
 have hVt : List.take (L.length * 17) (eR L) = eR L := List.take_of_length_le (Nat.le_of_eq hVc)
 have r1 : L.length * 136 ≤ 140737488355328 := by omega
 have r2 : L.length ≤ 9223372036854775807 := by omega
 simp only [← hQ] at hr1
 rw [← hQ]
 have F := And.intro hQl (And.intro hQt (And.intro hQ0 (And.intro hQc (And.intro hoX (And.intro h (And.intro ho3 (And.intro hVc (And.intro hVt (And.intro r1 (And.intro r2 (True.intro)))))))))))
 refine aA Tryz.func61 rfl rfl rfl ?_; refine sr fun _ hJ2 => ?_; apply hJ2; refine sq fun K3 hK3 => ?_; refine sr fun _ hJ5 => ?_; refine ca (c := hr1 _) (k := ?_); rintro _ _ ⟨rfl, rfl⟩; (repeat first | simp [F] | simp (disch := omega) only [wC, if_pos, if_neg]); apply hJ5; refine cs (fun c9 => ?_) (fun c9 => ?_)
 · (try exact aG c9); all_goals have c9p := c9; try simp [F] at c9p
   all_goals
    replace F := aF c9 F; try replace F := aF c9p F
    have hR : ¬ fB v := by have h := c9; simpa using h
    obtain ⟨rfl, rfl⟩ : PW = L ∧ PE = 1 := by rw [mV, if_pos hR] at hP0; simpa using hP0
    refine sr fun _ hJ7 => ?_; apply hJ7; refine ra ?_
    refine ⟨by simp [F], [], _, _, [], Wk.refl _, by rw [hb0]; rfl⟩
 (try exact aG c9); all_goals have c9p := c9; try simp [F] at c9p
 all_goals
  replace F := aF c9 F; try replace F := aF c9p F
  have hR : fB v := by have h := c9; simpa using h
  refine aD ?_; apply hK3; refine sr fun _ hJ9 => ?_; refine ca (c := hfi _) (k := ?_); rintro _ _ ⟨z, hz, rfl, rfl⟩; (repeat first | simp [F] | simp (disch := omega) only [wC, if_pos, if_neg]); apply hJ9; refine sq fun K10 hK10 => ?_; refine sr fun _ hJ12 => ?_; apply hJ12; refine cs (fun c15 => ?_) (fun c15 => ?_)
  · (try exact aG c15); all_goals have c15p := c15; try simp [F] at c15p
    all_goals
     replace F := aF c15 F; try replace F := aF c15p F
     have hn : jY L v.a = none := by
      rcases hz with ⟨_, e⟩ | ⟨i, _, e, _⟩
      · exact e
      · have h := c15; rw [e] at h; simp at h <;> omega
     obtain ⟨rfl, rfl⟩ : PW = L ∧ PE = 5 := by rw [mV, if_neg (not_not_intro hR), if_neg (by rw [lT, hn]; simp)] at hP0; simpa using hP0
     refine sr fun _ hJ14 => ?_; apply hJ14; refine ra ?_
     refine ⟨by simp [F], [], _, _, [], Wk.refl _, by rw [hb0]; rfl⟩
  (try exact aG c15); all_goals have c15p := c15; try simp [F] at c15p
  all_goals
   replace F := aF c15 F; try replace F := aF c15p F
   obtain ⟨i, b1, rfl, hf⟩ : ∃ (i : Nat) (h : i < L.length), z = i ∧ jY L v.a = some L[i] := by
    rcases hz with ⟨e, _⟩ | e
    · have h := c15; rw [e] at h; simp at h
    · exact e
   obtain ⟨rfl, rfl⟩ : PW = lW v L ∧ PE = 0 := by rw [mV, if_neg (not_not_intro hR), if_pos (by rw [lT, hf]; rfl)] at hP0; simpa using hP0
   have s1 : List.take (i * 17) (eR L) ++ (Q ++ List.drop (i * 17 + 17) (eR L)) = eR (L.set i v) := by
    have := CR dM 17 (fun _ => rfl) L i b1 v
    unfold bW at this
    rw [List.append_assoc] at this
    rw [hQ]
    exact this
   have hse : lW v L = L.set i v := BA b1 hs (oS hf).2
   have hVs : (eR (L.set i v)).length = L.length * 17 := by rw [oC, List.length_set]
   have b2 : i * 17 + 17 ≤ L.length * 17 := by omega
   have b3 : i + 1 ≤ L.length := b1
   replace F := aF s1 (And.intro b1 (And.intro b2 (And.intro b3 (And.intro hVs F)))); refine aD ?_; apply hK10; refine sr fun _ hJ16 => ?_; apply hJ16; refine sq fun K17 hK17 => ?_; refine wQ 6 17 (k := ?_); refine rg' (h := fun J18 hJ18 => ?_); apply hJ18; apply hK17; refine sr fun _ hJ20 => ?_; apply hJ20; refine sq fun K21 hK21 => ?_; refine KI 6 17 (k := ?_); refine rg' (h := fun J22 hJ22 => ?_); apply hJ22; apply hK21; refine sr fun _ hJ24 => ?_; apply hJ24; refine ra ?_
   rw [hse]
   refine ⟨by simp [F], [], .sl 17 (eR (L.set i v)) L.length .shut, [Q], [⟨2, [], none⟩], by simpa using Wk.refl (.sl 17 (eR (L.set i v)) L.length .shut), by simp [aX]⟩

theorem Fk {σ : St} {m : Nat} {L : List Acc} {a : UInt8} (h : σ.objs[m]? = some (aC fr L)) (hl : L.length ≤ 1000) :
  aB Tryz.prog 62 [.ptr m 0, .v (.int .u8 a.toNat)] σ (fun av σ' => av = .v (.int .i64 ((C4 L a).e : Nat)) ∧ σ' = jZ fr σ m (C4 L a).L) := by
 have hs : aB Tryz.prog 15 [.ptr m 0, .agg (Ds a)] σ _ := iS (.cons (Wk.refl _) (.cons (DG a) .nil)) (zN h hl (Ei a))
 rw [Hu] at hs
 simp only [Ds] at hs
 have hfi := rW (a := a) h (by omega)
 have hself : jZ fr σ m L = σ := by rw [jZ, gX h]
 rw [C4]
 have F := True.intro
 refine aA Tryz.func62 rfl rfl rfl ?_; refine sr fun _ hJ2 => ?_; apply hJ2; refine sq fun K3 hK3 => ?_; refine sr fun _ hJ5 => ?_; apply hJ5; refine cs (fun c6 => ?_) (fun c6 => ?_)
 · (try exact aG c6); all_goals have c6p := c6; try simp [F] at c6p
   all_goals
    replace F := aF c6 F; try replace F := aF c6p F
    have h1 : 200 ≤ a.toNat := by have h := c6; simp at h; omega
    refine sr fun _ hJ7 => ?_; apply hJ7; refine ra ?_
    rw [if_pos h1]
    exact ⟨rfl, hself.symm⟩
 (try exact aG c6); all_goals have c6p := c6; try simp [F] at c6p
 all_goals
  replace F := aF c6 F; try replace F := aF c6p F
  have h1 : ¬ 200 ≤ a.toNat := by have h := c6; simp at h; omega
  simp only [if_neg h1] at hs
  refine aD ?_; apply hK3; refine sq fun K8 hK8 => ?_; refine sr fun _ hJ10 => ?_; refine ca (c := hfi) (k := ?_); rintro _ _ ⟨z, hz, rfl, rfl⟩; (repeat first | simp [F] | simp (disch := omega) only [wC, if_pos, if_neg]); apply hJ10; refine cs (fun c10 => ?_) (fun c10 => ?_)
  · (try exact aG c10); all_goals have c10p := c10; try simp [F] at c10p
    all_goals
     replace F := aF c10 F; try replace F := aF c10p F
     have hn : ¬ lT L a = true := by
      rcases hz with ⟨_, e⟩ | ⟨i, _, e, _⟩
      · rw [lT, e]; simp
      · have h := c10; rw [e] at h; simp at h <;> omega
     simp only [if_neg hn] at hs
     refine sr fun _ hJ12 => ?_; refine ca (c := hs) (k := ?_); rintro _ _ ⟨rfl, rfl⟩; (repeat first | simp [F] | simp (disch := omega) only [wC, if_pos, if_neg]); apply hJ12; refine ra ?_
     rw [if_neg h1, if_neg hn]
     exact ⟨rfl, rfl⟩
  (try exact aG c10); all_goals have c10p := c10; try simp [F] at c10p
  all_goals
   replace F := aF c10 F; try replace F := aF c10p F
   have hn : lT L a = true := by
    rcases hz with ⟨e, _⟩ | ⟨i, _, _, e⟩
    · have h := c10; rw [e] at h; simp at h
    · rw [lT, e]; rfl
   refine aD ?_; apply hK8; refine sr fun _ hJ14 => ?_; apply hJ14; refine ra ?_
   rw [if_neg h1, if_pos hn]
   exact ⟨rfl, hself.symm⟩

attribute [local simp] dM in
theorem wT {σ : St} {a : Acc} (ha : a.Ok) :
  aB Tryz.prog 25 [.agg (dM a), .agg (dM a)] σ (fun av σ' => av = .v (.bool true) ∧ σ = σ') := by
 refine aM ?_ rfl
 have hp := fun τ => yO (σ := τ) ha.2 ha.2
 simp only [decide_true, iR] at hp
 have hH : e9 [AV.v (.int .u64 (dL a.k.v 0 : Nat)), .v (.int .u64 (dL a.k.v 1 : Nat)), .v (.int .u64 (dL a.k.v 2 : Nat)), .v (.int .u64 (dL a.k.v 3 : Nat)), .v (.int .u64 (dL a.r.v 0 : Nat)), .v (.int .u64 (dL a.r.v 1 : Nat)), .v (.int .u64 (dL a.r.v 2 : Nat)), .v (.int .u64 (dL a.r.v 3 : Nat))] [AV.v (.int .u64 (dL a.k.v 0 : Nat)), .v (.int .u64 (dL a.k.v 1 : Nat)), .v (.int .u64 (dL a.k.v 2 : Nat)), .v (.int .u64 (dL a.k.v 3 : Nat)), .v (.int .u64 (dL a.r.v 0 : Nat)), .v (.int .u64 (dL a.r.v 1 : Nat)), .v (.int .u64 (dL a.r.v 2 : Nat)), .v (.int .u64 (dL a.r.v 3 : Nat))] = true := by simp [e9]
 have F := And.intro hH (True.intro)
 refine aA Tryz.func25 rfl rfl rfl ?_; refine sr fun _ hJ2 => ?_; apply hJ2; refine sr fun _ hJ4 => ?_; (iterate 24 refine go2 (k := ?_)); refine ca (c := hp _) (k := ?_); rintro _ _ ⟨rfl, rfl⟩; (repeat first | simp [F] | simp (disch := omega) only [wC, if_pos, if_neg]); apply hJ4; refine ra ?_; exact gcr

end Go.Proofs.YtjpnjhlfieklfaaGreat

/-
  Arguments: numbers, lists of coins, plans.
-/
namespace Go.Vm
set_option linter.unnecessarySimpa false
set_option linter.unusedVariables false
open Go

theorem sM {go go' : TypeId → Option (List TypeId)} (h : ∀ t l, go t = some l → go' t = some l) : ∀ (fs : List Field) (acc ls : List TypeId), l9 go fs acc = some ls → l9 go' fs acc = some ls
 | [], acc, ls, e => e
 | f :: fs, acc, ls, e => by
   simp only [l9] at e ⊢
   split at e
   · rename_i hf
     rw [if_pos hf]
     cases hg : go f.type with
     | none => rw [hg] at e; cases e
     | some l =>
       rw [hg] at e
       rw [h _ _ hg]
       exact sM h fs _ ls e
   · cases e

theorem vE {P : Program} : ∀ (n : Nat) (t : TypeId) (l : List TypeId), leaves P n t = some l → leaves P (n + 1) t = some l
 | 0, t, l, h => by simp [leaves] at h
 | n + 1, t, l, h => by
   have ih := vE (P := P) n
   rw [leaves] at h ⊢
   split at h
   · exact h
   · exact h
   · exact h
   · rename_i e hu
     cases hg : leaves P n e with
     | none => rw [hg] at h; cases h
     | some l' => rw [hg] at h; simp only [ih _ _ hg]; exact h
   · rename_i fs hu
     cases hg : l9 (leaves P n) fs.toList [] with
     | none => rw [hg] at h; cases h
     | some l' => rw [hg] at h; simp only [sM ih _ _ _ hg]; exact h
   · rename_i k e hu
     cases hg : leaves P n e with
     | none => rw [hg] at h; cases h
     | some l' => rw [hg] at h; simp only [ih _ _ hg]; exact h
   · cases h

theorem rT {P : Program} {n : Nat} {t : TypeId} {l : List TypeId} (h : leaves P n t = some l) : ∀ k, leaves P (n + k) t = some l
 | 0 => h
 | k + 1 => vE _ _ _ (rT h k)
theorem rX {P : Program} {n m : Nat} {t : TypeId} {l l' : List TypeId} (h : leaves P n t = some l) (h' : leaves P m t = some l') : l = l' := by
 have h1 := rT h m
 have h2 := rT h' n
 rw [Nat.add_comm] at h2
 rw [h1] at h2
 exact Option.some.inj h2

theorem Lh {a b c d : Nat} (ha : a < 2 ^ 64) (hb : b < 2 ^ 64) (hc : c < 2 ^ 64) (hd : d < 2 ^ 64) : ∃ x, x < 2 ^ 256 ∧ dL x 0 = a ∧ dL x 1 = b ∧ dL x 2 = c ∧ dL x 3 = d := by
 refine ⟨a + 2 ^ 64 * (b + 2 ^ 64 * (c + 2 ^ 64 * d)), ?_, ?_, ?_, ?_, ?_⟩ <;> (try simp only [dL, Nat.reduceMul, Nat.reducePow]) <;> omega

theorem mW {P : Program} {u : TypeId} {a : AV} (hu : P.underlying u = some (.int .u64)) (w : WC P u a) : ∃ n : Nat, n < 2 ^ 64 ∧ a = .v (.int .u64 n) := by
 cases w with
 | bool h => rw [hu] at h; cases h
 | string h _ => rw [hu] at h; cases h
 | slice h _ _ _ _ => rw [hu] at h; cases h
 | int h hw =>
   rename_i k n
   rw [hu] at h
   cases h
   have m1 : IntKind.u64.min = 0 := rfl
   have m2 : IntKind.u64.max = 18446744073709551615 := rfl
   simp [Lit.wf, m1, m2] at hw
   exact ⟨n.toNat, by omega, by congr 2; omega⟩
theorem Ae {P : Program} {u : TypeId} {a : AV} (hu : P.underlying u = some (.int .u8)) (w : WC P u a) : ∃ b : UInt8, a = .v (.int .u8 b.toNat) := by
 cases w with
 | bool h => rw [hu] at h; cases h
 | string h _ => rw [hu] at h; cases h
 | slice h _ _ _ _ => rw [hu] at h; cases h
 | int h hw =>
   rename_i k n
   rw [hu] at h
   cases h
   have m1 : IntKind.u8.min = 0 := rfl
   have m2 : IntKind.u8.max = 255 := rfl
   simp [Lit.wf, m1, m2] at hw
   refine ⟨UInt8.ofNat n.toNat, ?_⟩
   have e : (UInt8.ofNat n.toNat).toNat = n.toNat := mN (by omega)
   rw [e]
   congr 2; omega

theorem Df {P : Program} {u : TypeId} {a b c d : AV} (hu : P.underlying u = some (.int .u64)) (ha : WC P u a) (hb : WC P u b) (hc : WC P u c) (hd : WC P u d) : ∃ x : Num, [a, b, c, d] = aP x.v := by
 obtain ⟨na, ga, rfl⟩ := mW hu ha
 obtain ⟨nb, gb, rfl⟩ := mW hu hb
 obtain ⟨nc, gc, rfl⟩ := mW hu hc
 obtain ⟨nd, gd, rfl⟩ := mW hu hd
 obtain ⟨x, hx, x0, x1, x2, x3⟩ := Lh ga gb gc gd
 exact ⟨⟨x, hx⟩, by simp [aP, x0, x1, x2, x3]⟩

theorem Br {P : Program} {α : Type} {f : α → List AV} {ls : List TypeId} (hl : 0 < ls.length) (hf : ∀ a, (f a).length = ls.length)
  (one : ∀ cs : List AV, cs.length = ls.length → (∀ (j : Nat) a u, cs[j]? = some a → ls[j]? = some u → WC P u a) → ∃ x, cs = f x) :
  ∀ (n : Nat) (cs : List AV), cs.length = n * ls.length → (∀ (j : Nat) a u, cs[j]? = some a → ls[j % ls.length]? = some u → WC P u a) → ∃ l : List α, l.length = n ∧ cs = l.flatMap f
 | 0, cs, h, _ => ⟨[], rfl, by simpa using h⟩
 | n + 1, cs, h, hc => by
   have hle : ls.length ≤ cs.length := by rw [h, Nat.add_mul]; omega
   obtain ⟨x, hx⟩ := one (cs.take ls.length) (by simp; omega) (fun j a u ha hu => by
    have hj : j < ls.length := (List.getElem?_eq_some_iff.1 hu).1
    rw [List.getElem?_take, if_pos hj] at ha
    exact hc j a u ha (by rw [Nat.mod_eq_of_lt hj]; exact hu))
   obtain ⟨l, hln, hl2⟩ := Br hl hf one n (cs.drop ls.length) (by rw [List.length_drop, h, Nat.add_mul]; omega) (fun j a u ha hu => by
    rw [List.getElem?_drop] at ha
    exact hc (ls.length + j) a u ha (by rw [Nat.add_mod_left]; exact hu))
   exact ⟨x :: l, by simp [hln], by rw [List.flatMap_cons, ← hx, ← hl2, List.take_append_drop]⟩

theorem xM {P : Program} {t e tb u : TypeId} {k : Nat} {a : AV} (ht : P.underlying t = some (.slice e)) (hle : leaves P k e = some [tb, u, u, u, u]) (hb : P.underlying tb = some (.int .u8)) (hu : P.underlying u = some (.int .u64)) (w : WC P t a) : ∃ L : List bB, a = .sl 5 (aL L) L.length .shut := by
 cases w with
 | bool h => rw [ht] at h; cases h
 | string h _ => rw [ht] at h; cases h
 | int h _ => rw [ht] at h; cases h
 | slice h hls hl hn hc =>
   rw [ht] at h
   cases h
   rename_i fuel ls cs n
   obtain rfl := rX hle hls
   obtain ⟨L, hL, rfl⟩ := Br (f := dV) (ls := [tb, u, u, u, u]) (by simp) (fun _ => rfl) (fun cs h1 h2 => by
    obtain ⟨a0, a1, a2, a3, a4, rfl⟩ : ∃ a0 a1 a2 a3 a4, cs = [a0, a1, a2, a3, a4] := by
     match cs, h1 with
     | [a0, a1, a2, a3, a4], _ => exact ⟨a0, a1, a2, a3, a4, rfl⟩
    obtain ⟨b, hb⟩ := Ae hb (h2 0 a0 tb rfl rfl)
    obtain ⟨x, hx⟩ := Df hu (h2 1 a1 u rfl rfl) (h2 2 a2 u rfl rfl) (h2 3 a3 u rfl rfl) (h2 4 a4 u rfl rfl)
    exact ⟨⟨b, x⟩, by rw [hb, hx]; rfl⟩) n cs hl hc
   exact ⟨L, by rw [← hL]; rfl⟩

theorem DN {P : Program} {t : TypeId} {sz n : Nat} {cs : List AV} {tl : eK} (w : WC P t (.sl sz cs n tl)) : n ≤ 9223372036854775807 := by
 generalize hx : AV.sl sz cs n tl = x at w
 cases w with
 | bool h => cases hx
 | string h _ => cases hx
 | int h _ => cases hx
 | slice h hls hl hn hc => cases hx; exact hn

theorem JR {P : Program} {t e u tc ec tb : TypeId} {k k2 : Nat} {a : AV} (ht : P.underlying t = some (.slice e)) (hle : leaves P k e = some [u, tc]) (hu : P.underlying u = some (.int .u64)) (hb : P.underlying tb = some (.int .u8)) {un : TypeId} (hun : P.underlying un = some (.int .u64))
  (htc : P.underlying tc = some (.slice ec)) (hlc : leaves P k2 ec = some [tb, un, un, un, un]) (w : WC P t a) : ∃ L : List Per, a = .sl 2 (eN L) L.length .shut ∧ L.length ≤ 9223372036854775807 ∧ ∀ x ∈ L, x.l < 2 ^ 64 ∧ x.c.length ≤ 9223372036854775807 := by
 have w0 := w
 cases w with
 | bool h => rw [ht] at h; cases h
 | string h _ => rw [ht] at h; cases h
 | int h _ => rw [ht] at h; cases h
 | slice h hls hl hn hc =>
   rw [ht] at h
   cases h
   rename_i fuel ls cs n
   obtain rfl := rX hle hls
   obtain ⟨L, hL, rfl⟩ := Br (α := { x : Per // x.l < 2 ^ 64 ∧ x.c.length ≤ 9223372036854775807 }) (f := fun x => oA x.1) (ls := [u, tc]) (by simp) (fun _ => rfl) (fun cs h1 h2 => by
    obtain ⟨a0, a1, rfl⟩ : ∃ a0 a1, cs = [a0, a1] := by
     match cs, h1 with
     | [a0, a1], _ => exact ⟨a0, a1, rfl⟩
    obtain ⟨m, hm, e0⟩ := mW hu (h2 0 a0 u rfl rfl)
    have w1 := h2 1 a1 tc rfl rfl
    obtain ⟨M, hM⟩ := xM htc hlc hb hun w1
    subst hM
    exact ⟨⟨⟨m, M⟩, hm, DN w1⟩, by rw [e0]; rfl⟩) n cs hl hc
   refine ⟨L.map Subtype.val, ?_, by rw [List.length_map, hL]; exact hn, fun x hx => ?_⟩
   · rw [List.length_map, hL]
     show AV.sl 2 _ n .shut = _
     congr 1
     simp [eN]
   · obtain ⟨y, _, rfl⟩ := List.mem_map.1 hx
     exact y.2

theorem Lb {P : Program} {tk u tc tp e ec tb un : TypeId} {k k2 : Nat} {l : List AV} (h1 : l.length = [tk, u, u, tc, tp].length) (h2 : ∀ (j : Nat) a v, l[j]? = some a → [tk, u, u, tc, tp][j]? = some v → WC P v a) (hk : P.underlying tk = some (.int .u8)) (hu : P.underlying u = some (.int .u64)) (hb : P.underlying tb = some (.int .u8)) (hun : P.underlying un = some (.int .u64))
  (htc : P.underlying tc = some (.slice ec)) (hlc : leaves P k2 ec = some [tb, un, un, un, un]) (htp : P.underlying tp = some (.slice e)) (hle : leaves P k e = some [u, tc]) : ∃ p : Pln, l = iR p ∧ p.Ok := by
 obtain ⟨a0, a1, a2, a3, a4, rfl⟩ : ∃ a0 a1 a2 a3 a4, l = [a0, a1, a2, a3, a4] := by
  match l, h1 with
  | [a0, a1, a2, a3, a4], _ => exact ⟨a0, a1, a2, a3, a4, rfl⟩
 obtain ⟨b, e0⟩ := Ae hk (h2 0 a0 _ rfl rfl)
 obtain ⟨s, hs, e1⟩ := mW hu (h2 1 a1 _ rfl rfl)
 obtain ⟨n, hn, e2⟩ := mW hu (h2 2 a2 _ rfl rfl)
 have w3 := h2 3 a3 _ rfl rfl
 obtain ⟨M, e3⟩ := xM htc hlc hb hun w3
 subst e3
 obtain ⟨L, e4, hL, h5⟩ := JR htp hle hu hb hun htc hlc (h2 4 a4 _ rfl rfl)
 exact ⟨⟨b, s, n, M, L⟩, by rw [e0, e1, e2, e4]; rfl, hs, hn, DN w3, hL, h5⟩

end Go.Vm

/-
  Arguments of the laws of people.
-/
namespace Go.Proofs.YtjpnjhlfieklfaaGreat
set_option linter.unnecessarySimpa false
set_option maxRecDepth 100000
set_option linter.unusedSimpArgs false
set_option linter.unusedVariables false
open Go Go.Vm
attribute [local simp] dK aJ dJ opA bD bH cJ bP ofValue dC plain aR aS bY b6 cA cC b7 cE b8 b9 cX cB cH cG cD bU aV aU bL cS aW dN dP bI bC cN gI bR dD bW AV.cells AV.bA dE cI e6 bF aY cQ dI dS dY cL aO dR dQ cW cU cM List.getElem?_cons_zero List.getElem?_cons_succ fK fI fH fG fN fM fJ fL dF eT eF eZ

structure AcA where
 m : UInt8
 x : Acc

def aaC (a : AcA) : List AV := .v (.int .u8 a.m.toNat) :: dM a.x

def AX (l : List AcA) : List AV := l.flatMap aaC

theorem Bm (a : AcA) : (aaC a).length = 18 := rfl

theorem Cg (l : List AcA) : (AX l).length = l.length * 18 := kD aaC 18 Bm l

theorem EF {l : List AcA} {i : Nat} (h : i < l.length) : ∃ R, (AX l).drop (i * 18) = aaC l[i] ++ R := ⟨_, tB aaC 18 Bm l i h⟩

theorem KS (v : AcA) : (∀ x ∈ aaC v, AV.bA x = true) := fun x hx => by
 rcases List.mem_cons.1 hx with rfl | hx
 · rfl
 · exact sK _ x hx

theorem zS {P : Program} {k2 k3 : Nat} {u b c ec tp ep : TypeId} {a0 a1 a2 a3 a4 a5 a6 a7 a8 a9 a10 a11 a12 a13 a14 a15 a16 : AV} (hu : P.underlying u = some (.int .u64)) (hb : P.underlying b = some (.int .u8)) (hc : P.underlying c = some (.slice ec)) (hlc : leaves P k2 ec = some [b, u, u, u, u]) (hp : P.underlying tp = some (.slice ep)) (hlp : leaves P k3 ep = some [u, c]) (h0 : WC P b a0) (h1 : WC P u a1) (h2 : WC P b a2) (h3 : WC P b a3) (h4 : WC P u a4) (h5 : WC P u a5) (h6 : WC P c a6) (h7 : WC P tp a7) (h8 : WC P b a8) (h9 : WC P u a9) (h10 : WC P u a10) (h11 : WC P u a11) (h12 : WC P u a12) (h13 : WC P u a13) (h14 : WC P u a14) (h15 : WC P u a15) (h16 : WC P u a16) : ∃ e : Acc, [a0, a1, a2, a3, a4, a5, a6, a7, a8, a9, a10, a11, a12, a13, a14, a15, a16] = dM e ∧ e.Ok := by
 obtain ⟨x0, rfl⟩ := Ae hb h0
 obtain ⟨q, hq, rfl⟩ := mW hu h1
 obtain ⟨x2, rfl⟩ := Ae hb h2
 obtain ⟨p, hp1, hp2⟩ := Lb (l := [a3, a4, a5, a6, a7]) (tk := b) (u := u) (tc := c) (tp := tp) rfl (fun j a v e1 e2 => by
  match j with
  | 0 => simp at e1 e2; subst e1 e2; exact h3
  | 1 => simp at e1 e2; subst e1 e2; exact h4
  | 2 => simp at e1 e2; subst e1 e2; exact h5
  | 3 => simp at e1 e2; subst e1 e2; exact h6
  | 4 => simp at e1 e2; subst e1 e2; exact h7
  | j + 5 => simp at e1) hb hu hb hu hc hlc hp hlp
 obtain ⟨x8, rfl⟩ := Ae hb h8
 obtain ⟨f, hf⟩ := Df hu h9 h10 h11 h12
 obtain ⟨g, hg⟩ := Df hu h13 h14 h15 h16
 simp only [aP, List.cons.injEq, and_true] at hf hg
 obtain ⟨rfl, rfl, rfl, rfl⟩ := hf
 obtain ⟨rfl, rfl, rfl, rfl⟩ := hg
 simp only [iR, List.cons.injEq, and_true] at hp1
 obtain ⟨rfl, rfl, rfl, rfl, rfl⟩ := hp1
 exact ⟨⟨x0, q, x2, p, x8, f, g⟩, rfl, hq, hp2⟩

theorem A8 {P : Program} {k2 k3 : Nat} {u b c ec tp ep : TypeId} {n : Nat} {ty : TypeId} {H : Type} {enc : TypeId × Value → H} {W : World} {spare : Nat → Bool} {cs : Array Value} {d : DataW H} {ps : List MemPlace} (hl : leaves P n ty = some [b, u, b, b, u, u, c, tp, b, u, u, u, u, u, u, u, u]) (hu : P.underlying u = some (.int .u64)) (hb : P.underlying b = some (.int .u8)) (hc : P.underlying c = some (.slice ec)) (hlc : leaves P k2 ec = some [b, u, u, u, u]) (hp : P.underlying tp = some (.slice ep)) (hlp : leaves P k3 ep = some [u, c])
  (h : DataW.Trod enc P W 0 spare true ty (.agg cs) d ps) : ∃ e : Acc, e.Ok ∧ AVR (iM W) W (.agg cs) (.agg (dM e)) := by
 obtain ⟨l, h1, h2, h3, h4⟩ := xK hl h
 have hc9 : Value.cells (.agg cs) = cs := rfl
 rw [hc9] at h2 h3
 match l, h1, h2, h3, h4 with
 | [a0, a1, a2, a3, a4, a5, a6, a7, a8, a9, a10, a11, a12, a13, a14, a15, a16], _, h2, h3, h4 =>
   obtain ⟨e, he, ho⟩ := zS hu hb hc hlc hp hlp (h4 0 a0 _ rfl rfl) (h4 1 a1 _ rfl rfl) (h4 2 a2 _ rfl rfl) (h4 3 a3 _ rfl rfl) (h4 4 a4 _ rfl rfl) (h4 5 a5 _ rfl rfl) (h4 6 a6 _ rfl rfl) (h4 7 a7 _ rfl rfl) (h4 8 a8 _ rfl rfl) (h4 9 a9 _ rfl rfl) (h4 10 a10 _ rfl rfl) (h4 11 a11 _ rfl rfl) (h4 12 a12 _ rfl rfl) (h4 13 a13 _ rfl rfl) (h4 14 a14 _ rfl rfl) (h4 15 a15 _ rfl rfl) (h4 16 a16 _ rfl rfl)
   rw [he] at h2 h3
   exact ⟨e, ho, .agg h2 h3⟩

theorem KQ {P : Program} {k k2 k3 : Nat} {u b c ec tp ep : TypeId} {ty e : TypeId} {a : AV} (hty : P.underlying ty = some (.slice e)) (hle : leaves P k e = some [b, b, u, b, b, u, u, c, tp, b, u, u, u, u, u, u, u, u]) (hu : P.underlying u = some (.int .u64)) (hb : P.underlying b = some (.int .u8)) (hc : P.underlying c = some (.slice ec)) (hlc : leaves P k2 ec = some [b, u, u, u, u]) (hp : P.underlying tp = some (.slice ep)) (hlp : leaves P k3 ep = some [u, c]) (w : WC P ty a) :
  ∃ L : List AcA, a = .sl 18 (AX L) L.length .shut ∧ L.length ≤ 9223372036854775807 ∧ ∀ x ∈ L, x.x.Ok := by
 cases w with
 | bool h => rw [hty] at h; cases h
 | string h _ => rw [hty] at h; cases h
 | int h _ => rw [hty] at h; cases h
 | slice h hls hl hn hcc =>
   rw [hty] at h
   cases h
   rename_i fuel ls cs n
   obtain rfl := rX hle hls
   obtain ⟨L, hL, rfl⟩ := Br (α := { x : AcA // x.x.Ok }) (f := fun x => aaC x.1) (ls := [b, b, u, b, b, u, u, c, tp, b, u, u, u, u, u, u, u, u]) (by simp) (fun _ => rfl) (fun cs h1 h2 => by
    match cs, h1, h2 with
    | [a0, a1, a2, a3, a4, a5, a6, a7, a8, a9, a10, a11, a12, a13, a14, a15, a16, a17], _, h2 =>
      obtain ⟨m, e0⟩ := Ae hb (h2 0 a0 b rfl rfl)
      obtain ⟨e, e1, o1⟩ := zS hu hb hc hlc hp hlp (h2 1 a1 _ rfl rfl) (h2 2 a2 _ rfl rfl) (h2 3 a3 _ rfl rfl) (h2 4 a4 _ rfl rfl) (h2 5 a5 _ rfl rfl) (h2 6 a6 _ rfl rfl) (h2 7 a7 _ rfl rfl) (h2 8 a8 _ rfl rfl) (h2 9 a9 _ rfl rfl) (h2 10 a10 _ rfl rfl) (h2 11 a11 _ rfl rfl) (h2 12 a12 _ rfl rfl) (h2 13 a13 _ rfl rfl) (h2 14 a14 _ rfl rfl) (h2 15 a15 _ rfl rfl) (h2 16 a16 _ rfl rfl) (h2 17 a17 _ rfl rfl)
      refine ⟨⟨⟨m, e⟩, o1⟩, ?_⟩
      show _ = AV.v (.int .u8 m.toNat) :: dM e
      rw [← e1, e0]) n cs hl hcc
   refine ⟨L.map Subtype.val, ?_, by rw [List.length_map, hL]; exact hn, fun x hx => ?_⟩
   · rw [List.length_map, hL]
     show AV.sl 18 _ n .shut = _
     congr 1
     simp [AX, List.flatMap_map]
   · obtain ⟨y, _, rfl⟩ := List.mem_map.1 hx
     exact y.2

theorem JF {P : Program} {n k k2 k3 : Nat} {u b c ec tp ep : TypeId} {ty e : TypeId} {H : Type} {enc : TypeId × Value → H} {W : World} {spare : Nat → Bool} {ad : Option Addr} {m c9 : Nat} {d : DataW H} {ps : List MemPlace} (hl : leaves P n ty = some [ty]) (hty : P.underlying ty = some (.slice e)) (hle : leaves P k e = some [b, b, u, b, b, u, u, c, tp, b, u, u, u, u, u, u, u, u]) (hu : P.underlying u = some (.int .u64)) (hb : P.underlying b = some (.int .u8)) (hc : P.underlying c = some (.slice ec)) (hlc : leaves P k2 ec = some [b, u, u, u, u]) (hp : P.underlying tp = some (.slice ep)) (hlp : leaves P k3 ep = some [u, c])
  (h : DataW.Trod enc P W 0 spare true ty (.slice ad m c9) d ps) : ∃ L : List AcA, L.length ≤ 9223372036854775807 ∧ (∀ x ∈ L, x.x.Ok) ∧ AVR (iM W) W (.slice ad m c9) (.sl 18 (AX L) L.length .shut) := by
 obtain ⟨l, h1, h2, h3, h4⟩ := xK hl h
 have hc9 : Value.cells (.slice ad m c9) = #[.slice ad m c9] := rfl
 obtain ⟨a, rfl⟩ : ∃ a, l = [a] := by
  match l, h1 with
  | [a], _ => exact ⟨a, rfl⟩
 obtain ⟨L, rfl, e1, e2⟩ := KQ hty hle hu hb hc hlc hp hlp (h4 0 a ty rfl rfl)
 exact ⟨L, e1, e2, h3 0 _ _ (by rw [hc9]; rfl) rfl⟩

theorem IB {P : Program} {n k2 : Nat} {u b ec : TypeId} {ty : TypeId} {H : Type} {enc : TypeId × Value → H} {W : World} {spare : Nat → Bool} {ad : Option Addr} {m c9 : Nat} {d : DataW H} {ps : List MemPlace} (hl : leaves P n ty = some [ty]) (hty : P.underlying ty = some (.slice ec)) (hu : P.underlying u = some (.int .u64)) (hb : P.underlying b = some (.int .u8)) (hlc : leaves P k2 ec = some [b, u, u, u, u])
  (h : DataW.Trod enc P W 0 spare true ty (.slice ad m c9) d ps) : ∃ L : List bB, L.length ≤ 9223372036854775807 ∧ AVR (iM W) W (.slice ad m c9) (.sl 5 (aL L) L.length .shut) := by
 obtain ⟨l, h1, h2, h3, h4⟩ := xK hl h
 have hc9 : Value.cells (.slice ad m c9) = #[.slice ad m c9] := rfl
 obtain ⟨a, rfl⟩ : ∃ a, l = [a] := by
  match l, h1 with
  | [a], _ => exact ⟨a, rfl⟩
 have w := h4 0 a ty rfl rfl
 obtain ⟨L, rfl⟩ := xM hty hlc hb hu w
 exact ⟨L, DN w, h3 0 _ _ (by rw [hc9]; rfl) rfl⟩

end Go.Proofs.YtjpnjhlfieklfaaGreat

/-
  Bank: deeds of a law: few of them, their coins, their addresses; a deed of both.
-/
namespace Go.Proofs.YtjpnjhlfieklfaaGreat
set_option linter.unnecessarySimpa false
set_option maxRecDepth 100000
open Go Go.Vm
set_option linter.unusedSimpArgs false
set_option linter.unusedVariables false
attribute [local simp] dK aJ dJ opA bD bH cJ bP ofValue dC plain aR aS bY b6 cA cC b7 cE b8 b9 cX cB cH cG cD bU aV aU bL cS aW dN dP bI bC cN gI bR dD bW AV.cells AV.bA dE cI e6 bF aY cQ dI dS dY cL aO dR dQ cW cU cM List.getElem?_cons_zero List.getElem?_cons_succ fK fI fH fG fN fM fJ fL dF eT eF eZ
variable {Ru : UInt8 → List Pr}

structure AB where
 f : UInt8
 a : UInt8
 b : UInt8
 l : List bB
 z : Bool

def AB.Ok (x : AB) : Prop := x.l.length ≤ 9223372036854775807

def vZ (l : List bB) : Nat → Nat := l.foldl (fun f c j => if j = c.d.toNat % 8 then c.n.v else f j) (fun _ => 0)

theorem Gf (l : List bB) (c : bB) : vZ (l ++ [c]) = fun j => if j = c.d.toNat % 8 then c.n.v else vZ l j := by simp [vZ]

theorem Et : ∀ (l : List bB) (f : Nat → Nat), (∀ j, f j < 2 ^ 256) → ∀ j, l.foldl (fun f c j => if j = c.d.toNat % 8 then c.n.v else f j) f j < 2 ^ 256
 | [], f, h => h
 | c :: l, f, h => Et l _ (fun j => by
   show (if j = c.d.toNat % 8 then c.n.v else f j) < _
   split
   · exact c.n.h
   · exact h j)

theorem ED (l : List bB) (j : Nat) : vZ l j < 2 ^ 256 := Et l _ (fun _ => Nat.two_pow_pos 256) j

theorem I0 (b : UInt8) (m : Nat) (hm : (m : Int) ≠ 0) (xo yo : Operand) : gW Tryz.prog .rem 5 xo yo (.v (.int .u8 (b.toNat : Nat))) (.v (.int .u8 m)) = some (.v (.int .u8 ((b.toNat % m : Nat) : Int))) := by rw [bU (h := hm)]; rfl

structure BkI (Ru : UInt8 → List Pr) (s : Sto) (T : Tb) (n : Nat) : Prop where
 bk : gC Ru s T n
 sm : D8 T

theorem BkI.nil : BkI R0 eM.s tb0 0 := ⟨gC.nil, D8.nil⟩

end Go.Proofs.YtjpnjhlfieklfaaGreat

/-
  The document of validators and delegations: another one.
-/
namespace Go.Proofs.YtjpnjhlfieklfaaGreat
set_option linter.unnecessarySimpa false
set_option maxRecDepth 100000
open Go Go.Vm
set_option linter.unusedSimpArgs false
set_option linter.unusedVariables false
attribute [local simp] dK aJ dJ opA bD bH cJ bP ofValue dC plain aR aS bY b6 cA cC b7 cE b8 b9 cX cB cH cG cD bU aV aU bL cS aW dN dP bI bC cN gI bR dD bW AV.cells AV.bA dE cI e6 bF aY cQ dI dS dY cL aO dR dQ cW cU cM List.getElem?_cons_zero List.getElem?_cons_succ fK fI fH fG fN fM fJ fL dF eT eF eZ
variable {Ru : UInt8 → List Pr} {fr : Fr}

structure GD where
 i : Nat
 O : List Dl
 b : Bool

end Go.Proofs.YtjpnjhlfieklfaaGreat

/-
  The laws of people: their own pieces.
-/
namespace Go.Proofs.YtjpnjhlfieklfaaGreat
set_option maxHeartbeats 1600000
set_option linter.unnecessarySimpa false
set_option maxRecDepth 100000
open Go Go.Vm
set_option linter.unusedSimpArgs false
set_option linter.unusedVariables false
attribute [local simp] dK aJ dJ opA bD bH cJ bP ofValue dC plain aR aS bY b6 cA cC b7 cE b8 b9 cX cB cH cG cD bU aV aU bL cS aW dN dP bI bC cN gI bR dD bW AV.cells AV.bA dE cI e6 bF aY cQ dI dS dY cL aO dR dQ cW cU cM List.getElem?_cons_zero List.getElem?_cons_succ fK fI fH fG fN fM fJ fL dF eT eF eZ cV
variable {Ru : UInt8 → List Pr}

def frW (T : Tb) (L : List Acc) (W : Pw) : Fr where
 t := .v (.int .u64 0)
 s := .sl 5 (aL (T none)) (T none).length .shut
 b := .sl 2 (Hz (Gc T)) (Gc T).length .shut
 a := .sl 17 (eR L) L.length .shut
 v := .sl 14 (K0 W.V) W.V.length .shut
 d := .sl 7 (KU W.D) W.D.length .shut
 e := .sl 0 [] 0 .full
 h := .sl 0 [] 0 .full
 no := fun x hx => by
  simp only [List.mem_cons, List.not_mem_nil, or_false] at hx
  rcases hx with rfl | rfl | rfl | rfl | rfl | rfl | rfl | rfl <;> exact ⟨fun n => by simp [AV.eH, CO, mT, Dj, D7, bG], fun B => by simp [AV.under, B4, qJ, Db, DR, aZ]⟩

def wdC (T : Tb) (L : List Acc) (W : Pw) : List AV := aC (frW T L W) L

theorem KO (T : Tb) (L L' : List Acc) (W : Pw) : aC (frW T L W) L' = wdC T L' W := rfl

def KZ : List AV := [.v (.int .u64 0), .sl 0 [] 0 .full, .sl 0 [] 0 .full, .sl 0 [] 0 .full, .sl 0 [] 0 .full, .sl 0 [] 0 .full, .sl 0 [] 0 .full, .sl 0 [] 0 .full]

theorem HU : Gc tb0 = [] := by
 have h : ∀ b, ¬ b ∈ Gc tb0 := fun b hb => (CS.1 hb).2 (CS.1 hb).1
 exact List.eq_nil_iff_forall_not_mem.2 h

theorem Le : WkL KZ (wdC tb0 [] pw0) := by
 have e : wdC tb0 [] pw0 = [.v (.int .u64 0), .sl 5 [] 0 .shut, .sl 2 [] 0 .shut, .sl 17 [] 0 .shut, .sl 14 [] 0 .shut, .sl 7 [] 0 .shut, .sl 0 [] 0 .full, .sl 0 [] 0 .full] := by
  simp only [wdC, aC, aX, frW, HU]; rfl
 rw [e]
 exact .cons (Wk.refl _) (.cons (Wk.nil _ _ _) (.cons (Wk.nil _ _ _) (.cons (Wk.nil _ _ _) (.cons (Wk.nil _ _ _) (.cons (Wk.nil _ _ _) (.cons (Wk.refl _) (.cons (Wk.refl _) .nil)))))))
section

variable {z : kV} {P : Program} {N : Nat} {ρ : Nat → AV}

theorem Hx {c : Code} {Q : Exit → (Nat → AV) → St → Prop} (σ : St) (k : Run z P N c ρ (Sp σ eM [wdC tb0 [] pw0]) Q) :
  Run z P N c ρ { Sp σ eM [] with objs := (Sp σ eM []).objs ++ [KZ] } Q := by
 have h0 : WkS { σ with objs := (σ.objs ++ [stC σ.rows.length eM, []]).set (σ.objs.length + 1) KZ, rows := σ.rows ++ [pF eM, oI eM, oD eM] }
   { σ with objs := (σ.objs ++ [stC σ.rows.length eM, []]).set (σ.objs.length + 1) (wdC tb0 [] pw0), rows := σ.rows ++ [pF eM, oI eM, oD eM] } :=
  WkS.set (σ := { σ with rows := σ.rows ++ [pF eM, oI eM, oD eM] }) Le
 simp only [List.set_append_right _ _ (Nat.le_add_right _ _), Nat.add_sub_cancel_left, List.set_cons_succ, List.set_cons_zero] at h0
 have e : ∀ a b : St, a = b → Run z P N c ρ b Q → Run z P N c ρ a Q := fun a b h k => h ▸ k
 refine e _ _ ?_ (JG h0 k); simp [Sp]
end

theorem Sp.sw (σ : St) (G : Sg) (X : List AV) (l : List (List AV)) : (Sp σ G (X :: l)).objs[σ.objs.length + 1]? = some X := by simp [Sp]

theorem Sp.sA (σ : St) (G : Sg) (X : List AV) (l : List (List AV)) (fr : Fr) (L : List Acc) : jZ fr (Sp σ G (X :: l)) (σ.objs.length + 1) L = Sp σ G (aC fr L :: l) := by simp [Sp, jZ]

theorem Mx {s : Sto} {L : List Acc} {n : Nat} (h : dH Rp0 s L n) : gC (fun c => pl s.l [c]) s tb0 n := gC.nil.Ew h.ok (h.rs 98 (by decide)) (h.rs 115 (by decide)) (fun c _ _ => rfl)

theorem Gq {s s' : Sto} {L : List Acc} {T : Tb} {n m : Nat} (h : dH Ru s L n) (hb : gC (fun c => pl s.l [c]) s' T m) (hm : n ≤ m) : dH (fun c => pl s'.l [c]) s' L m := h.Ew hb.ok hm (hb.rs 97 (by decide) (by decide)) (fun c _ => rfl)

def tbM (a : UInt8) (C : List bB) : Tb := upd (upd tb0 none C) (some a) C

theorem JU (a : UInt8) (C : List bB) : tbM a C (some a) = C := qE _ _ _

theorem E0 {C : List bB} (h : bM C) : lX [] C = C := by
 have : lX [] C = gH (amt C) 8 := jA (fun i _ => by simp [amt])
 rw [this]; exact nV h

theorem L3 {a : UInt8} {C : List bB} (ha : isB a = true) (hC : bM C) : vS tb0 a C = ⟨tbM a C, 0⟩ := by
 have h0 : iV (tb0 none) C = 0 := jT.2 (fun d hd => by have := jG C d; simpa [tb0, amt] using this)
 rw [vS, if_neg (not_not_intro ⟨ha, hC⟩), if_neg (not_not_intro h0)]
 simp only [tbM, tb0, E0 hC]

theorem Lu {a : UInt8} (h : a.toNat < 200) : isB a = true := by simp [isB]; omega

theorem DK {σ : St} {n : Nat} {G : Sg} {L : List Acc} {v : Acc} {l : List (List AV)} (hi : dH Ru G.s L n) (hn : n ≤ 1000) (hv : v.Ok) :
  aB Tryz.prog 14 [.ptr σ.objs.length 0, .agg (dM v)] (Sp σ G l) (fun av σ' => ∃ G', dH Ru G'.s (nK L v).L (n + 1) ∧ av = .v (.int .i64 ((nK L v).e : Nat)) ∧ σ' = Sp σ G' l) :=
 bV (Ba (Sp.has σ G l) hi hn hv) (fun av σ' ⟨G', e1, e2, e3⟩ => ⟨G', e1, e2, by rw [e3, Sp.put]⟩)

theorem Kt {σ : St} {n : Nat} {G : Sg} {L : List Acc} {v : Acc} {l : List (List AV)} (hi : dH Ru G.s L n) (hn : n ≤ 1000) (hv : v.Ok) :
  aB Tryz.prog 24 [.ptr σ.objs.length 0, .agg (dM v)] (Sp σ G l) (fun av σ' => ∃ G', dH Ru G'.s (mV L v).L (n + 1) ∧ av = .v (.int .i64 ((mV L v).e : Nat)) ∧ σ' = Sp σ G' l) :=
 bV (ER (Sp.has σ G l) hi hn hv) (fun av σ' ⟨G', e1, e2, e3⟩ => ⟨G', e1, e2, by rw [e3, Sp.put]⟩)

theorem Ii {σ : St} {n : Nat} {G : Sg} {L : List Acc} {a : UInt8} {C : List bB} {l : List (List AV)} {tl : eK} (hi : dH Rp0 G.s L n) (hn : n ≤ 900) (ha : a.toNat < 200) (hC : bM C) :
  aB Tryz.prog 16 [.ptr σ.objs.length 0, .v (.int .u8 a.toNat), .sl 5 (aL C) C.length tl] (Sp σ G l) (fun av σ' => ∃ G', (dH (fun c => pl G'.s.l [c]) G'.s L (n + 16) ∧ gC (fun c => pl G.s.l [c]) G'.s (tbM a C) (n + 16)) ∧ av = .v (.int .i64 0) ∧ σ' = Sp σ G' l) := by
 have h8 := eI hC
 have := HK (b := a) (l := C) (Sp.has σ G l) (Mx hi) D8.nil hn (by omega)
 rw [L3 (Lu ha) hC] at this
 exact iS (.cons (Wk.refl _) (.cons (Wk.refl _) (.cons (Wk.shut _ _ _ _) .nil))) (bV this (fun av σ' ⟨G', e1, e2, e3⟩ => ⟨G', ⟨Gq hi e1 (by omega), e1⟩, e2, by rw [e3, Sp.put]⟩))

/- of nothing -/
theorem CX {σ : St} {v : Acc} {b : Bool} {e : Nat} : aB Tryz.prog 34 [.v (.pointer none), .agg (dM v), .v (.bool b), .v (.int .i64 (e : Nat))] σ (fun av σ' => av = .v (.int .i64 1) ∧ σ = σ') := by
 refine aM ?_ rfl
 obtain ⟨Q, hQ⟩ : ∃ Q, Q = dM v := ⟨_, rfl⟩
 have hQl : Q.length = 17 := by rw [hQ]; rfl
 have hQt : List.take 17 Q = Q := by subst hQ; rfl
 rw [← hQ]
 have F := And.intro hQl (And.intro hQt (True.intro))
 refine aA Tryz.func34 rfl rfl rfl ?_; refine sr fun _ hJ2 => ?_; apply hJ2; refine sq fun K3 hK3 => ?_; refine sr fun _ hJ5 => ?_; (iterate 3 refine no2 (k := ?_)); apply hJ5; refine ct ?_; refine sr fun _ hJ7 => ?_; apply hJ7; refine ra ?_; exact gcr

theorem BT {σ : St} {v : Acc} : aB Tryz.prog 14 [.v (.pointer none), .agg (dM v)] σ (fun av σ' => av = .v (.int .i64 1) ∧ σ = σ') := by
 refine aM ?_ rfl
 have hs := fun τ => CX (σ := τ) (v := v) (b := false) (e := 9)
 obtain ⟨Q, hQ⟩ : ∃ Q, Q = dM v := ⟨_, rfl⟩
 have hQl : Q.length = 17 := by rw [hQ]; rfl
 have hQt : List.take 17 Q = Q := by subst hQ; rfl
 simp only [← hQ] at hs
 rw [← hQ]
 have F := And.intro hQl (And.intro hQt (True.intro))
 refine aA Tryz.func14 rfl rfl rfl ?_; refine sr fun _ hJ2 => ?_; apply hJ2; refine sr fun _ hJ4 => ?_; refine ca (c := hs _) (k := ?_); rintro _ _ ⟨rfl, rfl⟩; (repeat first | simp [F] | simp (disch := omega) only [wC, if_pos, if_neg]); apply hJ4; refine ra ?_; exact gcr

theorem Io {σ : St} {v : Acc} : aB Tryz.prog 24 [.v (.pointer none), .agg (dM v)] σ (fun av σ' => av = .v (.int .i64 1) ∧ σ = σ') := by
 refine aM ?_ rfl
 have hs := fun τ => CX (σ := τ) (v := v) (b := true) (e := 5)
 obtain ⟨Q, hQ⟩ : ∃ Q, Q = dM v := ⟨_, rfl⟩
 have hQl : Q.length = 17 := by rw [hQ]; rfl
 have hQt : List.take 17 Q = Q := by subst hQ; rfl
 simp only [← hQ] at hs
 rw [← hQ]
 have F := And.intro hQl (And.intro hQt (True.intro))
 refine aA Tryz.func24 rfl rfl rfl ?_; refine sr fun _ hJ2 => ?_; apply hJ2; refine sr fun _ hJ4 => ?_; refine ca (c := hs _) (k := ?_); rintro _ _ ⟨rfl, rfl⟩; (repeat first | simp [F] | simp (disch := omega) only [wC, if_pos, if_neg]); apply hJ4; refine ra ?_; exact gcr

theorem Gw {σ : St} {a : UInt8} : aB Tryz.prog 31 [.v (.pointer none), .v (.int .u8 a.toNat)] σ (fun av σ' => av = .v (.int .i64 1) ∧ σ = σ') := by
 have hs : aB Tryz.prog 14 [.v (.pointer none), .agg (Ds a)] σ _ := iS (.cons (Wk.refl _) (.cons (DG a) .nil)) BT
 simp only [Ds] at hs
 have F := True.intro
 refine aA Tryz.func31 rfl rfl rfl ?_; refine sr fun _ hJ2 => ?_; apply hJ2; refine sq fun K3 hK3 => ?_; refine sr fun _ hJ5 => ?_; refine ca (c := hs) (k := ?_); rintro _ _ ⟨rfl, rfl⟩; (repeat first | simp [F] | simp (disch := omega) only [wC, if_pos, if_neg]); apply hJ5; refine sr fun _ hJ7 => ?_; apply hJ7; refine ct ?_; refine sr fun _ hJ9 => ?_; apply hJ9; refine ra ?_; exact rt

theorem Gk {σ : St} : aB Tryz.prog 30 [.v (.pointer none)] σ (fun av σ' => av = .sl 17 [] 0 .shut ∧ σ = σ') := by
 refine aM ?_ rfl
 have F := True.intro
 refine aA Tryz.func30 rfl rfl rfl ?_; refine sr fun _ hJ2 => ?_; apply hJ2; refine sr fun _ hJ4 => ?_; apply hJ4; refine sq fun K5 hK5 => ?_; refine sr fun _ hJ7 => ?_; refine ca (c := Bv) (k := ?_); rintro _ _ ⟨rfl, rfl⟩; (repeat first | simp [F] | simp (disch := omega) only [wC, if_pos, if_neg]); apply hJ7; refine aH ?_; refine cZ (X := Nat) [0, 2, 10, 11] (fun j ρ σ1 => (ρ 12 = .v (.int .i64 0)) ∧ (ρ 3 = .sl 0 [] 0 .full) ∧ (σ1 = σ)) (fun j => 0) (0) ?st1 ?rd1
 case st1 =>
  refine ⟨lp, lp, lp⟩
 case rd1 =>
  rintro j ρ1 σ1 hF1 ⟨h16, h7, hσ⟩; obtain rfl := hσ.symm
  have f1 := dX hF1
  (try simp [dW, F] at f1); replace F := aF h16 F; replace F := aF h7 F; (try replace F := aF f1 F); refine sr fun _ hJ9 => ?_; apply hJ9; refine sq fun K10 hK10 => ?_; refine cf ?_; refine bO ?_; apply hK5; refine sr fun _ hJ12 => ?_; apply hJ12; refine ra ?_; exact gcr

theorem FT {σ : St} {a : UInt8} {t : Nat} (ht : t < 2 ^ 64) : aB Tryz.prog 19 [.v (.pointer none), .v (.int .u8 a.toNat), .v (.int .u64 t)] σ (fun av σ' => av = .sl 5 [] 0 .shut ∧ σ = σ') := by
 refine aM ?_ rfl
 have hz : E5 [] a mG := ⟨rfl, yM, fun x h => by simp [jY] at h, fun _ => rfl⟩
 have hlk := fun τ => hz.lock (σ := τ) (t := t) (fun x h => absurd h (by simp)) ht
 have hl0 : pA [] a t = [] := rfl
 rw [hl0] at hlk
 have hg := fun τ => Cf (σ := τ) (a := a)
 have z1 : mG.length = 17 := rfl
 have z2 := yM
 simp only [AV.bA] at z2
 have z3 : List.take 17 mG = mG := rfl
 obtain ⟨Z, hZ⟩ : ∃ Z, Z = mG := ⟨_, rfl⟩
 simp only [← hZ] at hlk hg z1 z2 z3
 have F := And.intro z1 (And.intro z2 (And.intro z3 (True.intro)))
 refine aA Tryz.func19 rfl rfl rfl ?_; refine sr fun _ hJ2 => ?_; apply hJ2; refine sr fun _ hJ4 => ?_; refine ca (c := hg _) (k := ?_); rintro _ _ ⟨rfl, rfl⟩; (repeat first | simp [F] | simp (disch := omega) only [wC, if_pos, if_neg]); apply hJ4; refine sr fun _ hJ6 => ?_; refine ca (c := hlk _) (k := ?_); rintro _ _ ⟨rfl, rfl⟩; (repeat first | simp [F] | simp (disch := omega) only [wC, if_pos, if_neg]); apply hJ6; refine sr fun _ hJ8 => ?_; apply hJ8; refine sq fun K9 hK9 => ?_; refine sr fun _ hJ11 => ?_; refine ca (c := DZ) (k := ?_); rintro _ _ ⟨rfl, rfl⟩; (repeat first | simp [F] | simp (disch := omega) only [wC, if_pos, if_neg]); apply hJ11; refine aH ?_; refine cZ (X := Nat) [6, 7, 9, 27, 28] (fun j ρ σ1 => (ρ 29 = .v (.int .i64 0)) ∧ (ρ 10 = .sl 0 [] 0 .full) ∧ (σ1 = { σ with objs := σ.objs ++ [Z] })) (fun j => 0) (0) ?st1 ?rd1
 case st1 =>
  refine ⟨lp, lp, lp⟩
 case rd1 =>
  rintro j ρ1 σ1 hF1 ⟨h16, h7, hσ⟩; obtain rfl := hσ.symm
  have f1 := dX hF1
  (try simp [dW, F] at f1); replace F := aF h16 F; replace F := aF h7 F; (try replace F := aF f1 F); refine sr fun _ hJ13 => ?_; apply hJ13; refine sq fun K14 hK14 => ?_; refine cf ?_; refine bO ?_; apply hK9; refine sr fun _ hJ16 => ?_; apply hJ16; refine ra ?_; exact gcr

/- short ones -/
theorem r6 {σ : St} {v : Acc} (hv : v.Ok) : aB Tryz.prog 10 [.agg (dM v)] σ (fun av σ' => ∃ b : Bool, av = .v (.bool b) ∧ σ = σ') := by
 refine bV (kA (X := Bool) (A := fun b => .v (.bool b)) (τ := fun _ => σ) ?_ (fun _ => rfl) (fun _ => rfl) (fun _ => rfl) (fun _ => rfl) (fun _ => rfl) (fun _ _ _ h => .inl h) (fun _ _ r h => .inl ⟨r, h, rfl⟩)) (fun av σ' ⟨b, e1, e2⟩ => ⟨b, e1, e2.symm⟩)
 have hp := hv.2
 obtain ⟨Q, hQ⟩ : ∃ Q, Q = dM v := ⟨_, rfl⟩
 have hQl : Q.length = 17 := by rw [hQ]; rfl
 have hQt : List.take 17 Q = Q := by subst hQ; rfl
 obtain ⟨M, hM⟩ : ∃ M, M = iR v.p := ⟨_, rfl⟩
 have hQp : List.take 5 (List.drop 3 Q) = M := by rw [hQ, hM]; rfl
 have hMl : M.length = 5 := by rw [hM]; rfl
 have hMt : List.take 5 M = M := by subst hM; rfl
 have hM3 : ∀ h2 : 3 < M.length, M[3]'h2 = .sl 5 (aL v.p.tot) v.p.tot.length .shut := fun h2 => by subst hM; rfl
 have hM4 : ∀ h2 : 4 < M.length, M[4]'h2 = .sl 2 (eN v.p.ps) v.p.ps.length .shut := fun h2 => by subst hM; rfl
 have hMc : (∀ x, x ∈ M → x.bA = true) = True := eq_true (fun x hx => by subst hM; simp only [iR, List.mem_cons, List.not_mem_nil, or_false] at hx; rcases hx with rfl | rfl | rfl | rfl | rfl <;> rfl)
 simp only [AV.bA] at hMc
 obtain ⟨S, hS⟩ : ∃ S, S = v.p.ps := ⟨_, rfl⟩
 rw [← hS] at hM4
 have hSl : S.length ≤ 9223372036854775807 := by rw [hS]; exact hp.2.2.2.1
 have hSc : (eN S).length = S.length * 2 := F6 S
 have hSn := fun n => eY n S
 have hMo : ∀ nb, bG nb M = true := fun nb => by rw [hM]; simp [iR, bG, AV.eH, eY]
 have hQo : ∀ nb, bG nb Q = true := fun nb => by rw [hQ]; exact lB nb v
 rw [← hQ]
 have F := And.intro hQl (And.intro hQt (And.intro hQp (And.intro hMl (And.intro hMt (And.intro hM3 (And.intro hM4 (And.intro hMc (And.intro hSc (And.intro hSn (And.intro hMo (And.intro hQo (True.intro))))))))))))
 refine aA Tryz.func10 rfl rfl rfl ?_; refine sr fun _ hJ2 => ?_; apply hJ2; refine sr fun _ hJ4 => ?_; apply hJ4; refine sq fun K5 hK5 => ?_; refine sr fun _ hJ7 => ?_; refine gs 11 (fun g2_4 => ?_) (fun g2_4 => ?_)
 · (try exact aG g2_4); all_goals have g2_4p := g2_4; try simp [F] at g2_4p
   all_goals
    replace F := aF g2_4 F; (try replace F := aF g2_4p F); (iterate 4 refine no2 (k := ?_)); apply hJ7; refine ct ?_; refine sr fun _ hJ9 => ?_; apply hJ9; refine ra ?_; exact ⟨false, gcr⟩
 (try exact aG g2_4); all_goals have g2_4p := g2_4; try simp [F] at g2_4p
 all_goals
  replace F := aF g2_4 F; (try replace F := aF g2_4p F); (iterate 4 refine go2 (k := ?_)); apply hJ7; refine cs (fun c16 => ?_) (fun c16 => ?_)
  · (try exact aG c16); all_goals have c16p := c16; try simp [F] at c16p
    all_goals
     replace F := aF c16 F; (try replace F := aF c16p F); refine sr fun _ hJ11 => ?_; apply hJ11; refine ra ?_; exact ⟨false, gcr⟩
  (try exact aG c16); all_goals have c16p := c16; try simp [F] at c16p
  all_goals
   replace F := aF c16 F; (try replace F := aF c16p F); refine aD ?_; apply hK5; refine sq fun K12 hK12 => ?_; refine sr fun _ hJ14 => ?_; apply hJ14; refine aH ?_; refine cZ (X := Nat) [3] (fun i ρ σ1 => (i ≤ S.length) ∧ (ρ 4 = .v (.int .i64 i)) ∧ (σ1 = { σ with objs := σ.objs ++ [Q, M] })) (fun i => S.length - i) (0) ?st1 ?rd1
   case st1 =>
    refine ⟨lp, lp, lp⟩
   case rd1 =>
    rintro i ρ1 σ1 hF1 ⟨h1, h5, hσ⟩; obtain rfl := hσ.symm
    have f1 := dX hF1
    (try simp [dW, F] at f1); replace F := aF h5 F; (try replace F := aF f1 F); refine sq fun K15 hK15 => ?_; refine sr fun _ hJ17 => ?_; apply hJ17; refine cs (fun c21 => ?_) (fun c21 => ?_)
    · (try exact aG c21); all_goals have c21p := c21; try simp [F] at c21p
      all_goals
       replace F := aF c21 F; try replace F := aF c21p F
       have hlt : i < S.length := by have h := c21; simp at h; omega
       have hR := jN hlt
       obtain ⟨x, hx⟩ : ∃ x, x = S[i] := ⟨_, rfl⟩
       rw [← hx] at hR
       have f1 := qW (l := eN S) (i := i * 2) (j := 1) (x := .sl 5 (aL x.c) x.c.length .shut) (by rw [hR]; rfl)
       have d1 : i * 2 + 1 < S.length * 2 := by omega
       have d4 : i * 2 + 2 ≤ S.length * 2 := by omega
       have hi1 : i + 1 ≤ S.length := hlt
       have hwi : IntKind.i64.wrap ((i : Int) + 1) = (i : Int) + 1 := wrap_i64 _ (by omega) (by omega)
       replace F := aF hlt (And.intro f1 (And.intro d1 (And.intro d4 (And.intro hi1 (And.intro hwi F))))); refine aD ?_; apply hK15; refine sq fun K18 hK18 => ?_; refine aH ?_; refine sr fun _ hJ20 => ?_; apply hJ20; refine cs (fun c31 => ?_) (fun c31 => ?_)
       · (try exact aG c31); all_goals have c31p := c31; try simp [F] at c31p
         all_goals
          replace F := aF c31 F; (try replace F := aF c31p F); refine sr fun _ hJ22 => ?_; apply hJ22; refine ra ?_; exact ⟨false, gcr⟩
       (try exact aG c31); all_goals have c31p := c31; try simp [F] at c31p
       all_goals
        replace F := aF c31 F; (try replace F := aF c31p F); refine aD ?_; apply hK18; refine rg' (h := fun J23 hJ23 => ?_); apply hJ23; refine ⟨(i + 1), ⟨kp, lp, lp, lp⟩, lp⟩
    (try exact aG c21); all_goals have c21p := c21; try simp [F] at c21p
    all_goals
     replace F := aF c21 F; (try replace F := aF c21p F); refine bO ?_; apply hK12; refine sr fun _ hJ25 => ?_; apply hJ25; refine ra ?_; exact ⟨true, gcr⟩

theorem GQ {σ : St} {l : List AcA} (hl : l.length ≤ 9223372036854775807) (hb : ∀ a ∈ l, a.x.Ok) :
  aB Tryz.prog 27 [.sl 18 (AX l) l.length .shut] σ (fun av σ' => ∃ b : Bool, (b = true → l.length ≤ 20) ∧ av = .v (.bool b) ∧ σ = σ') := by
 have hlc := Cg l
 have hsm : ∀ a ∈ l, ∀ τ, aB Tryz.prog 10 [.agg (dM a.x)] τ (fun av σ' => ∃ b : Bool, av = .v (.bool b) ∧ τ = σ') := fun a ha τ => bV (r6 (hb a ha)) (fun av σ' ⟨b, e1, e2⟩ => ⟨b, e1, by rw [e2]⟩)
 have F := And.intro hlc (True.intro)
 refine aA Tryz.func27 rfl rfl rfl ?_; refine sr fun _ hJ2 => ?_; apply hJ2; refine sq fun K3 hK3 => ?_; refine sr fun _ hJ5 => ?_; apply hJ5; refine cs (fun c6 => ?_) (fun c6 => ?_)
 · (try exact aG c6); all_goals have c6p := c6; try simp [F] at c6p
   all_goals
    replace F := aF c6 F; (try replace F := aF c6p F); refine sr fun _ hJ7 => ?_; apply hJ7; refine ra ?_; exact ⟨false, by simp, by simp [F], rfl⟩
 (try exact aG c6); all_goals have c6p := c6; try simp [F] at c6p
 all_goals
  replace F := aF c6 F; try replace F := aF c6p F
  have h30 : l.length ≤ 20 := by have h := c6; simp at h; omega
  refine aD ?_; apply hK3; refine sq fun K8 hK8 => ?_; refine sr fun _ hJ10 => ?_; apply hJ10; refine aH ?_; refine cZ (X := Nat) [0] (fun i ρ σ1 => (i ≤ l.length) ∧ (ρ 3 = .v (.int .i64 i)) ∧ (σ1 = σ)) (fun i => l.length - i) (0) ?st1 ?rd1
  case st1 =>
   refine ⟨lp, lp, lp⟩
  case rd1 =>
   rintro i ρ1 σ1 hF1 ⟨h1, h5, hσ⟩; obtain rfl := hσ.symm
   have f1 := dX hF1
   (try simp [dW, F] at f1); replace F := aF h5 F; (try replace F := aF f1 F); refine sq fun K11 hK11 => ?_; refine sr fun _ hJ13 => ?_; apply hJ13; refine cs (fun c10 => ?_) (fun c10 => ?_)
   · (try exact aG c10); all_goals have c10p := c10; try simp [F] at c10p
     all_goals
      replace F := aF c10 F; try replace F := aF c10p F
      have hlt : i < l.length := by have h := c10; simp at h; omega
      obtain ⟨R, hR⟩ := EF hlt
      obtain ⟨a, ha⟩ : ∃ a, a = l[i] := ⟨_, rfl⟩
      rw [← ha] at hR
      have hs1 := hsm a (by rw [ha]; exact List.getElem_mem _)
      have e1 : List.take 17 (List.drop (i * 18 + 1) (AX l)) = dM a.x := by rw [← List.drop_drop, hR]; rfl
      have d1 : i * 18 + 1 < l.length * 18 := by omega
      have d2 : i * 18 + 1 + 17 ≤ l.length * 18 := by omega
      have d4 : i * 18 + 18 ≤ l.length * 18 := by omega
      have hi1 : i + 1 ≤ l.length := hlt
      have hwi : IntKind.i64.wrap ((i : Int) + 1) = (i : Int) + 1 := wrap_i64 _ (by omega) (by omega)
      obtain ⟨Q, hQ⟩ : ∃ Q, Q = dM a.x := ⟨_, rfl⟩
      rw [← hQ] at e1 hs1
      replace F := aF hlt (And.intro e1 (And.intro d1 (And.intro d2 (And.intro d4 (And.intro hi1 (And.intro hwi F)))))); refine aD ?_; apply hK11; refine sq fun K14 hK14 => ?_; refine aH ?_; refine sr fun _ hJ16 => ?_; refine ca (c := hs1 _) (k := ?_); rintro _ _ ⟨b, rfl, rfl⟩; (repeat first | simp [F] | simp (disch := omega) only [wC, if_pos, if_neg]); apply hJ16; refine cs (fun c19 => ?_) (fun c19 => ?_)
      · (try exact aG c19); all_goals have c19p := c19; try simp [F] at c19p
        all_goals
         replace F := aF c19 F; (try replace F := aF c19p F); refine sr fun _ hJ18 => ?_; apply hJ18; refine ra ?_; exact ⟨false, by simp, by simp [F], rfl⟩
      (try exact aG c19); all_goals have c19p := c19; try simp [F] at c19p
      all_goals
       replace F := aF c19 F; (try replace F := aF c19p F); refine aD ?_; apply hK14; refine rg' (h := fun J19 hJ19 => ?_); apply hJ19; refine ⟨(i + 1), ⟨kp, lp, lp, lp⟩, lp⟩
   (try exact aG c10); all_goals have c10p := c10; try simp [F] at c10p
   all_goals
    replace F := aF c10 F; (try replace F := aF c10p F); refine bO ?_; apply hK8; refine sr fun _ hJ21 => ?_; apply hJ21; refine ra ?_; exact ⟨true, fun _ => h30, by simp [F], rfl⟩

theorem IF (b : UInt8) (m : Nat) (hm : (m : Int) ≠ 0) (xo yo : Operand) : gW Tryz.prog .rem 5 xo yo (.v (.int .u8 (b.toNat : Nat))) (.v (.int .u8 m)) = some (.v (.int .u8 ((b.toNat % m : Nat) : Int))) := by rw [bU (h := hm)]; rfl

theorem FP {σ : St} {o k m n : Nat} {G : Sg} {L : List Acc} {fr : Fr} {a : AcA} (h : fS σ o k G) (hm : σ.objs[m]? = some (aC fr L)) (hom : o ≠ m) (hi : dH Ru G.s L n) (hn : n ≤ 900) (ha : a.x.Ok) :
  aB Tryz.prog 28 [.ptr o 0, .ptr m 0, .agg (aaC a)] σ (fun av σ' => ∃ G' L', dH Ru G'.s L' (n + 1) ∧ av = .v (.bool true) ∧ σ' = jZ fr (dU σ o k G') m L') := by
 refine bV (kA (X := { x : Sg × List Acc // dH Ru x.1.s x.2 (n + 1) }) (A := fun _ => .v (.bool true)) (τ := fun x => jZ fr (dU σ o k x.1.1) m x.1.2) ?_ (fun _ => rfl) (fun x => by simp [jZ, dU]) (fun x => rfl) (fun x => by simp [jZ, dU]) (fun x => rfl) (fun x => Dy (uI h _) (CZ _ _)) (fun x => uU (o := o) (k := k) (σ := σ) _)) (fun av σ' ⟨x, e1, e2⟩ => ⟨x.1.1, x.1.2, x.2, e1, e2⟩)
 have hwl := cR hm
 have hnd := hi.nl
 obtain ⟨A, hA⟩ : ∃ A, A = aaC a := ⟨_, rfl⟩
 have hAl : A.length = 18 := by rw [hA]; rfl
 have hAt : List.take 18 A = A := List.take_of_length_le (Nat.le_of_eq hAl)
 have hA0 : ∀ h2 : 0 < A.length, A[0]'h2 = .v (.int .u8 (a.m.toNat : Nat)) := fun _ => by subst hA; rfl
 have hA1 : ∀ h2 : 1 < A.length, A[1]'h2 = .v (.int .u8 (a.x.a.toNat : Nat)) := fun _ => by subst hA; rfl
 obtain ⟨Q, hQ⟩ : ∃ Q, Q = dM a.x := ⟨_, rfl⟩
 have hAQ : List.take 17 A.tail = Q := by rw [hA, hQ]; rfl
 have hAQ2 : List.take 17 (List.drop 1 A) = Q := by rw [hA, hQ]; rfl
 have hr3 : ∀ xo yo, gW Tryz.prog .rem 5 xo yo (.v (.int .u8 (a.m.toNat : Nat))) (.v (.int .u8 3)) = some (.v (.int .u8 ((a.m.toNat % 3 : Nat) : Int))) := fun xo yo => IF a.m 3 (by decide) xo yo
 obtain ⟨r, hr9⟩ : ∃ r, r = a.m.toNat % 3 := ⟨_, rfl⟩
 simp only [← hr9] at hr3
 have hpa := fun (G' : Sg) => pS h G' [A]
 have hS : fS { σ with objs := σ.objs ++ [A] } o k G := h.app [A] σ.toks
 have gw : ∀ G', (dU { σ with objs := σ.objs ++ [A] } o k G').objs[m]? = some (aC fr L) := fun G' => by simp only [dU]; rw [List.getElem?_set_ne hom, List.getElem?_append_left hwl]; exact hm
 have gA : ∀ G', (dU { σ with objs := σ.objs ++ [A] } o k G').objs[σ.objs.length]? = some A := fun G' => by rw [hpa]; simp [dU]
 have gB : ∀ G' W', (jZ fr (dU { σ with objs := σ.objs ++ [A] } o k G') m W').objs[σ.objs.length]? = some A := fun G' W' => by simp only [jZ]; rw [List.getElem?_set_ne (by omega)]; exact gA G'
 have hfin : ∀ G' W', jZ fr (dU { σ with objs := σ.objs ++ [A] } o k G') m W' = { jZ fr (dU σ o k G') m W' with objs := (jZ fr (dU σ o k G') m W').objs ++ [A] } := fun G' W' => by
  rw [hpa]; simp only [jZ]; rw [List.set_append_left _ _ (by simpa [dU] using hwl)]
 have d1 := Ba (v := a.x) hS hi (by omega) ha
 have d2 := ER (v := a.x) hS hi (by omega) ha
 have d3 := I9 (a := a.x.a) hS hi (by omega)
 have w1 := fun G' => zN (v := a.x) (gw G') (by omega) ha
 have w2 := fun G' => FO (v := a.x) (gw G') hi.srt (by omega) ha
 have w3 := fun G' => Fk (a := a.x.a) (gw G') (by omega)
 obtain ⟨P1, hP1⟩ : ∃ P, P = nK L a.x := ⟨_, rfl⟩
 obtain ⟨P2, hP2⟩ : ∃ P, P = mV L a.x := ⟨_, rfl⟩
 obtain ⟨P3, hP3⟩ : ∃ P, P = C4 L a.x.a := ⟨_, rfl⟩
 simp only [← hP1, ← hQ] at d1 w1
 simp only [← hP2, ← hQ] at d2 w2
 simp only [← hP3] at d3 w3
 rw [← hA]
 have F := And.intro hAl (And.intro hAt (And.intro hA0 (And.intro hA1 (And.intro hAQ (And.intro hAQ2 (And.intro hr3 (And.intro gA (And.intro gB (True.intro)))))))))
 refine aA Tryz.func28 rfl rfl rfl ?_; refine sr fun _ hJ2 => ?_; apply hJ2; refine sq fun K3 hK3 => ?_; refine sr fun _ hJ5 => ?_; apply hJ5; refine aH ?_; refine sr fun _ hJ7 => ?_; apply hJ7; refine cs (fun c10 => ?_) (fun c10 => ?_)
 · (try exact aG c10); all_goals have c10p := c10; try simp [F] at c10p
   all_goals
    replace F := aF c10 F; (try replace F := aF c10p F); refine sq fun K8 hK8 => ?_
    refine bQ (by kernel_rfl) fun J9 hJ9 => ?_
    refine q2 0 ?_; refine q2 1 ?_; refine q2 2 ?_; refine q2 4 ?_; refine q2 5 ?_; refine q2 6 ?_; refine dc 3 rfl (c := d1) (k := ?_); rintro _ _ ⟨G1, e1, rfl, rfl⟩
    refine ⟨by first | exact fun _ _ h => h | (refine aI [6, 5, 4, 1] (by kernel_rfl) ?_; (repeat' first | exact ln2 | refine lc ?_ ?_) <;> constructor <;> first | rfl | (simp [F]; done)), ?_⟩
    (repeat first | simp [F] | simp (disch := omega) only [wC, if_pos, if_neg]); refine dc 7 rfl (c := w1 G1) (k := ?_); rintro _ _ ⟨rfl, rfl⟩
    refine ⟨by first | exact fun _ _ h => h | (refine aI [5, 1] (by kernel_rfl) ?_; (repeat' first | exact ln2 | refine lc ?_ ?_) <;> constructor <;> first | rfl | (simp [F]; done)), ?_⟩
    (repeat first | simp [F] | simp (disch := omega) only [wC, if_pos, if_neg]); refine q2 8 ?_; refine q2 9 ?_; refine dd ?_; apply hJ9; apply hK8; refine ra ?_; refine ⟨⟨(G1, _), e1⟩, ?_⟩
    rw [hfin]
    exact gcr
 (try exact aG c10); all_goals have c10p := c10; try simp [F] at c10p
 all_goals
  replace F := aF c10 F; (try replace F := aF c10p F); refine sr fun _ hJ11 => ?_; apply hJ11; refine cs (fun c21 => ?_) (fun c21 => ?_)
  · (try exact aG c21); all_goals have c21p := c21; try simp [F] at c21p
    all_goals
     replace F := aF c21 F; (try replace F := aF c21p F); refine sq fun K12 hK12 => ?_
     refine bQ (by kernel_rfl) fun J13 hJ13 => ?_
     refine q2 0 ?_; refine q2 1 ?_; refine q2 2 ?_; refine q2 4 ?_; refine q2 5 ?_; refine q2 6 ?_; refine dc 3 rfl (c := d2) (k := ?_); rintro _ _ ⟨G1, e1, rfl, rfl⟩
     refine ⟨by first | exact fun _ _ h => h | (refine aI [6, 5, 4, 1] (by kernel_rfl) ?_; (repeat' first | exact ln2 | refine lc ?_ ?_) <;> constructor <;> first | rfl | (simp [F]; done)), ?_⟩
     (repeat first | simp [F] | simp (disch := omega) only [wC, if_pos, if_neg]); refine dc 7 rfl (c := w2 G1) (k := ?_); rintro _ _ ⟨rfl, rfl⟩
     refine ⟨by first | exact fun _ _ h => h | (refine aI [5, 1] (by kernel_rfl) ?_; (repeat' first | exact ln2 | refine lc ?_ ?_) <;> constructor <;> first | rfl | (simp [F]; done)), ?_⟩
     (repeat first | simp [F] | simp (disch := omega) only [wC, if_pos, if_neg]); refine q2 8 ?_; refine q2 9 ?_; refine dd ?_; apply hJ13; apply hK12; refine ra ?_; refine ⟨⟨(G1, _), e1⟩, ?_⟩
     rw [hfin]
     exact gcr
  (try exact aG c21); all_goals have c21p := c21; try simp [F] at c21p
  all_goals
   replace F := aF c21 F; (try replace F := aF c21p F); refine aD ?_; apply hK3; refine sq fun K14 hK14 => ?_
   refine bQ (by kernel_rfl) fun J15 hJ15 => ?_
   refine q2 0 ?_; refine q2 1 ?_; refine q2 2 ?_; refine q2 3 ?_; refine q2 5 ?_; refine q2 6 ?_; refine q2 7 ?_; refine q2 8 ?_; refine dc 4 rfl (c := d3) (k := ?_); rintro _ _ ⟨G1, e1, rfl, rfl⟩
   refine ⟨by first | exact fun _ _ h => h | (refine aI [8, 7, 6, 5, 2, 1] (by kernel_rfl) ?_; (repeat' first | exact ln2 | refine lc ?_ ?_) <;> constructor <;> first | rfl | (simp [F]; done)), ?_⟩
   (repeat first | simp [F] | simp (disch := omega) only [wC, if_pos, if_neg]); refine dc 9 rfl (c := w3 G1) (k := ?_); rintro _ _ ⟨rfl, rfl⟩
   refine ⟨by first | exact fun _ _ h => h | (refine aI [7, 6, 2, 1] (by kernel_rfl) ?_; (repeat' first | exact ln2 | refine lc ?_ ?_) <;> constructor <;> first | rfl | (simp [F]; done)), ?_⟩
   (repeat first | simp [F] | simp (disch := omega) only [wC, if_pos, if_neg]); refine q2 10 ?_; refine q2 11 ?_; refine dd ?_; apply hJ15; apply hK14; refine ra ?_; refine ⟨⟨(G1, _), e1⟩, ?_⟩
   rw [hfin]
   exact gcr

attribute [local simp] mT in
theorem FW {σ : St} {o k m n : Nat} {G : Sg} {V : List Acc} {fr : Fr} (h : fS σ o k G) (hm : σ.objs[m]? = some (aC fr V)) (hi : dH Ru G.s V n) (hn : n ≤ 1000) :
  aB Tryz.prog 29 [.ptr o 0, .ptr m 0] σ (fun av σ' => av = .v (.bool true) ∧ σ = σ') := by
 refine aM ?_ rfl
 have hvs := HH h hi hn
 have hol := cR h.o
 have hml := cR hm
 have hlv : V.length ≤ 1000 := Nat.le_trans hi.nl hn
 have hva : ∀ (j : Nat) (hj : j < V.length), aB Tryz.prog 23 [.ptr o 0, .v (.int .u8 V[j].a.toNat)] σ (fun av σ' => av = .tup [.agg (dM V[j]), .v (.bool true)] ∧ σ = σ') := fun j hj => by
  have hmm := List.getElem_mem hj
  exact pQ h hi.ok (by omega) (hi.Fl hmm) (hi.rt _ hmm).1.2.2.2.1 (hi.rt _ hmm).2.1 (hi.yes hmm)
 have hvk : ∀ v ∈ V, v.Ok := fun v hv => (hi.rt v hv).2
 simp only [aC, aX] at hm
 have hm1 : ∀ l, (σ.objs ++ l)[m]? = some _ := fun l => by rw [List.getElem?_append_left hml]; exact hm
 have hge : ∀ h2 : m < σ.objs.length, σ.objs[m]'h2 = _ := fun h2 => (List.getElem?_eq_some_iff.1 hm).2
 have hml1 : m < σ.objs.length + 1 := by omega
 have hVc := oC V
 have F := And.intro hm (And.intro hm1 (And.intro hge (And.intro hol (And.intro hml (And.intro hml1 (And.intro hVc (True.intro)))))))
 refine aA Tryz.func29 rfl rfl rfl ?_; refine sr fun _ hJ2 => ?_; apply hJ2; refine sr fun _ hJ4 => ?_; refine ca (c := hvs) (k := ?_); rintro _ _ ⟨rfl, rfl⟩; (repeat first | simp [F] | simp (disch := omega) only [wC, if_pos, if_neg]); apply hJ4; refine sq fun K5 hK5 => ?_; refine sr fun _ hJ7 => ?_; apply hJ7; refine cf ?_; refine aD ?_; apply hK5; refine sq fun K8 hK8 => ?_; refine sr fun _ hJ10 => ?_; apply hJ10; refine aH ?_; refine eO (X := Nat) [0, 1, 5] (fun i ρ σ1 => (i ≤ V.length) ∧ (ρ 6 = .v (.int .i64 i)) ∧ (σ1 = σ)) (fun i => V.length - i) (0) ?st1 ?rd1
 case st1 =>
  refine ⟨lp, lp, lp⟩
 case rd1 =>
  rintro i ρ1 σ1 hF1 ⟨h1, h5, hσ⟩; obtain rfl := hσ.symm
  have f1 := dX hF1
  (try simp [dW, F] at f1); replace F := aF h5 F; (try replace F := aF f1 F); refine sq fun K11 hK11 => ?_; refine sr fun _ hJ13 => ?_; apply hJ13; refine cs (fun c22 => ?_) (fun c22 => ?_)
  · (try exact aG c22); all_goals have c22p := c22; try simp [F] at c22p
    all_goals
     replace F := aF c22 F; try replace F := aF c22p F
     have hlt : i < V.length := by have h := c22; simp at h; omega
     obtain ⟨R, hR⟩ := xP hlt
     obtain ⟨v, hv⟩ : ∃ v, v = V[i] := ⟨_, rfl⟩
     rw [← hv] at hR
     have hR3 : List.take 17 (List.drop (i * 17) (eR V)) = dM v := by rw [hR]; rfl
     have f0 : ∀ h2 : i * 17 < (eR V).length, (eR V)[i * 17]'h2 = .v (.int .u8 (v.a.toNat : Nat)) := fun h2 => by have := qW (l := eR V) (i := i * 17) (j := 0) (x := .v (.int .u8 (v.a.toNat : Nat))) (by rw [hR]; rfl); exact this h2
     have hv1 := hva i hlt
     rw [← hv] at hv1
     have hs1 := fun τ => wT (σ := τ) (hvk v (by rw [hv]; exact List.getElem_mem _))
     have d0 : i * 17 < V.length * 17 := by omega
     have d3 : i * 17 + 17 ≤ V.length * 17 := by omega
     have hi1 : i + 1 ≤ V.length := hlt
     have hwi : IntKind.i64.wrap ((i : Int) + 1) = (i : Int) + 1 := wrap_i64 _ (by omega) (by omega)
     have hec : (dM v).length = 17 := rfl
     have hcl : (∀ x, x ∈ dM v → x.bA = true) = True := eq_true (sK _)
     have hyo : ∀ nb, bG nb (dM v) = true := fun nb => lB nb _
     have hyt : List.take 17 (dM v) = dM v := rfl
     obtain ⟨Q, hQ⟩ : ∃ Q, Q = dM v := ⟨_, rfl⟩
     rw [← hQ] at hR3 hec hcl hyt hv1
     simp only [← hQ] at hs1 hyo
     simp only [AV.bA] at hcl
     replace F := aF hlt (And.intro hR3 (And.intro f0 (And.intro d0 (And.intro d3 (And.intro hi1 (And.intro hwi (And.intro hec (And.intro hcl (And.intro hyo (And.intro hyt F)))))))))); refine aD ?_; apply hK11; refine sq fun K14 hK14 => ?_; refine aH ?_; refine sr fun _ hJ16 => ?_; refine ca (c := hv1) (k := ?_); rintro _ _ ⟨rfl, rfl⟩; (repeat first | simp [F] | simp (disch := omega) only [wC, if_pos, if_neg]); apply hJ16; refine sq fun K17 hK17 => ?_
     refine bQ (by kernel_rfl) fun J18 hJ18 => ?_
     refine q2 0 ?_; refine q2 1 ?_; refine q2 2 ?_; refine q2 3 ?_; refine q2 4 ?_; refine q2 5 ?_; refine q2 6 ?_; refine q2 7 ?_; refine q2 8 ?_; refine q2 9 ?_; refine q2 10 ?_; refine q2 11 ?_; refine q2 12 ?_; refine q2 13 ?_; refine dc 14 rfl (c := hs1 _) (k := ?_); rintro _ _ ⟨rfl, rfl⟩
     refine ⟨by first | exact fun _ _ h => h | (refine aI [12, 11, 10, 9, 8, 7, 5, 4, 3, 1, 0] (by kernel_rfl) ?_; (repeat' first | exact ln2 | refine lc ?_ ?_) <;> constructor <;> first | rfl | (simp [F]; done)), ?_⟩
     (repeat first | simp [F] | simp (disch := omega) only [wC, if_pos, if_neg]); refine q2 15 ?_; refine q2 16 ?_; refine q2 17 ?_; refine q2 18 ?_; refine q2 19 ?_; refine q2 20 ?_; refine q2 21 ?_; refine q2 22 ?_; refine q2 23 ?_; refine q2 24 ?_; refine q2 25 ?_; refine dc 26 rfl (c := hs1 _) (k := ?_); rintro _ _ ⟨rfl, rfl⟩
     refine ⟨by first | exact fun _ _ h => h | (refine aI [24, 23, 22, 21, 20, 19, 16, 15, 12, 11, 10, 9, 8, 7, 5, 4, 3, 1, 0] (by kernel_rfl) ?_; (repeat' first | exact ln2 | refine lc ?_ ?_) <;> constructor <;> first | rfl | (simp [F]; done)), ?_⟩
     (repeat first | simp [F] | simp (disch := omega) only [wC, if_pos, if_neg]); refine q2 27 ?_; refine q2 28 ?_; refine dd ?_; apply hJ18; apply hK17; refine cf ?_; refine aD ?_; apply hK14; refine rg' (h := fun J19 hJ19 => ?_); apply hJ19; refine ⟨gk, (i + 1), ⟨kpG, lpG, lpG, lpG⟩, lpG⟩
  (try exact aG c22); all_goals have c22p := c22; try simp [F] at c22p
  all_goals
   replace F := aF c22 F; (try replace F := aF c22p F); refine bO ?_; apply hK8; refine sr fun _ hJ21 => ?_; apply hJ21; refine ra ?_; exact gcr

end Go.Proofs.YtjpnjhlfieklfaaGreat
