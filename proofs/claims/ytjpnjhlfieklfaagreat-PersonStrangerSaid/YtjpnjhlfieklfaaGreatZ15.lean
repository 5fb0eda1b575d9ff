import Derived.Test.YtjpnjhlfieklfaaGreatZ7
import Derived.Test.YtjpnjhlfieklfaaGreatZ10
import Derived.Test.YtjpnjhlfieklfaaGreatZ14
import Derived.Test.YtjpnjhlfieklfaaGreatZ12
/-
  Bytes: alike, compared, begun with.
-/
namespace Go.Proofs.YtjpnjhlfieklfaaGreat
set_option maxHeartbeats 1600000
set_option linter.unnecessarySimpa false
set_option maxRecDepth 100000
set_option linter.unusedSimpArgs false
set_option linter.unusedVariables false
open Go Go.Vm
attribute [local simp] dK aJ dJ opA bD bH cJ bP ofValue dC plain aR aS bY b6 cA cC b7 cE b8 b9 cX cB cH cG cD bU aV aU bL cS aW dN dP bI bC cN gI bR dD bW AV.cells AV.bA dE cI e6 bF aY cQ dI dS dY cL aO dR dQ cW cU cM List.getElem?_cons_zero List.getElem?_cons_succ cV

theorem CI {P : Program} {s d : TypeId} {p : List UInt8} {n : Nat} {t : eK} : wR P s d (.sl 1 (aQ p) n t) = (match fT P s, rS P d with
  | some e, true => if Jg P e then some (.v (.string ⟨p.toArray⟩)) else none
  | _, _ => none) := by
 simp only [wR, rO]
 cases fT P s with
 | none => rfl
 | some e => cases rS P d <;> simp

attribute [local simp] CI AW Ge in
theorem CV {σ : St} {p q : List UInt8} {m n : Nat} {t1 t2 : eK} : aB Tryz.prog 119 [.sl 1 (aQ p) m t1, .sl 1 (aQ q) n t2] σ (fun av σ' => av = .v (.bool (decide (p = q))) ∧ σ = σ') := by
 have he : (p == q) = decide (p = q) := by rw [Bool.eq_iff_iff]; simp
 have F := And.intro he (True.intro)
 refine aA Tryz.func119 rfl rfl rfl ?_; refine sr fun _ hJ2 => ?_; apply hJ2; refine sr fun _ hJ4 => ?_; apply hJ4; refine ra ?_; exact rt

theorem Dr {σ : St} {p q : List UInt8} {t1 t2 : eK} : aB Tryz.prog 118 [.sl 1 (aQ p) p.length t1, .sl 1 (aQ q) q.length t2] σ (fun av σ' => av = .v (.int .i64 (sZ p q)) ∧ σ = σ') := by
 have F := True.intro
 refine aA Tryz.func118 rfl rfl rfl ?_; refine sr fun _ hJ2 => ?_; apply hJ2; refine sr fun _ hJ4 => ?_
 refine ce (c := B8 Tryz.func136 (by kernel_rfl) (by kernel_rfl) (by kernel_rfl) (by kernel_rfl)) (k := ?_)
 rintro _ _ rfl rfl; (repeat first | simp [F] | simp (disch := omega) only [wC, if_pos, if_neg]); apply hJ4; refine ra ?_; exact rt

def preB (p q : List UInt8) : Bool := decide (q.length ≤ p.length) && decide (p.take q.length = q)

attribute [local simp] preB in
theorem Fi {σ : St} {p q : List UInt8} {t1 t2 : eK} : aB Tryz.prog 92 [.sl 1 (aQ p) p.length t1, .sl 1 (aQ q) q.length t2] σ (fun av σ' => av = .v (.bool (preB p q)) ∧ σ = σ') := by
 have ht := vD p q.length
 have F := And.intro ht (True.intro)
 refine aA Tryz.func92 rfl rfl rfl ?_; refine sr fun _ hJ2 => ?_; apply hJ2; refine sr fun _ hJ4 => ?_; refine gs 10 (fun g1_5 => ?_) (fun g1_5 => ?_)
 · (try exact aG g1_5); all_goals have g1_5p := g1_5; try simp [F] at g1_5p
   all_goals
    replace F := aF g1_5 F; (try replace F := aF g1_5p F); (iterate 5 refine go2 (k := ?_)); refine ca (c := CV (p := p.take q.length) (q := q)) (k := ?_); rintro _ _ ⟨rfl, rfl⟩; (repeat first | simp [F] | simp (disch := omega) only [wC, if_pos, if_neg]); apply hJ4; refine ra ?_; exact rt
 (try exact aG g1_5); all_goals have g1_5p := g1_5; try simp [F] at g1_5p
 all_goals
  replace F := aF g1_5 F; (try replace F := aF g1_5p F); (iterate 6 refine no2 (k := ?_)); apply hJ4; refine ra ?_; exact rt

theorem Fm {σ : St} {n fid : Nat} {caps : List AV} (pred : Nat → Bool) (hn : n ≤ 4000000000000000000) (hcb : eB Tryz.prog fid = true)
  (hf : ∀ i : Nat, i < n → aB Tryz.prog fid (.v (.int .i64 i) :: caps) σ (fun av σ' => av = .v (.bool (pred i)) ∧ σ = σ')) :
  aB Tryz.prog 116 [.v (.int .i64 n), .fn fid caps] σ (fun av σ' => (∃ r : Nat, av = .v (.int .i64 r) ∧ r ≤ n ∧ (0 < r → pred (r - 1) = false) ∧ (r < n → pred r = true)) ∧ σ = σ') := by
 have F := True.intro
 refine aA Tryz.func116 rfl rfl rfl ?_; refine sr fun _ hJ2 => ?_; apply hJ2; refine sr fun _ hJ4 => ?_; apply hJ4; refine sq fun K5 hK5 => ?_; refine aH ?_; refine cZ (X := Nat × Nat) [1, 4] (fun q ρ σ1 => (q.1 ≤ q.2) ∧ (q.2 ≤ n) ∧ (0 < q.1 → pred (q.1 - 1) = false) ∧ (q.2 < n → pred q.2 = true) ∧ (ρ 5 = .v (.int .i64 q.1)) ∧ (ρ 6 = .v (.int .i64 q.2)) ∧ (σ1 = σ)) (fun q => q.2 - q.1) ((0, n)) ?st1 ?rd1
 case st1 =>
  refine ⟨lp, lp, ?_, ?_, lp, lp, lp⟩
  · intro h
    simp at h
  · intro h
    simp at h
 case rd1 =>
  rintro q ρ1 σ1 hF1 ⟨h1, h2, h3, h4, h5, h6, hσ⟩; obtain rfl := hσ.symm
  have f1 := dX hF1
  (try simp [dW, F] at f1); replace F := aF h5 F; replace F := aF h6 F; (try replace F := aF f1 F); refine sq fun K6 hK6 => ?_; refine sr fun _ hJ8 => ?_; apply hJ8; refine cs (fun c11 => ?_) (fun c11 => ?_)
  · (try exact aG c11); all_goals have c11p := c11; try simp [F] at c11p
    all_goals
     replace F := aF c11 F; (try replace F := aF c11p F); refine aD ?_; apply hK6; refine aH ?_; refine sq fun K9 hK9 => ?_
     have hlt : q.1 < q.2 := by simp at c11; omega
     obtain ⟨i, j⟩ := q
     simp only at *
     obtain ⟨h, hh⟩ : ∃ h, h = (i + j) / 2 := ⟨_, rfl⟩
     have hw1 : IntKind.i64.wrap ((i : Int) + (j : Int)) = ((i + j : Nat) : Int) := wrap_i64 _ (by omega) (by omega)
     have hw2 : IntKind.u64.wrap ((i : Int) + (j : Int)) = ((i + j : Nat) : Int) := by rw [show (i : Int) + (j : Int) = ((i + j : Nat) : Int) by simp, wrap_u64, Nat.mod_eq_of_lt (by omega)]
     have hw3 : IntKind.i64.wrap (((i : Int) + (j : Int)).fdiv 2) = (h : Int) := by rw [Int.fdiv_eq_ediv_of_nonneg _ (by omega), wrap_i64 _ (by omega) (by omega)]; omega
     have hhj : h < j := by omega
     have hih : i ≤ h := by omega
     have hw4 : IntKind.i64.wrap ((h : Int) + 1) = ((h + 1 : Nat) : Int) := wrap_i64 _ (by omega) (by omega)
     replace F := aF hw1 F; replace F := aF hw2 F; replace F := aF hw3 F; replace F := aF hw4 F; refine rg' (h := fun J10 hJ10 => ?_); apply hJ10; apply hK9; refine sr fun _ hJ12 => ?_
     refine ca (c := hf h (by omega)) (k := ?_)
     rintro _ _ ⟨rfl, rfl⟩; (repeat first | simp [F] | simp (disch := omega) only [wC, if_pos, if_neg]); apply hJ12; refine cs (fun c21 => ?_) (fun c21 => ?_)
     · (try exact aG c21); all_goals have c21p := c21; try simp [F] at c21p
       all_goals
        replace F := aF c21 F; (try replace F := aF c21p F); refine rg' (h := fun J13 hJ13 => ?_); apply hJ13; refine ⟨((h + 1, j)), ⟨kp, lp, lp, ?_, lp, lp, lp, lp⟩, ?_⟩
        · intro _
          simp at c21
          simpa using c21
        · simp
          omega
     (try exact aG c21); all_goals have c21p := c21; try simp [F] at c21p
     all_goals
      replace F := aF c21 F; (try replace F := aF c21p F); refine rg' (h := fun J14 hJ14 => ?_); apply hJ14; refine ⟨((i, h)), ⟨kp, lp, lp, lp, ?_, lp, lp, lp⟩, ?_⟩
      · intro _
        simp at c21
        simpa using c21
      · simp
        omega
  (try exact aG c11); all_goals have c11p := c11; try simp [F] at c11p
  all_goals
   replace F := aF c11 F; (try replace F := aF c11p F); refine bO ?_; apply hK5; refine sr fun _ hJ16 => ?_; apply hJ16; refine ra ?_
   refine ⟨⟨q.1, ?_, by omega, h3, fun h => ?_⟩, rfl⟩
   · simp [F]
   · have : q.1 = q.2 := by simp at c11; omega
     rw [this] at h ⊢; exact h4 h

theorem JC (a b : List UInt8) : decide (0 ≤ sZ a b) = !ltB a b := by
 unfold sZ
 split
 · rename_i e; subst e; simp [qX]
 · cases ltB a b <;> simp
theorem jP (l : List Pr) : (iL l).length = l.length * 2 := by
 induction l with
 | nil => rfl
 | cons p l ih => simp only [iL, List.flatMap_cons, List.length_append, prC, List.length_cons, List.length_nil] at ih ⊢; omega
theorem tP : ∀ {l : List Pr} {i : Nat} (h : i < l.length), (iL l)[i * 2]? = some (byC l[i].k) ∧ (iL l)[i * 2 + 1]? = some (byC l[i].v)
 | p :: l, 0, h => ⟨rfl, rfl⟩
 | p :: l, i + 1, h => by
   have := tP (l := l) (i := i) (by simpa using h)
   have e1 : (i + 1) * 2 = i * 2 + 2 := by omega
   rw [e1]
   exact this

theorem Hv {σ : St} {b1 b2 o k i : Nat} {G : Sg} {key : List UInt8} {t : eK} (h1 : σ.objs[b1]? = some [.ptr o 0]) (h2 : σ.objs[b2]? = some [.sl 1 (aQ key) key.length t]) (h : fS σ o k G) (hi : i < G.s.l.length) :
  aB Tryz.prog 117 [.v (.int .i64 i), .ptr b1 0, .ptr b2 0] σ (fun av σ' => av = .v (.bool (!ltB (G.s.l[i]).k key)) ∧ σ = σ') := by
 obtain ⟨ho, hr1, hr2, hr3⟩ := h
 obtain ⟨⟨l, log, marks⟩, g1, g2, g3⟩ := G
 simp only [stC, pF, oI, oD] at ho hr1 hr2 hr3 hi ⊢
 have hat := (tP hi).1
 have hc := JC l[i].k key
 have F := And.intro ho (And.intro hr1 (And.intro h1 (And.intro h2 (And.intro hi (And.intro hat (And.intro hc (True.intro)))))))
 refine aA Tryz.func117 rfl rfl rfl ?_; refine sr fun _ hJ2 => ?_; apply hJ2; refine sq fun K3 hK3 => ?_
 refine bQ (by kernel_rfl) fun J4 hJ4 => ?_
 refine q2 0 ?_; refine q2 1 ?_; refine q2 2 ?_; refine q2 3 ?_; refine q2 4 ?_; refine q2 5 ?_; refine q2 6 ?_; refine q2 7 ?_; refine q2 8 ?_; refine dc 9 rfl (c := Dr) (k := ?_); rintro _ _ ⟨rfl, rfl⟩
 refine ⟨by first | exact fun _ _ h => h | (refine aI [6, 5, 4, 3, 2, 1, 0] (by kernel_rfl) ?_; (repeat' first | exact ln2 | refine lc ?_ ?_) <;> constructor <;> first | rfl | (simp [F]; done)), ?_⟩
 (repeat first | simp [F] | simp (disch := omega) only [wC, if_pos, if_neg]); refine q2 10 ?_; refine q2 11 ?_; refine dd ?_; apply hJ4; apply hK3; refine ra ?_; exact rt

def zZ (l : List Pr) (key : List UInt8) (i : Nat) : Bool := match l[i]? with
 | some p => !ltB p.k key
 | none => true
theorem Dc {l : List Pr} {key : List UInt8} {r : Nat} (hs : Srt l) (hr : r ≤ l.length) (h1 : 0 < r → zZ l key (r - 1) = false) (h2 : r < l.length → zZ l key r = true) : r = fF l key :=
 B2 hs hr (fun h => by
  have := h1 h
  unfold zZ at this
  split at this
  · rename_i p hp; exact ⟨p, hp, by simpa using this⟩
  · cases this) (fun p hp => by
  have := h2 (List.getElem?_eq_some_iff.1 hp).1
  unfold zZ at this
  rw [hp] at this
  simpa using this)
theorem I3 {l : List Pr} {key : List UInt8} (hs : Srt l) : BU l key = match l[fF l key]? with | some p => decide (p.k = key) | none => false := by
 unfold BU
 rw [uJ hs]
 cases h : l[fF l key]? with
 | none => rfl
 | some p => simp only; split <;> simp_all

attribute [local simp] byC in
theorem AY {σ : St} {o k : Nat} {G : Sg} {key : List UInt8} {t : eK} (h : fS σ o k G) (hs : Srt G.s.l) (hl : G.s.l.length ≤ 4000000000000000000) :
  aB Tryz.prog 84 [.ptr o 0, .sl 1 (aQ key) key.length t] σ (fun av σ' => av = .tup [.v (.int .i64 (fF G.s.l key)), .v (.bool (BU G.s.l key))] ∧ σ = σ') := by
 refine aM ?_ rfl
 have hlt := cR h.o
 have h' : fS { σ with objs := σ.objs ++ [[.ptr o 0], [.sl 1 (aQ key) key.length t]] } o k G := ⟨by simp only; rw [List.getElem?_append_left hlt]; exact h.o, h.r1, h.r2, h.r3⟩
 have hse := Fm (σ := { σ with objs := σ.objs ++ [[.ptr o 0], [.sl 1 (aQ key) key.length t]] }) (caps := [.ptr σ.objs.length 0, .ptr (σ.objs.length + 1) 0]) (fid := 117) (zZ G.s.l key) hl (by simp) (fun i hi => bV (Hv (key := key) (t := t) (by simp) (by simp) h' hi) (fun av σ' hq => by
  refine ⟨hq.1.trans ?_, hq.2⟩
  simp [zZ, hi]))
 have hho := h'.o
 obtain ⟨ho, hr1, hr2, hr3⟩ := h
 have hha := I3 (key := key) hs
 have hat : ∀ i (hi : i < G.s.l.length), (iL G.s.l)[i * 2]? = some (byC G.s.l[i].k) := fun i hi => (tP hi).1
 obtain ⟨⟨l, log, marks⟩, g1, g2, g3⟩ := G
 simp only [stC, pF, oI, oD] at ho hr1 hr2 hr3 hl hho hse hs hha hat ⊢
 have hfl := xR l key
 have F := And.intro hho (And.intro hr1 (True.intro))
 refine aA Tryz.func84 rfl rfl rfl ?_; refine sr fun _ hJ2 => ?_; apply hJ2; refine sr fun _ hJ4 => ?_; refine ca (c := hse) (k := ?_); rintro _ _ ⟨⟨r, rfl, e1, e2, e3⟩, rfl⟩; obtain rfl := Dc hs e1 e2 e3; (repeat first | simp [F] | simp (disch := omega) only [wC, if_pos, if_neg]); apply hJ4; refine sq fun K5 hK5 => ?_
 refine bQ (by kernel_rfl) fun J6 hJ6 => ?_
 refine q2 0 ?_; refine q2 1 ?_; refine q2 2 ?_; refine q2 3 ?_; refine q2 4 ?_; refine q2 5 ?_; refine q2 6 ?_; refine q2 7 ?_; refine q2 8 ?_; refine gd 22 (fun g2_8 => ?_) (fun g2_8 => ?_)
 · (try exact aG g2_8); all_goals have g2_8p := g2_8; try simp [F] at g2_8p
   all_goals
    replace F := aF g2_8 F; try replace F := aF g2_8p F
    have hi : fF l key < l.length := by simp at g2_8; omega
    have hat0 := hat _ hi
    replace F := aF hi (And.intro hat0 F)
    have hhb : BU l key = decide (l[fF l key].k = key) := by rw [hha, List.getElem?_eq_getElem hi]
    replace F := aF hhb F; refine q2 9 ?_; refine q2 10 ?_; refine q2 11 ?_; refine q2 12 ?_; refine q2 13 ?_; refine q2 14 ?_; refine q2 15 ?_; refine q2 16 ?_; refine q2 17 ?_; refine dc 18 rfl (c := CV) (k := ?_); rintro _ _ ⟨rfl, rfl⟩
    refine ⟨by first | exact fun _ _ h => h | (refine aI [15, 14, 13, 12, 11, 10, 9, 7, 6, 5, 4, 3, 2, 1, 0] (by kernel_rfl) ?_; (repeat' first | exact ln2 | refine lc ?_ ?_) <;> constructor <;> first | rfl | (simp [F]; done)), ?_⟩
    (repeat first | simp [F] | simp (disch := omega) only [wC, if_pos, if_neg]); refine q2 19 ?_; refine q2 20 ?_; refine q2 21 ?_; refine dd ?_; apply hJ6; apply hK5; refine bZ ?_; (try simp only [eQ, bK, cK]); refine fW rfl (.inr rfl) ?_; exact gcr
 (try exact aG g2_8); all_goals have g2_8p := g2_8; try simp [F] at g2_8p
 all_goals
  replace F := aF g2_8 F; try replace F := aF g2_8p F
  have hhb : BU l key = false := by rw [hha, List.getElem?_eq_none (by simp at g2_8; omega)]
  replace F := aF hhb F; refine q2 9 ?_; refine q2 10 ?_; refine q2 11 ?_; refine q2 12 ?_; refine q2 13 ?_; refine q2 14 ?_; refine q2 15 ?_; refine q2 16 ?_; refine q2 17 ?_; refine dop 18 rfl ?_; (repeat first | simp [F] | simp (disch := omega) only [wC, if_pos, if_neg]); refine q2 19 ?_; refine q2 20 ?_; refine q2 21 ?_; refine dd ?_; apply hJ6; apply hK5; refine bZ ?_; (try simp only [eQ, bK, cK]); refine fW rfl (.inr rfl) ?_; exact gcr

end Go.Proofs.YtjpnjhlfieklfaaGreat

/-
  Pairs are taken out of a row, and laid into it.
-/
namespace Go.Proofs.YtjpnjhlfieklfaaGreat
set_option maxHeartbeats 16000000
set_option linter.unnecessarySimpa false
set_option maxRecDepth 100000
set_option linter.unusedSimpArgs false
set_option linter.unusedVariables false
open Go Go.Vm
attribute [local simp] dK aJ dJ opA bD bH cJ bP ofValue dC plain aR aS bY b6 cA cC b7 cE b8 b9 cX cB cH cG cD bU aV aU bL cS aW dN dP bI bC cN gI bR dD bW AV.cells AV.bA dE cI e6 bF aY cQ dI dS dY cL aO dR dQ cW cU cM List.getElem?_cons_zero List.getElem?_cons_succ dF dA kK kE Bj pY zeroCell JS EX sT fZ maxLen Value.oneCell' Value.cells cV

theorem Fs {σ : St} {k g i m : Nat} {A X B : List AV} (hr : σ.rows[k]? = some ⟨g, A ++ (X ++ B), none⟩) (hA : A.length = i * 2) (hX : X.length = 2) (hB : B.length = m * 2) (hn : i + m ≤ 1000000000) (hu : aZ σ.bd (A ++ B) = true) :
  aB Tryz.prog 145 [.row k g 0 2 (i + 1 + m), .v (.int .i64 i), .v (.int .i64 (i + 1 : Nat))] σ (fun av σ' => ∃ g', av = .row k g' 0 2 (i + m) ∧ σ' = { σ with rows := σ.rows.set k ⟨g', A ++ B, none⟩ }) := by
 refine mI (Q := fun av σ' => ∃ g junk sp, av = .row k g 0 2 (i + m) ∧ σ' = { σ with rows := σ.rows.set k ⟨g, (A ++ B) ++ junk, sp⟩ }) ?_ hr (by simp [hA, hB]; omega) hu (fun av σ' h => ?_)
 · have hs := cP hr
   have hT : List.take (i * 2) (A ++ (X ++ B)) = A := List.take_left' hA
   have hD : List.drop ((i + 1) * 2) (A ++ (X ++ B)) = B := by rw [← List.append_assoc]; exact List.drop_left' (by simp [hA, hX]; omega)
   have hT2 : List.take (m * 2) B = B := List.take_of_length_le (by omega)
   have hN1 : ((i : Int) + (m : Int)).toNat = i + m := by omega
   have hN2 : ((i : Int) + 1 + (m : Int)).toNat = i + 1 + m := by omega
   have hN3 : i + 1 + m - (i + m) = 1 := by omega
   have hN4 : (i + 1 + m) * 2 - (i * 2 + m * 2) = 2 := by omega
   have hN5 : i * 2 + m * 2 = (i + m) * 2 := by omega
   have hD2 : ∀ Z, List.drop ((i + m) * 2 + 2) (A ++ (B ++ Z)) = List.drop 2 Z := fun Z => by rw [← List.append_assoc, ← List.drop_drop, List.drop_left' (by simp [hA, hB]; omega)]
   have hT3 : ∀ Z, List.take ((i + m) * 2) (A ++ (B ++ Z)) = A ++ B := fun Z => by rw [← List.append_assoc]; exact List.take_left' (by simp [hA, hB]; omega)
   have F := And.intro hr (And.intro hA (And.intro hX (And.intro hB (And.intro hT (And.intro hD (And.intro hT2 (And.intro hN1 (And.intro hN2 (And.intro hN3 (And.intro hN4 (And.intro hD2 (And.intro hT3 (True.intro)))))))))))))
   refine aA Tryz.func145 rfl rfl rfl ?_; refine sr fun _ hJ2 => ?_; apply hJ2; refine sq fun K3 hK3 => ?_; refine w8 0 (kk := fun s q hsq hnq => ?_); replace F := aF hs F; refine rg' (h := fun J4 hJ4 => ?_); apply hJ4; apply hK3; refine sq fun K5 hK5 => ?_; refine sr fun _ hJ7 => ?_; apply hJ7; refine cs (fun c16 => ?_) (fun c16 => ?_)
   · (try exact aG c16); all_goals have c16p := c16; try simp [F] at c16p
     all_goals
      replace F := aF c16 F; (try replace F := aF c16p F); refine sr fun _ hJ9 => ?_; apply hJ9; refine ra ?_; exact ⟨g + 1, _, _, by simp [F], by simp only [List.append_assoc]; rfl⟩
   (try exact aG c16); all_goals have c16p := c16; try simp [F] at c16p
   all_goals
    replace F := aF c16 F; (try replace F := aF c16p F); refine aD ?_; apply hK5; refine sr fun _ hJ11 => ?_; apply hJ11; refine sq fun K12 hK12 => ?_
    refine bQ (by kernel_rfl) fun J13 hJ13 => ?_
    refine q2 0 ?_; refine q2 1 ?_; refine q2 2 ?_; refine q2 3 ?_; refine q2 4 ?_; refine q2 5 ?_; refine dop 6 rfl ?_; repeat (first | simp [F] | simp (disch := omega) only [wC, if_pos, if_neg])
    refine ⟨bS (by kernel_rfl), ?_⟩
    refine dop 7 rfl ?_; (repeat first | simp [F] | simp (disch := omega) only [wC, if_pos, if_neg]); (try refine ⟨ln, ?_⟩); refine dd ?_; apply hJ13; apply hK12; refine sr fun _ hJ15 => ?_; apply hJ15; refine sr fun _ hJ17 => ?_; apply hJ17; refine ra ?_; exact ⟨g + 1, _, _, by simp [F], by simp only [List.append_assoc]; rfl⟩
 · obtain ⟨g', junk, sp, e1, e2⟩ := h
   exact .inl ⟨g', junk, sp, [], [], [], e1, by rw [e2]; simp⟩

theorem Dx {σ : St} {k kv g gv i : Nat} {A X : List AV} {sv : Option Nat} (hr : σ.rows[k]? = some ⟨g, A, none⟩) (hv : σ.rows[kv]? = some ⟨gv, X, sv⟩) (hA : A.length = i * 2) (hX : X.length = 2) (hn : i ≤ 1000000000) (hu : aZ σ.bd (A ++ X) = true) :
  aB Tryz.prog 146 [.row k g 0 2 i, .v (.int .i64 i), .row kv gv 0 2 1] σ (fun av σ' => ∃ g', av = .row k g' 0 2 (i + 1) ∧ σ' = { σ with rows := σ.rows.set k ⟨g', A ++ X, none⟩ }) := by
 refine mI (Q := fun av σ' => ∃ g', av = .row k g' 0 2 (i + 1) ∧ σ' = { σ with rows := σ.rows.set k ⟨g', A ++ X, none⟩ }) ?_ hr (by simp [hA, hX]; omega) hu (fun av σ' h => ?_)
 · have hT : List.take (i * 2) A = A := List.take_of_length_le (by omega)
   have hX2 : List.take 2 X = X := List.take_of_length_le (by omega)
   have h1 : (i + 1) * 48 ≤ 140737488355328 := by omega
   have h2 : i + 1 ≤ 9223372036854775807 := by omega
   have F := And.intro hr (And.intro hv (And.intro hA (And.intro hX (And.intro hT (And.intro hX2 (And.intro h1 (And.intro h2 (True.intro))))))))
   refine aA Tryz.func146 rfl rfl rfl ?_; refine sr fun _ hJ2 => ?_; apply hJ2; refine sr fun _ hJ4 => ?_; apply hJ4; refine sr fun _ hJ6 => ?_; apply hJ6; refine sq fun K7 hK7 => ?_; refine sr fun _ hJ9 => ?_; apply hJ9; refine cs (fun c16 => ?_) (fun c16 => ?_)
   · (try exact aG c16); all_goals have c16p := c16; try simp [F] at c16p
     all_goals
      replace F := aF c16 F; (try replace F := aF c16p F); refine sr fun _ hJ11 => ?_; apply hJ11; refine ra ?_; exact ⟨g + 1, by simp [F], rfl⟩
   (try exact aG c16); all_goals have c16p := c16; try simp [F] at c16p
   all_goals
    replace F := aF c16 F; (try replace F := aF c16p F); refine aD ?_; apply hK7; refine sr fun _ hJ13 => ?_; apply hJ13; refine sq fun K14 hK14 => ?_; refine sr fun _ hJ16 => ?_; apply hJ16; refine ct ?_; refine sr fun _ hJ18 => ?_; apply hJ18; refine ra ?_; exact ⟨g + 1, by simp [F], rfl⟩
 · obtain ⟨g', e1, e2⟩ := h
   exact .inl ⟨g', [], none, [], [], [], e1, by rw [e2]; simp⟩

theorem FV {σ : St} {k1 g1 o1 n1 k2 g2 o2 n2 : Nat} {c1 c2 : List AV} {s1 s2 : Option Nat} (hne : k1 ≠ k2) (h1 : σ.rows[k1]? = some ⟨g1, c1, s1⟩) (h2 : σ.rows[k2]? = some ⟨g2, c2, s2⟩) :
  y7 Tryz.prog 150 [.row k1 g1 o1 2 n1, .row k2 g2 o2 2 n2] σ (fun av _ => av = .v (.bool false)) :=
 Aw (tS := 77) (tR := 4) Tryz.func150 (by kernel_rfl) (by kernel_rfl) (by kernel_rfl) (by kernel_rfl) Tryz.underlying77 (ti_136) rfl (by decide) hne h1 rfl h2 rfl

theorem D9 {σ : St} {k kv g gv i m : Nat} {A X B : List AV} {sv : Option Nat} (hr : σ.rows[k]? = some ⟨g, A ++ B, none⟩) (hv : σ.rows[kv]? = some ⟨gv, X, sv⟩) (hk : kv ≠ k) (hA : A.length = i * 2) (hX : X.length = 2) (hB : B.length = m * 2) (hm : 0 < m) (hn : i + m ≤ 1000000000) (hu : aZ σ.bd (A ++ (X ++ B)) = true) :
  aB Tryz.prog 146 [.row k g 0 2 (i + m), .v (.int .i64 i), .row kv gv 0 2 1] σ (fun av σ' => ∃ g', av = .row k g' 0 2 (i + m + 1) ∧ σ' = { σ with rows := σ.rows.set k ⟨g', A ++ (X ++ B), none⟩ }) := by
 have hkl := cR hr
 have hvl := cR hv
 refine mI (Q := fun av σ' => (∃ g' sp, av = .row k g' 0 2 (i + m + 1) ∧ σ' = { σ with rows := σ.rows.set k ⟨g', A ++ (X ++ B), sp⟩ }) ∨ (∃ r1 sp, av = .row σ.rows.length 0 0 2 (i + m + 1) ∧ σ' = { σ with rows := σ.rows.set k r1 ++ [⟨0, A ++ (X ++ B), sp⟩] })) ?_ hr (by simp [hA, hB, hX]; omega) hu (fun av σ' h => ?_)
 · have hs := fun x => cP hr x
   have hvs : ∀ x, (σ.rows.set k x)[kv]? = some ⟨gv, X, sv⟩ := fun x => by rw [List.getElem?_set_ne (Ne.symm hk)]; exact hv
   have hT : List.take (i * 2) (A ++ B) = A := List.take_left' hA
   have hD : List.drop (i * 2) (A ++ B) = B := List.drop_left' hA
   have hT2 : List.take (m * 2) B = B := List.take_of_length_le (by omega)
   have hX2 : List.take 2 X = X := List.take_of_length_le (by omega)
   have hN1 : ((i : Int) + (m : Int)).toNat = i + m := by omega
   have hN2 : ((i : Int) + (m : Int) + 1).toNat = i + m + 1 := by omega
   have hw1 : IntKind.i64.wrap ((i : Int) + (m : Int) + 1) = ((i + m + 1 : Nat) : Int) := wrap_i64 _ (by omega) (by omega)
   have hw2 : IntKind.i64.wrap ((i : Int) + 1) = ((i + 1 : Nat) : Int) := wrap_i64 _ (by omega) (by omega)
   have hw3 : IntKind.i64.wrap ((i : Int) + (m : Int) + 1 - (i : Int)) = ((m + 1 : Nat) : Int) := by rw [wrap_i64 _ (by omega) (by omega)]; omega
   have hvs2 : ∀ r x, (σ.rows.set k r ++ [x])[kv]? = some ⟨gv, X, sv⟩ := fun r x => by rw [List.getElem?_append_left (by simpa using hvl)]; exact hvs r
   have hk1 : ∀ r x, (σ.rows.set k r ++ [x])[k]? = some r := fun r x => by rw [List.getElem?_append_left (by simpa using hkl)]; exact hs r
   have hn1 : ∀ r x, (σ.rows.set k r ++ [x])[σ.rows.length]? = some x := fun r x => by rw [List.getElem?_append_right (by simp)]; simp
   have hset1 : ∀ r x y, (σ.rows.set k r ++ [x]).set σ.rows.length y = σ.rows.set k r ++ [y] := fun r x y => by rw [List.set_append_right _ _ (by simp)]; simp
   have hTz : ∀ Z, List.take (i * 2) (A ++ Z) = A := fun Z => List.take_left' hA
   have hDz : ∀ Z, List.drop (i * 2) (A ++ Z) = Z := fun Z => List.drop_left' hA
   have hDz2 : ∀ Z, List.drop (i * 2 + 2) (A ++ Z) = List.drop 2 Z := fun Z => by rw [← List.drop_drop, hDz]
   have hT1 : ∀ Z, List.take ((i + 1) * 2) (A ++ Z) = A ++ List.take 2 Z := fun Z => by rw [show (i + 1) * 2 = A.length + 2 by omega, List.take_length_add_append]
   have hT2x : ∀ Z, List.take 2 (X ++ Z) = X := fun Z => List.take_left' hX
   have hDx : ∀ f : Nat → AV, List.drop ((i + 1) * 2 + m * 2) (A ++ (X ++ List.drop 2 (List.map f (List.range ((m + 1) * 2))))) = [] := fun f => List.drop_of_length_le (by simp [hA, hX]; omega)
   have hDx2 : ∀ E : List AV, E.length = 2 → List.drop ((i + 1) * 2 + m * 2) (A ++ (B ++ E)) = [] := fun E hE => List.drop_of_length_le (by simp [hA, hB, hE]; omega)
   have hDx3 := hDx2 [.any, .any] rfl
   have hN4 : (i + m + 1) * 2 - (i * 2 + m * 2) = 2 := by omega
   have hN5 : min 1 (m + 1) = 1 := by omega
   have hN6 : i + m + 1 - (i + 1) = m := by omega
   have hN7 : i + m + 1 - i = m + 1 := by omega
   have hN8 : min m (i + (m + 1) - (i + 1)) = m := by omega
   have hTB : ∀ E, List.take (m * 2) (B ++ E) = B := fun E => List.take_left' hB
   have hTB2 : List.take ((m + 1) * 2) (B ++ [.any, .any]) = B ++ [.any, .any] := List.take_of_length_le (by simp [hB]; omega)
   have hne : ((i : Int) == (i : Int) + (m : Int)) = false := by simp; omega
   have F := And.intro hr (And.intro hv (And.intro hA (And.intro hX (And.intro hB (And.intro hT (And.intro hD (And.intro hT2 (And.intro hX2 (And.intro hN1 (And.intro hN2 (And.intro hw1 (And.intro hw2 (And.intro hw3 (And.intro hne (True.intro)))))))))))))))
   refine aA Tryz.func146 rfl rfl rfl ?_; refine sr fun _ hJ2 => ?_; apply hJ2; refine sr fun _ hJ4 => ?_; apply hJ4; refine sr fun _ hJ6 => ?_; apply hJ6; refine sq fun K7 hK7 => ?_; refine sr fun _ hJ9 => ?_; apply hJ9; refine cs (fun c16 => ?_) (fun c16 => ?_)
   · (try exact aG c16); all_goals have c16p := c16; try simp [F] at c16p
     all_goals
      replace F := aF c16 F; (try replace F := aF c16p F); refine sr fun _ hJ11 => ?_; apply hJ11; refine ra ?_; exact .inl ⟨g, _, by simp [F, Nat.add_assoc], rfl⟩
   (try exact aG c16); all_goals have c16p := c16; try simp [F] at c16p
   all_goals
    replace F := aF c16 F; (try replace F := aF c16p F); refine aD ?_; apply hK7; refine sr fun _ hJ13 => ?_; apply hJ13; refine sq fun K14 hK14 => ?_; refine sr fun _ hJ16 => ?_; apply hJ16; refine cf ?_; refine aD ?_; apply hK14; refine sq fun K17 hK17 => ?_; refine sq fun K18 hK18 => ?_; refine w8 0 (kk := fun s q hsq hnq => ?_)
    have hql : i * 2 + m * 2 + s = q * 2 := by simp [hA, hB] at hsq; omega
    have hq1 : (i * 2 + m * 2 + s) % 2 = 0 := by omega
    have hq2 : ((i : Int) * 2 + (m : Int) * 2 + (s : Int)) / 2 = (q : Int) := by omega
    replace F := aF hs F; replace F := aF hvs F; replace F := aF hq1 F; replace F := aF hq2 F; replace F := aF hvs2 F; replace F := aF hk1 F; replace F := aF hn1 F; replace F := aF hset1 F; replace F := aF hTz F; replace F := aF hDz F; replace F := aF hDz2 F; replace F := aF hT1 F; replace F := aF hT2x F; replace F := aF hDx F; replace F := aF hDx3 F; replace F := aF hN4 F; replace F := aF hN5 F; replace F := aF hN6 F; replace F := aF hN7 F; replace F := aF hN8 F; replace F := aF hTB F; replace F := aF hTB2 F; refine rg' (h := fun J19 hJ19 => ?_); apply hJ19; apply hK18; refine cs (fun c31 => ?_) (fun c31 => ?_)
    · (try exact aG c31); all_goals have c31p := c31; try simp [F] at c31p
      all_goals
       replace F := aF c31 F; (try replace F := aF c31p F); refine sr fun _ hJ21 => ?_; apply hJ21; refine sr fun _ hJ23 => ?_; apply hJ23; refine sq fun K24 hK24 => ?_
       refine bQ (by kernel_rfl) fun J25 hJ25 => ?_
       refine q2 0 ?_; refine q2 1 ?_; refine q2 2 ?_; refine q2 3 ?_; refine q2 4 ?_; refine q2 5 ?_; refine q2 6 ?_; refine q2 7 ?_; refine dop 8 rfl ?_; repeat (first | simp [F] | simp (disch := omega) only [wC, if_pos, if_neg])
       refine ⟨by first | exact fun _ _ h => h | (refine aI [6, 5, 3, 2, 1, 0] (by kernel_rfl) ?_; (repeat' first | exact ln2 | refine lc ?_ ?_) <;> constructor <;> first | rfl | (simp [F]; done)), ?_⟩
       refine dd ?_; apply hJ25; apply hK24; refine sr fun _ hJ27 => ?_; apply hJ27; refine ra ?_; exact .inr ⟨_, none, by simp [F, Nat.add_assoc], rfl⟩
    (try exact aG c31); all_goals have c31p := c31; try simp [F] at c31p
    all_goals
     replace F := aF c31 F; (try replace F := aF c31p F); refine aD ?_; apply hK17; refine sr fun _ hJ29 => ?_; apply hJ29; refine sq fun K30 hK30 => ?_; refine sr fun _ hJ32 => ?_
     refine ce (c := FV (g1 := gv) (n1 := 1) (o1 := 0) (g2 := g) (o2 := (i + 1) * 2) (n2 := m) hk (by simp [F]; first | done | exact ⟨rfl, rfl⟩) (by simp [F]; first | done | exact ⟨rfl, rfl⟩)) (k := ?_)
     rintro _ _ rfl rfl; (repeat first | simp [F] | simp (disch := omega) only [wC, if_pos, if_neg]); apply hJ32; refine ct ?_; refine sq fun K33 hK33 => ?_
     refine bQ (by kernel_rfl) fun J34 hJ34 => ?_
     refine q2 0 ?_; refine q2 1 ?_; refine q2 2 ?_; refine q2 3 ?_; refine q2 4 ?_; refine q2 5 ?_; refine q2 6 ?_; refine q2 7 ?_; refine dop 8 rfl ?_; repeat (first | simp [F] | simp (disch := omega) only [wC, if_pos, if_neg])
     refine ⟨by first | exact fun _ _ h => h | (refine aI [6, 5, 3, 2, 1, 0] (by kernel_rfl) ?_; (repeat' first | exact ln2 | refine lc ?_ ?_) <;> constructor <;> first | rfl | (simp [F]; done)), ?_⟩
     refine dd ?_; apply hJ34; apply hK33; refine sr fun _ hJ36 => ?_; apply hJ36; refine sr fun _ hJ38 => ?_; apply hJ38; refine ra ?_; exact .inl ⟨g, _, by simp [F, Nat.add_assoc], rfl⟩
 · rcases h with ⟨g', sp, e1, e2⟩ | ⟨r1, sp, e1, e2⟩
   · exact .inl ⟨g', [], sp, [], [], [], e1, by rw [e2]; simp⟩
   · exact .inr ⟨_, sp, [], [], r1, 0, [], e1, by rw [e2]; simp, rfl⟩

end Go.Proofs.YtjpnjhlfieklfaaGreat

/-
  A store: a pair is put, or none of that key; what was there is told.
-/
namespace Go.Proofs.YtjpnjhlfieklfaaGreat
set_option linter.unnecessarySimpa false
set_option maxRecDepth 100000
set_option linter.unusedSimpArgs false
set_option linter.unusedVariables false
open Go Go.Vm
attribute [local simp] dK aJ dJ opA bD bH cJ bP ofValue dC plain aR aS bY b6 cA cC b7 cE b8 b9 cX cB cH cG cD bU aV aU bL cS aW dN dP bI bC cN gI bR dD bW AV.cells AV.bA dE cI e6 bF aY cQ dI dS dY cL aO dR dQ cW cU cM List.getElem?_cons_zero List.getElem?_cons_succ fK fI fH fG fN fM fJ fL

theorem kR (l m : List Pr) : iL (l ++ m) = iL l ++ iL m := by simp [iL]
theorem FI (l : List Pr) (i : Nat) : List.take (i * 2) (iL l) = iL (l.take i) := by
 by_cases h : i ≤ l.length
 · conv => lhs; rw [← List.take_append_drop i l, kR]
   exact List.take_left' (by rw [jP, List.length_take, Nat.min_eq_left h])
 · rw [List.take_of_length_le (by rw [jP]; omega), List.take_of_length_le (by omega)]
theorem Af (l : List Pr) (i : Nat) : List.drop (i * 2) (iL l) = iL (l.drop i) := by
 by_cases h : i ≤ l.length
 · conv => lhs; rw [← List.take_append_drop i l, kR]
   exact List.drop_left' (by rw [jP, List.length_take, Nat.min_eq_left h])
 · rw [List.drop_of_length_le (by rw [jP]; omega), List.drop_of_length_le (by omega)]; rfl
theorem H7 {l : List Pr} {i : Nat} (h : i < l.length) (p : Pr) : List.take (i * 2) (iL l) ++ byC p.k :: byC p.v :: List.drop (i * 2 + 2) (iL l) = iL (l.set i p) := by
 rw [show i * 2 + 2 = (i + 1) * 2 by omega, FI, Af, List.set_eq_take_append_cons_drop, if_pos h, kR]
 rfl
theorem GH {l : List Pr} {i : Nat} (h : i < l.length) : iL l = iL (l.take i) ++ (prC l[i] ++ iL (l.drop (i + 1))) := by
 conv => lhs; rw [← List.take_append_drop i l, kR, List.drop_eq_getElem_cons h]
 rfl
theorem E8 (l : List Pr) (i : Nat) : iL l = iL (l.take i) ++ iL (l.drop i) := by
 conv => lhs; rw [← List.take_append_drop i l, kR]
theorem IG {σ : St} {k g i : Nat} {l : List Pr} (hr : σ.rows[k]? = some ⟨g, iL l, none⟩) (hi : i < l.length) (hn : l.length ≤ 1000000) :
  aB Tryz.prog 145 [.row k g 0 2 l.length, .v (.int .i64 i), .v (.int .i64 ((i : Int) + 1))] σ (fun av σ' => ∃ g', av = .row k g' 0 2 (l.length - 1) ∧ σ' = { σ with rows := σ.rows.set k ⟨g', iL (l.take i ++ l.drop (i + 1)), none⟩ }) := by
 rw [GH hi] at hr
 have := Fs (i := i) (m := l.length - i - 1) hr (by simp [jP]; omega) rfl (by simp [jP]; omega) (by omega) (by rw [← kR]; exact lE _ _)
 rw [← kR, show i + 1 + (l.length - i - 1) = l.length by omega, show i + (l.length - i - 1) = l.length - 1 by omega] at this
 exact this
theorem IP {σ : St} {k kv g gv i : Nat} {l : List Pr} {p : Pr} {sv : Option Nat} (hr : σ.rows[k]? = some ⟨g, iL l, none⟩) (hv : σ.rows[kv]? = some ⟨gv, prC p, sv⟩) (hk : kv ≠ k) (hi : i ≤ l.length) (hn : l.length ≤ 1000000) :
  aB Tryz.prog 146 [.row k g 0 2 l.length, .v (.int .i64 i), .row kv gv 0 2 1] σ (fun av σ' => ∃ g', av = .row k g' 0 2 (l.length + 1) ∧ σ' = { σ with rows := σ.rows.set k ⟨g', iL (l.take i ++ p :: l.drop i), none⟩ }) := by
 have e : iL (l.take i ++ p :: l.drop i) = iL (l.take i) ++ (prC p ++ iL (l.drop i)) := by rw [kR]; rfl
 by_cases h0 : i = l.length
 · subst h0
   have := Dx (i := l.length) hr hv (by simp [jP]) rfl (by omega) (by have := lE σ.bd (l ++ [p]); rw [kR] at this; simpa [iL] using this)
   rw [e, List.take_length, List.drop_length]
   simpa [iL] using this
 · rw [E8 l i] at hr
   have := D9 (i := i) (m := l.length - i) hr hv hk (by simp [jP]; omega) rfl (by simp [jP]) (by omega) (by omega) (by rw [← e]; exact lE _ _)
   rw [← e, show i + (l.length - i) = l.length by omega] at this
   exact this
theorem sS {l : List Pr} {key v : List UInt8} (hs : Srt l) (h : eX l key = some v) : ∃ h : fF l key < l.length, (l[fF l key]).k = key ∧ (l[fF l key]).v = v := by
 rw [uJ hs] at h
 split at h
 · rename_i p hp
   obtain ⟨h1, h2⟩ := List.getElem?_eq_some_iff.1 hp
   split at h
   · rename_i hk
     exact ⟨h1, by rw [h2]; exact hk, by rw [h2]; exact Option.some.inj h⟩
   · cases h
 · cases h

set_option maxHeartbeats 1600000 in
attribute [local simp] cV List.getElem?_cons_zero List.getElem?_cons_succ byC in
theorem Ln {σ : St} {o k : Nat} {G : Sg} {key val : List UInt8} {is : Bool} (h : fS σ o k G) (hs : Srt G.s.l) (hl : G.s.l.length ≤ 1000000) :
  aB Tryz.prog 138 [.ptr o 0, .agg [byC key, byC val], .v (.bool is)] σ (fun av σ' => ∃ g, av = .agg (udC ⟨key, eX G.s.l key⟩) ∧ σ' = dU σ o k ⟨⟨gR G.s.l key (if is then some val else none), G.s.log, G.s.marks⟩, g, G.g2, G.g3⟩) := by
 refine m9 (X := Nat) (T := fun g => ⟨⟨gR G.s.l key (if is then some val else none), G.s.log, G.s.marks⟩, g, G.g2, G.g3⟩) h (fun _ => by simp [AV.under, Aa]) ?_
 have hp1 := fun l' g' => Ik h l' g'
 have hfi := fun L m => AY (key := key) (t := .shut) (h.app L m) hs (by omega)
 have hbd := lE σ.bd
 have hset := Ef (k := key) (o := if is then some val else none) hs
 have hgat : ∀ v, eX G.s.l key = some v → _ := fun v h => sS (key := key) (v := v) hs h
 have hhas : BU G.s.l key = (eX G.s.l key).isSome := rfl
 have hlo := cR h.o
 have hlr := cR h.r1
 obtain ⟨ho, hr1, hr2, hr3⟩ := h
 obtain ⟨⟨l, log, marks⟩, g1, g2, g3⟩ := G
 simp only [stC, pF, oI, oD] at ho hr1 hr2 hr3 hl hp1 hset hgat hhas hfi ⊢
 have ha : ∀ L, (σ.objs ++ L)[o]? = some [.row k g1 0 2 l.length, .row (k + 1) g2 0 3 log.length, .row (k + 2) g3 0 1 marks.length] := fun L => by rw [List.getElem?_append_left hlo]; exact ho
 have hb : ∀ x L, (σ.objs ++ L).set o x = σ.objs.set o x ++ L := fun x L => List.set_append_left _ _ hlo
 have hc : ∀ x L, (σ.objs.set o x ++ L)[o]? = some x := fun x L => by rw [List.getElem?_append_left (by simpa using hlo)]; exact cP ho x
 have hle := xR l key
 obtain ⟨i, hi⟩ : ∃ i, i = fF l key := ⟨_, rfl⟩
 obtain ⟨q, hq⟩ : ∃ q, q = eX l key := ⟨_, rfl⟩
 simp only [← hi, ← hq] at hset hgat hhas hfi hle
 obtain ⟨b, hbb⟩ : ∃ b, b = BU l key := ⟨_, rfl⟩
 simp only [← hbb] at hfi hhas
 have hda : ∀ (x : fP) L, (σ.rows.set k x ++ L)[k]? = some x := fun x L => by rw [List.getElem?_append_left (by simpa using hlr)]; exact cP hr1 x
 have hdb : ∀ L, (σ.rows ++ L)[k]? = some ⟨g1, iL l, none⟩ := fun L => by rw [List.getElem?_append_left hlr]; exact hr1
 have hdc : ∀ (x : fP) L, (σ.rows ++ L).set k x = σ.rows.set k x ++ L := fun x L => List.set_append_left _ _ hlr
 have hso := gX ho
 have hsr := gX hr1
 have F := And.intro ha (And.intro hb (And.intro hc (And.intro hr1 (And.intro hda (And.intro hdb (And.intro hdc (And.intro hso (And.intro hsr (True.intro)))))))))
 refine aA Tryz.func138 rfl rfl rfl ?_; refine sr fun _ hJ2 => ?_; apply hJ2; refine sr fun _ hJ4 => ?_; refine ca (c := hfi _ _) (k := ?_); rintro _ _ ⟨rfl, rfl⟩; (repeat first | simp [F] | simp (disch := omega) only [wC, if_pos, if_neg]); apply hJ4; refine sr fun _ hJ6 => ?_; apply hJ6; refine sq fun K7 hK7 => ?_; refine aH ?_; refine sr fun _ hJ9 => ?_; refine gs 24 (fun g3_1 => ?_) (fun g3_1 => ?_)
 · (try exact aG g3_1); all_goals have g3_1p := g3_1; try simp [F] at g3_1p
   all_goals
    replace F := aF g3_1 F; try replace F := aF g3_1p F
    obtain ⟨v, hv⟩ : ∃ v, q = some v := Option.isSome_iff_exists.1 (by rw [← hhas]; simpa using g3_1)
    obtain ⟨hil, hik, hiv⟩ := hgat v hv
    have hat := tP hil
    rw [hiv] at hat
    have hat2 := hat.2
    have hpl := jP l
    have hi2 : i * 2 + 2 ≤ l.length * 2 := by omega
    have hps := H7 hil ⟨key, val⟩
    simp only [byC] at hat2 hps
    replace F := aF hil (And.intro hat2 (And.intro hpl (And.intro hi2 F))); refine go2 (k := ?_); apply hJ9; refine cs (fun c22 => ?_) (fun c22 => ?_)
    · (try exact aG c22); all_goals have c22p := c22; try simp [F] at c22p
      all_goals
       replace F := aF c22 F; try replace F := aF c22p F
       have his : is = true := by simpa using c22
       have hS : gR l key (if is then some val else none) = l.set i ⟨key, val⟩ := by rw [hset, hv, his]; rfl
       replace F := aF hps F
       refine bQ (by kernel_rfl) fun J10 hJ10 => ?_
       refine q2 0 ?_; refine q2 1 ?_; refine q2 2 ?_; refine q2 3 ?_; refine q2 4 ?_; refine q2 5 ?_; refine q2 6 ?_; refine q2 7 ?_; refine q2 8 ?_; refine q2 9 ?_; refine q2 10 ?_; refine q2 11 ?_; refine q2 12 ?_; refine q2 13 ?_; refine q2 14 ?_; refine q2 15 ?_; refine dop 16 rfl ?_; repeat (first | simp [F] | simp (disch := omega) only [wC, if_pos, if_neg])
       refine ⟨by first | exact fun _ _ h => h | (refine aI [14, 13, 4, 3, 2, 1, 0] (by kernel_rfl) ?_; (repeat' first | exact ln2 | refine lc ?_ ?_) <;> constructor <;> first | rfl | (simp [F]; done)), ?_⟩
       refine q2 17 ?_; refine dop 18 rfl ?_; (repeat first | simp [F] | simp (disch := omega) only [wC, if_pos, if_neg]); refine ⟨ln, ?_⟩; refine dd ?_; apply hJ10; apply hK7; refine sr fun _ hJ12 => ?_; apply hJ12; refine bZ ?_; (try simp only [eQ, bK, cK]); refine kZ (h := ?_); refine ⟨g1, ?_⟩
       rw [hp1, hS, ← hq, hv]
       exact gcr
    (try exact aG c22); all_goals have c22p := c22; try simp [F] at c22p
    all_goals
     replace F := aF c22 F; try replace F := aF c22p F
     have his : is = false := by simpa using c22
     have hS : gR l key (if is then some val else none) = l.take i ++ l.drop (i + 1) := by rw [hset, hv, his]; rfl
     have hlen : (l.take i ++ l.drop (i + 1)).length = l.length - 1 := by simp; omega
     replace F := aF hlen F; refine sr fun _ hJ14 => ?_; apply hJ14; refine ct ?_; refine sr fun _ hJ16 => ?_; apply hJ16; refine rg' (h := fun J17 hJ17 => ?_); refine ca (c := IG (i := i) (l := l) (g := g1) (k := k) st hil hl) (k := ?_); rintro _ _ ⟨g', rfl, rfl⟩; (repeat first | simp [F] | simp (disch := omega) only [wC, if_pos, if_neg]); apply hJ17; apply hK7; refine sr fun _ hJ19 => ?_; apply hJ19; refine bZ ?_; (try simp only [eQ, bK, cK]); refine kZ (h := ?_); refine ⟨g', ?_⟩
     rw [hp1, hS, ← hq, hv]
     exact gcr
 (try exact aG g3_1); all_goals have g3_1p := g3_1; try simp [F] at g3_1p
 all_goals
  replace F := aF g3_1 F; try replace F := aF g3_1p F
  have hv : q = none := by cases q with | none => rfl | some v => simp [hhas] at g3_1
  refine no2 (k := ?_); apply hJ9; refine cf ?_; refine sr fun _ hJ21 => ?_; apply hJ21; refine cf ?_; refine sr fun _ hJ23 => ?_; apply hJ23; refine cs (fun c67 => ?_) (fun c67 => ?_)
  · (try exact aG c67); all_goals have c67p := c67; try simp [F] at c67p
    all_goals
     replace F := aF c67 F; try replace F := aF c67p F
     have his : is = true := by simpa using c67
     have hS : gR l key (if is then some val else none) = l.take i ++ ⟨key, val⟩ :: l.drop i := by rw [hset, hv, his]; rfl
     have hlen : (l.take i ++ (⟨key, val⟩ : Pr) :: l.drop i).length = l.length + 1 := by simp; omega
     replace F := aF hlen F
     refine bQ (by kernel_rfl) fun J24 hJ24 => ?_
     refine q2 0 ?_; refine q2 1 ?_; refine q2 2 ?_; refine q2 3 ?_; refine q2 4 ?_; refine q2 5 ?_; refine q2 6 ?_; refine db 7 rfl rfl (k := ?_)
     refine ⟨by first | exact fun _ _ h => h | (refine aI [5, 4, 3, 2, 1, 0] (by kernel_rfl) ?_; (repeat' first | exact ln2 | refine lc ?_ ?_) <;> constructor <;> first | rfl | (simp [F]; done)), ?_⟩
     repeat (first | simp [F] | simp (disch := omega) only [wC, if_pos, if_neg])
     refine dc 8 rfl (c := IP (i := i) (l := l) (g := g1) (k := k) (kv := σ.rows.length) (gv := 0) (p := ⟨key, val⟩) (sv := none) st (by simp [F]; rfl) (by omega) hle hl) (k := ?_)
     rintro _ _ ⟨g', rfl, rfl⟩
     refine ⟨by first | exact fun _ _ h => h | (refine aI [3, 2, 1, 0] (by kernel_rfl) ?_; (repeat' first | exact ln2 | refine lc ?_ ?_) <;> constructor <;> first | rfl | (simp [F]; done)), ?_⟩
     (repeat first | simp [F] | simp (disch := omega) only [wC, if_pos, if_neg]); refine q2 9 ?_; refine q2 10 ?_; refine dop 11 rfl ?_; repeat (first | simp [F] | simp (disch := omega) only [wC, if_pos, if_neg])
     refine ⟨by first | exact fun _ _ h => h | (refine aI [9] (by kernel_rfl) ?_; (repeat' first | exact ln2 | refine lc ?_ ?_) <;> constructor <;> first | rfl | (simp [F]; done)), ?_⟩
     refine dd ?_; apply hJ24; apply hK7; refine sr fun _ hJ26 => ?_; apply hJ26; refine bZ ?_; (try simp only [eQ, bK, cK]); refine kZ (h := ?_); refine ⟨g', ?_⟩
     rw [hp1, hS, ← hq, hv]
     exact gcr (hA := WkL.agg (.cons (Wk.refl _) (.cons (Wk.nil _ _ _) (.cons (Wk.refl _) .nil))))
  (try exact aG c67); all_goals have c67p := c67; try simp [F] at c67p
  all_goals
   replace F := aF c67 F; try replace F := aF c67p F
   have his : is = false := by simpa using c67
   have hS : gR l key (if is then some val else none) = l := by rw [hset, hv, his]; rfl
   refine aD ?_; apply hK7; refine sr fun _ hJ28 => ?_; apply hJ28; refine bZ ?_; (try simp only [eQ, bK, cK]); refine kZ (h := ?_); refine ⟨g1, ?_⟩
   rw [hp1, hS, ← hq, hv]
   exact gcr (hA := WkL.agg (.cons (Wk.refl _) (.cons (Wk.nil _ _ _) (.cons (Wk.refl _) .nil))))

end Go.Proofs.YtjpnjhlfieklfaaGreat

/-
  A store: a pair is put, and what was there is noted.
-/
namespace Go.Proofs.YtjpnjhlfieklfaaGreat
set_option linter.unnecessarySimpa false
set_option maxRecDepth 100000
set_option linter.unusedSimpArgs false
set_option linter.unusedVariables false
open Go Go.Vm
attribute [local simp] dK aJ dJ opA bD bH cJ bP ofValue dC plain aR aS bY b6 cA cC b7 cE b8 b9 cX cB cH cG cD bU aV aU bL cS aW dN dP bI bC cN gI bR dD bW AV.cells AV.bA dE cI e6 bF aY cQ dI dS dY cL aO dR dQ cW cU cM List.getElem?_cons_zero List.getElem?_cons_succ fK fI fH fG fN fM fJ fL dA kK kE fZ maxLen zeroCell Value.oneCell' Value.cells

theorem IQ {σ : St} {o k : Nat} {G : Sg} {key val : List UInt8} {is : Bool} (h : fS σ o k G) (hs : Srt G.s.l) (hl : G.s.l.length ≤ 1000000) (L : List (List AV)) :
  aB Tryz.prog 138 [.ptr o 0, .agg [byC key, byC val], .v (.bool is)] { σ with objs := σ.objs ++ L } (fun av σ' => ∃ g, av = .agg (udC ⟨key, eX G.s.l key⟩) ∧ σ' = { σ with objs := σ.objs.set o [.row k g 0 2 (gR G.s.l key (if is then some val else none)).length, .row (k + 1) G.g2 0 3 G.s.log.length, .row (k + 2) G.g3 0 1 G.s.marks.length] ++ L, rows := σ.rows.set k ⟨g, iL (gR G.s.l key (if is then some val else none)), none⟩ }) :=
 bV (Ln (h.app L σ.toks) hs hl) (fun av σ' ⟨g, e1, e2⟩ => ⟨g, e1, by rw [e2, Ik (h.app L σ.toks)]; simp only; rw [List.set_append_left _ _ (cR h.o)]⟩)

set_option maxHeartbeats 1600000 in
attribute [local simp] cV List.getElem?_cons_zero List.getElem?_cons_succ byC eZ in
theorem Kf {σ : St} {o k n : Nat} {G : Sg} {key val : List UInt8} {is : Bool} (h : fS σ o k G) (hG : G.s.Ok n) (hn : n ≤ 1000000) :
  aB Tryz.prog 126 [.ptr o 0, .agg [byC key, byC val], .v (.bool is)] σ (fun av σ' => ∃ G', G'.s = doS G.s key (if is then some val else none) ∧ av = .tup [] ∧ σ' = dU σ o k G') := by
 refine bV (m9 (X := Nat × Nat) (A := fun _ => .tup []) (T := fun x => ⟨doS G.s key (if is then some val else none), x.1, x.2, G.g3⟩) h (fun _ => rfl) ?_) (fun av σ' ⟨x, e1, e2⟩ => ⟨_, rfl, e1, e2⟩)
 have hpa := IQ (key := key) (val := val) (is := is) h hG.srt (Nat.le_trans hG.l hn)
 have hp2 := fun l lg g g' => KM h l lg g g'
 have hlo := cR h.o
 have hlr := cR h.r1
 have hlr2 := cR h.r2
 have hll := hG.log
 obtain ⟨ho, hr1, hr2, hr3⟩ := h
 obtain ⟨⟨l, log, marks⟩, g1, g2, g3⟩ := G
 simp only [stC, pF, oI, oD, doS] at ho hr1 hr2 hr3 hp2 hpa hll ⊢
 have ha : ∀ x L, (σ.objs.set o x ++ L)[o]? = some x := fun x L => by rw [List.getElem?_append_left (by simpa using hlo)]; exact cP ho x
 have hb : ∀ x y L, (σ.objs.set o x ++ L).set o y = σ.objs.set o y ++ L := fun x y L => by rw [List.set_append_left _ _ (by simpa using hlo), List.set_set]
 have hc : ∀ x, (σ.rows.set k x)[k + 1]? = some ⟨g2, nQ log, none⟩ := fun x => by rw [List.getElem?_set_ne (by omega)]; exact hr2
 have hsr : ∀ x, (σ.rows.set k x).set (k + 1) ⟨g2, nQ log, none⟩ = σ.rows.set k x := fun x => gX (hc x)
 have hul := GW log
 have hut : List.take (log.length * 3) (nQ log) = nQ log := List.take_of_length_le (by omega)
 have hrm : (log.length + 1) * 56 ≤ 140737488355328 := by omega
 have hmx : log.length + 1 ≤ 9223372036854775807 := by omega
 have hua : nQ (log ++ [⟨key, eX l key⟩]) = nQ log ++ udC ⟨key, eX l key⟩ := by rw [HB]; simp [nQ]
 obtain ⟨q, hq⟩ : ∃ q, q = eX l key := ⟨_, rfl⟩
 obtain ⟨l', hl'⟩ : ∃ l', l' = gR l key (if is then some val else none) := ⟨_, rfl⟩
 simp only [← hq, ← hl'] at hpa hua ⊢
 simp only [udC] at hpa hua
 have F := And.intro ha (And.intro hb (And.intro hc (And.intro hul (And.intro hut (And.intro hrm (And.intro hmx (And.intro hsr (True.intro))))))))
 refine aA Tryz.func126 rfl rfl rfl ?_; refine sr fun _ hJ2 => ?_; apply hJ2; refine sq fun K3 hK3 => ?_; refine sr fun _ hJ5 => ?_; apply hJ5; refine cf ?_; refine aD ?_; apply hK3; refine sr fun _ hJ7 => ?_; refine ca (c := hpa _) (k := ?_); rintro _ _ ⟨g, rfl, rfl⟩; (repeat first | simp [F] | simp (disch := omega) only [wC, if_pos, if_neg]); apply hJ7; refine sr fun _ hJ9 => ?_; apply hJ9; refine cs (fun c18 => ?_) (fun c18 => ?_)
 · (try exact aG c18); all_goals have c18p := c18; try simp [F] at c18p
   all_goals
    replace F := aF c18 F; try replace F := aF c18p F
    have hm : marks ≠ [] := by have h := c18; simp at h; exact List.length_pos_iff.1 h
    refine bQ (by kernel_rfl) fun J10 hJ10 => ?_
    refine q2 0 ?_; refine q2 1 ?_; refine q2 2 ?_; refine q2 3 ?_; refine q2 4 ?_; refine q2 5 ?_; refine q2 6 ?_; refine dop 7 rfl ?_; repeat (first | simp [F] | simp (disch := omega) only [wC, if_pos, if_neg])
    refine ⟨by first | exact fun _ _ h => h | (refine aI [5, 3, 2, 1, 0] (by kernel_rfl) ?_; (repeat' first | exact ln2 | refine lc ?_ ?_) <;> constructor <;> first | rfl | (simp [F]; done)), ?_⟩
    refine q2 8 ?_; refine q2 9 ?_; refine dop 10 rfl ?_; repeat (first | simp [F] | simp (disch := omega) only [wC, if_pos, if_neg])
    refine ⟨by first | exact fun _ _ h => h | (refine aI [8] (by kernel_rfl) ?_; (repeat' first | exact ln2 | refine lc ?_ ?_) <;> constructor <;> first | rfl | (simp [F]; done)), ?_⟩
    refine dd ?_; apply hJ10; (try simp only [eQ, bK, cK, if_true]); refine gU rfl (.inl rfl) ?_; refine ⟨(g, g2 + 1), ?_⟩; simp only [if_neg hm]
    rw [hp2, hua]
    exact gcr
 (try exact aG c18); all_goals have c18p := c18; try simp [F] at c18p
 all_goals
  replace F := aF c18 F; try replace F := aF c18p F
  have hm : marks = [] := by have h := c18; simp at h; exact h
  refine aD ?_; (try simp only [eQ, bK, cK, if_true]); refine gU rfl (.inl rfl) ?_; refine ⟨(g, g2), ?_⟩; simp only [if_pos hm]
  rw [hp2, hsr]
  exact gcr

end Go.Proofs.YtjpnjhlfieklfaaGreat

/-
  A store: what its methods do.
-/
namespace Go.Proofs.YtjpnjhlfieklfaaGreat
set_option maxHeartbeats 1600000
set_option linter.unnecessarySimpa false
set_option maxRecDepth 100000
set_option linter.unusedSimpArgs false
set_option linter.unusedVariables false
open Go Go.Vm
attribute [local simp] dK aJ dJ opA bD bH cJ bP ofValue dC plain aR aS bY b6 cA cC b7 cE b8 b9 cX cB cH cG cD bU aV aU bL cS aW dN dP bI bC cN gI bR dD bW AV.cells AV.bA dE cI e6 bF aY cQ dI dS dY cL aO dR dQ cW cU cM List.getElem?_cons_zero List.getElem?_cons_succ fK fI fH fG fN fM fJ fL dA kK kE fZ maxLen zeroCell Value.oneCell' Value.cells dF eT eF eZ cV

theorem HF {σ : St} {o k n : Nat} {G : Sg} {key val : List UInt8} {t1 t2 : eK} (h : fS σ o k G) (hG : G.s.Ok n) (hn : n ≤ 1000000) (hk : key.length ≤ 1000000) (hv : val.length ≤ 1000000) :
  aB Tryz.prog 100 [.ptr o 0, .sl 1 (aQ key) key.length t1, .sl 1 (aQ val) val.length t2] σ (fun av σ' => ∃ G', G'.s = doS G.s key (some val) ∧ av = .tup [] ∧ σ' = dU σ o k G') := by
 have F := True.intro
 refine aA Tryz.func100 rfl rfl rfl ?_; refine rg' (h := fun J1 hJ1 => ?_); refine ca (c := mF hk) (k := ?_); rintro _ _ ⟨rfl, rfl⟩; (repeat first | simp [F] | simp (disch := omega) only [wC, if_pos, if_neg]); refine ca (c := mF hv) (k := ?_); rintro _ _ ⟨rfl, rfl⟩; (repeat first | simp [F] | simp (disch := omega) only [wC, if_pos, if_neg]); refine ca (c := Kf (key := key) (val := val) (is := true) h hG hn) (k := ?_); rintro _ _ ⟨G', e1, rfl, rfl⟩; (repeat first | simp [F] | simp (disch := omega) only [wC, if_pos, if_neg]); apply hJ1; (try simp only [eQ, bK, cK, if_true]); refine gU rfl (.inl rfl) ?_; exact ⟨G', e1, rfl, rfl⟩

theorem Lo {σ : St} {o k n : Nat} {G : Sg} {key : List UInt8} {t1 : eK} (h : fS σ o k G) (hG : G.s.Ok n) (hn : n ≤ 1000000) (hk : key.length ≤ 1000000) :
  aB Tryz.prog 103 [.ptr o 0, .sl 1 (aQ key) key.length t1] σ (fun av σ' => ∃ G', G'.s = doS G.s key none ∧ av = .tup [] ∧ σ' = dU σ o k G') := by
 have hdo : aB Tryz.prog 126 [.ptr o 0, .agg [.sl 1 (aQ key) key.length .shut, .sl 0 [] 0 .full], .v (.bool false)] σ (fun av σ' => ∃ G', G'.s = doS G.s key none ∧ av = .tup [] ∧ σ' = dU σ o k G') :=
  iS (.cons (Wk.refl _) (.cons (WkL.agg (.cons (Wk.refl _) (.cons (Wk.nil _ _ _) .nil))) (.cons (Wk.refl _) .nil))) (Kf (key := key) (val := []) (is := false) h hG hn)
 have F := True.intro
 refine aA Tryz.func103 rfl rfl rfl ?_; refine rg' (h := fun J1 hJ1 => ?_); refine ca (c := mF hk) (k := ?_); rintro _ _ ⟨rfl, rfl⟩; (repeat first | simp [F] | simp (disch := omega) only [wC, if_pos, if_neg]); refine ca (c := hdo) (k := ?_); rintro _ _ ⟨G', e1, rfl, rfl⟩; (repeat first | simp [F] | simp (disch := omega) only [wC, if_pos, if_neg]); apply hJ1; (try simp only [eQ, bK, cK, if_true]); refine gU rfl (.inl rfl) ?_; exact ⟨G', e1, rfl, rfl⟩

attribute [local simp] byC in
theorem AG {σ : St} {o k n : Nat} {G : Sg} {key : List UInt8} {t1 : eK} (h : fS σ o k G) (hG : G.s.Ok n) (hn : n ≤ 1000000) :
  aB Tryz.prog 54 [.ptr o 0, .sl 1 (aQ key) key.length t1] σ (fun av σ' => av = .tup [byC ((eX G.s.l key).getD []), .v (.bool (eX G.s.l key).isSome)] ∧ σ = σ') := by
 refine aM ?_ (by simp [AV.under, aZ, nR])
 have hfi := AY (key := key) (t := t1) h hG.srt (by have := hG.l; omega)
 have hgat : ∀ v, eX G.s.l key = some v → _ := fun v h => sS (key := key) (v := v) hG.srt h
 have hhas : BU G.s.l key = (eX G.s.l key).isSome := rfl
 have hkv := hG.kv
 obtain ⟨ho, hr1, hr2, hr3⟩ := h
 obtain ⟨⟨l, log, marks⟩, g1, g2, g3⟩ := G
 simp only [stC, pF, oI, oD] at ho hr1 hr2 hr3 hfi hgat hhas hkv ⊢
 obtain ⟨i, hi⟩ : ∃ i, i = fF l key := ⟨_, rfl⟩
 obtain ⟨q, hq⟩ : ∃ q, q = eX l key := ⟨_, rfl⟩
 simp only [← hi, ← hq] at hgat hhas hfi ⊢
 rw [hhas] at hfi
 cases q with
 | none =>
   have F := And.intro ho (And.intro hr1 (True.intro))
   refine aA Tryz.func54 rfl rfl rfl ?_; refine sq fun K1 hK1 => ?_; refine rg' (h := fun J2 hJ2 => ?_); apply hJ2; apply hK1; refine sq fun K3 hK3 => ?_; refine sq fun K4 hK4 => ?_; refine rg' (h := fun J5 hJ5 => ?_); apply hJ5; apply hK4; refine cf ?_; refine aD ?_; apply hK3; refine sq fun K6 hK6 => ?_; refine rg' (h := fun J7 hJ7 => ?_); refine ca (c := hfi) (k := ?_); rintro _ _ ⟨rfl, rfl⟩; (repeat first | simp [F] | simp (disch := omega) only [wC, if_pos, if_neg]); apply hJ7; apply hK6; refine sq fun K8 hK8 => ?_; refine sq fun K9 hK9 => ?_; refine rg' (h := fun J10 hJ10 => ?_); apply hJ10; apply hK9; refine ct ?_; refine sq fun K11 hK11 => ?_; refine rg' (h := fun J12 hJ12 => ?_); apply hJ12; apply hK11; refine bZ ?_; (try simp only [eQ, bK, cK]); refine fW rfl (.inr rfl) ?_; exact gcr (hA := WkL.tup (.cons (Wk.nil _ _ _) (.cons (Wk.refl _) .nil)))
 | some v =>
   obtain ⟨hil, hik, hiv⟩ := hgat v rfl
   have hat := (tP hil).2
   have hvl := (hkv _ (List.getElem_mem hil)).2
   rw [hiv] at hat hvl
   simp only [byC] at hat
   have F := And.intro ho (And.intro hr1 (And.intro hil (And.intro hat (True.intro))))
   refine aA Tryz.func54 rfl rfl rfl ?_; refine sq fun K1 hK1 => ?_; refine rg' (h := fun J2 hJ2 => ?_); apply hJ2; apply hK1; refine sq fun K3 hK3 => ?_; refine sq fun K4 hK4 => ?_; refine rg' (h := fun J5 hJ5 => ?_); apply hJ5; apply hK4; refine cf ?_; refine aD ?_; apply hK3; refine sq fun K6 hK6 => ?_; refine rg' (h := fun J7 hJ7 => ?_); refine ca (c := hfi) (k := ?_); rintro _ _ ⟨rfl, rfl⟩; (repeat first | simp [F] | simp (disch := omega) only [wC, if_pos, if_neg]); apply hJ7; apply hK6; refine sq fun K8 hK8 => ?_; refine sq fun K9 hK9 => ?_; refine rg' (h := fun J10 hJ10 => ?_); apply hJ10; apply hK9; refine cf ?_; refine aD ?_; apply hK8; refine sq fun K11 hK11 => ?_; refine rg' (h := fun J12 hJ12 => ?_); refine ca (c := mF hvl) (k := ?_); rintro _ _ ⟨rfl, rfl⟩; (repeat first | simp [F] | simp (disch := omega) only [wC, if_pos, if_neg]); apply hJ12; apply hK11; refine bZ ?_; (try simp only [eQ, bK, cK]); refine fW rfl (.inr rfl) ?_; exact gcr

theorem Ju {σ : St} {a : AV} : aB Tryz.prog 54 [.v (.pointer none), a] σ (fun av σ' => av = .tup [byC [], .v (.bool false)] ∧ σ = σ') := by
 refine aM ?_ (by simp [AV.under, aZ, nR])
 have F := True.intro
 refine aA Tryz.func54 rfl rfl rfl ?_; refine sr fun _ hJ2 => ?_; apply hJ2; refine sq fun K3 hK3 => ?_; refine sr fun _ hJ5 => ?_; apply hJ5; refine ct ?_; refine sr fun _ hJ7 => ?_; apply hJ7; refine bZ ?_; (try simp only [eQ, bK, cK]); refine fW rfl (.inr rfl) ?_; exact gcr (hA := WkL.tup (.cons (Wk.nil _ _ _) (.cons (Wk.refl _) .nil)))

theorem Fy {σ : St} : aB Tryz.prog 13 [] σ (fun av σ' => av = .ptr σ.objs.length 0 ∧ σ' = { σ with objs := σ.objs ++ [stC σ.rows.length eM], rows := σ.rows ++ [pF eM, oI eM, oD eM] }) := by
 refine zC ?_
 have F := True.intro
 refine aA Tryz.func13 rfl rfl rfl ?_; refine sr fun _ hJ2 => ?_; apply hJ2; refine sr fun _ hJ4 => ?_; apply hJ4; refine ra ?_; exact rt

structure RbS where
 l : List Pr
 n : Nat
 g : Nat

end Go.Proofs.YtjpnjhlfieklfaaGreat

/-
  A store: its keys that begin so; another one; are two alike?
-/
namespace Go.Proofs.YtjpnjhlfieklfaaGreat
set_option maxHeartbeats 1600000
set_option linter.unnecessarySimpa false
set_option maxRecDepth 100000
set_option linter.unusedSimpArgs false
set_option linter.unusedVariables false
open Go Go.Vm
attribute [local simp] dK aJ dJ opA bD bH cJ bP ofValue dC plain aR aS bY b6 cA cC b7 cE b8 b9 cX cB cH cG cD bU aV aU bL cS aW dN dP bI bC cN gI bR dD bW AV.cells AV.bA dE cI e6 bF aY cQ dI dS dY cL aO dR dQ cW cU cM List.getElem?_cons_zero List.getElem?_cons_succ fK fI fH fG fN fM fJ fL dF eT eF eZ cV

def vN (l : List Pr) (p : List UInt8) : List (List UInt8) := ((l.drop (fF l p)).takeWhile fun x => preB x.k p).map (·.k)

theorem mM {α : Type} {f : α → Bool} : ∀ {l : List α} {j : Nat}, (∀ x ∈ l.take j, f x = true) → (∀ x, l[j]? = some x → f x = false) → l.takeWhile f = l.take j
 | [], _, _, _ => by simp
 | a :: l, 0, _, h => by simp [h a rfl]
 | a :: l, j + 1, h1, h2 => by
   have ha := h1 a (by simp)
   rw [List.takeWhile_cons, if_pos ha, List.take_succ_cons, mM (j := j) (fun x hx => h1 x (by simp [hx])) (fun x hx => h2 x (by simpa using hx))]

attribute [local simp] byC eZ yB yW Ah oG m7 wG nD wB wE AJ tH in
theorem Ey {σ : St} {o k n : Nat} {G : Sg} {p : List UInt8} {t : eK} (h : fS σ o k G) (hG : G.s.Ok n) (hn : n ≤ 1000000) :
  aB Tryz.prog 63 [.ptr o 0, .sl 1 (aQ p) p.length t] σ (fun av σ' => av = .sl 1 (lF (vN G.s.l p)) (vN G.s.l p).length .shut ∧ σ = σ') := by
 refine aM ?_ (by simp [AV.under, wU])
 have hfi := AY (key := p) (t := t) h hG.srt (by have := hG.l; omega)
 have hkv := hG.kv
 have hll := hG.l
 obtain ⟨ho, hr1, hr2, hr3⟩ := h
 obtain ⟨⟨l, log, marks⟩, g1, g2, g3⟩ := G
 simp only [stC, pF, oI, oD] at ho hr1 hr2 hr3 hfi hkv hll ⊢
 have hle := xR l p
 have hkl : vN l p = ((l.drop (fF l p)).takeWhile fun x => preB x.k p).map (·.k) := rfl
 obtain ⟨i, hi⟩ : ∃ i, i = fF l p := ⟨_, rfl⟩
 simp only [← hi] at hfi hle hkl
 rw [hkl]
 obtain ⟨D, hD⟩ : ∃ D, D = l.drop i := ⟨_, rfl⟩
 have hDl : D.length = l.length - i := by rw [hD]; simp
 rw [← hD]
 have hi2 : i ≤ l.length := hle
 have hlc := jP l
 obtain ⟨K, hK⟩ : ∃ K, K = D.map (·.k) := ⟨_, rfl⟩
 have hKj : ∀ j, (D.take j).map (·.k) = K.take j := fun j => by rw [hK]; simp
 have hKl : K.length = l.length - i := by rw [hK]; simp [hDl]
 have F := And.intro ho (And.intro hr1 (And.intro hi2 (And.intro hlc (True.intro))))
 refine aA Tryz.func63 rfl rfl rfl ?_; refine sr fun _ hJ2 => ?_; apply hJ2; refine sq fun K3 hK3 => ?_; refine sr fun _ hJ5 => ?_; apply hJ5; refine cf ?_; refine aD ?_; apply hK3; refine sr fun _ hJ7 => ?_; apply hJ7; refine sr fun _ hJ9 => ?_; refine ca (c := hfi) (k := ?_); rintro _ _ ⟨rfl, rfl⟩; (repeat first | simp [F] | simp (disch := omega) only [wC, if_pos, if_neg]); apply hJ9; refine sq fun K10 hK10 => ?_; refine sr fun _ hJ12 => ?_; apply hJ12; refine aH ?_; refine eO (X := Nat) [1, 4, 23, 24] (fun j ρ σ1 => (j ≤ l.length - i) ∧ (∀ x ∈ D.take j, preB x.k p = true) ∧ (ρ 5 = lsA σ.toks.length 1 (lF (K.take j)) j) ∧ (ρ 25 = .v (.int .i64 j)) ∧ (σ1 = { σ with toks := σ.toks ++ lsT j })) (fun j => l.length - i - j) (0) ?st1 ?rd1
 case st1 =>
  refine ⟨lp, ?_, lp, lp, ?_⟩
  · intro x hx
    simp at hx
  · simp [nD]
 case rd1 =>
  rintro j ρ1 σ1 hF1 ⟨h1, h2, h5, h25, hσ⟩; obtain rfl := hσ.symm
  have f1 := dX hF1
  (try simp [dW, F] at f1); replace F := aF h5 F; replace F := aF h25 F; (try replace F := aF f1 F); refine sr fun _ hJ14 => ?_; apply hJ14; refine sq fun K15 hK15 => ?_; refine cs (fun c26 => ?_) (fun c26 => ?_)
  · (try exact aG c26); all_goals have c26p := c26; try simp [F] at c26p
    all_goals
     replace F := aF c26 F; (try replace F := aF c26p F); refine aD ?_; apply hK15; refine sq fun K16 hK16 => ?_; refine aH ?_; refine sq fun K17 hK17 => ?_
     have hlt : j < l.length - i := by have h := c26; simp at h; omega
     have hjD : j < D.length := by omega
     obtain ⟨x, hx⟩ : ∃ x, x = D[j] := ⟨_, rfl⟩
     have hxl : x = l[i + j] := by rw [hx]; simp only [hD]; rw [List.getElem_drop]
     have hxm := (hkv x (by rw [hxl]; exact List.getElem_mem _)).1
     have hat : List.take 2 (List.drop (i * 2 + j * 2) (iL l)) = [byC x.k, byC x.v] := by rw [show i * 2 + j * 2 = (i + j) * 2 by omega, Af, List.drop_eq_getElem_cons (by omega), ← hxl]; rfl
     simp only [byC] at hat
     have hb2 : i * 2 + j * 2 + 2 ≤ l.length * 2 := by omega
     have htk : D.take (j + 1) = D.take j ++ [x] := by rw [hx]; exact (List.take_append_getElem hjD).symm
     have htkK : K.take (j + 1) = K.take j ++ [x.k] := by rw [← hKj, ← hKj, htk]; simp
     have hap : ∀ objs, dA Tryz.prog 113 (lsA σ.toks.length 1 (lF (K.take j)) j) (.sl 1 [.sl 1 (aQ x.k) x.k.length .shut] 1 .full) ⟨objs, σ.toks ++ lsT j, σ.gl, σ.rows⟩ = some (lsA σ.toks.length 1 (lF (K.take (j + 1))) (j + 1), ⟨objs, σ.toks ++ lsT (j + 1), σ.gl, σ.rows⟩) := fun objs => by
      rw [htkK, He]
      exact qS elemT_113 ti_102 (by decide) rfl (fun h => by simp [h, lF]) rfl (by omega) (by simp only [fZ]; omega) (by simp only [maxLen]; omega)
     replace F := aF hlt (And.intro hat (And.intro hb2 (And.intro hap F))); refine rg' (h := fun J18 hJ18 => ?_); apply hJ18; apply hK17; refine sq fun K19 hK19 => ?_; refine sr fun _ hJ21 => ?_; refine ca (c := Fi) (k := ?_); rintro _ _ ⟨rfl, rfl⟩; (repeat first | simp [F] | simp (disch := omega) only [wC, if_pos, if_neg]); apply hJ21; refine cs (fun c33 => ?_) (fun c33 => ?_)
     · (try exact aG c33); all_goals have c33p := c33; try simp [F] at c33p
       all_goals
        replace F := aF c33 F; try replace F := aF c33p F
        have hpx : preB x.k p = false := by have h := c33; simpa using h
        have hstop := mM (l := D) (j := j) h2 (fun y hy => by rw [List.getElem?_eq_getElem hjD, ← hx] at hy; cases hy; exact hpx)
        have hlen : (K.take j).length = j := by rw [List.length_take]; omega
        have hwk := uK (k := σ.toks.length) (sz := 1) (n := j) (cs := lF (K.take j)) (fun h => by simp [h, lF])
        refine bO ?_; apply hK10; refine sr fun _ hJ23 => ?_; apply hJ23; refine ra ?_
        rw [hstop, hKj, hlen]
        exact gcr (hA := by simp only [aT]; simp [F]; exact hwk)
     (try exact aG c33); all_goals have c33p := c33; try simp [F] at c33p
     all_goals
      replace F := aF c33 F; (try replace F := aF c33p F); refine aD ?_; apply hK19; refine rg' (h := fun J24 hJ24 => ?_); refine ca (c := mF hxm) (k := ?_); rintro _ _ ⟨rfl, rfl⟩; (repeat first | simp [F] | simp (disch := omega) only [wC, if_pos, if_neg]); apply hJ24; apply hK16; refine rg' (h := fun J25 hJ25 => ?_); apply hJ25; refine ⟨gk, (j + 1), ⟨kpG, lpG, ?_, lpG, lpG, lpG⟩, lpG⟩
      · rw [htk]
        intro y hy
        rcases List.mem_append.1 hy with h | h
        · exact h2 y h
        · simp at h; rw [h]; have h := c33; simpa using h
  (try exact aG c26); all_goals have c26p := c26; try simp [F] at c26p
  all_goals
   replace F := aF c26 F; try replace F := aF c26p F
   have hjl : D.take j = D := List.take_of_length_le (by have h := c26; simp at h; omega)
   have hstop := mM (l := D) (j := j) h2 (fun y hy => by rw [List.getElem?_eq_none (by have h := c26; simp at h; omega)] at hy; cases hy)
   have hlen : (K.take j).length = j := by rw [List.length_take]; omega
   have hwk := uK (k := σ.toks.length) (sz := 1) (n := j) (cs := lF (K.take j)) (fun h => by simp [h, lF])
   refine bO ?_; apply hK10; refine sr fun _ hJ27 => ?_; apply hJ27; refine ra ?_
   rw [hstop, hKj, hlen]
   exact gcr (hA := by simp only [aT]; simp [F]; exact hwk)

theorem Bv {σ : St} {a : AV} : aB Tryz.prog 63 [.v (.pointer none), a] σ (fun av σ' => av = .sl 1 [] 0 .shut ∧ σ = σ') := by
 refine aM ?_ rfl
 have F := True.intro
 refine aA Tryz.func63 rfl rfl rfl ?_; refine sr fun _ hJ2 => ?_; apply hJ2; refine sq fun K3 hK3 => ?_; refine sr fun _ hJ5 => ?_; apply hJ5; refine ct ?_; refine sr fun _ hJ7 => ?_; apply hJ7; refine ra ?_; exact gcr

theorem wD : ∀ {m l : List Pr}, Srt l → Srt m → (∀ p ∈ l, p ∈ m) → l.Sublist m
 | m, [], _, _, _ => List.nil_sublist m
 | [], p :: l, _, _, h => by have := h p (by simp); cases this
 | q :: m, p :: l, hl, hm, h => by
   have l1 := List.pairwise_cons.1 hl
   have m1 := List.pairwise_cons.1 hm
   by_cases hpq : p = q
   · subst hpq
     refine List.Sublist.cons_cons _ (wD l1.2 m1.2 (fun x hx => ?_))
     rcases List.mem_cons.1 (h x (List.mem_cons_of_mem _ hx)) with e | e
     · have := l1.1 x hx; rw [e, qX] at this; cases this
     · exact e
   · have hpm : p ∈ m := by
      rcases List.mem_cons.1 (h p (List.mem_cons_self ..)) with e | e
      · exact (hpq e).elim
      · exact e
     refine List.Sublist.cons _ (wD hl m1.2 (fun x hx => ?_))
     rcases List.mem_cons.1 (h x hx) with e | e
     · rcases List.mem_cons.1 hx with e2 | e2
       · rw [e2]; exact hpm
       · have h1 := l1.1 x e2
         have h2 := m1.1 p hpm
         rw [e] at h1
         have := jF h1 h2
         rw [qX] at this; cases this
     · exact e
theorem nE : ∀ {l : List Pr} {p : Pr}, Srt l → p ∈ l → eX l p.k = some p.v
 | q :: l, p, hs, h => by
   have l1 := List.pairwise_cons.1 hs
   rcases List.mem_cons.1 h with e | e
   · subst e; simp [eX]
   · have := l1.1 p e
     rw [eX, if_neg (tZ this)]
     exact nE l1.2 e
theorem HZ (p : List UInt8) : preB p [] = true := by simp [preB]
theorem JH {l : List (List UInt8)} {i : Nat} (h : i < l.length) : (lF l)[i]? = some (byC l[i]) := by simp [lF, h]

end Go.Proofs.YtjpnjhlfieklfaaGreat

/-
  The codec's writer, whatever it holds.
-/
namespace Go.Proofs.YtjpnjhlfieklfaaGreat
set_option maxHeartbeats 1600000
set_option linter.unnecessarySimpa false
set_option linter.unusedSimpArgs false
set_option linter.unusedVariables false
set_option maxRecDepth 100000
open Go Go.Vm
attribute [local simp] dK aJ dJ opA bD bH cJ bP ofValue dC plain aR aS bY b6 cA cC b7 cE b8 b9 j8 cB cH cG cD bU aV aU bL cS aW dN dP bI bC cN gI bR dD bW AV.cells AV.bA dE cI e6 bF aY cQ dI dS dY cL aO dR dQ gD cV List.getElem?_cons_zero List.getElem?_cons_succ

theorem rZ {σ : St} {P : Program} {f : FuncId} {args : List AV} {Q Q' : AV → St → Prop} (k : aB P f args σ Q) (h : ∀ av σ0, Q av σ0 → sQ σ σ0 ∧ Q' (av.gcO σ.objs.length) (σ.fD σ0)) : aB P f args σ Q' := by
 intro G w vs R hS hl hr hK
 refine k G w vs R hS hl hr (fun v av σ0 G' w' hq hE hS' hv => ?_)
 obtain ⟨hg, hq'⟩ := h av σ0 hq
 obtain ⟨hE2, hS2⟩ := hS.fD hS' hE hg
 exact hK v _ _ _ _ hq' hE2 hS2 (hv.gcO hE hS.tot)

theorem qF {σ : St} {P : Program} {f : FuncId} {args : List AV} {A : AV} {ι : Type} {Pi : ι → Prop} {τ : ι → St} (k : aB P f args σ (fun av σ' => ∃ i, Pi i ∧ av = A ∧ ∃ l, σ' = { τ i with objs := (τ i).objs ++ l }))
  (hA : A.gcO σ.objs.length = A) (hl : ∀ i, (τ i).objs.length = σ.objs.length) (hgl : ∀ i, (τ i).gl = σ.gl) (hkp : ∀ i, Kp σ.objs.length σ.objs (τ i).objs) (hkr : ∀ i, KpR σ.objs.length σ.rows (τ i).rows) : aB P f args σ (fun av σ' => av = A ∧ ∃ i, Pi i ∧ σ' = τ i) := by
 refine rZ k (fun av σ0 ⟨i, hi, hv, l, h⟩ => ?_)
 subst h hv
 refine ⟨Ek (hgl i) (Em (hkp i)) (hkr i), hA, i, hi, ?_⟩
 have := hl i
 simp [St.fD, ← this]

/-! ### What a writer holds -/
def wrA (k : Nat) (l : List UInt8) : AV := if l = [] then .sl 0 [] 0 .full else .sl 1 (aQ l) l.length (.own k)
def Tk (tk : List Nat) (k : Nat) (l : List UInt8) : Prop := l = [] ∨ tk[k]? = some l.length

structure Wr (tk : List Nat) (k : Nat) (l : List UInt8) (tk' : List Nat) (k' : Nat) (l' : List UInt8) : Prop where
 tok : Tk tk' k' l'
 len : tk.length ≤ tk'.length
 keep : ∀ (j v : Nat), (l = [] ∨ j ≠ k) → tk[j]? = some v → tk'[j]? = some v
 own : l' = [] ∨ (k' = k ∧ l ≠ []) ∨ tk.length ≤ k'

theorem Wr.refl {tk : List Nat} {k : Nat} {l : List UInt8} (h : Tk tk k l) : Wr tk k l tk k l := ⟨h, Nat.le_refl _, fun _ _ _ h => h, by
 by_cases e : l = []
 · exact .inl e
 · exact .inr (.inl ⟨rfl, e⟩)⟩

theorem G9 {l : List Nat} {i v : Nat} (h : l[i]? = some v) : i < l.length := (List.getElem?_eq_some_iff.1 h).1

theorem Wr.trans {tk tk1 tk2 : List Nat} {k k1 k2 : Nat} {l l1 l2 : List UInt8} (h : Wr tk k l tk1 k1 l1) (g : Wr tk1 k1 l1 tk2 k2 l2) : Wr tk k l tk2 k2 l2 := by
 refine ⟨g.tok, Nat.le_trans h.len g.len, fun j v hj hv => g.keep j v ?_ (h.keep j v hj hv), ?_⟩
 · have hlt := G9 hv
   rcases h.own with e | ⟨e, e2⟩ | e
   · exact .inl e
   · rcases hj with hj | hj
     · exact absurd hj e2
     · exact .inr (by omega)
   · exact .inr (by omega)
 · rcases g.own with e | ⟨e, e2⟩ | e
   · exact .inl e
   · rcases h.own with e3 | ⟨e3, e4⟩ | e3
     · exact absurd e3 e2
     · exact .inr (.inl ⟨by omega, e4⟩)
     · exact .inr (.inr (by omega))
   · have := h.len
     exact .inr (.inr (by omega))

theorem Wr.pre {tk tk' : List Nat} {k k' : Nat} {l' : List UInt8} (h : Wr tk k [] tk' k' l') : ∃ m, tk' = tk ++ m := by
 refine ⟨tk'.drop tk.length, ?_⟩; refine List.ext_getElem? fun i => ?_
 by_cases hi : i < tk.length
 · rw [List.getElem?_append_left hi]
   rw [List.getElem?_eq_getElem hi]
   exact h.keep i _ (.inl rfl) (List.getElem?_eq_getElem hi)
 · rw [List.getElem?_append_right (by omega), List.getElem?_drop]
   congr 1; omega

theorem yZ (n k : Nat) (l : List UInt8) : AV.eH n (wrA k l) = true := by
 unfold wrA
 split <;> simp [bG, AV.eH]
theorem oF (n k : Nat) (l : List UInt8) : bG n [wrA k l] = true := by
 unfold wrA
 split <;> simp [bG, AV.eH]

def WP (id : Nat) (σ : St) (k : Nat) (l q : List UInt8) : AV → St → Prop := fun av σ' => av = .ptr id 0 ∧ ∃ k' tk', Wr σ.toks k l tk' k' (l ++ q) ∧ σ' = { σ with objs := σ.objs.set id [wrA k' (l ++ q)], toks := tk' }

theorem uA {σ : St} {id k : Nat} {l q : List UInt8} {tq : eK} (h : σ.objs[id]? = some [wrA k l]) (ht : Tk σ.toks k l) (hne : l ++ q ≠ []) (hl : l.length ≤ 1000000) (hq : q.length ≤ 1000000) :
  aB Tryz.prog 124 [.ptr id 0, .sl 1 (aQ q) q.length tq] σ (WP id σ k l q) := by
 by_cases e : l = []
 · subst e
   refine bV (Jp (by simpa [wrA] using h) hq) (fun av σ' ⟨h1, h2⟩ => ⟨h1, σ.toks.length, σ.toks ++ [q.length], ⟨.inr ?_, ?_, fun j v _ hj => ?_, .inr (.inr (Nat.le_refl _))⟩, ?_⟩)
   · simp
   · simp
   · rw [List.getElem?_append_left (G9 hj)]; exact hj
   · rw [h2]; simp at hne; simp [wrA, hne]
 · have hk := ht.resolve_left e
   refine bV (GI (by simpa [wrA, e] using h) hk hl hq) (fun av σ' ⟨h1, h2⟩ => ⟨h1, k, σ.toks.set k (l ++ q).length, ⟨.inr (cP hk _), by simp, fun j v hj hv => ?_, .inr (.inl ⟨rfl, e⟩)⟩, ?_⟩)
   · rw [List.getElem?_set_ne (Ne.symm (hj.resolve_left e))]; exact hv
   · rw [h2]; simp [wrA, e]

theorem BV {σ : St} {id k : Nat} {l : List UInt8} {b : UInt8} (h : σ.objs[id]? = some [wrA k l]) (ht : Tk σ.toks k l) (hl : l.length ≤ 1000000) :
  aB Tryz.prog 97 [.ptr id 0, .v (.int .u8 b.toNat)] σ (WP id σ k l [b]) := by
 have hv : (Value.int IntKind.u8 0).cells.size = 1 := rfl
 have F := And.intro hv (True.intro)
 refine aA Tryz.func97 rfl rfl rfl ?_; refine sr fun _ hJ2 => ?_; apply hJ2; refine sr fun _ hJ4 => ?_
 refine ca (c := uA (q := [b]) h ht (by simp) hl (by simp)) (k := ?_)
 rintro _ _ ⟨rfl, k1, tk1, hw1, rfl⟩; (repeat first | simp [F] | simp (disch := omega) only [wC, if_pos, if_neg]); apply hJ4; refine ra ?_; exact ⟨rfl, k1, tk1, hw1, rfl⟩

def kQ (x : Nat) : List UInt8 := UInt8.ofNat (aN x).length :: aN x

theorem Eo {σ : St} {id k x : Nat} {l : List UInt8} (h : σ.objs[id]? = some [wrA k l]) (ht : Tk σ.toks k l) (hx : x < 2 ^ 256) (hl : l.length ≤ 900000) :
  aB Tryz.prog 98 [.ptr id 0, .agg (aP x)] σ (WP id σ k l (kQ x)) := by
 have hlt := cR h
 refine bV (qF (A := .ptr id 0) (Pi := fun i : Nat × List Nat => Wr σ.toks k l i.2 i.1 (l ++ kQ x)) (τ := fun i => { σ with objs := σ.objs.set id [wrA i.1 (l ++ kQ x)], toks := i.2 }) ?_ (by simp [AV.gcO, hlt]) (fun _ => by simp) (fun _ => rfl) (fun _ => A9 (v7 _) (oF _ _ _)) (fun _ => sX _)) (fun av σ' ⟨h1, i, h2, h3⟩ => ⟨h1, i.1, i.2, h2, h3⟩)
 have hs := cP h
 have hlen : (aN x).length ≤ 32 := oO x 32 (by simpa using hx)
 obtain ⟨c, hc⟩ : ∃ c, c = UInt8.ofNat (aN x).length := ⟨_, rfl⟩
 have hcn : c.toNat = (aN x).length := by rw [hc]; exact toNat_ofNat (by omega)
 have hw : IntKind.u8.wrap ((aN x).length : Int) = (c.toNat : Int) := by rw [wrap_u8, hcn, Nat.mod_eq_of_lt (by omega)]
 have ho1 : ∀ r, (σ.objs ++ r)[id]? = some [wrA k l] := fun r => by rw [List.getElem?_append_left hlt]; exact h
 have ho2 : ∀ x r, (σ.objs.set id x ++ r)[id]? = some x := fun x r => by rw [List.getElem?_append_left (by simpa using hlt)]; exact hs x
 have ho3 : ∀ x r, (σ.objs ++ r).set id x = σ.objs.set id x ++ r := fun x r => List.set_append_left _ _ hlt
 have ho4 : ∀ x y r, (σ.objs.set id y ++ r).set id x = σ.objs.set id x ++ r := fun x y r => by rw [List.set_append_left _ _ (by simpa using hlt), List.set_set]
 have hv : (Value.int IntKind.u8 0).cells.size = 1 := rfl
 have F := And.intro hw (And.intro hv (And.intro ho1 (And.intro ho2 (And.intro ho3 (And.intro ho4 (True.intro))))))
 refine aA Tryz.func98 rfl rfl rfl ?_; refine sr fun _ hJ2 => ?_; apply hJ2; refine sr fun _ hJ4 => ?_; refine ca (c := CF hx) (k := ?_); rintro _ _ ⟨rfl, rfl⟩; (repeat first | simp [F] | simp (disch := omega) only [wC, if_pos, if_neg]); apply hJ4; refine sr fun _ hJ6 => ?_
 refine ca (c := uA (q := [c]) (ho1 _) ht (by simp) (by omega) (by simp)) (k := ?_)
 rintro _ _ ⟨rfl, k1, tk1, hw1, rfl⟩; repeat (first | simp [F] | simp (disch := omega) only [wC, if_pos, if_neg])
 refine ca (c := uA (l := l ++ [c]) (k := k1) (ho2 _ _) hw1.tok (by simp) (by simp; omega) (by omega)) (k := ?_)
 rintro _ _ ⟨rfl, k2, tk2, hw2, rfl⟩; (repeat first | simp [F] | simp (disch := omega) only [wC, if_pos, if_neg]); apply hJ6; refine ra ?_
 have e : l ++ [c] ++ aN x = l ++ kQ x := (by simp [kQ, hc])
 rw [e] at hw2
 have e2 : c :: aN x = kQ x := (by simp [kQ, hc])
 simp only [e2]
 exact ⟨(k2, tk2), hw1.trans hw2, rfl, _, rfl⟩

def dZ (size n : Nat) : List UInt8 := (List.range size).map fun j => UInt8.ofNat (n / 2 ^ (8 * (size - 1 - j)) % 256)
theorem gF (size n : Nat) : (dZ size n).length = size := by simp [dZ]

structure WSt where
 j : Nat
 k : Nat
 tk : List Nat

theorem DI {σ : St} {id k n size : Nat} {l : List UInt8} (h : σ.objs[id]? = some [wrA k l]) (ht : Tk σ.toks k l) (hn : n < 2 ^ 64) (hsz : size ≤ 8) (hl : l.length ≤ 900000) :
  aB Tryz.prog 123 [.ptr id 0, .v (.int .u64 n), .v (.int .i64 size)] σ (WP id σ k l (dZ size n)) := by
 have hs := cP h
 have hs0 := St.oB h
 have hv : (Value.int IntKind.u8 0).cells.size = 1 := rfl
 have F := And.intro hv (True.intro)
 refine aA Tryz.func123 rfl rfl rfl ?_; refine sr fun _ hJ2 => ?_; apply hJ2; refine sq fun K3 hK3 => ?_; refine sr fun _ hJ5 => ?_; apply hJ5; refine aH ?_; refine cZ (X := WSt) [1, 6] (fun q ρ σ1 => (q.j ≤ size) ∧ (Wr σ.toks k l q.tk q.k (l ++ (dZ size n).take q.j)) ∧ (ρ 0 = .ptr id 0) ∧ (ρ 7 = .v (.int .i64 ((size : Int) - 1 - q.j))) ∧ (σ1 = { σ with objs := σ.objs.set id [wrA q.k (l ++ (dZ size n).take q.j)], toks := q.tk })) (fun q => size - q.j) (⟨0, k, σ.toks⟩) ?st1 ?rd1
 case st1 =>
  refine ⟨lp, ?_, lp, lp, ?_⟩
  · simpa using Wr.refl ht
  · simpa using hs0.symm
 case rd1 =>
  rintro q ρ1 σ1 hF1 ⟨hj, hw, h0, h7, hσ⟩; obtain rfl := hσ.symm
  have f1 := dX hF1
  (try simp [dW, F] at f1); replace F := aF h0 F; replace F := aF h7 F; (try replace F := aF f1 F); refine sq fun K6 hK6 => ?_; refine sr fun _ hJ8 => ?_; apply hJ8; refine cs (fun c11 => ?_) (fun c11 => ?_)
  · (try exact aG c11); all_goals have c11p := c11; try simp [F] at c11p
    all_goals
     replace F := aF c11 F; (try replace F := aF c11p F); refine aD ?_; apply hK6; refine sq fun K9 hK9 => ?_; refine aH ?_
     obtain ⟨i, hi⟩ : ∃ i, i = size - 1 - q.j := ⟨_, rfl⟩
     have he : (size : Int) - 1 - q.j = (i : Int) := by omega
     have hi8 : i < 8 := by omega
     obtain ⟨b, hb⟩ : ∃ b, b = UInt8.ofNat (n / 2 ^ (8 * i) % 256) := ⟨_, rfl⟩
     have hbn : b.toNat = n / 2 ^ (8 * i) % 256 := by rw [hb]; exact toNat_ofNat (by omega)
     have hnx : (dZ size n).take (q.j + 1) = (dZ size n).take q.j ++ [b] := by rw [iN (by rw [gF]; omega)]; simp [dZ, hb, hi]
     have htl : ((dZ size n).take q.j).length ≤ 8 := by simp [gF]; omega
     have hnn : ¬ 8 * (i : Int) < 0 := by omega
     have hsh : Int.fdiv (n : Int) (2 ^ (min (8 * (i : Int)).toNat 64)) = ((n / 2 ^ (8 * i) : Nat) : Int) := by rw [show min (8 * (i : Int)).toNat 64 = 8 * i by omega, Int.fdiv_eq_ediv_of_nonneg _ (by exact Int.le_of_lt (Int.pow_pos (by omega)))]; simp
     have hcv : IntKind.u8.wrap ((n / 2 ^ (8 * i) : Nat) : Int) = (b.toNat : Int) := by rw [wrap_u8, hbn]
     generalize n / 2 ^ (8 * i) = z at *
     replace F := aF he F; replace F := aF hnn F; replace F := aF hsh F; replace F := aF hcv F; refine rg' (h := fun J10 hJ10 => ?_)
     refine ca (c := uA (q := [b]) (hs _) hw.tok (by simp) (by simp; omega) (by simp)) (k := ?_)
     rintro _ _ ⟨rfl, k1, tk1, hw1, rfl⟩; (repeat first | simp [F] | simp (disch := omega) only [wC, if_pos, if_neg]); apply hJ10; apply hK9; refine rg' (h := fun J11 hJ11 => ?_); apply hJ11; refine ⟨(⟨q.j + 1, k1, tk1⟩), ⟨kp, lp, ?_, lp, ?_, ?_⟩, lp⟩
     · have hq2 := hw.trans hw1
       rw [List.append_assoc, ← hnx] at hq2
       exact hq2
     · simp
       omega
     · simp [hnx]
  (try exact aG c11); all_goals have c11p := c11; try simp [F] at c11p
  all_goals
   replace F := aF c11 F; (try replace F := aF c11p F); refine bO ?_; apply hK3; refine sr fun _ hJ13 => ?_; apply hJ13; refine ra ?_
   have hfull : (dZ size n).take q.j = dZ size n := List.take_of_length_le (by rw [gF]; simp at c11; omega)
   rw [hfull] at hw
   rw [hfull]
   exact ⟨by simp [F], q.k, q.tk, hw, rfl⟩

theorem Cp {σ : St} {id k n : Nat} {l : List UInt8} (h : σ.objs[id]? = some [wrA k l]) (ht : Tk σ.toks k l) (hn : n < 2 ^ 64) (hl : l.length ≤ 900000) :
  aB Tryz.prog 96 [.ptr id 0, .v (.int .u64 n)] σ (WP id σ k l (dZ 8 n)) := by
 have F := True.intro
 refine aA Tryz.func96 rfl rfl rfl ?_; refine sr fun _ hJ2 => ?_; apply hJ2; refine sr fun _ hJ4 => ?_
 refine ca (c := DI (size := 8) h ht hn (by omega) hl) (k := ?_)
 rintro _ _ ⟨rfl, k1, tk1, hw1, rfl⟩; (repeat first | simp [F] | simp (disch := omega) only [wC, if_pos, if_neg]); apply hJ4; refine ra ?_; exact ⟨rfl, k1, tk1, hw1, rfl⟩

def A0 (c : bB) : List UInt8 := c.d :: kQ c.n.v
def iK (l : List bB) : List UInt8 := l.flatMap A0
def kH (l : List bB) : List UInt8 := UInt8.ofNat l.length :: iK l

theorem HV (c : bB) : (A0 c).length ≤ 34 := by
 have := oO c.n.v 32 (by simpa using c.n.h)
 simp [A0, kQ]; omega
theorem qN : ∀ l : List bB, (iK l).length ≤ 34 * l.length
 | [] => by simp [iK]
 | c :: l => by
   have h1 := HV c
   have h2 := qN l
   simp [iK] at h2 ⊢
   omega
theorem C8 (l : List bB) (c : bB) : iK (l ++ [c]) = iK l ++ A0 c := by simp [iK]

attribute [local simp] oF yZ dV in
theorem FN {σ : St} {id k : Nat} {l : List UInt8} {L : List bB} {tL : eK} (h : σ.objs[id]? = some [wrA k l]) (ht : Tk σ.toks k l) (hL : L.length ≤ 255) (hl : l.length ≤ 500000) :
  aB Tryz.prog 125 [.ptr id 0, .sl 5 (aL L) L.length tL] σ (WP id σ k l (kH L)) := by
 have hlt := cR h
 refine bV (qF (A := .ptr id 0) (Pi := fun i : Nat × List Nat => Wr σ.toks k l i.2 i.1 (l ++ kH L)) (τ := fun i => { σ with objs := σ.objs.set id [wrA i.1 (l ++ kH L)], toks := i.2 }) ?_ (by simp [AV.gcO, hlt]) (fun _ => by simp) (fun _ => rfl) (fun _ => A9 (v7 _) (oF _ _ _)) (fun _ => sX _)) (fun av σ' ⟨h1, i, h2, h3⟩ => ⟨h1, i.1, i.2, h2, h3⟩)
 have hs := cP h
 obtain ⟨c, hc⟩ : ∃ c, c = UInt8.ofNat L.length := ⟨_, rfl⟩
 have hcn : c.toNat = L.length := by rw [hc]; exact toNat_ofNat (by omega)
 have hw : IntKind.u8.wrap (L.length : Int) = (c.toNat : Int) := by rw [wrap_u8, hcn, Nat.mod_eq_of_lt (by omega)]
 have ho1 : ∀ r, (σ.objs ++ r)[id]? = some [wrA k l] := fun r => by rw [List.getElem?_append_left hlt]; exact h
 have ho2 : ∀ x r, (σ.objs.set id x ++ r)[id]? = some x := fun x r => by rw [List.getElem?_append_left (by simpa using hlt)]; exact hs x
 have ho3 : ∀ x r, (σ.objs ++ r).set id x = σ.objs.set id x ++ r := fun x r => List.set_append_left _ _ hlt
 have ho4 : ∀ x y r, (σ.objs.set id y ++ r).set id x = σ.objs.set id x ++ r := fun x y r => by rw [List.set_append_left _ _ (by simpa using hlt), List.set_set]
 have hv : (Value.int IntKind.u8 0).cells.size = 1 := rfl
 have F := And.intro hw (And.intro hv (And.intro ho1 (And.intro ho2 (And.intro ho3 (And.intro ho4 (And.intro hlt (True.intro)))))))
 refine aA Tryz.func125 rfl rfl rfl ?_; refine sr fun _ hJ2 => ?_; apply hJ2; refine sr fun _ hJ4 => ?_
 refine ca (c := uA (q := [c]) h ht (by simp) (by omega) (by simp)) (k := ?_)
 rintro _ _ ⟨rfl, k1, tk1, hw1, rfl⟩; (repeat first | simp [F] | simp (disch := omega) only [wC, if_pos, if_neg]); apply hJ4; refine sq fun K5 hK5 => ?_; refine sr fun _ hJ7 => ?_; apply hJ7; refine aH ?_; refine eO (X := WSt) [4, 13, 14] (fun q ρ σ1 => (q.j ≤ L.length) ∧ (Wr σ.toks k l q.tk q.k (l ++ c :: iK (L.take q.j))) ∧ (ρ 0 = .ptr id 0) ∧ (ρ 15 = .v (.int .i64 q.j)) ∧ (σ1 = { σ with objs := σ.objs.set id [wrA q.k (l ++ c :: iK (L.take q.j))], toks := q.tk })) (fun q => L.length - q.j) (⟨0, k1, tk1⟩) ?st1 ?rd1
 case st1 =>
  refine ⟨lp, ?_, lp, lp, ?_⟩
  · simpa [iK] using hw1
  · simp [iK]
 case rd1 =>
  rintro q ρ1 σ1 hF1 ⟨hj, hq, h0, h15, hσ⟩; obtain rfl := hσ.symm
  have f1 := dX hF1
  (try simp [dW, F] at f1); replace F := aF h0 F; replace F := aF h15 F; (try replace F := aF f1 F); refine sr fun _ hJ9 => ?_; apply hJ9; refine sq fun K10 hK10 => ?_; refine cs (fun c16 => ?_) (fun c16 => ?_)
  · (try exact aG c16); all_goals have c16p := c16; try simp [F] at c16p
    all_goals
     replace F := aF c16 F; (try replace F := aF c16p F); refine aD ?_; apply hK10; refine sq fun K11 hK11 => ?_; refine aH ?_; refine sr fun _ hJ13 => ?_; apply hJ13
     have hel := qN (L.take q.j)
     have htl : (L.take q.j).length ≤ 255 := by simp; omega
     refine bQ (by kernel_rfl) fun J14 hJ14 => ?_
     refine q2 0 ?_; refine q2 1 ?_; refine q2 2 ?_; refine q2 3 ?_; refine q2 5 ?_; refine q2 6 ?_
     refine dc 4 rfl (c := uA (l := l ++ c :: iK (L.take q.j)) (q := [L[q.j].d]) (ho2 _ _) hq.tok (by simp) (by simp; omega) (by simp)) (k := ?_)
     rintro _ _ ⟨rfl, k2, tk2, hw2, rfl⟩
     refine ⟨by first | exact fun _ _ h => h | (refine aI [6, 5, 2, 1] (by kernel_rfl) ?_; (repeat' first | exact ln2 | refine lc ?_ ?_) <;> constructor <;> first | rfl | (simp [F]; done)), ?_⟩
     repeat (first | simp [F] | simp (disch := omega) only [wC, if_pos, if_neg])
     refine dc 7 rfl (c := Eo (l := l ++ c :: (iK (L.take q.j) ++ [L[q.j].d])) (x := L[q.j].n.v) (ho2 _ _) (by simpa using hw2.tok) L[q.j].n.h (by simp; omega)) (k := ?_)
     rintro _ _ ⟨rfl, k3, tk3, hw3, rfl⟩
     refine ⟨by first | exact fun _ _ h => h | (refine aI [5, 2, 1] (by kernel_rfl) ?_; (repeat' first | exact ln2 | refine lc ?_ ?_) <;> constructor <;> first | rfl | (simp [F]; done)), ?_⟩
     (repeat first | simp [F] | simp (disch := omega) only [wC, if_pos, if_neg]); refine dop 8 rfl ?_; (repeat first | simp [F] | simp (disch := omega) only [wC, if_pos, if_neg]); (try refine ⟨ln, ?_⟩); refine dd ?_; apply hJ14; apply hK11; refine rg' (h := fun J15 hJ15 => ?_); apply hJ15
     have e3 : iK (L.take (q.j + 1)) = iK (L.take q.j) ++ L[q.j].d :: kQ L[q.j].n.v := by rw [iN (by simp at c16; omega), C8]; rfl
     simp only [List.append_assoc, List.cons_append, List.nil_append] at hw2 hw3
     refine ⟨gk, (⟨q.j + 1, k3, tk3⟩), ⟨kpG, lpG, ?_, lpG, lpG, ?_⟩, lpG⟩
     · simp only [e3]
       exact (hq.trans hw2).trans hw3
     · simp [St.fD, e3]
  (try exact aG c16); all_goals have c16p := c16; try simp [F] at c16p
  all_goals
   replace F := aF c16 F; (try replace F := aF c16p F); refine bO ?_; apply hK5; refine sr fun _ hJ17 => ?_; apply hJ17; refine ra ?_
   have hfull : L.take q.j = L := List.take_of_length_le (by simp at c16; omega)
   rw [hfull] at hq
   rw [hfull]
   have e2 : c :: iK L = kH L := (by simp [kH, hc])
   rw [e2] at hq
   simp only [e2]
   exact ⟨(q.k, q.tk), hq, by simp [F], [], by simp⟩

end Go.Proofs.YtjpnjhlfieklfaaGreat

/-
  Lists of coins: what both readers make of a list's bytes.
-/
namespace Go.Proofs.YtjpnjhlfieklfaaGreat
set_option linter.unnecessarySimpa false
set_option linter.unusedSimpArgs false
set_option linter.unusedVariables false
set_option maxRecDepth 100000
open Go Go.Vm
attribute [local simp] dK aJ dJ opA bD bH cJ bP ofValue dC plain aR aS bY b6 cA cC b7 cE b8 b9 j8 cB cH cG cD bU aV aU bL cS aW dN dP bI bC cN gI bR dD bW AV.cells AV.bA dE cI e6 bF aY cQ dI dS dY cL dR dQ gD

def wY (s : Option (List UInt8)) : UInt8 := (dG 1 s).headD 0
theorem CH (s : Option (List UInt8)) : be (dG 1 s) = (wY s).toNat := by
 have h := jW 1 s
 unfold wY
 match dG 1 s, h with
 | [], _ => rfl
 | [b], _ => simp [be]
 | _ :: _ :: _, h => simp at h

theorem HO (p : List UInt8) : numOf p < 2 ^ 256 := by
 unfold numOf
 split
 · rename_i h
   simp only [mP, Bool.and_eq_true, decide_eq_true_eq] at h
   exact Nat.lt_of_lt_of_le (BB p) (Nat.le_trans (Nat.pow_le_pow_right (by omega) h.1) (by decide))
 · decide

def MT (s : Option (List UInt8)) : Num := ⟨numOf (zB s), HO _⟩
def vB (s : Option (List UInt8)) : bB := ⟨wY s, MT (bX 1 s)⟩

def iY : Nat → Option (List UInt8) → List bB → List bB × Option (List UInt8)
 | 0, s, l => (l, s)
 | _ + 1, none, l => (l, none)
 | m + 1, some p, l => iY m (tM (bX 1 (some p))) (l ++ [vB (some p)])

theorem tF {m : Nat} {s : Option (List UInt8)} {l : List bB} (hm : 0 < m) (hs : ¬ s = none) : iY m s l = iY (m - 1) (tM (bX 1 s)) (l ++ [vB s]) := by
 match m, s, hm, hs with
 | m + 1, some p, _, _ => rfl
theorem cT {m : Nat} {s : Option (List UInt8)} {l : List bB} (h : m = 0 ∨ s = none) : iY m s l = (l, s) := by
 match m, s, h with
 | 0, _, _ => rfl
 | m + 1, none, _ => rfl

def gO (s : Option (List UInt8)) : List bB × Option (List UInt8) := iY (be (dG 1 s)) (bX 1 s) []
def lA (s : Option (List UInt8)) : Option (List UInt8) := if bM (gO s).1 then (gO s).2 else none
def fX (s : Option (List UInt8)) : List bB := if lA s = none then [] else (gO s).1

def slA (k : Nat) (l : List bB) : AV := if l = [] then .sl 0 [] 0 .full else .sl 5 (aL l) l.length (.own k)
def tkA (l : List bB) : List Nat := if l = [] then [] else [l.length]

theorem C6 (k : Nat) (l : List bB) : Wk (slA k l) (.sl 5 (aL l) l.length .shut) := by
 unfold slA
 split
 · rename_i h; subst h; exact Wk.nil _ _ _
 · exact Wk.shut _ _ _ _

@[simp] theorem MK (k : Nat) : slA k [] = .sl 0 [] 0 .full := rfl
@[simp] theorem MF : tkA [] = [] := rfl

theorem oE {σ : St} {k : Nat} {l : List bB} (hl : l.length ≤ 1000000) : aB Tryz.prog 70 [slA k l] σ (fun av σ' => av = .v (.bool (decide (bM l))) ∧ σ = σ') :=
 iS (.cons (C6 k l) .nil) (tI (by omega))
theorem oR {σ : St} : aB Tryz.prog 70 [.sl 0 [] 0 .full] σ (fun av σ' => av = .v (.bool true) ∧ σ = σ') := by
 have := oE (σ := σ) (k := 0) (l := []) (by simp)
 have e : decide (bM []) = true := by decide
 rw [e] at this
 exact this
theorem Bt (s : Option (List UInt8)) : AV.v (.int .u8 (be (dG 1 s) : Nat)) :: aP (numOf (zB (bX 1 s))) = dV (vB s) := by
 rw [CH]; rfl
theorem DL (c : bB) : aO Tryz.prog 23 1 [(0, .agg (dV c))] = some (.sl 5 (dV c) 1 .full) := by kernel_rfl
class Small (l : List bB) : Prop where
 h : l.length ≤ 1000

theorem yK {l : List bB} [hsm : Small l] {c : bB} {objs : List (List AV)} {tk : List Nat} {gl : Nat → Option (List AV)} {rows : List fP} :
  dA Tryz.prog 23 (slA tk.length l) (.sl 5 (dV c) 1 .full) ⟨objs, tk ++ tkA l, gl, rows⟩ = some (slA tk.length (l ++ [c]), ⟨objs, tk ++ tkA (l ++ [c]), gl, rows⟩) := by
 have hl := hsm.h
 by_cases h : l = []
 · subst h
   simp [slA, tkA, dA, kE, fZ, maxLen, aL]
   rfl
 · have h1 : (l.length + 1) * 40 ≤ 140737488355328 := by omega
   have h2 : l.length + 1 ≤ 9223372036854775807 := by omega
   simp [slA, tkA, h, dA, kE, fZ, maxLen, h1, h2, p8]
   rfl
theorem Cw {c : bB} {σ : St} : dA Tryz.prog 23 (.sl 0 [] 0 .full) (.sl 5 (dV c) 1 .full) σ = some (slA σ.toks.length [c], { σ with toks := σ.toks ++ tkA [c] }) := by
 have : Small [] := ⟨by simp⟩
 have := yK (l := []) (c := c) (objs := σ.objs) (tk := σ.toks) (gl := σ.gl) (rows := σ.rows)
 simpa using this

structure CSt where
 m : Nat
 s : Option (List UInt8)
 l : List bB

theorem dO {s : Option (List UInt8)} {L : List bB} {S : Option (List UInt8)} (h : gO s = (L, S)) (h2 : ¬ bM L ∨ S = none) : fX s = [] ∧ lA s = none := by
 have e : lA s = none := by
  unfold lA
  rw [h]
  rcases h2 with h2 | h2
  · rw [if_neg h2]
  · simp [h2]
 exact ⟨by simp [fX, e], e⟩
theorem mU {s : Option (List UInt8)} {L : List bB} {S : Option (List UInt8)} (h : gO s = (L, S)) (h1 : bM L) (h2 : ¬ S = none) : fX s = L ∧ lA s = S := by
 have e : lA s = S := by
  unfold lA
  rw [h, if_pos h1]
 exact ⟨by rw [fX, e, if_neg h2, h], e⟩

set_option maxHeartbeats 1600000 in
attribute [local simp] cV List.getElem?_cons_zero List.getElem?_cons_succ Bt DL Cw yK in
theorem w7 {σ : St} {id : Nat} {s : Option (List UInt8)} (h : σ.objs[id]? = some (rd s)) :
  aB Tryz.prog 90 [.ptr id 0] σ (fun av σ' => av = .sl 5 (aL (fX s)) (fX s).length .shut ∧ σ' = { σ with objs := σ.objs.set id (rd (lA s)) }) := by
 refine rK (Q := fun av σ' => Wk av (.sl 5 (aL (fX s)) (fX s).length .shut) ∧ ∃ l m r, σ' = { σ with objs := σ.objs.set id (rd (lA s)) ++ l, toks := σ.toks ++ m, rows := σ.rows ++ r }) ?_ (fun av σ' h => h) (by simp [AV.under]) (yU _ _)
 have hs := cP h
 have hm := wW (jW 1 s)
 have F := And.intro h (And.intro hs (True.intro))
 refine aA Tryz.func90 rfl rfl rfl ?_; refine sr fun _ hJ2 => ?_; apply hJ2; refine uB 0 (X := CSt) [0] (fun q ρ σ1 => (q.m + q.l.length ≤ 255) ∧ (iY q.m q.s q.l = gO s) ∧ (ρ 4 = .v (.int .u8 q.m)) ∧ (ρ 3 = slA σ.toks.length q.l) ∧ (σ1 = { σ with objs := σ.objs.set id (rd q.s), toks := σ.toks ++ tkA q.l })) (fun q => q.m) rfl ?first ?pass
 case first =>
  refine sr fun _ hJ4 => ?_; apply hJ4; refine sr fun _ hJ6 => ?_
  refine ca (c := m6 (by first | exact h | exact hs _)) (k := ?_)
  rintro _ _ ⟨rfl, rfl⟩; (repeat first | simp [F] | simp (disch := omega) only [wC, if_pos, if_neg]); apply hJ6; refine sq fun K7 hK7 => ?_; refine E2 ?_; apply hK7; refine sq fun K8 hK8 => ?_; refine sr fun _ hJ10 => ?_; refine gs 10 (fun g3_2 => ?_) (fun g3_2 => ?_)
  · (try exact aG g3_2); all_goals have g3_2p := g3_2; try simp [F] at g3_2p
    all_goals
     replace F := aF g3_2 F; (try replace F := aF g3_2p F); refine go2 (k := ?_); refine ca (c := lG (hs _)) (k := ?_); rintro _ _ ⟨rfl, rfl⟩; (repeat first | simp [F] | simp (disch := omega) only [wC, if_pos, if_neg]); refine go2 (k := ?_); apply hJ10; refine cs (fun c14 => ?_) (fun c14 => ?_)
     · (try exact aG c14); all_goals have c14p := c14; try simp [F] at c14p
       all_goals
        replace F := aF c14 F; (try replace F := aF c14p F); refine sr fun _ hJ12 => ?_
        refine ca (c := m6 (by first | exact h | exact hs _)) (k := ?_)
        rintro _ _ ⟨rfl, rfl⟩; (repeat first | simp [F] | simp (disch := omega) only [wC, if_pos, if_neg]); apply hJ12; refine sq fun K13 hK13 => ?_; (try have : Small q.l := ⟨by omega⟩); refine rg' (h := fun J14 hJ14 => ?_); refine ca (c := DE (hs _)) (k := ?_); rintro _ _ ⟨rfl, rfl⟩; (repeat first | simp [F] | simp (disch := omega) only [wC, if_pos, if_neg]); apply hJ14; apply hK13; refine sr fun _ hJ16 => ?_; apply hJ16; refine B1 ?_; refine ⟨rfl, (⟨be (dG 1 s) - 1, tM (bX 1 (bX 1 s)), [vB (bX 1 s)]⟩), ⟨kp, lp, ?_, lp, lp, lp⟩⟩
        · exact (tF (l := []) g3_2p (by intro e; simp [e] at c14p)).symm
     (try exact aG c14); all_goals have c14p := c14; try simp [F] at c14p
     all_goals
      replace F := aF c14 F; (try replace F := aF c14p F); refine aD ?_; apply hK8; refine sq fun K17 hK17 => ?_; refine sr fun _ hJ19 => ?_
      refine ca (c := (by first | exact oR | exact oE (by omega))) (k := ?_)
      rintro _ _ ⟨rfl, rfl⟩; (repeat first | simp [F] | simp (disch := omega) only [wC, if_pos, if_neg]); apply hJ19; refine cs (fun c28 => ?_) (fun c28 => ?_)
      · (try exact aG c28); all_goals have c28p := c28; try simp [F] at c28p
        all_goals
         replace F := aF c28 F; (try replace F := aF c28p F); refine rg' (h := fun J20 hJ20 => ?_); refine ca (c := nG (hs _)) (k := ?_); rintro _ _ ⟨rfl, rfl⟩; (repeat first | simp [F] | simp (disch := omega) only [wC, if_pos, if_neg]); apply hJ20; apply hK17; refine sq fun K21 hK21 => ?_; refine sr fun _ hJ23 => ?_; refine ca (c := lG (hs _)) (k := ?_); rintro _ _ ⟨rfl, rfl⟩; (repeat first | simp [F] | simp (disch := omega) only [wC, if_pos, if_neg]); apply hJ23; refine cs (fun c32 => ?_) (fun c32 => ?_)
         · (try exact aG c32); all_goals have c32p := c32; try simp [F] at c32p
           all_goals
            replace F := aF c32 F; (try replace F := aF c32p F); refine sr fun _ hJ25 => ?_; apply hJ25; refine ra ?_
            have e : gO s = (q.l, q.s) := by rw [← hg]; exact cT (by first | (left; simp at g3_2; omega) | (right; simpa using c14))
            obtain ⟨e1, e2⟩ := dO e (.inl (by simpa using c28))
            rw [e1, e2]
            exact ⟨Wk.nil _ _ _, [], tkA q.l, [], by simp⟩
         (try exact aG c32); all_goals have c32p := c32; try simp [F] at c32p
         all_goals
          replace F := aF c32 F; (try replace F := aF c32p F); refine aD ?_; apply hK21; refine sr fun _ hJ27 => ?_; apply hJ27; refine ra ?_
          have e : gO s = (q.l, q.s) := by rw [← hg]; exact cT (by first | (left; simp at g3_2; omega) | (right; simpa using c14))
          obtain ⟨e1, e2⟩ := dO e (.inl (by simpa using c28))
          rw [e1, e2]
          exact ⟨Wk.nil _ _ _, [], tkA q.l, [], by simp⟩
      (try exact aG c28); all_goals have c28p := c28; try simp [F] at c28p
      all_goals
       replace F := aF c28 F; (try replace F := aF c28p F); refine aD ?_; apply hK17; refine sq fun K28 hK28 => ?_; refine sr fun _ hJ30 => ?_; refine ca (c := lG (hs _)) (k := ?_); rintro _ _ ⟨rfl, rfl⟩; (repeat first | simp [F] | simp (disch := omega) only [wC, if_pos, if_neg]); apply hJ30; refine cs (fun c32 => ?_) (fun c32 => ?_)
       · (try exact aG c32); all_goals have c32p := c32; try simp [F] at c32p
         all_goals
          replace F := aF c32 F; (try replace F := aF c32p F); refine sr fun _ hJ32 => ?_; apply hJ32; refine ra ?_
          first | (obtain ⟨e1, e2⟩ := dO (L := q.l) (S := q.s) (by rw [← hg]; exact cT (.inr (by simpa using c14))) (.inr (by simpa using c14)); rw [e1, e2]; exact ⟨Wk.nil _ _ _, [], tkA q.l, [], by simp⟩) | (have h0 : bX 1 s = none := (by simpa using c14); obtain ⟨e1, e2⟩ := dO (by rw [gO, cT (.inr h0)]) (.inr h0); rw [e1, e2]; exact ⟨Wk.nil _ _ _, [], [], [], by simp⟩)
       (try exact aG c32); all_goals have c32p := c32; try simp [F] at c32p
       all_goals
        replace F := aF c32 F; (try replace F := aF c32p F); refine aD ?_; apply hK28; refine sr fun _ hJ34 => ?_; apply hJ34; refine ra ?_
        first | (obtain ⟨e1, e2⟩ := dO (L := q.l) (S := q.s) (by rw [← hg]; exact cT (.inr (by simpa using c14))) (.inr (by simpa using c14)); rw [e1, e2]; exact ⟨Wk.nil _ _ _, [], tkA q.l, [], by simp⟩) | (have h0 : bX 1 s = none := (by simpa using c14); obtain ⟨e1, e2⟩ := dO (by rw [gO, cT (.inr h0)]) (.inr h0); rw [e1, e2]; exact ⟨Wk.nil _ _ _, [], [], [], by simp⟩)
  (try exact aG g3_2); all_goals have g3_2p := g3_2; try simp [F] at g3_2p
  all_goals
   replace F := aF g3_2 F; (try replace F := aF g3_2p F); (iterate 3 refine no2 (k := ?_)); apply hJ10; refine cf ?_; refine aD ?_; apply hK8; refine sq fun K35 hK35 => ?_; refine sr fun _ hJ37 => ?_
   refine ca (c := (by first | exact oR | exact oE (by omega))) (k := ?_)
   rintro _ _ ⟨rfl, rfl⟩; (repeat first | simp [F] | simp (disch := omega) only [wC, if_pos, if_neg]); apply hJ37; refine cs (fun c28 => ?_) (fun c28 => ?_)
   · (try exact aG c28); all_goals have c28p := c28; try simp [F] at c28p
     all_goals
      replace F := aF c28 F; (try replace F := aF c28p F); refine rg' (h := fun J38 hJ38 => ?_); refine ca (c := nG (hs _)) (k := ?_); rintro _ _ ⟨rfl, rfl⟩; (repeat first | simp [F] | simp (disch := omega) only [wC, if_pos, if_neg]); apply hJ38; apply hK35; refine sq fun K39 hK39 => ?_; refine sr fun _ hJ41 => ?_; refine ca (c := lG (hs _)) (k := ?_); rintro _ _ ⟨rfl, rfl⟩; (repeat first | simp [F] | simp (disch := omega) only [wC, if_pos, if_neg]); apply hJ41; refine cs (fun c32 => ?_) (fun c32 => ?_)
      · (try exact aG c32); all_goals have c32p := c32; try simp [F] at c32p
        all_goals
         replace F := aF c32 F; (try replace F := aF c32p F); refine sr fun _ hJ43 => ?_; apply hJ43; refine ra ?_
         have e : gO s = (q.l, q.s) := by rw [← hg]; exact cT (by first | (left; simp at g3_2; omega) | (right; simpa using c14))
         obtain ⟨e1, e2⟩ := dO e (.inl (by simpa using c28))
         rw [e1, e2]
         exact ⟨Wk.nil _ _ _, [], tkA q.l, [], by simp⟩
      (try exact aG c32); all_goals have c32p := c32; try simp [F] at c32p
      all_goals
       replace F := aF c32 F; (try replace F := aF c32p F); refine aD ?_; apply hK39; refine sr fun _ hJ45 => ?_; apply hJ45; refine ra ?_
       have e : gO s = (q.l, q.s) := by rw [← hg]; exact cT (by first | (left; simp at g3_2; omega) | (right; simpa using c14))
       obtain ⟨e1, e2⟩ := dO e (.inl (by simpa using c28))
       rw [e1, e2]
       exact ⟨Wk.nil _ _ _, [], tkA q.l, [], by simp⟩
   (try exact aG c28); all_goals have c28p := c28; try simp [F] at c28p
   all_goals
    replace F := aF c28 F; (try replace F := aF c28p F); refine aD ?_; apply hK35; refine sq fun K46 hK46 => ?_; refine sr fun _ hJ48 => ?_; refine ca (c := lG (hs _)) (k := ?_); rintro _ _ ⟨rfl, rfl⟩; (repeat first | simp [F] | simp (disch := omega) only [wC, if_pos, if_neg]); apply hJ48; refine cs (fun c32 => ?_) (fun c32 => ?_)
    · (try exact aG c32); all_goals have c32p := c32; try simp [F] at c32p
      all_goals
       replace F := aF c32 F; (try replace F := aF c32p F); refine sr fun _ hJ50 => ?_; apply hJ50; refine ra ?_
       first | (obtain ⟨e1, e2⟩ := dO (L := q.l) (S := q.s) (by rw [← hg]; exact cT (.inr (by simpa using c32))) (.inr (by simpa using c32)); rw [e1, e2]; exact ⟨Wk.nil _ _ _, [], tkA q.l, [], by simp⟩) | (have h0 : bX 1 s = none := (by simpa using c32); obtain ⟨e1, e2⟩ := dO (by rw [gO, cT (.inr h0)]) (.inr h0); rw [e1, e2]; exact ⟨Wk.nil _ _ _, [], [], [], by simp⟩)
    (try exact aG c32); all_goals have c32p := c32; try simp [F] at c32p
    all_goals
     replace F := aF c32 F; (try replace F := aF c32p F); refine aD ?_; apply hK46; refine sr fun _ hJ52 => ?_; apply hJ52; refine ra ?_
     first | (obtain ⟨e1, e2⟩ := mU (L := q.l) (S := q.s) (by rw [← hg]; exact cT (.inl (by simp at g3_2; omega))) (by simpa using c28) (by intro e; simp [e] at c32); rw [e1, e2]; exact ⟨C6 _ _, [], tkA q.l, [], by simp⟩) | (have h0 : be (dG 1 s) = 0 := (by simp at g3_2; omega); obtain ⟨e1, e2⟩ := mU (by rw [gO, cT (.inl h0)]) (by decide) (by intro e; simp [e] at c32); rw [e1, e2]; exact ⟨Wk.nil _ _ _, [], [], [], by simp⟩)
 case pass =>
  rintro q ρgoto σ1 hFgoto ⟨hm, hg, h4, h3, hσ⟩; obtain rfl := hσ.symm
  have fgoto := dX hFgoto
  (try simp [dW, F] at fgoto); replace F := aF h4 F; replace F := aF h3 F; (try replace F := aF fgoto F); refine sq fun K53 hK53 => ?_; refine aD ?_; apply hK53; refine sq fun K54 hK54 => ?_; refine sr fun _ hJ56 => ?_; refine gs 10 (fun g3_2 => ?_) (fun g3_2 => ?_)
  · (try exact aG g3_2); all_goals have g3_2p := g3_2; try simp [F] at g3_2p
    all_goals
     replace F := aF g3_2 F; (try replace F := aF g3_2p F); refine go2 (k := ?_); refine ca (c := lG (hs _)) (k := ?_); rintro _ _ ⟨rfl, rfl⟩; (repeat first | simp [F] | simp (disch := omega) only [wC, if_pos, if_neg]); refine go2 (k := ?_); apply hJ56; refine cs (fun c14 => ?_) (fun c14 => ?_)
     · (try exact aG c14); all_goals have c14p := c14; try simp [F] at c14p
       all_goals
        replace F := aF c14 F; (try replace F := aF c14p F); refine sr fun _ hJ58 => ?_
        refine ca (c := m6 (by first | exact h | exact hs _)) (k := ?_)
        rintro _ _ ⟨rfl, rfl⟩; (repeat first | simp [F] | simp (disch := omega) only [wC, if_pos, if_neg]); apply hJ58; refine sq fun K59 hK59 => ?_; (try have : Small q.l := ⟨by omega⟩); refine rg' (h := fun J60 hJ60 => ?_); refine ca (c := DE (hs _)) (k := ?_); rintro _ _ ⟨rfl, rfl⟩; (repeat first | simp [F] | simp (disch := omega) only [wC, if_pos, if_neg]); apply hJ60; apply hK59; refine sr fun _ hJ62 => ?_; apply hJ62; refine B1 ?_; refine ⟨rfl, (⟨q.m - 1, tM (bX 1 q.s), q.l ++ [vB q.s]⟩), ⟨kp, ?_, ?_, lp, lp, ?_⟩, ?_⟩
        · simp
          omega
        · rw [← hg]
          exact (tF g3_2p (by intro e; simp [e] at c14p)).symm
        · rfl
        · simp
          omega
     (try exact aG c14); all_goals have c14p := c14; try simp [F] at c14p
     all_goals
      replace F := aF c14 F; (try replace F := aF c14p F); refine aD ?_; apply hK54; refine sq fun K63 hK63 => ?_; refine sr fun _ hJ65 => ?_
      refine ca (c := (by first | exact oR | exact oE (by omega))) (k := ?_)
      rintro _ _ ⟨rfl, rfl⟩; (repeat first | simp [F] | simp (disch := omega) only [wC, if_pos, if_neg]); apply hJ65; refine cs (fun c28 => ?_) (fun c28 => ?_)
      · (try exact aG c28); all_goals have c28p := c28; try simp [F] at c28p
        all_goals
         replace F := aF c28 F; (try replace F := aF c28p F); refine rg' (h := fun J66 hJ66 => ?_); refine ca (c := nG (hs _)) (k := ?_); rintro _ _ ⟨rfl, rfl⟩; (repeat first | simp [F] | simp (disch := omega) only [wC, if_pos, if_neg]); apply hJ66; apply hK63; refine sq fun K67 hK67 => ?_; refine sr fun _ hJ69 => ?_; refine ca (c := lG (hs _)) (k := ?_); rintro _ _ ⟨rfl, rfl⟩; (repeat first | simp [F] | simp (disch := omega) only [wC, if_pos, if_neg]); apply hJ69; refine cs (fun c32 => ?_) (fun c32 => ?_)
         · (try exact aG c32); all_goals have c32p := c32; try simp [F] at c32p
           all_goals
            replace F := aF c32 F; (try replace F := aF c32p F); refine sr fun _ hJ71 => ?_; apply hJ71; refine ra ?_
            have e : gO s = (q.l, q.s) := by rw [← hg]; exact cT (by first | (left; simp at g3_2; omega) | (right; simpa using c14))
            obtain ⟨e1, e2⟩ := dO e (.inl (by simpa using c28))
            rw [e1, e2]
            exact ⟨Wk.nil _ _ _, [], tkA q.l, [], by simp⟩
         (try exact aG c32); all_goals have c32p := c32; try simp [F] at c32p
         all_goals
          replace F := aF c32 F; (try replace F := aF c32p F); refine aD ?_; apply hK67; refine sr fun _ hJ73 => ?_; apply hJ73; refine ra ?_
          have e : gO s = (q.l, q.s) := by rw [← hg]; exact cT (by first | (left; simp at g3_2; omega) | (right; simpa using c14))
          obtain ⟨e1, e2⟩ := dO e (.inl (by simpa using c28))
          rw [e1, e2]
          exact ⟨Wk.nil _ _ _, [], tkA q.l, [], by simp⟩
      (try exact aG c28); all_goals have c28p := c28; try simp [F] at c28p
      all_goals
       replace F := aF c28 F; (try replace F := aF c28p F); refine aD ?_; apply hK63; refine sq fun K74 hK74 => ?_; refine sr fun _ hJ76 => ?_; refine ca (c := lG (hs _)) (k := ?_); rintro _ _ ⟨rfl, rfl⟩; (repeat first | simp [F] | simp (disch := omega) only [wC, if_pos, if_neg]); apply hJ76; refine cs (fun c32 => ?_) (fun c32 => ?_)
       · (try exact aG c32); all_goals have c32p := c32; try simp [F] at c32p
         all_goals
          replace F := aF c32 F; (try replace F := aF c32p F); refine sr fun _ hJ78 => ?_; apply hJ78; refine ra ?_
          first | (obtain ⟨e1, e2⟩ := dO (L := q.l) (S := q.s) (by rw [← hg]; exact cT (.inr (by simpa using c14))) (.inr (by simpa using c14)); rw [e1, e2]; exact ⟨Wk.nil _ _ _, [], tkA q.l, [], by simp⟩) | (have h0 : bX 1 s = none := (by simpa using c14); obtain ⟨e1, e2⟩ := dO (by rw [gO, cT (.inr h0)]) (.inr h0); rw [e1, e2]; exact ⟨Wk.nil _ _ _, [], [], [], by simp⟩)
       (try exact aG c32); all_goals have c32p := c32; try simp [F] at c32p
       all_goals
        replace F := aF c32 F; (try replace F := aF c32p F); refine aD ?_; apply hK74; refine sr fun _ hJ80 => ?_; apply hJ80; refine ra ?_
        first | (obtain ⟨e1, e2⟩ := dO (L := q.l) (S := q.s) (by rw [← hg]; exact cT (.inr (by simpa using c14))) (.inr (by simpa using c14)); rw [e1, e2]; exact ⟨Wk.nil _ _ _, [], tkA q.l, [], by simp⟩) | (have h0 : bX 1 s = none := (by simpa using c14); obtain ⟨e1, e2⟩ := dO (by rw [gO, cT (.inr h0)]) (.inr h0); rw [e1, e2]; exact ⟨Wk.nil _ _ _, [], [], [], by simp⟩)
  (try exact aG g3_2); all_goals have g3_2p := g3_2; try simp [F] at g3_2p
  all_goals
   replace F := aF g3_2 F; (try replace F := aF g3_2p F); (iterate 3 refine no2 (k := ?_)); apply hJ56; refine cf ?_; refine aD ?_; apply hK54; refine sq fun K81 hK81 => ?_; refine sr fun _ hJ83 => ?_
   refine ca (c := (by first | exact oR | exact oE (by omega))) (k := ?_)
   rintro _ _ ⟨rfl, rfl⟩; (repeat first | simp [F] | simp (disch := omega) only [wC, if_pos, if_neg]); apply hJ83; refine cs (fun c28 => ?_) (fun c28 => ?_)
   · (try exact aG c28); all_goals have c28p := c28; try simp [F] at c28p
     all_goals
      replace F := aF c28 F; (try replace F := aF c28p F); refine rg' (h := fun J84 hJ84 => ?_); refine ca (c := nG (hs _)) (k := ?_); rintro _ _ ⟨rfl, rfl⟩; (repeat first | simp [F] | simp (disch := omega) only [wC, if_pos, if_neg]); apply hJ84; apply hK81; refine sq fun K85 hK85 => ?_; refine sr fun _ hJ87 => ?_; refine ca (c := lG (hs _)) (k := ?_); rintro _ _ ⟨rfl, rfl⟩; (repeat first | simp [F] | simp (disch := omega) only [wC, if_pos, if_neg]); apply hJ87; refine cs (fun c32 => ?_) (fun c32 => ?_)
      · (try exact aG c32); all_goals have c32p := c32; try simp [F] at c32p
        all_goals
         replace F := aF c32 F; (try replace F := aF c32p F); refine sr fun _ hJ89 => ?_; apply hJ89; refine ra ?_
         have e : gO s = (q.l, q.s) := by rw [← hg]; exact cT (by first | (left; simp at g3_2; omega) | (right; simpa using c14))
         obtain ⟨e1, e2⟩ := dO e (.inl (by simpa using c28))
         rw [e1, e2]
         exact ⟨Wk.nil _ _ _, [], tkA q.l, [], by simp⟩
      (try exact aG c32); all_goals have c32p := c32; try simp [F] at c32p
      all_goals
       replace F := aF c32 F; (try replace F := aF c32p F); refine aD ?_; apply hK85; refine sr fun _ hJ91 => ?_; apply hJ91; refine ra ?_
       have e : gO s = (q.l, q.s) := by rw [← hg]; exact cT (by first | (left; simp at g3_2; omega) | (right; simpa using c14))
       obtain ⟨e1, e2⟩ := dO e (.inl (by simpa using c28))
       rw [e1, e2]
       exact ⟨Wk.nil _ _ _, [], tkA q.l, [], by simp⟩
   (try exact aG c28); all_goals have c28p := c28; try simp [F] at c28p
   all_goals
    replace F := aF c28 F; (try replace F := aF c28p F); refine aD ?_; apply hK81; refine sq fun K92 hK92 => ?_; refine sr fun _ hJ94 => ?_; refine ca (c := lG (hs _)) (k := ?_); rintro _ _ ⟨rfl, rfl⟩; (repeat first | simp [F] | simp (disch := omega) only [wC, if_pos, if_neg]); apply hJ94; refine cs (fun c32 => ?_) (fun c32 => ?_)
    · (try exact aG c32); all_goals have c32p := c32; try simp [F] at c32p
      all_goals
       replace F := aF c32 F; (try replace F := aF c32p F); refine sr fun _ hJ96 => ?_; apply hJ96; refine ra ?_
       first | (obtain ⟨e1, e2⟩ := dO (L := q.l) (S := q.s) (by rw [← hg]; exact cT (.inr (by simpa using c32))) (.inr (by simpa using c32)); rw [e1, e2]; exact ⟨Wk.nil _ _ _, [], tkA q.l, [], by simp⟩) | (have h0 : bX 1 s = none := (by simpa using c32); obtain ⟨e1, e2⟩ := dO (by rw [gO, cT (.inr h0)]) (.inr h0); rw [e1, e2]; exact ⟨Wk.nil _ _ _, [], [], [], by simp⟩)
    (try exact aG c32); all_goals have c32p := c32; try simp [F] at c32p
    all_goals
     replace F := aF c32 F; (try replace F := aF c32p F); refine aD ?_; apply hK92; refine sr fun _ hJ98 => ?_; apply hJ98; refine ra ?_
     first | (obtain ⟨e1, e2⟩ := mU (L := q.l) (S := q.s) (by rw [← hg]; exact cT (.inl (by simp at g3_2; omega))) (by simpa using c28) (by intro e; simp [e] at c32); rw [e1, e2]; exact ⟨C6 _ _, [], tkA q.l, [], by simp⟩) | (have h0 : be (dG 1 s) = 0 := (by simp at g3_2; omega); obtain ⟨e1, e2⟩ := mU (by rw [gO, cT (.inl h0)]) (by decide) (by intro e; simp [e] at c32); rw [e1, e2]; exact ⟨Wk.nil _ _ _, [], [], [], by simp⟩)

theorem vQ : ∀ (m : Nat) (s : Option (List UInt8)) (l : List bB), (iY m s l).1.length ≤ m + l.length
 | 0, _, _ => by simp [iY]
 | m + 1, none, l => by simp [iY]
 | m + 1, some p, l => by
   have := vQ m (tM (bX 1 (some p))) (l ++ [vB (some p)])
   simp only [iY, List.length_append, List.length_cons, List.length_nil] at this ⊢
   omega
theorem z9 (s : Option (List UInt8)) : (fX s).length ≤ 255 := by
 unfold fX
 split
 · simp
 · have := vQ (be (dG 1 s)) (bX 1 s) []
   have hm := wW (jW 1 s)
   simp only [List.length_nil] at this
   unfold gO
   omega

end Go.Proofs.YtjpnjhlfieklfaaGreat

/-
  The plain law of what lies behind a beginning, in a store; what is written is read.
-/
namespace Go.Proofs.YtjpnjhlfieklfaaGreat
set_option linter.unnecessarySimpa false
set_option maxRecDepth 100000
set_option linter.unusedSimpArgs false
set_option linter.unusedVariables false
open Go Go.Vm

theorem E3 (b : UInt8) (p : List UInt8) : preB [] (b :: p) = false := by simp [preB]
theorem zK (a b : UInt8) (l m : List UInt8) : preB (a :: l) (b :: m) = (decide (a = b) && preB l m) := by
 rw [Bool.eq_iff_iff]
 simp only [preB, List.length_cons, List.take_succ_cons, List.cons.injEq, Bool.and_eq_true, decide_eq_true_eq]
 constructor
 · rintro ⟨h1, h2, h3⟩; exact ⟨h2, by omega, h3⟩
 · rintro ⟨h1, h2, h3⟩; exact ⟨by omega, h1, h3⟩

theorem En : ∀ {a p : List UInt8}, ltB a p = true → preB a p = false
 | a, [], h => by rw [v8] at h; cases h
 | [], b :: p, _ => E3 b p
 | x :: a, y :: p, h => by
   rw [zK]
   by_cases e : x = y
   · rw [ltB, if_pos e] at h; simp [En h]
   · simp [e]

theorem Es : ∀ {p a b : List UInt8}, ltB a p = false → preB a p = false → ltB a b = true → preB b p = false
 | [], a, b, _, h, _ => by rw [HZ] at h; cases h
 | y :: p, a, [], _, _, h => by rw [v8] at h; cases h
 | y :: p, [], z :: b, h, _, _ => by cases h
 | y :: p, x :: a, z :: b, h1, h2, h3 => by
   rw [zK] at h2 ⊢
   rw [ltB] at h1 h3
   by_cases e : z = y
   · subst e
     by_cases e2 : x = z
     · rw [if_pos e2] at h1 h3; simp [e2] at h2; simp [Es h1 h2 h3]
     · rw [if_neg e2] at h1 h3; simp at h1 h3; omega
   · simp [e]

theorem Ar {p : List UInt8} : ∀ {l : List Pr}, Srt l → (∀ x ∈ l, ltB x.k p = false) → (l.takeWhile fun x => preB x.k p) = l.filter fun x => preB x.k p
 | [], _, _ => rfl
 | a :: l, h, hg => by
   have l1 := List.pairwise_cons.1 h
   have ih := Ar l1.2 (fun x hx => hg x (by simp [hx]))
   rw [List.takeWhile_cons, List.filter_cons]
   cases hp : preB a.k p with
   | true => simp [ih]
   | false =>
     simp only [Bool.false_eq_true, if_false]
     symm
     rw [List.filter_eq_nil_iff]
     intro x hx
     rw [Es (hg a (by simp)) hp (l1.1 x hx)]
     simp

theorem oN {p : List UInt8} : ∀ {l : List Pr}, Srt l → vN l p = (l.filter fun x => preB x.k p).map (·.k)
 | [], _ => rfl
 | a :: l, h => by
   have l1 := List.pairwise_cons.1 h
   cases ha : ltB a.k p with
   | true =>
     have ih := oN (p := p) l1.2
     have hf : fF (a :: l) p = fF l p + 1 := by simp [fF, ha]
     unfold vN at ih ⊢
     rw [hf, List.drop_succ_cons, ih, List.filter_cons, En ha]
     simp
   | false =>
     have hf : fF (a :: l) p = 0 := by simp [fF, ha]
     unfold vN
     rw [hf, List.drop_zero, Ar h ?_]
     intro x hx
     rcases List.mem_cons.1 hx with rfl | hx
     · exact ha
     · cases hx2 : ltB x.k p with
       | false => rfl
       | true => have := jF (l1.1 x hx) hx2; rw [ha] at this; cases this

theorem Eh {K : List (List UInt8)} {i : Nat} (h : i < K.length) (h2 : i < (lF K).length) : (lF K)[i]'h2 = .sl 1 (aQ K[i]) K[i].length .shut := (List.getElem?_eq_some_iff.1 (JH h)).2

def pl (L : List Pr) (p : List UInt8) : List Pr := L.filter fun x => preB x.k p
theorem Ay {L : List Pr} {p : List UInt8} (h : Srt L) : Srt (pl L p) := List.Pairwise.filter _ h
theorem nI (a : Pr) (l : List Pr) (k : List UInt8) (o : Option (List UInt8)) : gR (a :: l) k o = if a.k = k then (match o with | some v => ⟨k, v⟩ :: l | none => l) else if ltB k a.k then (match o with | some v => ⟨k, v⟩ :: a :: l | none => a :: l) else a :: gR l k o := by cases o <;> rfl
theorem DP {k : List UInt8} {o : Option (List UInt8)} {l : List Pr} (h : ∀ q ∈ l, ltB k q.k = true) : gR l k o = match o with | some v => ⟨k, v⟩ :: l | none => l := by
 cases l with
 | nil => cases o <;> rfl
 | cons a l =>
   have h0 := h a (by simp)
   rw [nI, if_neg (fun e => tZ h0 e.symm), if_pos h0]
theorem J0 {p k : List UInt8} {o : Option (List UInt8)} (hk : preB k p = true) : ∀ {L : List Pr}, Srt L → pl (gR L k o) p = gR (pl L p) k o
 | [], _ => by cases o <;> simp [pl, gR, hk]
 | a :: L, h => by
   have l1 := List.pairwise_cons.1 h
   have ih := J0 (o := o) hk l1.2
   have hf : pl (a :: L) p = if preB a.k p then a :: pl L p else pl L p := by simp only [pl, List.filter_cons]
   by_cases e : a.k = k
   · have ha : preB a.k p = true := by rw [e]; exact hk
     rw [hf, if_pos ha, nI, if_pos e, nI, if_pos e]
     cases o with
     | none => rfl
     | some v => simp only [pl, List.filter_cons, hk, if_true]
   · by_cases e2 : ltB k a.k = true
     · have hall : ∀ q ∈ pl (a :: L) p, ltB k q.k = true := fun q hq => by
        rcases List.mem_cons.1 (List.mem_filter.1 hq).1 with rfl | h2
        · exact e2
        · exact jF e2 (l1.1 q h2)
       rw [DP hall, nI, if_neg e, if_pos e2]
       cases o with
       | none => rfl
       | some v => simp only [pl, List.filter_cons, hk, if_true]
     · rw [nI, if_neg e, if_neg e2, hf]
       have hf2 : pl (a :: gR L k o) p = if preB a.k p then a :: pl (gR L k o) p else pl (gR L k o) p := by simp only [pl, List.filter_cons]
       rw [hf2, ih]
       split
       · rw [nI, if_neg e, if_neg e2]
       · rfl
theorem DU {p k : List UInt8} {o : Option (List UInt8)} (hk : preB k p = false) : ∀ {L : List Pr}, pl (gR L k o) p = pl L p
 | [] => by cases o <;> simp [pl, gR, hk]
 | a :: L => by
   have ih := DU (o := o) hk (L := L)
   by_cases e : a.k = k
   · have ha : preB a.k p = false := by rw [e]; exact hk
     rw [nI, if_pos e]
     cases o with
     | none => simp [pl, ha]
     | some v => simp [pl, ha, hk]
   · by_cases e2 : ltB k a.k = true
     · rw [nI, if_neg e, if_pos e2]
       cases o with
       | none => rfl
       | some v => simp [pl, hk]
     · rw [nI, if_neg e, if_neg e2]
       simp only [pl, List.filter_cons] at ih ⊢
       rw [ih]
theorem nF {p k : List UInt8} (hk : preB k p = true) : ∀ {L : List Pr}, eX (pl L p) k = eX L k
 | [] => rfl
 | a :: L => by
   have ih := nF hk (L := L)
   simp only [pl, List.filter_cons] at ih ⊢
   by_cases e : a.k = k
   · rw [if_pos (by rw [e]; exact hk), eX, eX, if_pos e, if_pos e]
   · split
     · rw [eX, eX, if_neg e, if_neg e, ih]
     · rw [eX, if_neg e, ih]

theorem uC {E q : List UInt8} {n : Nat} (h : E.length = n) : bX n (some (E ++ q)) = some q ∧ dG n (some (E ++ q)) = E := by
 subst h
 simp [bX, dG]
theorem lO (b : UInt8) (q : List UInt8) : bX 1 (some (b :: q)) = some q ∧ dG 1 (some (b :: q)) = [b] := uC (E := [b]) rfl
theorem vP (x : Nat) : be (aN x) = x := by
 induction x using Nat.strongRecOn with
 | _ x ih =>
   by_cases h : x = 0
   · subst h; simp [gJ, be]
   · rw [kL (by omega), Bp, ih (x / 256) (by omega), toNat_ofNat (by omega)]
     omega
theorem y6 (x : Nat) : (aN x).headD 1 ≠ 0 := by
 induction x using Nat.strongRecOn with
 | _ x ih =>
   by_cases h : x = 0
   · subst h; simp [gJ]
   · rw [kL (by omega)]
     by_cases h2 : x / 256 = 0
     · rw [h2, gJ]
       simp only [List.nil_append, List.headD_cons]
       intro e
       have := congrArg UInt8.toNat e
       rw [toNat_ofNat (by omega)] at this
       simp at this; omega
     · have h3 := ih (x / 256) (by omega)
       cases h4 : aN (x / 256) with
       | nil => exact absurd (s7.1 h4) h2
       | cons b l => rw [h4] at h3; simpa using h3
theorem lV {x : Nat} (hx : x < 2 ^ 256) : (aN x).length ≤ 32 := oO x 32 (by simpa using hx)
theorem Cd {x : Nat} (hx : x < 2 ^ 256) : (kQ x).length ≤ 33 := by have := lV hx; simp [kQ]; omega
theorem vU {x : Nat} (hx : x < 2 ^ 256) : mP (aN x) = true := by
 have h1 := lV hx
 have h2 := y6 x
 simp only [mP, Bool.and_eq_true, decide_eq_true_eq, bne_iff_ne]
 exact ⟨h1, h2⟩
theorem EO {x : Nat} (hx : x < 2 ^ 256) (q : List UInt8) : tM (some (kQ x ++ q)) = some q ∧ numOf (zB (some (kQ x ++ q))) = x := by
 have hle := lV hx
 obtain ⟨h1, h2⟩ := lO (UInt8.ofNat (aN x).length) (aN x ++ q)
 have h3 : be [UInt8.ofNat (aN x).length] = (aN x).length := by
  have : (UInt8.ofNat (aN x).length).toNat = (aN x).length := toNat_ofNat (by omega)
  simp only [be, List.foldl_cons, List.foldl_nil]
  omega
 obtain ⟨h4, h5⟩ := uC (E := aN x) (q := q) rfl
 have hb : zB (some (kQ x ++ q)) = aN x := by
  show dG (be (dG 1 (some (UInt8.ofNat (aN x).length :: (aN x ++ q))))) (bX 1 (some (UInt8.ofNat (aN x).length :: (aN x ++ q)))) = _
  rw [h1, h2, h3, h5]
 have hok := vU hx
 refine ⟨?_, by rw [hb, numOf, hok]; simpa using vP x⟩
 unfold tM
 rw [hb, hok]
 show (if true = true then bX (be (dG 1 (some (UInt8.ofNat (aN x).length :: (aN x ++ q))))) (bX 1 (some (UInt8.ofNat (aN x).length :: (aN x ++ q)))) else none) = _
 rw [h1, h2, h3, h4]
 rfl

theorem Kd {σ : St} {id : Nat} {b : UInt8} {q : List UInt8} (h : σ.objs[id]? = some (rd (some (b :: q)))) :
  aB Tryz.prog 58 [.ptr id 0] σ (fun av σ' => av = .v (.int .u8 b.toNat) ∧ σ' = { σ with objs := σ.objs.set id (rd (some q)) }) :=
 bV (m6 h) (fun av σ' ⟨e1, e2⟩ => by
  rw [(lO b q).2] at e1; rw [(lO b q).1] at e2
  exact ⟨by rw [e1]; simp [be], e2⟩)
theorem Hw (c : bB) (q : List UInt8) : tM (bX 1 (some (A0 c ++ q))) = some q ∧ vB (some (A0 c ++ q)) = c := by
 obtain ⟨h1, h2⟩ := lO c.d (kQ c.n.v ++ q)
 obtain ⟨h3, h4⟩ := EO c.n.h q
 have e : A0 c ++ q = c.d :: (kQ c.n.v ++ q) := by simp [A0]
 rw [e, h1]
 refine ⟨h3, ?_⟩
 unfold vB
 rw [h1]
 refine bB.ext ?_ (Num.ext h4)
 show wY (some (c.d :: (kQ c.n.v ++ q))) = c.d
 unfold wY
 rw [h2]; rfl

theorem p7 : ∀ (L : List bB) (q : List UInt8) (l : List bB), iY L.length (some (iK L ++ q)) l = (l ++ L, some q)
 | [], q, l => by simp [iY, iK]
 | c :: L, q, l => by
   have e : iK (c :: L) ++ q = A0 c ++ (iK L ++ q) := by simp [iK]
   obtain ⟨h1, h2⟩ := Hw c (iK L ++ q)
   rw [e]
   simp only [List.length_cons, iY]
   rw [h1, h2, p7 L q]
   simp

theorem BF {L : List bB} (hL : L.length ≤ 255) : be [UInt8.ofNat L.length] = L.length := by
 have : (UInt8.ofNat L.length).toNat = L.length := toNat_ofNat (by omega)
 simp only [be, List.foldl_cons, List.foldl_nil]
 omega

theorem uR {L : List bB} (hL : L.length ≤ 255) (hR : bM L) (q : List UInt8) : lA (some (kH L ++ q)) = some q := by
 obtain ⟨h1, h2⟩ := lO (UInt8.ofNat L.length) (iK L ++ q)
 have e : gO (some (kH L ++ q)) = (L, some q) := by
  show iY (be (dG 1 (some (UInt8.ofNat L.length :: (iK L ++ q))))) (bX 1 (some (UInt8.ofNat L.length :: (iK L ++ q)))) [] = _
  rw [h1, h2, BF hL, p7]; simp
 unfold lA
 rw [e, if_pos hR]

theorem wL {L : List bB} (hL : L.length ≤ 255) (hR : bM L) (q : List UInt8) : fX (some (kH L ++ q)) = L := by
 obtain ⟨h1, h2⟩ := lO (UInt8.ofNat L.length) (iK L ++ q)
 have e : gO (some (kH L ++ q)) = (L, some q) := by
  show iY (be (dG 1 (some (UInt8.ofNat L.length :: (iK L ++ q))))) (bX 1 (some (UInt8.ofNat L.length :: (iK L ++ q)))) [] = _
  rw [h1, h2, BF hL, p7]; simp
 unfold fX
 rw [uR hL hR, if_neg (by simp), e]

end Go.Proofs.YtjpnjhlfieklfaaGreat

/-
  Validators and delegations: their records, and back.
-/
namespace Go.Proofs.YtjpnjhlfieklfaaGreat
set_option linter.unnecessarySimpa false
set_option maxRecDepth 100000
set_option linter.unusedSimpArgs false
set_option linter.unusedVariables false
open Go Go.Vm
attribute [local simp] dK aJ dJ opA bD bH cJ bP ofValue dC plain aR aS bY b6 cA cC b7 cE b8 b9 cX cB cH cG cD bU aV aU bL cS aW dN dP bI bC cN gI bR dD bW AV.cells AV.bA dE cI e6 bF aY cQ dI dS dY cL aO dR dQ cW cU cM List.getElem?_cons_zero List.getElem?_cons_succ fK fI fH fG fN fM fJ fL dF eT eF eZ

def cos (L : List bB) : AV := .sl 5 (aL L) L.length .shut

structure Vl where
 i : UInt8
 o : UInt8
 r : Nat
 j : Bool
 t : Num
 s : Num
 x : List bB
 e : List bB

def Vl.Ok (v : Vl) : Prop := v.r < 65536 ∧ v.x.length ≤ 9223372036854775807 ∧ v.e.length ≤ 9223372036854775807

def vlC (v : Vl) : List AV := [.v (.int .u8 v.i.toNat), .v (.int .u8 v.o.toNat), .v (.int .u16 v.r), .v (.bool v.j), .v (.int .u64 (dL v.t.v 0 : Nat)), .v (.int .u64 (dL v.t.v 1 : Nat)), .v (.int .u64 (dL v.t.v 2 : Nat)), .v (.int .u64 (dL v.t.v 3 : Nat)), .v (.int .u64 (dL v.s.v 0 : Nat)), .v (.int .u64 (dL v.s.v 1 : Nat)), .v (.int .u64 (dL v.s.v 2 : Nat)), .v (.int .u64 (dL v.s.v 3 : Nat)), cos v.x, cos v.e]

def K0 (l : List Vl) : List AV := l.flatMap vlC

theorem E4 (B : Bd) (v : Vl) : aZ B (vlC v) = true := by simp [vlC, cos, aZ, AV.under]

theorem FU (n : Nat) (v : Vl) : bG n (vlC v) = true := by simp [vlC, cos, bG, AV.eH]

theorem Db (B : Bd) (l : List Vl) : aZ B (K0 l) = true := iE (E4 B) l

theorem Dj (nb : Nat) (l : List Vl) : bG nb (K0 l) = true := iF (FU nb) l

structure Dl where
 o : UInt8
 v : UInt8
 s : Num
 x : List bB

def Dl.Ok (d : Dl) : Prop := d.x.length ≤ 9223372036854775807

def dlC (d : Dl) : List AV := [.v (.int .u8 d.o.toNat), .v (.int .u8 d.v.toNat), .v (.int .u64 (dL d.s.v 0 : Nat)), .v (.int .u64 (dL d.s.v 1 : Nat)), .v (.int .u64 (dL d.s.v 2 : Nat)), .v (.int .u64 (dL d.s.v 3 : Nat)), cos d.x]

def KU (l : List Dl) : List AV := l.flatMap dlC

theorem Fh (B : Bd) (v : Dl) : aZ B (dlC v) = true := by simp [dlC, cos, aZ, AV.under]

theorem Fu (n : Nat) (v : Dl) : bG n (dlC v) = true := by simp [dlC, cos, bG, AV.eH]

theorem DR (B : Bd) (l : List Dl) : aZ B (KU l) = true := iE (Fh B) l

theorem D7 (nb : Nat) (l : List Dl) : bG nb (KU l) = true := iF (Fu nb) l

def flB (b : Bool) : UInt8 := if b then 1 else 0

def MS (v : Vl) : List UInt8 := v.o :: (dZ 2 v.r ++ (flB v.j :: (kQ v.t.v ++ (kQ v.s.v ++ (kH v.x ++ kH v.e)))))

def Mr (d : Dl) : List UInt8 := kQ d.s.v ++ kH d.x

def MV (i : UInt8) : List UInt8 := [118, i]

def JK (o v : UInt8) : List UInt8 := [100, o, v]

def prV (v : Vl) : Pr := ⟨MV v.i, MS v⟩

def prD (d : Dl) : Pr := ⟨JK d.o d.v, Mr d⟩

def Kk (v : Vl) : Prop := v.o.toNat < 200 ∧ v.r ≤ 10000 ∧ bM v.x ∧ bM v.e

theorem G7 {L : List bB} (h : bM L) : (kH L).length ≤ 273 := by
 have h8 := eI h
 have := qN L
 simp [kH]; omega

def WL (id : Nat) (σ : St) (k : Nat) (l A : List UInt8) : AV → St → Prop := fun av σ' => av = .ptr id 0 ∧ ∃ k' tk', Wr σ.toks k l tk' k' A ∧ σ' = { σ with objs := σ.objs.set id [wrA k' A], toks := tk' }

theorem Hc {σ : St} {id k : Nat} {l A : List UInt8} {b : UInt8} (hA : A = l ++ [b]) (h : σ.objs[id]? = some [wrA k l]) (ht : Tk σ.toks k l) (hl : l.length ≤ 300000) :
  aB Tryz.prog 97 [.ptr id 0, .v (.int .u8 b.toNat)] σ (WL id σ k l A) := by
 subst hA; exact BV h ht (by omega)

theorem Ki {σ : St} {id k : Nat} {x : Num} {l A : List UInt8} (hA : A = l ++ kQ x.v) (h : σ.objs[id]? = some [wrA k l]) (ht : Tk σ.toks k l) (hl : l.length ≤ 300000) :
  aB Tryz.prog 98 [.ptr id 0, .agg (aP x.v)] σ (WL id σ k l A) := by
 subst hA; exact Eo h ht x.h (by omega)

theorem L5 {σ : St} {id k : Nat} {l : List UInt8} (h : σ.objs[id]? = some [wrA k l]) (hne : l ≠ []) (hl : l.length ≤ 1000000) :
  aB Tryz.prog 101 [.ptr id 0] σ (fun av σ' => av = .sl 1 (aQ l) l.length .shut ∧ σ = σ') := Jw (tl := .own k) (by simpa [wrA, hne] using h) hl

theorem Ms {σ : St} {id : Nat} {x : Num} {p q : List UInt8} (hp : p = kQ x.v ++ q) (h : σ.objs[id]? = some (rd (some p))) :
  aB Tryz.prog 59 [.ptr id 0] σ (fun av σ' => av = .agg (aP x.v) ∧ σ' = { σ with objs := σ.objs.set id (rd (some q)) }) := by
 subst hp
 obtain ⟨t1, t2⟩ := EO x.h q
 exact bV (DE h) (fun av σ' ⟨e1, e2⟩ => by
  rw [t2] at e1; rw [t1] at e2
  exact ⟨e1, e2⟩)

theorem fS.at {σ τ : St} {o k : Nat} {G : Sg} (h : fS σ o k G) (l : List (List AV)) (m : List Nat) (hτ : τ = { σ with objs := σ.objs ++ l, toks := m }) : fS τ o k G := by subst hτ; exact h.app l m

theorem Lr {σ : St} {o k n : Nat} {G : Sg} {K C : List UInt8} (h : fS σ o k G) (hG : G.s.Ok n) (hn : n ≤ 900000) (hK : K.length ≤ 1000000) (hC : C.length ≤ 1000000) (l : List (List AV)) (tk : List Nat) :
  aB Tryz.prog 100 [.ptr o 0, .sl 1 (aQ K) K.length .full, .sl 1 (aQ C) C.length .shut] { σ with objs := σ.objs ++ l, toks := tk } (fun av σ' => ∃ G', G'.s = doS G.s K (some C) ∧ av = .tup [] ∧ σ' = dU { σ with objs := σ.objs ++ l, toks := tk } o k G') :=
 HF (key := K) (val := C) (t1 := .full) (t2 := .shut) (h.app l tk) hG (by omega) hK hC

theorem Ec {σ : St} {o k : Nat} {G : Sg} (h : fS σ o k G) (l : List (List AV)) (tk : List Nat) (G' : Sg) : dU { σ with objs := σ.objs ++ l, toks := tk } o k G' = { dU σ o k G' with objs := (dU σ o k G').objs ++ l, toks := tk } := by simp only [dU]; rw [List.set_append_left _ _ (cR h.o)]

end Go.Proofs.YtjpnjhlfieklfaaGreat

/-
  Validators and delegations in a store: the plain law; one more, another one; all of them.
-/
namespace Go.Proofs.YtjpnjhlfieklfaaGreat
set_option linter.unnecessarySimpa false
set_option maxRecDepth 100000
open Go Go.Vm
set_option linter.unusedSimpArgs false
set_option linter.unusedVariables false
attribute [local simp] dK aJ dJ opA bD bH cJ bP ofValue dC plain aR aS bY b6 cA cC b7 cE b8 b9 cX cB cH cG cD bU aV aU bL cS aW dN dP bI bC cN gI bR dD bW AV.cells AV.bA dE cI e6 bF aY cQ dI dS dY cL aO dR dQ cW cU cM List.getElem?_cons_zero List.getElem?_cons_succ fK fI fH fG fN fM fJ fL dF eT eF eZ
variable {Ru : UInt8 → List Pr}

theorem ES {k : List UInt8} : ∀ {L : List Pr}, (∀ p ∈ L, p.k ≠ k) → eX L k = none
 | [], _ => rfl
 | p :: L, h => by rw [eX, if_neg (h p (by simp)), ES (fun q hq => h q (by simp [hq]))]

theorem Jj (o v : UInt8) : preB (JK o v) [100] = true := by simp [preB, JK]

structure Pw where
 V : List Vl
 D : List Dl

structure rG (Ru : UInt8 → List Pr) (s : Sto) (W : Pw) (n : Nat) : Prop where
 ok : s.Ok n
 pv : pl s.l [118] = W.V.map prV
 pd : pl s.l [100] = W.D.map prD
 ids : ∀ (i : Nat) (h : i < W.V.length), W.V[i].i.toNat = i
 lv : W.V.length ≤ 16
 rv : ∀ v ∈ W.V, Kk v
 rd : ∀ d ∈ W.D, bM d.x
 nd : W.D.length ≤ n
 rs : ∀ c, c ≠ 118 → c ≠ 100 → pl s.l [c] = Ru c

def pw0 : Pw := ⟨[], []⟩

def Rp0 : UInt8 → List Pr := fun _ => []

theorem rG.nil : rG Rp0 eM.s pw0 0 := ⟨tA, rfl, rfl, fun i h => absurd h (by simp [pw0]), by simp [pw0], fun v h => absurd h (by simp [pw0]), fun v h => absurd h (by simp [pw0]), Nat.le_refl _, fun c h1 h2 => rfl⟩

theorem rG.mono {s : Sto} {W : Pw} {n m : Nat} (h : rG Ru s W n) (hm : n ≤ m) : rG Ru s W m := ⟨h.ok.mono hm, h.pv, h.pd, h.ids, h.lv, h.rv, h.rd, Nat.le_trans h.nd hm, h.rs⟩

theorem rG.getD {s : Sto} {W : Pw} {n : Nat} {d : Dl} (h : rG Ru s W n) (hd : d ∈ W.D) : eX s.l (JK d.o d.v) = some (Mr d) := by
 have hs := Ay (p := [100]) h.ok.srt
 rw [← nF (Jj _ _), h.pd]
 rw [h.pd] at hs
 exact nE hs (p := prD d) (List.mem_map_of_mem hd)

theorem rG.Ew {Rv : UInt8 → List Pr} {s s' : Sto} {W : Pw} {n m : Nat} (h : rG Ru s W n) (ho : s'.Ok m) (hm : n ≤ m) (e1 : pl s'.l [118] = pl s.l [118]) (e2 : pl s'.l [100] = pl s.l [100]) (e3 : ∀ c, c ≠ 118 → c ≠ 100 → pl s'.l [c] = Rv c) : rG Rv s' W m :=
 ⟨ho, e1.trans h.pv, e2.trans h.pd, h.ids, h.lv, h.rv, h.rd, Nat.le_trans h.nd hm, e3⟩

structure Pr3 where
 W : Pw
 i : Nat
 e : Nat

theorem pS {σ : St} {o k : Nat} {G : Sg} (h : fS σ o k G) (G' : Sg) (l : List (List AV)) : dU { σ with objs := σ.objs ++ l } o k G' = { dU σ o k G' with objs := (dU σ o k G').objs ++ l } := by
 simp only [dU]; rw [List.set_append_left _ _ (cR h.o)]

end Go.Proofs.YtjpnjhlfieklfaaGreat

/-
  The document's coins.
-/
namespace Go.Proofs.YtjpnjhlfieklfaaGreat
set_option maxHeartbeats 1600000
set_option linter.unnecessarySimpa false
set_option maxRecDepth 100000
set_option linter.unusedSimpArgs false
set_option linter.unusedVariables false
open Go Go.Vm
attribute [local simp] dK aJ dJ opA bD bH cJ bP ofValue dC plain aR aS bY b6 cA cC b7 cE b8 b9 cX iC cB cH cG cD bU aV aU bL cS aW dN dP bI bC cN gI bR dD bW AV.cells AV.bA dE cI e6 bF aY cQ dI dS dY cL aO dR dQ gM fU fR cW cU cM List.getElem?_cons_zero List.getElem?_cons_succ o7 lZ cV

theorem B5 {σ : St} {f : Nat → Nat} (hf : ∀ d, d < 8 → f d < 2 ^ 256) :
  aB Tryz.prog 17 [.agg (kU (iT f))] σ (fun av σ' => av = .sl 5 (aL (gH f 8)) (gH f 8).length .shut ∧ σ = σ') := by
 refine aM ?_ (by simp [AV.under])
 have hpl : (kU (iT f)).length = 32 := by rw [Bw]; simp
 have F := And.intro hpl (True.intro)
 refine aA Tryz.func17 rfl rfl rfl ?_; refine sr fun _ hJ2 => ?_; apply hJ2; refine sr fun _ hJ4 => ?_; apply hJ4; refine sq fun K5 hK5 => ?_; refine sr fun _ hJ7 => ?_; apply hJ7; refine aH ?_; refine cZ (X := Nat) [1, 2] (fun d ρ σ1 => (d ≤ 8) ∧ (ρ 3 = grA σ.toks.length 5 (neB (gH f d)) (aL (gH f d)) (gH f d).length) ∧ (ρ 4 = .v (.int .i64 d)) ∧ (σ1 = { σ with objs := σ.objs ++ [kU (iT f)], toks := σ.toks ++ grT (neB (gH f d)) (gH f d).length })) (fun d => 8 - d) (0) ?st1 ?rd1
 case st1 =>
  refine ⟨lp, ?_, lp, ?_⟩
  · rfl
  · simp [gH]
 case rd1 =>
  rintro d ρ1 σ1 hF1 ⟨hj, h3, h4, hσ⟩; obtain rfl := hσ.symm
  have f1 := dX hF1
  (try simp [dW, F] at f1); replace F := aF h3 F; replace F := aF h4 F; (try replace F := aF f1 F); refine sq fun K8 hK8 => ?_; refine sr fun _ hJ10 => ?_; apply hJ10; refine cs (fun c6 => ?_) (fun c6 => ?_)
  · (try exact aG c6); all_goals have c6p := c6; try simp [F] at c6p
    all_goals
     replace F := aF c6 F; (try replace F := aF c6p F); refine aD ?_; apply hK8; refine sq fun K11 hK11 => ?_; refine aH ?_; refine sq fun K12 hK12 => ?_
     have hd8 : d < 8 := by simp at c6; omega
     have hat := AE (P := iT f) (d := d) (by simpa using hd8)
     rw [x6 hd8] at hat
     have hb1 : d * 4 + 4 ≤ 32 := by omega
     have hd5 : (d : Int) < 8 := by omega
     have hw8 : IntKind.u8.wrap (d : Int) = (d : Int) := wN ⟨by omega, by omega⟩
     obtain ⟨c, hc⟩ : ∃ c : bB, c = ⟨UInt8.ofNat d, Num.of (f d)⟩ := ⟨_, rfl⟩
     have hcn : c.n.v = f d := by rw [hc]; exact Num.s9 (hf d hd8)
     have hcd : (c.d.toNat : Int) = (d : Int) := by rw [hc]; simp only [mN (show d < 256 by omega)]
     have hcoin : AV.v (.int .u8 (d : Int)) :: aP (f d) = dV c := by rw [dV, hcd, hcn]
     obtain ⟨L, hL⟩ : ∃ L, L = gH f d := ⟨_, rfl⟩
     have hLl : L.length ≤ 8 := by rw [hL]; exact Nat.le_trans (r5 _ _) hj
     rw [← hL] at h3 F
     rw [← hL]
     have hb0 : neB L = false → aL L = [] ∧ L.length = 0 := fun h => by rw [HL h]; simp
     have happ : ∀ objs, dA Tryz.prog 23 (grA σ.toks.length 5 (neB L) (aL L) L.length) (.sl 5 (dV c) 1 .full) ⟨objs, σ.toks ++ grT (neB L) L.length, σ.gl, σ.rows⟩ = some (grA σ.toks.length 5 true (aL L ++ dV c) (L.length + 1), ⟨objs, σ.toks ++ grT true (L.length + 1), σ.gl, σ.rows⟩) := fun objs => kC elemT_23 ti_38 (by decide) rfl hb0 (.inl rfl) (by simp [fZ]; omega) (by simp [maxLen]; omega)
     have hcl : (dV c).length = 5 := rfl
     have hca : (dV c).all AV.bA = true := rfl
     have hdr : ∀ f : Nat → AV, List.drop 5 (List.map f (List.range 5)) = [] := fun _ => rfl
     replace F := aF hcl F; replace F := aF hca F; replace F := aF hdr F; replace F := aF hat F; replace F := aF hb1 F; replace F := aF hd5 F; replace F := aF hd8 F; replace F := aF hw8 F; replace F := aF hcoin F; replace F := aF happ F; refine rg' (h := fun J13 hJ13 => ?_); refine ca (c := EG (x := ⟨f d, hf d hd8⟩)) (k := ?_); rintro _ _ ⟨rfl, rfl⟩; (repeat first | simp [F] | simp (disch := omega) only [wC, if_pos, if_neg]); apply hJ13; apply hK12; refine cs (fun c13 => ?_) (fun c13 => ?_)
     · (try exact aG c13); all_goals have c13p := c13; try simp [F] at c13p
       all_goals
        replace F := aF c13 F; try replace F := aF c13p F
        have hnx : gH f (d + 1) = L ++ [c] := by rw [hL, hc]; simp only [gH]; rw [if_neg (by simpa using c13)]
        refine rg' (h := fun J14 hJ14 => ?_); apply hJ14; apply hK11; refine rg' (h := fun J15 hJ15 => ?_); apply hJ15; refine ⟨(d + 1), ⟨kp, lp, ?_, lp, ?_⟩, lp⟩
        · rw [hnx, ← p8]
          simp [F]
        · rw [hnx]
          simp [F]
     (try exact aG c13); all_goals have c13p := c13; try simp [F] at c13p
     all_goals
      replace F := aF c13 F; try replace F := aF c13p F
      have hnx : gH f (d + 1) = L := by rw [hL]; simp only [gH]; rw [if_pos (by simpa using c13), List.append_nil]
      refine aD ?_; apply hK11; refine rg' (h := fun J16 hJ16 => ?_); apply hJ16; refine ⟨(d + 1), ⟨kp, lp, ?_, lp, ?_⟩, lp⟩
      · rw [hnx]
        simp [F]
      · rw [hnx]
  (try exact aG c6); all_goals have c6p := c6; try simp [F] at c6p
  all_goals
   replace F := aF c6 F; try replace F := aF c6p F
   obtain rfl : d = 8 := by simp at c6; omega
   refine bO ?_; apply hK5; refine sr fun _ hJ18 => ?_; apply hJ18; refine ra ?_
   refine gcr (hA := by simp only [aT]; simp [F]; exact qL (fun h => by rw [HL h]; simp))

theorem q6 (g : Nat → Nat) : (kU (iT g)).length = 32 := by rw [Bw]; simp
theorem s8 (g : Nat → Nat) : (kU (iT g)).take 32 = kU (iT g) := List.take_of_length_le (by rw [q6]; decide)
theorem yI (g : Nat → Nat) : (kU (iT g)).drop 32 = [] := List.drop_of_length_le (by rw [q6]; decide)
theorem BM (g : Nat → Nat) : ∀ x ∈ kU (iT g), x.bA = true := by simpa using Ch (iT g)

theorem El (g : Nat → Nat) : (∀ x, x ∈ kU (iT g) → x.bA = true) = True := eq_true (BM g)

theorem Ev {σ : St} {l : List bB} {tl : eK} (hl : bM l) :
  aB Tryz.prog 50 [.sl 5 (aL l) l.length tl] σ (fun av σ' => av = .agg (kU (iT (amt l))) ∧ σ = σ') := by
 refine aM ?_ (by simp [AV.under, C5])
 have hl8 := eI hl
 have hPl := q6
 have hPt := s8
 have hPd := yI
 have hPc := BM
 simp only [AV.bA] at hPc
 have F := And.intro hPl (And.intro hPt (And.intro hPd (And.intro hPc (True.intro))))
 refine aA Tryz.func50 rfl rfl rfl ?_; refine sr fun _ hJ2 => ?_; apply hJ2; refine sr fun _ hJ4 => ?_; apply hJ4; refine sq fun K5 hK5 => ?_; refine sr fun _ hJ7 => ?_; apply hJ7; refine aH ?_; refine cZ (X := Nat) [0, 2, 3] (fun i ρ σ1 => (i ≤ l.length) ∧ (ρ 4 = .v (.int .i64 i)) ∧ (σ1 = { σ with objs := σ.objs ++ [kU (iT fun _ => 0), kU (iT (amt (l.take i)))] })) (fun i => l.length - i) (0) ?st1 ?rd1
 case st1 =>
  refine ⟨lp, lp, ?_⟩
  · simp only [List.take_zero, show amt [] = fun _ => 0 from rfl, Ad]
 case rd1 =>
  rintro i ρ1 σ1 hF1 ⟨hi, h4, hσ⟩; obtain rfl := hσ.symm
  have f1 := dX hF1
  (try simp [dW, F] at f1); replace F := aF h4 F; (try replace F := aF f1 F); refine sq fun K8 hK8 => ?_; refine sr fun _ hJ10 => ?_; apply hJ10; refine cs (fun c8 => ?_) (fun c8 => ?_)
  · (try exact aG c8); all_goals have c8p := c8; try simp [F] at c8p
    all_goals
     replace F := aF c8 F; (try replace F := aF c8p F); refine aD ?_; apply hK8; refine sq fun K11 hK11 => ?_; refine aH ?_
     have hlt : i < l.length := by simp at c8; omega
     have hat := gD hlt
     simp only [dV] at hat
     have hb1 : i * 5 + 5 ≤ l.length * 5 := by omega
     obtain ⟨c, hc⟩ : ∃ c, c = l[i] := ⟨_, rfl⟩
     rw [← hc] at hat
     have htk : l.take (i + 1) = l.take i ++ [c] := by rw [hc]; exact (List.take_append_getElem hlt).symm
     have hR : bM (l.take i ++ [c]) := by rw [← htk]; exact w9 hl _
     have hd8 : c.d.toNat < 8 := (iA.1 hR).2.1.1
     obtain ⟨d, hd⟩ : ∃ d, d = c.d.toNat := ⟨_, rfl⟩
     rw [← hd] at hat hd8
     have hd5 : (d : Int) < 8 := by omega
     have hb2 : d * 4 + 4 ≤ 32 := by omega
     obtain ⟨f, hf⟩ : ∃ f, f = amt (l.take i) := ⟨_, rfl⟩
     rw [← hf]
     have hset := x9 (P := iT f) (d := d) (by simpa using hd8) c.n.v
     rw [yA] at hset
     have hnx : iT (fun j => if j = d then c.n.v else f j) = iT (amt (l.take (i + 1))) := Dn (fun j _ => by rw [htk, sF hR, ← hd, hf])
     rw [hnx] at hset
     replace F := aF hat F; replace F := aF hb1 F; replace F := aF hset F; replace F := aF hd8 F; replace F := aF hd5 F; replace F := aF hb2 F
     refine bQ (by kernel_rfl) fun J12 hJ12 => ?_
     refine q2 0 ?_; refine q2 1 ?_; refine q2 2 ?_; refine q2 3 ?_; refine q2 4 ?_; refine q2 5 ?_; refine q2 6 ?_; refine q2 7 ?_; refine q2 8 ?_; refine q2 9 ?_; refine q2 10 ?_; refine dop 11 rfl ?_; (repeat first | simp [F] | simp (disch := omega) only [wC, if_pos, if_neg]); refine ⟨ln, ?_⟩; refine dd ?_; apply hJ12; apply hK11; refine rg' (h := fun J13 hJ13 => ?_); apply hJ13; refine ⟨(i + 1), ⟨kp, lp, lp, lp⟩, lp⟩
  (try exact aG c8); all_goals have c8p := c8; try simp [F] at c8p
  all_goals
   replace F := aF c8 F; try replace F := aF c8p F
   have hend : l.take i = l := List.take_of_length_le (by simp at c8; omega)
   rw [hend]
   refine bO ?_; apply hK5; refine sr fun _ hJ15 => ?_; apply hJ15; refine bZ ?_; (try simp only [eQ, bK, cK]); refine kZ (h := ?_); exact gcr

theorem EZ (fa fb : Nat → Nat) (d j : Nat) : (if j = d then fa d + fb d else if j < d then fa j + fb j else fa j) = if j < d + 1 then fa j + fb j else fa j := by
 by_cases h : j = d
 · subst h; simp
 · by_cases h2 : j < d
   · rw [if_neg h, if_pos h2, if_pos (by omega)]
   · rw [if_neg h, if_neg h2, if_neg (by omega)]

theorem Bu {σ : St} {a b : List bB} {ta tb : eK} (ha : bM a) (hb : bM b) :
  aB Tryz.prog 42 [.sl 5 (aL a) a.length ta, .sl 5 (aL b) b.length tb] σ (fun av σ' => av = .tup [.sl 5 (aL (kI a b)) (kI a b).length .shut, .v (.bool (decide (iV a b = 0)))] ∧ σ = σ') := by
 refine aM ?_ (by simp [AV.under, aZ])
 have hPl := q6
 have hPt := s8
 have hPd := yI
 have hPn : ∀ n g, bG n (kU (iT g)) = true := fun n g => xX n _
 have hPc := El
 simp only [AV.bA] at hPc
 obtain ⟨fa, hfa⟩ : ∃ fa, fa = amt a := ⟨_, rfl⟩
 obtain ⟨fb, hfb⟩ : ∃ fb, fb = amt b := ⟨_, rfl⟩
 obtain ⟨fs, hfs⟩ : ∃ fs : Nat → Nat → Nat, fs = fun d j => if j < d then fa j + fb j else fa j := ⟨_, rfl⟩
 have hfs0 : fs 0 = fa := by rw [hfs]; funext j; simp
 have hla : ∀ d, fa d < 2 ^ 256 := fun d => by rw [hfa]; exact jG _ _
 have hlb : ∀ d, fb d < 2 ^ 256 := fun d => by rw [hfb]; exact jG _ _
 have F := And.intro hPl (And.intro hPt (And.intro hPd (And.intro hPc (And.intro hPn (True.intro)))))
 refine aA Tryz.func42 rfl rfl rfl ?_; refine sr fun _ hJ2 => ?_; apply hJ2; refine sr fun _ hJ4 => ?_; refine ca (c := (hfa ▸ Ev ha)) (k := ?_); rintro _ _ ⟨rfl, rfl⟩; (repeat first | simp [F] | simp (disch := omega) only [wC, if_pos, if_neg]); refine ca (c := (hfb ▸ Ev hb)) (k := ?_); rintro _ _ ⟨rfl, rfl⟩; (repeat first | simp [F] | simp (disch := omega) only [wC, if_pos, if_neg]); apply hJ4; refine sq fun K5 hK5 => ?_; refine sr fun _ hJ7 => ?_; apply hJ7; refine aH ?_; refine eO (X := Nat) [6, 7] (fun d ρ σ1 => (d ≤ 8) ∧ (∀ j, j < d → fa j + fb j < 2 ^ 256) ∧ (ρ 8 = .v (.int .i64 d)) ∧ (σ1 = { σ with objs := σ.objs ++ [kU (iT (fs d)), kU (iT fb)] })) (fun d => 8 - d) (0) ?st1 ?rd1
 case st1 =>
  refine ⟨lp, ?_, lp, ?_⟩
  · intro j hj
    exact absurd hj (Nat.not_lt_zero j)
  · rw [hfs0]
 case rd1 =>
  rintro d ρ1 σ1 hF1 ⟨hd, hE, h8, hσ⟩; obtain rfl := hσ.symm
  have f1 := dX hF1
  (try simp [dW, F] at f1); replace F := aF h8 F; (try replace F := aF f1 F); refine sq fun K8 hK8 => ?_; refine sr fun _ hJ10 => ?_; apply hJ10; refine cs (fun c16 => ?_) (fun c16 => ?_)
  · (try exact aG c16); all_goals have c16p := c16; try simp [F] at c16p
    all_goals
     replace F := aF c16 F; (try replace F := aF c16p F); refine aD ?_; apply hK8; refine sq fun K11 hK11 => ?_; refine aH ?_; refine sq fun K12 hK12 => ?_
     have hd8 : d < 8 := by simp at c16; omega
     have hd5 : (d : Int) < 8 := by omega
     have hb2 : d * 4 + 4 ≤ 32 := by omega
     have hata := AE (P := iT (fs d)) (d := d) (by simpa using hd8)
     rw [x6 hd8] at hata
     have hatb := AE (P := iT fb) (d := d) (by simpa using hd8)
     rw [x6 hd8] at hatb
     have hfd : fs d d = fa d := by rw [hfs]; simp
     rw [hfd] at hata
     have hset := x9 (P := iT (fs d)) (d := d) (by simpa using hd8) (fa d + fb d)
     rw [yA] at hset
     have hnx : (fun j => if j = d then fa d + fb d else fs d j) = fs (d + 1) := by rw [hfs]; funext j; simp only; exact EZ fa fb d j
     rw [hnx] at hset
     replace F := aF hata F; replace F := aF hatb F; replace F := aF hset F; replace F := aF hd8 F; replace F := aF hd5 F; replace F := aF hb2 F
     refine bQ (by kernel_rfl) fun J13 hJ13 => ?_
     refine q2 0 ?_; refine q2 1 ?_; refine q2 2 ?_; refine q2 3 ?_; refine q2 4 ?_; refine q2 5 ?_; refine d2 6 10 ?_ ?_
     · refine ac 6 rfl (c := EM (hla d) (hlb d)) (k := ?_); rintro _ _ ⟨rfl, rfl⟩
       refine ⟨by first | exact fun _ _ h => h | (refine aI [4, 3, 1, 0] (by kernel_rfl) ?_; (repeat' first | exact ln2 | refine lc ?_ ?_) <;> constructor <;> first | rfl | (simp [F]; done)), ?_⟩
       (repeat first | simp [F] | simp (disch := omega) only [wC, if_pos, if_neg]); refine q2 7 ?_; refine q2 8 ?_; refine q2 9 ?_; refine dop 10 rfl ?_; repeat (first | simp [F] | simp (disch := omega) only [wC, if_pos, if_neg])
       refine ⟨by first | exact bT _ (by kernel_rfl) | exact bN (by kernel_rfl) rfl, ?_⟩
       refine dop 11 rfl ?_; repeat (first | simp [F] | simp (disch := omega) only [wC, if_pos, if_neg])
       refine ⟨bS (by kernel_rfl), ?_⟩
       refine q2 12 ?_; refine dd ?_; apply hJ13; apply hK12; refine sq fun K14 hK14 => ?_; refine sr fun _ hJ16 => ?_; apply hJ16; refine cs (fun c30 => ?_) (fun c30 => ?_)
       · (try exact aG c30); all_goals have c30p := c30; try simp [F] at c30p
         all_goals
          replace F := aF c30 F; try replace F := aF c30p F
          have hs : ¬ fa d + fb d < 2 ^ 256 := by simpa using c30
          have he : ¬ iV a b = 0 := fun h => hs (by have := jT.1 h d hd8; rw [hfa, hfb]; exact this)
          have hL := yT he
          replace F := aF hL (And.intro he F); refine sr fun _ hJ18 => ?_; apply hJ18; refine bZ ?_; (try simp only [eQ, bK, cK]); refine fW rfl (.inr rfl) ?_
          rw [hL, decide_eq_false he]
          exact gcr (hA := WkL.tup (.cons (Wk.nil _ _ _) (.cons (Wk.refl _) .nil)))
       (try exact aG c30); all_goals have c30p := c30; try simp [F] at c30p
       all_goals
        replace F := aF c30 F; try replace F := aF c30p F
        have hs : fa d + fb d < 2 ^ 256 := by simpa using c30
        have hs2 : mS (fa d) (fb d) = fa d + fb d := if_pos hs
        replace F := aF hs2 F; refine aD ?_; apply hK14; refine rg' (h := fun J19 hJ19 => ?_); apply hJ19; apply hK11; refine rg' (h := fun J20 hJ20 => ?_); apply hJ20; refine ⟨gk, (d + 1), ⟨kpG, lpG, ?_, lpG, lpG⟩, lpG⟩
        · intro j hj
          rcases Nat.lt_or_ge j d with h | h
          · exact hE j h
          · obtain rfl : j = d := by omega
            exact hs
     · refine ao 10 rfl ?_; repeat (first | simp [F] | simp (disch := omega) only [wC, if_pos, if_neg])
       refine ⟨by first | exact bT _ (by kernel_rfl) | exact bN (by kernel_rfl) rfl, ?_⟩
       refine dc 6 rfl (c := EM (hla d) (hlb d)) (k := ?_); rintro _ _ ⟨rfl, rfl⟩
       refine ⟨by first | exact fun _ _ h => h | (refine aI [4, 3, 1, 0] (by kernel_rfl) ?_; (repeat' first | exact ln2 | refine lc ?_ ?_) <;> constructor <;> first | rfl | (simp [F]; done)), ?_⟩
       (repeat first | simp [F] | simp (disch := omega) only [wC, if_pos, if_neg]); refine q2 7 ?_; refine q2 8 ?_; refine q2 9 ?_; refine dop 11 rfl ?_; repeat (first | simp [F] | simp (disch := omega) only [wC, if_pos, if_neg])
       refine ⟨bS (by kernel_rfl), ?_⟩
       refine q2 12 ?_; refine dd ?_; apply hJ13; apply hK12; refine sq fun K21 hK21 => ?_; refine sr fun _ hJ23 => ?_; apply hJ23; refine cs (fun c30 => ?_) (fun c30 => ?_)
       · (try exact aG c30); all_goals have c30p := c30; try simp [F] at c30p
         all_goals
          replace F := aF c30 F; try replace F := aF c30p F
          have hs : ¬ fa d + fb d < 2 ^ 256 := by simpa using c30
          have he : ¬ iV a b = 0 := fun h => hs (by have := jT.1 h d hd8; rw [hfa, hfb]; exact this)
          have hL := yT he
          replace F := aF hL (And.intro he F); refine sr fun _ hJ25 => ?_; apply hJ25; refine bZ ?_; (try simp only [eQ, bK, cK]); refine fW rfl (.inr rfl) ?_
          rw [hL, decide_eq_false he]
          exact gcr (hA := WkL.tup (.cons (Wk.nil _ _ _) (.cons (Wk.refl _) .nil)))
       (try exact aG c30); all_goals have c30p := c30; try simp [F] at c30p
       all_goals
        replace F := aF c30 F; try replace F := aF c30p F
        have hs : fa d + fb d < 2 ^ 256 := by simpa using c30
        have hs2 : mS (fa d) (fb d) = fa d + fb d := if_pos hs
        replace F := aF hs2 F; refine aD ?_; apply hK21; refine rg' (h := fun J26 hJ26 => ?_); apply hJ26; apply hK11; refine rg' (h := fun J27 hJ27 => ?_); apply hJ27; refine ⟨gk, (d + 1), ⟨kpG, lpG, ?_, lpG, lpG⟩, lpG⟩
        · intro j hj
          rcases Nat.lt_or_ge j d with h | h
          · exact hE j h
          · obtain rfl : j = d := by omega
            exact hs
  (try exact aG c16); all_goals have c16p := c16; try simp [F] at c16p
  all_goals
   replace F := aF c16 F; try replace F := aF c16p F
   obtain rfl : d = 8 := by simp at c16; omega
   have he : iV a b = 0 := jT.2 (fun d hd => by have := hE d hd; rw [hfa, hfb] at this; exact this)
   have hL : gH (fs 8) 8 = kI a b := by rw [z6 he, hfs, hfa, hfb]; exact jA (fun i hi => by simp [hi])
   have hf8 : ∀ d, d < 8 → fs 8 d < 2 ^ 256 := fun d hd => by rw [hfs]; simp only [if_pos hd]; exact hE d hd
   replace F := aF he F; refine bO ?_; apply hK5; refine sr fun _ hJ29 => ?_; refine ca (c := (hL ▸ B5 hf8)) (k := ?_); rintro _ _ ⟨rfl, rfl⟩; (repeat first | simp [F] | simp (disch := omega) only [wC, if_pos, if_neg]); apply hJ29; refine bZ ?_; (try simp only [eQ, bK, cK]); refine fW rfl (.inr rfl) ?_; exact gcr

end Go.Proofs.YtjpnjhlfieklfaaGreat

/-
  A bank in a store: the plain law.
-/
namespace Go.Proofs.YtjpnjhlfieklfaaGreat
set_option linter.unnecessarySimpa false
set_option maxRecDepth 100000
open Go Go.Vm
set_option linter.unusedSimpArgs false
set_option linter.unusedVariables false
attribute [local simp] dK aJ dJ opA bD bH cJ bP ofValue dC plain aR aS bY b6 cA cC b7 cE b8 b9 cX cB cH cG cD bU aV aU bL cS aW dN dP bI bC cN gI bR dD bW AV.cells AV.bA dE cI e6 bF aY cQ dI dS dY cL aO dR dQ cW cU cM List.getElem?_cons_zero List.getElem?_cons_succ fK fI fH fG fN fM fJ fL dF eT eF eZ
variable {Ru : UInt8 → List Pr}

def enc (x : Nat) : Option (List UInt8) := if x = 0 then none else some (aN x)

def kk : Option UInt8 → List UInt8
 | none => [115]
 | some a => [98, a]

def key (o : Option UInt8) (d : UInt8) : List UInt8 := kk o ++ [d]

theorem key_inj {o o' : Option UInt8} {d d' : UInt8} : key o d = key o' d' ↔ o = o' ∧ d = d' := by
 cases o <;> cases o' <;> simp [key, kk]

theorem Eu (o o' : Option UInt8) (d : UInt8) : preB (key o' d) (kk o) = decide (o' = o) := by
 cases o <;> cases o' <;> simp [key, kk, preB]

theorem AN (o : Option UInt8) (d : UInt8) : (key o d).length ≤ 3 ∧ 2 ≤ (key o d).length := by cases o <;> simp [key, kk]

theorem GZ (o : Option UInt8) : (kk o).length ≤ 2 := by cases o <;> simp [kk]

theorem Jn {x : Nat} (hx : x < 2 ^ 256) : ((enc x).getD []).length ≤ 32 := by
 unfold enc; split
 · simp
 · simpa using lV hx

theorem JE {x : Nat} (hx : x < 2 ^ 256) : numOf ((enc x).getD []) = x := by
 unfold enc; split
 · rename_i h; subst h; rfl
 · rw [Option.getD_some, numOf, vU hx]; simpa using vP x

abbrev Tb := Option UInt8 → List bB

structure gC (Ru : UInt8 → List Pr) (s : Sto) (T : Tb) (n : Nat) : Prop where
 ok : s.Ok n
 gt : ∀ o d, eX s.l (key o d) = enc (amt (T o) d.toNat)
 rt : ∀ o, bM (T o)
 ks : ∀ p ∈ s.l, (preB p.k [98] = true ∨ preB p.k [115] = true) → ∃ o d, p.k = key o d
 rs : ∀ c, c ≠ 98 → c ≠ 115 → Proofs.YtjpnjhlfieklfaaGreat.pl s.l [c] = Ru c

def upd (T : Tb) (o : Option UInt8) (l : List bB) : Tb := fun o' => if o' = o then l else T o'

theorem qE (T : Tb) (o : Option UInt8) (l : List bB) : upd T o l o = l := if_pos rfl

theorem D4 (T : Tb) {o o' : Option UInt8} (l : List bB) (h : o' ≠ o) : upd T o l o' = T o' := if_neg h

theorem I4 (T : Tb) (o : Option UInt8) (l m : List bB) : upd (upd T o l) o m = upd T o m := by
 funext o'; simp only [upd]; split <;> rfl

theorem Kw (T : Tb) (o : Option UInt8) : upd T o (T o) = T := by
 funext o'; simp only [upd]; split
 · rename_i h; rw [h]
 · rfl

theorem ET {l : List bB} (h : bM l) {d : Nat} (hd : 8 ≤ d) : amt l d = 0 := lM (fun c hc e => by
 have := h.1 c hc
 omega)

def Gu (l : List bB) (d x : Nat) : List bB := gH (fun i => if i = d then x else amt l i) 8

theorem Gz {l : List bB} {d x i : Nat} (hx : x < 2 ^ 256) (hl : bM l) (hd : d < 8) : amt (Gu l d x) i = if i = d then x else amt l i := by
 have hf : ∀ i, i < 8 → (if i = d then x else amt l i) < 2 ^ 256 := fun i _ => by split <;> first | exact hx | exact jG l i
 by_cases h : i < 8
 · exact sL hf (Nat.le_refl 8) h
 · rw [Gu, ET (iZ hf 8 (Nat.le_refl 8)) (by omega), if_neg (by omega), ET hl (by omega)]

theorem D5 {l : List bB} {d x : Nat} (hx : x < 2 ^ 256) : bM (Gu l d x) := iZ (fun i _ => by split <;> first | exact hx | exact jG l i) 8 (Nat.le_refl 8)

theorem Lq (o : Option UInt8) (d : UInt8) {c : UInt8} (h1 : c ≠ 98) (h2 : c ≠ 115) : preB (key o d) [c] = false := by
 cases o <;> simp [key, kk, preB] <;> (intro e; first | exact h1 e.symm | exact h2 e.symm)

theorem I1 (o : Option UInt8) (d : UInt8) : preB (key o d) [98] = true ∨ preB (key o d) [115] = true := by
 cases o <;> simp [key, kk, preB]

theorem Lg {k : List UInt8} {o : Option UInt8} (h : preB k (kk o) = true) : preB k [98] = true ∨ preB k [115] = true := by
 match k, h with
 | [], h => cases o <;> simp [kk, preB] at h
 | x :: k, h => cases o <;> simp [kk, preB] at h ⊢ <;> simp [h]

def R0 : UInt8 → List Pr := fun _ => []

theorem gC.set {s : Sto} {T : Tb} {n x : Nat} {o : Option UInt8} {d : UInt8} (h : gC Ru s T n) (hd : d.toNat < 8) (hx : x < 2 ^ 256) : gC Ru (doS s (key o d) (enc x)) (upd T o (Gu (T o) d.toNat x)) (n + 1) := by
 have hl := Jn hx
 have hk := AN o d
 refine ⟨G5 h.ok (by omega) (by omega), fun o' d' => ?_, fun o' => ?_, fun p hp hq => ?_, fun c h1 h2 => ?_⟩
 · show eX (gR s.l _ _) _ = _
   rw [An h.ok.srt, h.gt]
   by_cases e : o' = o
   · subst e
     rw [qE, Gz hx (h.rt o') hd]
     by_cases e2 : d' = d
     · subst e2; rw [if_pos rfl, if_pos rfl]
     · rw [if_neg (fun q => e2 (key_inj.1 q).2), if_neg (fun q => e2 (UInt8.toNat_inj.1 q))]
   · rw [if_neg (fun q => e (key_inj.1 q).1), D4 _ _ e]
 · by_cases e : o' = o
   · subst e; rw [qE]; exact D5 hx
   · rw [D4 _ _ e]; exact h.rt o'
 · rcases xF hp with hp | hp
   · exact h.ks p hp hq
   · exact ⟨o, d, hp⟩
 · show Proofs.YtjpnjhlfieklfaaGreat.pl (gR s.l _ _) [c] = _
   rw [DU (Lq o d h1 h2)]; exact h.rs c h1 h2

theorem gC.mono {s : Sto} {T : Tb} {n m : Nat} (h : gC Ru s T n) (hm : n ≤ m) : gC Ru s T m := ⟨h.ok.mono hm, h.gt, h.rt, h.ks, h.rs⟩

def tb0 : Tb := fun _ => []

theorem gC.nil : gC R0 eM.s tb0 0 := ⟨tA, fun o d => rfl, fun o => Go.Vm.gV, fun p hp => by simp [eM] at hp, fun c h1 h2 => rfl⟩

def prT (o : Option UInt8) (c : bB) : Pr := ⟨key o c.d, aN c.n.v⟩

theorem KR (o : Option UInt8) (a b : UInt8) : ltB (key o a) (key o b) = decide (a.toNat < b.toNat) := by
 cases o <;> simp only [key, kk, List.cons_append, List.nil_append, ltB, if_true] <;> (by_cases e : a = b <;> first | (subst e; simp; done) | (rw [if_neg e]))

theorem gC.pl {s : Sto} {T : Tb} {n : Nat} (h : gC Ru s T n) (o : Option UInt8) : pl s.l (kk o) = (T o).map (prT o) := by
 have hR := h.rt o
 have s1 := Ay (p := kk o) h.ok.srt
 have s2 : Srt ((T o).map (prT o)) := by
  rw [Srt, List.pairwise_map]
  refine List.Pairwise.imp (fun {x y} hxy => ?_) hR.2
  show ltB (key o x.d) (key o y.d) = true
  rw [KR]; simpa using hxy
 have m1 : ∀ p ∈ Proofs.YtjpnjhlfieklfaaGreat.pl s.l (kk o), p ∈ (T o).map (prT o) := fun p hp => by
  have hp2 := List.mem_filter.1 hp
  obtain ⟨o', d, hk⟩ := h.ks p hp2.1 (Lg hp2.2)
  have hpre := hp2.2
  rw [hk, Eu, decide_eq_true_eq] at hpre
  subst hpre
  have hg := nE h.ok.srt hp2.1
  rw [hk, h.gt] at hg
  have hne : amt (T o') d.toNat ≠ 0 := fun e => by rw [e] at hg; simp [enc] at hg
  have hex : ∃ c ∈ T o', c.d.toNat = d.toNat := Classical.byContradiction fun hx => hne (lM (fun c hc e => hx ⟨c, hc, e⟩))
  obtain ⟨c, hc, hcd⟩ := hex
  have hcn := qY hR.2 hc
  rw [hcd] at hcn
  refine List.mem_map.2 ⟨c, hc, ?_⟩
  rw [hcn, enc, if_neg (by rw [← hcn]; exact hne)] at hg
  have e1 : c.d = d := UInt8.toNat_inj.1 hcd
  cases p with
  | mk k v =>
    simp only at hk hg
    simp only [prT, Pr.mk.injEq]
    exact ⟨by rw [hk, e1], by simpa using hg⟩
 have m2 : ∀ p ∈ (T o).map (prT o), p ∈ Proofs.YtjpnjhlfieklfaaGreat.pl s.l (kk o) := fun p hp => by
  obtain ⟨c, hc, rfl⟩ := List.mem_map.1 hp
  have hcn := qY hR.2 hc
  have hg := h.gt o c.d
  rw [hcn, enc, if_neg (hR.1 c hc).2] at hg
  exact List.mem_filter.2 ⟨wX hg, by show preB (key o c.d) (kk o) = true; rw [Eu]; simp⟩
 exact (wD s1 s2 m1).eq_of_length_le (wD s2 s1 m2).length_le

theorem gC.Ew {Rv : UInt8 → List Pr} {s s' : Sto} {T : Tb} {n m : Nat} (h : gC Ru s T n) (ho : s'.Ok m) (e1 : Proofs.YtjpnjhlfieklfaaGreat.pl s'.l [98] = Proofs.YtjpnjhlfieklfaaGreat.pl s.l [98]) (e2 : Proofs.YtjpnjhlfieklfaaGreat.pl s'.l [115] = Proofs.YtjpnjhlfieklfaaGreat.pl s.l [115]) (e3 : ∀ c, c ≠ 98 → c ≠ 115 → Proofs.YtjpnjhlfieklfaaGreat.pl s'.l [c] = Rv c) : gC Rv s' T m := by
 refine ⟨ho, fun o d => ?_, h.rt, fun p hp hq => ?_, e3⟩
 · rcases I1 o d with q | q
   · rw [← nF q, e1, nF q]; exact h.gt o d
   · rw [← nF q, e2, nF q]; exact h.gt o d
 · rcases hq with q | q
   · have hm : p ∈ Proofs.YtjpnjhlfieklfaaGreat.pl s'.l [98] := List.mem_filter.2 ⟨hp, q⟩
     rw [e1] at hm
     exact h.ks p (List.mem_filter.1 hm).1 (.inl q)
   · have hm : p ∈ Proofs.YtjpnjhlfieklfaaGreat.pl s'.l [115] := List.mem_filter.2 ⟨hp, q⟩
     rw [e2] at hm
     exact h.ks p (List.mem_filter.1 hm).1 (.inr q)

def lX (a b : List bB) : List bB := gH (fun d => amt a d + amt b d) 8

theorem Ct {a b : List bB} (h : ∀ d, d < 8 → amt a d + amt b d < 2 ^ 256) {d : Nat} (hd : d < 8) : amt (lX a b) d = amt a d + amt b d := sL h (Nat.le_refl 8) hd

theorem G6 {a : List bB} (h : bM a) : lX a [] = a := by
 have : lX a [] = gH (amt a) 8 := jA (fun i _ => by simp [amt])
 rw [this]; exact nV h

theorem Gm {a b : List bB} {c : bB} (hb : bM (b ++ [c])) (h : ∀ d, d < 8 → amt a d + amt (b ++ [c]) d < 2 ^ 256) : Gu (lX a b) c.d.toNat (amt (lX a b) c.d.toNat + c.n.v) = lX a (b ++ [c]) ∧ amt (lX a b) c.d.toNat + c.n.v < 2 ^ 256 := by
 have hc8 : c.d.toNat < 8 := (hb.1 c (by simp)).1
 have hs := fun d => sF hb d
 have hlt := (iA.1 hb).2.2
 have hb0 : amt b c.d.toNat = 0 := lM (fun x hx e => by have := hlt x hx; omega)
 have hle : ∀ d, d < 8 → amt a d + amt b d < 2 ^ 256 := fun d hd => by
  have := h d hd
  rw [hs] at this
  by_cases e : d = c.d.toNat
  · subst e; rw [hb0]; have := jG a c.d.toNat; omega
  · rw [if_neg e] at this; exact this
 have hx := Ct hle hc8
 rw [hb0, Nat.add_zero] at hx
 have h8 := h c.d.toNat hc8
 rw [hs, if_pos rfl] at h8
 refine ⟨jA (fun i hi => ?_), by rw [hx]; exact h8⟩
 rw [hs]
 by_cases e : i = c.d.toNat
 · subst e; rw [if_pos rfl, if_pos rfl, hx]
 · rw [if_neg e, if_neg e, Ct hle hi]

theorem FH {a : List bB} (h : bM a) : pD a [] = a := by
 rw [xC]
 have : gH (fun d => amt a d - amt [] d) 8 = gH (amt a) 8 := jA (fun i _ => by simp [amt])
 rw [this]; exact nV h

end Go.Proofs.YtjpnjhlfieklfaaGreat

/-
  A bank in a store: what is kept below a key; more of it, less of it.
-/
namespace Go.Proofs.YtjpnjhlfieklfaaGreat
set_option maxHeartbeats 1600000
set_option linter.unnecessarySimpa false
set_option maxRecDepth 100000
open Go Go.Vm
set_option linter.unusedSimpArgs false
set_option linter.unusedVariables false
attribute [local simp] dK aJ dJ opA bD bH cJ bP ofValue dC plain aR aS bY b6 cA cC b7 cE b8 b9 cX cB cH cG cD bU aV aU bL cS aW dN dP bI bC cN gI bR dD bW AV.cells AV.bA dE cI e6 bF aY cQ dI dS dY cL aO dR dQ cW cU cM List.getElem?_cons_zero List.getElem?_cons_succ fK fI fH fG fN fM fJ fL dF eT eF eZ cV
variable {Ru : UInt8 → List Pr}

attribute [local simp] aP in
theorem CD {σ : St} {o k n x : Nat} {G : Sg} {K : List UInt8} {t : eK} (h : fS σ o k G) (hG : G.s.Ok n) (hn : n ≤ 900000) (hg : eX G.s.l K = enc x) (hx : x < 2 ^ 256) :
  aB Tryz.prog 74 [.ptr o 0, .sl 1 (aQ K) K.length t] σ (fun av σ' => av = .agg (aP x) ∧ σ = σ') := by
 refine aM ?_ rfl
 have hge := fun l => AG (key := K) (t1 := t) (h.app l σ.toks) hG (by omega)
 rw [hg] at hge
 obtain ⟨P, hP⟩ : ∃ P, P = (enc x).getD [] := ⟨_, rfl⟩
 have hrd := fun τ => yH (σ := τ) (p := P)
 have hnp : numOf P = x := by rw [hP]; exact JE hx
 simp only [hnp] at hrd
 rw [← hP] at hge
 obtain ⟨b, hb⟩ : ∃ b, b = (enc x).isSome := ⟨_, rfl⟩
 rw [← hb] at hge
 have F := True.intro
 refine aA Tryz.func74 rfl rfl rfl ?_; refine sr fun _ hJ2 => ?_; apply hJ2; refine sr fun _ hJ4 => ?_; refine ca (c := hge _) (k := ?_); rintro _ _ ⟨rfl, rfl⟩; (repeat first | simp [F] | simp (disch := omega) only [wC, if_pos, if_neg]); apply hJ4; refine sr fun _ hJ6 => ?_; refine ca (c := hrd _) (k := ?_); rintro _ _ ⟨rfl, rfl⟩; (repeat first | simp [F] | simp (disch := omega) only [wC, if_pos, if_neg]); apply hJ6; refine sr fun _ hJ8 => ?_; apply hJ8; refine bZ ?_; (try simp only [eQ, bK, cK]); refine kZ (h := ?_); exact gcr

theorem Fa {σ : St} {o k n x : Nat} {G : Sg} {K : List UInt8} {t : eK} (h : fS σ o k G) (hG : G.s.Ok n) (hn : n ≤ 900000) (hx : x < 2 ^ 256) (hK : K.length ≤ 1000) :
  aB Tryz.prog 75 [.ptr o 0, .agg (aP x), .sl 1 (aQ K) K.length t] σ (fun av σ' => ∃ G', G'.s = doS G.s K (enc x) ∧ av = .tup [] ∧ σ' = dU σ o k G') := by
 have hpa := fun (G' : Sg) (l : List (List AV)) => pS h G' l
 have hz := kT ⟨x, hx⟩
 simp only [aP] at hz
 have h32 := lV hx
 have hde := fun l => Lo (key := K) (t1 := t) (h.app l σ.toks) hG (by omega) (by omega)
 have hse := fun l => HF (key := K) (val := aN x) (t1 := t) (t2 := .shut) (h.app l σ.toks) hG (by omega) (by omega) (by omega)
 have hby := fun τ => CF (σ := τ) hx
 simp only [aP] at hby
 obtain ⟨B, hB⟩ : ∃ B, B = aN x := ⟨_, rfl⟩
 simp only [← hB] at hse hby
 obtain ⟨E, hE⟩ : ∃ E, E = enc x := ⟨_, rfl⟩
 rw [← hE]
 refine bV (m9 (X := Nat × Nat × Nat) (A := fun _ => .tup []) (T := fun y => ⟨doS G.s K E, y.1, y.2.1, y.2.2⟩) h (fun _ => rfl) ?_) (fun av σ' ⟨x, e1, e2⟩ => ⟨_, rfl, e1, e2⟩); simp only [aP]
 have F := And.intro hz (True.intro)
 refine aA Tryz.func75 rfl rfl rfl ?_; refine sr fun _ hJ2 => ?_; apply hJ2; refine sq fun K3 hK3 => ?_; refine sr fun _ hJ5 => ?_; apply hJ5; refine cs (fun c8 => ?_) (fun c8 => ?_)
 · (try exact aG c8); all_goals have c8p := c8; try simp [F] at c8p
   all_goals
    replace F := aF c8 F; try replace F := aF c8p F
    have hx0 : x = 0 := by have h := c8; simpa using h
    have hE0 : E = none := by rw [hE, enc, if_pos hx0]
    refine sr fun _ hJ7 => ?_; refine ca (c := hde _) (k := ?_); rintro _ _ ⟨G', e0, rfl, rfl⟩; (repeat first | simp [F] | simp (disch := omega) only [wC, if_pos, if_neg]); apply hJ7; refine bZ ?_; (try simp only [eQ, bK, cK, if_true]); refine gU rfl (.inr rfl) ?_
    obtain ⟨gs, a1, a2, a3⟩ := G'
    simp only at e0
    rw [← hE0] at e0
    subst e0
    refine ⟨(a1, a2, a3), ?_⟩
    rw [hpa]
    exact gcr
 (try exact aG c8); all_goals have c8p := c8; try simp [F] at c8p
 all_goals
  replace F := aF c8 F; try replace F := aF c8p F
  have hx0 : ¬ x = 0 := by have h := c8; simpa using h
  have hE0 : E = some B := by rw [hE, enc, if_neg hx0, hB]
  refine aD ?_; apply hK3; refine rg' (h := fun J8 hJ8 => ?_); refine ca (c := hby _) (k := ?_); rintro _ _ ⟨rfl, rfl⟩; (repeat first | simp [F] | simp (disch := omega) only [wC, if_pos, if_neg]); refine ca (c := hse _) (k := ?_); rintro _ _ ⟨G', e0, rfl, rfl⟩; (repeat first | simp [F] | simp (disch := omega) only [wC, if_pos, if_neg]); apply hJ8; (try simp only [eQ, bK, cK, if_true]); refine gU rfl (.inl rfl) ?_
  obtain ⟨gs, a1, a2, a3⟩ := G'
  simp only at e0
  rw [← hE0] at e0
  subst e0
  refine ⟨(a1, a2, a3), ?_⟩
  rw [hpa]
  exact gcr

attribute [local simp] eZ wG nD wB wE AJ tH oG m7 in
theorem Cj {σ : St} {o k n : Nat} {G : Sg} {T : Tb} {O : Option UInt8} {t : eK} (h : fS σ o k G) (hi : gC Ru G.s T n) (hn : n ≤ 100000) :
  aB Tryz.prog 73 [.ptr o 0, .sl 1 (aQ (kk O)) (kk O).length t] σ (fun av σ' => av = .sl 5 (aL (T O)) (T O).length .shut ∧ σ = σ') := by
 refine aM ?_ (by simp [AV.under])
 have hkl0 := GZ O
 have hke := Ey (p := kk O) (t := t) h hi.ok (by omega)
 have hkl : vN G.s.l (kk O) = (T O).map fun c => key O c.d := by rw [oN hi.ok.srt]; show (pl G.s.l (kk O)).map (·.k) = _; rw [hi.pl, List.map_map]; rfl
 rw [hkl, List.length_map] at hke
 have hol := cR h.o
 have hRt := hi.rt O
 have h8 := eI hRt
 obtain ⟨L, hL⟩ : ∃ L, L = T O := ⟨_, rfl⟩
 have hva : ∀ (j : Nat) (hj : j < L.length) tk, aB Tryz.prog 74 [.ptr o 0, .sl 1 (aQ (key O L[j].d)) (key O L[j].d).length .shut] { σ with toks := tk } (fun av σ' => av = .agg (aP L[j].n.v) ∧ { σ with toks := tk } = σ') := fun j hj tk => by
  subst hL
  have hg := hi.gt O (T O)[j].d
  rw [qY hRt.2 (List.getElem_mem hj)] at hg
  exact CD (by simpa using h.app [] tk) hi.ok (by omega) hg (T O)[j].n.h
 rw [← hL] at hke h8 hRt ⊢
 obtain ⟨K, hK⟩ : ∃ K, K = L.map fun c => key O c.d := ⟨_, rfl⟩
 have hKl : K.length = L.length := by rw [hK, List.length_map]
 rw [← hK] at hke
 have hkc := Ce K
 rw [hKl] at hkc
 have hap : ∀ (O : List bB) (x : bB) objs, O.length ≤ 1000000 → dA Tryz.prog 23 (lsA σ.toks.length 5 (aL O) O.length) (.sl 5 (dV x) 1 .full) ⟨objs, σ.toks ++ lsT O.length, σ.gl, σ.rows⟩ = some (lsA σ.toks.length 5 (aL (O ++ [x])) (O.length + 1), ⟨objs, σ.toks ++ lsT (O.length + 1), σ.gl, σ.rows⟩) := fun O x objs hO => by
  rw [← p8]
  exact qS elemT_23 ti_38 (by decide) rfl (fun h => by rw [List.eq_nil_of_length_eq_zero h]; rfl) rfl (by omega) (by simp only [fZ]; omega) (by simp only [maxLen]; omega)
 have F := And.intro hol (And.intro hkc (And.intro hKl (True.intro)))
 refine aA Tryz.func73 rfl rfl rfl ?_; refine sr fun _ hJ2 => ?_; apply hJ2; refine sr fun _ hJ4 => ?_; apply hJ4; refine sq fun K5 hK5 => ?_; refine sr fun _ hJ7 => ?_; refine ca (c := hke) (k := ?_); rintro _ _ ⟨rfl, rfl⟩; (repeat first | simp [F] | simp (disch := omega) only [wC, if_pos, if_neg]); apply hJ7; refine aH ?_; refine cZ (X := Nat) [0, 4, 10, 11] (fun j ρ σ1 => (j ≤ L.length) ∧ (ρ 12 = .v (.int .i64 j)) ∧ (ρ 5 = lsA σ.toks.length 5 (aL (L.take j)) j) ∧ (σ1 = { σ with toks := σ.toks ++ lsT j })) (fun j => L.length - j) (0) ?st1 ?rd1
 case st1 =>
  refine ⟨lp, lp, lp, ?_⟩
  · simp [nD]
 case rd1 =>
  rintro j ρ1 σ1 hF1 ⟨h1, h16, h7, hσ⟩; obtain rfl := hσ.symm
  have f1 := dX hF1
  (try simp [dW, F] at f1); replace F := aF h16 F; replace F := aF h7 F; (try replace F := aF f1 F); refine sr fun _ hJ9 => ?_; apply hJ9; refine sq fun K10 hK10 => ?_; refine cs (fun c13 => ?_) (fun c13 => ?_)
  · (try exact aG c13); all_goals have c13p := c13; try simp [F] at c13p
    all_goals
     replace F := aF c13 F; try replace F := aF c13p F
     have hlt : j < L.length := by have h := c13; simp at h; omega
     obtain ⟨x, hx⟩ : ∃ x, x = key O L[j].d := ⟨_, rfl⟩
     have hxl := AN O L[j].d
     rw [← hx] at hxl
     have hgK : ∀ h : j < (lF K).length, (lF K)[j]'h = .sl 1 (aQ x) x.length .shut := fun h => by rw [Eh (by omega) h]; simp only [hK, List.getElem_map, hx]
     have hv1 := hva j hlt
     rw [← hx] at hv1
     have hj1 : j + 1 ≤ L.length := hlt
     have hbl : (aQ x).length = x.length := by simp
     have hlast : ∀ h2 : x.length - 1 < (aQ x).length, (aQ x)[x.length - 1]'h2 = .v (.int .u8 (L[j].d.toNat : Nat)) := fun h2 => by
      have e : (aQ x)[x.length - 1]? = some (.v (.int .u8 (L[j].d.toNat : Nat))) := by rw [hx]; cases O <;> rfl
      exact (List.getElem?_eq_some_iff.1 e).2
     have hsub : IntKind.i64.wrap ((x.length : Int) - 1) = ((x.length - 1 : Nat) : Int) := by rw [wrap_i64 _ (by omega) (by omega)]; omega
     have hx1 : x.length - 1 < x.length := by omega
     have hx0 : (0 : Int) ≤ (x.length - 1 : Nat) := by omega
     have hTj : (L.take j).length = j := by rw [List.length_take]; omega
     have hta : L.take j ++ [L[j]] = L.take (j + 1) := List.take_append_getElem hlt
     have hap0 := fun objs => hap (L.take j) L[j] objs (by omega)
     simp only [hta, hTj] at hap0
     have hcc : AV.v (.int .u8 (L[j].d.toNat : Nat)) :: aP L[j].n.v = dV L[j] := rfl
     have hnl : (aP L[j].n.v).length = 4 := rfl
     have hec : (dV L[j]).length = 5 := rfl
     have hnc : (∀ x, x ∈ aP L[j].n.v → x.bA = true) = True := eq_true (fun x hx => by simp only [aP, List.mem_cons, List.not_mem_nil, or_false] at hx; rcases hx with rfl | rfl | rfl | rfl <;> rfl)
     have hcl : (∀ x, x ∈ dV L[j] → x.bA = true) = True := eq_true (fun x hx => by simp only [dV, aP, List.mem_cons, List.not_mem_nil, or_false] at hx; rcases hx with rfl | rfl | rfl | rfl | rfl <;> rfl)
     obtain ⟨N, hN⟩ : ∃ N, N = aP L[j].n.v := ⟨_, rfl⟩
     obtain ⟨Q, hQ⟩ : ∃ Q, Q = dV L[j] := ⟨_, rfl⟩
     rw [← hN] at hnl hnc
     rw [← hQ] at hec hcl
     rw [← hN, ← hQ] at hcc
     simp only [← hN] at hv1
     simp only [← hQ] at hap0
     simp only [AV.bA] at hcl hnc
     have hap1 : ∀ objs, dA Tryz.prog 23 (lsA σ.toks.length 5 (aL (L.take j)) j) (.sl 5 (AV.v (.int .u8 (L[j].d.toNat : Nat)) :: N) 1 .full) ⟨objs, σ.toks ++ lsT j, σ.gl, σ.rows⟩ = some (lsA σ.toks.length 5 (aL (L.take (j + 1))) (j + 1), ⟨objs, σ.toks ++ lsT (j + 1), σ.gl, σ.rows⟩) := fun objs => by rw [hcc]; exact hap0 objs
     replace F := aF hlt (And.intro hgK (And.intro hj1 (And.intro hbl (And.intro hlast (And.intro hsub (And.intro hx1 (And.intro hx0 (And.intro hnl (And.intro hnc (And.intro hap1 F)))))))))); refine aD ?_; apply hK10; refine sq fun K11 hK11 => ?_; refine aH ?_; refine sr fun _ hJ13 => ?_; apply hJ13
     refine bQ (by kernel_rfl) fun J14 hJ14 => ?_
     refine q2 0 ?_; refine q2 1 ?_; refine q2 2 ?_; refine q2 3 ?_; refine q2 4 ?_; refine q2 5 ?_; refine q2 6 ?_; refine q2 7 ?_; refine q2 8 ?_; refine dc 9 rfl (c := hv1 _) (k := ?_); rintro _ _ ⟨rfl, rfl⟩
     refine ⟨by first | exact fun _ _ h => h | (refine aI [6, 5, 4, 3, 2, 1, 0] (by kernel_rfl) ?_; (repeat' first | exact ln2 | refine lc ?_ ?_) <;> constructor <;> first | rfl | (simp [F]; done)), ?_⟩
     (repeat first | simp [F] | simp (disch := omega) only [wC, if_pos, if_neg]); refine q2 10 ?_; refine q2 11 ?_; refine dop 12 rfl ?_; repeat (first | simp [F] | simp (disch := omega) only [wC, if_pos, if_neg])
     refine ⟨by first | exact fun _ _ h => h | (refine aI [10, 6, 5, 4, 3, 2, 1] (by kernel_rfl) ?_; (repeat' first | exact ln2 | refine lc ?_ ?_) <;> constructor <;> first | rfl | (simp [F]; done)), ?_⟩
     refine dop 13 rfl ?_; (repeat first | simp [F] | simp (disch := omega) only [wC, if_pos, if_neg]); (try refine ⟨ln, ?_⟩); refine dd ?_; apply hJ14; apply hK11; refine rg' (h := fun J15 hJ15 => ?_); apply hJ15; refine ⟨(j + 1), ⟨kp, lp, lp, lp, lp⟩, lp⟩
  (try exact aG c13); all_goals have c13p := c13; try simp [F] at c13p
  all_goals
   replace F := aF c13 F; try replace F := aF c13p F
   have hje : L.take j = L := List.take_of_length_le (by have h := c13; simp at h; omega)
   have hjl : j = L.length := by have h := c13; simp at h; omega
   have hwk := uK (k := σ.toks.length) (sz := 5) (n := j) (cs := aL L) (fun h => by rw [List.eq_nil_of_length_eq_zero (l := L) (by omega)]; rfl)
   refine bO ?_; apply hK5; refine sr fun _ hJ17 => ?_; apply hJ17; refine ra ?_
   rw [hje] at h7
   rw [← hjl]
   exact gcr (hA := by simp only [aT]; simp [F]; rw [hje]; exact hwk)

end Go.Proofs.YtjpnjhlfieklfaaGreat

/-
  A bank in a store: coins more, coins less; who may; Is, Coins, Supply, Balance.
-/
namespace Go.Proofs.YtjpnjhlfieklfaaGreat
set_option maxHeartbeats 1600000
set_option linter.unnecessarySimpa false
set_option maxRecDepth 100000
open Go Go.Vm
set_option linter.unusedSimpArgs false
set_option linter.unusedVariables false
attribute [local simp] dK aJ dJ opA bD bH cJ bP ofValue dC plain aR aS bY b6 cA cC b7 cE b8 b9 cX cB cH cG cD bU aV aU bL cS aW dN dP bI bC cN gI bR dD bW AV.cells AV.bA dE cI e6 bF aY cQ dI dS dY cL aO dR dQ cW cU cM List.getElem?_cons_zero List.getElem?_cons_succ fK fI fH fG fN fM fJ fL dF eT eF eZ cV
variable {Ru : UInt8 → List Pr}

def isB (a : UInt8) : Bool := decide (a.toNat < 200) || (decide (200 ≤ a.toNat) && decide (a.toNat ≤ 204))

theorem LR {σ : St} {a : UInt8} : aB Tryz.prog 69 [.v (.int .u8 a.toNat)] σ (fun av σ' => av = .v (.bool (isB a)) ∧ σ = σ') := by
 obtain ⟨B, hB⟩ : ∃ B, B = isB a := ⟨_, rfl⟩
 rw [← hB]
 have F := True.intro
 refine aA Tryz.func69 rfl rfl rfl ?_; refine sr fun _ hJ2 => ?_; apply hJ2; refine sr fun _ hJ4 => ?_; refine gs 5 (fun g1_2 => ?_) (fun g1_2 => ?_)
 · (try exact aG g1_2); all_goals have g1_2p := g1_2; try simp [F] at g1_2p
   all_goals
    replace F := aF g1_2 F; try replace F := aF g1_2p F
    have h1 : a.toNat < 200 := by have h := g1_2; simp at h; omega
    have hb : B = true := by rw [hB, isB, decide_eq_true h1]; rfl
    replace F := aF hb F; (iterate 6 refine no2 (k := ?_)); apply hJ4; refine ra ?_; exact rt
 (try exact aG g1_2); all_goals have g1_2p := g1_2; try simp [F] at g1_2p
 all_goals
  replace F := aF g1_2 F; try replace F := aF g1_2p F
  have h1 : ¬ a.toNat < 200 := by have h := g1_2; simp at h; omega
  have hb : decide ((a.toNat : Int) ≤ 204) = B := by rw [hB, isB, decide_eq_false h1, decide_eq_true (by omega : 200 ≤ a.toNat)]; simp; omega
  have hb2 : decide (a.toNat ≤ 204) = B := by rw [hB, isB, decide_eq_false h1, decide_eq_true (by omega : 200 ≤ a.toNat)]; simp
  replace F := aF hb2 F
  have h2 : 200 ≤ a.toNat := by omega
  have h3 : (200 : Int) ≤ (a.toNat : Int) := by omega
  replace F := aF hb (And.intro h2 (And.intro h3 F)); (iterate 3 refine go2 (k := ?_)); refine gs 8 (fun g1_5 => ?_) (fun g1_5 => ?_)
  · (try exact aG g1_5); all_goals have g1_5p := g1_5; try simp [F] at g1_5p
    all_goals
     replace F := aF g1_5 F; (try replace F := aF g1_5p F); (iterate 3 refine go2 (k := ?_)); apply hJ4; refine ra ?_; exact rt
  (try exact aG g1_5); all_goals have g1_5p := g1_5; try simp [F] at g1_5p
  all_goals
   replace F := aF g1_5 F; (try replace F := aF g1_5p F); (iterate 2 refine no2 (k := ?_)); refine go2 (k := ?_); apply hJ4; refine ra ?_; exact rt

theorem FK {σ : St} {o k n : Nat} {G : Sg} {T : Tb} {a : UInt8} (h : fS σ o k G) (hi : gC Ru G.s T n) (hn : n ≤ 100000) :
  aB Tryz.prog 46 [.ptr o 0, .v (.int .u8 a.toNat)] σ (fun av σ' => av = .sl 5 (aL (T (some a))) (T (some a)).length .shut ∧ σ = σ') := by
 have hl : aB Tryz.prog 73 [.ptr o 0, .sl 1 [.v (.int .u8 98), .v (.int .u8 a.toNat)] 2 .full] σ _ := Cj (O := some a) (t := .full) h hi hn
 have F := True.intro
 refine aA Tryz.func46 rfl rfl rfl ?_; refine sr fun _ hJ2 => ?_; apply hJ2; refine sr fun _ hJ4 => ?_; refine ca (c := hl) (k := ?_); rintro _ _ ⟨rfl, rfl⟩; (repeat first | simp [F] | simp (disch := omega) only [wC, if_pos, if_neg]); apply hJ4; refine ra ?_; exact rt

theorem F8 {σ : St} {o k n : Nat} {G : Sg} {T : Tb} (h : fS σ o k G) (hi : gC Ru G.s T n) (hn : n ≤ 100000) :
  aB Tryz.prog 38 [.ptr o 0] σ (fun av σ' => av = .sl 5 (aL (T none)) (T none).length .shut ∧ σ = σ') := by
 have hl : aB Tryz.prog 73 [.ptr o 0, .sl 1 [.v (.int .u8 115)] 1 .full] σ _ := Cj (O := none) (t := .full) h hi hn
 have F := True.intro
 refine aA Tryz.func38 rfl rfl rfl ?_; refine sr fun _ hJ2 => ?_; apply hJ2; refine sr fun _ hJ4 => ?_; refine ca (c := hl) (k := ?_); rintro _ _ ⟨rfl, rfl⟩; (repeat first | simp [F] | simp (disch := omega) only [wC, if_pos, if_neg]); apply hJ4; refine ra ?_; exact rt

theorem Hq {σ : St} {a : AV} : aB Tryz.prog 73 [.v (.pointer none), a] σ (fun av σ' => av = .sl 5 [] 0 .shut ∧ σ = σ') := by
 refine aM ?_ rfl
 have F := True.intro
 refine aA Tryz.func73 rfl rfl rfl ?_; refine sr fun _ hJ2 => ?_; apply hJ2; refine sr fun _ hJ4 => ?_; apply hJ4; refine sq fun K5 hK5 => ?_; refine sr fun _ hJ7 => ?_; refine ca (c := Bv) (k := ?_); rintro _ _ ⟨rfl, rfl⟩; (repeat first | simp [F] | simp (disch := omega) only [wC, if_pos, if_neg]); apply hJ7; refine aH ?_; refine cZ (X := Nat) [0, 4, 10, 11] (fun j ρ σ1 => (ρ 12 = .v (.int .i64 0)) ∧ (ρ 5 = .sl 0 [] 0 .full) ∧ (σ1 = σ)) (fun j => 0) (0) ?st1 ?rd1
 case st1 =>
  refine ⟨lp, lp, lp⟩
 case rd1 =>
  rintro j ρ1 σ1 hF1 ⟨h16, h7, hσ⟩; obtain rfl := hσ.symm
  have f1 := dX hF1
  (try simp [dW, F] at f1); replace F := aF h16 F; replace F := aF h7 F; (try replace F := aF f1 F); refine sr fun _ hJ9 => ?_; apply hJ9; refine sq fun K10 hK10 => ?_; refine cf ?_; refine bO ?_; apply hK5; refine sr fun _ hJ12 => ?_; apply hJ12; refine ra ?_; exact gcr

theorem DZ {σ : St} {a : UInt8} : aB Tryz.prog 46 [.v (.pointer none), .v (.int .u8 a.toNat)] σ (fun av σ' => av = .sl 5 [] 0 .shut ∧ σ = σ') := by
 have F := True.intro
 refine aA Tryz.func46 rfl rfl rfl ?_; refine sr fun _ hJ2 => ?_; apply hJ2; refine sr fun _ hJ4 => ?_; refine ca (c := Hq) (k := ?_); rintro _ _ ⟨rfl, rfl⟩; (repeat first | simp [F] | simp (disch := omega) only [wC, if_pos, if_neg]); apply hJ4; refine ra ?_; exact rt

theorem JJ {σ : St} {o : Nat} {l : List bB} {a : UInt8} (hl : l.length ≤ 9223372036854775807) :
  aB Tryz.prog 36 [.ptr o 0, .sl 5 (aL l) l.length .shut, .sl 1 [.v (.int .u8 a.toNat)] 1 .full] σ (fun av σ' => av = .v (.bool (isB a && decide (bM l))) ∧ σ = σ') := by
 obtain ⟨B, hB⟩ : ∃ B, B = (isB a && decide (bM l)) := ⟨_, rfl⟩
 rw [← hB]
 have hr := tI (σ := σ) (tl := .shut) hl
 have hz := LR (σ := σ) (a := a)
 have F := True.intro
 refine aA Tryz.func36 rfl rfl rfl ?_; refine sr fun _ hJ2 => ?_; apply hJ2; refine sq fun K3 hK3 => ?_; refine sr fun _ hJ5 => ?_; apply hJ5; refine aH ?_; refine cZ (X := Nat) [0, 1, 9, 10] (fun j ρ σ1 => (j ≤ 1) ∧ (0 < j → isB a = true) ∧ (ρ 11 = .v (.int .i64 j)) ∧ (σ1 = σ)) (fun j => 1 - j) (0) ?st1 ?rd1
 case st1 =>
  refine ⟨lp, ?_, lp, lp⟩
  · intro h
    omega
 case rd1 =>
  rintro j ρ1 σ1 hF1 ⟨h1, h2, h3, hσ⟩; obtain rfl := hσ.symm
  have f1 := dX hF1
  (try simp [dW, F] at f1); replace F := aF h3 F; (try replace F := aF f1 F); refine sr fun _ hJ7 => ?_; apply hJ7; refine sq fun K8 hK8 => ?_; refine cs (fun c12 => ?_) (fun c12 => ?_)
  · (try exact aG c12); all_goals have c12p := c12; try simp [F] at c12p
    all_goals
     replace F := aF c12 F; try replace F := aF c12p F
     have hj : j = 0 := by have h := c12; simp at h; omega
     subst hj
     refine aD ?_; apply hK8; refine sq fun K9 hK9 => ?_; refine aH ?_; refine sr fun _ hJ11 => ?_; apply hJ11; refine sr fun _ hJ13 => ?_; refine ca (c := hz) (k := ?_); rintro _ _ ⟨rfl, rfl⟩; (repeat first | simp [F] | simp (disch := omega) only [wC, if_pos, if_neg]); apply hJ13; refine cs (fun c17 => ?_) (fun c17 => ?_)
     · (try exact aG c17); all_goals have c17p := c17; try simp [F] at c17p
       all_goals
        replace F := aF c17 F; try replace F := aF c17p F
        have hb : B = false := by rw [hB]; have h := c17; simp at h; rw [h]; rfl
        replace F := aF hb F; refine sr fun _ hJ15 => ?_; apply hJ15; refine ra ?_; exact rt
     (try exact aG c17); all_goals have c17p := c17; try simp [F] at c17p
     all_goals
      replace F := aF c17 F; (try replace F := aF c17p F); refine aD ?_; apply hK9; refine rg' (h := fun J16 hJ16 => ?_); apply hJ16; refine ⟨(1), ⟨kp, lp, ?_, lp, lp⟩, lp⟩
      · intro _
        simpa using c17
  (try exact aG c12); all_goals have c12p := c12; try simp [F] at c12p
  all_goals
   replace F := aF c12 F; try replace F := aF c12p F
   have hj : j = 1 := by have h := c12; simp at h; omega
   have hia := h2 (by omega)
   have hb : B = decide (bM l) := by rw [hB, hia]; rfl
   replace F := aF hb F; refine bO ?_; apply hK3; refine sr fun _ hJ18 => ?_; refine go2 (k := ?_); refine ca (c := hr) (k := ?_); rintro _ _ ⟨rfl, rfl⟩; (repeat first | simp [F] | simp (disch := omega) only [wC, if_pos, if_neg]); apply hJ18; refine ra ?_; exact rt

end Go.Proofs.YtjpnjhlfieklfaaGreat

/-
  A bank in a store: coins more, coins less.
-/
namespace Go.Proofs.YtjpnjhlfieklfaaGreat
set_option linter.unnecessarySimpa false
set_option maxRecDepth 100000
open Go Go.Vm
set_option linter.unusedSimpArgs false
set_option linter.unusedVariables false
attribute [local simp] dK aJ dJ opA bD bH cJ bP ofValue dC plain aR aS bY b6 cA cC b7 cE b8 b9 cX cB cH cG cD bU aV aU bL cS aW dN dP bI bC cN gI bR dD bW AV.cells AV.bA dE cI e6 bF aY cQ dI dS dY cL aO dR dQ cW cU cM List.getElem?_cons_zero List.getElem?_cons_succ fK fI fH fG fN fM fJ fL dF eT eF eZ
variable {Ru : UInt8 → List Pr}

def gB (σ : St) (o k : Nat) (G : Sg) (l : List (List AV)) (t : List Nat) : St := dU { σ with objs := σ.objs ++ l, toks := σ.toks ++ t } o k G

theorem gB.has {σ : St} {o k : Nat} {G0 : Sg} (h : fS σ o k G0) (G : Sg) (l : List (List AV)) (t : List Nat) : fS (gB σ o k G l t) o k G := (h.app l (σ.toks ++ t)).put G

theorem gB.put (σ : St) (o k : Nat) (G G' : Sg) (l : List (List AV)) (t : List Nat) : dU (gB σ o k G l t) o k G' = gB σ o k G' l t := CY _ _ _ _ _

theorem gB.len (σ : St) (o k : Nat) (G : Sg) (l : List (List AV)) (t : List Nat) : (gB σ o k G l t).objs.length = σ.objs.length + l.length := by simp [gB, dU]

theorem gB.app {σ : St} {o k : Nat} {G0 : Sg} (h : fS σ o k G0) (G : Sg) (l : List (List AV)) (t : List Nat) (x : List AV) (y : Nat) : { gB σ o k G l t with objs := (gB σ o k G l t).objs ++ [x], toks := (gB σ o k G l t).toks ++ [y] } = gB σ o k G (l ++ [x]) (t ++ [y]) := by
 have hl := cR h.o
 simp only [gB, dU]
 rw [← List.append_assoc, ← List.append_assoc, List.set_append_left _ _ (by simp; omega : o < (σ.objs ++ l).length)]

theorem gB.MO {σ : St} {o k : Nat} {G0 : Sg} (h : fS σ o k G0) (G : Sg) (l : List (List AV)) (t : List Nat) (x : List AV) : { gB σ o k G l t with objs := (gB σ o k G l t).objs ++ [x] } = gB σ o k G (l ++ [x]) t := by
 have hl := cR h.o
 simp only [gB, dU]
 rw [← List.append_assoc, List.set_append_left _ _ (by simp; omega : o < (σ.objs ++ l).length)]

theorem gB.get {σ : St} {o k : Nat} {G0 : Sg} (h : fS σ o k G0) (G : Sg) (l m : List (List AV)) (t : List Nat) (x : List AV) : (gB σ o k G (l ++ x :: m) t).objs[σ.objs.length + l.length]? = some x := by
 have hl := cR h.o
 simp only [gB, dU]
 rw [List.getElem?_set_ne (by omega), List.getElem?_append_right (by omega), Nat.add_sub_cancel_left, List.getElem?_append_right (Nat.le_refl _), Nat.sub_self]; rfl

theorem gB.self {σ : St} {o k : Nat} {G : Sg} (h : fS σ o k G) : gB σ o k G [] [] = σ := by
 simp only [gB, List.append_nil]; exact uD h

theorem gB.fin {σ : St} {o k : Nat} {G0 : Sg} (h : fS σ o k G0) (G : Sg) (l : List (List AV)) (t : List Nat) : gB σ o k G l t = { dU σ o k G with objs := (dU σ o k G).objs ++ l, toks := σ.toks ++ t } := Ec h l (σ.toks ++ t) G

theorem Kr {K : List UInt8} {tl : eK} (hl : K.length ≤ 1000) (objs : List (List AV)) (tk : List Nat) (gl : Nat → Option (List AV)) (rows : List fP) : dA Tryz.prog 102 (.sl 0 [] 0 .full) (.sl 1 (aQ K) K.length tl) ⟨objs, tk, gl, rows⟩ = some (.sl 1 (aQ K) K.length (.own tk.length), ⟨objs, tk ++ [K.length], gl, rows⟩) := by
 have e1 := elemT_102
 have e2 := ti_5
 have h1 : K.length ≤ 9223372036854775807 := by omega
 have h2 : K.length ≤ 140737488355328 := by omega
 simp [dA, kE, e1, e2, fZ, maxLen, h1, h2, Value.cells]

theorem Lp {cs : List AV} {n : Nat} {x : AV} (hl : n ≤ 1000) (objs : List (List AV)) (tk : List Nat) (gl : Nat → Option (List AV)) (rows : List fP) : dA Tryz.prog 102 (.sl 1 cs n (.own tk.length)) (.sl 1 [x] 1 .full) ⟨objs, tk ++ [n], gl, rows⟩ = some (.sl 1 (cs ++ [x]) (n + 1) (.own tk.length), ⟨objs, tk ++ [n + 1], gl, rows⟩) := by
 have e1 := elemT_102
 have e2 := ti_5
 have h1 : n + 1 ≤ 9223372036854775807 := by omega
 have h2 : n + 1 ≤ 140737488355328 := by omega
 simp [dA, kE, e1, e2, fZ, maxLen, h1, h2, Value.cells]

structure TkS where
 j : Nat
 G : Sg
 l : List (List AV)
 t : List Nat

theorem Ic {l : List bB} (h : bM l) : ∀ (i d : Nat), amt (l.take i) d ≤ amt l d := fun i d => by
 have e := wV (l.take i) (l.drop i) d
 rw [List.take_append_drop] at e
 rw [e]
 by_cases hx : ∃ c ∈ l.take i, c.d.toNat = d
 · rw [if_pos hx]; exact Nat.le_refl _
 · rw [lM (fun c hc q => hx ⟨c, hc, q⟩)]; exact Nat.zero_le _

set_option maxHeartbeats 1600000 in
attribute [local simp] cV List.getElem?_cons_zero List.getElem?_cons_succ in
theorem Ex {σ : St} {o k n : Nat} {G : Sg} {T : Tb} {O : Option UInt8} {l : List bB} (h : fS σ o k G) (hi : gC Ru G.s T n) (hn : n ≤ 1000) (hR : bM l) (hno : ∀ d, d < 8 → amt (T O) d + amt l d < 2 ^ 256) :
  aB Tryz.prog 39 [.ptr o 0, .sl 5 (aL l) l.length .shut, .sl 1 (aQ (kk O)) (kk O).length .full] σ (fun av σ' => ∃ G', gC Ru G'.s (upd T O (lX (T O) l)) (n + 8) ∧ av = .tup [] ∧ σ' = dU σ o k G') := by
 have h8 := eI hR
 have hlc := xV l
 refine bV (kA (X := { G' : Sg // gC Ru G'.s (upd T O (lX (T O) l)) (n + 8) }) (A := fun _ => .tup []) (τ := fun x => dU σ o k x.1) ?_ (fun _ => rfl) (fun x => by simp [dU]) (fun x => rfl) (fun x => by simp [dU]) (fun x => rfl) (fun x => uI h _) (fun x => uU (o := o) (k := k) (σ := σ) _)) (fun av σ' ⟨x, e1, e2⟩ => ⟨x.1, x.2, e1, e2⟩)
 have hself := (gB.self h).symm
 have hgl := gB.len σ o k
 have hap2 := gB.app h
 have hap1 := gB.MO h
 have hget := gB.get h
 have hput := gB.put σ o k
 have hkk := GZ O
 obtain ⟨KB, hKB⟩ : ∃ KB, KB = aQ (kk O) := ⟨_, rfl⟩
 obtain ⟨KN, hKN⟩ : ∃ KN, KN = (kk O).length := ⟨_, rfl⟩
 have b1 := fun objs tk gl rows => Kr (K := kk O) (tl := .full) (by omega) objs tk gl rows
 have b2 := fun x objs tk gl rows => Lp (cs := KB) (n := KN) (x := x) (by omega) objs tk gl rows
 simp only [← hKB, ← hKN] at b1
 have hey : ∀ d : UInt8, KB ++ [.v (.int .u8 d.toNat)] = aQ (key O d) := fun d => by rw [hKB, key]; simp [aQ]
 have hel : ∀ d : UInt8, KN + 1 = (key O d).length := fun d => by rw [hKN, key]; simp
 rw [← hKB, ← hKN]
 have F := And.intro hlc (And.intro hgl (And.intro b1 (And.intro b2 (True.intro))))
 refine aA Tryz.func39 rfl rfl rfl ?_; refine sq fun K1 hK1 => ?_
 rw [hself]
 refine rg' (h := fun J2 hJ2 => ?_); apply hJ2; apply hK1; refine aH ?_; refine cZ (X := TkS) [0, 2, 11, 12] (fun x ρ σ1 => (x.j ≤ l.length) ∧ (gC Ru x.G.s (upd T O (lX (T O) (l.take x.j))) (n + x.j)) ∧ (ρ 13 = .v (.int .i64 x.j)) ∧ (σ1 = gB σ o k x.G x.l x.t)) (fun x => l.length - x.j) (⟨0, G, [], []⟩) ?st1 ?rd1
 case st1 =>
  refine ⟨lp, ?_, lp, lp⟩
  · rw [List.take_zero, G6 (hi.rt O), Kw]
    exact hi
 case rd1 =>
  rintro x ρ1 σ1 hF1 ⟨h1, h2, h3, hσ⟩; obtain rfl := hσ.symm
  have f1 := dX hF1
  (try simp [dW, F] at f1); replace F := aF h3 F; (try replace F := aF f1 F); refine sr fun _ hJ4 => ?_; apply hJ4; refine sq fun K5 hK5 => ?_; refine cs (fun c14 => ?_) (fun c14 => ?_)
  · (try exact aG c14); all_goals have c14p := c14; try simp [F] at c14p
    all_goals
     replace F := aF c14 F; try replace F := aF c14p F
     have hlt : x.j < l.length := by have h := c14; simp at h; omega
     obtain ⟨c, hc⟩ : ∃ c, c = l[x.j] := ⟨_, rfl⟩
     have hta : l.take x.j ++ [c] = l.take (x.j + 1) := by rw [hc]; exact List.take_append_getElem hlt
     have hRb : bM (l.take x.j ++ [c]) := by rw [hta]; exact w9 hR _
     have hat := gD hlt
     rw [← hc] at hat
     have hR5 : List.take 5 (List.drop (x.j * 5) (aL l)) = dV c := by rw [hat]; rfl
     have hc8 := (hRb.1 c (by simp)).1
     obtain ⟨v0, hv0⟩ : ∃ v0, v0 = amt (lX (T O) (l.take x.j)) c.d.toNat := ⟨_, rfl⟩
     have hv0l : v0 < 2 ^ 256 := by rw [hv0]; exact jG _ _
     have hg := h2.gt O c.d
     rw [qE, ← hv0] at hg
     obtain ⟨v1, hv1e⟩ : ∃ v1, v1 = v0 + c.n.v := ⟨_, rfl⟩
     have hstp := Gm hRb (fun d hd => Nat.lt_of_le_of_lt (Nat.add_le_add_left (by rw [hta]; exact Ic hR _ d) _) (hno d hd))
     have hv1l : v1 < 2 ^ 256 := by rw [hv1e, hv0]; exact hstp.2
     have hv1 : Gu (lX (T O) (l.take x.j)) c.d.toNat v1 = lX (T O) (l.take x.j ++ [c]) := by rw [hv1e, hv0]; exact hstp.1
     have hst := h2.set (o := O) (d := c.d) hc8 hv1l
     rw [qE, I4, hv1, hta] at hst
     have hrd : ∀ τ tl, fS τ o k x.G → aB Tryz.prog 74 [.ptr o 0, .sl 1 (KB ++ [.v (.int .u8 c.d.toNat)]) (KN + 1) tl] τ (fun av σ' => av = .agg (aP v0) ∧ τ = σ') := fun τ tl hh => by rw [hey, hel c.d]; exact CD hh h2.ok (by omega) hg hv0l
     have hb1 := gB.has h x.G
     have hb2 : ∀ L t y, fS { gB σ o k x.G L t with objs := (gB σ o k x.G L t).objs ++ [y] } o k x.G := fun L t y => by rw [hap1]; exact gB.has h x.G _ _
     have hwr : ∀ L t, aB Tryz.prog 75 [.ptr o 0, .agg (aP v1), .sl 1 (KB ++ [.v (.int .u8 c.d.toNat)]) (KN + 1) (.own (gB σ o k x.G x.l x.t).toks.length)] (gB σ o k x.G L t) (fun av σ' => ∃ G', gC Ru G'.s (upd T O (lX (T O) (l.take (x.j + 1)))) (n + x.j + 1) ∧ av = .tup [] ∧ σ' = gB σ o k G' L t) := fun L t => by
      rw [hey, hel c.d]; exact bV (Fa (gB.has h x.G L t) h2.ok (by omega) hv1l (by have := AN O c.d; omega)) (fun av σ' ⟨G', e1, e2, e3⟩ => ⟨G', by rw [e1]; exact hst, e2, by rw [e3, hput]⟩)
     have hi1 : x.j + 1 ≤ l.length := hlt
     have hwi : IntKind.i64.wrap ((x.j : Int) + 1) = (x.j : Int) + 1 := wrap_i64 _ (by omega) (by omega)
     have b5 : x.j * 5 + 5 ≤ l.length * 5 := by omega
     have c0 : ∀ h2 : 0 < (dV c).length, (dV c)[0]'h2 = .v (.int .u8 (c.d.toNat : Nat)) := fun _ => rfl
     have c1 : List.take 4 (dV c).tail = aP c.n.v := rfl
     have cl : (dV c).length = 5 := rfl
     have hcl : (∀ x, x ∈ dV c → x.bA = true) = True := eq_true (fun x hx => by simp only [dV, aP, List.mem_cons, List.not_mem_nil, or_false] at hx; rcases hx with rfl | rfl | rfl | rfl | rfl <;> rfl)
     have ct : List.take 5 (dV c) = dV c := rfl
     obtain ⟨C, hC⟩ : ∃ C, C = dV c := ⟨_, rfl⟩
     rw [← hC] at hR5 c1 cl hcl ct
     simp only [← hC] at c0
     simp only [AV.bA] at hcl
     have g1 := fun G' m t => hget G' x.l m t C
     have g2 : ∀ G' m t (h2 : σ.objs.length + x.l.length < (gB σ o k G' (x.l ++ C :: m) t).objs.length), (gB σ o k G' (x.l ++ C :: m) t).objs[σ.objs.length + x.l.length]'h2 = C := fun G' m t h2 => (List.getElem?_eq_some_iff.1 (g1 G' m t)).2
     have hrs := fun τ => AP (σ := τ) hv0l c.n.h
     have hadd : mS v0 c.n.v = v1 := by rw [hv1e, mS, if_pos (by rw [← hv1e]; exact hv1l)]
     simp only [hadd] at hrs
     have hn1l : (aP v1).length = 4 := rfl
     have hn1t : List.take 4 (aP v1) = aP v1 := rfl
     have hn1c : (∀ x, x ∈ aP v1 → x.bA = true) = True := eq_true (fun x hx => by simp only [aP, List.mem_cons, List.not_mem_nil, or_false] at hx; rcases hx with rfl | rfl | rfl | rfl <;> rfl)
     obtain ⟨N1, hN1⟩ : ∃ N1, N1 = aP v1 := ⟨_, rfl⟩
     rw [← hN1] at hn1l hn1t hn1c
     simp only [← hN1] at hrs hwr
     simp only [AV.bA] at hn1c
     have g3 : ∀ G' t, (gB σ o k G' (x.l ++ [C, N1]) t).objs[σ.objs.length + (x.l.length + 1)]? = some N1 := fun G' t => by have := hget G' (x.l ++ [C]) [] t N1; rw [List.length_append, List.append_assoc] at this; exact this
     have g4 : ∀ G' t (h2 : σ.objs.length + (x.l.length + 1) < (gB σ o k G' (x.l ++ [C, N1]) t).objs.length), (gB σ o k G' (x.l ++ [C, N1]) t).objs[σ.objs.length + (x.l.length + 1)]'h2 = N1 := fun G' t h2 => (List.getElem?_eq_some_iff.1 (g3 G' t)).2
     replace F := aF hn1l (And.intro hn1t (And.intro hn1c (And.intro g3 (And.intro g4 F)))); replace F := aF hlt (And.intro hR5 (And.intro hi1 (And.intro hwi (And.intro b5 (And.intro c0 (And.intro c1 (And.intro cl (And.intro hcl (And.intro ct (And.intro g1 (And.intro g2 F))))))))))); refine aD ?_; apply hK5; refine sq fun K6 hK6 => ?_; refine aH ?_; refine sr fun _ hJ8 => ?_; apply hJ8; refine sq fun K9 hK9 => ?_
     refine bQ (by kernel_rfl) fun J10 hJ10 => ?_
     refine q2 0 ?_; refine q2 2 ?_; refine q2 3 ?_; refine q2 4 ?_; refine dop 1 rfl ?_; repeat (first | simp [F] | simp (disch := omega) only [wC, if_pos, if_neg])
     refine ⟨by first | exact fun _ _ h => h | (refine aI [4, 3, 2] (by kernel_rfl) ?_; (repeat' first | exact ln2 | refine lc ?_ ?_) <;> constructor <;> first | rfl | (simp [F]; done)), ?_⟩
     refine dop 5 rfl ?_; repeat (first | simp [F] | simp (disch := omega) only [wC, if_pos, if_neg])
     refine ⟨by first | exact fun _ _ h => h | (refine aI [3, 2] (by kernel_rfl) ?_; (repeat' first | exact ln2 | refine lc ?_ ?_) <;> constructor <;> first | rfl | (simp [F]; done)), ?_⟩
     refine q2 6 ?_; refine dd ?_; apply hJ10; apply hK9; refine sq fun K11 hK11 => ?_
     rw [hap2]
     refine bQ (by kernel_rfl) fun J12 hJ12 => ?_
     refine q2 0 ?_; refine q2 1 ?_; refine q2 3 ?_; refine q2 4 ?_; refine d2 2 9 ?_ ?_
     · refine ac 2 rfl (c := hrd _ _ (by first | exact hb1 _ _ | exact hb2 _ _ _)) (k := ?_)
       rintro _ _ ⟨rfl, rfl⟩
       refine ⟨by first | exact fun _ _ h => h | (refine aI [4, 3] (by kernel_rfl) ?_; (repeat' first | exact ln2 | refine lc ?_ ?_) <;> constructor <;> first | rfl | (simp [F]; done)), ?_⟩
       (repeat first | simp [F] | simp (disch := omega) only [wC, if_pos, if_neg]); refine d2 5 9 ?_ ?_
       · refine ac 5 rfl (c := hrs _) (k := ?_); rintro _ _ ⟨rfl, rfl⟩
         refine ⟨by first | exact fun _ _ h => h | (refine aI [3] (by kernel_rfl) ?_; (repeat' first | exact ln2 | refine lc ?_ ?_) <;> constructor <;> first | rfl | (simp [F]; done)), ?_⟩
         (repeat first | simp [F] | simp (disch := omega) only [wC, if_pos, if_neg]); refine q2 6 ?_; refine q2 7 ?_; refine q2 8 ?_; refine dop 9 rfl ?_; repeat (first | simp [F] | simp (disch := omega) only [wC, if_pos, if_neg])
         refine ⟨by first | exact bT _ (by kernel_rfl) | exact bN (by kernel_rfl) rfl, ?_⟩
         refine dop 10 rfl ?_; repeat (first | simp [F] | simp (disch := omega) only [wC, if_pos, if_neg])
         refine ⟨bS (by kernel_rfl), ?_⟩
         refine q2 11 ?_; refine dd ?_; apply hJ12; apply hK11
         rw [hap1]
         refine rg' (h := fun J13 hJ13 => ?_); refine ca (c := hwr _ _) (k := ?_); rintro _ _ ⟨G1, e1, rfl, rfl⟩; (repeat first | simp [F] | simp (disch := omega) only [wC, if_pos, if_neg]); apply hJ13; apply hK6; refine rg' (h := fun J14 hJ14 => ?_); apply hJ14; refine ⟨(⟨x.j + 1, G1, x.l ++ [C, N1], x.t ++ [KN + 1]⟩), ⟨kp, lp, ?_, lp, lp⟩, lp⟩
         · exact e1
       · refine ao 9 rfl ?_; repeat (first | simp [F] | simp (disch := omega) only [wC, if_pos, if_neg])
         refine ⟨by first | exact bT _ (by kernel_rfl) | exact bN (by kernel_rfl) rfl, ?_⟩
         refine dc 5 rfl (c := hrs _) (k := ?_); rintro _ _ ⟨rfl, rfl⟩
         refine ⟨by first | exact fun _ _ h => h | (refine aI [3] (by kernel_rfl) ?_; (repeat' first | exact ln2 | refine lc ?_ ?_) <;> constructor <;> first | rfl | (simp [F]; done)), ?_⟩
         (repeat first | simp [F] | simp (disch := omega) only [wC, if_pos, if_neg]); refine q2 6 ?_; refine q2 7 ?_; refine q2 8 ?_; refine dop 10 rfl ?_; repeat (first | simp [F] | simp (disch := omega) only [wC, if_pos, if_neg])
         refine ⟨bS (by kernel_rfl), ?_⟩
         refine q2 11 ?_; refine dd ?_; apply hJ12; apply hK11
         rw [hap1]
         refine rg' (h := fun J15 hJ15 => ?_); refine ca (c := hwr _ _) (k := ?_); rintro _ _ ⟨G1, e1, rfl, rfl⟩; (repeat first | simp [F] | simp (disch := omega) only [wC, if_pos, if_neg]); apply hJ15; apply hK6; refine rg' (h := fun J16 hJ16 => ?_); apply hJ16; refine ⟨(⟨x.j + 1, G1, x.l ++ [C, N1], x.t ++ [KN + 1]⟩), ⟨kp, lp, ?_, lp, lp⟩, lp⟩
         · exact e1
     · refine ao 9 rfl ?_; repeat (first | simp [F] | simp (disch := omega) only [wC, if_pos, if_neg])
       refine ⟨by first | exact bT _ (by kernel_rfl) | exact bN (by kernel_rfl) rfl, ?_⟩
       refine dc 2 rfl (c := hrd _ _ (by first | exact hb1 _ _ | exact hb2 _ _ _)) (k := ?_)
       rintro _ _ ⟨rfl, rfl⟩
       refine ⟨by first | exact fun _ _ h => h | (refine aI [4, 3] (by kernel_rfl) ?_; (repeat' first | exact ln2 | refine lc ?_ ?_) <;> constructor <;> first | rfl | (simp [F]; done)), ?_⟩
       (repeat first | simp [F] | simp (disch := omega) only [wC, if_pos, if_neg]); refine dc 5 rfl (c := hrs _) (k := ?_); rintro _ _ ⟨rfl, rfl⟩
       refine ⟨by first | exact fun _ _ h => h | (refine aI [3] (by kernel_rfl) ?_; (repeat' first | exact ln2 | refine lc ?_ ?_) <;> constructor <;> first | rfl | (simp [F]; done)), ?_⟩
       (repeat first | simp [F] | simp (disch := omega) only [wC, if_pos, if_neg]); refine q2 6 ?_; refine q2 7 ?_; refine q2 8 ?_; refine dop 10 rfl ?_; repeat (first | simp [F] | simp (disch := omega) only [wC, if_pos, if_neg])
       refine ⟨bS (by kernel_rfl), ?_⟩
       refine q2 11 ?_; refine dd ?_; apply hJ12; apply hK11
       rw [hap1]
       refine rg' (h := fun J17 hJ17 => ?_); refine ca (c := hwr _ _) (k := ?_); rintro _ _ ⟨G1, e1, rfl, rfl⟩; (repeat first | simp [F] | simp (disch := omega) only [wC, if_pos, if_neg]); apply hJ17; apply hK6; refine rg' (h := fun J18 hJ18 => ?_); apply hJ18; refine ⟨(⟨x.j + 1, G1, x.l ++ [C, N1], x.t ++ [KN + 1]⟩), ⟨kp, lp, ?_, lp, lp⟩, lp⟩
       · exact e1
  (try exact aG c14); all_goals have c14p := c14; try simp [F] at c14p
  all_goals
   replace F := aF c14 F; try replace F := aF c14p F
   have hje : l.take x.j = l := List.take_of_length_le (by have h := c14; simp at h; omega)
   rw [hje] at h2
   refine bO ?_; (try simp only [eQ, bK, cK, if_true]); refine gU rfl (.inl rfl) ?_
   refine ⟨⟨x.G, h2.mono (by omega)⟩, ?_⟩
   rw [gB.fin h]
   exact gcr

end Go.Proofs.YtjpnjhlfieklfaaGreat

/-
  A bank in a store: sent, minted, burnt.
-/
namespace Go.Proofs.YtjpnjhlfieklfaaGreat
set_option linter.unnecessarySimpa false
set_option maxRecDepth 100000
open Go Go.Vm
set_option linter.unusedSimpArgs false
set_option linter.unusedVariables false
attribute [local simp] dK aJ dJ opA bD bH cJ bP ofValue dC plain aR aS bY b6 cA cC b7 cE b8 b9 cX cB cH cG cD bU aV aU bL cS aW dN dP bI bC cN gI bR dD bW AV.cells AV.bA dE cI e6 bF aY cQ dI dS dY cL aO dR dQ cW cU cM List.getElem?_cons_zero List.getElem?_cons_succ fK fI fH fG fN fM fJ fL dF eT eF eZ
variable {Ru : UInt8 → List Pr}

def z4 (f : UInt8 → Nat) : Nat → Nat
 | 0 => 0
 | n + 1 => z4 f n + f (UInt8.ofNat n)

theorem CC {f : UInt8 → Nat} {a : UInt8} : ∀ n, n ≤ 256 → a.toNat < n → f a ≤ z4 f n
 | 0, _, h => by omega
 | n + 1, hn, h => by
   simp only [z4]
   by_cases e : a.toNat = n
   · have : UInt8.ofNat n = a := by rw [← e]; exact UInt8.toNat_inj.1 (toNat_ofNat a.toNat_lt)
     rw [this]; omega
   · have := CC (f := f) n (by omega) (by omega : a.toNat < n)
     omega

def Ma (T : Tb) (d : Nat) : Nat := z4 (fun a => amt (T (some a)) d) 256

theorem I7 (T : Tb) (a : UInt8) (d : Nat) : amt (T (some a)) d ≤ Ma T d := CC (f := fun x => amt (T (some x)) d) 256 (Nat.le_refl _) a.toNat_lt

def D8 (T : Tb) : Prop := ∀ d, d < 8 → Ma T d = amt (T none) d

structure BR where
 T : Tb
 e : Nat

def vS (T : Tb) (b : UInt8) (l : List bB) : BR :=
 if ¬ (isB b = true ∧ bM l) then ⟨T, 1⟩ else if ¬ iV (T none) l = 0 then ⟨T, 2⟩ else
 ⟨upd (upd T none (lX (T none) l)) (some b) (lX (T (some b)) l), 0⟩

theorem F1 {T : Tb} {b : UInt8} {l : List bB} (hs : D8 T) (hw : iV (T none) l = 0) : ∀ d, d < 8 → amt (T (some b)) d + amt l d < 2 ^ 256 := fun d hd => by
 have h2 := I7 T b d
 have h4 := jT.1 hw d hd
 have h5 := hs d hd
 omega

theorem D8.nil : D8 tb0 := fun d hd => by
 have : ∀ n, z4 (fun a => amt (tb0 (some a)) d) n = 0 := fun n => by
  induction n with
  | zero => rfl
  | succ n ih => simp only [z4, ih]; rfl
 exact this 256

set_option maxHeartbeats 1600000 in
attribute [local simp] cV List.getElem?_cons_zero List.getElem?_cons_succ in
theorem HK {σ : St} {o k n : Nat} {G : Sg} {T : Tb} {b : UInt8} {l : List bB} (h : fS σ o k G) (hi : gC Ru G.s T n) (hs : D8 T) (hn : n ≤ 900) (hl : l.length ≤ 9223372036854775807) :
  aB Tryz.prog 16 [.ptr o 0, .v (.int .u8 b.toNat), .sl 5 (aL l) l.length .shut] σ (fun av σ' => ∃ G', gC Ru G'.s (vS T b l).T (n + 16) ∧ av = .v (.int .i64 ((vS T b l).e : Nat)) ∧ σ' = dU σ o k G') := by
 obtain ⟨⟨PT, PE⟩, hP⟩ : ∃ P, P = vS T b l := ⟨_, rfl⟩
 rw [← hP]
 simp only
 have hmy := JJ (σ := σ) (o := o) (a := b) hl
 have hsu := F8 h hi (by omega)
 have hRn := eI (hi.rt none)
 have hcd := AZ (σ := σ) (a := T none) (b := l) (ta := .shut) (tb := .shut) (by omega) hl
 have hself := uD h
 have hev := Fe (T none) l
 obtain ⟨E, hE⟩ : ∃ E, E = iV (T none) l := ⟨_, rfl⟩
 obtain ⟨AL, hAL⟩ : ∃ AL, AL = kI (T none) l := ⟨_, rfl⟩
 rw [← hE] at hev
 simp only [← hE, ← hAL] at hcd
 have ha1 : bM l → E = 0 → aB Tryz.prog 39 [.ptr o 0, .sl 5 (aL l) l.length .shut, .sl 1 [.v (.int .u8 115)] 1 .full] σ (fun av σ' => ∃ G', gC Ru G'.s (upd T none (lX (T none) l)) (n + 8) ∧ av = .tup [] ∧ σ' = dU σ o k G') := fun hR hw => Ex (O := none) h hi (by omega) hR (jT.1 (hE ▸ hw))
 have ha2 : bM l → E = 0 → ∀ G1, gC Ru G1.s (upd T none (lX (T none) l)) (n + 8) → aB Tryz.prog 39 [.ptr o 0, .sl 5 (aL l) l.length .shut, .sl 1 [.v (.int .u8 98), .v (.int .u8 b.toNat)] 2 .full] (dU σ o k G1) (fun av σ' => ∃ G', gC Ru G'.s (upd (upd T none (lX (T none) l)) (some b) (lX (T (some b)) l)) (n + 8 + 8) ∧ av = .tup [] ∧ σ' = dU σ o k G') := fun hR hw G1 h1 => by
  have e0 : upd T none (lX (T none) l) (some b) = T (some b) := D4 _ _ (by simp)
  have := Ex (O := some b) (h.put G1) h1 (by omega) hR (by rw [e0]; exact F1 hs (hE ▸ hw))
  rw [e0] at this
  exact bV this (fun av σ' ⟨G', e1, e2, e3⟩ => ⟨G', e1, e2, by rw [e3, CY]⟩)
 have F := True.intro
 refine aA Tryz.func16 rfl rfl rfl ?_; refine sr fun _ hJ2 => ?_; apply hJ2; refine sq fun K3 hK3 => ?_; refine sr fun _ hJ5 => ?_; refine ca (c := hmy) (k := ?_); rintro _ _ ⟨rfl, rfl⟩; (repeat first | simp [F] | simp (disch := omega) only [wC, if_pos, if_neg]); apply hJ5; refine cs (fun c14 => ?_) (fun c14 => ?_)
 · (try exact aG c14); all_goals have c14p := c14; try simp [F] at c14p
   all_goals
    replace F := aF c14 F; try replace F := aF c14p F
    have hR : ¬ (isB b = true ∧ bM l) := by have h := c14; simp at h; intro q; simp [q.1, q.2] at h
    obtain ⟨rfl, rfl⟩ : PT = T ∧ PE = 1 := by rw [vS, if_pos hR] at hP; simpa using hP
    refine sr fun _ hJ7 => ?_; apply hJ7; refine ra ?_; exact ⟨G, hi.mono (by omega), rfl, hself.symm⟩
 (try exact aG c14); all_goals have c14p := c14; try simp [F] at c14p
 all_goals
  replace F := aF c14 F; try replace F := aF c14p F
  have hR : isB b = true ∧ bM l := by have h := c14; simp at h; exact h
  refine aD ?_; apply hK3; refine sq fun K8 hK8 => ?_; refine sr fun _ hJ10 => ?_; refine ca (c := hsu) (k := ?_); rintro _ _ ⟨rfl, rfl⟩; (repeat first | simp [F] | simp (disch := omega) only [wC, if_pos, if_neg]); refine ca (c := hcd) (k := ?_); rintro _ _ ⟨rfl, rfl⟩; (repeat first | simp [F] | simp (disch := omega) only [wC, if_pos, if_neg]); apply hJ10; refine sr fun _ hJ12 => ?_; apply hJ12; refine cs (fun c23 => ?_) (fun c23 => ?_)
  · (try exact aG c23); all_goals have c23p := c23; try simp [F] at c23p
    all_goals
     replace F := aF c23 F; try replace F := aF c23p F
     have hw : ¬ E = 0 := by have h := c23; simpa using h
     obtain ⟨rfl, rfl⟩ : PT = T ∧ PE = 2 := by rw [vS, if_neg (Classical.not_not.2 hR), if_pos (hE ▸ hw)] at hP; simpa using hP
     have hE2 : E = 2 := by omega
     replace F := aF hE2 F; refine sr fun _ hJ14 => ?_; apply hJ14; refine ra ?_; exact ⟨G, hi.mono (by omega), by simp [F], hself.symm⟩
  (try exact aG c23); all_goals have c23p := c23; try simp [F] at c23p
  all_goals
   replace F := aF c23 F; try replace F := aF c23p F
   have hw : E = 0 := by have h := c23; simpa using h
   obtain ⟨hPT, rfl⟩ : PT = upd (upd T none (lX (T none) l)) (some b) (lX (T (some b)) l) ∧ PE = 0 := by rw [vS, if_neg (Classical.not_not.2 hR), if_neg (Classical.not_not.2 (hE ▸ hw))] at hP; simpa using hP
   refine aD ?_; apply hK8; refine sr fun _ hJ16 => ?_; refine ca (c := ha1 hR.2 hw) (k := ?_); rintro _ _ ⟨G1, e1, rfl, rfl⟩; (repeat first | simp [F] | simp (disch := omega) only [wC, if_pos, if_neg]); apply hJ16; refine sr fun _ hJ18 => ?_; refine ca (c := ha2 hR.2 hw G1 e1) (k := ?_); rintro _ _ ⟨G2, e2, rfl, rfl⟩; (repeat first | simp [F] | simp (disch := omega) only [wC, if_pos, if_neg]); apply hJ18; refine sr fun _ hJ20 => ?_; apply hJ20; refine ra ?_; exact ⟨G2, by rw [hPT]; exact e2, rfl, rfl⟩

end Go.Proofs.YtjpnjhlfieklfaaGreat
