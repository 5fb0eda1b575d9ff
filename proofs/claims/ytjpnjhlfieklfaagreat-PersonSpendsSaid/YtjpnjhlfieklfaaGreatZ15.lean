import Derived.Test.YtjpnjhlfieklfaaGreatZ7
import Derived.Test.YtjpnjhlfieklfaaGreatZ10
import Derived.Test.YtjpnjhlfieklfaaGreatZ14
import Derived.Test.YtjpnjhlfieklfaaGreatZ12
set_option linter.unnecessarySimpa false
set_option maxRecDepth 100000
set_option linter.unusedSimpArgs false
set_option linter.unusedVariables false
namespace Go.Proofs.YtjpnjhlfieklfaaGreat
set_option maxHeartbeats 1600000
open Go Go.Vm
attribute [local simp] dM aI dJ opA bH bN cM bP ofValue dC plain aQ aR cA b8 cC cB bY b7 b9 bZ cV bW cG cD b6 bU aT aS bO cU aW dQ dR bK aZ cL gA bS dE cF AV.cells AV.bL dF cO eZ bF aV cQ dI dS dV cN aN dP dO cW cT cI List.getElem?_cons_zero List.getElem?_cons_succ dA
theorem Cg {P : Program} {s d : TypeId} {p : List UInt8} {n : Nat} {t : eO} : yN P s d (.sl 1 (aY p) n t) = (match gE P s, sU P d with
  | some e, true => if Jh P e then some (.v (.string ⟨p.toArray⟩)) else none
  | _, _ => none) := by
 simp only [yN, sK]
 cases gE P s with
 | none => rfl
 | some e => cases sU P d <;> simp
attribute [local simp] Cg Bu Gl in
theorem CI {σ : St} {p q : List UInt8} {m n : Nat} {t1 t2 : eO} : aE Tryz.prog 119 [.sl 1 (aY p) m t1, .sl 1 (aY q) n t2] σ (fun av σ' => av = .v (.bool (decide (p = q))) ∧ σ = σ') := by
 have he : (p == q) = decide (p = q) := by rw [Bool.eq_iff_iff]; simp
 have F := And.intro he (True.intro)
 refine aB Tryz.func119 rfl rfl rfl ?_; refine sr fun _ hJ2 => ?_; apply hJ2; refine sr fun _ hJ4 => ?_; apply hJ4; refine ra ?_; exact rt
theorem DH {σ : St} {p q : List UInt8} {t1 t2 : eO} : aE Tryz.prog 118 [.sl 1 (aY p) p.length t1, .sl 1 (aY q) q.length t2] σ (fun av σ' => av = .v (.int .i64 (uG p q)) ∧ σ = σ') := by
 have F := True.intro
 refine aB Tryz.func118 rfl rfl rfl ?_; refine sr fun _ hJ2 => ?_; apply hJ2; refine sr fun _ hJ4 => ?_
 refine ce (c := CH Tryz.func136 (by kernel_rfl) (by kernel_rfl) (by kernel_rfl) (by kernel_rfl)) (k := ?_)
 rintro _ _ rfl rfl; (try simp [F]); apply hJ4; refine ra ?_; exact rt
def preB (p q : List UInt8) : Bool := decide (q.length ≤ p.length) && decide (p.take q.length = q)
attribute [local simp] preB in
theorem Gb {σ : St} {p q : List UInt8} {t1 t2 : eO} : aE Tryz.prog 92 [.sl 1 (aY p) p.length t1, .sl 1 (aY q) q.length t2] σ (fun av σ' => av = .v (.bool (preB p q)) ∧ σ = σ') := by
 have ht := wG p q.length
 have F := And.intro ht (True.intro)
 refine aB Tryz.func92 rfl rfl rfl ?_; refine sr fun _ hJ2 => ?_; apply hJ2; refine sr fun _ hJ4 => ?_; refine gs 10 (fun g1_5 => ?_) (fun g1_5 => ?_)
 · (try exact aK g1_5); all_goals have g1_5p := g1_5; try simp [F] at g1_5p
   all_goals
    replace F := aF g1_5 F; (try replace F := aF g1_5p F); (iterate 5 refine go2 (k := ?_)); refine ca (c := CI (p := p.take q.length) (q := q)) (k := ?_); rintro _ _ ⟨rfl, rfl⟩; (try simp [F]); apply hJ4; refine ra ?_; exact rt
 (try exact aK g1_5); all_goals have g1_5p := g1_5; try simp [F] at g1_5p
 all_goals
  replace F := aF g1_5 F; (try replace F := aF g1_5p F); (iterate 6 refine no2 (k := ?_)); apply hJ4; refine ra ?_; exact rt
theorem F5 {σ : St} {n fid : Nat} {caps : List AV} (pred : Nat → Bool) (hn : n ≤ 4000000000000000000) (hcb : eG Tryz.prog fid = true)
  (hf : ∀ i : Nat, i < n → aE Tryz.prog fid (.v (.int .i64 i) :: caps) σ (fun av σ' => av = .v (.bool (pred i)) ∧ σ = σ')) :
  aE Tryz.prog 116 [.v (.int .i64 n), .fn fid caps] σ (fun av σ' => (∃ r : Nat, av = .v (.int .i64 r) ∧ r ≤ n ∧ (0 < r → pred (r - 1) = false) ∧ (r < n → pred r = true)) ∧ σ = σ') := by
 have F := True.intro
 refine aB Tryz.func116 rfl rfl rfl ?_; refine sr fun _ hJ2 => ?_; apply hJ2; refine sr fun _ hJ4 => ?_; apply hJ4; refine sq fun K5 hK5 => ?_; refine aD ?_; refine cK (X := Nat × Nat) [1, 4] (fun q ρ σ1 => (q.1 ≤ q.2) ∧ (q.2 ≤ n) ∧ (0 < q.1 → pred (q.1 - 1) = false) ∧ (q.2 < n → pred q.2 = true) ∧ (ρ 5 = .v (.int .i64 q.1)) ∧ (ρ 6 = .v (.int .i64 q.2)) ∧ (σ1 = σ)) (fun q => q.2 - q.1) ((0, n)) ?st1 ?rd1
 case st1 =>
  refine ⟨lp, lp, ?_, ?_, lp, lp, lp⟩
  · intro h
    simp at h
  · intro h
    simp at h
 case rd1 =>
  rintro q ρ1 σ1 hF1 ⟨h1, h2, h3, h4, h5, h6, hσ⟩; obtain rfl := hσ.symm
  have f1 := dU hF1
  (try simp [dT, F] at f1); replace F := aF h5 F; replace F := aF h6 F; (try replace F := aF f1 F); refine sq fun K6 hK6 => ?_; refine sr fun _ hJ8 => ?_; apply hJ8; refine cs (fun c11 => ?_) (fun c11 => ?_)
  · all_goals
     replace F := aF c11 F; refine aA ?_; apply hK6; refine aD ?_; refine sq fun K9 hK9 => ?_
     have hlt : q.1 < q.2 := by simp at c11; omega
     obtain ⟨i, j⟩ := q
     simp only at *
     obtain ⟨h, hh⟩ : ∃ h, h = (i + j) / 2 := ⟨_, rfl⟩
     have hw1 : IntKind.i64.wrap ((i : Int) + (j : Int)) = ((i + j : Nat) : Int) := wrap_i64 _ (by omega) (by omega)
     have hw2 : IntKind.u64.wrap ((i : Int) + (j : Int)) = ((i + j : Nat) : Int) := by rw [show (i : Int) + (j : Int) = ((i + j : Nat) : Int) by simp, wrap_u64, Nat.mod_eq_of_lt (by omega)]
     have hw3 : IntKind.i64.wrap (((i : Int) + (j : Int)).fdiv 2) = (h : Int) := by rw [Int.fdiv_eq_ediv_of_nonneg _ (by omega), wrap_i64 _ (by omega) (by omega)]; omega
     have hhj : h < j := by omega
     have hih : i ≤ h := by omega
     have hw4 : IntKind.i64.wrap ((h : Int) + 1) = ((h + 1 : Nat) : Int) := wrap_i64 _ (by omega) (by omega)
     replace F := aF hw1 F; replace F := aF hw2 F; replace F := aF hw3 F; replace F := aF hw4 F; refine rg' (h := fun J10 hJ10 => ?_); apply hJ10; apply hK9; refine sr fun _ hJ12 => ?_
     refine ca (c := hf h (by omega)) (k := ?_)
     rintro _ _ ⟨rfl, rfl⟩; (try simp [F]); apply hJ12; refine cs (fun c21 => ?_) (fun c21 => ?_)
     · all_goals
        replace F := aF c21 F; refine rg' (h := fun J13 hJ13 => ?_); apply hJ13; refine ⟨((h + 1, j)), ⟨kp, lp, lp, ?_, lp, lp, lp, lp⟩, ?_⟩
        · intro _
          simp at c21
          simpa using c21
        · simp
          omega
     all_goals
      replace F := aF c21 F; refine rg' (h := fun J14 hJ14 => ?_); apply hJ14; refine ⟨((i, h)), ⟨kp, lp, lp, lp, ?_, lp, lp, lp⟩, ?_⟩
      · intro _
        simp at c21
        simpa using c21
      · simp
        omega
  all_goals
   replace F := aF c11 F; refine bJ ?_; apply hK5; refine sr fun _ hJ16 => ?_; apply hJ16; refine ra ?_
   refine ⟨⟨q.1, ?_, by omega, h3, fun h => ?_⟩, rfl⟩
   · simp [F]
   · have : q.1 = q.2 := by simp at c11; omega
     rw [this] at h ⊢; exact h4 h
theorem Jn (a b : List UInt8) : decide (0 ≤ uG a b) = !ltB a b := by
 unfold uG
 split
 · rename_i e; subst e; simp [rM]
 · cases ltB a b <;> simp
theorem jU (l : List Pr) : (iZ l).length = l.length * 2 := by
 induction l with
 | nil => rfl
 | cons p l ih => simp only [iZ, List.flatMap_cons, List.length_append, prC, List.length_cons, List.length_nil] at ih ⊢; omega
theorem tI : ∀ {l : List Pr} {i : Nat} (h : i < l.length), (iZ l)[i * 2]? = some (byC l[i].k) ∧ (iZ l)[i * 2 + 1]? = some (byC l[i].v)
 | p :: l, 0, h => ⟨rfl, rfl⟩
 | p :: l, i + 1, h => by
   have := tI (l := l) (i := i) (by simpa using h)
   have e1 : (i + 1) * 2 = i * 2 + 2 := by omega
   rw [e1]
   exact this
theorem Hu {σ : St} {b1 b2 o k i : Nat} {G : Sg} {key : List UInt8} {t : eO} (h1 : σ.objs[b1]? = some [.ptr o 0]) (h2 : σ.objs[b2]? = some [.sl 1 (aY key) key.length t]) (h : gT σ o k G) (hi : i < G.s.l.length) :
  aE Tryz.prog 117 [.v (.int .i64 i), .ptr b1 0, .ptr b2 0] σ (fun av σ' => av = .v (.bool (!ltB (G.s.l[i]).k key)) ∧ σ = σ') := by
 obtain ⟨ho, hr1, hr2, hr3⟩ := h
 obtain ⟨⟨l, log, marks⟩, g1, g2, g3⟩ := G
 simp only [stC, p8, pO, oL] at ho hr1 hr2 hr3 hi ⊢
 have hat := (tI hi).1
 have hc := Jn l[i].k key
 have F := And.intro ho (And.intro hr1 (And.intro h1 (And.intro h2 (And.intro hi (And.intro hat (And.intro hc (True.intro)))))))
 refine aB Tryz.func117 rfl rfl rfl ?_; refine sr fun _ hJ2 => ?_; apply hJ2; refine sq fun K3 hK3 => ?_
 refine bI (by kernel_rfl) fun J4 hJ4 => ?_
 refine q2 0 ?_; refine q2 1 ?_; refine q2 2 ?_; refine q2 3 ?_; refine q2 4 ?_; refine q2 5 ?_; refine q2 6 ?_; refine q2 7 ?_; refine q2 8 ?_; refine dc 9 rfl (c := DH) (k := ?_); rintro _ _ ⟨rfl, rfl⟩
 refine ⟨by first | exact fun _ _ h => h | (refine aH [6, 5, 4, 3, 2, 1, 0] (by kernel_rfl) ?_; (repeat' first | exact ln2 | refine lc ?_ ?_) <;> constructor <;> first | rfl | (simp [F]; done)), ?_⟩
 (try simp [F]); refine q2 10 ?_; refine q2 11 ?_; refine dd ?_; apply hJ4; apply hK3; refine ra ?_; exact rt
def Aj (l : List Pr) (key : List UInt8) (i : Nat) : Bool := match l[i]? with
 | some p => !ltB p.k key
 | none => true
theorem Ee {l : List Pr} {key : List UInt8} {r : Nat} (hs : Srt l) (hr : r ≤ l.length) (h1 : 0 < r → Aj l key (r - 1) = false) (h2 : r < l.length → Aj l key r = true) : r = fT l key :=
 Dn hs hr (fun h => by
  have := h1 h
  unfold Aj at this
  split at this
  · rename_i p hp; exact ⟨p, hp, by simpa using this⟩
  · cases this) (fun p hp => by
  have := h2 (List.getElem?_eq_some_iff.1 hp).1
  unfold Aj at this
  rw [hp] at this
  simpa using this)
theorem Jr {l : List Pr} {key : List UInt8} (hs : Srt l) : Dw l key = match l[fT l key]? with | some p => decide (p.k = key) | none => false := by
 unfold Dw
 rw [vF hs]
 cases h : l[fT l key]? with
 | none => rfl
 | some p => simp only; split <;> simp_all
attribute [local simp] byC in
theorem BT {σ : St} {o k : Nat} {G : Sg} {key : List UInt8} {t : eO} (h : gT σ o k G) (hs : Srt G.s.l) (hl : G.s.l.length ≤ 4000000000000000000) :
  aE Tryz.prog 84 [.ptr o 0, .sl 1 (aY key) key.length t] σ (fun av σ' => av = .tup [.v (.int .i64 (fT G.s.l key)), .v (.bool (Dw G.s.l key))] ∧ σ = σ') := by
 refine aU ?_ rfl
 have hlt := cZ h.o
 have h' : gT { σ with objs := σ.objs ++ [[.ptr o 0], [.sl 1 (aY key) key.length t]] } o k G := ⟨by simp only; rw [List.getElem?_append_left hlt]; exact h.o, h.r1, h.r2, h.r3⟩
 have hse := F5 (σ := { σ with objs := σ.objs ++ [[.ptr o 0], [.sl 1 (aY key) key.length t]] }) (caps := [.ptr σ.objs.length 0, .ptr (σ.objs.length + 1) 0]) (fid := 117) (Aj G.s.l key) hl (by simp) (fun i hi => cS (Hu (key := key) (t := t) (by simp) (by simp) h' hi) (fun av σ' hq => by
  refine ⟨hq.1.trans ?_, hq.2⟩
  simp [Aj, hi]))
 have hho := h'.o
 obtain ⟨ho, hr1, hr2, hr3⟩ := h
 have hha := Jr (key := key) hs
 have hat : ∀ i (hi : i < G.s.l.length), (iZ G.s.l)[i * 2]? = some (byC G.s.l[i].k) := fun i hi => (tI hi).1
 obtain ⟨⟨l, log, marks⟩, g1, g2, g3⟩ := G
 simp only [stC, p8, pO, oL] at ho hr1 hr2 hr3 hl hho hse hs hha hat ⊢
 have hfl := xL l key
 have F := And.intro hho (And.intro hr1 (True.intro))
 refine aB Tryz.func84 rfl rfl rfl ?_; refine sr fun _ hJ2 => ?_; apply hJ2; refine sr fun _ hJ4 => ?_; refine ca (c := hse) (k := ?_); rintro _ _ ⟨⟨r, rfl, e1, e2, e3⟩, rfl⟩; obtain rfl := Ee hs e1 e2 e3; (try simp [F]); apply hJ4; refine sq fun K5 hK5 => ?_
 refine bI (by kernel_rfl) fun J6 hJ6 => ?_
 refine q2 0 ?_; refine q2 1 ?_; refine q2 2 ?_; refine q2 3 ?_; refine q2 4 ?_; refine q2 5 ?_; refine q2 6 ?_; refine q2 7 ?_; refine q2 8 ?_; refine gd 22 (fun g2_8 => ?_) (fun g2_8 => ?_)
 · all_goals
    replace F := aF g2_8 F
    have hi : fT l key < l.length := by simp at g2_8; omega
    have hat0 := hat _ hi
    replace F := aF hi (And.intro hat0 F)
    have hhb : Dw l key = decide (l[fT l key].k = key) := by rw [hha, List.getElem?_eq_getElem hi]
    replace F := aF hhb F; refine q2 9 ?_; refine q2 10 ?_; refine q2 11 ?_; refine q2 12 ?_; refine q2 13 ?_; refine q2 14 ?_; refine q2 15 ?_; refine q2 16 ?_; refine q2 17 ?_; refine dc 18 rfl (c := CI) (k := ?_); rintro _ _ ⟨rfl, rfl⟩
    refine ⟨by first | exact fun _ _ h => h | (refine aH [15, 14, 13, 12, 11, 10, 9, 7, 6, 5, 4, 3, 2, 1, 0] (by kernel_rfl) ?_; (repeat' first | exact ln2 | refine lc ?_ ?_) <;> constructor <;> first | rfl | (simp [F]; done)), ?_⟩
    (try simp [F]); refine q2 19 ?_; refine q2 20 ?_; refine q2 21 ?_; refine dd ?_; apply hJ6; apply hK5; refine bQ ?_; (try simp only [eD, bG, bV]); refine fV rfl (.inr rfl) ?_; exact gcr
 all_goals
  replace F := aF g2_8 F
  have hhb : Dw l key = false := by rw [hha, List.getElem?_eq_none (by simp at g2_8; omega)]
  replace F := aF hhb F; refine q2 9 ?_; refine q2 10 ?_; refine q2 11 ?_; refine q2 12 ?_; refine q2 13 ?_; refine q2 14 ?_; refine q2 15 ?_; refine q2 16 ?_; refine q2 17 ?_; refine dop 18 rfl ?_; (try simp [F]); refine q2 19 ?_; refine q2 20 ?_; refine q2 21 ?_; refine dd ?_; apply hJ6; apply hK5; refine bQ ?_; (try simp only [eD, bG, bV]); refine fV rfl (.inr rfl) ?_; exact gcr
end Go.Proofs.YtjpnjhlfieklfaaGreat
namespace Go.Proofs.YtjpnjhlfieklfaaGreat
set_option maxHeartbeats 16000000
open Go Go.Vm
attribute [local simp] dM aI dJ opA bH bN cM bP ofValue dC plain aQ aR cA b8 cC cB bY b7 b9 bZ cV bW cG cD b6 bU aT aS bO cU aW dQ dR bK aZ cL gA bS dE cF AV.cells AV.bL dF cO eZ bF aV cQ dI dS dV cN aN dP dO cW cT cI List.getElem?_cons_zero List.getElem?_cons_succ dL dG kD j7 BV qD zeroCell I7 EO uC gH maxLen Value.oneCell' Value.cells dA
theorem F6 {σ : St} {k g i m : Nat} {A X B : List AV} (hr : σ.rows[k]? = some ⟨g, A ++ (X ++ B), none⟩) (hA : A.length = i * 2) (hX : X.length = 2) (hB : B.length = m * 2) (hn : i + m ≤ 1000000000) (hu : bB σ.bd (A ++ B) = true) :
  aE Tryz.prog 145 [.row k g 0 2 (i + 1 + m), .v (.int .i64 i), .v (.int .i64 (i + 1 : Nat))] σ (fun av σ' => ∃ g', av = .row k g' 0 2 (i + m) ∧ σ' = { σ with rows := σ.rows.set k ⟨g', A ++ B, none⟩ }) := by
 refine mR (Q := fun av σ' => ∃ g junk sp, av = .row k g 0 2 (i + m) ∧ σ' = { σ with rows := σ.rows.set k ⟨g, (A ++ B) ++ junk, sp⟩ }) ?_ hr (by simp [hA, hB]; omega) hu (fun av σ' h => ?_)
 · have hs := cY hr
   have hT : List.take (i * 2) (A ++ (X ++ B)) = A := List.take_left' hA
   have hD : List.drop ((i + 1) * 2) (A ++ (X ++ B)) = B := by rw [← List.append_assoc]; exact List.drop_left' (by simp [hA, hX]; omega)
   have hT2 : List.take (m * 2) B = B := List.take_of_length_le (by omega)
   have hN1 : ((i : Int) + (m : Int)).toNat = i + m := by omega
   have hN2 : ((i : Int) + 1 + (m : Int)).toNat = i + 1 + m := by omega
   have hN3 : i + 1 + m - (i + m) = 1 := by omega
   have hN4 : (i + 1 + m) * 2 - (i * 2 + m * 2) = 2 := by omega
   have hN5 : i * 2 + m * 2 = (i + m) * 2 := by omega
   have hD2 : ∀ Z, List.drop ((i + m) * 2 + 2) (A ++ (B ++ Z)) = List.drop 2 Z := fun Z => by rw [← List.append_assoc, ← List.drop_drop, List.drop_left' (by simp [hA, hB]; omega)]
   have hT3 : ∀ Z, List.take ((i + m) * 2) (A ++ (B ++ Z)) = A ++ B := fun Z => by rw [← List.append_assoc]; exact List.take_left' (by simp [hA, hB]; omega)
   have F := And.intro hr (And.intro hA (And.intro hX (And.intro hB (And.intro hT (And.intro hD (And.intro hT2 (And.intro hN1 (And.intro hN2 (And.intro hN3 (And.intro hN4 (And.intro hD2 (And.intro hT3 (True.intro)))))))))))))
   refine aB Tryz.func145 rfl rfl rfl ?_; refine sr fun _ hJ2 => ?_; apply hJ2; refine sq fun K3 hK3 => ?_; refine zV 0 (kk := fun s q hsq hnq => ?_); replace F := aF hs F; refine rg' (h := fun J4 hJ4 => ?_); apply hJ4; apply hK3; refine sq fun K5 hK5 => ?_; refine sr fun _ hJ7 => ?_; apply hJ7; refine cs (fun c16 => ?_) (fun c16 => ?_)
   · (try exact aK c16); all_goals have c16p := c16; try simp [F] at c16p
     all_goals
      replace F := aF c16 F; (try replace F := aF c16p F); refine sr fun _ hJ9 => ?_; apply hJ9; refine ra ?_; exact ⟨g + 1, _, _, by simp [F], by simp only [List.append_assoc]; rfl⟩
   (try exact aK c16); all_goals have c16p := c16; try simp [F] at c16p
   all_goals
    replace F := aF c16 F; (try replace F := aF c16p F); refine aA ?_; apply hK5; refine sr fun _ hJ11 => ?_; apply hJ11; refine sq fun K12 hK12 => ?_
    refine bI (by kernel_rfl) fun J13 hJ13 => ?_
    refine q2 0 ?_; refine q2 1 ?_; refine q2 2 ?_; refine q2 3 ?_; refine q2 4 ?_; refine q2 5 ?_; refine dop 6 rfl ?_; repeat (first | simp [F] | simp (disch := omega) only [wC, if_pos, if_neg])
    refine ⟨cE (by kernel_rfl), ?_⟩
    refine dop 7 rfl ?_; (repeat first | simp [F] | simp (disch := omega) only [wC, if_pos, if_neg]); (try refine ⟨ln, ?_⟩); refine dd ?_; apply hJ13; apply hK12; refine sr fun _ hJ15 => ?_; apply hJ15; refine sr fun _ hJ17 => ?_; apply hJ17; refine ra ?_; exact ⟨g + 1, _, _, by simp [F], by simp only [List.append_assoc]; rfl⟩
 · obtain ⟨g', junk, sp, e1, e2⟩ := h
   exact .inl ⟨g', junk, sp, [], [], [], e1, by rw [e2]; simp⟩
theorem EF {σ : St} {k kv g gv i : Nat} {A X : List AV} {sv : Option Nat} (hr : σ.rows[k]? = some ⟨g, A, none⟩) (hv : σ.rows[kv]? = some ⟨gv, X, sv⟩) (hA : A.length = i * 2) (hX : X.length = 2) (hn : i ≤ 1000000000) (hu : bB σ.bd (A ++ X) = true) :
  aE Tryz.prog 146 [.row k g 0 2 i, .v (.int .i64 i), .row kv gv 0 2 1] σ (fun av σ' => ∃ g', av = .row k g' 0 2 (i + 1) ∧ σ' = { σ with rows := σ.rows.set k ⟨g', A ++ X, none⟩ }) := by
 refine mR (Q := fun av σ' => ∃ g', av = .row k g' 0 2 (i + 1) ∧ σ' = { σ with rows := σ.rows.set k ⟨g', A ++ X, none⟩ }) ?_ hr (by simp [hA, hX]; omega) hu (fun av σ' h => ?_)
 · have hT : List.take (i * 2) A = A := List.take_of_length_le (by omega)
   have hX2 : List.take 2 X = X := List.take_of_length_le (by omega)
   have h1 : (i + 1) * 48 ≤ 140737488355328 := by omega
   have h2 : i + 1 ≤ 9223372036854775807 := by omega
   have F := And.intro hr (And.intro hv (And.intro hA (And.intro hX (And.intro hT (And.intro hX2 (And.intro h1 (And.intro h2 (True.intro))))))))
   refine aB Tryz.func146 rfl rfl rfl ?_; refine sr fun _ hJ2 => ?_; apply hJ2; refine sr fun _ hJ4 => ?_; apply hJ4; refine sr fun _ hJ6 => ?_; apply hJ6; refine sq fun K7 hK7 => ?_; refine sr fun _ hJ9 => ?_; apply hJ9; refine cs (fun c16 => ?_) (fun c16 => ?_)
   · try exact aK c16
     all_goals
      replace F := aF c16 F; refine sr fun _ hJ11 => ?_; apply hJ11; refine ra ?_; exact ⟨g + 1, by simp [F], rfl⟩
   try exact aK c16
   all_goals
    replace F := aF c16 F; refine aA ?_; apply hK7; refine sr fun _ hJ13 => ?_; apply hJ13; refine sq fun K14 hK14 => ?_; refine sr fun _ hJ16 => ?_; apply hJ16; refine ct ?_; refine sr fun _ hJ18 => ?_; apply hJ18; refine ra ?_; exact ⟨g + 1, by simp [F], rfl⟩
 · obtain ⟨g', e1, e2⟩ := h
   exact .inl ⟨g', [], none, [], [], [], e1, by rw [e2]; simp⟩
theorem GN {σ : St} {k1 g1 o1 n1 k2 g2 o2 n2 : Nat} {c1 c2 : List AV} {s1 s2 : Option Nat} (hne : k1 ≠ k2) (h1 : σ.rows[k1]? = some ⟨g1, c1, s1⟩) (h2 : σ.rows[k2]? = some ⟨g2, c2, s2⟩) :
  z6 Tryz.prog 150 [.row k1 g1 o1 2 n1, .row k2 g2 o2 2 n2] σ (fun av _ => av = .v (.bool false)) :=
 BC (tS := 77) (tR := 4) Tryz.func150 (by kernel_rfl) (by kernel_rfl) (by kernel_rfl) (by kernel_rfl) Tryz.underlying77 (ti_136) rfl (by decide) hne h1 rfl h2 rfl
theorem D8 {σ : St} {k kv g gv i m : Nat} {A X B : List AV} {sv : Option Nat} (hr : σ.rows[k]? = some ⟨g, A ++ B, none⟩) (hv : σ.rows[kv]? = some ⟨gv, X, sv⟩) (hk : kv ≠ k) (hA : A.length = i * 2) (hX : X.length = 2) (hB : B.length = m * 2) (hm : 0 < m) (hn : i + m ≤ 1000000000) (hu : bB σ.bd (A ++ (X ++ B)) = true) :
  aE Tryz.prog 146 [.row k g 0 2 (i + m), .v (.int .i64 i), .row kv gv 0 2 1] σ (fun av σ' => ∃ g', av = .row k g' 0 2 (i + m + 1) ∧ σ' = { σ with rows := σ.rows.set k ⟨g', A ++ (X ++ B), none⟩ }) := by
 have hkl := cZ hr
 have hvl := cZ hv
 refine mR (Q := fun av σ' => (∃ g' sp, av = .row k g' 0 2 (i + m + 1) ∧ σ' = { σ with rows := σ.rows.set k ⟨g', A ++ (X ++ B), sp⟩ }) ∨ (∃ r1 sp, av = .row σ.rows.length 0 0 2 (i + m + 1) ∧ σ' = { σ with rows := σ.rows.set k r1 ++ [⟨0, A ++ (X ++ B), sp⟩] })) ?_ hr (by simp [hA, hB, hX]; omega) hu (fun av σ' h => ?_)
 · have hs := fun x => cY hr x
   have hvs : ∀ x, (σ.rows.set k x)[kv]? = some ⟨gv, X, sv⟩ := fun x => by rw [List.getElem?_set_ne (Ne.symm hk)]; exact hv
   have hT : List.take (i * 2) (A ++ B) = A := List.take_left' hA
   have hD : List.drop (i * 2) (A ++ B) = B := List.drop_left' hA
   have hT2 : List.take (m * 2) B = B := List.take_of_length_le (by omega)
   have hX2 : List.take 2 X = X := List.take_of_length_le (by omega)
   have hN1 : ((i : Int) + (m : Int)).toNat = i + m := by omega
   have hN2 : ((i : Int) + (m : Int) + 1).toNat = i + m + 1 := by omega
   have hw1 : IntKind.i64.wrap ((i : Int) + (m : Int) + 1) = ((i + m + 1 : Nat) : Int) := wrap_i64 _ (by omega) (by omega)
   have hw2 : IntKind.i64.wrap ((i : Int) + 1) = ((i + 1 : Nat) : Int) := wrap_i64 _ (by omega) (by omega)
   have hw3 : IntKind.i64.wrap ((i : Int) + (m : Int) + 1 - (i : Int)) = ((m + 1 : Nat) : Int) := by rw [wrap_i64 _ (by omega) (by omega)]; omega
   have hvs2 : ∀ r x, (σ.rows.set k r ++ [x])[kv]? = some ⟨gv, X, sv⟩ := fun r x => by rw [List.getElem?_append_left (by simpa using hvl)]; exact hvs r
   have hk1 : ∀ r x, (σ.rows.set k r ++ [x])[k]? = some r := fun r x => by rw [List.getElem?_append_left (by simpa using hkl)]; exact hs r
   have hn1 : ∀ r x, (σ.rows.set k r ++ [x])[σ.rows.length]? = some x := fun r x => by rw [List.getElem?_append_right (by simp)]; simp
   have hset1 : ∀ r x y, (σ.rows.set k r ++ [x]).set σ.rows.length y = σ.rows.set k r ++ [y] := fun r x y => by rw [List.set_append_right _ _ (by simp)]; simp
   have hTz : ∀ Z, List.take (i * 2) (A ++ Z) = A := fun Z => List.take_left' hA
   have hDz : ∀ Z, List.drop (i * 2) (A ++ Z) = Z := fun Z => List.drop_left' hA
   have hDz2 : ∀ Z, List.drop (i * 2 + 2) (A ++ Z) = List.drop 2 Z := fun Z => by rw [← List.drop_drop, hDz]
   have hT1 : ∀ Z, List.take ((i + 1) * 2) (A ++ Z) = A ++ List.take 2 Z := fun Z => by rw [show (i + 1) * 2 = A.length + 2 by omega, List.take_length_add_append]
   have hT2x : ∀ Z, List.take 2 (X ++ Z) = X := fun Z => List.take_left' hX
   have hDx : ∀ f : Nat → AV, List.drop ((i + 1) * 2 + m * 2) (A ++ (X ++ List.drop 2 (List.map f (List.range ((m + 1) * 2))))) = [] := fun f => List.drop_of_length_le (by simp [hA, hX]; omega)
   have hDx2 : ∀ E : List AV, E.length = 2 → List.drop ((i + 1) * 2 + m * 2) (A ++ (B ++ E)) = [] := fun E hE => List.drop_of_length_le (by simp [hA, hB, hE]; omega)
   have hDx3 := hDx2 [.any, .any] rfl
   have hN4 : (i + m + 1) * 2 - (i * 2 + m * 2) = 2 := by omega
   have hN5 : min 1 (m + 1) = 1 := by omega
   have hN6 : i + m + 1 - (i + 1) = m := by omega
   have hN7 : i + m + 1 - i = m + 1 := by omega
   have hN8 : min m (i + (m + 1) - (i + 1)) = m := by omega
   have hTB : ∀ E, List.take (m * 2) (B ++ E) = B := fun E => List.take_left' hB
   have hTB2 : List.take ((m + 1) * 2) (B ++ [.any, .any]) = B ++ [.any, .any] := List.take_of_length_le (by simp [hB]; omega)
   have hne : ((i : Int) == (i : Int) + (m : Int)) = false := by simp; omega
   have F := And.intro hr (And.intro hv (And.intro hA (And.intro hX (And.intro hB (And.intro hT (And.intro hD (And.intro hT2 (And.intro hX2 (And.intro hN1 (And.intro hN2 (And.intro hw1 (And.intro hw2 (And.intro hw3 (And.intro hne (True.intro)))))))))))))))
   refine aB Tryz.func146 rfl rfl rfl ?_; refine sr fun _ hJ2 => ?_; apply hJ2; refine sr fun _ hJ4 => ?_; apply hJ4; refine sr fun _ hJ6 => ?_; apply hJ6; refine sq fun K7 hK7 => ?_; refine sr fun _ hJ9 => ?_; apply hJ9; refine cs (fun c16 => ?_) (fun c16 => ?_)
   · (try exact aK c16); all_goals have c16p := c16; try simp [F] at c16p
     all_goals
      replace F := aF c16 F; (try replace F := aF c16p F); refine sr fun _ hJ11 => ?_; apply hJ11; refine ra ?_; exact .inl ⟨g, _, by simp [F, Nat.add_assoc], rfl⟩
   (try exact aK c16); all_goals have c16p := c16; try simp [F] at c16p
   all_goals
    replace F := aF c16 F; (try replace F := aF c16p F); refine aA ?_; apply hK7; refine sr fun _ hJ13 => ?_; apply hJ13; refine sq fun K14 hK14 => ?_; refine sr fun _ hJ16 => ?_; apply hJ16; refine cf ?_; refine aA ?_; apply hK14; refine sq fun K17 hK17 => ?_; refine sq fun K18 hK18 => ?_; refine zV 0 (kk := fun s q hsq hnq => ?_)
    have hql : i * 2 + m * 2 + s = q * 2 := by simp [hA, hB] at hsq; omega
    have hq1 : (i * 2 + m * 2 + s) % 2 = 0 := by omega
    have hq2 : ((i : Int) * 2 + (m : Int) * 2 + (s : Int)) / 2 = (q : Int) := by omega
    replace F := aF hs F; replace F := aF hvs F; replace F := aF hq1 F; replace F := aF hq2 F; replace F := aF hvs2 F; replace F := aF hk1 F; replace F := aF hn1 F; replace F := aF hset1 F; replace F := aF hTz F; replace F := aF hDz F; replace F := aF hDz2 F; replace F := aF hT1 F; replace F := aF hT2x F; replace F := aF hDx F; replace F := aF hDx3 F; replace F := aF hN4 F; replace F := aF hN5 F; replace F := aF hN6 F; replace F := aF hN7 F; replace F := aF hN8 F; replace F := aF hTB F; replace F := aF hTB2 F; refine rg' (h := fun J19 hJ19 => ?_); apply hJ19; apply hK18; refine cs (fun c31 => ?_) (fun c31 => ?_)
    · (try exact aK c31); all_goals have c31p := c31; try simp [F] at c31p
      all_goals
       replace F := aF c31 F; (try replace F := aF c31p F); refine sr fun _ hJ21 => ?_; apply hJ21; refine sr fun _ hJ23 => ?_; apply hJ23; refine sq fun K24 hK24 => ?_
       refine bI (by kernel_rfl) fun J25 hJ25 => ?_
       refine q2 0 ?_; refine q2 1 ?_; refine q2 2 ?_; refine q2 3 ?_; refine q2 4 ?_; refine q2 5 ?_; refine q2 6 ?_; refine q2 7 ?_; refine dop 8 rfl ?_; repeat (first | simp [F] | simp (disch := omega) only [wC, if_pos, if_neg])
       refine ⟨by first | exact fun _ _ h => h | (refine aH [6, 5, 3, 2, 1, 0] (by kernel_rfl) ?_; (repeat' first | exact ln2 | refine lc ?_ ?_) <;> constructor <;> first | rfl | (simp [F]; done)), ?_⟩
       refine dd ?_; apply hJ25; apply hK24; refine sr fun _ hJ27 => ?_; apply hJ27; refine ra ?_; exact .inr ⟨_, none, by simp [F, Nat.add_assoc], rfl⟩
    (try exact aK c31); all_goals have c31p := c31; try simp [F] at c31p
    all_goals
     replace F := aF c31 F; (try replace F := aF c31p F); refine aA ?_; apply hK17; refine sr fun _ hJ29 => ?_; apply hJ29; refine sq fun K30 hK30 => ?_; refine sr fun _ hJ32 => ?_
     refine ce (c := GN (g1 := gv) (n1 := 1) (o1 := 0) (g2 := g) (o2 := (i + 1) * 2) (n2 := m) hk (by simp [F]; first | done | exact ⟨rfl, rfl⟩) (by simp [F]; first | done | exact ⟨rfl, rfl⟩)) (k := ?_)
     rintro _ _ rfl rfl; (repeat first | simp [F] | simp (disch := omega) only [wC, if_pos, if_neg]); apply hJ32; refine ct ?_; refine sq fun K33 hK33 => ?_
     refine bI (by kernel_rfl) fun J34 hJ34 => ?_
     refine q2 0 ?_; refine q2 1 ?_; refine q2 2 ?_; refine q2 3 ?_; refine q2 4 ?_; refine q2 5 ?_; refine q2 6 ?_; refine q2 7 ?_; refine dop 8 rfl ?_; repeat (first | simp [F] | simp (disch := omega) only [wC, if_pos, if_neg])
     refine ⟨by first | exact fun _ _ h => h | (refine aH [6, 5, 3, 2, 1, 0] (by kernel_rfl) ?_; (repeat' first | exact ln2 | refine lc ?_ ?_) <;> constructor <;> first | rfl | (simp [F]; done)), ?_⟩
     refine dd ?_; apply hJ34; apply hK33; refine sr fun _ hJ36 => ?_; apply hJ36; refine sr fun _ hJ38 => ?_; apply hJ38; refine ra ?_; exact .inl ⟨g, _, by simp [F, Nat.add_assoc], rfl⟩
 · rcases h with ⟨g', sp, e1, e2⟩ | ⟨r1, sp, e1, e2⟩
   · exact .inl ⟨g', [], sp, [], [], [], e1, by rw [e2]; simp⟩
   · exact .inr ⟨_, sp, [], [], r1, 0, [], e1, by rw [e2]; simp, rfl⟩
end Go.Proofs.YtjpnjhlfieklfaaGreat
namespace Go.Proofs.YtjpnjhlfieklfaaGreat
open Go Go.Vm
attribute [local simp] dM aI dJ opA bH bN cM bP ofValue dC plain aQ aR cA b8 cC cB bY b7 b9 bZ cV bW cG cD b6 bU aT aS bO cU aW dQ dR bK aZ cL gA bS dE cF AV.cells AV.bL dF cO eZ bF aV cQ dI dS dV cN aN dP dO cW cT cI List.getElem?_cons_zero List.getElem?_cons_succ fK fL fH fG fJ fM fI fF
theorem kU (l m : List Pr) : iZ (l ++ m) = iZ l ++ iZ m := by simp [iZ]
theorem GJ (l : List Pr) (i : Nat) : List.take (i * 2) (iZ l) = iZ (l.take i) := by
 by_cases h : i ≤ l.length
 · conv => lhs; rw [← List.take_append_drop i l, kU]
   exact List.take_left' (by rw [jU, List.length_take, Nat.min_eq_left h])
 · rw [List.take_of_length_le (by rw [jU]; omega), List.take_of_length_le (by omega)]
theorem A0 (l : List Pr) (i : Nat) : List.drop (i * 2) (iZ l) = iZ (l.drop i) := by
 by_cases h : i ≤ l.length
 · conv => lhs; rw [← List.take_append_drop i l, kU]
   exact List.drop_left' (by rw [jU, List.length_take, Nat.min_eq_left h])
 · rw [List.drop_of_length_le (by rw [jU]; omega), List.drop_of_length_le (by omega)]; rfl
theorem He {l : List Pr} {i : Nat} (h : i < l.length) (p : Pr) : List.take (i * 2) (iZ l) ++ byC p.k :: byC p.v :: List.drop (i * 2 + 2) (iZ l) = iZ (l.set i p) := by
 rw [show i * 2 + 2 = (i + 1) * 2 by omega, GJ, A0, List.set_eq_take_append_cons_drop, if_pos h, kU]
 rfl
theorem Ih {l : List Pr} {i : Nat} (h : i < l.length) : iZ l = iZ (l.take i) ++ (prC l[i] ++ iZ (l.drop (i + 1))) := by
 conv => lhs; rw [← List.take_append_drop i l, kU, List.drop_eq_getElem_cons h]
 rfl
theorem Gc (l : List Pr) (i : Nat) : iZ l = iZ (l.take i) ++ iZ (l.drop i) := by
 conv => lhs; rw [← List.take_append_drop i l, kU]
theorem JB {σ : St} {k g i : Nat} {l : List Pr} (hr : σ.rows[k]? = some ⟨g, iZ l, none⟩) (hi : i < l.length) (hn : l.length ≤ 1000000) :
  aE Tryz.prog 145 [.row k g 0 2 l.length, .v (.int .i64 i), .v (.int .i64 ((i : Int) + 1))] σ (fun av σ' => ∃ g', av = .row k g' 0 2 (l.length - 1) ∧ σ' = { σ with rows := σ.rows.set k ⟨g', iZ (l.take i ++ l.drop (i + 1)), none⟩ }) := by
 rw [Ih hi] at hr
 have := F6 (i := i) (m := l.length - i - 1) hr (by simp [jU]; omega) rfl (by simp [jU]; omega) (by omega) (by rw [← kU]; exact lO _ _)
 rw [← kU, show i + 1 + (l.length - i - 1) = l.length by omega, show i + (l.length - i - 1) = l.length - 1 by omega] at this
 exact this
theorem Kn {σ : St} {k kv g gv i : Nat} {l : List Pr} {p : Pr} {sv : Option Nat} (hr : σ.rows[k]? = some ⟨g, iZ l, none⟩) (hv : σ.rows[kv]? = some ⟨gv, prC p, sv⟩) (hk : kv ≠ k) (hi : i ≤ l.length) (hn : l.length ≤ 1000000) :
  aE Tryz.prog 146 [.row k g 0 2 l.length, .v (.int .i64 i), .row kv gv 0 2 1] σ (fun av σ' => ∃ g', av = .row k g' 0 2 (l.length + 1) ∧ σ' = { σ with rows := σ.rows.set k ⟨g', iZ (l.take i ++ p :: l.drop i), none⟩ }) := by
 have e : iZ (l.take i ++ p :: l.drop i) = iZ (l.take i) ++ (prC p ++ iZ (l.drop i)) := by rw [kU]; rfl
 by_cases h0 : i = l.length
 · subst h0
   have := EF (i := l.length) hr hv (by simp [jU]) rfl (by omega) (by have := lO σ.bd (l ++ [p]); rw [kU] at this; simpa [iZ] using this)
   rw [e, List.take_length, List.drop_length]
   simpa [iZ] using this
 · rw [Gc l i] at hr
   have := D8 (i := i) (m := l.length - i) hr hv hk (by simp [jU]; omega) rfl (by simp [jU]) (by omega) (by omega) (by rw [← e]; exact lO _ _)
   rw [← e, show i + (l.length - i) = l.length by omega] at this
   exact this
theorem uQ {l : List Pr} {key v : List UInt8} (hs : Srt l) (h : fN l key = some v) : ∃ h : fT l key < l.length, (l[fT l key]).k = key ∧ (l[fT l key]).v = v := by
 rw [vF hs] at h
 split at h
 · rename_i p hp
   obtain ⟨h1, h2⟩ := List.getElem?_eq_some_iff.1 hp
   split at h
   · rename_i hk
     exact ⟨h1, by rw [h2]; exact hk, by rw [h2]; exact Option.some.inj h⟩
   · cases h
 · cases h
set_option maxHeartbeats 1600000 in
attribute [local simp] dA List.getElem?_cons_zero List.getElem?_cons_succ byC in
theorem LY {σ : St} {o k : Nat} {G : Sg} {key val : List UInt8} {is : Bool} (h : gT σ o k G) (hs : Srt G.s.l) (hl : G.s.l.length ≤ 1000000) :
  aE Tryz.prog 138 [.ptr o 0, .agg [byC key, byC val], .v (.bool is)] σ (fun av σ' => ∃ g, av = .agg (udC ⟨key, fN G.s.l key⟩) ∧ σ' = eR σ o k ⟨⟨iA G.s.l key (if is then some val else none), G.s.log, G.s.marks⟩, g, G.g2, G.g3⟩) := by
 refine nU (X := Nat) (T := fun g => ⟨⟨iA G.s.l key (if is then some val else none), G.s.log, G.s.marks⟩, g, G.g2, G.g3⟩) h (fun _ => by simp [AV.under, Aw]) ?_
 have hp1 := fun l' g' => Hd h l' g'
 have hfi := fun L m => BT (key := key) (t := .shut) (h.app L m) hs (by omega)
 have hbd := lO σ.bd
 have hset := Fh (k := key) (o := if is then some val else none) hs
 have hgat : ∀ v, fN G.s.l key = some v → _ := fun v h => uQ (key := key) (v := v) hs h
 have hhas : Dw G.s.l key = (fN G.s.l key).isSome := rfl
 have hlo := cZ h.o
 have hlr := cZ h.r1
 obtain ⟨ho, hr1, hr2, hr3⟩ := h
 obtain ⟨⟨l, log, marks⟩, g1, g2, g3⟩ := G
 simp only [stC, p8, pO, oL] at ho hr1 hr2 hr3 hl hp1 hset hgat hhas hfi ⊢
 have ha : ∀ L, (σ.objs ++ L)[o]? = some [.row k g1 0 2 l.length, .row (k + 1) g2 0 3 log.length, .row (k + 2) g3 0 1 marks.length] := fun L => by rw [List.getElem?_append_left hlo]; exact ho
 have hb : ∀ x L, (σ.objs ++ L).set o x = σ.objs.set o x ++ L := fun x L => List.set_append_left _ _ hlo
 have hc : ∀ x L, (σ.objs.set o x ++ L)[o]? = some x := fun x L => by rw [List.getElem?_append_left (by simpa using hlo)]; exact cY ho x
 have hle := xL l key
 obtain ⟨i, hi⟩ : ∃ i, i = fT l key := ⟨_, rfl⟩
 obtain ⟨q, hq⟩ : ∃ q, q = fN l key := ⟨_, rfl⟩
 simp only [← hi, ← hq] at hset hgat hhas hfi hle
 obtain ⟨b, hbb⟩ : ∃ b, b = Dw l key := ⟨_, rfl⟩
 simp only [← hbb] at hfi hhas
 have hda : ∀ (x : fY) L, (σ.rows.set k x ++ L)[k]? = some x := fun x L => by rw [List.getElem?_append_left (by simpa using hlr)]; exact cY hr1 x
 have hdb : ∀ L, (σ.rows ++ L)[k]? = some ⟨g1, iZ l, none⟩ := fun L => by rw [List.getElem?_append_left hlr]; exact hr1
 have hdc : ∀ (x : fY) L, (σ.rows ++ L).set k x = σ.rows.set k x ++ L := fun x L => List.set_append_left _ _ hlr
 have hso := iE ho
 have hsr := iE hr1
 have F := And.intro ha (And.intro hb (And.intro hc (And.intro hr1 (And.intro hda (And.intro hdb (And.intro hdc (And.intro hso (And.intro hsr (True.intro)))))))))
 refine aB Tryz.func138 rfl rfl rfl ?_; refine sr fun _ hJ2 => ?_; apply hJ2; refine sr fun _ hJ4 => ?_; refine ca (c := hfi _ _) (k := ?_); rintro _ _ ⟨rfl, rfl⟩; (try simp [F]); apply hJ4; refine sr fun _ hJ6 => ?_; apply hJ6; refine sq fun K7 hK7 => ?_; refine aD ?_; refine sr fun _ hJ9 => ?_; refine gs 24 (fun g3_1 => ?_) (fun g3_1 => ?_)
 · all_goals
    replace F := aF g3_1 F
    obtain ⟨v, hv⟩ : ∃ v, q = some v := Option.isSome_iff_exists.1 (by rw [← hhas]; simpa using g3_1)
    obtain ⟨hil, hik, hiv⟩ := hgat v hv
    have hat := tI hil
    rw [hiv] at hat
    have hat2 := hat.2
    have hpl := jU l
    have hi2 : i * 2 + 2 ≤ l.length * 2 := by omega
    have hps := He hil ⟨key, val⟩
    simp only [byC] at hat2 hps
    replace F := aF hil (And.intro hat2 (And.intro hpl (And.intro hi2 F))); refine go2 (k := ?_); apply hJ9; refine cs (fun c22 => ?_) (fun c22 => ?_)
    · all_goals
       replace F := aF c22 F
       have his : is = true := by simpa using c22
       have hS : iA l key (if is then some val else none) = l.set i ⟨key, val⟩ := by rw [hset, hv, his]; rfl
       replace F := aF hps F
       refine bI (by kernel_rfl) fun J10 hJ10 => ?_
       refine q2 0 ?_; refine q2 1 ?_; refine q2 2 ?_; refine q2 3 ?_; refine q2 4 ?_; refine q2 5 ?_; refine q2 6 ?_; refine q2 7 ?_; refine q2 8 ?_; refine q2 9 ?_; refine q2 10 ?_; refine q2 11 ?_; refine q2 12 ?_; refine q2 13 ?_; refine q2 14 ?_; refine q2 15 ?_; refine dop 16 rfl ?_; try simp [F]
       refine ⟨by first | exact fun _ _ h => h | (refine aH [14, 13, 4, 3, 2, 1, 0] (by kernel_rfl) ?_; (repeat' first | exact ln2 | refine lc ?_ ?_) <;> constructor <;> first | rfl | (simp [F]; done)), ?_⟩
       refine q2 17 ?_; refine dop 18 rfl ?_; (try simp [F]); refine ⟨ln, ?_⟩; refine dd ?_; apply hJ10; apply hK7; refine sr fun _ hJ12 => ?_; apply hJ12; refine bQ ?_; (try simp only [eD, bG, bV]); refine j1 (h := ?_); refine ⟨g1, ?_⟩
       rw [hp1, hS, ← hq, hv]
       exact gcr
    all_goals
     replace F := aF c22 F
     have his : is = false := by simpa using c22
     have hS : iA l key (if is then some val else none) = l.take i ++ l.drop (i + 1) := by rw [hset, hv, his]; rfl
     have hlen : (l.take i ++ l.drop (i + 1)).length = l.length - 1 := by simp; omega
     replace F := aF hlen F; refine sr fun _ hJ14 => ?_; apply hJ14; refine ct ?_; refine sr fun _ hJ16 => ?_; apply hJ16; refine rg' (h := fun J17 hJ17 => ?_); refine ca (c := JB (i := i) (l := l) (g := g1) (k := k) st hil hl) (k := ?_); rintro _ _ ⟨g', rfl, rfl⟩; (try simp [F]); apply hJ17; apply hK7; refine sr fun _ hJ19 => ?_; apply hJ19; refine bQ ?_; (try simp only [eD, bG, bV]); refine j1 (h := ?_); refine ⟨g', ?_⟩
     rw [hp1, hS, ← hq, hv]
     exact gcr
 all_goals
  replace F := aF g3_1 F
  have hv : q = none := by cases q with | none => rfl | some v => simp [hhas] at g3_1
  refine no2 (k := ?_); apply hJ9; refine cf ?_; refine sr fun _ hJ21 => ?_; apply hJ21; refine cf ?_; refine sr fun _ hJ23 => ?_; apply hJ23; refine cs (fun c67 => ?_) (fun c67 => ?_)
  · all_goals
     replace F := aF c67 F
     have his : is = true := by simpa using c67
     have hS : iA l key (if is then some val else none) = l.take i ++ ⟨key, val⟩ :: l.drop i := by rw [hset, hv, his]; rfl
     have hlen : (l.take i ++ (⟨key, val⟩ : Pr) :: l.drop i).length = l.length + 1 := by simp; omega
     replace F := aF hlen F
     refine bI (by kernel_rfl) fun J24 hJ24 => ?_
     refine q2 0 ?_; refine q2 1 ?_; refine q2 2 ?_; refine q2 3 ?_; refine q2 4 ?_; refine q2 5 ?_; refine q2 6 ?_; refine db 7 rfl rfl (k := ?_)
     refine ⟨by first | exact fun _ _ h => h | (refine aH [5, 4, 3, 2, 1, 0] (by kernel_rfl) ?_; (repeat' first | exact ln2 | refine lc ?_ ?_) <;> constructor <;> first | rfl | (simp [F]; done)), ?_⟩
     try simp [F]
     refine dc 8 rfl (c := Kn (i := i) (l := l) (g := g1) (k := k) (kv := σ.rows.length) (gv := 0) (p := ⟨key, val⟩) (sv := none) st (by simp [F]; rfl) (by omega) hle hl) (k := ?_)
     rintro _ _ ⟨g', rfl, rfl⟩
     refine ⟨by first | exact fun _ _ h => h | (refine aH [3, 2, 1, 0] (by kernel_rfl) ?_; (repeat' first | exact ln2 | refine lc ?_ ?_) <;> constructor <;> first | rfl | (simp [F]; done)), ?_⟩
     (try simp [F]); refine q2 9 ?_; refine q2 10 ?_; refine dop 11 rfl ?_; try simp [F]
     refine ⟨by first | exact fun _ _ h => h | (refine aH [9] (by kernel_rfl) ?_; (repeat' first | exact ln2 | refine lc ?_ ?_) <;> constructor <;> first | rfl | (simp [F]; done)), ?_⟩
     refine dd ?_; apply hJ24; apply hK7; refine sr fun _ hJ26 => ?_; apply hJ26; refine bQ ?_; (try simp only [eD, bG, bV]); refine j1 (h := ?_); refine ⟨g', ?_⟩
     rw [hp1, hS, ← hq, hv]
     exact gcr (hA := WkL.agg (.cons (Wk.refl _) (.cons (Wk.nil _ _ _) (.cons (Wk.refl _) .nil))))
  all_goals
   replace F := aF c67 F
   have his : is = false := by simpa using c67
   have hS : iA l key (if is then some val else none) = l := by rw [hset, hv, his]; rfl
   refine aA ?_; apply hK7; refine sr fun _ hJ28 => ?_; apply hJ28; refine bQ ?_; (try simp only [eD, bG, bV]); refine j1 (h := ?_); refine ⟨g1, ?_⟩
   rw [hp1, hS, ← hq, hv]
   exact gcr (hA := WkL.agg (.cons (Wk.refl _) (.cons (Wk.nil _ _ _) (.cons (Wk.refl _) .nil))))
end Go.Proofs.YtjpnjhlfieklfaaGreat
namespace Go.Proofs.YtjpnjhlfieklfaaGreat
open Go Go.Vm
attribute [local simp] dM aI dJ opA bH bN cM bP ofValue dC plain aQ aR cA b8 cC cB bY b7 b9 bZ cV bW cG cD b6 bU aT aS bO cU aW dQ dR bK aZ cL gA bS dE cF AV.cells AV.bL dF cO eZ bF aV cQ dI dS dV cN aN dP dO cW cT cI List.getElem?_cons_zero List.getElem?_cons_succ fK fL fH fG fJ fM fI fF dG kD j7 gH maxLen zeroCell Value.oneCell' Value.cells
theorem Kf {σ : St} {o k : Nat} {G : Sg} {key val : List UInt8} {is : Bool} (h : gT σ o k G) (hs : Srt G.s.l) (hl : G.s.l.length ≤ 1000000) (L : List (List AV)) :
  aE Tryz.prog 138 [.ptr o 0, .agg [byC key, byC val], .v (.bool is)] { σ with objs := σ.objs ++ L } (fun av σ' => ∃ g, av = .agg (udC ⟨key, fN G.s.l key⟩) ∧ σ' = { σ with objs := σ.objs.set o [.row k g 0 2 (iA G.s.l key (if is then some val else none)).length, .row (k + 1) G.g2 0 3 G.s.log.length, .row (k + 2) G.g3 0 1 G.s.marks.length] ++ L, rows := σ.rows.set k ⟨g, iZ (iA G.s.l key (if is then some val else none)), none⟩ }) :=
 cS (LY (h.app L σ.toks) hs hl) (fun av σ' ⟨g, e1, e2⟩ => ⟨g, e1, by rw [e2, Hd (h.app L σ.toks)]; simp only; rw [List.set_append_left _ _ (cZ h.o)]⟩)
set_option maxHeartbeats 1600000 in
attribute [local simp] dA List.getElem?_cons_zero List.getElem?_cons_succ byC fB in
theorem KJ {σ : St} {o k n : Nat} {G : Sg} {key val : List UInt8} {is : Bool} (h : gT σ o k G) (hG : G.s.Ok n) (hn : n ≤ 1000000) :
  aE Tryz.prog 126 [.ptr o 0, .agg [byC key, byC val], .v (.bool is)] σ (fun av σ' => ∃ G', G'.s = doS G.s key (if is then some val else none) ∧ av = .tup [] ∧ σ' = eR σ o k G') := by
 refine cS (nU (X := Nat × Nat) (A := fun _ => .tup []) (T := fun x => ⟨doS G.s key (if is then some val else none), x.1, x.2, G.g3⟩) h (fun _ => rfl) ?_) (fun av σ' ⟨x, e1, e2⟩ => ⟨_, rfl, e1, e2⟩)
 have hpa := Kf (key := key) (val := val) (is := is) h hG.srt (Nat.le_trans hG.l hn)
 have hp2 := fun l lg g g' => LF h l lg g g'
 have hlo := cZ h.o
 have hlr := cZ h.r1
 have hlr2 := cZ h.r2
 have hll := hG.log
 obtain ⟨ho, hr1, hr2, hr3⟩ := h
 obtain ⟨⟨l, log, marks⟩, g1, g2, g3⟩ := G
 simp only [stC, p8, pO, oL, doS] at ho hr1 hr2 hr3 hp2 hpa hll ⊢
 have ha : ∀ x L, (σ.objs.set o x ++ L)[o]? = some x := fun x L => by rw [List.getElem?_append_left (by simpa using hlo)]; exact cY ho x
 have hb : ∀ x y L, (σ.objs.set o x ++ L).set o y = σ.objs.set o y ++ L := fun x y L => by rw [List.set_append_left _ _ (by simpa using hlo), List.set_set]
 have hc : ∀ x, (σ.rows.set k x)[k + 1]? = some ⟨g2, oR log, none⟩ := fun x => by rw [List.getElem?_set_ne (by omega)]; exact hr2
 have hsr : ∀ x, (σ.rows.set k x).set (k + 1) ⟨g2, oR log, none⟩ = σ.rows.set k x := fun x => iE (hc x)
 have hul := Hj log
 have hut : List.take (log.length * 3) (oR log) = oR log := List.take_of_length_le (by omega)
 have hrm : (log.length + 1) * 56 ≤ 140737488355328 := by omega
 have hmx : log.length + 1 ≤ 9223372036854775807 := by omega
 have hua : oR (log ++ [⟨key, fN l key⟩]) = oR log ++ udC ⟨key, fN l key⟩ := by rw [Io]; simp [oR]
 obtain ⟨q, hq⟩ : ∃ q, q = fN l key := ⟨_, rfl⟩
 obtain ⟨l', hl'⟩ : ∃ l', l' = iA l key (if is then some val else none) := ⟨_, rfl⟩
 simp only [← hq, ← hl'] at hpa hua ⊢
 simp only [udC] at hpa hua
 have F := And.intro ha (And.intro hb (And.intro hc (And.intro hul (And.intro hut (And.intro hrm (And.intro hmx (And.intro hsr (True.intro))))))))
 refine aB Tryz.func126 rfl rfl rfl ?_; refine sr fun _ hJ2 => ?_; apply hJ2; refine sq fun K3 hK3 => ?_; refine sr fun _ hJ5 => ?_; apply hJ5; refine cf ?_; refine aA ?_; apply hK3; refine sr fun _ hJ7 => ?_; refine ca (c := hpa _) (k := ?_); rintro _ _ ⟨g, rfl, rfl⟩; (try simp [F]); apply hJ7; refine sr fun _ hJ9 => ?_; apply hJ9; refine cs (fun c18 => ?_) (fun c18 => ?_)
 · all_goals
    replace F := aF c18 F
    have hm : marks ≠ [] := by have h := c18; simp at h; exact List.length_pos_iff.1 h
    refine bI (by kernel_rfl) fun J10 hJ10 => ?_
    refine q2 0 ?_; refine q2 1 ?_; refine q2 2 ?_; refine q2 3 ?_; refine q2 4 ?_; refine q2 5 ?_; refine q2 6 ?_; refine dop 7 rfl ?_; try simp [F]
    refine ⟨by first | exact fun _ _ h => h | (refine aH [5, 3, 2, 1, 0] (by kernel_rfl) ?_; (repeat' first | exact ln2 | refine lc ?_ ?_) <;> constructor <;> first | rfl | (simp [F]; done)), ?_⟩
    refine q2 8 ?_; refine q2 9 ?_; refine dop 10 rfl ?_; try simp [F]
    refine ⟨by first | exact fun _ _ h => h | (refine aH [8] (by kernel_rfl) ?_; (repeat' first | exact ln2 | refine lc ?_ ?_) <;> constructor <;> first | rfl | (simp [F]; done)), ?_⟩
    refine dd ?_; apply hJ10; (try simp only [eD, bG, bV, if_true]); refine gI rfl (.inl rfl) ?_; refine ⟨(g, g2 + 1), ?_⟩; simp only [if_neg hm]
    rw [hp2, hua]
    exact gcr
 all_goals
  replace F := aF c18 F
  have hm : marks = [] := by have h := c18; simp at h; exact h
  refine aA ?_; (try simp only [eD, bG, bV, if_true]); refine gI rfl (.inl rfl) ?_; refine ⟨(g, g2), ?_⟩; simp only [if_pos hm]
  rw [hp2, hsr]
  exact gcr
end Go.Proofs.YtjpnjhlfieklfaaGreat
namespace Go.Proofs.YtjpnjhlfieklfaaGreat
set_option maxHeartbeats 1600000
open Go Go.Vm
attribute [local simp] dM aI dJ opA bH bN cM bP ofValue dC plain aQ aR cA b8 cC cB bY b7 b9 bZ cV bW cG cD b6 bU aT aS bO cU aW dQ dR bK aZ cL gA bS dE cF AV.cells AV.bL dF cO eZ bF aV cQ dI dS dV cN aN dP dO cW cT cI List.getElem?_cons_zero List.getElem?_cons_succ fK fL fH fG fJ fM fI fF dG kD j7 gH maxLen zeroCell Value.oneCell' Value.cells dL eQ eB fB dA
theorem HQ {σ : St} {o k n : Nat} {G : Sg} {key val : List UInt8} {t1 t2 : eO} (h : gT σ o k G) (hG : G.s.Ok n) (hn : n ≤ 1000000) (hk : key.length ≤ 1000000) (hv : val.length ≤ 1000000) :
  aE Tryz.prog 100 [.ptr o 0, .sl 1 (aY key) key.length t1, .sl 1 (aY val) val.length t2] σ (fun av σ' => ∃ G', G'.s = doS G.s key (some val) ∧ av = .tup [] ∧ σ' = eR σ o k G') := by
 have F := True.intro
 refine aB Tryz.func100 rfl rfl rfl ?_; refine rg' (h := fun J1 hJ1 => ?_); refine ca (c := nB hk) (k := ?_); rintro _ _ ⟨rfl, rfl⟩; (try simp [F]); refine ca (c := nB hv) (k := ?_); rintro _ _ ⟨rfl, rfl⟩; (try simp [F]); refine ca (c := KJ (key := key) (val := val) (is := true) h hG hn) (k := ?_); rintro _ _ ⟨G', e1, rfl, rfl⟩; (try simp [F]); apply hJ1; (try simp only [eD, bG, bV, if_true]); refine gI rfl (.inl rfl) ?_; exact ⟨G', e1, rfl, rfl⟩
theorem LR {σ : St} {o k n : Nat} {G : Sg} {key : List UInt8} {t1 : eO} (h : gT σ o k G) (hG : G.s.Ok n) (hn : n ≤ 1000000) (hk : key.length ≤ 1000000) :
  aE Tryz.prog 103 [.ptr o 0, .sl 1 (aY key) key.length t1] σ (fun av σ' => ∃ G', G'.s = doS G.s key none ∧ av = .tup [] ∧ σ' = eR σ o k G') := by
 have hdo : aE Tryz.prog 126 [.ptr o 0, .agg [.sl 1 (aY key) key.length .shut, .sl 0 [] 0 .full], .v (.bool false)] σ (fun av σ' => ∃ G', G'.s = doS G.s key none ∧ av = .tup [] ∧ σ' = eR σ o k G') :=
  kO (.cons (Wk.refl _) (.cons (WkL.agg (.cons (Wk.refl _) (.cons (Wk.nil _ _ _) .nil))) (.cons (Wk.refl _) .nil))) (KJ (key := key) (val := []) (is := false) h hG hn)
 have F := True.intro
 refine aB Tryz.func103 rfl rfl rfl ?_; refine rg' (h := fun J1 hJ1 => ?_); refine ca (c := nB hk) (k := ?_); rintro _ _ ⟨rfl, rfl⟩; (try simp [F]); refine ca (c := hdo) (k := ?_); rintro _ _ ⟨G', e1, rfl, rfl⟩; (try simp [F]); apply hJ1; (try simp only [eD, bG, bV, if_true]); refine gI rfl (.inl rfl) ?_; exact ⟨G', e1, rfl, rfl⟩
attribute [local simp] byC in
theorem BK {σ : St} {o k n : Nat} {G : Sg} {key : List UInt8} {t1 : eO} (h : gT σ o k G) (hG : G.s.Ok n) (hn : n ≤ 1000000) :
  aE Tryz.prog 54 [.ptr o 0, .sl 1 (aY key) key.length t1] σ (fun av σ' => av = .tup [byC ((fN G.s.l key).getD []), .v (.bool (fN G.s.l key).isSome)] ∧ σ = σ') := by
 refine aU ?_ (by simp [AV.under, bB, rU])
 have hfi := BT (key := key) (t := t1) h hG.srt (by have := hG.l; omega)
 have hgat : ∀ v, fN G.s.l key = some v → _ := fun v h => uQ (key := key) (v := v) hG.srt h
 have hhas : Dw G.s.l key = (fN G.s.l key).isSome := rfl
 have hkv := hG.kv
 obtain ⟨ho, hr1, hr2, hr3⟩ := h
 obtain ⟨⟨l, log, marks⟩, g1, g2, g3⟩ := G
 simp only [stC, p8, pO, oL] at ho hr1 hr2 hr3 hfi hgat hhas hkv ⊢
 obtain ⟨i, hi⟩ : ∃ i, i = fT l key := ⟨_, rfl⟩
 obtain ⟨q, hq⟩ : ∃ q, q = fN l key := ⟨_, rfl⟩
 simp only [← hi, ← hq] at hgat hhas hfi ⊢
 rw [hhas] at hfi
 cases q with
 | none =>
   have F := And.intro ho (And.intro hr1 (True.intro))
   refine aB Tryz.func54 rfl rfl rfl ?_; refine sq fun K1 hK1 => ?_; refine rg' (h := fun J2 hJ2 => ?_); apply hJ2; apply hK1; refine sq fun K3 hK3 => ?_; refine sq fun K4 hK4 => ?_; refine rg' (h := fun J5 hJ5 => ?_); apply hJ5; apply hK4; refine cf ?_; refine aA ?_; apply hK3; refine sq fun K6 hK6 => ?_; refine rg' (h := fun J7 hJ7 => ?_); refine ca (c := hfi) (k := ?_); rintro _ _ ⟨rfl, rfl⟩; (try simp [F]); apply hJ7; apply hK6; refine sq fun K8 hK8 => ?_; refine sq fun K9 hK9 => ?_; refine rg' (h := fun J10 hJ10 => ?_); apply hJ10; apply hK9; refine ct ?_; refine sq fun K11 hK11 => ?_; refine rg' (h := fun J12 hJ12 => ?_); apply hJ12; apply hK11; refine bQ ?_; (try simp only [eD, bG, bV]); refine fV rfl (.inr rfl) ?_; exact gcr (hA := WkL.tup (.cons (Wk.nil _ _ _) (.cons (Wk.refl _) .nil)))
 | some v =>
   obtain ⟨hil, hik, hiv⟩ := hgat v rfl
   have hat := (tI hil).2
   have hvl := (hkv _ (List.getElem_mem hil)).2
   rw [hiv] at hat hvl
   simp only [byC] at hat
   have F := And.intro ho (And.intro hr1 (And.intro hil (And.intro hat (True.intro))))
   refine aB Tryz.func54 rfl rfl rfl ?_; refine sq fun K1 hK1 => ?_; refine rg' (h := fun J2 hJ2 => ?_); apply hJ2; apply hK1; refine sq fun K3 hK3 => ?_; refine sq fun K4 hK4 => ?_; refine rg' (h := fun J5 hJ5 => ?_); apply hJ5; apply hK4; refine cf ?_; refine aA ?_; apply hK3; refine sq fun K6 hK6 => ?_; refine rg' (h := fun J7 hJ7 => ?_); refine ca (c := hfi) (k := ?_); rintro _ _ ⟨rfl, rfl⟩; (try simp [F]); apply hJ7; apply hK6; refine sq fun K8 hK8 => ?_; refine sq fun K9 hK9 => ?_; refine rg' (h := fun J10 hJ10 => ?_); apply hJ10; apply hK9; refine cf ?_; refine aA ?_; apply hK8; refine sq fun K11 hK11 => ?_; refine rg' (h := fun J12 hJ12 => ?_); refine ca (c := nB hvl) (k := ?_); rintro _ _ ⟨rfl, rfl⟩; (try simp [F]); apply hJ12; apply hK11; refine bQ ?_; (try simp only [eD, bG, bV]); refine fV rfl (.inr rfl) ?_; exact gcr
theorem Fx {σ : St} : aE Tryz.prog 13 [] σ (fun av σ' => av = .ptr σ.objs.length 0 ∧ σ' = { σ with objs := σ.objs ++ [stC σ.rows.length fP], rows := σ.rows ++ [p8 fP, pO fP, oL fP] }) := by
 refine Ab ?_
 have F := True.intro
 refine aB Tryz.func13 rfl rfl rfl ?_; refine sr fun _ hJ2 => ?_; apply hJ2; refine sr fun _ hJ4 => ?_; apply hJ4; refine ra ?_; exact rt
structure RbS where
 l : List Pr
 n : Nat
 g : Nat
end Go.Proofs.YtjpnjhlfieklfaaGreat
namespace Go.Proofs.YtjpnjhlfieklfaaGreat
open Go Go.Vm
attribute [local simp] dM aI dJ opA bH bN cM bP ofValue dC plain aQ aR cA b8 cC cB bY b7 b9 bZ cV bW cG cD b6 bU aT aS bO cU aW dQ dR bK aZ cL gA bS dE cF AV.cells AV.bL dF cO eZ bF aV cQ dI dS dV cN aN dP dO cW cT cI List.getElem?_cons_zero List.getElem?_cons_succ fK fL fH fG fJ fM fI fF dL eQ eB fB
def xM (l : List Pr) (p : List UInt8) : List (List UInt8) := ((l.drop (fT l p)).takeWhile fun x => preB x.k p).map (·.k)
theorem mV {α : Type} {f : α → Bool} : ∀ {l : List α} {j : Nat}, (∀ x ∈ l.take j, f x = true) → (∀ x, l[j]? = some x → f x = false) → l.takeWhile f = l.take j
 | [], _, _, _ => by simp
 | a :: l, 0, _, h => by simp [h a rfl]
 | a :: l, j + 1, h1, h2 => by
   have ha := h1 a (by simp)
   rw [List.takeWhile_cons, if_pos ha, List.take_succ_cons, mV (j := j) (fun x hx => h1 x (by simp [hx])) (fun x hx => h2 x (by simpa using hx))]
set_option maxHeartbeats 1600000 in
attribute [local simp] dA List.getElem?_cons_zero List.getElem?_cons_succ byC fB zP yG Ay sZ qS xH nL xJ xF BD uJ in
theorem JM {σ : St} {o k n : Nat} {G : Sg} {p : List UInt8} {t : eO} (h : gT σ o k G) (hG : G.s.Ok n) (hn : n ≤ 1000000) :
  aE Tryz.prog 63 [.ptr o 0, .sl 1 (aY p) p.length t] σ (fun av σ' => av = .sl 1 (mF (xM G.s.l p)) (xM G.s.l p).length .shut ∧ σ = σ') := by
 refine aU ?_ (by simp [AV.under, yE])
 have hfi := BT (key := p) (t := t) h hG.srt (by have := hG.l; omega)
 have hkv := hG.kv
 have hll := hG.l
 obtain ⟨ho, hr1, hr2, hr3⟩ := h
 obtain ⟨⟨l, log, marks⟩, g1, g2, g3⟩ := G
 simp only [stC, p8, pO, oL] at ho hr1 hr2 hr3 hfi hkv hll ⊢
 have hle := xL l p
 have hkl : xM l p = ((l.drop (fT l p)).takeWhile fun x => preB x.k p).map (·.k) := rfl
 obtain ⟨i, hi⟩ : ∃ i, i = fT l p := ⟨_, rfl⟩
 simp only [← hi] at hfi hle hkl
 rw [hkl]
 obtain ⟨D, hD⟩ : ∃ D, D = l.drop i := ⟨_, rfl⟩
 have hDl : D.length = l.length - i := by rw [hD]; simp
 rw [← hD]
 have hi2 : i ≤ l.length := hle
 have hlc := jU l
 obtain ⟨K, hK⟩ : ∃ K, K = D.map (·.k) := ⟨_, rfl⟩
 have hKj : ∀ j, (D.take j).map (·.k) = K.take j := fun j => by rw [hK]; simp
 have hKl : K.length = l.length - i := by rw [hK]; simp [hDl]
 have F := And.intro ho (And.intro hr1 (And.intro hi2 (And.intro hlc (True.intro))))
 refine aB Tryz.func63 rfl rfl rfl ?_; refine sr fun _ hJ2 => ?_; apply hJ2; refine sq fun K3 hK3 => ?_; refine sr fun _ hJ5 => ?_; apply hJ5; refine cf ?_; refine aA ?_; apply hK3; refine sr fun _ hJ7 => ?_; apply hJ7; refine sr fun _ hJ9 => ?_; refine ca (c := hfi) (k := ?_); rintro _ _ ⟨rfl, rfl⟩; (try simp [F]); apply hJ9; refine sq fun K10 hK10 => ?_; refine sr fun _ hJ12 => ?_; apply hJ12; refine aD ?_; refine fA (X := Nat) [1, 4, 23, 24] (fun j ρ σ1 => (j ≤ l.length - i) ∧ (∀ x ∈ D.take j, preB x.k p = true) ∧ (ρ 5 = lsA σ.toks.length 1 (mF (K.take j)) j) ∧ (ρ 25 = .v (.int .i64 j)) ∧ (σ1 = { σ with toks := σ.toks ++ lsT j })) (fun j => l.length - i - j) (0) ?st1 ?rd1
 case st1 =>
  refine ⟨lp, ?_, lp, lp, ?_⟩
  · intro x hx
    simp at hx
  · simp [nL]
 case rd1 =>
  rintro j ρ1 σ1 hF1 ⟨h1, h2, h5, h25, hσ⟩; obtain rfl := hσ.symm
  have f1 := dU hF1
  (try simp [dT, F] at f1); replace F := aF h5 F; replace F := aF h25 F; (try replace F := aF f1 F); refine sr fun _ hJ14 => ?_; apply hJ14; refine sq fun K15 hK15 => ?_; refine cs (fun c26 => ?_) (fun c26 => ?_)
  · all_goals
     replace F := aF c26 F; refine aA ?_; apply hK15; refine sq fun K16 hK16 => ?_; refine aD ?_; refine sq fun K17 hK17 => ?_
     have hlt : j < l.length - i := by have h := c26; simp at h; omega
     have hjD : j < D.length := by omega
     obtain ⟨x, hx⟩ : ∃ x, x = D[j] := ⟨_, rfl⟩
     have hxl : x = l[i + j] := by rw [hx]; simp only [hD]; rw [List.getElem_drop]
     have hxm := (hkv x (by rw [hxl]; exact List.getElem_mem _)).1
     have hat : List.take 2 (List.drop (i * 2 + j * 2) (iZ l)) = [byC x.k, byC x.v] := by rw [show i * 2 + j * 2 = (i + j) * 2 by omega, A0, List.drop_eq_getElem_cons (by omega), ← hxl]; rfl
     simp only [byC] at hat
     have hb2 : i * 2 + j * 2 + 2 ≤ l.length * 2 := by omega
     have htk : D.take (j + 1) = D.take j ++ [x] := by rw [hx]; exact (List.take_append_getElem hjD).symm
     have htkK : K.take (j + 1) = K.take j ++ [x.k] := by rw [← hKj, ← hKj, htk]; simp
     have hap : ∀ objs, dG Tryz.prog 113 (lsA σ.toks.length 1 (mF (K.take j)) j) (.sl 1 [.sl 1 (aY x.k) x.k.length .shut] 1 .full) ⟨objs, σ.toks ++ lsT j, σ.gl, σ.rows⟩ = some (lsA σ.toks.length 1 (mF (K.take (j + 1))) (j + 1), ⟨objs, σ.toks ++ lsT (j + 1), σ.gl, σ.rows⟩) := fun objs => by
      rw [htkK, Ic]
      exact r5 elemT_113 ti_102 (by decide) rfl (fun h => by simp [h, mF]) rfl (by omega) (by simp only [gH]; omega) (by simp only [maxLen]; omega)
     replace F := aF hlt (And.intro hat (And.intro hb2 (And.intro hap F))); refine rg' (h := fun J18 hJ18 => ?_); apply hJ18; apply hK17; refine sq fun K19 hK19 => ?_; refine sr fun _ hJ21 => ?_; refine ca (c := Gb) (k := ?_); rintro _ _ ⟨rfl, rfl⟩; (try simp [F]); apply hJ21; refine cs (fun c33 => ?_) (fun c33 => ?_)
     · all_goals
        replace F := aF c33 F
        have hpx : preB x.k p = false := by have h := c33; simpa using h
        have hstop := mV (l := D) (j := j) h2 (fun y hy => by rw [List.getElem?_eq_getElem hjD, ← hx] at hy; cases hy; exact hpx)
        have hlen : (K.take j).length = j := by rw [List.length_take]; omega
        have hwk := sT (k := σ.toks.length) (sz := 1) (n := j) (cs := mF (K.take j)) (fun h => by simp [h, mF])
        refine bJ ?_; apply hK10; refine sr fun _ hJ23 => ?_; apply hJ23; refine ra ?_
        rw [hstop, hKj, hlen]
        exact gcr (hA := by simp only [aP]; simp [F]; exact hwk)
     all_goals
      replace F := aF c33 F; refine aA ?_; apply hK19; refine rg' (h := fun J24 hJ24 => ?_); refine ca (c := nB hxm) (k := ?_); rintro _ _ ⟨rfl, rfl⟩; (try simp [F]); apply hJ24; apply hK16; refine rg' (h := fun J25 hJ25 => ?_); apply hJ25; refine ⟨gk, (j + 1), ⟨kpG, lpG, ?_, lpG, lpG, lpG⟩, lpG⟩
      · rw [htk]
        intro y hy
        rcases List.mem_append.1 hy with h | h
        · exact h2 y h
        · simp at h; rw [h]; have h := c33; simpa using h
  all_goals
   replace F := aF c26 F
   have hjl : D.take j = D := List.take_of_length_le (by have h := c26; simp at h; omega)
   have hstop := mV (l := D) (j := j) h2 (fun y hy => by rw [List.getElem?_eq_none (by have h := c26; simp at h; omega)] at hy; cases hy)
   have hlen : (K.take j).length = j := by rw [List.length_take]; omega
   have hwk := sT (k := σ.toks.length) (sz := 1) (n := j) (cs := mF (K.take j)) (fun h => by simp [h, mF])
   refine bJ ?_; apply hK10; refine sr fun _ hJ27 => ?_; apply hJ27; refine ra ?_
   rw [hstop, hKj, hlen]
   exact gcr (hA := by simp only [aP]; simp [F]; exact hwk)
theorem xG : ∀ {m l : List Pr}, Srt l → Srt m → (∀ p ∈ l, p ∈ m) → l.Sublist m
 | m, [], _, _, _ => List.nil_sublist m
 | [], p :: l, _, _, h => by have := h p (by simp); cases this
 | q :: m, p :: l, hl, hm, h => by
   have l1 := List.pairwise_cons.1 hl
   have m1 := List.pairwise_cons.1 hm
   by_cases hpq : p = q
   · subst hpq
     refine List.Sublist.cons_cons _ (xG l1.2 m1.2 (fun x hx => ?_))
     rcases List.mem_cons.1 (h x (List.mem_cons_of_mem _ hx)) with e | e
     · have := l1.1 x hx; rw [e, rM] at this; cases this
     · exact e
   · have hpm : p ∈ m := by
      rcases List.mem_cons.1 (h p (List.mem_cons_self ..)) with e | e
      · exact (hpq e).elim
      · exact e
     refine List.Sublist.cons _ (xG hl m1.2 (fun x hx => ?_))
     rcases List.mem_cons.1 (h x hx) with e | e
     · rcases List.mem_cons.1 hx with e2 | e2
       · rw [e2]; exact hpm
       · have h1 := l1.1 x e2
         have h2 := m1.1 p hpm
         rw [e] at h1
         have := jN h1 h2
         rw [rM] at this; cases this
     · exact e
theorem nO : ∀ {l : List Pr} {p : Pr}, Srt l → p ∈ l → fN l p.k = some p.v
 | q :: l, p, hs, h => by
   have l1 := List.pairwise_cons.1 hs
   rcases List.mem_cons.1 h with e | e
   · subst e; simp [fN]
   · have := l1.1 p e
     rw [fN, if_neg (vQ this)]
     exact nO l1.2 e
theorem Hn (p : List UInt8) : preB p [] = true := by simp [preB]
theorem I4 {l : List (List UInt8)} {i : Nat} (h : i < l.length) : (mF l)[i]? = some (byC l[i]) := by simp [mF, h]
end Go.Proofs.YtjpnjhlfieklfaaGreat
namespace Go.Proofs.YtjpnjhlfieklfaaGreat
set_option maxHeartbeats 1600000
open Go Go.Vm
attribute [local simp] dM aI dJ opA bH bN cM bP ofValue dC plain aQ aR cA b8 cC cB bY b7 b9 bZ kC bW cG cD b6 bU aT aS bO cU aW dQ dR bK aZ cL gA bS dE cF AV.cells AV.bL dF cO eZ bF aV cQ dI dS dV cN aN dP dO gG dA List.getElem?_cons_zero List.getElem?_cons_succ
theorem pA9 {σ : St} {P : Program} {f : FuncId} {args : List AV} {Q Q' : AV → St → Prop} (k : aE P f args σ Q) (h : ∀ av σ0, Q av σ0 → tY σ σ0 ∧ Q' (av.gcO σ.objs.length) (σ.fU σ0)) : aE P f args σ Q' := by
 intro G w vs R hS hl hr hK
 refine k G w vs R hS hl hr (fun v av σ0 G' w' hq hE hS' hv => ?_)
 obtain ⟨hg, hq'⟩ := h av σ0 hq
 obtain ⟨hE2, hS2⟩ := hS.fU hS' hE hg
 exact hK v _ _ _ _ hq' hE2 hS2 (hv.gcO hE hS.tot)
theorem qO {σ : St} {P : Program} {f : FuncId} {args : List AV} {A : AV} {ι : Type} {Pi : ι → Prop} {τ : ι → St} (k : aE P f args σ (fun av σ' => ∃ i, Pi i ∧ av = A ∧ ∃ l, σ' = { τ i with objs := (τ i).objs ++ l }))
  (hA : A.gcO σ.objs.length = A) (hl : ∀ i, (τ i).objs.length = σ.objs.length) (hgl : ∀ i, (τ i).gl = σ.gl) (hkp : ∀ i, Kp σ.objs.length σ.objs (τ i).objs) (hkr : ∀ i, KpR σ.objs.length σ.rows (τ i).rows) : aE P f args σ (fun av σ' => av = A ∧ ∃ i, Pi i ∧ σ' = τ i) := by
 refine pA9 k (fun av σ0 ⟨i, hi, hv, l, h⟩ => ?_)
 subst h hv
 refine ⟨EI (hgl i) (Fe (hkp i)) (hkr i), hA, i, hi, ?_⟩
 have := hl i
 simp [St.fU, ← this]
def wrA (k : Nat) (l : List UInt8) : AV := if l = [] then .sl 0 [] 0 .full else .sl 1 (aY l) l.length (.own k)
def Tk (tk : List Nat) (k : Nat) (l : List UInt8) : Prop := l = [] ∨ tk[k]? = some l.length
structure Wr (tk : List Nat) (k : Nat) (l : List UInt8) (tk' : List Nat) (k' : Nat) (l' : List UInt8) : Prop where
 tok : Tk tk' k' l'
 len : tk.length ≤ tk'.length
 keep : ∀ (j v : Nat), (l = [] ∨ j ≠ k) → tk[j]? = some v → tk'[j]? = some v
 own : l' = [] ∨ (k' = k ∧ l ≠ []) ∨ tk.length ≤ k'
theorem Wr.refl {tk : List Nat} {k : Nat} {l : List UInt8} (h : Tk tk k l) : Wr tk k l tk k l := ⟨h, Nat.le_refl _, fun _ _ _ h => h, by
 by_cases e : l = []
 · exact .inl e
 · exact .inr (.inl ⟨rfl, e⟩)⟩
theorem HD {l : List Nat} {i v : Nat} (h : l[i]? = some v) : i < l.length := (List.getElem?_eq_some_iff.1 h).1
theorem Wr.trans {tk tk1 tk2 : List Nat} {k k1 k2 : Nat} {l l1 l2 : List UInt8} (h : Wr tk k l tk1 k1 l1) (g : Wr tk1 k1 l1 tk2 k2 l2) : Wr tk k l tk2 k2 l2 := by
 refine ⟨g.tok, Nat.le_trans h.len g.len, fun j v hj hv => g.keep j v ?_ (h.keep j v hj hv), ?_⟩
 · have hlt := HD hv
   rcases h.own with e | ⟨e, e2⟩ | e
   · exact .inl e
   · rcases hj with hj | hj
     · exact absurd hj e2
     · exact .inr (by omega)
   · exact .inr (by omega)
 · rcases g.own with e | ⟨e, e2⟩ | e
   · exact .inl e
   · rcases h.own with e3 | ⟨e3, e4⟩ | e3
     · exact absurd e3 e2
     · exact .inr (.inl ⟨by omega, e4⟩)
     · exact .inr (.inr (by omega))
   · have := h.len
     exact .inr (.inr (by omega))
theorem Wr.pre {tk tk' : List Nat} {k k' : Nat} {l' : List UInt8} (h : Wr tk k [] tk' k' l') : ∃ m, tk' = tk ++ m := by
 refine ⟨tk'.drop tk.length, ?_⟩; refine List.ext_getElem? fun i => ?_
 by_cases hi : i < tk.length
 · rw [List.getElem?_append_left hi]
   rw [List.getElem?_eq_getElem hi]
   exact h.keep i _ (.inl rfl) (List.getElem?_eq_getElem hi)
 · rw [List.getElem?_append_right (by omega), List.getElem?_drop]
   congr 1; omega
theorem yU (n k : Nat) (l : List UInt8) : AV.eM n (wrA k l) = true := by
 unfold wrA
 split <;> simp [bM, AV.eM]
theorem oP (n k : Nat) (l : List UInt8) : bM n [wrA k l] = true := by
 unfold wrA
 split <;> simp [bM, AV.eM]
def WP (id : Nat) (σ : St) (k : Nat) (l q : List UInt8) : AV → St → Prop := fun av σ' => av = .ptr id 0 ∧ ∃ k' tk', Wr σ.toks k l tk' k' (l ++ q) ∧ σ' = { σ with objs := σ.objs.set id [wrA k' (l ++ q)], toks := tk' }
theorem vH {σ : St} {id k : Nat} {l q : List UInt8} {tq : eO} (h : σ.objs[id]? = some [wrA k l]) (ht : Tk σ.toks k l) (hne : l ++ q ≠ []) (hl : l.length ≤ 1000000) (hq : q.length ≤ 1000000) :
  aE Tryz.prog 124 [.ptr id 0, .sl 1 (aY q) q.length tq] σ (WP id σ k l q) := by
 by_cases e : l = []
 · subst e
   refine cS (Kj (by simpa [wrA] using h) hq) (fun av σ' ⟨h1, h2⟩ => ⟨h1, σ.toks.length, σ.toks ++ [q.length], ⟨.inr ?_, ?_, fun j v _ hj => ?_, .inr (.inr (Nat.le_refl _))⟩, ?_⟩)
   · simp
   · simp
   · rw [List.getElem?_append_left (HD hj)]; exact hj
   · rw [h2]; simp at hne; simp [wrA, hne]
 · have hk := ht.resolve_left e
   refine cS (G7 (by simpa [wrA, e] using h) hk hl hq) (fun av σ' ⟨h1, h2⟩ => ⟨h1, k, σ.toks.set k (l ++ q).length, ⟨.inr (cY hk _), by simp, fun j v hj hv => ?_, .inr (.inl ⟨rfl, e⟩)⟩, ?_⟩)
   · rw [List.getElem?_set_ne (Ne.symm (hj.resolve_left e))]; exact hv
   · rw [h2]; simp [wrA, e]
theorem Cf {σ : St} {id k : Nat} {l : List UInt8} {b : UInt8} (h : σ.objs[id]? = some [wrA k l]) (ht : Tk σ.toks k l) (hl : l.length ≤ 1000000) :
  aE Tryz.prog 97 [.ptr id 0, .v (.int .u8 b.toNat)] σ (WP id σ k l [b]) := by
 have hv : (Value.int IntKind.u8 0).cells.size = 1 := rfl
 have F := And.intro hv (True.intro)
 refine aB Tryz.func97 rfl rfl rfl ?_; refine sr fun _ hJ2 => ?_; apply hJ2; refine sr fun _ hJ4 => ?_
 refine ca (c := vH (q := [b]) h ht (by simp) hl (by simp)) (k := ?_)
 rintro _ _ ⟨rfl, k1, tk1, hw1, rfl⟩; (try simp [F]); apply hJ4; refine ra ?_; exact ⟨rfl, k1, tk1, hw1, rfl⟩
def kZ (x : Nat) : List UInt8 := UInt8.ofNat (aO x).length :: aO x
theorem E1 {σ : St} {id k x : Nat} {l : List UInt8} (h : σ.objs[id]? = some [wrA k l]) (ht : Tk σ.toks k l) (hx : x < 2 ^ 256) (hl : l.length ≤ 900000) :
  aE Tryz.prog 98 [.ptr id 0, .agg (aM x)] σ (WP id σ k l (kZ x)) := by
 have hlt := cZ h
 refine cS (qO (A := .ptr id 0) (Pi := fun i : Nat × List Nat => Wr σ.toks k l i.2 i.1 (l ++ kZ x)) (τ := fun i => { σ with objs := σ.objs.set id [wrA i.1 (l ++ kZ x)], toks := i.2 }) ?_ (by simp [AV.gcO, hlt]) (fun _ => by simp) (fun _ => rfl) (fun _ => BH (xE _) (oP _ _ _)) (fun _ => uV _)) (fun av σ' ⟨h1, i, h2, h3⟩ => ⟨h1, i.1, i.2, h2, h3⟩)
 have hs := cY h
 have hlen : (aO x).length ≤ 32 := pW x 32 (by simpa using hx)
 obtain ⟨c, hc⟩ : ∃ c, c = UInt8.ofNat (aO x).length := ⟨_, rfl⟩
 have hcn : c.toNat = (aO x).length := by rw [hc]; exact toNat_ofNat (by omega)
 have hw : IntKind.u8.wrap ((aO x).length : Int) = (c.toNat : Int) := by rw [wrap_u8, hcn, Nat.mod_eq_of_lt (by omega)]
 have ho1 : ∀ r, (σ.objs ++ r)[id]? = some [wrA k l] := fun r => by rw [List.getElem?_append_left hlt]; exact h
 have ho2 : ∀ x r, (σ.objs.set id x ++ r)[id]? = some x := fun x r => by rw [List.getElem?_append_left (by simpa using hlt)]; exact hs x
 have ho3 : ∀ x r, (σ.objs ++ r).set id x = σ.objs.set id x ++ r := fun x r => List.set_append_left _ _ hlt
 have ho4 : ∀ x y r, (σ.objs.set id y ++ r).set id x = σ.objs.set id x ++ r := fun x y r => by rw [List.set_append_left _ _ (by simpa using hlt), List.set_set]
 have hv : (Value.int IntKind.u8 0).cells.size = 1 := rfl
 have F := And.intro hw (And.intro hv (And.intro ho1 (And.intro ho2 (And.intro ho3 (And.intro ho4 (True.intro))))))
 refine aB Tryz.func98 rfl rfl rfl ?_; refine sr fun _ hJ2 => ?_; apply hJ2; refine sr fun _ hJ4 => ?_; refine ca (c := Cr hx) (k := ?_); rintro _ _ ⟨rfl, rfl⟩; (try simp [F]); apply hJ4; refine sr fun _ hJ6 => ?_
 refine ca (c := vH (q := [c]) (ho1 _) ht (by simp) (by omega) (by simp)) (k := ?_)
 rintro _ _ ⟨rfl, k1, tk1, hw1, rfl⟩; try simp [F]
 refine ca (c := vH (l := l ++ [c]) (k := k1) (ho2 _ _) hw1.tok (by simp) (by simp; omega) (by omega)) (k := ?_)
 rintro _ _ ⟨rfl, k2, tk2, hw2, rfl⟩; (try simp [F]); apply hJ6; refine ra ?_
 have e : l ++ [c] ++ aO x = l ++ kZ x := (by simp [kZ, hc])
 rw [e] at hw2
 have e2 : c :: aO x = kZ x := (by simp [kZ, hc])
 simp only [e2]
 exact ⟨(k2, tk2), hw1.trans hw2, rfl, _, rfl⟩
def eE (size n : Nat) : List UInt8 := (List.range size).map fun j => UInt8.ofNat (n / 2 ^ (8 * (size - 1 - j)) % 256)
theorem gM (size n : Nat) : (eE size n).length = size := by simp [eE]
structure WSt where
 j : Nat
 k : Nat
 tk : List Nat
theorem DW {σ : St} {id k n size : Nat} {l : List UInt8} (h : σ.objs[id]? = some [wrA k l]) (ht : Tk σ.toks k l) (hn : n < 2 ^ 64) (hsz : size ≤ 8) (hl : l.length ≤ 900000) :
  aE Tryz.prog 123 [.ptr id 0, .v (.int .u64 n), .v (.int .i64 size)] σ (WP id σ k l (eE size n)) := by
 have hs := cY h
 have hs0 := St.oO h
 have hv : (Value.int IntKind.u8 0).cells.size = 1 := rfl
 have F := And.intro hv (True.intro)
 refine aB Tryz.func123 rfl rfl rfl ?_; refine sr fun _ hJ2 => ?_; apply hJ2; refine sq fun K3 hK3 => ?_; refine sr fun _ hJ5 => ?_; apply hJ5; refine aD ?_; refine cK (X := WSt) [1, 6] (fun q ρ σ1 => (q.j ≤ size) ∧ (Wr σ.toks k l q.tk q.k (l ++ (eE size n).take q.j)) ∧ (ρ 0 = .ptr id 0) ∧ (ρ 7 = .v (.int .i64 ((size : Int) - 1 - q.j))) ∧ (σ1 = { σ with objs := σ.objs.set id [wrA q.k (l ++ (eE size n).take q.j)], toks := q.tk })) (fun q => size - q.j) (⟨0, k, σ.toks⟩) ?st1 ?rd1
 case st1 =>
  refine ⟨lp, ?_, lp, lp, ?_⟩
  · simpa using Wr.refl ht
  · simpa using hs0.symm
 case rd1 =>
  rintro q ρ1 σ1 hF1 ⟨hj, hw, h0, h7, hσ⟩; obtain rfl := hσ.symm
  have f1 := dU hF1
  (try simp [dT, F] at f1); replace F := aF h0 F; replace F := aF h7 F; (try replace F := aF f1 F); refine sq fun K6 hK6 => ?_; refine sr fun _ hJ8 => ?_; apply hJ8; refine cs (fun c11 => ?_) (fun c11 => ?_)
  · (try exact aK c11); all_goals have c11p := c11; try simp [F] at c11p
    all_goals
     replace F := aF c11 F; (try replace F := aF c11p F); refine aA ?_; apply hK6; refine sq fun K9 hK9 => ?_; refine aD ?_
     obtain ⟨i, hi⟩ : ∃ i, i = size - 1 - q.j := ⟨_, rfl⟩
     have he : (size : Int) - 1 - q.j = (i : Int) := by omega
     have hi8 : i < 8 := by omega
     obtain ⟨b, hb⟩ : ∃ b, b = UInt8.ofNat (n / 2 ^ (8 * i) % 256) := ⟨_, rfl⟩
     have hbn : b.toNat = n / 2 ^ (8 * i) % 256 := by rw [hb]; exact toNat_ofNat (by omega)
     have hnx : (eE size n).take (q.j + 1) = (eE size n).take q.j ++ [b] := by rw [jD (by rw [gM]; omega)]; simp [eE, hb, hi]
     have htl : ((eE size n).take q.j).length ≤ 8 := by simp [gM]; omega
     have hnn : ¬ 8 * (i : Int) < 0 := by omega
     have hsh : Int.fdiv (n : Int) (2 ^ (min (8 * (i : Int)).toNat 64)) = ((n / 2 ^ (8 * i) : Nat) : Int) := by rw [show min (8 * (i : Int)).toNat 64 = 8 * i by omega, Int.fdiv_eq_ediv_of_nonneg _ (by exact Int.le_of_lt (Int.pow_pos (by omega)))]; simp
     have hcv : IntKind.u8.wrap ((n / 2 ^ (8 * i) : Nat) : Int) = (b.toNat : Int) := by rw [wrap_u8, hbn]
     generalize n / 2 ^ (8 * i) = z at *
     replace F := aF he F; replace F := aF hnn F; replace F := aF hsh F; replace F := aF hcv F; refine rg' (h := fun J10 hJ10 => ?_)
     refine ca (c := vH (q := [b]) (hs _) hw.tok (by simp) (by simp; omega) (by simp)) (k := ?_)
     rintro _ _ ⟨rfl, k1, tk1, hw1, rfl⟩; (try simp [F]); apply hJ10; apply hK9; refine rg' (h := fun J11 hJ11 => ?_); apply hJ11; refine ⟨(⟨q.j + 1, k1, tk1⟩), ⟨kp, lp, ?_, lp, ?_, ?_⟩, lp⟩
     · have hq2 := hw.trans hw1
       rw [List.append_assoc, ← hnx] at hq2
       exact hq2
     · simp
       omega
     · simp [hnx]
  (try exact aK c11); all_goals have c11p := c11; try simp [F] at c11p
  all_goals
   replace F := aF c11 F; (try replace F := aF c11p F); refine bJ ?_; apply hK3; refine sr fun _ hJ13 => ?_; apply hJ13; refine ra ?_
   have hfull : (eE size n).take q.j = eE size n := List.take_of_length_le (by rw [gM]; simp at c11; omega)
   rw [hfull] at hw
   rw [hfull]
   exact ⟨by simp [F], q.k, q.tk, hw, rfl⟩
theorem Dh {σ : St} {id k n : Nat} {l : List UInt8} (h : σ.objs[id]? = some [wrA k l]) (ht : Tk σ.toks k l) (hn : n < 2 ^ 64) (hl : l.length ≤ 900000) :
  aE Tryz.prog 96 [.ptr id 0, .v (.int .u64 n)] σ (WP id σ k l (eE 8 n)) := by
 have F := True.intro
 refine aB Tryz.func96 rfl rfl rfl ?_; refine sr fun _ hJ2 => ?_; apply hJ2; refine sr fun _ hJ4 => ?_
 refine ca (c := DW (size := 8) h ht hn (by omega) hl) (k := ?_)
 rintro _ _ ⟨rfl, k1, tk1, hw1, rfl⟩; (try simp [F]); apply hJ4; refine ra ?_; exact ⟨rfl, k1, tk1, hw1, rfl⟩
def Bz (c : bD) : List UInt8 := c.d :: kZ c.n.v
def iY (l : List bD) : List UInt8 := l.flatMap Bz
def kY (l : List bD) : List UInt8 := UInt8.ofNat l.length :: iY l
theorem HJ (c : bD) : (Bz c).length ≤ 34 := by
 have := pW c.n.v 32 (by simpa using c.n.h)
 simp [Bz, kZ]; omega
theorem rX : ∀ l : List bD, (iY l).length ≤ 34 * l.length
 | [] => by simp [iY]
 | c :: l => by
   have h1 := HJ c
   have h2 := rX l
   simp [iY] at h2 ⊢
   omega
theorem Eu (l : List bD) (c : bD) : iY (l ++ [c]) = iY l ++ Bz c := by simp [iY]
attribute [local simp] oP yU dX in
theorem FR {σ : St} {id k : Nat} {l : List UInt8} {L : List bD} {tL : eO} (h : σ.objs[id]? = some [wrA k l]) (ht : Tk σ.toks k l) (hL : L.length ≤ 255) (hl : l.length ≤ 500000) :
  aE Tryz.prog 125 [.ptr id 0, .sl 5 (aL L) L.length tL] σ (WP id σ k l (kY L)) := by
 have hlt := cZ h
 refine cS (qO (A := .ptr id 0) (Pi := fun i : Nat × List Nat => Wr σ.toks k l i.2 i.1 (l ++ kY L)) (τ := fun i => { σ with objs := σ.objs.set id [wrA i.1 (l ++ kY L)], toks := i.2 }) ?_ (by simp [AV.gcO, hlt]) (fun _ => by simp) (fun _ => rfl) (fun _ => BH (xE _) (oP _ _ _)) (fun _ => uV _)) (fun av σ' ⟨h1, i, h2, h3⟩ => ⟨h1, i.1, i.2, h2, h3⟩)
 have hs := cY h
 obtain ⟨c, hc⟩ : ∃ c, c = UInt8.ofNat L.length := ⟨_, rfl⟩
 have hcn : c.toNat = L.length := by rw [hc]; exact toNat_ofNat (by omega)
 have hw : IntKind.u8.wrap (L.length : Int) = (c.toNat : Int) := by rw [wrap_u8, hcn, Nat.mod_eq_of_lt (by omega)]
 have ho1 : ∀ r, (σ.objs ++ r)[id]? = some [wrA k l] := fun r => by rw [List.getElem?_append_left hlt]; exact h
 have ho2 : ∀ x r, (σ.objs.set id x ++ r)[id]? = some x := fun x r => by rw [List.getElem?_append_left (by simpa using hlt)]; exact hs x
 have ho3 : ∀ x r, (σ.objs ++ r).set id x = σ.objs.set id x ++ r := fun x r => List.set_append_left _ _ hlt
 have ho4 : ∀ x y r, (σ.objs.set id y ++ r).set id x = σ.objs.set id x ++ r := fun x y r => by rw [List.set_append_left _ _ (by simpa using hlt), List.set_set]
 have hv : (Value.int IntKind.u8 0).cells.size = 1 := rfl
 have F := And.intro hw (And.intro hv (And.intro ho1 (And.intro ho2 (And.intro ho3 (And.intro ho4 (And.intro hlt (True.intro)))))))
 refine aB Tryz.func125 rfl rfl rfl ?_; refine sr fun _ hJ2 => ?_; apply hJ2; refine sr fun _ hJ4 => ?_
 refine ca (c := vH (q := [c]) h ht (by simp) (by omega) (by simp)) (k := ?_)
 rintro _ _ ⟨rfl, k1, tk1, hw1, rfl⟩; (try simp [F]); apply hJ4; refine sq fun K5 hK5 => ?_; refine sr fun _ hJ7 => ?_; apply hJ7; refine aD ?_; refine fA (X := WSt) [4, 13, 14] (fun q ρ σ1 => (q.j ≤ L.length) ∧ (Wr σ.toks k l q.tk q.k (l ++ c :: iY (L.take q.j))) ∧ (ρ 0 = .ptr id 0) ∧ (ρ 15 = .v (.int .i64 q.j)) ∧ (σ1 = { σ with objs := σ.objs.set id [wrA q.k (l ++ c :: iY (L.take q.j))], toks := q.tk })) (fun q => L.length - q.j) (⟨0, k1, tk1⟩) ?st1 ?rd1
 case st1 =>
  refine ⟨lp, ?_, lp, lp, ?_⟩
  · simpa [iY] using hw1
  · simp [iY]
 case rd1 =>
  rintro q ρ1 σ1 hF1 ⟨hj, hq, h0, h15, hσ⟩; obtain rfl := hσ.symm
  have f1 := dU hF1
  (try simp [dT, F] at f1); replace F := aF h0 F; replace F := aF h15 F; (try replace F := aF f1 F); refine sr fun _ hJ9 => ?_; apply hJ9; refine sq fun K10 hK10 => ?_; refine cs (fun c16 => ?_) (fun c16 => ?_)
  · (try exact aK c16); all_goals have c16p := c16; try simp [F] at c16p
    all_goals
     replace F := aF c16 F; (try replace F := aF c16p F); refine aA ?_; apply hK10; refine sq fun K11 hK11 => ?_; refine aD ?_; refine sr fun _ hJ13 => ?_; apply hJ13
     have hel := rX (L.take q.j)
     have htl : (L.take q.j).length ≤ 255 := by simp; omega
     refine bI (by kernel_rfl) fun J14 hJ14 => ?_
     refine q2 0 ?_; refine q2 1 ?_; refine q2 2 ?_; refine q2 3 ?_; refine q2 5 ?_; refine q2 6 ?_
     refine dc 4 rfl (c := vH (l := l ++ c :: iY (L.take q.j)) (q := [L[q.j].d]) (ho2 _ _) hq.tok (by simp) (by simp; omega) (by simp)) (k := ?_)
     rintro _ _ ⟨rfl, k2, tk2, hw2, rfl⟩
     refine ⟨by first | exact fun _ _ h => h | (refine aH [6, 5, 2, 1] (by kernel_rfl) ?_; (repeat' first | exact ln2 | refine lc ?_ ?_) <;> constructor <;> first | rfl | (simp [F]; done)), ?_⟩
     try simp [F]
     refine dc 7 rfl (c := E1 (l := l ++ c :: (iY (L.take q.j) ++ [L[q.j].d])) (x := L[q.j].n.v) (ho2 _ _) (by simpa using hw2.tok) L[q.j].n.h (by simp; omega)) (k := ?_)
     rintro _ _ ⟨rfl, k3, tk3, hw3, rfl⟩
     refine ⟨by first | exact fun _ _ h => h | (refine aH [5, 2, 1] (by kernel_rfl) ?_; (repeat' first | exact ln2 | refine lc ?_ ?_) <;> constructor <;> first | rfl | (simp [F]; done)), ?_⟩
     (try simp [F]); refine dop 8 rfl ?_; (try simp [F]); (try refine ⟨ln, ?_⟩); refine dd ?_; apply hJ14; apply hK11; refine rg' (h := fun J15 hJ15 => ?_); apply hJ15
     have e3 : iY (L.take (q.j + 1)) = iY (L.take q.j) ++ L[q.j].d :: kZ L[q.j].n.v := by rw [jD (by simp at c16; omega), Eu]; rfl
     simp only [List.append_assoc, List.cons_append, List.nil_append] at hw2 hw3
     refine ⟨gk, (⟨q.j + 1, k3, tk3⟩), ⟨kpG, lpG, ?_, lpG, lpG, ?_⟩, lpG⟩
     · simp only [e3]
       exact (hq.trans hw2).trans hw3
     · simp [St.fU, e3]
  (try exact aK c16); all_goals have c16p := c16; try simp [F] at c16p
  all_goals
   replace F := aF c16 F; (try replace F := aF c16p F); refine bJ ?_; apply hK5; refine sr fun _ hJ17 => ?_; apply hJ17; refine ra ?_
   have hfull : L.take q.j = L := List.take_of_length_le (by simp at c16; omega)
   rw [hfull] at hq
   rw [hfull]
   have e2 : c :: iY L = kY L := (by simp [kY, hc])
   rw [e2] at hq
   simp only [e2]
   exact ⟨(q.k, q.tk), hq, by simp [F], [], by simp⟩
end Go.Proofs.YtjpnjhlfieklfaaGreat
namespace Go.Proofs.YtjpnjhlfieklfaaGreat
open Go Go.Vm
attribute [local simp] dM aI dJ opA bH bN cM bP ofValue dC plain aQ aR cA b8 cC cB bY b7 b9 bZ kC bW cG cD b6 bU aT aS bO cU aW dQ dR bK aZ cL gA bS dE cF AV.cells AV.bL dF cO eZ bF aV cQ dI dS dV cN dP dO gG
def yY (s : Option (List UInt8)) : UInt8 := (dN 1 s).headD 0
theorem C3 (s : Option (List UInt8)) : be (dN 1 s) = (yY s).toNat := by
 have h := j5 1 s
 unfold yY
 match dN 1 s, h with
 | [], _ => rfl
 | [b], _ => simp [be]
 | _ :: _ :: _, h => simp at h
theorem Hc (p : List UInt8) : numOf p < 2 ^ 256 := by
 unfold numOf
 split
 · rename_i h
   simp only [m8, Bool.and_eq_true, decide_eq_true_eq] at h
   exact Nat.lt_of_lt_of_le (Ck p) (Nat.le_trans (Nat.pow_le_pow_right (by omega) h.1) (by decide))
 · decide
def Np (s : Option (List UInt8)) : Num := ⟨numOf (z4 s), Hc _⟩
def wE (s : Option (List UInt8)) : bD := ⟨yY s, Np (cJ 1 s)⟩
def jI : Nat → Option (List UInt8) → List bD → List bD × Option (List UInt8)
 | 0, s, l => (l, s)
 | _ + 1, none, l => (l, none)
 | m + 1, some p, l => jI m (uN (cJ 1 (some p))) (l ++ [wE (some p)])
theorem tW {m : Nat} {s : Option (List UInt8)} {l : List bD} (hm : 0 < m) (hs : ¬ s = none) : jI m s l = jI (m - 1) (uN (cJ 1 s)) (l ++ [wE s]) := by
 match m, s, hm, hs with
 | m + 1, some p, _, _ => rfl
theorem dB {m : Nat} {s : Option (List UInt8)} {l : List bD} (h : m = 0 ∨ s = none) : jI m s l = (l, s) := by
 match m, s, h with
 | 0, _, _ => rfl
 | m + 1, none, _ => rfl
def hU (s : Option (List UInt8)) : List bD × Option (List UInt8) := jI (be (dN 1 s)) (cJ 1 s) []
def lI (s : Option (List UInt8)) : Option (List UInt8) := if bA (hU s).1 then (hU s).2 else none
def gJ (s : Option (List UInt8)) : List bD := if lI s = none then [] else (hU s).1
def slA (k : Nat) (l : List bD) : AV := if l = [] then .sl 0 [] 0 .full else .sl 5 (aL l) l.length (.own k)
def tkA (l : List bD) : List Nat := if l = [] then [] else [l.length]
theorem DM (k : Nat) (l : List bD) : Wk (slA k l) (.sl 5 (aL l) l.length .shut) := by
 unfold slA
 split
 · rename_i h; subst h; exact Wk.nil _ _ _
 · exact Wk.shut _ _ _ _
@[simp] theorem Nc (k : Nat) : slA k [] = .sl 0 [] 0 .full := rfl
@[simp] theorem Nl : tkA [] = [] := rfl
theorem o5 {σ : St} {k : Nat} {l : List bD} (hl : l.length ≤ 1000000) : aE Tryz.prog 70 [slA k l] σ (fun av σ' => av = .v (.bool (decide (bA l))) ∧ σ = σ') :=
 kO (.cons (DM k l) .nil) (tC (by omega))
theorem pR {σ : St} : aE Tryz.prog 70 [.sl 0 [] 0 .full] σ (fun av σ' => av = .v (.bool true) ∧ σ = σ') := by
 have := o5 (σ := σ) (k := 0) (l := []) (by simp)
 have e : decide (bA []) = true := by decide
 rw [e] at this
 exact this
theorem CQ (s : Option (List UInt8)) : AV.v (.int .u8 (be (dN 1 s) : Nat)) :: aM (numOf (z4 (cJ 1 s))) = dX (wE s) := by
 rw [C3]; rfl
theorem Eg (c : bD) : aN Tryz.prog 23 1 [(0, .agg (dX c))] = some (.sl 5 (dX c) 1 .full) := by kernel_rfl
class Small (l : List bD) : Prop where
 h : l.length ≤ 1000
theorem xS {l : List bD} [hsm : Small l] {c : bD} {objs : List (List AV)} {tk : List Nat} {gl : Nat → Option (List AV)} {rows : List fY} :
  dG Tryz.prog 23 (slA tk.length l) (.sl 5 (dX c) 1 .full) ⟨objs, tk ++ tkA l, gl, rows⟩ = some (slA tk.length (l ++ [c]), ⟨objs, tk ++ tkA (l ++ [c]), gl, rows⟩) := by
 have hl := hsm.h
 by_cases h : l = []
 · subst h
   simp [slA, tkA, dG, j7, gH, maxLen, aL]
   rfl
 · have h1 : (l.length + 1) * 40 ≤ 140737488355328 := by omega
   have h2 : l.length + 1 ≤ 9223372036854775807 := by omega
   simp [slA, tkA, h, dG, j7, gH, maxLen, h1, h2, qK]
   rfl
theorem Cw {c : bD} {σ : St} : dG Tryz.prog 23 (.sl 0 [] 0 .full) (.sl 5 (dX c) 1 .full) σ = some (slA σ.toks.length [c], { σ with toks := σ.toks ++ tkA [c] }) := by
 have : Small [] := ⟨by simp⟩
 have := xS (l := []) (c := c) (objs := σ.objs) (tk := σ.toks) (gl := σ.gl) (rows := σ.rows)
 simpa using this
structure CSt where
 m : Nat
 s : Option (List UInt8)
 l : List bD
theorem dW {s : Option (List UInt8)} {L : List bD} {S : Option (List UInt8)} (h : hU s = (L, S)) (h2 : ¬ bA L ∨ S = none) : gJ s = [] ∧ lI s = none := by
 have e : lI s = none := by
  unfold lI
  rw [h]
  rcases h2 with h2 | h2
  · rw [if_neg h2]
  · simp [h2]
 exact ⟨by simp [gJ, e], e⟩
theorem nT {s : Option (List UInt8)} {L : List bD} {S : Option (List UInt8)} (h : hU s = (L, S)) (h1 : bA L) (h2 : ¬ S = none) : gJ s = L ∧ lI s = S := by
 have e : lI s = S := by
  unfold lI
  rw [h, if_pos h1]
 exact ⟨by rw [gJ, e, if_neg h2, h], e⟩
set_option maxHeartbeats 1600000 in
attribute [local simp] dA List.getElem?_cons_zero List.getElem?_cons_succ CQ Eg Cw xS in
theorem xO {σ : St} {id : Nat} {s : Option (List UInt8)} (h : σ.objs[id]? = some (rd s)) :
  aE Tryz.prog 90 [.ptr id 0] σ (fun av σ' => av = .sl 5 (aL (gJ s)) (gJ s).length .shut ∧ σ' = { σ with objs := σ.objs.set id (rd (lI s)) }) := by
 refine sD (Q := fun av σ' => Wk av (.sl 5 (aL (gJ s)) (gJ s).length .shut) ∧ ∃ l m r, σ' = { σ with objs := σ.objs.set id (rd (lI s)) ++ l, toks := σ.toks ++ m, rows := σ.rows ++ r }) ?_ (fun av σ' h => h) (by simp [AV.under]) (xN _ _)
 have hs := cY h
 have hm := zD (j5 1 s)
 have F := And.intro h (And.intro hs (True.intro))
 refine aB Tryz.func90 rfl rfl rfl ?_; refine sr fun _ hJ2 => ?_; apply hJ2; refine u6 0 (X := CSt) [0] (fun q ρ σ1 => (q.m + q.l.length ≤ 255) ∧ (jI q.m q.s q.l = hU s) ∧ (ρ 4 = .v (.int .u8 q.m)) ∧ (ρ 3 = slA σ.toks.length q.l) ∧ (σ1 = { σ with objs := σ.objs.set id (rd q.s), toks := σ.toks ++ tkA q.l })) (fun q => q.m) rfl ?first ?pass
 case first =>
  refine sr fun _ hJ4 => ?_; apply hJ4; refine sr fun _ hJ6 => ?_
  refine ca (c := nV (by first | exact h | exact hs _)) (k := ?_)
  rintro _ _ ⟨rfl, rfl⟩; (try simp [F]); apply hJ6; refine sq fun K7 hK7 => ?_; refine FV ?_; apply hK7; refine sq fun K8 hK8 => ?_; refine sr fun _ hJ10 => ?_; refine gs 10 (fun g3_2 => ?_) (fun g3_2 => ?_)
  · (try exact aK g3_2); all_goals have g3_2p := g3_2; try simp [F] at g3_2p
    all_goals
     replace F := aF g3_2 F; (try replace F := aF g3_2p F); refine go2 (k := ?_); refine ca (c := lH (hs _)) (k := ?_); rintro _ _ ⟨rfl, rfl⟩; (try simp [F]); refine go2 (k := ?_); apply hJ10; refine cs (fun c14 => ?_) (fun c14 => ?_)
     · (try exact aK c14); all_goals have c14p := c14; try simp [F] at c14p
       all_goals
        replace F := aF c14 F; (try replace F := aF c14p F); refine sr fun _ hJ12 => ?_
        refine ca (c := nV (by first | exact h | exact hs _)) (k := ?_)
        rintro _ _ ⟨rfl, rfl⟩; (try simp [F]); apply hJ12; refine sq fun K13 hK13 => ?_; (try have : Small q.l := ⟨by omega⟩); refine rg' (h := fun J14 hJ14 => ?_); refine ca (c := Em (hs _)) (k := ?_); rintro _ _ ⟨rfl, rfl⟩; (try simp [F]); apply hJ14; apply hK13; refine sr fun _ hJ16 => ?_; apply hJ16; refine C4 ?_; refine ⟨rfl, (⟨be (dN 1 s) - 1, uN (cJ 1 (cJ 1 s)), [wE (cJ 1 s)]⟩), ⟨kp, lp, ?_, lp, lp, lp⟩⟩
        · exact (tW (l := []) g3_2p (by intro e; simp [e] at c14p)).symm
     (try exact aK c14); all_goals have c14p := c14; try simp [F] at c14p
     all_goals
      replace F := aF c14 F; (try replace F := aF c14p F); refine aA ?_; apply hK8; refine sq fun K17 hK17 => ?_; refine sr fun _ hJ19 => ?_
      refine ca (c := (by first | exact pR | exact o5 (by omega))) (k := ?_)
      rintro _ _ ⟨rfl, rfl⟩; (try simp [F]); apply hJ19; refine cs (fun c28 => ?_) (fun c28 => ?_)
      · (try exact aK c28); all_goals have c28p := c28; try simp [F] at c28p
        all_goals
         replace F := aF c28 F; (try replace F := aF c28p F); refine rg' (h := fun J20 hJ20 => ?_); refine ca (c := nW (hs _)) (k := ?_); rintro _ _ ⟨rfl, rfl⟩; (try simp [F]); apply hJ20; apply hK17; refine sq fun K21 hK21 => ?_; refine sr fun _ hJ23 => ?_; refine ca (c := lH (hs _)) (k := ?_); rintro _ _ ⟨rfl, rfl⟩; (try simp [F]); apply hJ23; refine cs (fun c32 => ?_) (fun c32 => ?_)
         · (try exact aK c32); all_goals have c32p := c32; try simp [F] at c32p
           all_goals
            replace F := aF c32 F; (try replace F := aF c32p F); refine sr fun _ hJ25 => ?_; apply hJ25; refine ra ?_
            have e : hU s = (q.l, q.s) := by rw [← hg]; exact dB (by first | (left; simp at g3_2; omega) | (right; simpa using c14))
            obtain ⟨e1, e2⟩ := dW e (.inl (by simpa using c28))
            rw [e1, e2]
            exact ⟨Wk.nil _ _ _, [], tkA q.l, [], by simp⟩
         (try exact aK c32); all_goals have c32p := c32; try simp [F] at c32p
         all_goals
          replace F := aF c32 F; (try replace F := aF c32p F); refine aA ?_; apply hK21; refine sr fun _ hJ27 => ?_; apply hJ27; refine ra ?_
          have e : hU s = (q.l, q.s) := by rw [← hg]; exact dB (by first | (left; simp at g3_2; omega) | (right; simpa using c14))
          obtain ⟨e1, e2⟩ := dW e (.inl (by simpa using c28))
          rw [e1, e2]
          exact ⟨Wk.nil _ _ _, [], tkA q.l, [], by simp⟩
      (try exact aK c28); all_goals have c28p := c28; try simp [F] at c28p
      all_goals
       replace F := aF c28 F; (try replace F := aF c28p F); refine aA ?_; apply hK17; refine sq fun K28 hK28 => ?_; refine sr fun _ hJ30 => ?_; refine ca (c := lH (hs _)) (k := ?_); rintro _ _ ⟨rfl, rfl⟩; (try simp [F]); apply hJ30; refine cs (fun c32 => ?_) (fun c32 => ?_)
       · (try exact aK c32); all_goals have c32p := c32; try simp [F] at c32p
         all_goals
          replace F := aF c32 F; (try replace F := aF c32p F); refine sr fun _ hJ32 => ?_; apply hJ32; refine ra ?_
          first | (obtain ⟨e1, e2⟩ := dW (L := q.l) (S := q.s) (by rw [← hg]; exact dB (.inr (by simpa using c14))) (.inr (by simpa using c14)); rw [e1, e2]; exact ⟨Wk.nil _ _ _, [], tkA q.l, [], by simp⟩) | (have h0 : cJ 1 s = none := (by simpa using c14); obtain ⟨e1, e2⟩ := dW (by rw [hU, dB (.inr h0)]) (.inr h0); rw [e1, e2]; exact ⟨Wk.nil _ _ _, [], [], [], by simp⟩)
       (try exact aK c32); all_goals have c32p := c32; try simp [F] at c32p
       all_goals
        replace F := aF c32 F; (try replace F := aF c32p F); refine aA ?_; apply hK28; refine sr fun _ hJ34 => ?_; apply hJ34; refine ra ?_
        first | (obtain ⟨e1, e2⟩ := dW (L := q.l) (S := q.s) (by rw [← hg]; exact dB (.inr (by simpa using c14))) (.inr (by simpa using c14)); rw [e1, e2]; exact ⟨Wk.nil _ _ _, [], tkA q.l, [], by simp⟩) | (have h0 : cJ 1 s = none := (by simpa using c14); obtain ⟨e1, e2⟩ := dW (by rw [hU, dB (.inr h0)]) (.inr h0); rw [e1, e2]; exact ⟨Wk.nil _ _ _, [], [], [], by simp⟩)
  (try exact aK g3_2); all_goals have g3_2p := g3_2; try simp [F] at g3_2p
  all_goals
   replace F := aF g3_2 F; (try replace F := aF g3_2p F); (iterate 3 refine no2 (k := ?_)); apply hJ10; refine cf ?_; refine aA ?_; apply hK8; refine sq fun K35 hK35 => ?_; refine sr fun _ hJ37 => ?_
   refine ca (c := (by first | exact pR | exact o5 (by omega))) (k := ?_)
   rintro _ _ ⟨rfl, rfl⟩; (try simp [F]); apply hJ37; refine cs (fun c28 => ?_) (fun c28 => ?_)
   · (try exact aK c28); all_goals have c28p := c28; try simp [F] at c28p
     all_goals
      replace F := aF c28 F; (try replace F := aF c28p F); refine rg' (h := fun J38 hJ38 => ?_); refine ca (c := nW (hs _)) (k := ?_); rintro _ _ ⟨rfl, rfl⟩; (try simp [F]); apply hJ38; apply hK35; refine sq fun K39 hK39 => ?_; refine sr fun _ hJ41 => ?_; refine ca (c := lH (hs _)) (k := ?_); rintro _ _ ⟨rfl, rfl⟩; (try simp [F]); apply hJ41; refine cs (fun c32 => ?_) (fun c32 => ?_)
      · (try exact aK c32); all_goals have c32p := c32; try simp [F] at c32p
        all_goals
         replace F := aF c32 F; (try replace F := aF c32p F); refine sr fun _ hJ43 => ?_; apply hJ43; refine ra ?_
         have e : hU s = (q.l, q.s) := by rw [← hg]; exact dB (by first | (left; simp at g3_2; omega) | (right; simpa using c14))
         obtain ⟨e1, e2⟩ := dW e (.inl (by simpa using c28))
         rw [e1, e2]
         exact ⟨Wk.nil _ _ _, [], tkA q.l, [], by simp⟩
      (try exact aK c32); all_goals have c32p := c32; try simp [F] at c32p
      all_goals
       replace F := aF c32 F; (try replace F := aF c32p F); refine aA ?_; apply hK39; refine sr fun _ hJ45 => ?_; apply hJ45; refine ra ?_
       have e : hU s = (q.l, q.s) := by rw [← hg]; exact dB (by first | (left; simp at g3_2; omega) | (right; simpa using c14))
       obtain ⟨e1, e2⟩ := dW e (.inl (by simpa using c28))
       rw [e1, e2]
       exact ⟨Wk.nil _ _ _, [], tkA q.l, [], by simp⟩
   (try exact aK c28); all_goals have c28p := c28; try simp [F] at c28p
   all_goals
    replace F := aF c28 F; (try replace F := aF c28p F); refine aA ?_; apply hK35; refine sq fun K46 hK46 => ?_; refine sr fun _ hJ48 => ?_; refine ca (c := lH (hs _)) (k := ?_); rintro _ _ ⟨rfl, rfl⟩; (try simp [F]); apply hJ48; refine cs (fun c32 => ?_) (fun c32 => ?_)
    · (try exact aK c32); all_goals have c32p := c32; try simp [F] at c32p
      all_goals
       replace F := aF c32 F; (try replace F := aF c32p F); refine sr fun _ hJ50 => ?_; apply hJ50; refine ra ?_
       first | (obtain ⟨e1, e2⟩ := dW (L := q.l) (S := q.s) (by rw [← hg]; exact dB (.inr (by simpa using c32))) (.inr (by simpa using c32)); rw [e1, e2]; exact ⟨Wk.nil _ _ _, [], tkA q.l, [], by simp⟩) | (have h0 : cJ 1 s = none := (by simpa using c32); obtain ⟨e1, e2⟩ := dW (by rw [hU, dB (.inr h0)]) (.inr h0); rw [e1, e2]; exact ⟨Wk.nil _ _ _, [], [], [], by simp⟩)
    (try exact aK c32); all_goals have c32p := c32; try simp [F] at c32p
    all_goals
     replace F := aF c32 F; (try replace F := aF c32p F); refine aA ?_; apply hK46; refine sr fun _ hJ52 => ?_; apply hJ52; refine ra ?_
     first | (obtain ⟨e1, e2⟩ := nT (L := q.l) (S := q.s) (by rw [← hg]; exact dB (.inl (by simp at g3_2; omega))) (by simpa using c28) (by intro e; simp [e] at c32); rw [e1, e2]; exact ⟨DM _ _, [], tkA q.l, [], by simp⟩) | (have h0 : be (dN 1 s) = 0 := (by simp at g3_2; omega); obtain ⟨e1, e2⟩ := nT (by rw [hU, dB (.inl h0)]) (by decide) (by intro e; simp [e] at c32); rw [e1, e2]; exact ⟨Wk.nil _ _ _, [], [], [], by simp⟩)
 case pass =>
  rintro q ρgoto σ1 hFgoto ⟨hm, hg, h4, h3, hσ⟩; obtain rfl := hσ.symm
  have fgoto := dU hFgoto
  (try simp [dT, F] at fgoto); replace F := aF h4 F; replace F := aF h3 F; (try replace F := aF fgoto F); refine sq fun K53 hK53 => ?_; refine aA ?_; apply hK53; refine sq fun K54 hK54 => ?_; refine sr fun _ hJ56 => ?_; refine gs 10 (fun g3_2 => ?_) (fun g3_2 => ?_)
  · (try exact aK g3_2); all_goals have g3_2p := g3_2; try simp [F] at g3_2p
    all_goals
     replace F := aF g3_2 F; (try replace F := aF g3_2p F); refine go2 (k := ?_); refine ca (c := lH (hs _)) (k := ?_); rintro _ _ ⟨rfl, rfl⟩; (try simp [F]); refine go2 (k := ?_); apply hJ56; refine cs (fun c14 => ?_) (fun c14 => ?_)
     · (try exact aK c14); all_goals have c14p := c14; try simp [F] at c14p
       all_goals
        replace F := aF c14 F; (try replace F := aF c14p F); refine sr fun _ hJ58 => ?_
        refine ca (c := nV (by first | exact h | exact hs _)) (k := ?_)
        rintro _ _ ⟨rfl, rfl⟩; (try simp [F]); apply hJ58; refine sq fun K59 hK59 => ?_; (try have : Small q.l := ⟨by omega⟩); refine rg' (h := fun J60 hJ60 => ?_); refine ca (c := Em (hs _)) (k := ?_); rintro _ _ ⟨rfl, rfl⟩; (try simp [F]); apply hJ60; apply hK59; refine sr fun _ hJ62 => ?_; apply hJ62; refine C4 ?_; refine ⟨rfl, (⟨q.m - 1, uN (cJ 1 q.s), q.l ++ [wE q.s]⟩), ⟨kp, ?_, ?_, lp, lp, ?_⟩, ?_⟩
        · simp
          omega
        · rw [← hg]
          exact (tW g3_2p (by intro e; simp [e] at c14p)).symm
        · rfl
        · simp
          omega
     (try exact aK c14); all_goals have c14p := c14; try simp [F] at c14p
     all_goals
      replace F := aF c14 F; (try replace F := aF c14p F); refine aA ?_; apply hK54; refine sq fun K63 hK63 => ?_; refine sr fun _ hJ65 => ?_
      refine ca (c := (by first | exact pR | exact o5 (by omega))) (k := ?_)
      rintro _ _ ⟨rfl, rfl⟩; (try simp [F]); apply hJ65; refine cs (fun c28 => ?_) (fun c28 => ?_)
      · (try exact aK c28); all_goals have c28p := c28; try simp [F] at c28p
        all_goals
         replace F := aF c28 F; (try replace F := aF c28p F); refine rg' (h := fun J66 hJ66 => ?_); refine ca (c := nW (hs _)) (k := ?_); rintro _ _ ⟨rfl, rfl⟩; (try simp [F]); apply hJ66; apply hK63; refine sq fun K67 hK67 => ?_; refine sr fun _ hJ69 => ?_; refine ca (c := lH (hs _)) (k := ?_); rintro _ _ ⟨rfl, rfl⟩; (try simp [F]); apply hJ69; refine cs (fun c32 => ?_) (fun c32 => ?_)
         · (try exact aK c32); all_goals have c32p := c32; try simp [F] at c32p
           all_goals
            replace F := aF c32 F; (try replace F := aF c32p F); refine sr fun _ hJ71 => ?_; apply hJ71; refine ra ?_
            have e : hU s = (q.l, q.s) := by rw [← hg]; exact dB (by first | (left; simp at g3_2; omega) | (right; simpa using c14))
            obtain ⟨e1, e2⟩ := dW e (.inl (by simpa using c28))
            rw [e1, e2]
            exact ⟨Wk.nil _ _ _, [], tkA q.l, [], by simp⟩
         (try exact aK c32); all_goals have c32p := c32; try simp [F] at c32p
         all_goals
          replace F := aF c32 F; (try replace F := aF c32p F); refine aA ?_; apply hK67; refine sr fun _ hJ73 => ?_; apply hJ73; refine ra ?_
          have e : hU s = (q.l, q.s) := by rw [← hg]; exact dB (by first | (left; simp at g3_2; omega) | (right; simpa using c14))
          obtain ⟨e1, e2⟩ := dW e (.inl (by simpa using c28))
          rw [e1, e2]
          exact ⟨Wk.nil _ _ _, [], tkA q.l, [], by simp⟩
      (try exact aK c28); all_goals have c28p := c28; try simp [F] at c28p
      all_goals
       replace F := aF c28 F; (try replace F := aF c28p F); refine aA ?_; apply hK63; refine sq fun K74 hK74 => ?_; refine sr fun _ hJ76 => ?_; refine ca (c := lH (hs _)) (k := ?_); rintro _ _ ⟨rfl, rfl⟩; (try simp [F]); apply hJ76; refine cs (fun c32 => ?_) (fun c32 => ?_)
       · (try exact aK c32); all_goals have c32p := c32; try simp [F] at c32p
         all_goals
          replace F := aF c32 F; (try replace F := aF c32p F); refine sr fun _ hJ78 => ?_; apply hJ78; refine ra ?_
          first | (obtain ⟨e1, e2⟩ := dW (L := q.l) (S := q.s) (by rw [← hg]; exact dB (.inr (by simpa using c14))) (.inr (by simpa using c14)); rw [e1, e2]; exact ⟨Wk.nil _ _ _, [], tkA q.l, [], by simp⟩) | (have h0 : cJ 1 s = none := (by simpa using c14); obtain ⟨e1, e2⟩ := dW (by rw [hU, dB (.inr h0)]) (.inr h0); rw [e1, e2]; exact ⟨Wk.nil _ _ _, [], [], [], by simp⟩)
       (try exact aK c32); all_goals have c32p := c32; try simp [F] at c32p
       all_goals
        replace F := aF c32 F; (try replace F := aF c32p F); refine aA ?_; apply hK74; refine sr fun _ hJ80 => ?_; apply hJ80; refine ra ?_
        first | (obtain ⟨e1, e2⟩ := dW (L := q.l) (S := q.s) (by rw [← hg]; exact dB (.inr (by simpa using c14))) (.inr (by simpa using c14)); rw [e1, e2]; exact ⟨Wk.nil _ _ _, [], tkA q.l, [], by simp⟩) | (have h0 : cJ 1 s = none := (by simpa using c14); obtain ⟨e1, e2⟩ := dW (by rw [hU, dB (.inr h0)]) (.inr h0); rw [e1, e2]; exact ⟨Wk.nil _ _ _, [], [], [], by simp⟩)
  (try exact aK g3_2); all_goals have g3_2p := g3_2; try simp [F] at g3_2p
  all_goals
   replace F := aF g3_2 F; (try replace F := aF g3_2p F); (iterate 3 refine no2 (k := ?_)); apply hJ56; refine cf ?_; refine aA ?_; apply hK54; refine sq fun K81 hK81 => ?_; refine sr fun _ hJ83 => ?_
   refine ca (c := (by first | exact pR | exact o5 (by omega))) (k := ?_)
   rintro _ _ ⟨rfl, rfl⟩; (try simp [F]); apply hJ83; refine cs (fun c28 => ?_) (fun c28 => ?_)
   · (try exact aK c28); all_goals have c28p := c28; try simp [F] at c28p
     all_goals
      replace F := aF c28 F; (try replace F := aF c28p F); refine rg' (h := fun J84 hJ84 => ?_); refine ca (c := nW (hs _)) (k := ?_); rintro _ _ ⟨rfl, rfl⟩; (try simp [F]); apply hJ84; apply hK81; refine sq fun K85 hK85 => ?_; refine sr fun _ hJ87 => ?_; refine ca (c := lH (hs _)) (k := ?_); rintro _ _ ⟨rfl, rfl⟩; (try simp [F]); apply hJ87; refine cs (fun c32 => ?_) (fun c32 => ?_)
      · (try exact aK c32); all_goals have c32p := c32; try simp [F] at c32p
        all_goals
         replace F := aF c32 F; (try replace F := aF c32p F); refine sr fun _ hJ89 => ?_; apply hJ89; refine ra ?_
         have e : hU s = (q.l, q.s) := by rw [← hg]; exact dB (by first | (left; simp at g3_2; omega) | (right; simpa using c14))
         obtain ⟨e1, e2⟩ := dW e (.inl (by simpa using c28))
         rw [e1, e2]
         exact ⟨Wk.nil _ _ _, [], tkA q.l, [], by simp⟩
      (try exact aK c32); all_goals have c32p := c32; try simp [F] at c32p
      all_goals
       replace F := aF c32 F; (try replace F := aF c32p F); refine aA ?_; apply hK85; refine sr fun _ hJ91 => ?_; apply hJ91; refine ra ?_
       have e : hU s = (q.l, q.s) := by rw [← hg]; exact dB (by first | (left; simp at g3_2; omega) | (right; simpa using c14))
       obtain ⟨e1, e2⟩ := dW e (.inl (by simpa using c28))
       rw [e1, e2]
       exact ⟨Wk.nil _ _ _, [], tkA q.l, [], by simp⟩
   (try exact aK c28); all_goals have c28p := c28; try simp [F] at c28p
   all_goals
    replace F := aF c28 F; (try replace F := aF c28p F); refine aA ?_; apply hK81; refine sq fun K92 hK92 => ?_; refine sr fun _ hJ94 => ?_; refine ca (c := lH (hs _)) (k := ?_); rintro _ _ ⟨rfl, rfl⟩; (try simp [F]); apply hJ94; refine cs (fun c32 => ?_) (fun c32 => ?_)
    · (try exact aK c32); all_goals have c32p := c32; try simp [F] at c32p
      all_goals
       replace F := aF c32 F; (try replace F := aF c32p F); refine sr fun _ hJ96 => ?_; apply hJ96; refine ra ?_
       first | (obtain ⟨e1, e2⟩ := dW (L := q.l) (S := q.s) (by rw [← hg]; exact dB (.inr (by simpa using c32))) (.inr (by simpa using c32)); rw [e1, e2]; exact ⟨Wk.nil _ _ _, [], tkA q.l, [], by simp⟩) | (have h0 : cJ 1 s = none := (by simpa using c32); obtain ⟨e1, e2⟩ := dW (by rw [hU, dB (.inr h0)]) (.inr h0); rw [e1, e2]; exact ⟨Wk.nil _ _ _, [], [], [], by simp⟩)
    (try exact aK c32); all_goals have c32p := c32; try simp [F] at c32p
    all_goals
     replace F := aF c32 F; (try replace F := aF c32p F); refine aA ?_; apply hK92; refine sr fun _ hJ98 => ?_; apply hJ98; refine ra ?_
     first | (obtain ⟨e1, e2⟩ := nT (L := q.l) (S := q.s) (by rw [← hg]; exact dB (.inl (by simp at g3_2; omega))) (by simpa using c28) (by intro e; simp [e] at c32); rw [e1, e2]; exact ⟨DM _ _, [], tkA q.l, [], by simp⟩) | (have h0 : be (dN 1 s) = 0 := (by simp at g3_2; omega); obtain ⟨e1, e2⟩ := nT (by rw [hU, dB (.inl h0)]) (by decide) (by intro e; simp [e] at c32); rw [e1, e2]; exact ⟨Wk.nil _ _ _, [], [], [], by simp⟩)
theorem wF : ∀ (m : Nat) (s : Option (List UInt8)) (l : List bD), (jI m s l).1.length ≤ m + l.length
 | 0, _, _ => by simp [jI]
 | m + 1, none, l => by simp [jI]
 | m + 1, some p, l => by
   have := wF m (uN (cJ 1 (some p))) (l ++ [wE (some p)])
   simp only [jI, List.length_append, List.length_cons, List.length_nil] at this ⊢
   omega
theorem An (s : Option (List UInt8)) : (gJ s).length ≤ 255 := by
 unfold gJ
 split
 · simp
 · have := wF (be (dN 1 s)) (cJ 1 s) []
   have hm := zD (j5 1 s)
   simp only [List.length_nil] at this
   unfold hU
   omega
end Go.Proofs.YtjpnjhlfieklfaaGreat
namespace Go.Proofs.YtjpnjhlfieklfaaGreat
open Go Go.Vm
theorem Gq (b : UInt8) (p : List UInt8) : preB [] (b :: p) = false := by simp [preB]
theorem Ak (a b : UInt8) (l m : List UInt8) : preB (a :: l) (b :: m) = (decide (a = b) && preB l m) := by
 rw [Bool.eq_iff_iff]
 simp only [preB, List.length_cons, List.take_succ_cons, List.cons.injEq, Bool.and_eq_true, decide_eq_true_eq]
 constructor
 · rintro ⟨h1, h2, h3⟩; exact ⟨h2, by omega, h3⟩
 · rintro ⟨h1, h2, h3⟩; exact ⟨by omega, h1, h3⟩
theorem E5 : ∀ {a p : List UInt8}, ltB a p = true → preB a p = false
 | a, [], h => by rw [xI] at h; cases h
 | [], b :: p, _ => Gq b p
 | x :: a, y :: p, h => by
   rw [Ak]
   by_cases e : x = y
   · rw [ltB, if_pos e] at h; simp [E5 h]
   · simp [e]
theorem E2 : ∀ {p a b : List UInt8}, ltB a p = false → preB a p = false → ltB a b = true → preB b p = false
 | [], a, b, _, h, _ => by rw [Hn] at h; cases h
 | y :: p, a, [], _, _, h => by rw [xI] at h; cases h
 | y :: p, [], z :: b, h, _, _ => by cases h
 | y :: p, x :: a, z :: b, h1, h2, h3 => by
   rw [Ak] at h2 ⊢
   rw [ltB] at h1 h3
   by_cases e : z = y
   · subst e
     by_cases e2 : x = z
     · rw [if_pos e2] at h1 h3; simp [e2] at h2; simp [E2 h1 h2 h3]
     · rw [if_neg e2] at h1 h3; simp at h1 h3; omega
   · simp [e]
theorem A7 {p : List UInt8} : ∀ {l : List Pr}, Srt l → (∀ x ∈ l, ltB x.k p = false) → (l.takeWhile fun x => preB x.k p) = l.filter fun x => preB x.k p
 | [], _, _ => rfl
 | a :: l, h, hg => by
   have l1 := List.pairwise_cons.1 h
   have ih := A7 l1.2 (fun x hx => hg x (by simp [hx]))
   rw [List.takeWhile_cons, List.filter_cons]
   cases hp : preB a.k p with
   | true => simp [ih]
   | false =>
     simp only [Bool.false_eq_true, if_false]
     symm
     rw [List.filter_eq_nil_iff]
     intro x hx
     rw [E2 (hg a (by simp)) hp (l1.1 x hx)]
     simp
theorem tX {p : List UInt8} : ∀ {l : List Pr}, Srt l → xM l p = (l.filter fun x => preB x.k p).map (·.k)
 | [], _ => rfl
 | a :: l, h => by
   have l1 := List.pairwise_cons.1 h
   cases ha : ltB a.k p with
   | true =>
     have ih := tX (p := p) l1.2
     have hf : fT (a :: l) p = fT l p + 1 := by simp [fT, ha]
     unfold xM at ih ⊢
     rw [hf, List.drop_succ_cons, ih, List.filter_cons, E5 ha]
     simp
   | false =>
     have hf : fT (a :: l) p = 0 := by simp [fT, ha]
     unfold xM
     rw [hf, List.drop_zero, A7 h ?_]
     intro x hx
     rcases List.mem_cons.1 hx with rfl | hx
     · exact ha
     · cases hx2 : ltB x.k p with
       | false => rfl
       | true => have := jN (l1.1 x hx) hx2; rw [ha] at this; cases this
theorem JW {K : List (List UInt8)} {i : Nat} (h : i < K.length) (h2 : i < (mF K).length) : (mF K)[i]'h2 = .sl 1 (aY K[i]) K[i].length .shut := (List.getElem?_eq_some_iff.1 (I4 h)).2
def pl (L : List Pr) (p : List UInt8) : List Pr := L.filter fun x => preB x.k p
theorem Bh {L : List Pr} {p : List UInt8} (h : Srt L) : Srt (pl L p) := List.Pairwise.filter _ h
theorem n9 (a : Pr) (l : List Pr) (k : List UInt8) (o : Option (List UInt8)) : iA (a :: l) k o = if a.k = k then (match o with | some v => ⟨k, v⟩ :: l | none => l) else if ltB k a.k then (match o with | some v => ⟨k, v⟩ :: a :: l | none => a :: l) else a :: iA l k o := by cases o <;> rfl
theorem DJ {k : List UInt8} {o : Option (List UInt8)} {l : List Pr} (h : ∀ q ∈ l, ltB k q.k = true) : iA l k o = match o with | some v => ⟨k, v⟩ :: l | none => l := by
 cases l with
 | nil => cases o <;> rfl
 | cons a l =>
   have h0 := h a (by simp)
   rw [n9, if_neg (fun e => vQ h0 e.symm), if_pos h0]
theorem KA {p k : List UInt8} {o : Option (List UInt8)} (hk : preB k p = true) : ∀ {L : List Pr}, Srt L → pl (iA L k o) p = iA (pl L p) k o
 | [], _ => by cases o <;> simp [pl, iA, hk]
 | a :: L, h => by
   have l1 := List.pairwise_cons.1 h
   have ih := KA (o := o) hk l1.2
   have hf : pl (a :: L) p = if preB a.k p then a :: pl L p else pl L p := by simp only [pl, List.filter_cons]
   by_cases e : a.k = k
   · have ha : preB a.k p = true := by rw [e]; exact hk
     rw [hf, if_pos ha, n9, if_pos e, n9, if_pos e]
     cases o with
     | none => rfl
     | some v => simp only [pl, List.filter_cons, hk, if_true]
   · by_cases e2 : ltB k a.k = true
     · have hall : ∀ q ∈ pl (a :: L) p, ltB k q.k = true := fun q hq => by
        rcases List.mem_cons.1 (List.mem_filter.1 hq).1 with rfl | h2
        · exact e2
        · exact jN e2 (l1.1 q h2)
       rw [DJ hall, n9, if_neg e, if_pos e2]
       cases o with
       | none => rfl
       | some v => simp only [pl, List.filter_cons, hk, if_true]
     · rw [n9, if_neg e, if_neg e2, hf]
       have hf2 : pl (a :: iA L k o) p = if preB a.k p then a :: pl (iA L k o) p else pl (iA L k o) p := by simp only [pl, List.filter_cons]
       rw [hf2, ih]
       split
       · rw [n9, if_neg e, if_neg e2]
       · rfl
theorem DK {p k : List UInt8} {o : Option (List UInt8)} (hk : preB k p = false) : ∀ {L : List Pr}, pl (iA L k o) p = pl L p
 | [] => by cases o <;> simp [pl, iA, hk]
 | a :: L => by
   have ih := DK (o := o) hk (L := L)
   by_cases e : a.k = k
   · have ha : preB a.k p = false := by rw [e]; exact hk
     rw [n9, if_pos e]
     cases o with
     | none => simp [pl, ha]
     | some v => simp [pl, ha, hk]
   · by_cases e2 : ltB k a.k = true
     · rw [n9, if_neg e, if_pos e2]
       cases o with
       | none => rfl
       | some v => simp [pl, hk]
     · rw [n9, if_neg e, if_neg e2]
       simp only [pl, List.filter_cons] at ih ⊢
       rw [ih]
theorem nQ {p k : List UInt8} (hk : preB k p = true) : ∀ {L : List Pr}, fN (pl L p) k = fN L k
 | [] => rfl
 | a :: L => by
   have ih := nQ hk (L := L)
   simp only [pl, List.filter_cons] at ih ⊢
   by_cases e : a.k = k
   · rw [if_pos (by rw [e]; exact hk), fN, fN, if_pos e, if_pos e]
   · split
     · rw [fN, fN, if_neg e, if_neg e, ih]
     · rw [fN, if_neg e, ih]
theorem vV {E q : List UInt8} {n : Nat} (h : E.length = n) : cJ n (some (E ++ q)) = some q ∧ dN n (some (E ++ q)) = E := by
 subst h
 simp [cJ, dN]
theorem mD (b : UInt8) (q : List UInt8) : cJ 1 (some (b :: q)) = some q ∧ dN 1 (some (b :: q)) = [b] := vV (E := [b]) rfl
theorem v3 (x : Nat) : be (aO x) = x := by
 induction x using Nat.strongRecOn with
 | _ x ih =>
   by_cases h : x = 0
   · subst h; simp [gP, be]
   · rw [lC (by omega), BN, ih (x / 256) (by omega), toNat_ofNat (by omega)]
     omega
theorem zY (x : Nat) : (aO x).headD 1 ≠ 0 := by
 induction x using Nat.strongRecOn with
 | _ x ih =>
   by_cases h : x = 0
   · subst h; simp [gP]
   · rw [lC (by omega)]
     by_cases h2 : x / 256 = 0
     · rw [h2, gP]
       simp only [List.nil_append, List.headD_cons]
       intro e
       have := congrArg UInt8.toNat e
       rw [toNat_ofNat (by omega)] at this
       simp at this; omega
     · have h3 := ih (x / 256) (by omega)
       cases h4 : aO (x / 256) with
       | nil => exact absurd (uP.1 h4) h2
       | cons b l => rw [h4] at h3; simpa using h3
theorem mC {x : Nat} (hx : x < 2 ^ 256) : (aO x).length ≤ 32 := pW x 32 (by simpa using hx)
theorem B8 {x : Nat} (hx : x < 2 ^ 256) : (kZ x).length ≤ 33 := by have := mC hx; simp [kZ]; omega
theorem wO {x : Nat} (hx : x < 2 ^ 256) : m8 (aO x) = true := by
 have h1 := mC hx
 have h2 := zY x
 simp only [m8, Bool.and_eq_true, decide_eq_true_eq, bne_iff_ne]
 exact ⟨h1, h2⟩
theorem EL {x : Nat} (hx : x < 2 ^ 256) (q : List UInt8) : uN (some (kZ x ++ q)) = some q ∧ numOf (z4 (some (kZ x ++ q))) = x := by
 have hle := mC hx
 obtain ⟨h1, h2⟩ := mD (UInt8.ofNat (aO x).length) (aO x ++ q)
 have h3 : be [UInt8.ofNat (aO x).length] = (aO x).length := by
  have : (UInt8.ofNat (aO x).length).toNat = (aO x).length := toNat_ofNat (by omega)
  simp only [be, List.foldl_cons, List.foldl_nil]
  omega
 obtain ⟨h4, h5⟩ := vV (E := aO x) (q := q) rfl
 have hb : z4 (some (kZ x ++ q)) = aO x := by
  show dN (be (dN 1 (some (UInt8.ofNat (aO x).length :: (aO x ++ q))))) (cJ 1 (some (UInt8.ofNat (aO x).length :: (aO x ++ q)))) = _
  rw [h1, h2, h3, h5]
 have hok := wO hx
 refine ⟨?_, by rw [hb, numOf, hok]; simpa using v3 x⟩
 unfold uN
 rw [hb, hok]
 show (if true = true then cJ (be (dN 1 (some (UInt8.ofNat (aO x).length :: (aO x ++ q))))) (cJ 1 (some (UInt8.ofNat (aO x).length :: (aO x ++ q)))) else none) = _
 rw [h1, h2, h3, h4]
 rfl
theorem KP {σ : St} {id : Nat} {b : UInt8} {q : List UInt8} (h : σ.objs[id]? = some (rd (some (b :: q)))) :
  aE Tryz.prog 58 [.ptr id 0] σ (fun av σ' => av = .v (.int .u8 b.toNat) ∧ σ' = { σ with objs := σ.objs.set id (rd (some q)) }) :=
 cS (nV h) (fun av σ' ⟨e1, e2⟩ => by
  rw [(mD b q).2] at e1; rw [(mD b q).1] at e2
  exact ⟨by rw [e1]; simp [be], e2⟩)
theorem Ig (c : bD) (q : List UInt8) : uN (cJ 1 (some (Bz c ++ q))) = some q ∧ wE (some (Bz c ++ q)) = c := by
 obtain ⟨h1, h2⟩ := mD c.d (kZ c.n.v ++ q)
 obtain ⟨h3, h4⟩ := EL c.n.h q
 have e : Bz c ++ q = c.d :: (kZ c.n.v ++ q) := by simp [Bz]
 rw [e, h1]
 refine ⟨h3, ?_⟩
 unfold wE
 rw [h1]
 refine bD.ext ?_ (Num.ext h4)
 show yY (some (c.d :: (kZ c.n.v ++ q))) = c.d
 unfold yY
 rw [h2]; rfl
theorem qT : ∀ (L : List bD) (q : List UInt8) (l : List bD), jI L.length (some (iY L ++ q)) l = (l ++ L, some q)
 | [], q, l => by simp [jI, iY]
 | c :: L, q, l => by
   have e : iY (c :: L) ++ q = Bz c ++ (iY L ++ q) := by simp [iY]
   obtain ⟨h1, h2⟩ := Ig c (iY L ++ q)
   rw [e]
   simp only [List.length_cons, jI]
   rw [h1, h2, qT L q]
   simp
theorem CK {L : List bD} (hL : L.length ≤ 255) : be [UInt8.ofNat L.length] = L.length := by
 have : (UInt8.ofNat L.length).toNat = L.length := toNat_ofNat (by omega)
 simp only [be, List.foldl_cons, List.foldl_nil]
 omega
theorem uX {L : List bD} (hL : L.length ≤ 255) (hR : bA L) (q : List UInt8) : lI (some (kY L ++ q)) = some q := by
 obtain ⟨h1, h2⟩ := mD (UInt8.ofNat L.length) (iY L ++ q)
 have e : hU (some (kY L ++ q)) = (L, some q) := by
  show jI (be (dN 1 (some (UInt8.ofNat L.length :: (iY L ++ q))))) (cJ 1 (some (UInt8.ofNat L.length :: (iY L ++ q)))) [] = _
  rw [h1, h2, CK hL, qT]; simp
 unfold lI
 rw [e, if_pos hR]
theorem zB {L : List bD} (hL : L.length ≤ 255) (hR : bA L) (q : List UInt8) : gJ (some (kY L ++ q)) = L := by
 obtain ⟨h1, h2⟩ := mD (UInt8.ofNat L.length) (iY L ++ q)
 have e : hU (some (kY L ++ q)) = (L, some q) := by
  show jI (be (dN 1 (some (UInt8.ofNat L.length :: (iY L ++ q))))) (cJ 1 (some (UInt8.ofNat L.length :: (iY L ++ q)))) [] = _
  rw [h1, h2, CK hL, qT]; simp
 unfold gJ
 rw [uX hL hR, if_neg (by simp), e]
end Go.Proofs.YtjpnjhlfieklfaaGreat
namespace Go.Proofs.YtjpnjhlfieklfaaGreat
open Go Go.Vm
attribute [local simp] dM aI dJ opA bH bN cM bP ofValue dC plain aQ aR cA b8 cC cB bY b7 b9 bZ cV bW cG cD b6 bU aT aS bO cU aW dQ dR bK aZ cL gA bS dE cF AV.cells AV.bL dF cO eZ bF aV cQ dI dS dV cN aN dP dO cW cT cI List.getElem?_cons_zero List.getElem?_cons_succ fK fL fH fG fJ fM fI fF dL eQ eB fB
def cos (L : List bD) : AV := .sl 5 (aL L) L.length .shut
structure Vl where
 i : UInt8
 o : UInt8
 r : Nat
 j : Bool
 t : Num
 s : Num
 x : List bD
 e : List bD
def Vl.Ok (v : Vl) : Prop := v.r < 65536 ∧ v.x.length ≤ 9223372036854775807 ∧ v.e.length ≤ 9223372036854775807
def vlC (v : Vl) : List AV := [.v (.int .u8 v.i.toNat), .v (.int .u8 v.o.toNat), .v (.int .u16 v.r), .v (.bool v.j), .v (.int .u64 (eN v.t.v 0 : Nat)), .v (.int .u64 (eN v.t.v 1 : Nat)), .v (.int .u64 (eN v.t.v 2 : Nat)), .v (.int .u64 (eN v.t.v 3 : Nat)), .v (.int .u64 (eN v.s.v 0 : Nat)), .v (.int .u64 (eN v.s.v 1 : Nat)), .v (.int .u64 (eN v.s.v 2 : Nat)), .v (.int .u64 (eN v.s.v 3 : Nat)), cos v.x, cos v.e]
def Lf (l : List Vl) : List AV := l.flatMap vlC
theorem G5 (B : Bd) (v : Vl) : bB B (vlC v) = true := by simp [vlC, cos, bB, AV.under]
theorem FX (n : Nat) (v : Vl) : bM n (vlC v) = true := by simp [vlC, cos, bM, AV.eM]
theorem D7 (B : Bd) (l : List Vl) : bB B (Lf l) = true := iO (G5 B) l
theorem EG (nb : Nat) (l : List Vl) : bM nb (Lf l) = true := iP (FX nb) l
structure Dl where
 o : UInt8
 v : UInt8
 s : Num
 x : List bD
def Dl.Ok (d : Dl) : Prop := d.x.length ≤ 9223372036854775807
def dlC (d : Dl) : List AV := [.v (.int .u8 d.o.toNat), .v (.int .u8 d.v.toNat), .v (.int .u64 (eN d.s.v 0 : Nat)), .v (.int .u64 (eN d.s.v 1 : Nat)), .v (.int .u64 (eN d.s.v 2 : Nat)), .v (.int .u64 (eN d.s.v 3 : Nat)), cos d.x]
def Lw (l : List Dl) : List AV := l.flatMap dlC
theorem Gx (B : Bd) (v : Dl) : bB B (dlC v) = true := by simp [dlC, cos, bB, AV.under]
theorem GZ (n : Nat) (v : Dl) : bM n (dlC v) = true := by simp [dlC, cos, bM, AV.eM]
theorem DZ (B : Bd) (l : List Dl) : bB B (Lw l) = true := iO (Gx B) l
theorem Es (nb : Nat) (l : List Dl) : bM nb (Lw l) = true := iP (GZ nb) l
def flB (b : Bool) : UInt8 := if b then 1 else 0
def Nq (v : Vl) : List UInt8 := v.o :: (eE 2 v.r ++ (flB v.j :: (kZ v.t.v ++ (kZ v.s.v ++ (kY v.x ++ kY v.e)))))
def M9 (d : Dl) : List UInt8 := kZ d.s.v ++ kY d.x
def Nt (i : UInt8) : List UInt8 := [118, i]
def I5 (o v : UInt8) : List UInt8 := [100, o, v]
def prV (v : Vl) : Pr := ⟨Nt v.i, Nq v⟩
def prD (d : Dl) : Pr := ⟨I5 d.o d.v, M9 d⟩
def LL (v : Vl) : Prop := v.o.toNat < 200 ∧ v.r ≤ 10000 ∧ bA v.x ∧ bA v.e
theorem HI {L : List bD} (h : bA L) : (kY L).length ≤ 273 := by
 have h8 := dZ h
 have := rX L
 simp [kY]; omega
def WL (id : Nat) (σ : St) (k : Nat) (l A : List UInt8) : AV → St → Prop := fun av σ' => av = .ptr id 0 ∧ ∃ k' tk', Wr σ.toks k l tk' k' A ∧ σ' = { σ with objs := σ.objs.set id [wrA k' A], toks := tk' }
theorem Hi {σ : St} {id k : Nat} {l A : List UInt8} {b : UInt8} (hA : A = l ++ [b]) (h : σ.objs[id]? = some [wrA k l]) (ht : Tk σ.toks k l) (hl : l.length ≤ 300000) :
  aE Tryz.prog 97 [.ptr id 0, .v (.int .u8 b.toNat)] σ (WL id σ k l A) := by
 subst hA; exact Cf h ht (by omega)
theorem KL {σ : St} {id k : Nat} {x : Num} {l A : List UInt8} (hA : A = l ++ kZ x.v) (h : σ.objs[id]? = some [wrA k l]) (ht : Tk σ.toks k l) (hl : l.length ≤ 300000) :
  aE Tryz.prog 98 [.ptr id 0, .agg (aM x.v)] σ (WL id σ k l A) := by
 subst hA; exact E1 h ht x.h (by omega)
theorem Mr {σ : St} {id k : Nat} {l : List UInt8} (h : σ.objs[id]? = some [wrA k l]) (hne : l ≠ []) (hl : l.length ≤ 1000000) :
  aE Tryz.prog 101 [.ptr id 0] σ (fun av σ' => av = .sl 1 (aY l) l.length .shut ∧ σ = σ') := Jm (tl := .own k) (by simpa [wrA, hne] using h) hl
theorem Mu {σ : St} {id : Nat} {x : Num} {p q : List UInt8} (hp : p = kZ x.v ++ q) (h : σ.objs[id]? = some (rd (some p))) :
  aE Tryz.prog 59 [.ptr id 0] σ (fun av σ' => av = .agg (aM x.v) ∧ σ' = { σ with objs := σ.objs.set id (rd (some q)) }) := by
 subst hp
 obtain ⟨t1, t2⟩ := EL x.h q
 exact cS (Em h) (fun av σ' ⟨e1, e2⟩ => by
  rw [t2] at e1; rw [t1] at e2
  exact ⟨e1, e2⟩)
theorem gT.at {σ τ : St} {o k : Nat} {G : Sg} (h : gT σ o k G) (l : List (List AV)) (m : List Nat) (hτ : τ = { σ with objs := σ.objs ++ l, toks := m }) : gT τ o k G := by subst hτ; exact h.app l m
theorem Lo {σ : St} {o k n : Nat} {G : Sg} {K C : List UInt8} (h : gT σ o k G) (hG : G.s.Ok n) (hn : n ≤ 900000) (hK : K.length ≤ 1000000) (hC : C.length ≤ 1000000) (l : List (List AV)) (tk : List Nat) :
  aE Tryz.prog 100 [.ptr o 0, .sl 1 (aY K) K.length .full, .sl 1 (aY C) C.length .shut] { σ with objs := σ.objs ++ l, toks := tk } (fun av σ' => ∃ G', G'.s = doS G.s K (some C) ∧ av = .tup [] ∧ σ' = eR { σ with objs := σ.objs ++ l, toks := tk } o k G') :=
 HQ (key := K) (val := C) (t1 := .full) (t2 := .shut) (h.app l tk) hG (by omega) hK hC
theorem EP {σ : St} {o k : Nat} {G : Sg} (h : gT σ o k G) (l : List (List AV)) (tk : List Nat) (G' : Sg) : eR { σ with objs := σ.objs ++ l, toks := tk } o k G' = { eR σ o k G' with objs := (eR σ o k G').objs ++ l, toks := tk } := by simp only [eR]; rw [List.set_append_left _ _ (cZ h.o)]
end Go.Proofs.YtjpnjhlfieklfaaGreat
namespace Go.Proofs.YtjpnjhlfieklfaaGreat
open Go Go.Vm
attribute [local simp] dM aI dJ opA bH bN cM bP ofValue dC plain aQ aR cA b8 cC cB bY b7 b9 bZ cV bW cG cD b6 bU aT aS bO cU aW dQ dR bK aZ cL gA bS dE cF AV.cells AV.bL dF cO eZ bF aV cQ dI dS dV cN aN dP dO cW cT cI List.getElem?_cons_zero List.getElem?_cons_succ fK fL fH fG fJ fM fI fF dL eQ eB fB
variable {Ru : UInt8 → List Pr}
theorem EN {k : List UInt8} : ∀ {L : List Pr}, (∀ p ∈ L, p.k ≠ k) → fN L k = none
 | [], _ => rfl
 | p :: L, h => by rw [fN, if_neg (h p (by simp)), EN (fun q hq => h q (by simp [hq]))]
theorem Ja (o v : UInt8) : preB (I5 o v) [100] = true := by simp [preB, I5]
structure Pw where
 V : List Vl
 D : List Dl
structure sM (Ru : UInt8 → List Pr) (s : Sto) (W : Pw) (n : Nat) : Prop where
 ok : s.Ok n
 pv : pl s.l [118] = W.V.map prV
 pd : pl s.l [100] = W.D.map prD
 ids : ∀ (i : Nat) (h : i < W.V.length), W.V[i].i.toNat = i
 lv : W.V.length ≤ 16
 rv : ∀ v ∈ W.V, LL v
 rd : ∀ d ∈ W.D, bA d.x
 nd : W.D.length ≤ n
 rs : ∀ c, c ≠ 118 → c ≠ 100 → pl s.l [c] = Ru c
def pw0 : Pw := ⟨[], []⟩
def Rp0 : UInt8 → List Pr := fun _ => []
theorem sM.nil : sM Rp0 fP.s pw0 0 := ⟨y6, rfl, rfl, fun i h => absurd h (by simp [pw0]), by simp [pw0], fun v h => absurd h (by simp [pw0]), fun v h => absurd h (by simp [pw0]), Nat.le_refl _, fun c h1 h2 => rfl⟩
theorem sM.mono {s : Sto} {W : Pw} {n m : Nat} (h : sM Ru s W n) (hm : n ≤ m) : sM Ru s W m := ⟨h.ok.mono hm, h.pv, h.pd, h.ids, h.lv, h.rv, h.rd, Nat.le_trans h.nd hm, h.rs⟩
theorem sM.getD {s : Sto} {W : Pw} {n : Nat} {d : Dl} (h : sM Ru s W n) (hd : d ∈ W.D) : fN s.l (I5 d.o d.v) = some (M9 d) := by
 have hs := Bh (p := [100]) h.ok.srt
 rw [← nQ (Ja _ _), h.pd]
 rw [h.pd] at hs
 exact nO hs (p := prD d) (List.mem_map_of_mem hd)
theorem sM.Fk {Rv : UInt8 → List Pr} {s s' : Sto} {W : Pw} {n m : Nat} (h : sM Ru s W n) (ho : s'.Ok m) (hm : n ≤ m) (e1 : pl s'.l [118] = pl s.l [118]) (e2 : pl s'.l [100] = pl s.l [100]) (e3 : ∀ c, c ≠ 118 → c ≠ 100 → pl s'.l [c] = Rv c) : sM Rv s' W m :=
 ⟨ho, e1.trans h.pv, e2.trans h.pd, h.ids, h.lv, h.rv, h.rd, Nat.le_trans h.nd hm, e3⟩
structure Pr3 where
 W : Pw
 i : Nat
 e : Nat
theorem xZ {σ : St} {o k : Nat} {G : Sg} (h : gT σ o k G) (G' : Sg) (l : List (List AV)) : eR { σ with objs := σ.objs ++ l } o k G' = { eR σ o k G' with objs := (eR σ o k G').objs ++ l } := by
 simp only [eR]; rw [List.set_append_left _ _ (cZ h.o)]
end Go.Proofs.YtjpnjhlfieklfaaGreat
namespace Go.Proofs.YtjpnjhlfieklfaaGreat
set_option maxHeartbeats 1600000
set_option exponentiation.threshold 600
open Go Go.Vm
attribute [local simp] dM aI dJ opA bH bN cM bP ofValue dC plain aQ aR cA b8 cC cB bY b7 b9 bZ cV gN bW cG cD b6 bU aT aS bO cU aW dQ dR bK aZ cL gA bS mS kE dE cF j7 kD JU dG gH maxLen AV.cells AV.bL dF cO eZ bF aV cQ dI dS dV cN aN dP dO fX eY eV cW cT cI List.getElem?_cons_zero List.getElem?_cons_succ dA
theorem Hh {n x y i X Y : Nat} (hx : x < 65536 ^ n) (hy : y < 65536 ^ n) (hi : i < n) (h : ∀ j, i < j → j < n → x / 65536 ^ j % 65536 = y / 65536 ^ j % 65536) (hX : X = x / 65536 ^ i % 65536) (hY : Y = y / 65536 ^ i % 65536) (hne : X ≠ Y) : decide (X < Y) = decide (x < y) := by
 rcases Nat.lt_or_gt_of_ne hne with h2 | h2
 · have := uY (b := 65536) (n := n) (by omega) hx hy hi h (by rw [← hX, ← hY]; exact h2)
   simp [h2, this]
 · have := uY (b := 65536) (n := n) (by omega) hy hx hi (fun j h1 h2 => (h j h1 h2).symm) (by rw [← hX, ← hY]; exact h2)
   rw [decide_eq_false (by omega), decide_eq_false (by omega)]
theorem Ka {σ : St} {k g n x y : Nat} {sp : Option Nat} {tl : eO} (hr : σ.rows[k]? = some ⟨g, dH (cR 65536 n x), sp⟩) (hn : n ≤ 1000) (hx : x < 65536 ^ n) (hy : y < 65536 ^ n) :
  aE Tryz.prog 149 [.row k g 0 1 n, .sl 1 (dH (cR 65536 n y)) n tl] σ (fun av σ' => av = .v (.bool (decide (x < y))) ∧ σ = σ') := by
 have F := And.intro hr (True.intro)
 refine aB Tryz.func149 rfl rfl rfl ?_; refine sr fun _ hJ2 => ?_; apply hJ2; refine sq fun K3 hK3 => ?_; refine sr fun _ hJ5 => ?_; apply hJ5; refine aD ?_; refine cK (X := Nat) [0, 1] (fun m ρ σ1 => (m ≤ n) ∧ (∀ j, m ≤ j → j < n → x / 65536 ^ j % 65536 = y / 65536 ^ j % 65536) ∧ (ρ 5 = .v (.int .i64 ((m : Int) - 1))) ∧ (σ1 = σ)) (fun m => m) (n) ?st1 ?rd1
 case st1 =>
  refine ⟨lp, ?_, lp, lp⟩
  · intro j h1 h2
    omega
 case rd1 =>
  rintro m ρ1 σ1 hF1 ⟨hm, hE, h5, hσ⟩; obtain rfl := hσ.symm
  have f1 := dU hF1
  (try simp [dT, F] at f1); replace F := aF h5 F; (try replace F := aF f1 F); refine sq fun K6 hK6 => ?_; refine sr fun _ hJ8 => ?_; apply hJ8; refine cs (fun c10 => ?_) (fun c10 => ?_)
  · try exact aK c10
    all_goals
     replace F := aF c10 F; refine aA ?_; apply hK6; refine sq fun K9 hK9 => ?_; refine aD ?_; refine sq fun K10 hK10 => ?_
     obtain ⟨i, rfl⟩ : ∃ i, m = i + 1 := ⟨m - 1, by simp at c10; omega⟩
     have hi : ((i + 1 : Nat) : Int) - 1 = (i : Int) := by omega
     rw [hi] at h5 F
     have hin : i < n := by omega
     have hgx := eU (b := 65536) (x := x) hin
     have hgy := eU (b := 65536) (x := y) hin
     have hii : (i : Int) < n := by omega
     obtain ⟨X, hX⟩ : ∃ X, X = x / 65536 ^ i % 65536 := ⟨_, rfl⟩
     obtain ⟨Y, hY⟩ : ∃ Y, Y = y / 65536 ^ i % 65536 := ⟨_, rfl⟩
     rw [← hX] at hgx
     rw [← hY] at hgy
     obtain ⟨_, hgx2⟩ := List.getElem?_eq_some_iff.1 hgx
     obtain ⟨_, hgy2⟩ := List.getElem?_eq_some_iff.1 hgy
     have hdy : List.drop i (dH (cR 65536 n y)) = .v (.int .u64 Y) :: List.drop (i + 1) (dH (cR 65536 n y)) := by rw [List.drop_eq_getElem_cons (by simpa using hin), hgy2]
     replace F := aF hgx F; replace F := aF hgy F; replace F := aF hgx2 F; replace F := aF hgy2 F; replace F := aF hdy F; replace F := aF hin F; replace F := aF hii F
     refine bI (by kernel_rfl) fun J11 hJ11 => ?_
     refine q2 0 ?_; refine q2 1 ?_; refine q2 2 ?_; refine q2 3 ?_; refine q2 4 ?_; refine q2 5 ?_; refine q2 6 ?_; refine q2 7 ?_; refine q2 8 ?_; refine dd ?_; apply hJ11; apply hK10; refine cs (fun c21 => ?_) (fun c21 => ?_)
     · try exact aK c21
       all_goals
        replace F := aF c21 F
        have hd : decide (X < Y) = decide (x < y) := Hh hx hy hin (fun j h1 h2 => hE j h1 h2) hX hY (by have h := c21; simp at h; omega)
        replace F := aF hd F; refine sq fun K12 hK12 => ?_
        refine bI (by kernel_rfl) fun J13 hJ13 => ?_
        refine q2 0 ?_; refine q2 1 ?_; refine q2 2 ?_; refine q2 3 ?_; refine q2 4 ?_; refine q2 5 ?_; refine q2 6 ?_; refine q2 7 ?_; refine q2 8 ?_; refine q2 9 ?_; refine dd ?_; apply hJ13; apply hK12; refine ra ?_; exact rt
     try exact aK c21
     all_goals
      replace F := aF c21 F; refine aA ?_; apply hK9; refine rg' (h := fun J14 hJ14 => ?_); apply hJ14; refine ⟨(i), ⟨kp, lp, ?_, lp, lp⟩, lp⟩
      · intro j h1 h2
        by_cases hj : j = i
        · subst hj; rw [← hX, ← hY]; have h := c21; simp at h; omega
        · exact hE j (by omega) h2
  try exact aK c10
  all_goals
   replace F := aF c10 F
   obtain rfl : m = 0 := by simp at c10; omega
   have hxy : x = y := by have := tM (b := 65536) (n := n) (i := 0) (by omega) hx hy (by omega) hE; simpa using this
   have hcI : decide (x < y) = false := by rw [hxy]; simp
   replace F := aF hcI F; refine bJ ?_; apply hK3; refine sr fun _ hJ16 => ?_; apply hJ16; refine ra ?_; exact rt
attribute [local simp] lJ in
theorem LC {σ : St} {N c : Nat} {tl : eO} (hN : N < 2 ^ 512) (hc : c < 2 ^ 256) (hc0 : 0 < c) :
  aE Tryz.prog 143 [.sl 1 (dH (cR 65536 32 N)) 32 tl, .agg (aM c)] σ (fun av σ' => av = .tup [.row σ.rows.length 0 0 1 32, .v (.bool (decide (N % c ≠ 0)))] ∧ σ' = { σ with rows := σ.rows ++ [⟨0, dH (cR 65536 32 (N / c)), some 0⟩, ⟨18, [], none⟩, ⟨0, dH (cR 65536 17 (N % c)), some 0⟩] }) := by
 refine pA ?_ rfl
 have e16 : ∀ n, (65536 : Nat) ^ n = 2 ^ (16 * n) := fun n => by rw [Nat.pow_mul]
 have hc16 : c < 65536 ^ 16 := by rw [e16]; exact hc
 have hc17 : c < 65536 ^ 17 := Nat.lt_of_lt_of_le hc16 (Nat.pow_le_pow_right (by omega) (by omega))
 have h257 : (65536 : Nat) ^ 17 = 65536 * 2 ^ 256 := by rw [Nat.pow_succ, e16, Nat.mul_comm]
 have hby : dH (cR 65536 16 c) ++ [.v (.int .u64 0)] = dH (cR 65536 17 c) := by rw [Gw hc16, ← vS] <;> rfl
 have htk : List.take 16 (dH (cR 65536 16 c)) = dH (cR 65536 16 c) := List.take_of_length_le (by simp)
 have F := And.intro hby (And.intro htk (True.intro))
 refine aB Tryz.func143 rfl rfl rfl ?_; refine sr fun _ hJ2 => ?_; apply hJ2; refine sr fun _ hJ4 => ?_; apply hJ4; refine sr fun _ hJ6 => ?_; refine ca (c := r6 (x := c)) (k := ?_); rintro _ _ ⟨rfl, rfl⟩; (repeat first | simp [F] | simp (disch := omega) only [wC, if_pos, if_neg]); apply hJ6; refine sq fun K7 hK7 => ?_; refine vD 7 1 (k := ?_); refine rg' (h := fun J8 hJ8 => ?_); apply hJ8; apply hK7; refine sq fun K9 hK9 => ?_; refine sr fun _ hJ11 => ?_; apply hJ11; refine aD ?_; refine cK (X := Nat) [0, 4, 5, 6, 7, 8] (fun n ρ σ1 => (n ≤ 512) ∧ (ρ 9 = .v (.int .i64 ((n : Int) - 1))) ∧ (σ1 = { σ with objs := σ.objs ++ [aM c], rows := σ.rows ++ [⟨0, dH (cR 65536 32 (N / 2 ^ n / c * 2 ^ n)), some 0⟩, ⟨18, [], none⟩, ⟨0, dH (cR 65536 17 (N / 2 ^ n % c)), some 0⟩] })) (fun n => n) (512) ?st1 ?rd1
 case st1 =>
  refine ⟨lp, lp, ?_⟩
  · rw [Nat.div_eq_of_lt hN]
    simp [AZ]
 case rd1 =>
  rintro n ρ1 σ1 hF1 ⟨hn, h9, hσ⟩; obtain rfl := hσ.symm
  have f1 := dU hF1
  (try simp [dT, F] at f1); replace F := aF h9 F; (try replace F := aF f1 F); refine sq fun K12 hK12 => ?_; refine sr fun _ hJ14 => ?_; apply hJ14; refine cs (fun c30 => ?_) (fun c30 => ?_)
  · (try exact aK c30); all_goals have c30p := c30; try simp [F] at c30p
    all_goals
     replace F := aF c30 F; (try replace F := aF c30p F); refine aA ?_; apply hK12; refine sq fun K15 hK15 => ?_; refine aD ?_; refine sq fun K16 hK16 => ?_
     obtain ⟨j, rfl⟩ : ∃ j, n = j + 1 := ⟨n - 1, by simp at c30; omega⟩
     have hj : ((j + 1 : Nat) : Int) - 1 = (j : Int) := by omega
     rw [hj] at h9 F
     obtain ⟨q, hq⟩ : ∃ q, q = j / 16 := ⟨_, rfl⟩
     obtain ⟨r, hr⟩ : ∃ r, r = j % 16 := ⟨_, rfl⟩
     have e1 : (j : Int) / 16 = (q : Int) := by omega
     have e2 : (j : Int) % 16 = (r : Int) := by omega
     have hq32 : q < 32 := by omega
     have hq32i : (q : Int) < 32 := by omega
     have hr16 : r < 16 := by omega
     have e3 : (j : Int).tdiv 16 = (q : Int) := by rw [Int.tdiv_eq_ediv_of_nonneg (by omega)]; exact e1
     have e4 : (j : Int).tmod 16 = (r : Int) := by rw [Int.tmod_eq_emod_of_nonneg (by omega)]; exact e2
     obtain ⟨L, hL⟩ : ∃ L, L = N / 65536 ^ q % 65536 := ⟨_, rfl⟩
     have hgL : (dH (cR 65536 32 N))[q]? = some (.v (.int .u64 L)) := by rw [hL]; exact eU hq32
     obtain ⟨_, hgL2⟩ := List.getElem?_eq_some_iff.1 hgL
     have hdL : List.drop q (dH (cR 65536 32 N)) = .v (.int .u64 L) :: List.drop (q + 1) (dH (cR 65536 32 N)) := by rw [List.drop_eq_getElem_cons (by simpa using hq32), hgL2]
     have hmin : min r 64 = r := by omega
     obtain ⟨B, hB⟩ : ∃ B, B = N / 2 ^ j % 2 := ⟨_, rfl⟩
     have hLr : L / 2 ^ r % 2 = B := by rw [hL, hB]; exact E0 (w := 16) hr16 (by omega)
     have hbit : ((L : Int).fdiv (2 ^ r)).tmod 2 = (B : Int) := by rw [lG, rH, Int.tmod_eq_emod_of_nonneg (Int.natCast_nonneg _), ← hLr]; rfl
     obtain ⟨R, hR⟩ : ∃ R, R = N / 2 ^ (j + 1) % c := ⟨_, rfl⟩
     have hRl : R < c := by rw [hR]; exact Nat.mod_lt _ hc0
     obtain ⟨hd1, hd2, hd3⟩ := AR (x := N) (c := c) (j := j) hc0
     rw [← hR, ← hB] at hd1 hd2 hd3
     obtain ⟨Q, hQ⟩ : ∃ Q, Q = N / 2 ^ (j + 1) / c * 2 ^ (j + 1) := ⟨_, rfl⟩
     rw [← hQ, ← hR]
     have hB1 : B ≤ 1 := by omega
     obtain ⟨T, hT⟩ : ∃ T, T = 2 * R + B := ⟨_, rfl⟩
     rw [← hT] at hd1 hd2 hd3
     have hTl : T < 65536 ^ 17 := by omega
     have hR17 : R < 65536 ^ 17 := by omega
     replace F := aF e1 F; replace F := aF e2 F; replace F := aF e3 F; replace F := aF e4 F; replace F := aF hq32 F; replace F := aF hq32i F; replace F := aF hr16 F; replace F := aF hgL F; replace F := aF hgL2 F; replace F := aF hdL F; replace F := aF hmin F; replace F := aF hbit F; refine rg' (h := fun J17 hJ17 => ?_); apply hJ17; apply hK16; refine sq fun K18 hK18 => ?_; refine sr fun _ hJ20 => ?_; apply hJ20; refine aD ?_; refine cK (X := Nat) [0, 4, 5, 6, 7, 8, 9, 29, 30, 33, 34, 35, 36, 37, 38, 39, 40, 41] (fun k ρ σ1 => (k ≤ 17) ∧ (ρ 10 = .v (.int .u64 (shc 65536 R B k : Nat))) ∧ (ρ 11 = .v (.int .i64 k)) ∧ (σ1 = { σ with objs := σ.objs ++ [aM c], rows := σ.rows ++ [⟨0, dH (cR 65536 32 Q), some 0⟩, ⟨18, [], none⟩, ⟨0, dH (mix 65536 17 k T R), some 0⟩] })) (fun k => 17 - k) (0) ?st2 ?rd2
     case st2 =>
      refine ⟨lp, ?_, lp, ?_⟩
      · simp [CT]
      · rw [o8]
     case rd2 =>
      rintro k ρ2 σ1 hF2 ⟨hk, h10, h11, hσ2⟩; obtain rfl := hσ2.symm
      have f2 := dU hF2
      (try simp [dT, F] at f2); replace F := aF h10 F; replace F := aF h11 F; (try replace F := aF f2 F); refine sq fun K21 hK21 => ?_; refine sr fun _ hJ23 => ?_; apply hJ23; refine cs (fun c43 => ?_) (fun c43 => ?_)
      · (try exact aK c43); all_goals have c43p := c43; try simp [F] at c43p
        all_goals
         replace F := aF c43 F; (try replace F := aF c43p F); refine aA ?_; apply hK21; refine sq fun K24 hK24 => ?_; refine aD ?_; refine sq fun K25 hK25 => ?_
         have hk17 : k < 17 := by simp at c43; omega
         have hgx := oZ (b := 65536) (s := T) (x := R) hk17
         have hml := pP (b := 65536) (s := T) (x := R) (Nat.le_of_lt hk17)
         obtain ⟨p, hp⟩ : ∃ p, p = R / 65536 ^ k % 65536 := ⟨_, rfl⟩
         rw [← hp] at hgx
         obtain ⟨_, hgx2⟩ := List.getElem?_eq_some_iff.1 hgx
         have hpl : p < 65536 := by rw [hp]; exact Nat.mod_lt _ (by decide)
         obtain ⟨u, hu⟩ : ∃ u, u = shc 65536 R B k := ⟨_, rfl⟩
         have hul : u ≤ 1 := by rw [hu]; exact HL (by decide) hB1
         rw [← hu] at h10 F
         obtain ⟨v, hv⟩ : ∃ v, v = 2 * p + u := ⟨_, rfl⟩
         have hve : (p : Int) * 2 + u = (v : Int) := by omega
         obtain ⟨m, hm⟩ : ∃ m, m = v % 65536 := ⟨_, rfl⟩
         obtain ⟨w, hw⟩ : ∃ w, w = v / 65536 := ⟨_, rfl⟩
         have hn6 : (v : Int).tmod 65536 = (m : Int) := by rw [Int.tmod_eq_emod_of_nonneg (by omega)]; omega
         have hn7 : (v : Int).tdiv 65536 = (w : Int) := by rw [Int.tdiv_eq_ediv_of_nonneg (by omega)]; omega
         have hn8 : (v : Int) % 65536 = (m : Int) := by omega
         have hn9 : (v : Int) / 65536 = (w : Int) := by omega
         have hk5 : (k : Int) < 17 := by omega
         have hdg : m = T / 65536 ^ k % 65536 := by rw [hm, hv, hT, hp, hu]; exact EM (by decide)
         have hnx : w = shc 65536 R B (k + 1) := by rw [hw, hv, hp, hu]; exact C6 (by decide)
         have hset := oF (b := 65536) (s := T) (x := R) hk17
         rw [← hdg] at hset
         replace F := aF hgx F; replace F := aF hgx2 F; replace F := aF hml F; replace F := aF hve F; replace F := aF hn6 F; replace F := aF hn7 F; replace F := aF hn8 F; replace F := aF hn9 F; replace F := aF hk17 F; replace F := aF hk5 F; refine rg' (h := fun J26 hJ26 => ?_); apply hJ26; apply hK25; refine sr fun _ hJ28 => ?_; apply hJ28; refine rg' (h := fun J29 hJ29 => ?_); apply hJ29; apply hK24; refine rg' (h := fun J30 hJ30 => ?_); apply hJ30; refine ⟨(k + 1), ⟨kp, lp, ?_, lp, ?_⟩, lp⟩
         · simp [F, hnx]
         · simp [F, hset]
      (try exact aK c43); all_goals have c43p := c43; try simp [F] at c43p
      all_goals
       replace F := aF c43 F; try replace F := aF c43p F
       obtain rfl : k = 17 := by simp at c43; omega
       rw [rS]
       refine bJ ?_; apply hK18; refine sq fun K31 hK31 => ?_; refine sr fun _ hJ33 => ?_
       refine ca (c := Ka (k := σ.rows.length + 2) (g := 0) (n := 17) (x := T) (y := c) (sp := some 0) (by simp [cT]) (by omega) hTl hc17) (k := ?_)
       rintro _ _ ⟨rfl, rfl⟩; (repeat first | simp [F] | simp (disch := omega) only [wC, if_pos, if_neg]); apply hJ33; refine cs (fun c62 => ?_) (fun c62 => ?_)
       · (try exact aK c62); all_goals have c62p := c62; try simp [F] at c62p
         all_goals
          replace F := aF c62 F; try replace F := aF c62p F
          have hcT : T < c := by simpa using c62
          obtain ⟨hd4, hd5⟩ := hd1 hcT
          have hQ2 : N / 2 ^ j / c * 2 ^ j = Q := by rw [hd4, hQ, Nat.pow_succ]; grind
          replace F := aF hd5 (And.intro hQ2 F); refine bJ ?_; apply hK15; refine rg' (h := fun J34 hJ34 => ?_); apply hJ34; refine ⟨(j), ⟨kp, lp, lp, lp⟩, lp⟩
       (try exact aK c62); all_goals have c62p := c62; try simp [F] at c62p
       all_goals
        replace F := aF c62 F; try replace F := aF c62p F
        have hcT : c ≤ T := by simpa using c62
        obtain ⟨hd4, hd5⟩ := hd2 hcT
        obtain ⟨s4, hs4⟩ : ∃ s4, s4 = T + 65536 ^ 17 - c := ⟨_, rfl⟩
        refine aA ?_; apply hK31; refine sr fun _ hJ36 => ?_; apply hJ36; refine sq fun K37 hK37 => ?_; refine sr fun _ hJ39 => ?_; apply hJ39; refine aD ?_; refine cK (X := Nat) [0, 4, 5, 6, 7, 8, 9, 10, 11, 29, 30, 33, 34, 35, 36, 37, 38, 39, 40, 41, 42, 43, 60, 61, 62] (fun k ρ σ1 => (k ≤ 17) ∧ (ρ 13 = .v (.int .u64 (o9 65536 T c k : Nat))) ∧ (ρ 14 = .v (.int .i64 k)) ∧ (σ1 = { σ with objs := σ.objs ++ [aM c], rows := σ.rows ++ [⟨0, dH (cR 65536 32 Q), some 0⟩, ⟨18, [], none⟩, ⟨0, dH (mix 65536 17 k s4 T), some 0⟩] })) (fun k => 17 - k) (0) ?st3 ?rd3
        case st3 =>
         refine ⟨lp, ?_, lp, ?_⟩
         · simp [vG]
         · rw [o8]
        case rd3 =>
         rintro k ρ3 σ1 hF3 ⟨hk, h13, h14, hσ3⟩; obtain rfl := hσ3.symm
         have f3 := dU hF3
         (try simp [dT, F] at f3); replace F := aF h13 F; replace F := aF h14 F; (try replace F := aF f3 F); refine sq fun K40 hK40 => ?_; refine sr fun _ hJ42 => ?_; apply hJ42; refine cs (fun c64 => ?_) (fun c64 => ?_)
         · (try exact aK c64); all_goals have c64p := c64; try simp [F] at c64p
           all_goals
            replace F := aF c64 F; (try replace F := aF c64p F); refine aA ?_; apply hK40; refine sq fun K43 hK43 => ?_; refine aD ?_; refine sq fun K44 hK44 => ?_
            have hk17 : k < 17 := by simp at c64; omega
            have hgx := oZ (b := 65536) (s := s4) (x := T) hk17
            have hgy := eU (b := 65536) (x := c) hk17
            have hml := pP (b := 65536) (s := s4) (x := T) (Nat.le_of_lt hk17)
            obtain ⟨p, hp⟩ : ∃ p, p = T / 65536 ^ k % 65536 := ⟨_, rfl⟩
            obtain ⟨y, hy⟩ : ∃ y, y = c / 65536 ^ k % 65536 := ⟨_, rfl⟩
            rw [← hp] at hgx
            rw [← hy] at hgy
            obtain ⟨_, hgx2⟩ := List.getElem?_eq_some_iff.1 hgx
            obtain ⟨_, hgy2⟩ := List.getElem?_eq_some_iff.1 hgy
            have hk5 : (k : Int) < 17 := by omega
            have hdy : List.drop k (dH (cR 65536 17 c)) = .v (.int .u64 y) :: List.drop (k + 1) (dH (cR 65536 17 c)) := by rw [List.drop_eq_getElem_cons (by simpa using hk17), hgy2]
            have hpl : p < 65536 := by rw [hp]; exact Nat.mod_lt _ (by decide)
            have hyl : y < 65536 := by rw [hy]; exact Nat.mod_lt _ (by decide)
            obtain ⟨u, hu⟩ : ∃ u, u = o9 65536 T c k := ⟨_, rfl⟩
            have hul : u ≤ 1 := by rw [hu]; exact Bs _ _ _ _
            rw [← hu] at h13 F
            obtain ⟨v, hv⟩ : ∃ v, v = p + 65536 - y - u := ⟨_, rfl⟩
            have hve : (p : Int) + 65536 - y - u = (v : Int) := by omega
            obtain ⟨m, hm⟩ : ∃ m, m = v % 65536 := ⟨_, rfl⟩
            obtain ⟨w, hw⟩ : ∃ w, w = v / 65536 := ⟨_, rfl⟩
            obtain ⟨u2, hu2⟩ : ∃ u2, u2 = 1 - w := ⟨_, rfl⟩
            have hw1 : w ≤ 1 := by omega
            have hn6 : (v : Int).tmod 65536 = (m : Int) := by rw [Int.tmod_eq_emod_of_nonneg (by omega)]; omega
            have hn7 : (v : Int).tdiv 65536 = (w : Int) := by rw [Int.tdiv_eq_ediv_of_nonneg (by omega)]; omega
            have hn8 : (v : Int) % 65536 = (m : Int) := by omega
            have hn9 : (v : Int) / 65536 = (w : Int) := by omega
            have hdg : m = s4 / 65536 ^ k % 65536 := by rw [hm, hv, hs4, hp, hy, hu]; exact zX (by decide) hk17 hTl hc17
            have hc3 : u2 = o9 65536 T c (k + 1) := by rw [← vO (by decide), ← hp, ← hy, ← hu]; split <;> omega
            have hset := oF (b := 65536) (s := s4) (x := T) hk17
            rw [← hdg] at hset
            replace F := aF hgx F; replace F := aF hgy F; replace F := aF hgx2 F; replace F := aF hgy2 F; replace F := aF hdy F; replace F := aF hml F; replace F := aF hve F; replace F := aF hn6 F; replace F := aF hn7 F; replace F := aF hn8 F; replace F := aF hn9 F; replace F := aF hk17 F; replace F := aF hk5 F
            refine bI (by kernel_rfl) fun J45 hJ45 => ?_
            refine q2 0 ?_; refine q2 1 ?_; refine q2 2 ?_; refine q2 3 ?_; refine q2 4 ?_; refine q2 5 ?_; refine q2 6 ?_; refine q2 7 ?_; refine q2 8 ?_; refine q2 9 ?_; refine q2 10 ?_; refine q2 11 ?_; refine q2 12 ?_; refine dd ?_; apply hJ45; apply hK44; refine sr fun _ hJ47 => ?_; apply hJ47; refine rg' (h := fun J48 hJ48 => ?_); apply hJ48; apply hK43; refine rg' (h := fun J49 hJ49 => ?_); apply hJ49; refine ⟨(k + 1), ⟨kp, lp, ?_, lp, ?_⟩, lp⟩
            · simp only [aP]
              repeat (first | simp [F] | simp (disch := omega) only [wC, if_pos, if_neg])
              rw [← hc3]
              omega
            · simp [F, hset]
         (try exact aK c64); all_goals have c64p := c64; try simp [F] at c64p
         all_goals
          replace F := aF c64 F; try replace F := aF c64p F
          obtain rfl : k = 17 := by simp at c64; omega
          rw [rS, hs4, Ir (by omega) hcT, ← hd5]
          refine bJ ?_; apply hK37
          obtain ⟨M, hM⟩ : ∃ M, M = Q / 65536 ^ q % 65536 := ⟨_, rfl⟩
          have hgM := eU (b := 65536) (x := Q) hq32
          rw [← hM] at hgM
          obtain ⟨_, hgM2⟩ := List.getElem?_eq_some_iff.1 hgM
          have hQ0 : Q / 2 ^ j % 2 = 0 := by rw [hQ, Nat.pow_succ, show N / (2 ^ j * 2) / c * (2 ^ j * 2) = 2 ^ j * (N / (2 ^ j * 2) / c * 2) by grind, Nat.mul_div_cancel_left _ (Nat.two_pow_pos j)]; omega
          have hQ2 : N / 2 ^ j / c * 2 ^ j = Q + 2 ^ j := by rw [hd4, hQ, Nat.pow_succ]; grind
          have hQl : Q + 2 ^ j < 2 ^ 512 := by rw [← hQ2]; exact Nat.lt_of_le_of_lt (Nat.le_trans (Nat.mul_le_mul_right _ (Nat.div_le_self _ _)) (Nat.div_mul_le_self _ _)) hN
          obtain ⟨hb1, hb3⟩ := DV hM hr16 (show j = 16 * q + r by omega) hq32 hQ0 hQl
          obtain ⟨E, hE⟩ : ∃ E, E = 2 ^ r := ⟨_, rfl⟩
          rw [← hE] at hb1 hb3
          have hsl : IntKind.u64.wrap (2 ^ r) = (E : Int) := by rw [lG, ← hE]; exact lF (by omega)
          obtain ⟨M2, hM2⟩ : ∃ M2, M2 = M + E := ⟨_, rfl⟩
          have hadM : IntKind.u64.wrap ((M : Int) + E) = (M2 : Int) := by rw [show (M : Int) + E = (M2 : Int) by omega]; exact lF (by omega)
          rw [← hM2] at hb3
          have hset := jB (cR 65536 32 Q) q M2 (by simpa using hq32)
          rw [hb3] at hset
          replace F := aF hgM F; replace F := aF hgM2 F; replace F := aF hsl F; replace F := aF hadM F; replace F := aF hQ2 F; replace F := aF hset F
          refine bI (by kernel_rfl) fun J50 hJ50 => ?_
          refine q2 0 ?_; refine q2 1 ?_; refine q2 2 ?_; refine q2 3 ?_; refine q2 4 ?_; refine q2 5 ?_; refine q2 6 ?_; refine q2 7 ?_; refine q2 8 ?_; refine q2 9 ?_; refine dop 10 rfl ?_; (repeat first | simp [F] | simp (disch := omega) only [wC, if_pos, if_neg]); refine ⟨ln, ?_⟩; refine dd ?_; apply hJ50; apply hK15; refine rg' (h := fun J51 hJ51 => ?_); apply hJ51; refine ⟨(j), ⟨kp, lp, lp, lp⟩, lp⟩
  (try exact aK c30); all_goals have c30p := c30; try simp [F] at c30p
  all_goals
   replace F := aF c30 F; try replace F := aF c30p F
   obtain rfl : n = 0 := by simp at c30; omega
   have e0 : N / 2 ^ 0 / c * 2 ^ 0 = N / c := by simp
   have e1 : N / 2 ^ 0 % c = N % c := by simp
   rw [e0, e1]
   obtain ⟨R, hR⟩ : ∃ R, R = N % c := ⟨_, rfl⟩
   rw [← hR]
   have hR17 : R < 65536 ^ 17 := by have := Nat.mod_lt N hc0; omega
   refine bJ ?_; apply hK9; refine sq fun K52 hK52 => ?_; refine sr fun _ hJ54 => ?_; apply hJ54; refine aD ?_; refine cK (X := Nat) [6, 8] (fun k ρ σ1 => (k ≤ 17) ∧ (∀ i, i < k → R / 65536 ^ i % 65536 = 0) ∧ (ρ 16 = .v (.int .i64 k)) ∧ (σ1 = { σ with objs := σ.objs ++ [aM c], rows := σ.rows ++ [⟨0, dH (cR 65536 32 (N / c)), some 0⟩, ⟨18, [], none⟩, ⟨0, dH (cR 65536 17 R), some 0⟩] })) (fun k => 17 - k) (0) ?st4 ?rd4
   case st4 =>
    refine ⟨lp, ?_, lp, lp⟩
    · intro i h
      omega
   case rd4 =>
    rintro k ρ4 σ1 hF4 ⟨hk, hz, h16, hσ4⟩; obtain rfl := hσ4.symm
    have f4 := dU hF4
    (try simp [dT, F] at f4); replace F := aF h16 F; (try replace F := aF f4 F); refine sq fun K55 hK55 => ?_; refine sr fun _ hJ57 => ?_; apply hJ57; refine cs (fun c98 => ?_) (fun c98 => ?_)
    · (try exact aK c98); all_goals have c98p := c98; try simp [F] at c98p
      all_goals
       replace F := aF c98 F; (try replace F := aF c98p F); refine aA ?_; apply hK55; refine sq fun K58 hK58 => ?_; refine aD ?_; refine sq fun K59 hK59 => ?_
       have hk17 : k < 17 := by simp at c98; omega
       have hgx := eU (b := 65536) (x := R) hk17
       obtain ⟨p, hp⟩ : ∃ p, p = R / 65536 ^ k % 65536 := ⟨_, rfl⟩
       rw [← hp] at hgx
       obtain ⟨_, hgx2⟩ := List.getElem?_eq_some_iff.1 hgx
       have hk5 : (k : Int) < 17 := by omega
       replace F := aF hgx F; replace F := aF hgx2 F; replace F := aF hk17 F; replace F := aF hk5 F; refine rg' (h := fun J60 hJ60 => ?_); apply hJ60; apply hK59; refine cs (fun c105 => ?_) (fun c105 => ?_)
       · (try exact aK c105); all_goals have c105p := c105; try simp [F] at c105p
         all_goals
          replace F := aF c105 F; try replace F := aF c105p F
          have hR0 : ¬ R = 0 := by intro e; have h := c105; simp at h; rw [e] at hp; simp at hp; omega
          replace F := aF hR0 F; refine sr fun _ hJ62 => ?_; apply hJ62; refine bQ ?_; (try simp only [eD, bG, bV]); refine fV rfl (.inr rfl) ?_
          rw [← hR]
          exact gco
       (try exact aK c105); all_goals have c105p := c105; try simp [F] at c105p
       all_goals
        replace F := aF c105 F; (try replace F := aF c105p F); refine aA ?_; apply hK58; refine rg' (h := fun J63 hJ63 => ?_); apply hJ63; refine ⟨(k + 1), ⟨kp, lp, ?_, lp, lp⟩, lp⟩
        · intro i h
          by_cases hi : i = k
          · subst hi; rw [← hp]; have h := c105; simp at h; omega
          · exact hz i (by omega)
    (try exact aK c98); all_goals have c98p := c98; try simp [F] at c98p
    all_goals
     replace F := aF c98 F; try replace F := aF c98p F
     obtain rfl : k = 17 := by simp at c98; omega
     have hR0 : R = 0 := Gn hR17 hz
     subst hR0
     refine bJ ?_; apply hK52; refine sr fun _ hJ65 => ?_; apply hJ65; refine bQ ?_; (try simp only [eD, bG, bV]); refine fV rfl (.inr rfl) ?_
     rw [← hR]
     exact gco
theorem Ij {Q : Nat} (hQ : Q < 2 ^ 512) : eA 65536 ((cR 65536 32 Q).set 0 (Q % 65536 + 1)) = Q + 1 := by
 have h8 : (65536 : Nat) ^ 32 = 2 ^ 512 := by rw [show (65536 : Nat) = 2 ^ 16 from rfl, ← Nat.pow_mul]
 have e := l9 (b := 65536) (l := cR 65536 32 Q) (i := 0) (by simp) (Q % 65536 + 1)
 rw [nD (by omega), e9, h8, Nat.mod_eq_of_lt hQ] at e
 simp at e
 omega
theorem LD {n Q i m : Nat} (hm : m ≤ 65536) : ∀ d ∈ (cR 65536 n Q).set i m, d ≤ 4611686018427387904 := by
 intro d hd
 rcases List.mem_or_eq_of_mem_set hd with h | h
 · have := iT (b := 65536) (by decide) d h; omega
 · omega
attribute [local simp] fS in
theorem DI {σ : St} {a b c : Nat} {up : Bool} (ha : a < 2 ^ 256) (hb : b < 2 ^ 256) (hc : c < 2 ^ 256) :
  aE Tryz.prog 132 [.agg (aM a), .agg (aM b), .agg (aM c), .v (.bool up)] σ (fun av σ' => av = .tup [.agg (aM (mdN a b c up)), .v (.int .i64 (mdE a b c up : Nat))] ∧ σ = σ') := by
 refine aU ?_ (by simp [AV.under, bB, aM])
 have hP := ER ha hb
 obtain ⟨Q, hQ⟩ : ∃ Q, Q = a * b / c := ⟨_, rfl⟩
 have hQl : Q < 2 ^ 512 := by rw [hQ]; exact Nat.lt_of_le_of_lt (Nat.div_le_self _ _) hP
 obtain ⟨V, hV⟩ : ∃ V, V = mdQ a b c up := ⟨_, rfl⟩
 have F := True.intro
 refine aB Tryz.func132 rfl rfl rfl ?_; refine sr fun _ hJ2 => ?_; apply hJ2; refine sq fun K3 hK3 => ?_; refine sr fun _ hJ5 => ?_; refine ca (c := BA (x := ⟨c, hc⟩)) (k := ?_); rintro _ _ ⟨rfl, rfl⟩; (try simp [F]); apply hJ5; refine cs (fun c15 => ?_) (fun c15 => ?_)
 · all_goals
    replace F := aF c15 F
    have h0 : c = 0 := by simpa using c15
    subst h0
    have e1 : mdN a b 0 up = 0 := by simp [mdN]
    have e2 : mdE a b 0 up = 1 := by simp [mdE]
    replace F := aF e1 (And.intro e2 F); refine sr fun _ hJ7 => ?_; apply hJ7; refine bQ ?_; (try simp only [eD, bG, bV]); refine gY (h := ?_); exact gcr
 all_goals
  replace F := aF c15 F
  have h0 : ¬ c = 0 := by simpa using c15
  have e1 : mdN a b c up = if V < 2 ^ 256 then V else 0 := by rw [hV]; exact if_neg h0
  have e2 : mdE a b c up = if V < 2 ^ 256 then 0 else 2 := by rw [hV]; exact if_neg h0
  replace F := aF e1 (And.intro e2 F); refine aA ?_; apply hK3; refine sq fun K8 hK8 => ?_
  refine bI (by kernel_rfl) fun J9 hJ9 => ?_
  refine q2 0 ?_; refine q2 1 ?_; refine q2 3 ?_; refine dc 2 rfl (c := Kx ha hb) (k := ?_); rintro _ _ ⟨rfl, rfl⟩
  refine ⟨by first | exact fun _ _ h => h | (refine aH [3] (by kernel_rfl) ?_; (repeat' first | exact ln2 | refine lc ?_ ?_) <;> constructor <;> first | rfl | (simp [F]; done)), ?_⟩
  try simp [F]
  refine dc 4 rfl (c := LC hP hc (by omega)) (k := ?_)
  rintro _ _ ⟨rfl, rfl⟩; refine ⟨ln, ?_⟩; (try simp [F]); refine q2 5 ?_; refine q2 6 ?_; refine q2 7 ?_; refine q2 8 ?_; refine q2 9 ?_; refine dd ?_; apply hJ9; apply hK8; refine sq fun K10 hK10 => ?_; refine sq fun K11 hK11 => ?_
  rw [← hQ]
  refine D9 σ.rows.length (k := ?_)
  have hgQ : (dH (cR 65536 32 Q))[0]? = some (.v (.int .u64 (Q % 65536 : Nat))) := by have := eU (b := 65536) (x := Q) (show 0 < 32 by omega); simpa using this
  obtain ⟨M, hM⟩ : ∃ M, M = Q % 65536 := ⟨_, rfl⟩
  rw [← hM] at hgQ
  obtain ⟨_, hgQ2⟩ := List.getElem?_eq_some_iff.1 hgQ
  have hset := jB (cR 65536 32 Q) 0 (M + 1) (by simp)
  obtain ⟨L, hL⟩ : ∃ L, L = (cR 65536 32 Q).set 0 (M + 1) := ⟨_, rfl⟩
  rw [← hL] at hset
  have hLl : L.length = 32 := by rw [hL]; simp
  have hLv : eA 65536 L = Q + 1 := by rw [hL, hM]; exact Ij hQl
  have hLm : ∀ d ∈ L, d ≤ 4611686018427387904 := by rw [hL]; exact LD (by omega)
  have hMw : IntKind.u64.wrap ((M : Int) + 1) = ((M + 1 : Nat) : Int) := by rw [eI (by omega)]; rfl
  obtain ⟨M1, hM1⟩ : ∃ M1, M1 = M + 1 := ⟨_, rfl⟩
  rw [← hM1] at hset hMw
  simp only [List.take_zero, List.nil_append, Nat.zero_add, List.drop_one] at hset
  replace F := aF hset F; replace F := aF hgQ F; replace F := aF hgQ2 F; replace F := aF hMw F; replace F := aF hLl F; refine rg' (h := fun J12 hJ12 => ?_); refine gs 26 (fun g4_1 => ?_) (fun g4_1 => ?_)
  · all_goals
     replace F := aF g4_1 F; refine go2 (k := ?_); apply hJ12; apply hK11; refine cs (fun c28 => ?_) (fun c28 => ?_)
     · all_goals
        replace F := aF c28 F
        have hr : up = true ∧ ¬ a * b % c = 0 := ⟨by first | exact c28 | simpa using c28, by simpa using g4_1⟩
        have hVq : V = Q + 1 := by rw [hV, hQ]; unfold mdQ; rw [if_pos ⟨hr.1, hr.2⟩]
        obtain ⟨hu, _⟩ := hr
        subst hu
        refine sr fun _ hJ14 => ?_; apply hJ14; refine rg' (h := fun J15 hJ15 => ?_)
        refine ca (c := CF (k := σ.rows.length) (g := 0) (n := 32) (L := L) (by simp) hLl (by omega) hLm) (k := ?_)
        rintro _ _ ⟨rfl, rfl⟩
        rw [hLv, ← hVq]
        (try simp [F]); apply hJ15; apply hK10; refine sq fun K16 hK16 => ?_; refine vD 10 1 (k := ?_); refine rg' (h := fun J17 hJ17 => ?_)
        refine ca (c := zS (L := cR 65536 32 V ++ [V / 65536 ^ 32]) (n := 33) (by simp) (by omega) (by omega) (by rw [List.take_append_of_le_length (by simp)]; intro d hd; exact iT (by decide) d (List.mem_of_mem_take hd))) (k := ?_)
        rintro _ _ ⟨rfl, rfl⟩; (try rw [pF]); (try rw [e9, show (65536 : Nat) ^ 32 = 2 ^ 512 by rw [show (65536 : Nat) = 2 ^ 16 from rfl, ← Nat.pow_mul], Nat.mod_eq_of_lt hQl, ← hVq]); (try simp [F]); apply hJ17; apply hK16; refine sq fun K18 hK18 => ?_; refine sr fun _ hJ20 => ?_; apply hJ20; refine cs (fun c42 => ?_) (fun c42 => ?_)
        · all_goals
           replace F := aF c42 F
           have hbig : ¬ V < 2 ^ 256 := by have h := c42; simp at h; omega
           simp only [Nat.reducePow] at hbig
           replace F := aF hbig F; refine sr fun _ hJ22 => ?_; apply hJ22; refine bQ ?_; (try simp only [eD, bG, bV]); refine gY (h := ?_); exact gcr
        all_goals
         replace F := aF c42 F
         have hfit : V < 2 ^ 256 := by have h := c42; simp at h; omega
         simp only [Nat.reducePow] at hfit
         replace F := aF hfit F; refine aA ?_; apply hK18; refine sr fun _ hJ24 => ?_; apply hJ24; refine bQ ?_; (try simp only [eD, bG, bV]); refine gY (h := ?_); exact gcr
     all_goals
      replace F := aF c28 F
      have hVq : V = Q := by rw [hV, hQ]; unfold mdQ; rw [if_neg]; omega; rintro ⟨h1, h2⟩; simp_all
      have hu : up = false := by first | exact c28 | simpa using c28
      subst hu
      refine aA ?_; apply hK10; refine sq fun K25 hK25 => ?_; refine vD 10 1 (k := ?_); refine rg' (h := fun J26 hJ26 => ?_)
      refine ca (c := zS (L := cR 65536 32 Q) (n := 32) (by simp) (by omega) (by omega) (by intro d hd; exact iT (by decide) d (List.mem_of_mem_take hd))) (k := ?_)
      rintro _ _ ⟨rfl, rfl⟩; (try rw [pF]); (try rw [e9, show (65536 : Nat) ^ 32 = 2 ^ 512 by rw [show (65536 : Nat) = 2 ^ 16 from rfl, ← Nat.pow_mul], Nat.mod_eq_of_lt hQl, ← hVq]); (try simp [F]); apply hJ26; apply hK25; refine sq fun K27 hK27 => ?_; refine sr fun _ hJ29 => ?_; apply hJ29; refine cs (fun c42 => ?_) (fun c42 => ?_)
      · all_goals
         replace F := aF c42 F
         have hbig : ¬ V < 2 ^ 256 := by have h := c42; simp at h; omega
         simp only [Nat.reducePow] at hbig
         replace F := aF hbig F; refine sr fun _ hJ31 => ?_; apply hJ31; refine bQ ?_; (try simp only [eD, bG, bV]); refine gY (h := ?_); exact gcr
      all_goals
       replace F := aF c42 F
       have hfit : V < 2 ^ 256 := by have h := c42; simp at h; omega
       simp only [Nat.reducePow] at hfit
       replace F := aF hfit F; refine aA ?_; apply hK27; refine sr fun _ hJ33 => ?_; apply hJ33; refine bQ ?_; (try simp only [eD, bG, bV]); refine gY (h := ?_); exact gcr
  all_goals
   replace F := aF g4_1 F
   have hVq : V = Q := by have h := g4_1; simp at h; rw [hV, hQ]; unfold mdQ; rw [if_neg (fun h2 => h2.2 h)]; rfl
   refine no2 (k := ?_); apply hJ12; apply hK11; refine cf ?_; refine aA ?_; apply hK10; refine sq fun K34 hK34 => ?_; refine vD 10 1 (k := ?_); refine rg' (h := fun J35 hJ35 => ?_)
   refine ca (c := zS (L := cR 65536 32 Q) (n := 32) (by simp) (by omega) (by omega) (by intro d hd; exact iT (by decide) d (List.mem_of_mem_take hd))) (k := ?_)
   rintro _ _ ⟨rfl, rfl⟩; (try rw [pF]); (try rw [e9, show (65536 : Nat) ^ 32 = 2 ^ 512 by rw [show (65536 : Nat) = 2 ^ 16 from rfl, ← Nat.pow_mul], Nat.mod_eq_of_lt hQl, ← hVq]); (try simp [F]); apply hJ35; apply hK34; refine sq fun K36 hK36 => ?_; refine sr fun _ hJ38 => ?_; apply hJ38; refine cs (fun c42 => ?_) (fun c42 => ?_)
   · all_goals
      replace F := aF c42 F
      have hbig : ¬ V < 2 ^ 256 := by have h := c42; simp at h; omega
      simp only [Nat.reducePow] at hbig
      replace F := aF hbig F; refine sr fun _ hJ40 => ?_; apply hJ40; refine bQ ?_; (try simp only [eD, bG, bV]); refine gY (h := ?_); exact gcr
   all_goals
    replace F := aF c42 F
    have hfit : V < 2 ^ 256 := by have h := c42; simp at h; omega
    simp only [Nat.reducePow] at hfit
    replace F := aF hfit F; refine aA ?_; apply hK36; refine sr fun _ hJ42 => ?_; apply hJ42; refine bQ ?_; (try simp only [eD, bG, bV]); refine gY (h := ?_); exact gcr
end Go.Proofs.YtjpnjhlfieklfaaGreat
namespace Go.Proofs.YtjpnjhlfieklfaaGreat
set_option maxHeartbeats 1600000
open Go Go.Vm
attribute [local simp] dM aI dJ opA bH bN cM bP ofValue dC plain aQ aR cA b8 cC cB bY b7 b9 bZ cV gN bW cG cD b6 bU aT aS bO cU aW dQ dR bK aZ cL gA bS dE cF AV.cells AV.bL dF cO eZ bF aV cQ dI dS dV cN aN dP dO fX eY eV cW cT cI List.getElem?_cons_zero List.getElem?_cons_succ mS kE dA
theorem qP {σ : St} {f : Nat → Nat} (hf : ∀ d, d < 8 → f d < 2 ^ 256) :
  aE Tryz.prog 17 [.agg (iV (fD f))] σ (fun av σ' => av = .sl 5 (aL (fR f 8)) (fR f 8).length .shut ∧ σ = σ') := by
 refine aU ?_ (by simp [AV.under])
 have hpl : (iV (fD f)).length = 32 := by rw [Dz]; simp
 have F := And.intro hpl (True.intro)
 refine aB Tryz.func17 rfl rfl rfl ?_; refine sr fun _ hJ2 => ?_; apply hJ2; refine sr fun _ hJ4 => ?_; apply hJ4; refine sq fun K5 hK5 => ?_; refine sr fun _ hJ7 => ?_; apply hJ7; refine aD ?_; refine cK (X := Nat) [1, 2] (fun d ρ σ1 => (d ≤ 8) ∧ (ρ 3 = grA σ.toks.length 5 (neB (fR f d)) (aL (fR f d)) (fR f d).length) ∧ (ρ 4 = .v (.int .i64 d)) ∧ (σ1 = { σ with objs := σ.objs ++ [iV (fD f)], toks := σ.toks ++ grT (neB (fR f d)) (fR f d).length })) (fun d => 8 - d) (0) ?st1 ?rd1
 case st1 =>
  refine ⟨lp, ?_, lp, ?_⟩
  · rfl
  · simp [fR]
 case rd1 =>
  rintro d ρ1 σ1 hF1 ⟨hj, h3, h4, hσ⟩; obtain rfl := hσ.symm
  have f1 := dU hF1
  (try simp [dT, F] at f1); replace F := aF h3 F; replace F := aF h4 F; (try replace F := aF f1 F); refine sq fun K8 hK8 => ?_; refine sr fun _ hJ10 => ?_; apply hJ10; refine cs (fun c6 => ?_) (fun c6 => ?_)
  · all_goals
     replace F := aF c6 F; refine aA ?_; apply hK8; refine sq fun K11 hK11 => ?_; refine aD ?_; refine sq fun K12 hK12 => ?_
     have hd8 : d < 8 := by simp at c6; omega
     have hat := kR (P := fD f) (d := d) (by simpa using hd8)
     rw [jZ hd8] at hat
     have hb1 : d * 4 + 4 ≤ 32 := by omega
     have hd5 : (d : Int) < 8 := by omega
     have hw8 : IntKind.u8.wrap (d : Int) = (d : Int) := y5 ⟨by omega, by omega⟩
     obtain ⟨c, hc⟩ : ∃ c : bD, c = ⟨UInt8.ofNat d, Num.of (f d)⟩ := ⟨_, rfl⟩
     have hcn : c.n.v = f d := by rw [hc]; exact Num.qA (hf d hd8)
     have hcd : (c.d.toNat : Int) = (d : Int) := by rw [hc]; simp only [mW (show d < 256 by omega)]
     have hcoin : AV.v (.int .u8 (d : Int)) :: aM (f d) = dX c := by rw [dX, hcd, hcn]
     obtain ⟨L, hL⟩ : ∃ L, L = fR f d := ⟨_, rfl⟩
     have hLl : L.length ≤ 8 := by rw [hL]; exact Nat.le_trans (tT _ _) hj
     rw [← hL] at h3 F
     rw [← hL]
     have hb0 : neB L = false → aL L = [] ∧ L.length = 0 := fun h => by rw [IG h]; simp
     have happ : ∀ objs, dG Tryz.prog 23 (grA σ.toks.length 5 (neB L) (aL L) L.length) (.sl 5 (dX c) 1 .full) ⟨objs, σ.toks ++ grT (neB L) L.length, σ.gl, σ.rows⟩ = some (grA σ.toks.length 5 true (aL L ++ dX c) (L.length + 1), ⟨objs, σ.toks ++ grT true (L.length + 1), σ.gl, σ.rows⟩) := fun objs => kM elemT_23 ti_38 (by decide) rfl hb0 (.inl rfl) (by simp [gH]; omega) (by simp [maxLen]; omega)
     have hcl : (dX c).length = 5 := rfl
     have hca : (dX c).all AV.bL = true := rfl
     have hdr : ∀ f : Nat → AV, List.drop 5 (List.map f (List.range 5)) = [] := fun _ => rfl
     replace F := aF hcl F; replace F := aF hca F; replace F := aF hdr F; replace F := aF hat F; replace F := aF hb1 F; replace F := aF hd5 F; replace F := aF hd8 F; replace F := aF hw8 F; replace F := aF hcoin F; replace F := aF happ F; refine rg' (h := fun J13 hJ13 => ?_); refine ca (c := BA (x := ⟨f d, hf d hd8⟩)) (k := ?_); rintro _ _ ⟨rfl, rfl⟩; (try simp [F]); apply hJ13; apply hK12; refine cs (fun c13 => ?_) (fun c13 => ?_)
     · all_goals
        replace F := aF c13 F
        have hnx : fR f (d + 1) = L ++ [c] := by rw [hL, hc]; simp only [fR]; rw [if_neg (by simpa using c13)]
        refine rg' (h := fun J14 hJ14 => ?_); apply hJ14; apply hK11; refine rg' (h := fun J15 hJ15 => ?_); apply hJ15; refine ⟨(d + 1), ⟨kp, lp, ?_, lp, ?_⟩, lp⟩
        · rw [hnx, ← qK]
          simp [F]
        · rw [hnx]
          simp [F]
     all_goals
      replace F := aF c13 F
      have hnx : fR f (d + 1) = L := by rw [hL]; simp only [fR]; rw [if_pos (by simpa using c13), List.append_nil]
      refine aA ?_; apply hK11; refine rg' (h := fun J16 hJ16 => ?_); apply hJ16; refine ⟨(d + 1), ⟨kp, lp, ?_, lp, ?_⟩, lp⟩
      · rw [hnx]
        simp [F]
      · rw [hnx]
  all_goals
   replace F := aF c6 F
   obtain rfl : d = 8 := by simp at c6; omega
   refine bJ ?_; apply hK5; refine sr fun _ hJ18 => ?_; apply hJ18; refine ra ?_
   refine gcr (hA := by simp only [aP]; simp [F]; exact rJ (fun h => by rw [IG h]; simp))
theorem lQ (g : Nat → Nat) : (iV (fD g)).length = 32 := by rw [Dz]; simp
theorem mA (g : Nat → Nat) : (iV (fD g)).take 32 = iV (fD g) := List.take_of_length_le (by rw [lQ]; decide)
theorem mX (g : Nat → Nat) : (iV (fD g)).drop 32 = [] := List.drop_of_length_le (by rw [lQ]; decide)
theorem B9 (g : Nat → Nat) : ∀ x ∈ iV (fD g), x.bL = true := by simpa using Dk (fD g)
theorem rQ (g : Nat → Nat) : (∀ x, x ∈ iV (fD g) → x.bL = true) = True := eq_true (B9 g)
theorem nM {σ : St} {l : List bD} {tl : eO} (hl : bA l) :
  aE Tryz.prog 50 [.sl 5 (aL l) l.length tl] σ (fun av σ' => av = .agg (iV (fD (amt l))) ∧ σ = σ') := by
 refine aU ?_ (by simp [AV.under, DY])
 have hl8 := dZ hl
 have hPl := lQ
 have hPt := mA
 have hPd := mX
 have hPc := B9
 simp only [AV.bL] at hPc
 have F := And.intro hPl (And.intro hPt (And.intro hPd (And.intro hPc (True.intro))))
 refine aB Tryz.func50 rfl rfl rfl ?_; refine sr fun _ hJ2 => ?_; apply hJ2; refine sr fun _ hJ4 => ?_; apply hJ4; refine sq fun K5 hK5 => ?_; refine sr fun _ hJ7 => ?_; apply hJ7; refine aD ?_; refine cK (X := Nat) [0, 2, 3] (fun i ρ σ1 => (i ≤ l.length) ∧ (ρ 4 = .v (.int .i64 i)) ∧ (σ1 = { σ with objs := σ.objs ++ [iV (fD fun _ => 0), iV (fD (amt (l.take i)))] })) (fun i => l.length - i) (0) ?st1 ?rd1
 case st1 =>
  refine ⟨lp, lp, ?_⟩
  · simp only [List.take_zero, show amt [] = fun _ => 0 from rfl, rZ]
 case rd1 =>
  rintro i ρ1 σ1 hF1 ⟨hi, h4, hσ⟩; obtain rfl := hσ.symm
  have f1 := dU hF1
  (try simp [dT, F] at f1); replace F := aF h4 F; (try replace F := aF f1 F); refine sq fun K8 hK8 => ?_; refine sr fun _ hJ10 => ?_; apply hJ10; refine cs (fun c8 => ?_) (fun c8 => ?_)
  · all_goals
     replace F := aF c8 F; refine aA ?_; apply hK8; refine sq fun K11 hK11 => ?_; refine aD ?_
     have hlt : i < l.length := by simp at c8; omega
     have hat := gG hlt
     simp only [dX] at hat
     have hb1 : i * 5 + 5 ≤ l.length * 5 := by omega
     obtain ⟨c, hc⟩ : ∃ c, c = l[i] := ⟨_, rfl⟩
     rw [← hc] at hat
     have htk : l.take (i + 1) = l.take i ++ [c] := by rw [hc]; exact (List.take_append_getElem hlt).symm
     have hR : bA (l.take i ++ [c]) := by rw [← htk]; exact sX hl _
     have hd8 : c.d.toNat < 8 := (gX.1 hR).2.1.1
     obtain ⟨d, hd⟩ : ∃ d, d = c.d.toNat := ⟨_, rfl⟩
     rw [← hd] at hat hd8
     have hd5 : (d : Int) < 8 := by omega
     have hb2 : d * 4 + 4 ≤ 32 := by omega
     obtain ⟨f, hf⟩ : ∃ f, f = amt (l.take i) := ⟨_, rfl⟩
     rw [← hf]
     have hset := oM (P := fD f) (d := d) (by simpa using hd8) c.n.v
     rw [oX] at hset
     have hnx : fD (fun j => if j = d then c.n.v else f j) = fD (amt (l.take (i + 1))) := yC (fun j _ => by rw [htk, qJ hR, ← hd, hf])
     rw [hnx] at hset
     replace F := aF hat F; replace F := aF hb1 F; replace F := aF hset F; replace F := aF hd8 F; replace F := aF hd5 F; replace F := aF hb2 F
     refine bI (by kernel_rfl) fun J12 hJ12 => ?_
     refine q2 0 ?_; refine q2 1 ?_; refine q2 2 ?_; refine q2 3 ?_; refine q2 4 ?_; refine q2 5 ?_; refine q2 6 ?_; refine q2 7 ?_; refine q2 8 ?_; refine q2 9 ?_; refine q2 10 ?_; refine dop 11 rfl ?_; (try simp [F]); refine ⟨ln, ?_⟩; refine dd ?_; apply hJ12; apply hK11; refine rg' (h := fun J13 hJ13 => ?_); apply hJ13; refine ⟨(i + 1), ⟨kp, lp, lp, lp⟩, lp⟩
  all_goals
   replace F := aF c8 F
   have hend : l.take i = l := List.take_of_length_le (by simp at c8; omega)
   rw [hend]
   refine bJ ?_; apply hK5; refine sr fun _ hJ15 => ?_; apply hJ15; refine bQ ?_; (try simp only [eD, bG, bV]); refine j1 (h := ?_); exact gcr
theorem Gi (fa fb : Nat → Nat) (d j : Nat) : (if j = d then fa d + fb d else if j < d then fa j + fb j else fa j) = if j < d + 1 then fa j + fb j else fa j := by
 by_cases h : j = d
 · subst h; simp
 · by_cases h2 : j < d
   · rw [if_neg h, if_pos h2, if_pos (by omega)]
   · rw [if_neg h, if_neg h2, if_neg (by omega)]
theorem qW {σ : St} {a b : List bD} {ta tb : eO} (ha : bA a) (hb : bA b) :
  aE Tryz.prog 42 [.sl 5 (aL a) a.length ta, .sl 5 (aL b) b.length tb] σ (fun av σ' => av = .tup [.sl 5 (aL (iN a b)) (iN a b).length .shut, .v (.bool (decide (iD a b = 0)))] ∧ σ = σ') := by
 refine aU ?_ (by simp [AV.under, bB])
 have hPl := lQ
 have hPt := mA
 have hPd := mX
 have hPn : ∀ n g, bM n (iV (fD g)) = true := fun n g => lN n _
 have hPc := rQ
 simp only [AV.bL] at hPc
 obtain ⟨fa, hfa⟩ : ∃ fa, fa = amt a := ⟨_, rfl⟩
 obtain ⟨fb, hfb⟩ : ∃ fb, fb = amt b := ⟨_, rfl⟩
 obtain ⟨fs, hfs⟩ : ∃ fs : Nat → Nat → Nat, fs = fun d j => if j < d then fa j + fb j else fa j := ⟨_, rfl⟩
 have hfs0 : fs 0 = fa := by rw [hfs]; funext j; simp
 have hla : ∀ d, fa d < 2 ^ 256 := fun d => by rw [hfa]; exact gD _ _
 have hlb : ∀ d, fb d < 2 ^ 256 := fun d => by rw [hfb]; exact gD _ _
 have F := And.intro hPl (And.intro hPt (And.intro hPd (And.intro hPc (And.intro hPn (True.intro)))))
 refine aB Tryz.func42 rfl rfl rfl ?_; refine sr fun _ hJ2 => ?_; apply hJ2; refine sr fun _ hJ4 => ?_; refine ca (c := (hfa ▸ nM ha)) (k := ?_); rintro _ _ ⟨rfl, rfl⟩; (try simp [F]); refine ca (c := (hfb ▸ nM hb)) (k := ?_); rintro _ _ ⟨rfl, rfl⟩; (try simp [F]); apply hJ4; refine sq fun K5 hK5 => ?_; refine sr fun _ hJ7 => ?_; apply hJ7; refine aD ?_; refine fA (X := Nat) [6, 7] (fun d ρ σ1 => (d ≤ 8) ∧ (∀ j, j < d → fa j + fb j < 2 ^ 256) ∧ (ρ 8 = .v (.int .i64 d)) ∧ (σ1 = { σ with objs := σ.objs ++ [iV (fD (fs d)), iV (fD fb)] })) (fun d => 8 - d) (0) ?st1 ?rd1
 case st1 =>
  refine ⟨lp, ?_, lp, ?_⟩
  · intro j hj
    exact absurd hj (Nat.not_lt_zero j)
  · rw [hfs0]
 case rd1 =>
  rintro d ρ1 σ1 hF1 ⟨hd, hE, h8, hσ⟩; obtain rfl := hσ.symm
  have f1 := dU hF1
  (try simp [dT, F] at f1); replace F := aF h8 F; (try replace F := aF f1 F); refine sq fun K8 hK8 => ?_; refine sr fun _ hJ10 => ?_; apply hJ10; refine cs (fun c16 => ?_) (fun c16 => ?_)
  · all_goals
     replace F := aF c16 F; refine aA ?_; apply hK8; refine sq fun K11 hK11 => ?_; refine aD ?_; refine sq fun K12 hK12 => ?_
     have hd8 : d < 8 := by simp at c16; omega
     have hd5 : (d : Int) < 8 := by omega
     have hb2 : d * 4 + 4 ≤ 32 := by omega
     have hata := kR (P := fD (fs d)) (d := d) (by simpa using hd8)
     rw [jZ hd8] at hata
     have hatb := kR (P := fD fb) (d := d) (by simpa using hd8)
     rw [jZ hd8] at hatb
     have hfd : fs d d = fa d := by rw [hfs]; simp
     rw [hfd] at hata
     have hset := oM (P := fD (fs d)) (d := d) (by simpa using hd8) (fa d + fb d)
     rw [oX] at hset
     have hnx : (fun j => if j = d then fa d + fb d else fs d j) = fs (d + 1) := by rw [hfs]; funext j; simp only; exact Gi fa fb d j
     rw [hnx] at hset
     replace F := aF hata F; replace F := aF hatb F; replace F := aF hset F; replace F := aF hd8 F; replace F := aF hd5 F; replace F := aF hb2 F
     refine bI (by kernel_rfl) fun J13 hJ13 => ?_
     refine q2 0 ?_; refine q2 1 ?_; refine q2 2 ?_; refine q2 3 ?_; refine q2 4 ?_; refine q2 5 ?_; refine d2 6 10 ?_ ?_
     · refine ac 6 rfl (c := EV (hla d) (hlb d)) (k := ?_); rintro _ _ ⟨rfl, rfl⟩
       refine ⟨by first | exact fun _ _ h => h | (refine aH [4, 3, 1, 0] (by kernel_rfl) ?_; (repeat' first | exact ln2 | refine lc ?_ ?_) <;> constructor <;> first | rfl | (simp [F]; done)), ?_⟩
       (try simp [F]); refine q2 7 ?_; refine q2 8 ?_; refine q2 9 ?_; refine dop 10 rfl ?_; try simp [F]
       refine ⟨by first | exact cH _ (by kernel_rfl) | exact bT (by kernel_rfl) rfl, ?_⟩
       refine dop 11 rfl ?_; try simp [F]
       refine ⟨cE (by kernel_rfl), ?_⟩
       refine q2 12 ?_; refine dd ?_; apply hJ13; apply hK12; refine sq fun K14 hK14 => ?_; refine sr fun _ hJ16 => ?_; apply hJ16; refine cs (fun c30 => ?_) (fun c30 => ?_)
       · all_goals
          replace F := aF c30 F
          have hs : ¬ fa d + fb d < 2 ^ 256 := by simpa using c30
          have he : ¬ iD a b = 0 := fun h => hs (by have := jJ.1 h d hd8; rw [hfa, hfb]; exact this)
          have hL := yV he
          replace F := aF hL (And.intro he F); refine sr fun _ hJ18 => ?_; apply hJ18; refine bQ ?_; (try simp only [eD, bG, bV]); refine fV rfl (.inr rfl) ?_
          rw [hL, decide_eq_false he]
          exact gcr (hA := WkL.tup (.cons (Wk.nil _ _ _) (.cons (Wk.refl _) .nil)))
       all_goals
        replace F := aF c30 F
        have hs : fa d + fb d < 2 ^ 256 := by simpa using c30
        have hs2 : nH (fa d) (fb d) = fa d + fb d := if_pos hs
        replace F := aF hs2 F; refine aA ?_; apply hK14; refine rg' (h := fun J19 hJ19 => ?_); apply hJ19; apply hK11; refine rg' (h := fun J20 hJ20 => ?_); apply hJ20; refine ⟨gk, (d + 1), ⟨kpG, lpG, ?_, lpG, lpG⟩, lpG⟩
        · intro j hj
          rcases Nat.lt_or_ge j d with h | h
          · exact hE j h
          · obtain rfl : j = d := by omega
            exact hs
     · refine ao 10 rfl ?_; try simp [F]
       refine ⟨by first | exact cH _ (by kernel_rfl) | exact bT (by kernel_rfl) rfl, ?_⟩
       refine dc 6 rfl (c := EV (hla d) (hlb d)) (k := ?_); rintro _ _ ⟨rfl, rfl⟩
       refine ⟨by first | exact fun _ _ h => h | (refine aH [4, 3, 1, 0] (by kernel_rfl) ?_; (repeat' first | exact ln2 | refine lc ?_ ?_) <;> constructor <;> first | rfl | (simp [F]; done)), ?_⟩
       (try simp [F]); refine q2 7 ?_; refine q2 8 ?_; refine q2 9 ?_; refine dop 11 rfl ?_; try simp [F]
       refine ⟨cE (by kernel_rfl), ?_⟩
       refine q2 12 ?_; refine dd ?_; apply hJ13; apply hK12; refine sq fun K21 hK21 => ?_; refine sr fun _ hJ23 => ?_; apply hJ23; refine cs (fun c30 => ?_) (fun c30 => ?_)
       · all_goals
          replace F := aF c30 F
          have hs : ¬ fa d + fb d < 2 ^ 256 := by simpa using c30
          have he : ¬ iD a b = 0 := fun h => hs (by have := jJ.1 h d hd8; rw [hfa, hfb]; exact this)
          have hL := yV he
          replace F := aF hL (And.intro he F); refine sr fun _ hJ25 => ?_; apply hJ25; refine bQ ?_; (try simp only [eD, bG, bV]); refine fV rfl (.inr rfl) ?_
          rw [hL, decide_eq_false he]
          exact gcr (hA := WkL.tup (.cons (Wk.nil _ _ _) (.cons (Wk.refl _) .nil)))
       all_goals
        replace F := aF c30 F
        have hs : fa d + fb d < 2 ^ 256 := by simpa using c30
        have hs2 : nH (fa d) (fb d) = fa d + fb d := if_pos hs
        replace F := aF hs2 F; refine aA ?_; apply hK21; refine rg' (h := fun J26 hJ26 => ?_); apply hJ26; apply hK11; refine rg' (h := fun J27 hJ27 => ?_); apply hJ27; refine ⟨gk, (d + 1), ⟨kpG, lpG, ?_, lpG, lpG⟩, lpG⟩
        · intro j hj
          rcases Nat.lt_or_ge j d with h | h
          · exact hE j h
          · obtain rfl : j = d := by omega
            exact hs
  all_goals
   replace F := aF c16 F
   obtain rfl : d = 8 := by simp at c16; omega
   have he : iD a b = 0 := jJ.2 (fun d hd => by have := hE d hd; rw [hfa, hfb] at this; exact this)
   have hL : fR (fs 8) 8 = iN a b := by rw [rV he, hfs, hfa, hfb]; exact iI (fun i hi => by simp [hi])
   have hf8 : ∀ d, d < 8 → fs 8 d < 2 ^ 256 := fun d hd => by rw [hfs]; simp only [if_pos hd]; exact hE d hd
   replace F := aF he F; refine bJ ?_; apply hK5; refine sr fun _ hJ29 => ?_; refine ca (c := (hL ▸ qP hf8)) (k := ?_); rintro _ _ ⟨rfl, rfl⟩; (try simp [F]); apply hJ29; refine bQ ?_; (try simp only [eD, bG, bV]); refine fV rfl (.inr rfl) ?_; exact gcr
theorem DN (fa fb : Nat → Nat) (d j : Nat) : (if j = d then fa d - fb d else if j < d then fa j - fb j else fa j) = if j < d + 1 then fa j - fb j else fa j := by
 by_cases h : j = d
 · subst h; simp
 · by_cases h2 : j < d
   · rw [if_neg h, if_pos h2, if_pos (by omega)]
   · rw [if_neg h, if_neg h2, if_neg (by omega)]
theorem GH {σ : St} {a b : List bD} {ta tb : eO} (ha : bA a) (hb : bA b) :
  aE Tryz.prog 114 [.sl 5 (aL a) a.length ta, .sl 5 (aL b) b.length tb] σ (fun av σ' => av = .sl 5 (aL (kA a b)) (kA a b).length .shut ∧ σ = σ') := by
 refine aU ?_ (by simp [AV.under, bB])
 have hPl := lQ
 have hPt := mA
 have hPd := mX
 have hPn : ∀ n g, bM n (iV (fD g)) = true := fun n g => lN n _
 have hPc := rQ
 simp only [AV.bL] at hPc
 obtain ⟨fa, hfa⟩ : ∃ fa, fa = amt a := ⟨_, rfl⟩
 obtain ⟨fb, hfb⟩ : ∃ fb, fb = amt b := ⟨_, rfl⟩
 have hla : ∀ d, fa d < 2 ^ 256 := fun d => by rw [hfa]; exact gD _ _
 have hlb : ∀ d, fb d < 2 ^ 256 := fun d => by rw [hfb]; exact gD _ _
 obtain ⟨fs, hfs⟩ : ∃ fs : Nat → Nat → Nat, fs = fun d j => if j < d then fa j - fb j else fa j := ⟨_, rfl⟩
 have hfs0 : fs 0 = fa := by rw [hfs]; funext j; simp
 have F := And.intro hPl (And.intro hPt (And.intro hPd (And.intro hPc (And.intro hPn (True.intro)))))
 refine aB Tryz.func114 rfl rfl rfl ?_; refine sr fun _ hJ2 => ?_; apply hJ2; refine sr fun _ hJ4 => ?_; refine ca (c := (hfa ▸ nM ha)) (k := ?_); rintro _ _ ⟨rfl, rfl⟩; (try simp [F]); refine ca (c := (hfb ▸ nM hb)) (k := ?_); rintro _ _ ⟨rfl, rfl⟩; (try simp [F]); apply hJ4; refine sq fun K5 hK5 => ?_; refine sr fun _ hJ7 => ?_; apply hJ7; refine aD ?_; refine cK (X := Nat) [4, 5, 6] (fun d ρ σ1 => (d ≤ 8) ∧ (ρ 7 = .v (.int .i64 d)) ∧ (σ1 = { σ with objs := σ.objs ++ [iV (fD (fs d)), iV (fD fb)] })) (fun d => 8 - d) (0) ?st1 ?rd1
 case st1 =>
  refine ⟨lp, lp, ?_⟩
  · rw [hfs0]
 case rd1 =>
  rintro d ρ1 σ1 hF1 ⟨hd, h8, hσ⟩; obtain rfl := hσ.symm
  have f1 := dU hF1
  (try simp [dT, F] at f1); replace F := aF h8 F; (try replace F := aF f1 F); refine sq fun K8 hK8 => ?_; refine sr fun _ hJ10 => ?_; apply hJ10; refine cs (fun c13 => ?_) (fun c13 => ?_)
  · all_goals
     replace F := aF c13 F; refine aA ?_; apply hK8; refine sq fun K11 hK11 => ?_; refine aD ?_
     have hd8 : d < 8 := by simp at c13; omega
     have hd5 : (d : Int) < 8 := by omega
     have hb2 : d * 4 + 4 ≤ 32 := by omega
     have hata := kR (P := fD (fs d)) (d := d) (by simpa using hd8)
     rw [jZ hd8] at hata
     have hatb := kR (P := fD fb) (d := d) (by simpa using hd8)
     rw [jZ hd8] at hatb
     have hfd : fs d d = fa d := by rw [hfs]; simp
     rw [hfd] at hata
     have hset := oM (P := fD (fs d)) (d := d) (by simpa using hd8) (fa d - fb d)
     rw [oX] at hset
     have hnx : (fun j => if j = d then fa d - fb d else fs d j) = fs (d + 1) := by rw [hfs]; funext j; simp only; exact DN fa fb d j
     rw [hnx] at hset
     replace F := aF hata F; replace F := aF hatb F; replace F := aF hset F; replace F := aF hd8 F; replace F := aF hd5 F; replace F := aF hb2 F
     refine bI (by kernel_rfl) fun J12 hJ12 => ?_
     refine q2 0 ?_; refine q2 1 ?_; refine q2 2 ?_; refine q2 3 ?_; refine q2 4 ?_; refine q2 5 ?_; refine q2 6 ?_; refine dc 7 rfl (c := yW (hla d) (hlb d)) (k := ?_); rintro _ _ ⟨rfl, rfl⟩
     refine ⟨by first | exact fun _ _ h => h | (refine aH [5, 4, 2, 1, 0] (by kernel_rfl) ?_; (repeat' first | exact ln2 | refine lc ?_ ?_) <;> constructor <;> first | rfl | (simp [F]; done)), ?_⟩
     (try simp [F]); refine q2 8 ?_; refine dop 9 rfl ?_; (try simp [F]); refine ⟨ln, ?_⟩; refine dd ?_; apply hJ12; apply hK11; refine rg' (h := fun J13 hJ13 => ?_); apply hJ13; refine ⟨(d + 1), ⟨kp, lp, lp, lp⟩, lp⟩
  all_goals
   replace F := aF c13 F
   obtain rfl : d = 8 := by simp at c13; omega
   have hL : fR (fs 8) 8 = kA a b := by rw [uF, hfs, hfa, hfb]; exact iI (fun i hi => by simp [hi])
   have hf8 : ∀ d, d < 8 → fs 8 d < 2 ^ 256 := fun d hd => by rw [hfs]; simp only [if_pos hd]; exact Nat.lt_of_le_of_lt (Nat.sub_le _ _) (hla d)
   refine bJ ?_; apply hK5; refine sr fun _ hJ15 => ?_; refine ca (c := (hL ▸ qP hf8)) (k := ?_); rintro _ _ ⟨rfl, rfl⟩; (try simp [F]); apply hJ15; refine ra ?_; exact gcr
def Au (a b : List bD) : Prop := ∀ d, d < 8 → amt a d ≤ amt b d
instance (a b : List bD) : Decidable (Au a b) := inferInstanceAs (Decidable (∀ d, d < 8 → amt a d ≤ amt b d))
theorem Ga {σ : St} {a b : List bD} {ta tb : eO} (ha : bA a) (hb : bA b) :
  aE Tryz.prog 22 [.sl 5 (aL a) a.length ta, .sl 5 (aL b) b.length tb] σ (fun av σ' => av = .v (.bool (decide (Au a b))) ∧ σ = σ') := by
 refine aU ?_ rfl
 have hPl := lQ
 have hPt := mA
 have hPd := mX
 have hPn : ∀ n g, bM n (iV (fD g)) = true := fun n g => lN n _
 have hPc := rQ
 simp only [AV.bL] at hPc
 obtain ⟨fa, hfa⟩ : ∃ fa, fa = amt a := ⟨_, rfl⟩
 obtain ⟨fb, hfb⟩ : ∃ fb, fb = amt b := ⟨_, rfl⟩
 have hla : ∀ d, fa d < 2 ^ 256 := fun d => by rw [hfa]; exact gD _ _
 have hlb : ∀ d, fb d < 2 ^ 256 := fun d => by rw [hfb]; exact gD _ _
 have F := And.intro hPl (And.intro hPt (And.intro hPd (And.intro hPc (And.intro hPn (True.intro)))))
 refine aB Tryz.func22 rfl rfl rfl ?_; refine sr fun _ hJ2 => ?_; apply hJ2; refine sr fun _ hJ4 => ?_; refine ca (c := (hfa ▸ nM ha)) (k := ?_); rintro _ _ ⟨rfl, rfl⟩; (try simp [F]); refine ca (c := (hfb ▸ nM hb)) (k := ?_); rintro _ _ ⟨rfl, rfl⟩; (try simp [F]); apply hJ4; refine sq fun K5 hK5 => ?_; refine sr fun _ hJ7 => ?_; apply hJ7; refine aD ?_; refine cK (X := Nat) [5, 6] (fun d ρ σ1 => (d ≤ 8) ∧ (∀ j, j < d → fa j ≤ fb j) ∧ (ρ 7 = .v (.int .i64 d)) ∧ (σ1 = { σ with objs := σ.objs ++ [iV (fD fa), iV (fD fb)] })) (fun d => 8 - d) (0) ?st1 ?rd1
 case st1 =>
  refine ⟨lp, ?_, lp, ?_⟩
  · intro j hj
    exact absurd hj (Nat.not_lt_zero j)
  · rfl
 case rd1 =>
  rintro d ρ1 σ1 hF1 ⟨hd, hE, h8, hσ⟩; obtain rfl := hσ.symm
  have f1 := dU hF1
  (try simp [dT, F] at f1); replace F := aF h8 F; (try replace F := aF f1 F); refine sq fun K8 hK8 => ?_; refine sr fun _ hJ10 => ?_; apply hJ10; refine cs (fun c13 => ?_) (fun c13 => ?_)
  · all_goals
     replace F := aF c13 F; refine aA ?_; apply hK8; refine sq fun K11 hK11 => ?_; refine aD ?_; refine sq fun K12 hK12 => ?_
     have hd8 : d < 8 := by simp at c13; omega
     have hd5 : (d : Int) < 8 := by omega
     have hb2 : d * 4 + 4 ≤ 32 := by omega
     have hata := kR (P := fD fa) (d := d) (by simpa using hd8)
     rw [jZ hd8] at hata
     have hatb := kR (P := fD fb) (d := d) (by simpa using hd8)
     rw [jZ hd8] at hatb
     replace F := aF hata F; replace F := aF hatb F; replace F := aF hd8 F; replace F := aF hd5 F; replace F := aF hb2 F
     refine bI (by kernel_rfl) fun J13 hJ13 => ?_
     refine q2 0 ?_; refine q2 1 ?_; refine q2 2 ?_; refine q2 3 ?_; refine q2 4 ?_; refine q2 5 ?_; refine dc 6 rfl (c := Bv (hla d) (hlb d)) (k := ?_); rintro _ _ ⟨rfl, rfl⟩
     refine ⟨by first | exact fun _ _ h => h | (refine aH [4, 3, 1, 0] (by kernel_rfl) ?_; (repeat' first | exact ln2 | refine lc ?_ ?_) <;> constructor <;> first | rfl | (simp [F]; done)), ?_⟩
     (try simp [F]); refine q2 7 ?_; refine dd ?_; apply hJ13; apply hK12; refine cs (fun c23 => ?_) (fun c23 => ?_)
     · all_goals
        replace F := aF c23 F
        have hs : ¬ fa d ≤ fb d := by have h := c23; simp [nG] at h; split at h <;> (try split at h) <;> first | omega | (simp at h)
        have he : ¬ Au a b := fun h => hs (by have := h d hd8; rw [hfa, hfb]; exact this)
        replace F := aF he F; refine sr fun _ hJ15 => ?_; apply hJ15; refine ra ?_
        rw [decide_eq_false he]
        exact gcr
     all_goals
      replace F := aF c23 F
      have hs : fa d ≤ fb d := by have h := c23; simp [nG] at h; split at h <;> (try split at h) <;> first | omega | (simp at h)
      refine aA ?_; apply hK11; refine rg' (h := fun J16 hJ16 => ?_); apply hJ16; refine ⟨(d + 1), ⟨kp, lp, ?_, lp, lp⟩, lp⟩
      · intro j hj
        rcases Nat.lt_or_ge j d with h | h
        · exact hE j h
        · obtain rfl : j = d := by omega
          exact hs
  all_goals
   replace F := aF c13 F
   obtain rfl : d = 8 := by simp at c13; omega
   have he : Au a b := fun d hd => by have := hE d hd; rw [hfa, hfb] at this; exact this
   replace F := aF he F; refine bJ ?_; apply hK5; refine sr fun _ hJ18 => ?_; apply hJ18; refine ra ?_; exact gcr
end Go.Proofs.YtjpnjhlfieklfaaGreat
namespace Go.Proofs.YtjpnjhlfieklfaaGreat
open Go Go.Vm
attribute [local simp] dM aI dJ opA bH bN cM bP ofValue dC plain aQ aR cA b8 cC cB bY b7 b9 bZ cV bW cG cD b6 bU aT aS bO cU aW dQ dR bK aZ cL gA bS dE cF AV.cells AV.bL dF cO eZ bF aV cQ dI dS dV cN aN dP dO cW cT cI List.getElem?_cons_zero List.getElem?_cons_succ fK fL fH fG fJ fM fI fF dL eQ eB fB
variable {Ru : UInt8 → List Pr}
def enc (x : Nat) : Option (List UInt8) := if x = 0 then none else some (aO x)
def kk : Option UInt8 → List UInt8
 | none => [115]
 | some a => [98, a]
def key (o : Option UInt8) (d : UInt8) : List UInt8 := kk o ++ [d]
theorem key_inj {o o' : Option UInt8} {d d' : UInt8} : key o d = key o' d' ↔ o = o' ∧ d = d' := by
 cases o <;> cases o' <;> simp [key, kk]
theorem E4 (o o' : Option UInt8) (d : UInt8) : preB (key o' d) (kk o) = decide (o' = o) := by
 cases o <;> cases o' <;> simp [key, kk, preB]
theorem Bq (o : Option UInt8) (d : UInt8) : (key o d).length ≤ 3 ∧ 2 ≤ (key o d).length := by cases o <;> simp [key, kk]
theorem IC (o : Option UInt8) : (kk o).length ≤ 2 := by cases o <;> simp [kk]
theorem Kk {x : Nat} (hx : x < 2 ^ 256) : ((enc x).getD []).length ≤ 32 := by
 unfold enc; split
 · simp
 · simpa using mC hx
theorem Kg {x : Nat} (hx : x < 2 ^ 256) : numOf ((enc x).getD []) = x := by
 unfold enc; split
 · rename_i h; subst h; rfl
 · rw [Option.getD_some, numOf, wO hx]; simpa using v3 x
abbrev Tb := Option UInt8 → List bD
structure gK (Ru : UInt8 → List Pr) (s : Sto) (T : Tb) (n : Nat) : Prop where
 ok : s.Ok n
 gt : ∀ o d, fN s.l (key o d) = enc (amt (T o) d.toNat)
 rt : ∀ o, bA (T o)
 ks : ∀ p ∈ s.l, (preB p.k [98] = true ∨ preB p.k [115] = true) → ∃ o d, p.k = key o d
 rs : ∀ c, c ≠ 98 → c ≠ 115 → Proofs.YtjpnjhlfieklfaaGreat.pl s.l [c] = Ru c
def upd (T : Tb) (o : Option UInt8) (l : List bD) : Tb := fun o' => if o' = o then l else T o'
theorem lZ (T : Tb) (o : Option UInt8) (l : List bD) : upd T o l o = l := if_pos rfl
theorem rF (T : Tb) {o o' : Option UInt8} (l : List bD) (h : o' ≠ o) : upd T o l o' = T o' := if_neg h
theorem I3 (T : Tb) (o : Option UInt8) (l m : List bD) : upd (upd T o l) o m = upd T o m := by
 funext o'; simp only [upd]; split <;> rfl
theorem KT (T : Tb) (o : Option UInt8) : upd T o (T o) = T := by
 funext o'; simp only [upd]; split
 · rename_i h; rw [h]
 · rfl
theorem Ff {l : List bD} (h : bA l) {d : Nat} (hd : 8 ≤ d) : amt l d = 0 := l8 (fun c hc e => by
 have := h.1 c hc
 omega)
def FC (l : List bD) (d x : Nat) : List bD := fR (fun i => if i = d then x else amt l i) 8
theorem Hp {l : List bD} {d x i : Nat} (hx : x < 2 ^ 256) (hl : bA l) (hd : d < 8) : amt (FC l d x) i = if i = d then x else amt l i := by
 have hf : ∀ i, i < 8 → (if i = d then x else amt l i) < 2 ^ 256 := fun i _ => by split <;> first | exact hx | exact gD l i
 by_cases h : i < 8
 · exact qB hf (Nat.le_refl 8) h
 · rw [FC, Ff (iG hf 8 (Nat.le_refl 8)) (by omega), if_neg (by omega), Ff hl (by omega)]
theorem Ei {l : List bD} {d x : Nat} (hx : x < 2 ^ 256) : bA (FC l d x) := iG (fun i _ => by split <;> first | exact hx | exact gD l i) 8 (Nat.le_refl 8)
theorem Lh (o : Option UInt8) (d : UInt8) {c : UInt8} (h1 : c ≠ 98) (h2 : c ≠ 115) : preB (key o d) [c] = false := by
 cases o <;> simp [key, kk, preB] <;> (intro e; first | exact h1 e.symm | exact h2 e.symm)
theorem Jp (o : Option UInt8) (d : UInt8) : preB (key o d) [98] = true ∨ preB (key o d) [115] = true := by
 cases o <;> simp [key, kk, preB]
theorem LK {k : List UInt8} {o : Option UInt8} (h : preB k (kk o) = true) : preB k [98] = true ∨ preB k [115] = true := by
 match k, h with
 | [], h => cases o <;> simp [kk, preB] at h
 | x :: k, h => cases o <;> simp [kk, preB] at h ⊢ <;> simp [h]
def R0 : UInt8 → List Pr := fun _ => []
theorem gK.set {s : Sto} {T : Tb} {n x : Nat} {o : Option UInt8} {d : UInt8} (h : gK Ru s T n) (hd : d.toNat < 8) (hx : x < 2 ^ 256) : gK Ru (doS s (key o d) (enc x)) (upd T o (FC (T o) d.toNat x)) (n + 1) := by
 have hl := Kk hx
 have hk := Bq o d
 refine ⟨H8 h.ok (by omega) (by omega), fun o' d' => ?_, fun o' => ?_, fun p hp hq => ?_, fun c h1 h2 => ?_⟩
 · show fN (iA s.l _ _) _ = _
   rw [Ao h.ok.srt, h.gt]
   by_cases e : o' = o
   · subst e
     rw [lZ, Hp hx (h.rt o') hd]
     by_cases e2 : d' = d
     · subst e2; rw [if_pos rfl, if_pos rfl]
     · rw [if_neg (fun q => e2 (key_inj.1 q).2), if_neg (fun q => e2 (UInt8.toNat_inj.1 q))]
   · rw [if_neg (fun q => e (key_inj.1 q).1), rF _ _ e]
 · by_cases e : o' = o
   · subst e; rw [lZ]; exact Ei hx
   · rw [rF _ _ e]; exact h.rt o'
 · rcases yM hp with hp | hp
   · exact h.ks p hp hq
   · exact ⟨o, d, hp⟩
 · show Proofs.YtjpnjhlfieklfaaGreat.pl (iA s.l _ _) [c] = _
   rw [DK (Lh o d h1 h2)]; exact h.rs c h1 h2
theorem gK.mono {s : Sto} {T : Tb} {n m : Nat} (h : gK Ru s T n) (hm : n ≤ m) : gK Ru s T m := ⟨h.ok.mono hm, h.gt, h.rt, h.ks, h.rs⟩
def tb0 : Tb := fun _ => []
theorem gK.nil : gK R0 fP.s tb0 0 := ⟨y6, fun o d => rfl, fun o => Go.Vm.fC, fun p hp => by simp [fP] at hp, fun c h1 h2 => rfl⟩
def prT (o : Option UInt8) (c : bD) : Pr := ⟨key o c.d, aO c.n.v⟩
theorem LQ (o : Option UInt8) (a b : UInt8) : ltB (key o a) (key o b) = decide (a.toNat < b.toNat) := by
 cases o <;> simp only [key, kk, List.cons_append, List.nil_append, ltB, if_true] <;> (by_cases e : a = b <;> first | (subst e; simp; done) | (rw [if_neg e]))
theorem gK.pl {s : Sto} {T : Tb} {n : Nat} (h : gK Ru s T n) (o : Option UInt8) : pl s.l (kk o) = (T o).map (prT o) := by
 have hR := h.rt o
 have s1 := Bh (p := kk o) h.ok.srt
 have s2 : Srt ((T o).map (prT o)) := by
  rw [Srt, List.pairwise_map]
  refine List.Pairwise.imp (fun {x y} hxy => ?_) hR.2
  show ltB (key o x.d) (key o y.d) = true
  rw [LQ]; simpa using hxy
 have m1 : ∀ p ∈ Proofs.YtjpnjhlfieklfaaGreat.pl s.l (kk o), p ∈ (T o).map (prT o) := fun p hp => by
  have hp2 := List.mem_filter.1 hp
  obtain ⟨o', d, hk⟩ := h.ks p hp2.1 (LK hp2.2)
  have hpre := hp2.2
  rw [hk, E4, decide_eq_true_eq] at hpre
  subst hpre
  have hg := nO h.ok.srt hp2.1
  rw [hk, h.gt] at hg
  have hne : amt (T o') d.toNat ≠ 0 := fun e => by rw [e] at hg; simp [enc] at hg
  have hex : ∃ c ∈ T o', c.d.toNat = d.toNat := Classical.byContradiction fun hx => hne (l8 (fun c hc e => hx ⟨c, hc, e⟩))
  obtain ⟨c, hc, hcd⟩ := hex
  have hcn := rK hR.2 hc
  rw [hcd] at hcn
  refine List.mem_map.2 ⟨c, hc, ?_⟩
  rw [hcn, enc, if_neg (by rw [← hcn]; exact hne)] at hg
  have e1 : c.d = d := UInt8.toNat_inj.1 hcd
  cases p with
  | mk k v =>
    simp only at hk hg
    simp only [prT, Pr.mk.injEq]
    exact ⟨by rw [hk, e1], by simpa using hg⟩
 have m2 : ∀ p ∈ (T o).map (prT o), p ∈ Proofs.YtjpnjhlfieklfaaGreat.pl s.l (kk o) := fun p hp => by
  obtain ⟨c, hc, rfl⟩ := List.mem_map.1 hp
  have hcn := rK hR.2 hc
  have hg := h.gt o c.d
  rw [hcn, enc, if_neg (hR.1 c hc).2] at hg
  exact List.mem_filter.2 ⟨yD hg, by show preB (key o c.d) (kk o) = true; rw [E4]; simp⟩
 exact (xG s1 s2 m1).eq_of_length_le (xG s2 s1 m2).length_le
theorem gK.Fk {Rv : UInt8 → List Pr} {s s' : Sto} {T : Tb} {n m : Nat} (h : gK Ru s T n) (ho : s'.Ok m) (e1 : Proofs.YtjpnjhlfieklfaaGreat.pl s'.l [98] = Proofs.YtjpnjhlfieklfaaGreat.pl s.l [98]) (e2 : Proofs.YtjpnjhlfieklfaaGreat.pl s'.l [115] = Proofs.YtjpnjhlfieklfaaGreat.pl s.l [115]) (e3 : ∀ c, c ≠ 98 → c ≠ 115 → Proofs.YtjpnjhlfieklfaaGreat.pl s'.l [c] = Rv c) : gK Rv s' T m := by
 refine ⟨ho, fun o d => ?_, h.rt, fun p hp hq => ?_, e3⟩
 · rcases Jp o d with q | q
   · rw [← nQ q, e1, nQ q]; exact h.gt o d
   · rw [← nQ q, e2, nQ q]; exact h.gt o d
 · rcases hq with q | q
   · have hm : p ∈ Proofs.YtjpnjhlfieklfaaGreat.pl s'.l [98] := List.mem_filter.2 ⟨hp, q⟩
     rw [e1] at hm
     exact h.ks p (List.mem_filter.1 hm).1 (.inl q)
   · have hm : p ∈ Proofs.YtjpnjhlfieklfaaGreat.pl s'.l [115] := List.mem_filter.2 ⟨hp, q⟩
     rw [e2] at hm
     exact h.ks p (List.mem_filter.1 hm).1 (.inr q)
def lY (a b : List bD) : List bD := fR (fun d => amt a d + amt b d) 8
theorem Cq {a b : List bD} (h : ∀ d, d < 8 → amt a d + amt b d < 2 ^ 256) {d : Nat} (hd : d < 8) : amt (lY a b) d = amt a d + amt b d := qB h (Nat.le_refl 8) hd
theorem Hv {a : List bD} (h : bA a) : lY a [] = a := by
 have : lY a [] = fR (amt a) 8 := iI (fun i _ => by simp [amt])
 rw [this]; exact oG h
theorem Gu {a b : List bD} {c : bD} (hb : bA (b ++ [c])) (h : ∀ d, d < 8 → amt a d + amt (b ++ [c]) d < 2 ^ 256) : FC (lY a b) c.d.toNat (amt (lY a b) c.d.toNat + c.n.v) = lY a (b ++ [c]) ∧ amt (lY a b) c.d.toNat + c.n.v < 2 ^ 256 := by
 have hc8 : c.d.toNat < 8 := (hb.1 c (by simp)).1
 have hs := fun d => qJ hb d
 have hlt := (gX.1 hb).2.2
 have hb0 : amt b c.d.toNat = 0 := l8 (fun x hx e => by have := hlt x hx; omega)
 have hle : ∀ d, d < 8 → amt a d + amt b d < 2 ^ 256 := fun d hd => by
  have := h d hd
  rw [hs] at this
  by_cases e : d = c.d.toNat
  · subst e; rw [hb0]; have := gD a c.d.toNat; omega
  · rw [if_neg e] at this; exact this
 have hx := Cq hle hc8
 rw [hb0, Nat.add_zero] at hx
 have h8 := h c.d.toNat hc8
 rw [hs, if_pos rfl] at h8
 refine ⟨iI (fun i hi => ?_), by rw [hx]; exact h8⟩
 rw [hs]
 by_cases e : i = c.d.toNat
 · subst e; rw [if_pos rfl, if_pos rfl, hx]
 · rw [if_neg e, if_neg e, Cq hle hi]
theorem GC {a : List bD} (h : bA a) : kA a [] = a := by
 rw [uF]
 have : fR (fun d => amt a d - amt [] d) 8 = fR (amt a) 8 := iI (fun i _ => by simp [amt])
 rw [this]; exact oG h
end Go.Proofs.YtjpnjhlfieklfaaGreat
