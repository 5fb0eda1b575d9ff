import Derived.Test.YtjpnjhlfieklfaaGreatZ7
import Derived.Test.YtjpnjhlfieklfaaGreatZ15
import Derived.Test.YtjpnjhlfieklfaaGreatZ12
import Derived.Test.YtjpnjhlfieklfaaGreatZ11
/-
  The same coins..
-/
namespace Go.Proofs.YtjpnjhlfieklfaaGreat
set_option maxHeartbeats 1600000
set_option linter.unnecessarySimpa false
set_option maxRecDepth 100000
set_option linter.unusedSimpArgs false
set_option linter.unusedVariables false
open Go Go.Vm
attribute [local simp] dK aJ dJ opA bD bH cJ bP ofValue dC plain aR aS bY b6 cA cC b7 cE b8 b9 cX iC cB cH cG cD bU aV aU bL cS aW dN dP bI bC cN gI bR dD bW AV.cells AV.bA dE cI e6 bF aY cQ dI dS dY cL aO dR dQ gM fU fR cW cU cM List.getElem?_cons_zero List.getElem?_cons_succ o7 lZ cV

theorem FE {σ : St} {a b : List bB} {ta tb : eK} (hla : a.length ≤ 9223372036854775807) (hlb : b.length ≤ 9223372036854775807) :
  aB Tryz.prog 122 [.sl 5 (aL a) a.length ta, .sl 5 (aL b) b.length tb] σ (fun av σ' => av = .v (.bool (decide (a = b))) ∧ σ = σ') := by
 have hcl : ∀ c, (dV c).length = 5 := fun _ => rfl
 have hct : ∀ c R, List.take 5 (dV c ++ R) = dV c := fun _ _ => rfl
 have F := And.intro hcl (And.intro hct (True.intro))
 refine aA Tryz.func122 rfl rfl rfl ?_; refine sr fun _ hJ2 => ?_; apply hJ2; refine sq fun K3 hK3 => ?_; refine sr fun _ hJ5 => ?_; apply hJ5; refine cs (fun c10 => ?_) (fun c10 => ?_)
 · (try exact aG c10); all_goals have c10p := c10; try simp [F] at c10p
   all_goals
    replace F := aF c10 F; try replace F := aF c10p F
    have hne : ¬ a = b := fun e => by subst e; simp at c10
    replace F := aF hne F; refine sr fun _ hJ7 => ?_; apply hJ7; refine ra ?_; exact rt
 (try exact aG c10); all_goals have c10p := c10; try simp [F] at c10p
 all_goals
  replace F := aF c10 F; (try replace F := aF c10p F); refine aD ?_; apply hK3; refine sq fun K8 hK8 => ?_; refine sq fun K9 hK9 => ?_
  have hlen : a.length = b.length := by have h := c10; simp at h; omega
  refine rg' (h := fun J10 hJ10 => ?_); apply hJ10; apply hK9; refine aH ?_; refine cZ (X := Nat) [0, 1, 12] (fun i ρ σ1 => (i ≤ a.length) ∧ (a.take i = b.take i) ∧ (ρ 13 = .v (.int .i64 i)) ∧ (σ1 = σ)) (fun i => a.length - i) (0) ?st1 ?rd1
  case st1 =>
   refine ⟨lp, ?_, lp, ?_⟩
   · rfl
   · rfl
  case rd1 =>
   rintro i ρ1 σ1 hF1 ⟨hi, hE, h13, hσ⟩; obtain rfl := hσ.symm
   have f1 := dX hF1
   (try simp [dW, F] at f1); replace F := aF h13 F; (try replace F := aF f1 F); refine sr fun _ hJ12 => ?_; apply hJ12; refine sq fun K13 hK13 => ?_; refine cs (fun c14 => ?_) (fun c14 => ?_)
   · (try exact aG c14); all_goals have c14p := c14; try simp [F] at c14p
     all_goals
      replace F := aF c14 F; (try replace F := aF c14p F); refine aD ?_; apply hK13; refine sq fun K14 hK14 => ?_; refine aH ?_; refine sq fun K15 hK15 => ?_
      have hlt : i < a.length := by simp at c14; omega
      have hltb : i < b.length := by omega
      have hat := gD hlt
      have hatb := gD hltb
      have hb1 : i * 5 + 5 ≤ a.length * 5 := by omega
      have hb2 : i * 5 + 5 ≤ b.length * 5 := by omega
      obtain ⟨x, hx⟩ : ∃ x, x = a[i] := ⟨_, rfl⟩
      obtain ⟨y, hy⟩ : ∃ y, y = b[i] := ⟨_, rfl⟩
      rw [← hx] at hat
      rw [← hy] at hatb
      have hta : a.take (i + 1) = a.take i ++ [x] := by rw [hx]; exact (List.take_append_getElem hlt).symm
      have htb : b.take (i + 1) = b.take i ++ [y] := by rw [hy]; exact (List.take_append_getElem hltb).symm
      replace F := aF hlt F; replace F := aF hltb F; replace F := aF hat F; replace F := aF hatb F; replace F := aF hb1 F; replace F := aF hb2 F; refine rg' (h := fun J16 hJ16 => ?_); apply hJ16; apply hK15; refine sq fun K17 hK17 => ?_
      refine bQ (by kernel_rfl) fun J18 hJ18 => ?_
      refine q2 0 ?_; refine q2 1 ?_; refine q2 2 ?_; refine q2 3 ?_; refine q2 4 ?_; refine q2 5 ?_; refine q2 6 ?_; refine q2 7 ?_; refine q2 8 ?_; refine dd ?_; apply hJ18; apply hK17; refine cs (fun c24 => ?_) (fun c24 => ?_)
      · (try exact aG c24); all_goals have c24p := c24; try simp [F] at c24p
        all_goals
         replace F := aF c24 F; try replace F := aF c24p F
         have hne : ¬ a = b := fun e => by subst e; rw [← hx] at hy; subst hy; simp at c24
         replace F := aF hne F; refine sr fun _ hJ20 => ?_; apply hJ20; refine ra ?_; exact rt
      (try exact aG c24); all_goals have c24p := c24; try simp [F] at c24p
      all_goals
       replace F := aF c24 F; try replace F := aF c24p F
       have hxy : x = y := by simpa using c24
       refine aD ?_; apply hK14; refine rg' (h := fun J21 hJ21 => ?_); apply hJ21; refine ⟨(i + 1), ⟨kp, lp, ?_, lp, lp⟩, lp⟩
       · rw [hta, htb, hE, hxy]
   (try exact aG c14); all_goals have c14p := c14; try simp [F] at c14p
   all_goals
    replace F := aF c14 F; try replace F := aF c14p F
    have he : a = b := by have h := c14; simp at h; rw [List.take_of_length_le (by omega), List.take_of_length_le (by omega)] at hE; exact hE
    replace F := aF he F; refine bO ?_; apply hK8; refine sr fun _ hJ23 => ?_; apply hJ23; refine ra ?_; exact rt

theorem wO {σ : St} {a b : List bB} {ta tb : eK} (hla : a.length ≤ 9223372036854775807) (hlb : b.length ≤ 9223372036854775807) :
  aB Tryz.prog 93 [.sl 5 (aL a) a.length ta, .sl 5 (aL b) b.length tb] σ (fun av σ' => av = .v (.bool (decide (a = b))) ∧ σ = σ') := by
 have F := True.intro
 refine aA Tryz.func93 rfl rfl rfl ?_; refine sr fun _ hJ2 => ?_; apply hJ2; refine sr fun _ hJ4 => ?_; refine ca (c := FE hla hlb) (k := ?_); rintro _ _ ⟨rfl, rfl⟩; (repeat first | simp [F] | simp (disch := omega) only [wC, if_pos, if_neg]); apply hJ4; refine ra ?_; exact rt

theorem BW {σ : St} {l : List bB} {tl : eK} (hl : l.length ≤ 9223372036854775807) :
  aB Tryz.prog 65 [.sl 5 (aL l) l.length tl] σ (fun av σ' => av = .v (.bool (decide (l ≠ [] ∧ bM l))) ∧ σ = σ') := by
 have h0 : 0 < l.length ↔ l ≠ [] := List.length_pos_iff
 have F := And.intro h0 (True.intro)
 refine aA Tryz.func65 rfl rfl rfl ?_; refine sr fun _ hJ2 => ?_; apply hJ2; refine sr fun _ hJ4 => ?_; refine gs 6 (fun g1_3 => ?_) (fun g1_3 => ?_)
 · (try exact aG g1_3); all_goals have g1_3p := g1_3; try simp [F] at g1_3p
   all_goals
    replace F := aF g1_3 F; (try replace F := aF g1_3p F); refine go2 (k := ?_); refine ca (c := tI hl) (k := ?_); rintro _ _ ⟨rfl, rfl⟩; (repeat first | simp [F] | simp (disch := omega) only [wC, if_pos, if_neg]); apply hJ4; refine ra ?_; exact rt
 (try exact aG g1_3); all_goals have g1_3p := g1_3; try simp [F] at g1_3p
 all_goals
  replace F := aF g1_3 F; (try replace F := aF g1_3p F); (iterate 2 refine no2 (k := ?_)); apply hJ4; refine ra ?_; exact rt

end Go.Proofs.YtjpnjhlfieklfaaGreat

/-
  Plans: what they are, when they are right.
-/
namespace Go.Vm
open Go

structure Per where
 l : Nat
 c : List bB
deriving DecidableEq

structure Pln where
 k : UInt8
 s : Nat
 e : Nat
 tot : List bB
 ps : List Per
deriving DecidableEq

def oA (p : Per) : List AV := [.v (.int .u64 p.l), .sl 5 (aL p.c) p.c.length .shut]
def eN (l : List Per) : List AV := l.flatMap oA
def iR (p : Pln) : List AV := [.v (.int .u8 p.k.toNat), .v (.int .u64 p.s), .v (.int .u64 p.e), .sl 5 (aL p.tot) p.tot.length .shut, .sl 2 (eN p.ps) p.ps.length .shut]
@[simp] theorem Fz : eN [] = [] := rfl
@[simp] theorem F6 (l : List Per) : (eN l).length = l.length * 2 := kD oA 2 (fun _ => rfl) l
theorem jN {l : List Per} {i : Nat} (h : i < l.length) : (eN l).drop (i * 2) = oA l[i] ++ Cy oA l i := tB oA 2 (fun _ => rfl) l i h
theorem eY (n : Nat) : ∀ l : List Per, bG n (eN l) = true := iF (fun p => by simp [oA, bG, AV.eH, aL, iF, dV, aP])
theorem m4 (B : Bd) : ∀ l : List Per, aZ B (eN l) = true := iE (fun p => by simp [oA, aZ, AV.under, aL, iE, dV, aP])
theorem sB (l m : List Per) : eN l ++ eN m = eN (l ++ m) := by simp [eN]
def Pln.Ok (p : Pln) : Prop := p.s < 2 ^ 64 ∧ p.e < 2 ^ 64 ∧ p.tot.length ≤ 9223372036854775807 ∧ p.ps.length ≤ 9223372036854775807 ∧ ∀ x ∈ p.ps, x.l < 2 ^ 64 ∧ x.c.length ≤ 9223372036854775807

def kG : List Per → Nat → List bB → Option (Nat × List bB)
 | [], e, a => some (e, a)
 | x :: l, e, a => if x.l = 0 ∨ 2 ^ 40 < x.l ∨ 2 ^ 40 < e ∨ ¬ (x.c ≠ [] ∧ bM x.c) then none else if iV a x.c = 0 then kG l (e + x.l) (kI a x.c) else none
def rB (p : Pln) : Bool := decide (p.ps.length ≤ 16) && decide (kG p.ps p.s [] = some (p.e, p.tot))
def bJ (p : Pln) : Bool :=
 if p.k = 0 then decide (p = ⟨0, 0, 0, [], []⟩)
 else if ¬ (p.tot ≠ [] ∧ bM p.tot) ∨ 2 ^ 40 < p.e then false
 else if p.k = 1 then decide (p.s < p.e ∧ p.ps = [])
 else if p.k = 2 then decide (p.s = 0 ∧ p.ps = [])
 else if p.k = 4 then decide (p.s = 0 ∧ p.e = 0 ∧ p.ps = [])
 else if p.k = 3 ∨ p.k = 5 then rB p
 else false

structure HT where
 i : Nat
 e : Nat
 a : List bB

section
variable {P : Program} {z : kV} {N : Nat} {σ : St} {ρ : Nat → AV}
theorem qU {c : Code} {Q : Exit → (Nat → AV) → St → Prop} (d sz : Nat) {s : Nat} (h : ρ d = .sl s [] 0 .full := by first | rfl | (simp [F]; done))
  (k : Run z P N c (eC ρ (some d) (.sl sz [] 0 .shut)) σ Q) : Run z P N c ρ σ Q := Kz (fun i => by
 rw [aT]; split
 · rename_i e; subst e; rw [h]; exact Wk.nil _ _ _
 · exact Wk.refl _) k
end

end Go.Vm

/-
  The same plans..
-/
namespace Go.Proofs.YtjpnjhlfieklfaaGreat
set_option maxHeartbeats 1600000
set_option linter.unnecessarySimpa false
set_option maxRecDepth 100000
set_option linter.unusedSimpArgs false
set_option linter.unusedVariables false
open Go Go.Vm
attribute [local simp] dK aJ dJ opA bD bH cJ bP ofValue dC plain aR aS bY b6 cA cC b7 cE b8 b9 cX iC cB cH cG cD bU aV aU bL cS aW dN dP bI bC cN gI bR dD bW AV.cells AV.bA dE cI e6 bF aY cQ dI dS dY cL aO dR dQ gM fU fR cW cU cM List.getElem?_cons_zero List.getElem?_cons_succ o7 lZ cV

theorem FC {σ : St} {x y : Per} (hx : x.c.length ≤ 9223372036854775807) (hy : y.c.length ≤ 9223372036854775807) :
  aB Tryz.prog 95 [.agg (oA x), .agg (oA y)] σ (fun av σ' => av = .v (.bool (decide (x = y))) ∧ σ = σ') := by
 refine aM ?_ rfl
 obtain ⟨l, c⟩ := x
 obtain ⟨l2, c2⟩ := y
 simp only [Per.mk.injEq, oA, Bool.decide_and]
 have F := True.intro
 refine aA Tryz.func95 rfl rfl rfl ?_; refine sr fun _ hJ2 => ?_; apply hJ2; refine sr fun _ hJ4 => ?_; refine gs 10 (fun g1_5 => ?_) (fun g1_5 => ?_)
 · (try exact aG g1_5); all_goals have g1_5p := g1_5; try simp [F] at g1_5p
   all_goals
    replace F := aF g1_5 F; try replace F := aF g1_5p F
    have hl : l = l2 := by have h := g1_5; simp at h; omega
    replace F := aF hl F; (iterate 4 refine go2 (k := ?_)); refine ca (c := wO hx hy) (k := ?_); rintro _ _ ⟨rfl, rfl⟩; (repeat first | simp [F] | simp (disch := omega) only [wC, if_pos, if_neg]); apply hJ4; refine ra ?_; exact gcr
 (try exact aG g1_5); all_goals have g1_5p := g1_5; try simp [F] at g1_5p
 all_goals
  replace F := aF g1_5 F; try replace F := aF g1_5p F
  have hl : ¬ l = l2 := by have h := g1_5; simp at h; omega
  replace F := aF hl F; (iterate 5 refine no2 (k := ?_)); apply hJ4; refine ra ?_; exact gcr

attribute [local simp] oA eY in
theorem FR {σ : St} {a b : List Per} {ta tb : eK} (hla : a.length ≤ 9223372036854775807) (hlb : b.length ≤ 9223372036854775807) (ha : ∀ x ∈ a, x.c.length ≤ 9223372036854775807) (hb : ∀ x ∈ b, x.c.length ≤ 9223372036854775807) :
  aB Tryz.prog 94 [.sl 2 (eN a) a.length ta, .sl 2 (eN b) b.length tb, .fn 95 []] σ (fun av σ' => av = .v (.bool (decide (a = b))) ∧ σ = σ') := by
 refine aM ?_ rfl
 have F := True.intro
 refine aA Tryz.func94 rfl rfl rfl ?_; refine sr fun _ hJ2 => ?_; apply hJ2; refine sq fun K3 hK3 => ?_; refine sr fun _ hJ5 => ?_; apply hJ5; refine cs (fun c14 => ?_) (fun c14 => ?_)
 · (try exact aG c14); all_goals have c14p := c14; try simp [F] at c14p
   all_goals
    replace F := aF c14 F; try replace F := aF c14p F
    have hne : ¬ a = b := fun e => by subst e; simp at c14
    replace F := aF hne F; refine sr fun _ hJ7 => ?_; apply hJ7; refine ra ?_; exact gcr
 (try exact aG c14); all_goals have c14p := c14; try simp [F] at c14p
 all_goals
  replace F := aF c14 F; (try replace F := aF c14p F); refine aD ?_; apply hK3; refine sq fun K8 hK8 => ?_; refine sq fun K9 hK9 => ?_
  have hlen : a.length = b.length := by have h := c14; simp at h; omega
  refine rg' (h := fun J10 hJ10 => ?_); apply hJ10; apply hK9; refine aH ?_; refine eO (X := Nat) [1, 2, 15, 16] (fun i ρ σ1 => (i ≤ a.length) ∧ (a.take i = b.take i) ∧ (ρ 17 = .v (.int .i64 i)) ∧ (σ1 = σ)) (fun i => a.length - i) (0) ?st1 ?rd1
  case st1 =>
   refine ⟨lp, ?_, lp, ?_⟩
   · rfl
   · rfl
  case rd1 =>
   rintro i ρ1 σ1 hF1 ⟨hi, hE, h13, hσ⟩; obtain rfl := hσ.symm
   have f1 := dX hF1
   (try simp [dW, F] at f1); replace F := aF h13 F; (try replace F := aF f1 F); refine sr fun _ hJ12 => ?_; apply hJ12; refine sq fun K13 hK13 => ?_; refine cs (fun c18 => ?_) (fun c18 => ?_)
   · (try exact aG c18); all_goals have c18p := c18; try simp [F] at c18p
     all_goals
      replace F := aF c18 F; (try replace F := aF c18p F); refine aD ?_; apply hK13; refine sq fun K14 hK14 => ?_; refine aH ?_; refine sq fun K15 hK15 => ?_
      have hlt : i < a.length := by simp at c18; omega
      have hltb : i < b.length := by omega
      have hat := jN hlt
      have hatb := jN hltb
      have hb1 : i * 2 + 2 ≤ a.length * 2 := by omega
      have hb2 : i * 2 + 2 ≤ b.length * 2 := by omega
      obtain ⟨x, hx⟩ : ∃ x, x = a[i] := ⟨_, rfl⟩
      obtain ⟨y, hy⟩ : ∃ y, y = b[i] := ⟨_, rfl⟩
      rw [← hx] at hat
      rw [← hy] at hatb
      have hta : a.take (i + 1) = a.take i ++ [x] := by rw [hx]; exact (List.take_append_getElem hlt).symm
      have htb : b.take (i + 1) = b.take i ++ [y] := by rw [hy]; exact (List.take_append_getElem hltb).symm
      have hxl := ha x (by rw [hx]; exact List.getElem_mem _)
      have hyl := hb y (by rw [hy]; exact List.getElem_mem _)
      replace F := aF hlt F; replace F := aF hltb F; replace F := aF hat F; replace F := aF hatb F; replace F := aF hb1 F; replace F := aF hb2 F; refine rg' (h := fun J16 hJ16 => ?_); apply hJ16; apply hK15; refine sr fun _ hJ18 => ?_; apply hJ18; refine sr fun _ hJ20 => ?_; refine ca (c := (FC (x := x) (y := y) hxl hyl)) (k := ?_); rintro _ _ ⟨rfl, rfl⟩; (repeat first | simp [F] | simp (disch := omega) only [wC, if_pos, if_neg]); apply hJ20; refine cs (fun c30 => ?_) (fun c30 => ?_)
      · (try exact aG c30); all_goals have c30p := c30; try simp [F] at c30p
        all_goals
         replace F := aF c30 F; try replace F := aF c30p F
         have hne : ¬ a = b := fun e => by subst e; rw [← hx] at hy; subst hy; simp at c30
         replace F := aF hne F; refine sr fun _ hJ22 => ?_; apply hJ22; refine ra ?_; exact gcr
      (try exact aG c30); all_goals have c30p := c30; try simp [F] at c30p
      all_goals
       replace F := aF c30 F; try replace F := aF c30p F
       have hxy : x = y := by simpa using c30
       refine aD ?_; apply hK14; refine rg' (h := fun J23 hJ23 => ?_); apply hJ23; refine ⟨gk, (i + 1), ⟨kpG, lpG, ?_, lpG, lpG⟩, lpG⟩
       · rw [hta, htb, hE, hxy]
   (try exact aG c18); all_goals have c18p := c18; try simp [F] at c18p
   all_goals
    replace F := aF c18 F; try replace F := aF c18p F
    have he : a = b := by have h := c18; simp at h; rw [List.take_of_length_le (by omega), List.take_of_length_le (by omega)] at hE; exact hE
    replace F := aF he F; refine bO ?_; apply hK8; refine sr fun _ hJ25 => ?_; apply hJ25; refine ra ?_; exact gcr

theorem FX {σ : St} {a b : Pln} (ha : a.Ok) (hb : b.Ok) :
  aB Tryz.prog 64 [.agg (iR a), .agg (iR b)] σ (fun av σ' => av = .v (.bool (decide (a = b))) ∧ σ = σ') := by
 refine aM ?_ rfl
 obtain ⟨ak, a1, a2, a3, a4⟩ := a
 obtain ⟨bk, b1, b2, b3, b4⟩ := b
 obtain ⟨ha1, ha2, ha3, ha4, ha5⟩ := ha
 obtain ⟨hb1, hb2, hb3, hb4, hb5⟩ := hb
 simp only [Pln.mk.injEq, iR, Bool.decide_and] at *
 have F := True.intro
 refine aA Tryz.func64 rfl rfl rfl ?_; refine sr fun _ hJ2 => ?_; apply hJ2; refine sr fun _ hJ4 => ?_; refine gs 10 (fun g1_5 => ?_) (fun g1_5 => ?_)
 · (try exact aG g1_5); all_goals have g1_5p := g1_5; try simp [F] at g1_5p
   all_goals
    replace F := aF g1_5 F; try replace F := aF g1_5p F
    have hl1 : ak = bk := by have h := g1_5; simp at h; exact UInt8.toNat_inj.1 (by omega)
    replace F := aF hl1 F; (iterate 5 refine go2 (k := ?_)); refine gs 17 (fun g1_12 => ?_) (fun g1_12 => ?_)
    · (try exact aG g1_12); all_goals have g1_12p := g1_12; try simp [F] at g1_12p
      all_goals
       replace F := aF g1_12 F; try replace F := aF g1_12p F
       have hl2 : a1 = b1 := by have h := g1_12; simp at h; omega
       replace F := aF hl2 F; (iterate 5 refine go2 (k := ?_)); refine gs 24 (fun g1_19 => ?_) (fun g1_19 => ?_)
       · (try exact aG g1_19); all_goals have g1_19p := g1_19; try simp [F] at g1_19p
         all_goals
          replace F := aF g1_19 F; try replace F := aF g1_19p F
          have hl3 : a2 = b2 := by have h := g1_19; simp at h; omega
          replace F := aF hl3 F; (iterate 4 refine go2 (k := ?_)); refine ca (c := wO ha3 hb3) (k := ?_); rintro _ _ ⟨rfl, rfl⟩; (repeat first | simp [F] | simp (disch := omega) only [wC, if_pos, if_neg]); refine gs 31 (fun g1_26 => ?_) (fun g1_26 => ?_)
          · (try exact aG g1_26); all_goals have g1_26p := g1_26; try simp [F] at g1_26p
            all_goals
             replace F := aF g1_26 F; (try replace F := aF g1_26p F); (iterate 4 refine go2 (k := ?_)); refine ca (c := FR ha4 hb4 (fun x hx ↦ (ha5 x hx).2) (fun x hx ↦ (hb5 x hx).2)) (k := ?_); rintro _ _ ⟨rfl, rfl⟩; (repeat first | simp [F] | simp (disch := omega) only [wC, if_pos, if_neg]); apply hJ4; refine ra ?_; exact gcr
          (try exact aG g1_26); all_goals have g1_26p := g1_26; try simp [F] at g1_26p
          all_goals
           replace F := aF g1_26 F; (try replace F := aF g1_26p F); (iterate 5 refine no2 (k := ?_)); apply hJ4; refine ra ?_; exact gcr
       (try exact aG g1_19); all_goals have g1_19p := g1_19; try simp [F] at g1_19p
       all_goals
        replace F := aF g1_19 F; try replace F := aF g1_19p F
        have hl3 : ¬ a2 = b2 := by have h := g1_19; simp at h; omega
        replace F := aF hl3 F; (iterate 10 refine no2 (k := ?_)); apply hJ4; refine ra ?_; exact gcr
    (try exact aG g1_12); all_goals have g1_12p := g1_12; try simp [F] at g1_12p
    all_goals
     replace F := aF g1_12 F; try replace F := aF g1_12p F
     have hl2 : ¬ a1 = b1 := by have h := g1_12; simp at h; omega
     replace F := aF hl2 F; (iterate 15 refine no2 (k := ?_)); apply hJ4; refine ra ?_; exact gcr
 (try exact aG g1_5); all_goals have g1_5p := g1_5; try simp [F] at g1_5p
 all_goals
  replace F := aF g1_5 F; try replace F := aF g1_5p F
  have hl1 : ¬ ak = bk := by have h := g1_5; simp at h; intro e; subst e; exact h rfl
  replace F := aF hl1 F; (iterate 20 refine no2 (k := ?_)); apply hJ4; refine ra ?_; exact gcr

attribute [local simp] oA eY in
theorem yJ {σ : St} {p : Pln} (hp : p.Ok) (he : p.e ≤ 2 ^ 40) :
  aB Tryz.prog 66 [.agg (iR p)] σ (fun av σ' => av = .v (.bool (rB p)) ∧ σ = σ') := by
 refine aM ?_ rfl
 obtain ⟨pk, ps, pe, pt, pp⟩ := p
 obtain ⟨k1, k2, k3, k4, h5⟩ := hp
 simp only [iR, rB] at *
 have F := True.intro
 refine aA Tryz.func66 rfl rfl rfl ?_; refine sr fun _ hJ2 => ?_; apply hJ2; refine sq fun K3 hK3 => ?_; refine sr fun _ hJ5 => ?_; apply hJ5; refine cs (fun c11 => ?_) (fun c11 => ?_)
 · (try exact aG c11); all_goals have c11p := c11; try simp [F] at c11p
   all_goals
    replace F := aF c11 F; try replace F := aF c11p F
    have hbig : ¬ pp.length ≤ 16 := by have h := c11; simp at h; omega
    replace F := aF hbig F; refine sr fun _ hJ7 => ?_; apply hJ7; refine ra ?_; exact gcr
 (try exact aG c11); all_goals have c11p := c11; try simp [F] at c11p
 all_goals
  replace F := aF c11 F; try replace F := aF c11p F
  have hbig : pp.length ≤ 16 := by have h := c11; simp at h; omega
  replace F := aF hbig F; refine aD ?_; apply hK3; refine sr fun _ hJ9 => ?_; apply hJ9; refine sr fun _ hJ11 => ?_; apply hJ11; refine sq fun K12 hK12 => ?_; refine sq fun K13 hK13 => ?_; refine qU 4 5 (k := ?_); refine rg' (h := fun J14 hJ14 => ?_); apply hJ14; apply hK13; refine aH ?_; refine eO (X := HT) [1, 15, 16] (fun q ρ σ1 => (q.i ≤ pp.length) ∧ (kG pp ps [] = kG (pp.drop q.i) q.e q.a) ∧ (q.e < 2 ^ 64) ∧ (q.a.length ≤ 8) ∧ (ρ 3 = .v (.int .u64 q.e)) ∧ (ρ 4 = .sl 5 (aL q.a) q.a.length .shut) ∧ (ρ 17 = .v (.int .i64 q.i)) ∧ (σ1 = { σ with objs := σ.objs ++ [[.v (.int .u8 pk.toNat), .v (.int .u64 ps), .v (.int .u64 pe), .sl 5 (aL pt) pt.length .shut, .sl 2 (eN pp) pp.length .shut]] })) (fun q => pp.length - q.i) (⟨0, ps, []⟩) ?st1 ?rd1
  case st1 =>
   refine ⟨lp, ?_, lp, lp, lp, lp, lp, ?_⟩
   · rfl
   · rfl
  case rd1 =>
   rintro q ρ1 σ1 hF1 ⟨hi, hE, hqe, hqa, h3, h4, h17, hσ⟩; obtain rfl := hσ.symm
   have f1 := dX hF1
   (try simp [dW, F] at f1); replace F := aF h3 F; replace F := aF h4 F; replace F := aF h17 F; (try replace F := aF f1 F); refine sr fun _ hJ16 => ?_; apply hJ16; refine sq fun K17 hK17 => ?_; refine cs (fun c18 => ?_) (fun c18 => ?_)
   · (try exact aG c18); all_goals have c18p := c18; try simp [F] at c18p
     all_goals
      replace F := aF c18 F; (try replace F := aF c18p F); refine aD ?_; apply hK17; refine sq fun K18 hK18 => ?_; refine aH ?_; refine sq fun K19 hK19 => ?_
      obtain ⟨i, E, S⟩ := q
      simp only at hi hE hqe hqa h3 h4 h17
      have hlt : i < pp.length := by simp at c18; omega
      have hat := jN hlt
      have hb1 : i * 2 + 2 ≤ pp.length * 2 := by omega
      have hx5 := h5 _ (List.getElem_mem hlt)
      have hcons : pp.drop i = pp[i] :: pp.drop (i + 1) := List.drop_eq_getElem_cons hlt
      obtain ⟨x, hx⟩ : ∃ x, x = pp[i] := ⟨_, rfl⟩
      rw [← hx] at hat hx5 hcons
      rw [hcons] at hE
      obtain ⟨xl, xc⟩ := x
      obtain ⟨hxl, hxc⟩ := hx5
      simp only at hxl hxc
      simp only [kG] at hE
      replace F := aF hlt F; replace F := aF hat F; replace F := aF hb1 F; refine rg' (h := fun J20 hJ20 => ?_); apply hJ20; apply hK19; refine sq fun K21 hK21 => ?_; refine sr fun _ hJ23 => ?_; refine gs 24 (fun g8_3 => ?_) (fun g8_3 => ?_)
      · (try exact aG g8_3); all_goals have g8_3p := g8_3; try simp [F] at g8_3p
        all_goals
         replace F := aF g8_3 F; try replace F := aF g8_3p F
         have hbad : kG pp ps [] = none := by rw [hE]; exact if_pos (.inl (by have h := g8_3; simp at h; omega))
         replace F := aF hbad F; (iterate 9 refine no2 (k := ?_)); apply hJ23; refine ct ?_; refine sr fun _ hJ25 => ?_; apply hJ25; refine ra ?_; exact gcr
      (try exact aG g8_3); all_goals have g8_3p := g8_3; try simp [F] at g8_3p
      all_goals
       replace F := aF g8_3 F; (try replace F := aF g8_3p F); (iterate 3 refine go2 (k := ?_)); refine gs 29 (fun g8_8 => ?_) (fun g8_8 => ?_)
       · (try exact aG g8_8); all_goals have g8_8p := g8_8; try simp [F] at g8_8p
         all_goals
          replace F := aF g8_8 F; try replace F := aF g8_8p F
          have hbad : kG pp ps [] = none := by rw [hE]; exact if_pos (.inr (.inl (by have h := g8_8; simp at h; omega)))
          replace F := aF hbad F; (iterate 6 refine no2 (k := ?_)); apply hJ23; refine ct ?_; refine sr fun _ hJ27 => ?_; apply hJ27; refine ra ?_; exact gcr
       (try exact aG g8_8); all_goals have g8_8p := g8_8; try simp [F] at g8_8p
       all_goals
        replace F := aF g8_8 F; (try replace F := aF g8_8p F); (iterate 2 refine go2 (k := ?_)); refine gs 33 (fun g8_12 => ?_) (fun g8_12 => ?_)
        · (try exact aG g8_12); all_goals have g8_12p := g8_12; try simp [F] at g8_12p
          all_goals
           replace F := aF g8_12 F; try replace F := aF g8_12p F
           have hbad : kG pp ps [] = none := by rw [hE]; exact if_pos (.inr (.inr (.inl (by have h := g8_12; simp at h; omega))))
           replace F := aF hbad F; (iterate 4 refine no2 (k := ?_)); apply hJ23; refine ct ?_; refine sr fun _ hJ29 => ?_; apply hJ29; refine ra ?_; exact gcr
        (try exact aG g8_12); all_goals have g8_12p := g8_12; try simp [F] at g8_12p
        all_goals
         replace F := aF g8_12 F; (try replace F := aF g8_12p F); (iterate 2 refine go2 (k := ?_)); refine ca (c := BW hxc) (k := ?_); rintro _ _ ⟨rfl, rfl⟩; (repeat first | simp [F] | simp (disch := omega) only [wC, if_pos, if_neg]); refine go2 (k := ?_); apply hJ23; refine cs (fun c38 => ?_) (fun c38 => ?_)
         · (try exact aG c38); all_goals have c38p := c38; try simp [F] at c38p
           all_goals
            replace F := aF c38 F; try replace F := aF c38p F
            have hbad : kG pp ps [] = none := by rw [hE]; exact if_pos (.inr (.inr (.inr (by have h := c38; simp at h; intro hh; rcases h with h | h; exact hh.1 h; exact h hh.2))))
            replace F := aF hbad F; refine sr fun _ hJ31 => ?_; apply hJ31; refine ra ?_; exact gcr
         (try exact aG c38); all_goals have c38p := c38; try simp [F] at c38p
         all_goals
          replace F := aF c38 F; try replace F := aF c38p F
          have n1 : ¬ xl = 0 := by have h := g8_3; simp at h; omega
          have n2 : ¬ 2 ^ 40 < xl := by have h := g8_8; simp at h; omega
          have n3 : ¬ 2 ^ 40 < E := by have h := g8_12; simp at h; omega
          have n4 : ¬ ¬ (xc ≠ [] ∧ bM xc) := by have h := c38; simp at h; exact fun hn => hn ⟨h.1, h.2⟩
          have hgood : ¬ (xl = 0 ∨ 2 ^ 40 < xl ∨ 2 ^ 40 < E ∨ ¬ (xc ≠ [] ∧ bM xc)) := fun h => h.elim n1 (fun h => h.elim n2 (fun h => h.elim n3 n4))
          have hw2 : E + xl < 2 ^ 64 := by omega
          obtain ⟨S2, hS2⟩ : ∃ S2, S2 = kI S xc := ⟨_, rfl⟩
          have hS2l : S2.length ≤ 8 := by rw [hS2]; exact eI (mL _ _)
          rw [← hS2] at hE
          rw [if_neg hgood] at hE
          have hw : IntKind.u64.wrap ((E : Int) + xl) = ((E + xl : Nat) : Int) := by rw [fE (by omega)]; rfl
          replace F := aF hw F; refine aD ?_; apply hK21; refine sr fun _ hJ33 => ?_; apply hJ33; refine sr fun _ hJ35 => ?_; apply hJ35; refine sr fun _ hJ37 => ?_
          refine ca (c := (hS2 ▸ AZ (by omega) hxc)) (k := ?_)
          rintro _ _ ⟨rfl, rfl⟩; (repeat first | simp [F] | simp (disch := omega) only [wC, if_pos, if_neg]); apply hJ37; refine sr fun _ hJ39 => ?_; apply hJ39; refine cs (fun c51 => ?_) (fun c51 => ?_)
          · (try exact aG c51); all_goals have c51p := c51; try simp [F] at c51p
            all_goals
             replace F := aF c51 F; try replace F := aF c51p F
             have hne : ¬ iV S xc = 0 := by have h := c51; simp at h; omega
             rw [if_neg hne] at hE
             replace F := aF hE F; refine sr fun _ hJ41 => ?_; apply hJ41; refine ra ?_; exact gcr
          (try exact aG c51); all_goals have c51p := c51; try simp [F] at c51p
          all_goals
           replace F := aF c51 F; try replace F := aF c51p F
           have hye : iV S xc = 0 := by have h := c51; simp at h; omega
           rw [if_pos hye] at hE
           refine aD ?_; apply hK18; refine rg' (h := fun J42 hJ42 => ?_); apply hJ42; refine ⟨gk, (⟨i + 1, E + xl, S2⟩), ⟨kpG, lpG, ?_, ?_, ?_, lpG, lpG, lpG, lpG⟩, lpG⟩
           · exact hE
           · exact hw2
           · exact hS2l
   (try exact aG c18); all_goals have c18p := c18; try simp [F] at c18p
   all_goals
    replace F := aF c18 F; try replace F := aF c18p F
    have hend : kG pp ps [] = some (q.e, q.a) := by rw [hE, List.drop_of_length_le (by have h := c18; simp at h; omega)]; rfl
    replace F := aF hend F; refine bO ?_; apply hK12; refine sr fun _ hJ44 => ?_; refine gs 57 (fun g16_4 => ?_) (fun g16_4 => ?_)
    · (try exact aG g16_4); all_goals have g16_4p := g16_4; try simp [F] at g16_4p
      all_goals
       replace F := aF g16_4 F; try replace F := aF g16_4p F
       have hee : q.e = pe := by have h := g16_4; simp at h; omega
       replace F := aF hee F; iterate 3 refine go2 (k := ?_)
       refine ca (c := wO (by omega) k3) (k := ?_)
       rintro _ _ ⟨rfl, rfl⟩; (repeat first | simp [F] | simp (disch := omega) only [wC, if_pos, if_neg]); apply hJ44; refine ra ?_; exact gcr
    (try exact aG g16_4); all_goals have g16_4p := g16_4; try simp [F] at g16_4p
    all_goals
     replace F := aF g16_4 F; try replace F := aF g16_4p F
     have hee : ¬ q.e = pe := by have h := g16_4; simp at h; omega
     replace F := aF hee F; (iterate 4 refine no2 (k := ?_)); apply hJ44; refine ra ?_; exact gcr

theorem Kj : (⟨0, 0, 0, [], []⟩ : Pln).Ok := ⟨by decide, by decide, by decide, by decide, fun x hx => absurd hx (by simp)⟩

theorem y3 {σ : St} {a : Pln} (ha : a.Ok) :
  aB Tryz.prog 64 [.agg (iR a), .agg [.v (.int .u8 0), .v (.int .u64 0), .v (.int .u64 0), .sl 0 [] 0 .full, .sl 0 [] 0 .full]] σ (fun av σ' => av = .v (.bool (decide (a = ⟨0, 0, 0, [], []⟩))) ∧ σ = σ') :=
 iS (.cons (Wk.refl _) (.cons (WkL.agg (.cons (Wk.refl _) (.cons (Wk.refl _) (.cons (Wk.refl _) (.cons (Wk.nil _ _ _) (.cons (Wk.nil _ _ _) .nil)))))) .nil)) (FX ha Kj)

attribute [local simp] oA iR eY in
theorem yX {σ : St} {p : Pln} (hp : p.Ok) :
  aB Tryz.prog 32 [.agg (iR p)] σ (fun av σ' => av = .v (.bool (bJ p)) ∧ σ = σ') := by
 refine aM ?_ rfl
 have hsame := y3 (σ := σ) hp
 obtain ⟨pk, ps, pe, pt, pp⟩ := p
 have hp0 := hp
 obtain ⟨k1, k2, k3, k4, h5⟩ := hp
 have hnil : ((pp.length : Int) == 0) = decide (pp = []) := by cases pp <;> simp <;> omega
 have hkn : ∀ n : UInt8, pk = n ↔ (pk.toNat : Int) = (n.toNat : Int) := fun n => ⟨fun e => by rw [e], fun e => UInt8.toNat_inj.1 (Int.ofNat_inj.1 e)⟩
 simp only [iR] at *
 have F := And.intro hnil (True.intro)
 refine aA Tryz.func32 rfl rfl rfl ?_; refine sr fun _ hJ2 => ?_; apply hJ2; refine sq fun K3 hK3 => ?_; refine sr fun _ hJ5 => ?_; apply hJ5; refine cs (fun c5 => ?_) (fun c5 => ?_)
 · (try exact aG c5); all_goals have c5p := c5; try simp [F] at c5p
   all_goals
    replace F := aF c5 F; try replace F := aF c5p F
    have hk0 : pk = 0 := (hkn 0).2 (by have h := c5; simp at h; simpa using h)
    have hB : bJ ⟨pk, ps, pe, pt, pp⟩ = decide ((⟨pk, ps, pe, pt, pp⟩ : Pln) = ⟨0, 0, 0, [], []⟩) := by rw [bJ, if_pos hk0]
    replace F := aF hB F; refine sr fun _ hJ7 => ?_; refine ca (c := y3 hp0) (k := ?_); rintro _ _ ⟨rfl, rfl⟩; (repeat first | simp [F] | simp (disch := omega) only [wC, if_pos, if_neg]); apply hJ7; refine ra ?_; exact gcr
 (try exact aG c5); all_goals have c5p := c5; try simp [F] at c5p
 all_goals
  replace F := aF c5 F; try replace F := aF c5p F
  have hk0 : ¬ pk = 0 := fun e => by rw [hkn] at e; have h := c5; simp at h; exact h (by simpa using e)
  refine aD ?_; apply hK3; refine sq fun K8 hK8 => ?_; refine sr fun _ hJ10 => ?_; refine ca (c := BW k3) (k := ?_); rintro _ _ ⟨rfl, rfl⟩; (repeat first | simp [F] | simp (disch := omega) only [wC, if_pos, if_neg]); refine gs 13 (fun g3_4 => ?_) (fun g3_4 => ?_)
  · (try exact aG g3_4); all_goals have g3_4p := g3_4; try simp [F] at g3_4p
    all_goals
     replace F := aF g3_4 F; try replace F := aF g3_4p F
     have hB : bJ ⟨pk, ps, pe, pt, pp⟩ = false := by rw [bJ, if_neg hk0, if_pos (.inl (by have h := g3_4; simp at h; intro hh; rcases h with h | h; exact hh.1 h; exact h hh.2))]
     replace F := aF hB F; (iterate 3 refine no2 (k := ?_)); apply hJ10; refine ct ?_; refine sr fun _ hJ12 => ?_; apply hJ12; refine ra ?_; exact gcr
  (try exact aG g3_4); all_goals have g3_4p := g3_4; try simp [F] at g3_4p
  all_goals
   replace F := aF g3_4 F; (try replace F := aF g3_4p F); (iterate 3 refine go2 (k := ?_)); apply hJ10; refine cs (fun c17 => ?_) (fun c17 => ?_)
   · (try exact aG c17); all_goals have c17p := c17; try simp [F] at c17p
     all_goals
      replace F := aF c17 F; try replace F := aF c17p F
      have hB : bJ ⟨pk, ps, pe, pt, pp⟩ = false := by rw [bJ, if_neg hk0, if_pos (.inr (by show 2 ^ 40 < pe; have h := c17; simp at h; omega))]
      replace F := aF hB F; refine sr fun _ hJ14 => ?_; apply hJ14; refine ra ?_; exact gcr
   (try exact aG c17); all_goals have c17p := c17; try simp [F] at c17p
   all_goals
    replace F := aF c17 F; try replace F := aF c17p F
    have hs1 : ¬ pt = [] := by have h := g3_4; simp at h; exact h.1
    have hs2 : bM pt := by have h := g3_4; simp at h; exact h.2
    have hs3 : pe ≤ 1099511627776 := by have h := c17; simp at h; omega
    have hs3' : ¬ 1099511627776 < pe := by omega
    replace F := aF hs1 (And.intro hs2 (And.intro hs3 (And.intro hs3' F))); refine aD ?_; apply hK8; refine sq fun K15 hK15 => ?_; refine sr fun _ hJ17 => ?_; apply hJ17; refine aH ?_; refine sr fun _ hJ19 => ?_; apply hJ19; refine cs (fun c20 => ?_) (fun c20 => ?_)
    · (try exact aG c20); all_goals have c20p := c20; try simp [F] at c20p
      all_goals
       replace F := aF c20 F; (try replace F := aF c20p F); refine sr fun _ hJ21 => ?_; refine gs 27 (fun g7_5 => ?_) (fun g7_5 => ?_)
       · (try exact aG g7_5); all_goals have g7_5p := g7_5; try simp [F] at g7_5p
         all_goals
          replace F := aF g7_5 F; try replace F := aF g7_5p F
          have h1 : ps < pe := by have h := g7_5; simp at h; omega
          have hB : bJ ⟨pk, ps, pe, pt, pp⟩ = decide (pp = []) := by rw [bJ]; simp [hkn, F, h1]
          replace F := aF hB F; (iterate 4 refine go2 (k := ?_)); apply hJ21; refine ra ?_; exact gcr
       (try exact aG g7_5); all_goals have g7_5p := g7_5; try simp [F] at g7_5p
       all_goals
        replace F := aF g7_5 F; try replace F := aF g7_5p F
        have h1 : ¬ ps < pe := by have h := g7_5; simp at h; omega
        have hB : bJ ⟨pk, ps, pe, pt, pp⟩ = false := by rw [bJ]; simp [hkn, F, h1]
        replace F := aF hB F; (iterate 4 refine no2 (k := ?_)); apply hJ21; refine ra ?_; exact gcr
    (try exact aG c20); all_goals have c20p := c20; try simp [F] at c20p
    all_goals
     replace F := aF c20 F; (try replace F := aF c20p F); refine sr fun _ hJ23 => ?_; apply hJ23; refine cs (fun c33 => ?_) (fun c33 => ?_)
     · (try exact aG c33); all_goals have c33p := c33; try simp [F] at c33p
       all_goals
        replace F := aF c33 F; (try replace F := aF c33p F); refine sr fun _ hJ25 => ?_; refine gs 38 (fun g9_3 => ?_) (fun g9_3 => ?_)
        · (try exact aG g9_3); all_goals have g9_3p := g9_3; try simp [F] at g9_3p
          all_goals
           replace F := aF g9_3 F; try replace F := aF g9_3p F
           have h1 : ps = 0 := by have h := g9_3; simp at h; omega
           have hB : bJ ⟨pk, 0, pe, pt, pp⟩ = decide (pp = []) := by rw [bJ]; simp [hkn, F, h1]
           replace F := aF hB F; (iterate 4 refine go2 (k := ?_)); apply hJ25; refine ra ?_; exact gcr
        (try exact aG g9_3); all_goals have g9_3p := g9_3; try simp [F] at g9_3p
        all_goals
         replace F := aF g9_3 F; try replace F := aF g9_3p F
         have h1 : ¬ ps = 0 := by have h := g9_3; simp at h; omega
         have hB : bJ ⟨pk, ps, pe, pt, pp⟩ = false := by rw [bJ]; simp [hkn, F, h1]
         replace F := aF hB F; (iterate 4 refine no2 (k := ?_)); apply hJ25; refine ra ?_; exact gcr
     (try exact aG c33); all_goals have c33p := c33; try simp [F] at c33p
     all_goals
      replace F := aF c33 F; (try replace F := aF c33p F); refine sr fun _ hJ27 => ?_; apply hJ27; refine cs (fun c44 => ?_) (fun c44 => ?_)
      · (try exact aG c44); all_goals have c44p := c44; try simp [F] at c44p
        all_goals
         replace F := aF c44 F; (try replace F := aF c44p F); refine sr fun _ hJ29 => ?_; refine gs 49 (fun g11_3 => ?_) (fun g11_3 => ?_)
         · (try exact aG g11_3); all_goals have g11_3p := g11_3; try simp [F] at g11_3p
           all_goals
            replace F := aF g11_3 F; try replace F := aF g11_3p F
            have h1 : ps = 0 := by have h := g11_3; simp at h; omega
            replace F := aF h1 F; (iterate 3 refine go2 (k := ?_)); refine gs 54 (fun g11_8 => ?_) (fun g11_8 => ?_)
            · (try exact aG g11_8); all_goals have g11_8p := g11_8; try simp [F] at g11_8p
              all_goals
               replace F := aF g11_8 F; try replace F := aF g11_8p F
               have h2 : pe = 0 := by have h := g11_8; simp at h; omega
               have hB : bJ ⟨pk, 0, 0, pt, pp⟩ = decide (pp = []) := by rw [bJ]; simp [hkn, F]
               replace F := aF hB F; (iterate 4 refine go2 (k := ?_)); apply hJ29; refine ra ?_; exact gcr
            (try exact aG g11_8); all_goals have g11_8p := g11_8; try simp [F] at g11_8p
            all_goals
             replace F := aF g11_8 F; try replace F := aF g11_8p F
             have h2 : ¬ pe = 0 := by have h := g11_8; simp at h; omega
             have hB : bJ ⟨pk, 0, pe, pt, pp⟩ = false := by rw [bJ]; simp [hkn, F, h2]
             replace F := aF hB F; (iterate 4 refine no2 (k := ?_)); apply hJ29; refine ra ?_; exact gcr
         (try exact aG g11_3); all_goals have g11_3p := g11_3; try simp [F] at g11_3p
         all_goals
          replace F := aF g11_3 F; try replace F := aF g11_3p F
          have h1 : ¬ ps = 0 := by have h := g11_3; simp at h; omega
          have hB : bJ ⟨pk, ps, pe, pt, pp⟩ = false := by rw [bJ]; simp [hkn, F, h1]
          replace F := aF hB F; (iterate 7 refine no2 (k := ?_)); apply hJ29; refine ra ?_; exact gcr
      (try exact aG c44); all_goals have c44p := c44; try simp [F] at c44p
      all_goals
       replace F := aF c44 F; (try replace F := aF c44p F); refine sq fun K30 hK30 => ?_; refine sr fun _ hJ32 => ?_; apply hJ32; refine cs (fun c60 => ?_) (fun c60 => ?_)
       · (try exact aG c60); all_goals have c60p := c60; try simp [F] at c60p
         all_goals
          replace F := aF c60 F; (try replace F := aF c60p F); refine aD ?_; apply hK30; refine cs (fun c60 => ?_) (fun c60 => ?_)
          · (try exact aG c60); all_goals have c60p := c60; try simp [F] at c60p
            all_goals
             replace F := aF c60 F; (try replace F := aF c60p F); refine sq fun K33 hK33 => ?_
             have h35 : (pk.toNat : Int) = 3 ∨ (pk.toNat : Int) = 5 := by have h := c60; simp at h; first | exact .inl (by simpa using h) | exact .inr (by simpa using h)
             have hB : bJ ⟨pk, ps, pe, pt, pp⟩ = rB ⟨pk, ps, pe, pt, pp⟩ := by rw [bJ]; rcases h35 with h35 | h35 <;> simp [hkn, hs1, hs2, hs3', h35]
             replace F := aF hB F; refine rg' (h := fun J34 hJ34 => ?_)
             refine ca (c := yJ hp0 (by show pe ≤ 2 ^ 40; omega)) (k := ?_)
             rintro _ _ ⟨rfl, rfl⟩; (repeat first | simp [F] | simp (disch := omega) only [wC, if_pos, if_neg]); apply hJ34; apply hK33; refine ra ?_; exact gcr
          (try exact aG c60); all_goals have c60p := c60; try simp [F] at c60p
          all_goals
           replace F := aF c60 F; (try replace F := aF c60p F); refine aD ?_; apply hK15; refine sq fun K35 hK35 => ?_
           have hB : bJ ⟨pk, ps, pe, pt, pp⟩ = false := by rw [bJ]; simp [hkn, F]
           replace F := aF hB F; refine rg' (h := fun J36 hJ36 => ?_); apply hJ36; apply hK35; refine ra ?_; exact gcr
       (try exact aG c60); all_goals have c60p := c60; try simp [F] at c60p
       all_goals
        replace F := aF c60 F; (try replace F := aF c60p F); refine rg' (h := fun J37 hJ37 => ?_); apply hJ37; apply hK30; refine cs (fun c60 => ?_) (fun c60 => ?_)
        · (try exact aG c60); all_goals have c60p := c60; try simp [F] at c60p
          all_goals
           replace F := aF c60 F; (try replace F := aF c60p F); refine sq fun K38 hK38 => ?_
           have h35 : (pk.toNat : Int) = 3 ∨ (pk.toNat : Int) = 5 := by have h := c60; simp at h; first | exact .inl (by simpa using h) | exact .inr (by simpa using h)
           have hB : bJ ⟨pk, ps, pe, pt, pp⟩ = rB ⟨pk, ps, pe, pt, pp⟩ := by rw [bJ]; rcases h35 with h35 | h35 <;> simp [hkn, hs1, hs2, hs3', h35]
           replace F := aF hB F; refine rg' (h := fun J39 hJ39 => ?_)
           refine ca (c := yJ hp0 (by show pe ≤ 2 ^ 40; omega)) (k := ?_)
           rintro _ _ ⟨rfl, rfl⟩; (repeat first | simp [F] | simp (disch := omega) only [wC, if_pos, if_neg]); apply hJ39; apply hK38; refine ra ?_; exact gcr
        (try exact aG c60); all_goals have c60p := c60; try simp [F] at c60p
        all_goals
         replace F := aF c60 F; (try replace F := aF c60p F); refine aD ?_; apply hK15; refine sq fun K40 hK40 => ?_
         have hB : bJ ⟨pk, ps, pe, pt, pp⟩ = false := by rw [bJ]; simp [hkn, F]
         replace F := aF hB F; refine rg' (h := fun J41 hJ41 => ?_); apply hJ41; apply hK40; refine ra ?_; exact gcr

end Go.Proofs.YtjpnjhlfieklfaaGreat

/-
  The document's right plans are the right plans.
-/
namespace Go.Vm
open Go

def hU : List Per → Nat → List bB → Option (Nat × List bB)
 | [], e, a => some (e, a)
 | x :: l, e, a => if x.l = 0 ∨ e < x.l ∨ x.c = [] ∨ ¬ bM x.c then none else if iV a x.c = 0 then hU l (e - x.l) (kI a x.c) else none

theorem zW : ∀ (l : List Per) (E : Nat) (a : List bB) (e : Nat) (t : List bB), e ≤ 2 ^ 40 → (kG l E a = some (e, t) ↔ E ≤ e ∧ hU l (e - E) a = some (0, t))
 | [], E, a, e, t, he => by
   simp only [kG, hU, Option.some.injEq, Prod.mk.injEq]
   constructor
   · rintro ⟨h1, h2⟩; exact ⟨by omega, by omega, h2⟩
   · rintro ⟨h1, h2, h3⟩; exact ⟨by omega, h3⟩
 | x :: l, E, a, e, t, he => by
   have ih := zW l (E + x.l) (kI a x.c) e t he
   have e1 : e - (E + x.l) = e - E - x.l := by omega
   rw [e1] at ih
   have e2 : x.l ≤ e - E ∧ E ≤ e ↔ E + x.l ≤ e := by omega
   simp only [kG, hU]
   by_cases h0 : x.l = 0
   · rw [if_pos (.inl h0), if_pos (.inl h0)]; simp
   by_cases h1 : x.c = []
   · rw [if_pos (.inr (.inr (.inr (fun h => h.1 h1)))), if_pos (.inr (.inr (.inl h1)))]; simp
   by_cases h2 : bM x.c
   · by_cases h3 : iV a x.c = 0
     · rw [if_pos h3, if_pos h3]
       by_cases h4 : E + x.l ≤ e
       · rw [if_neg (by rintro (h | h | h | h); exact h0 h; omega; omega; exact h ⟨h1, h2⟩), if_neg (by rintro (h | h | h | h); exact h0 h; omega; exact h1 h; exact h h2), ih]
         constructor
         · rintro ⟨_, h⟩; exact ⟨by omega, h⟩
         · rintro ⟨_, h⟩; exact ⟨h4, h⟩
       · constructor
         · intro h
           split at h
           · cases h
           · exact absurd (ih.1 h).1 h4
         · rintro ⟨h5, h⟩
           split at h
           · cases h
           · rename_i hn
             exact absurd (by omega : E + x.l ≤ e) h4
     · rw [if_neg h3, if_neg h3]
       constructor
       · intro h; split at h <;> cases h
       · rintro ⟨_, h⟩; split at h <;> cases h
   · rw [if_pos (.inr (.inr (.inr (fun h => h2 h.2)))), if_pos (.inr (.inr (.inr h2)))]; simp

theorem Hk {p : Pln} (he : p.e ≤ 2 ^ 40) (ht : p.tot ≠ []) : rB p = (decide (p.ps ≠ []) && decide (p.ps.length ≤ 16) && decide (p.s ≤ p.e) && decide (hU p.ps (p.e - p.s) [] = some (0, p.tot))) := by
 unfold rB
 have h := zW p.ps p.s [] p.e p.tot he
 by_cases h0 : p.ps = []
 · have : ¬ kG p.ps p.s [] = some (p.e, p.tot) := by
    rw [h0]; simp only [kG, Option.some.injEq, Prod.mk.injEq]
    rintro ⟨_, h2⟩; exact ht h2.symm
   rw [decide_eq_false this]; simp [h0]
 · rw [Bool.eq_iff_iff]
   simp only [Bool.and_eq_true, decide_eq_true_eq, h]
   constructor
   · rintro ⟨a, b, c⟩; exact ⟨⟨⟨h0, a⟩, b⟩, c⟩
   · rintro ⟨⟨⟨_, a⟩, b⟩, c⟩; exact ⟨a, b, c⟩

end Go.Vm

/-
  The document's right plans..
-/
namespace Go.Proofs.YtjpnjhlfieklfaaGreat
set_option linter.unnecessarySimpa false
set_option maxRecDepth 100000
set_option linter.unusedSimpArgs false
set_option linter.unusedVariables false
open Go Go.Vm
attribute [local simp] dK aJ dJ opA bD bH cJ bP ofValue dC plain aR aS bY b6 cA cC b7 cE b8 b9 cX iC cB cH cG cD bU aV aU bL cS aW dN dP bI bC cN gI bR dD bW AV.cells AV.bA dE cI e6 bF aY cQ dI dS dY cL aO dR dQ gM fU fR cW cU cM List.getElem?_cons_zero List.getElem?_cons_succ o7 lZ

set_option maxHeartbeats 1600000 in
attribute [local simp] cV List.getElem?_cons_zero List.getElem?_cons_succ oA iR eY in
theorem Dv {σ : St} {p : Pln} (hp : p.Ok) :
  aB Tryz.prog 33 [.agg (iR p)] σ (fun av σ' => av = .v (.bool (bJ p)) ∧ σ = σ') := by
 refine aM ?_ rfl
 have hp0 := hp
 have hp2 := @Hk p
 obtain ⟨pk, ps, pe, pt, pp⟩ := p
 obtain ⟨k1, k2, k3, k4, h5⟩ := hp
 have hnil : ((pp.length : Int) == 0) = decide (pp = []) := by cases pp <;> simp <;> omega
 have hnilt : ((pt.length : Int) == 0) = decide (pt = []) := by cases pt <;> simp <;> omega
 have hkn : ∀ n : UInt8, pk = n ↔ (pk.toNat : Int) = (n.toNat : Int) := fun n => ⟨fun e => by rw [e], fun e => UInt8.toNat_inj.1 (Int.ofNat_inj.1 e)⟩
 simp only at hp2
 have hpe0 : ((pe : Int) == 0) = decide (pe = 0) := by rw [Bool.eq_iff_iff]; simp
 have F := And.intro hnil (And.intro hnilt (And.intro hpe0 (True.intro)))
 refine aA Tryz.func33 rfl rfl rfl ?_; refine sr fun _ hJ2 => ?_; apply hJ2; refine sq fun K3 hK3 => ?_; refine sr fun _ hJ5 => ?_; apply hJ5; refine cs (fun c11 => ?_) (fun c11 => ?_)
 · (try exact aG c11); all_goals have c11p := c11; try simp [F] at c11p
   all_goals
    replace F := aF c11 F; (try replace F := aF c11p F); refine sr fun _ hJ7 => ?_; refine gs 15 (fun g2_3 => ?_) (fun g2_3 => ?_)
    · (try exact aG g2_3); all_goals have g2_3p := g2_3; try simp [F] at g2_3p
      all_goals
       replace F := aF g2_3 F; (try replace F := aF g2_3p F); (iterate 3 refine go2 (k := ?_)); refine gs 20 (fun g2_8 => ?_) (fun g2_8 => ?_)
       · (try exact aG g2_8); all_goals have g2_8p := g2_8; try simp [F] at g2_8p
         all_goals
          replace F := aF g2_8 F; (try replace F := aF g2_8p F); (iterate 4 refine go2 (k := ?_)); refine gs 26 (fun g2_14 => ?_) (fun g2_14 => ?_)
          · (try exact aG g2_14); all_goals have g2_14p := g2_14; try simp [F] at g2_14p
            all_goals
             replace F := aF g2_14 F; (try replace F := aF g2_14p F); (iterate 4 refine go2 (k := ?_)); apply hJ7; refine ra ?_; exact gcr (hA := by simp only [aT]; simp [bJ, hkn, F]; exact Wk.refl _)
          (try exact aG g2_14); all_goals have g2_14p := g2_14; try simp [F] at g2_14p
          all_goals
           replace F := aF g2_14 F; (try replace F := aF g2_14p F); (iterate 4 refine no2 (k := ?_)); apply hJ7; refine ra ?_; exact gcr (hA := by simp only [aT]; simp [bJ, hkn, F]; exact Wk.refl _)
       (try exact aG g2_8); all_goals have g2_8p := g2_8; try simp [F] at g2_8p
       all_goals
        replace F := aF g2_8 F; (try replace F := aF g2_8p F); (iterate 8 refine no2 (k := ?_)); apply hJ7; refine ra ?_; exact gcr (hA := by simp only [aT]; simp [bJ, hkn, F]; exact Wk.refl _)
    (try exact aG g2_3); all_goals have g2_3p := g2_3; try simp [F] at g2_3p
    all_goals
     replace F := aF g2_3 F; (try replace F := aF g2_3p F); (iterate 11 refine no2 (k := ?_)); apply hJ7; refine ra ?_; exact gcr (hA := by simp only [aT]; simp [bJ, hkn, F]; exact Wk.refl _)
 (try exact aG c11); all_goals have c11p := c11; try simp [F] at c11p
 all_goals
  replace F := aF c11 F; (try replace F := aF c11p F); refine aD ?_; apply hK3; refine sq fun K8 hK8 => ?_; refine sr fun _ hJ10 => ?_; refine gs 35 (fun g3_3 => ?_) (fun g3_3 => ?_)
  · (try exact aG g3_3); all_goals have g3_3p := g3_3; try simp [F] at g3_3p
    all_goals
     replace F := aF g3_3 F; try replace F := aF g3_3p F
     have n1 : ¬ (pk.toNat : Int) = 1 ∧ ¬ (pk.toNat : Int) = 2 ∧ ¬ (pk.toNat : Int) = 3 ∧ ¬ (pk.toNat : Int) = 4 ∧ ¬ (pk.toNat : Int) = 5 := by have h := g3_3; simp at h; omega
     replace F := aF n1 F; (iterate 11 refine no2 (k := ?_)); apply hJ10; refine ct ?_; refine sr fun _ hJ12 => ?_; apply hJ12; refine ra ?_; exact gcr (hA := by simp only [aT]; simp [bJ, hkn, F]; exact Wk.refl _)
  (try exact aG g3_3); all_goals have g3_3p := g3_3; try simp [F] at g3_3p
  all_goals
   replace F := aF g3_3 F; (try replace F := aF g3_3p F); (iterate 4 refine go2 (k := ?_)); refine gs 41 (fun g3_9 => ?_) (fun g3_9 => ?_)
   · (try exact aG g3_9); all_goals have g3_9p := g3_9; try simp [F] at g3_9p
     all_goals
      replace F := aF g3_9 F; (try replace F := aF g3_9p F); (iterate 7 refine no2 (k := ?_)); apply hJ10; refine ct ?_; refine sr fun _ hJ14 => ?_; apply hJ14; refine ra ?_; exact gcr (hA := by simp only [aT]; simp [bJ, hkn, F]; exact Wk.refl _)
   (try exact aG g3_9); all_goals have g3_9p := g3_9; try simp [F] at g3_9p
   all_goals
    replace F := aF g3_9 F; (try replace F := aF g3_9p F); (iterate 2 refine go2 (k := ?_)); refine ca (c := uP k3) (k := ?_); rintro _ _ ⟨rfl, rfl⟩; (repeat first | simp [F] | simp (disch := omega) only [wC, if_pos, if_neg]); refine go2 (k := ?_); refine gs 47 (fun g3_15 => ?_) (fun g3_15 => ?_)
    · (try exact aG g3_15); all_goals have g3_15p := g3_15; try simp [F] at g3_15p
      all_goals
       replace F := aF g3_15 F; (try replace F := aF g3_15p F); (iterate 3 refine no2 (k := ?_)); apply hJ10; refine ct ?_; refine sr fun _ hJ16 => ?_; apply hJ16; refine ra ?_; exact gcr (hA := by simp only [aT]; simp [bJ, hkn, F]; exact Wk.refl _)
    (try exact aG g3_15); all_goals have g3_15p := g3_15; try simp [F] at g3_15p
    all_goals
     replace F := aF g3_15 F; (try replace F := aF g3_15p F); (iterate 3 refine go2 (k := ?_)); apply hJ10; refine cs (fun c51 => ?_) (fun c51 => ?_)
     · (try exact aG c51); all_goals have c51p := c51; try simp [F] at c51p
       all_goals
        replace F := aF c51 F; try replace F := aF c51p F
        have n1 : 1099511627776 < pe := by have h := c51; simp at h; omega
        replace F := aF n1 F; refine sr fun _ hJ18 => ?_; apply hJ18; refine ra ?_; exact gcr (hA := by simp only [aT]; simp [bJ, hkn, F]; exact Wk.refl _)
     (try exact aG c51); all_goals have c51p := c51; try simp [F] at c51p
     all_goals
      replace F := aF c51 F; try replace F := aF c51p F
      have hs3' : ¬ 1099511627776 < pe := by have h := c51; simp at h; omega
      have hs1 : ¬ pt = [] := by simp [F]
      have hs2 : bM pt := by simp [F]
      have hb := hp2 (by omega) hs1
      replace F := aF hb (And.intro hs3' F); refine aD ?_; apply hK8; refine sq fun K19 hK19 => ?_; refine sr fun _ hJ21 => ?_; refine gs 55 (fun g5_3 => ?_) (fun g5_3 => ?_)
      · (try exact aG g5_3); all_goals have g5_3p := g5_3; try simp [F] at g5_3p
        all_goals
         replace F := aF g5_3 F; (try replace F := aF g5_3p F); (iterate 3 refine go2 (k := ?_)); apply hJ21; refine cs (fun c59 => ?_) (fun c59 => ?_)
         · (try exact aG c59); all_goals have c59p := c59; try simp [F] at c59p
           all_goals
            replace F := aF c59 F; (try replace F := aF c59p F); refine sq fun K22 hK22 => ?_; refine sr fun _ hJ24 => ?_; apply hJ24; refine cs (fun c63 => ?_) (fun c63 => ?_)
            · (try exact aG c63); all_goals have c63p := c63; try simp [F] at c63p
              all_goals
               replace F := aF c63 F; try replace F := aF c63p F
               have n1 : ¬ pp = [] := fun e => by rw [e] at c63; simp at c63
               replace F := aF n1 F; refine sr fun _ hJ26 => ?_; apply hJ26; refine ra ?_; exact gcr (hA := by simp only [aT]; simp [bJ, hkn, F]; exact Wk.refl _)
            (try exact aG c63); all_goals have c63p := c63; try simp [F] at c63p
            all_goals
             replace F := aF c63 F; (try replace F := aF c63p F); refine aD ?_; apply hK22; refine sr fun _ hJ28 => ?_; refine gs 67 (fun g8_3 => ?_) (fun g8_3 => ?_)
             · (try exact aG g8_3); all_goals have g8_3p := g8_3; try simp [F] at g8_3p
               all_goals
                replace F := aF g8_3 F; (try replace F := aF g8_3p F); (iterate 5 refine go2 (k := ?_)); refine gs 74 (fun g8_10 => ?_) (fun g8_10 => ?_)
                · (try exact aG g8_10); all_goals have g8_10p := g8_10; try simp [F] at g8_10p
                  all_goals
                   replace F := aF g8_10 F; (try replace F := aF g8_10p F); (iterate 21 refine no2 (k := ?_)); apply hJ28; refine ra ?_; exact gcr (hA := by simp only [aT]; simp [bJ, hkn, F]; exact Wk.refl _)
                (try exact aG g8_10); all_goals have g8_10p := g8_10; try simp [F] at g8_10p
                all_goals
                 replace F := aF g8_10 F; (try replace F := aF g8_10p F); (iterate 4 refine go2 (k := ?_)); refine gs 78 (fun g8_14 => ?_) (fun g8_14 => ?_)
                 · (try exact aG g8_14); all_goals have g8_14p := g8_14; try simp [F] at g8_14p
                   all_goals
                    replace F := aF g8_14 F; (try replace F := aF g8_14p F); (iterate 4 refine go2 (k := ?_)); refine gs 84 (fun g8_20 => ?_) (fun g8_20 => ?_)
                    · (try exact aG g8_20); all_goals have g8_20p := g8_20; try simp [F] at g8_20p
                      all_goals
                       replace F := aF g8_20 F; (try replace F := aF g8_20p F); (iterate 13 refine no2 (k := ?_)); apply hJ28; refine ra ?_; exact gcr (hA := by simp only [aT]; simp [bJ, hkn, F]; exact Wk.refl _)
                    (try exact aG g8_20); all_goals have g8_20p := g8_20; try simp [F] at g8_20p
                    all_goals
                     replace F := aF g8_20 F; (try replace F := aF g8_20p F); (iterate 4 refine go2 (k := ?_)); refine gs 88 (fun g8_24 => ?_) (fun g8_24 => ?_)
                     · (try exact aG g8_24); all_goals have g8_24p := g8_24; try simp [F] at g8_24p
                       all_goals
                        replace F := aF g8_24 F; (try replace F := aF g8_24p F); (iterate 5 refine go2 (k := ?_)); refine gs 93 (fun g8_29 => ?_) (fun g8_29 => ?_)
                        · (try exact aG g8_29); all_goals have g8_29p := g8_29; try simp [F] at g8_29p
                          all_goals
                           replace F := aF g8_29 F; (try replace F := aF g8_29p F); (iterate 4 refine go2 (k := ?_)); apply hJ28; refine ra ?_; exact gcr (hA := by simp only [aT]; simp [bJ, hkn, F]; exact Wk.refl _)
                        (try exact aG g8_29); all_goals have g8_29p := g8_29; try simp [F] at g8_29p
                        all_goals
                         replace F := aF g8_29 F; (try replace F := aF g8_29p F); (iterate 3 refine no2 (k := ?_)); refine go2 (k := ?_); apply hJ28; refine ra ?_; exact gcr (hA := by simp only [aT]; simp [bJ, hkn, F]; exact Wk.refl _)
                     (try exact aG g8_24); all_goals have g8_24p := g8_24; try simp [F] at g8_24p
                     all_goals
                      replace F := aF g8_24 F; (try replace F := aF g8_24p F); (iterate 3 refine no2 (k := ?_)); (iterate 2 refine go2 (k := ?_)); (iterate 3 refine no2 (k := ?_)); refine go2 (k := ?_); apply hJ28; refine ra ?_; exact gcr (hA := by simp only [aT]; simp [bJ, hkn, F]; exact Wk.refl _)
                 (try exact aG g8_14); all_goals have g8_14p := g8_14; try simp [F] at g8_14p
                 all_goals
                  replace F := aF g8_14 F; (try replace F := aF g8_14p F); (iterate 3 refine no2 (k := ?_)); (iterate 5 refine go2 (k := ?_)); refine gs 88 (fun g8_24 => ?_) (fun g8_24 => ?_)
                  · (try exact aG g8_24); all_goals have g8_24p := g8_24; try simp [F] at g8_24p
                    all_goals
                     replace F := aF g8_24 F; (try replace F := aF g8_24p F); (iterate 5 refine go2 (k := ?_)); refine gs 93 (fun g8_29 => ?_) (fun g8_29 => ?_)
                     · (try exact aG g8_29); all_goals have g8_29p := g8_29; try simp [F] at g8_29p
                       all_goals
                        replace F := aF g8_29 F; (try replace F := aF g8_29p F); (iterate 4 refine go2 (k := ?_)); apply hJ28; refine ra ?_; exact gcr (hA := by simp only [aT]; simp [bJ, hkn, F]; exact Wk.refl _)
                     (try exact aG g8_29); all_goals have g8_29p := g8_29; try simp [F] at g8_29p
                     all_goals
                      replace F := aF g8_29 F; (try replace F := aF g8_29p F); (iterate 3 refine no2 (k := ?_)); refine go2 (k := ?_); apply hJ28; refine ra ?_; exact gcr (hA := by simp only [aT]; simp [bJ, hkn, F]; exact Wk.refl _)
                  (try exact aG g8_24); all_goals have g8_24p := g8_24; try simp [F] at g8_24p
                  all_goals
                   replace F := aF g8_24 F; (try replace F := aF g8_24p F); (iterate 3 refine no2 (k := ?_)); (iterate 2 refine go2 (k := ?_)); (iterate 3 refine no2 (k := ?_)); refine go2 (k := ?_); apply hJ28; refine ra ?_; exact gcr (hA := by simp only [aT]; simp [bJ, hkn, F]; exact Wk.refl _)
             (try exact aG g8_3); all_goals have g8_3p := g8_3; try simp [F] at g8_3p
             all_goals
              replace F := aF g8_3 F; (try replace F := aF g8_3p F); (iterate 5 refine no2 (k := ?_)); (iterate 4 refine go2 (k := ?_)); refine gs 78 (fun g8_14 => ?_) (fun g8_14 => ?_)
              · (try exact aG g8_14); all_goals have g8_14p := g8_14; try simp [F] at g8_14p
                all_goals
                 replace F := aF g8_14 F; (try replace F := aF g8_14p F); (iterate 4 refine go2 (k := ?_)); refine gs 84 (fun g8_20 => ?_) (fun g8_20 => ?_)
                 · (try exact aG g8_20); all_goals have g8_20p := g8_20; try simp [F] at g8_20p
                   all_goals
                    replace F := aF g8_20 F; (try replace F := aF g8_20p F); (iterate 13 refine no2 (k := ?_)); apply hJ28; refine ra ?_; exact gcr (hA := by simp only [aT]; simp [bJ, hkn, F]; exact Wk.refl _)
                 (try exact aG g8_20); all_goals have g8_20p := g8_20; try simp [F] at g8_20p
                 all_goals
                  replace F := aF g8_20 F; (try replace F := aF g8_20p F); (iterate 4 refine go2 (k := ?_)); refine gs 88 (fun g8_24 => ?_) (fun g8_24 => ?_)
                  · (try exact aG g8_24); all_goals have g8_24p := g8_24; try simp [F] at g8_24p
                    all_goals
                     replace F := aF g8_24 F; (try replace F := aF g8_24p F); (iterate 5 refine go2 (k := ?_)); refine gs 93 (fun g8_29 => ?_) (fun g8_29 => ?_)
                     · (try exact aG g8_29); all_goals have g8_29p := g8_29; try simp [F] at g8_29p
                       all_goals
                        replace F := aF g8_29 F; (try replace F := aF g8_29p F); (iterate 4 refine go2 (k := ?_)); apply hJ28; refine ra ?_; exact gcr (hA := by simp only [aT]; simp [bJ, hkn, F]; exact Wk.refl _)
                     (try exact aG g8_29); all_goals have g8_29p := g8_29; try simp [F] at g8_29p
                     all_goals
                      replace F := aF g8_29 F; (try replace F := aF g8_29p F); (iterate 3 refine no2 (k := ?_)); refine go2 (k := ?_); apply hJ28; refine ra ?_; exact gcr (hA := by simp only [aT]; simp [bJ, hkn, F]; exact Wk.refl _)
                  (try exact aG g8_24); all_goals have g8_24p := g8_24; try simp [F] at g8_24p
                  all_goals
                   replace F := aF g8_24 F; (try replace F := aF g8_24p F); (iterate 3 refine no2 (k := ?_)); (iterate 2 refine go2 (k := ?_)); (iterate 3 refine no2 (k := ?_)); refine go2 (k := ?_); apply hJ28; refine ra ?_; exact gcr (hA := by simp only [aT]; simp [bJ, hkn, F]; exact Wk.refl _)
              (try exact aG g8_14); all_goals have g8_14p := g8_14; try simp [F] at g8_14p
              all_goals
               replace F := aF g8_14 F; (try replace F := aF g8_14p F); (iterate 3 refine no2 (k := ?_)); (iterate 5 refine go2 (k := ?_)); refine gs 88 (fun g8_24 => ?_) (fun g8_24 => ?_)
               · (try exact aG g8_24); all_goals have g8_24p := g8_24; try simp [F] at g8_24p
                 all_goals
                  replace F := aF g8_24 F; (try replace F := aF g8_24p F); (iterate 5 refine go2 (k := ?_)); refine gs 93 (fun g8_29 => ?_) (fun g8_29 => ?_)
                  · (try exact aG g8_29); all_goals have g8_29p := g8_29; try simp [F] at g8_29p
                    all_goals
                     replace F := aF g8_29 F; (try replace F := aF g8_29p F); (iterate 4 refine go2 (k := ?_)); apply hJ28; refine ra ?_; exact gcr (hA := by simp only [aT]; simp [bJ, hkn, F]; exact Wk.refl _)
                  (try exact aG g8_29); all_goals have g8_29p := g8_29; try simp [F] at g8_29p
                  all_goals
                   replace F := aF g8_29 F; (try replace F := aF g8_29p F); (iterate 3 refine no2 (k := ?_)); refine go2 (k := ?_); apply hJ28; refine ra ?_; exact gcr (hA := by simp only [aT]; simp [bJ, hkn, F]; exact Wk.refl _)
               (try exact aG g8_24); all_goals have g8_24p := g8_24; try simp [F] at g8_24p
               all_goals
                replace F := aF g8_24 F; (try replace F := aF g8_24p F); (iterate 3 refine no2 (k := ?_)); (iterate 2 refine go2 (k := ?_)); (iterate 3 refine no2 (k := ?_)); refine go2 (k := ?_); apply hJ28; refine ra ?_; exact gcr (hA := by simp only [aT]; simp [bJ, hkn, F]; exact Wk.refl _)
         (try exact aG c59); all_goals have c59p := c59; try simp [F] at c59p
         all_goals
          replace F := aF c59 F; (try replace F := aF c59p F); refine aD ?_; apply hK19; refine sq fun K29 hK29 => ?_; refine sr fun _ hJ31 => ?_; refine gs 103 (fun g9_4 => ?_) (fun g9_4 => ?_)
          · (try exact aG g9_4); all_goals have g9_4p := g9_4; try simp [F] at g9_4p
            all_goals
             replace F := aF g9_4 F; try replace F := aF g9_4p F
             have n0 : pp = [] := by simpa using g9_4
             have n2 : rB ⟨pk, ps, pe, pt, []⟩ = false := by rw [← n0, hb]; simp [n0]
             replace F := aF n2 F; (iterate 9 refine no2 (k := ?_)); apply hJ31; refine ct ?_; refine sr fun _ hJ33 => ?_; apply hJ33; refine ra ?_; exact gcr (hA := by simp only [aT]; simp [bJ, hkn, F]; exact Wk.refl _)
          (try exact aG g9_4); all_goals have g9_4p := g9_4; try simp [F] at g9_4p
          all_goals
           replace F := aF g9_4 F; (try replace F := aF g9_4p F); (iterate 4 refine go2 (k := ?_)); refine gs 109 (fun g9_10 => ?_) (fun g9_10 => ?_)
           · (try exact aG g9_10); all_goals have g9_10p := g9_10; try simp [F] at g9_10p
             all_goals
              replace F := aF g9_10 F; try replace F := aF g9_10p F
              have n1 : ¬ pp.length ≤ 16 := by have h := g9_10; simp at h; omega
              have n2 : rB ⟨pk, ps, pe, pt, pp⟩ = false := by rw [hb]; simp [n1]
              replace F := aF n2 F; (iterate 5 refine no2 (k := ?_)); apply hJ31; refine ct ?_; refine sr fun _ hJ35 => ?_; apply hJ35; refine ra ?_; exact gcr (hA := by simp only [aT]; simp [bJ, hkn, F]; exact Wk.refl _)
           (try exact aG g9_10); all_goals have g9_10p := g9_10; try simp [F] at g9_10p
           all_goals
            replace F := aF g9_10 F; (try replace F := aF g9_10p F); (iterate 5 refine go2 (k := ?_)); apply hJ31; refine cs (fun c115 => ?_) (fun c115 => ?_)
            · (try exact aG c115); all_goals have c115p := c115; try simp [F] at c115p
              all_goals
               replace F := aF c115 F; try replace F := aF c115p F
               have n1 : pp = [] ∨ ¬ pp.length ≤ 16 ∨ ¬ ps ≤ pe := by first | (have h := c115; simp at h; omega) | (have h := g9_10; simp at h; omega) | exact .inl (by simpa using g9_4)
               have n2 : rB ⟨pk, ps, pe, pt, pp⟩ = false := by rw [hb]; rcases n1 with h | h | h <;> simp [h]
               replace F := aF n2 F; refine sr fun _ hJ37 => ?_; apply hJ37; refine ra ?_; exact gcr (hA := by simp only [aT]; simp [bJ, hkn, F]; exact Wk.refl _)
            (try exact aG c115); all_goals have c115p := c115; try simp [F] at c115p
            all_goals
             replace F := aF c115 F; (try replace F := aF c115p F); refine aD ?_; apply hK29; refine sq fun K38 hK38 => ?_
             have hse : ps ≤ pe := by have h := c115; simp at h; omega
             have hp16 : pp.length ≤ 16 := by have h := g9_10; simp at h; omega
             have hpn : ¬ pp = [] := by simp [F]
             have hpB : rB ⟨pk, ps, pe, pt, pp⟩ = decide (hU pp (pe - ps) [] = some (0, pt)) := by rw [hb]; simp [hse, hp16, hpn]
             have hw0 : IntKind.u64.wrap ((pe : Int) - ps) = ((pe - ps : Nat) : Int) := by rw [fE (by omega)]; omega
             replace F := aF hpB (And.intro hw0 F); refine rg' (h := fun J39 hJ39 => ?_); apply hJ39; apply hK38; refine sr fun _ hJ41 => ?_; apply hJ41; refine sq fun K42 hK42 => ?_; refine sq fun K43 hK43 => ?_; refine qU 4 5 (k := ?_); refine rg' (h := fun J44 hJ44 => ?_); apply hJ44; apply hK43; refine aH ?_; refine eO (X := HT) [1] (fun q ρ σ1 => (q.i ≤ pp.length) ∧ (hU pp (pe - ps) [] = hU (pp.drop q.i) q.e q.a) ∧ (q.e < 2 ^ 64) ∧ (bM q.a) ∧ (ρ 3 = .v (.int .u64 q.e)) ∧ (ρ 4 = .sl 5 (aL q.a) q.a.length .shut) ∧ (ρ 5 = .v (.int .i64 q.i)) ∧ (σ1 = { σ with objs := σ.objs ++ [[.v (.int .u8 pk.toNat), .v (.int .u64 ps), .v (.int .u64 pe), .sl 5 (aL pt) pt.length .shut, .sl 2 (eN pp) pp.length .shut]] })) (fun q => pp.length - q.i) (⟨0, pe - ps, []⟩) ?st1 ?rd1
             case st1 =>
              refine ⟨lp, ?_, lp, ?_, lp, lp, lp, ?_⟩
              · rfl
              · exact Go.Vm.gV
              · simp [F]
             case rd1 =>
              rintro q ρ1 σ1 hF1 ⟨hi, hE, hqe, hqr, h3, h4, h17, hσ⟩; obtain rfl := hσ.symm
              have f1 := dX hF1
              (try simp [dW, F] at f1); replace F := aF h3 F; replace F := aF h4 F; replace F := aF h17 F; (try replace F := aF f1 F); refine sq fun K45 hK45 => ?_; refine sr fun _ hJ47 => ?_; apply hJ47; refine cs (fun c125 => ?_) (fun c125 => ?_)
              · (try exact aG c125); all_goals have c125p := c125; try simp [F] at c125p
                all_goals
                 replace F := aF c125 F; (try replace F := aF c125p F); refine aD ?_; apply hK45; refine sq fun K48 hK48 => ?_; refine aH ?_; refine sq fun K49 hK49 => ?_
                 obtain ⟨i, E, S⟩ := q
                 simp only at hi hE hqe hqr h3 h4 h17
                 have hlt : i < pp.length := by simp at c125; omega
                 have hat := jN hlt
                 have hb1 : i * 2 + 2 ≤ pp.length * 2 := by omega
                 have hx5 := h5 _ (List.getElem_mem hlt)
                 have hcons : pp.drop i = pp[i] :: pp.drop (i + 1) := List.drop_eq_getElem_cons hlt
                 obtain ⟨x, hx⟩ : ∃ x, x = pp[i] := ⟨_, rfl⟩
                 rw [← hx] at hat hx5 hcons
                 rw [hcons] at hE
                 obtain ⟨xl, xc⟩ := x
                 obtain ⟨hxl, hxc⟩ := hx5
                 simp only at hxl hxc
                 simp only [hU] at hE
                 have hnilx : ((xc.length : Int) == 0) = decide (xc = []) := by cases xc <;> simp <;> omega
                 replace F := aF hlt F; replace F := aF hat F; replace F := aF hb1 F; replace F := aF hnilx F; refine rg' (h := fun J50 hJ50 => ?_); apply hJ50; apply hK49; refine sq fun K51 hK51 => ?_; refine sr fun _ hJ53 => ?_; refine gs 136 (fun g17_3 => ?_) (fun g17_3 => ?_)
                 · (try exact aG g17_3); all_goals have g17_3p := g17_3; try simp [F] at g17_3p
                   all_goals
                    replace F := aF g17_3 F; try replace F := aF g17_3p F
                    have hbad : hU pp (pe - ps) [] = none := by rw [hE]; exact if_pos (.inl (by have h := g17_3; simp at h; omega))
                    replace F := aF hbad F; (iterate 12 refine no2 (k := ?_)); apply hJ53; refine ct ?_; refine sr fun _ hJ55 => ?_; apply hJ55; refine ra ?_; exact gcr (hA := by simp only [aT]; simp [bJ, hkn, F]; exact Wk.refl _)
                 (try exact aG g17_3); all_goals have g17_3p := g17_3; try simp [F] at g17_3p
                 all_goals
                  replace F := aF g17_3 F; (try replace F := aF g17_3p F); (iterate 4 refine go2 (k := ?_)); refine gs 142 (fun g17_9 => ?_) (fun g17_9 => ?_)
                  · (try exact aG g17_9); all_goals have g17_9p := g17_9; try simp [F] at g17_9p
                    all_goals
                     replace F := aF g17_9 F; try replace F := aF g17_9p F
                     have hbad : hU pp (pe - ps) [] = none := by rw [hE]; exact if_pos (.inr (.inl (by have h := g17_9; simp at h; omega)))
                     replace F := aF hbad F; (iterate 8 refine no2 (k := ?_)); apply hJ53; refine ct ?_; refine sr fun _ hJ57 => ?_; apply hJ57; refine ra ?_; exact gcr (hA := by simp only [aT]; simp [bJ, hkn, F]; exact Wk.refl _)
                  (try exact aG g17_9); all_goals have g17_9p := g17_9; try simp [F] at g17_9p
                  all_goals
                   replace F := aF g17_9 F; (try replace F := aF g17_9p F); (iterate 4 refine go2 (k := ?_)); refine gs 148 (fun g17_15 => ?_) (fun g17_15 => ?_)
                   · (try exact aG g17_15); all_goals have g17_15p := g17_15; try simp [F] at g17_15p
                     all_goals
                      replace F := aF g17_15 F; try replace F := aF g17_15p F
                      have hbad : hU pp (pe - ps) [] = none := by rw [hE]; exact if_pos (.inr (.inr (.inl (by simpa using g17_15))))
                      replace F := aF hbad F; (iterate 4 refine no2 (k := ?_)); apply hJ53; refine ct ?_; refine sr fun _ hJ59 => ?_; apply hJ59; refine ra ?_; exact gcr (hA := by simp only [aT]; simp [bJ, hkn, F]; exact Wk.refl _)
                   (try exact aG g17_15); all_goals have g17_15p := g17_15; try simp [F] at g17_15p
                   all_goals
                    replace F := aF g17_15 F; (try replace F := aF g17_15p F); (iterate 2 refine go2 (k := ?_)); refine ca (c := uP hxc) (k := ?_); rintro _ _ ⟨rfl, rfl⟩; (repeat first | simp [F] | simp (disch := omega) only [wC, if_pos, if_neg]); refine go2 (k := ?_); apply hJ53; refine cs (fun c153 => ?_) (fun c153 => ?_)
                    · (try exact aG c153); all_goals have c153p := c153; try simp [F] at c153p
                      all_goals
                       replace F := aF c153 F; try replace F := aF c153p F
                       have hbad : hU pp (pe - ps) [] = none := by rw [hE]; exact if_pos (.inr (.inr (.inr (by simpa using c153))))
                       replace F := aF hbad F; refine sr fun _ hJ61 => ?_; apply hJ61; refine ra ?_; exact gcr (hA := by simp only [aT]; simp [bJ, hkn, F]; exact Wk.refl _)
                    (try exact aG c153); all_goals have c153p := c153; try simp [F] at c153p
                    all_goals
                     replace F := aF c153 F; try replace F := aF c153p F
                     have n1 : ¬ xl = 0 := by have h := g17_3; simp at h; omega
                     have n2 : ¬ E < xl := by have h := g17_9; simp at h; omega
                     have n3 : ¬ xc = [] := by simpa using g17_15
                     have hxr : bM xc := by simpa using c153
                     have hgood : ¬ (xl = 0 ∨ E < xl ∨ xc = [] ∨ ¬ bM xc) := fun h => h.elim n1 (fun h => h.elim n2 (fun h => h.elim n3 (fun h => h hxr)))
                     have hw2 : E - xl < 2 ^ 64 := by omega
                     obtain ⟨S2, hS2⟩ : ∃ S2, S2 = kI S xc := ⟨_, rfl⟩
                     have hS2r : bM S2 := by rw [hS2]; exact mL _ _
                     rw [← hS2] at hE
                     rw [if_neg hgood] at hE
                     have hw : IntKind.u64.wrap ((E : Int) - xl) = ((E - xl : Nat) : Int) := by rw [fE (by omega)]; omega
                     replace F := aF hw F; refine aD ?_; apply hK51; refine sr fun _ hJ63 => ?_; apply hJ63; refine sr fun _ hJ65 => ?_; refine ca (c := (hS2 ▸ Bu hqr hxr)) (k := ?_); rintro _ _ ⟨rfl, rfl⟩; (repeat first | simp [F] | simp (disch := omega) only [wC, if_pos, if_neg]); apply hJ65; refine sq fun K66 hK66 => ?_; refine sr fun _ hJ68 => ?_; apply hJ68; refine cs (fun c166 => ?_) (fun c166 => ?_)
                     · (try exact aG c166); all_goals have c166p := c166; try simp [F] at c166p
                       all_goals
                        replace F := aF c166 F; try replace F := aF c166p F
                        have hne : ¬ iV S xc = 0 := by simpa using c166
                        rw [if_neg hne] at hE
                        replace F := aF hE F; refine sr fun _ hJ70 => ?_; apply hJ70; refine ra ?_; exact gcr (hA := by simp only [aT]; simp [bJ, hkn, F]; exact Wk.refl _)
                     (try exact aG c166); all_goals have c166p := c166; try simp [F] at c166p
                     all_goals
                      replace F := aF c166 F; try replace F := aF c166p F
                      have hye : iV S xc = 0 := by simpa using c166
                      rw [if_pos hye] at hE
                      refine aD ?_; apply hK66; refine rg' (h := fun J71 hJ71 => ?_); apply hJ71; apply hK48; refine rg' (h := fun J72 hJ72 => ?_); apply hJ72; refine ⟨gk, (⟨i + 1, E - xl, S2⟩), ⟨kpG, lpG, ?_, ?_, ?_, lpG, lpG, lpG, lpG⟩, lpG⟩
                      · exact hE
                      · exact hw2
                      · exact hS2r
              (try exact aG c125); all_goals have c125p := c125; try simp [F] at c125p
              all_goals
               replace F := aF c125 F; try replace F := aF c125p F
               have hend : hU pp (pe - ps) [] = some (q.e, q.a) := by rw [hE, List.drop_of_length_le (by have h := c125; simp at h; omega)]; rfl
               replace F := aF hend F; refine bO ?_; apply hK42; refine sr fun _ hJ74 => ?_; refine gs 170 (fun g24_2 => ?_) (fun g24_2 => ?_)
               · (try exact aG g24_2); all_goals have g24_2p := g24_2; try simp [F] at g24_2p
                 all_goals
                  replace F := aF g24_2 F; try replace F := aF g24_2p F
                  have hee : q.e = 0 := by have h := g24_2; simp at h; omega
                  replace F := aF hee F; iterate 3 refine go2 (k := ?_)
                  refine ca (c := pZ (by have := eI hqr; omega) k3) (k := ?_)
                  rintro _ _ ⟨rfl, rfl⟩; (repeat first | simp [F] | simp (disch := omega) only [wC, if_pos, if_neg]); apply hJ74; refine ra ?_; exact gcr (hA := by simp only [aT]; simp [bJ, hkn, F]; exact Wk.refl _)
               (try exact aG g24_2); all_goals have g24_2p := g24_2; try simp [F] at g24_2p
               all_goals
                replace F := aF g24_2 F; try replace F := aF g24_2p F
                have hee : ¬ q.e = 0 := by have h := g24_2; simp at h; omega
                replace F := aF hee F; (iterate 4 refine no2 (k := ?_)); apply hJ74; refine ra ?_; exact gcr (hA := by simp only [aT]; simp [bJ, hkn, F]; exact Wk.refl _)
      (try exact aG g5_3); all_goals have g5_3p := g5_3; try simp [F] at g5_3p
      all_goals
       replace F := aF g5_3 F; (try replace F := aF g5_3p F); (iterate 3 refine no2 (k := ?_)); apply hJ21; refine cf ?_; refine aD ?_; apply hK19; refine sq fun K75 hK75 => ?_; refine sr fun _ hJ77 => ?_; refine gs 103 (fun g9_4 => ?_) (fun g9_4 => ?_)
       · (try exact aG g9_4); all_goals have g9_4p := g9_4; try simp [F] at g9_4p
         all_goals
          replace F := aF g9_4 F; try replace F := aF g9_4p F
          have n0 : pp = [] := by simpa using g9_4
          have n2 : rB ⟨pk, ps, pe, pt, []⟩ = false := by rw [← n0, hb]; simp [n0]
          replace F := aF n2 F; (iterate 9 refine no2 (k := ?_)); apply hJ77; refine ct ?_; refine sr fun _ hJ79 => ?_; apply hJ79; refine ra ?_; exact gcr (hA := by simp only [aT]; simp [bJ, hkn, F]; exact Wk.refl _)
       (try exact aG g9_4); all_goals have g9_4p := g9_4; try simp [F] at g9_4p
       all_goals
        replace F := aF g9_4 F; (try replace F := aF g9_4p F); (iterate 4 refine go2 (k := ?_)); refine gs 109 (fun g9_10 => ?_) (fun g9_10 => ?_)
        · (try exact aG g9_10); all_goals have g9_10p := g9_10; try simp [F] at g9_10p
          all_goals
           replace F := aF g9_10 F; try replace F := aF g9_10p F
           have n1 : ¬ pp.length ≤ 16 := by have h := g9_10; simp at h; omega
           have n2 : rB ⟨pk, ps, pe, pt, pp⟩ = false := by rw [hb]; simp [n1]
           replace F := aF n2 F; (iterate 5 refine no2 (k := ?_)); apply hJ77; refine ct ?_; refine sr fun _ hJ81 => ?_; apply hJ81; refine ra ?_; exact gcr (hA := by simp only [aT]; simp [bJ, hkn, F]; exact Wk.refl _)
        (try exact aG g9_10); all_goals have g9_10p := g9_10; try simp [F] at g9_10p
        all_goals
         replace F := aF g9_10 F; (try replace F := aF g9_10p F); (iterate 5 refine go2 (k := ?_)); apply hJ77; refine cs (fun c115 => ?_) (fun c115 => ?_)
         · (try exact aG c115); all_goals have c115p := c115; try simp [F] at c115p
           all_goals
            replace F := aF c115 F; try replace F := aF c115p F
            have n1 : pp = [] ∨ ¬ pp.length ≤ 16 ∨ ¬ ps ≤ pe := by first | (have h := c115; simp at h; omega) | (have h := g9_10; simp at h; omega) | exact .inl (by simpa using g9_4)
            have n2 : rB ⟨pk, ps, pe, pt, pp⟩ = false := by rw [hb]; rcases n1 with h | h | h <;> simp [h]
            replace F := aF n2 F; refine sr fun _ hJ83 => ?_; apply hJ83; refine ra ?_; exact gcr (hA := by simp only [aT]; simp [bJ, hkn, F]; exact Wk.refl _)
         (try exact aG c115); all_goals have c115p := c115; try simp [F] at c115p
         all_goals
          replace F := aF c115 F; (try replace F := aF c115p F); refine aD ?_; apply hK75; refine sq fun K84 hK84 => ?_
          have hse : ps ≤ pe := by have h := c115; simp at h; omega
          have hp16 : pp.length ≤ 16 := by have h := g9_10; simp at h; omega
          have hpn : ¬ pp = [] := by simp [F]
          have hpB : rB ⟨pk, ps, pe, pt, pp⟩ = decide (hU pp (pe - ps) [] = some (0, pt)) := by rw [hb]; simp [hse, hp16, hpn]
          have hw0 : IntKind.u64.wrap ((pe : Int) - ps) = ((pe - ps : Nat) : Int) := by rw [fE (by omega)]; omega
          replace F := aF hpB (And.intro hw0 F); refine rg' (h := fun J85 hJ85 => ?_); apply hJ85; apply hK84; refine sr fun _ hJ87 => ?_; apply hJ87; refine sq fun K88 hK88 => ?_; refine sq fun K89 hK89 => ?_; refine qU 4 5 (k := ?_); refine rg' (h := fun J90 hJ90 => ?_); apply hJ90; apply hK89; refine aH ?_; refine eO (X := HT) [1] (fun q ρ σ1 => (q.i ≤ pp.length) ∧ (hU pp (pe - ps) [] = hU (pp.drop q.i) q.e q.a) ∧ (q.e < 2 ^ 64) ∧ (bM q.a) ∧ (ρ 3 = .v (.int .u64 q.e)) ∧ (ρ 4 = .sl 5 (aL q.a) q.a.length .shut) ∧ (ρ 5 = .v (.int .i64 q.i)) ∧ (σ1 = { σ with objs := σ.objs ++ [[.v (.int .u8 pk.toNat), .v (.int .u64 ps), .v (.int .u64 pe), .sl 5 (aL pt) pt.length .shut, .sl 2 (eN pp) pp.length .shut]] })) (fun q => pp.length - q.i) (⟨0, pe - ps, []⟩) ?st1 ?rd1
          case st1 =>
           refine ⟨lp, ?_, lp, ?_, lp, lp, lp, ?_⟩
           · rfl
           · exact Go.Vm.gV
           · simp [F]
          case rd1 =>
           rintro q ρ1 σ1 hF1 ⟨hi, hE, hqe, hqr, h3, h4, h17, hσ⟩; obtain rfl := hσ.symm
           have f1 := dX hF1
           (try simp [dW, F] at f1); replace F := aF h3 F; replace F := aF h4 F; replace F := aF h17 F; (try replace F := aF f1 F); refine sq fun K91 hK91 => ?_; refine sr fun _ hJ93 => ?_; apply hJ93; refine cs (fun c125 => ?_) (fun c125 => ?_)
           · (try exact aG c125); all_goals have c125p := c125; try simp [F] at c125p
             all_goals
              replace F := aF c125 F; (try replace F := aF c125p F); refine aD ?_; apply hK91; refine sq fun K94 hK94 => ?_; refine aH ?_; refine sq fun K95 hK95 => ?_
              obtain ⟨i, E, S⟩ := q
              simp only at hi hE hqe hqr h3 h4 h17
              have hlt : i < pp.length := by simp at c125; omega
              have hat := jN hlt
              have hb1 : i * 2 + 2 ≤ pp.length * 2 := by omega
              have hx5 := h5 _ (List.getElem_mem hlt)
              have hcons : pp.drop i = pp[i] :: pp.drop (i + 1) := List.drop_eq_getElem_cons hlt
              obtain ⟨x, hx⟩ : ∃ x, x = pp[i] := ⟨_, rfl⟩
              rw [← hx] at hat hx5 hcons
              rw [hcons] at hE
              obtain ⟨xl, xc⟩ := x
              obtain ⟨hxl, hxc⟩ := hx5
              simp only at hxl hxc
              simp only [hU] at hE
              have hnilx : ((xc.length : Int) == 0) = decide (xc = []) := by cases xc <;> simp <;> omega
              replace F := aF hlt F; replace F := aF hat F; replace F := aF hb1 F; replace F := aF hnilx F; refine rg' (h := fun J96 hJ96 => ?_); apply hJ96; apply hK95; refine sq fun K97 hK97 => ?_; refine sr fun _ hJ99 => ?_; refine gs 136 (fun g17_3 => ?_) (fun g17_3 => ?_)
              · (try exact aG g17_3); all_goals have g17_3p := g17_3; try simp [F] at g17_3p
                all_goals
                 replace F := aF g17_3 F; try replace F := aF g17_3p F
                 have hbad : hU pp (pe - ps) [] = none := by rw [hE]; exact if_pos (.inl (by have h := g17_3; simp at h; omega))
                 replace F := aF hbad F; (iterate 12 refine no2 (k := ?_)); apply hJ99; refine ct ?_; refine sr fun _ hJ101 => ?_; apply hJ101; refine ra ?_; exact gcr (hA := by simp only [aT]; simp [bJ, hkn, F]; exact Wk.refl _)
              (try exact aG g17_3); all_goals have g17_3p := g17_3; try simp [F] at g17_3p
              all_goals
               replace F := aF g17_3 F; (try replace F := aF g17_3p F); (iterate 4 refine go2 (k := ?_)); refine gs 142 (fun g17_9 => ?_) (fun g17_9 => ?_)
               · (try exact aG g17_9); all_goals have g17_9p := g17_9; try simp [F] at g17_9p
                 all_goals
                  replace F := aF g17_9 F; try replace F := aF g17_9p F
                  have hbad : hU pp (pe - ps) [] = none := by rw [hE]; exact if_pos (.inr (.inl (by have h := g17_9; simp at h; omega)))
                  replace F := aF hbad F; (iterate 8 refine no2 (k := ?_)); apply hJ99; refine ct ?_; refine sr fun _ hJ103 => ?_; apply hJ103; refine ra ?_; exact gcr (hA := by simp only [aT]; simp [bJ, hkn, F]; exact Wk.refl _)
               (try exact aG g17_9); all_goals have g17_9p := g17_9; try simp [F] at g17_9p
               all_goals
                replace F := aF g17_9 F; (try replace F := aF g17_9p F); (iterate 4 refine go2 (k := ?_)); refine gs 148 (fun g17_15 => ?_) (fun g17_15 => ?_)
                · (try exact aG g17_15); all_goals have g17_15p := g17_15; try simp [F] at g17_15p
                  all_goals
                   replace F := aF g17_15 F; try replace F := aF g17_15p F
                   have hbad : hU pp (pe - ps) [] = none := by rw [hE]; exact if_pos (.inr (.inr (.inl (by simpa using g17_15))))
                   replace F := aF hbad F; (iterate 4 refine no2 (k := ?_)); apply hJ99; refine ct ?_; refine sr fun _ hJ105 => ?_; apply hJ105; refine ra ?_; exact gcr (hA := by simp only [aT]; simp [bJ, hkn, F]; exact Wk.refl _)
                (try exact aG g17_15); all_goals have g17_15p := g17_15; try simp [F] at g17_15p
                all_goals
                 replace F := aF g17_15 F; (try replace F := aF g17_15p F); (iterate 2 refine go2 (k := ?_)); refine ca (c := uP hxc) (k := ?_); rintro _ _ ⟨rfl, rfl⟩; (repeat first | simp [F] | simp (disch := omega) only [wC, if_pos, if_neg]); refine go2 (k := ?_); apply hJ99; refine cs (fun c153 => ?_) (fun c153 => ?_)
                 · (try exact aG c153); all_goals have c153p := c153; try simp [F] at c153p
                   all_goals
                    replace F := aF c153 F; try replace F := aF c153p F
                    have hbad : hU pp (pe - ps) [] = none := by rw [hE]; exact if_pos (.inr (.inr (.inr (by simpa using c153))))
                    replace F := aF hbad F; refine sr fun _ hJ107 => ?_; apply hJ107; refine ra ?_; exact gcr (hA := by simp only [aT]; simp [bJ, hkn, F]; exact Wk.refl _)
                 (try exact aG c153); all_goals have c153p := c153; try simp [F] at c153p
                 all_goals
                  replace F := aF c153 F; try replace F := aF c153p F
                  have n1 : ¬ xl = 0 := by have h := g17_3; simp at h; omega
                  have n2 : ¬ E < xl := by have h := g17_9; simp at h; omega
                  have n3 : ¬ xc = [] := by simpa using g17_15
                  have hxr : bM xc := by simpa using c153
                  have hgood : ¬ (xl = 0 ∨ E < xl ∨ xc = [] ∨ ¬ bM xc) := fun h => h.elim n1 (fun h => h.elim n2 (fun h => h.elim n3 (fun h => h hxr)))
                  have hw2 : E - xl < 2 ^ 64 := by omega
                  obtain ⟨S2, hS2⟩ : ∃ S2, S2 = kI S xc := ⟨_, rfl⟩
                  have hS2r : bM S2 := by rw [hS2]; exact mL _ _
                  rw [← hS2] at hE
                  rw [if_neg hgood] at hE
                  have hw : IntKind.u64.wrap ((E : Int) - xl) = ((E - xl : Nat) : Int) := by rw [fE (by omega)]; omega
                  replace F := aF hw F; refine aD ?_; apply hK97; refine sr fun _ hJ109 => ?_; apply hJ109; refine sr fun _ hJ111 => ?_; refine ca (c := (hS2 ▸ Bu hqr hxr)) (k := ?_); rintro _ _ ⟨rfl, rfl⟩; (repeat first | simp [F] | simp (disch := omega) only [wC, if_pos, if_neg]); apply hJ111; refine sq fun K112 hK112 => ?_; refine sr fun _ hJ114 => ?_; apply hJ114; refine cs (fun c166 => ?_) (fun c166 => ?_)
                  · (try exact aG c166); all_goals have c166p := c166; try simp [F] at c166p
                    all_goals
                     replace F := aF c166 F; try replace F := aF c166p F
                     have hne : ¬ iV S xc = 0 := by simpa using c166
                     rw [if_neg hne] at hE
                     replace F := aF hE F; refine sr fun _ hJ116 => ?_; apply hJ116; refine ra ?_; exact gcr (hA := by simp only [aT]; simp [bJ, hkn, F]; exact Wk.refl _)
                  (try exact aG c166); all_goals have c166p := c166; try simp [F] at c166p
                  all_goals
                   replace F := aF c166 F; try replace F := aF c166p F
                   have hye : iV S xc = 0 := by simpa using c166
                   rw [if_pos hye] at hE
                   refine aD ?_; apply hK112; refine rg' (h := fun J117 hJ117 => ?_); apply hJ117; apply hK94; refine rg' (h := fun J118 hJ118 => ?_); apply hJ118; refine ⟨gk, (⟨i + 1, E - xl, S2⟩), ⟨kpG, lpG, ?_, ?_, ?_, lpG, lpG, lpG, lpG⟩, lpG⟩
                   · exact hE
                   · exact hw2
                   · exact hS2r
           (try exact aG c125); all_goals have c125p := c125; try simp [F] at c125p
           all_goals
            replace F := aF c125 F; try replace F := aF c125p F
            have hend : hU pp (pe - ps) [] = some (q.e, q.a) := by rw [hE, List.drop_of_length_le (by have h := c125; simp at h; omega)]; rfl
            replace F := aF hend F; refine bO ?_; apply hK88; refine sr fun _ hJ120 => ?_; refine gs 170 (fun g24_2 => ?_) (fun g24_2 => ?_)
            · (try exact aG g24_2); all_goals have g24_2p := g24_2; try simp [F] at g24_2p
              all_goals
               replace F := aF g24_2 F; try replace F := aF g24_2p F
               have hee : q.e = 0 := by have h := g24_2; simp at h; omega
               replace F := aF hee F; iterate 3 refine go2 (k := ?_)
               refine ca (c := pZ (by have := eI hqr; omega) k3) (k := ?_)
               rintro _ _ ⟨rfl, rfl⟩; (repeat first | simp [F] | simp (disch := omega) only [wC, if_pos, if_neg]); apply hJ120; refine ra ?_; exact gcr (hA := by simp only [aT]; simp [bJ, hkn, F]; exact Wk.refl _)
            (try exact aG g24_2); all_goals have g24_2p := g24_2; try simp [F] at g24_2p
            all_goals
             replace F := aF g24_2 F; try replace F := aF g24_2p F
             have hee : ¬ q.e = 0 := by have h := g24_2; simp at h; omega
             replace F := aF hee F; (iterate 4 refine no2 (k := ?_)); apply hJ120; refine ra ?_; exact gcr (hA := by simp only [aT]; simp [bJ, hkn, F]; exact Wk.refl _)

end Go.Proofs.YtjpnjhlfieklfaaGreat

/-
  What a plan gives by a time.
-/
namespace Go.Vm
open Go

def jV : List Per → Nat → Nat → Nat
 | [], _, _ => 0
 | x :: l, E, t => if t < E + x.l then 0 else jV l (E + x.l) t + 1
theorem B0 : ∀ (l : List Per) (E t : Nat), jV l E t ≤ l.length
 | [], _, _ => Nat.le_refl _
 | x :: l, E, t => by
   unfold jV
   split
   · exact Nat.zero_le _
   · have := B0 l (E + x.l) t; simp; omega
def oT : List Per → Nat
 | [] => 0
 | x :: l => x.l + oT l
def r4 : List Per → List bB → List bB
 | [], a => a
 | x :: l, a => r4 l (kI a x.c)
theorem xN : ∀ (l : List Per) (a : List bB), bM a → bM (r4 l a)
 | [], _, h => h
 | _ :: l, _, _ => xN l _ (mL _ _)
def jE (c : bB) (s e t : Nat) : Nat := c.n.v * (t - s) / (e - s)
theorem sD {c : bB} {s e t : Nat} (h : t ≤ e) : jE c s e t < 2 ^ 256 := by
 unfold jE
 have h1 : c.n.v * (t - s) ≤ c.n.v * (e - s) := Nat.mul_le_mul_left _ (by omega)
 have h2 : c.n.v * (t - s) / (e - s) ≤ c.n.v := by
  by_cases h0 : e - s = 0
  · rw [h0]; simp
  · exact Nat.le_trans (Nat.div_le_div_right h1) (by rw [Nat.mul_div_cancel _ (by omega)]; exact Nat.le_refl _)
 have := c.n.h
 omega
def fO (s e t : Nat) : List bB → List bB
 | [] => []
 | c :: l => j1 c.d (Num.of (jE c s e t)) ++ fO s e t l
theorem mJ (s e t : Nat) (c : bB) : ∀ l, fO s e t (l ++ [c]) = fO s e t l ++ j1 c.d (Num.of (jE c s e t))
 | [] => by simp [fO]
 | x :: l => by simp [fO, mJ s e t c l]
theorem mB (s e t : Nat) : ∀ l, (fO s e t l).length ≤ l.length
 | [] => Nat.le_refl _
 | c :: l => by
   have := mB s e t l
   simp only [fO, List.length_append, List.length_cons]
   have : (j1 c.d (Num.of (jE c s e t))).length ≤ 1 := by unfold j1; split <;> simp
   omega
theorem Dz (l : List Per) (i : Nat) : (eN l).take (i * 2) = eN (l.take i) := by
 conv => lhs; rw [← List.take_append_drop i l, ← sB]
 by_cases h : i ≤ l.length
 · rw [List.take_append_of_le_length (by simp; omega), List.take_of_length_le (by simp; omega)]
 · rw [List.drop_of_length_le (by omega), Fz, List.append_nil, List.take_of_length_le (by simp; omega)]
def fY (p : Pln) (t : Nat) : List bB :=
 if p.k = 3 ∨ p.k = 5 then r4 (p.ps.take (jV p.ps p.s t)) []
 else if (¬ p.k = 1 ∧ ¬ p.k = 2) ∨ (p.k = 1 ∧ t ≤ p.s) then []
 else if p.e ≤ t then p.tot
 else if p.k = 2 then []
 else fO p.s p.e t p.tot

end Go.Vm

/-
  What a plan gives: sums, lists..
-/
namespace Go.Proofs.YtjpnjhlfieklfaaGreat
set_option maxHeartbeats 1600000
set_option linter.unnecessarySimpa false
set_option maxRecDepth 100000
open Go Go.Vm
set_option linter.unusedSimpArgs false
set_option linter.unusedVariables false
attribute [local simp] dK aJ dJ opA bD bH cJ bP ofValue dC plain aR aS bY b6 cA cC b7 cE b8 b9 cX iC cB cH cG cD bU aV aU bL cS aW dN dP bI bC cN gI bR dD bW AV.cells AV.bA dE cI e6 bF aY cQ dI dS dY cL aO dR dQ gM fU fR cW cU cM List.getElem?_cons_zero List.getElem?_cons_succ o7 lZ cV
section
attribute [local simp] kE kK dA fZ maxLen

theorem qV {σ : St} {l : List bB} {tl : eK} (hl : l.length ≤ 1000000) :
  aB Tryz.prog 110 [.sl 5 (aL l) l.length tl] σ (fun av σ' => av = .sl 5 (aL l) l.length .shut ∧ σ = σ') := by
 refine aM ?_ (by simp [AV.under])
 have h1 : l.length * 40 ≤ 140737488355328 := by omega
 have h2 : l.length ≤ 9223372036854775807 := by omega
 have F := And.intro h1 (And.intro h2 (True.intro))
 refine aA Tryz.func110 rfl rfl rfl ?_; refine sr fun _ hJ2 => ?_; apply hJ2; refine sq fun K3 hK3 => ?_; refine sr fun _ hJ5 => ?_; refine sn rfl rfl (fun b4 hb4 => ?_); (repeat first | simp [F] | simp (disch := omega) only [wC, if_pos, if_neg]); apply hJ5; refine cs (fun c4 => ?_) (fun c4 => ?_)
 · (try exact aG c4); all_goals have c4p := c4; try simp [F] at c4p
   all_goals
    replace F := aF c4 F; try replace F := aF c4p F
    have hl0 : l = [] := by cases l with | nil => rfl | cons x l => (exfalso; simp_all)
    subst hl0
    refine sr fun _ hJ7 => ?_; apply hJ7; refine ra ?_; exact gcr
 (try exact aG c4); all_goals have c4p := c4; try simp [F] at c4p
 all_goals
  replace F := aF c4 F; (try replace F := aF c4p F); refine aD ?_; apply hK3; refine sr fun _ hJ9 => ?_; apply hJ9; refine ra ?_; exact gcr
end

attribute [local simp] oA eY in
theorem IX {σ : St} {l : List Per} {tl : eK} (hl : l.length ≤ 9223372036854775807) (h5 : ∀ x ∈ l, x.c.length ≤ 9223372036854775807) :
  aB Tryz.prog 108 [.sl 2 (eN l) l.length tl] σ (fun av σ' => av = .sl 5 (aL (r4 l [])) (r4 l []).length .shut ∧ σ = σ') := by
 refine aM ?_ (by simp [AV.under])
 have F := True.intro
 refine aA Tryz.func108 rfl rfl rfl ?_; refine sr fun _ hJ2 => ?_; apply hJ2; refine sr fun _ hJ4 => ?_; apply hJ4; refine sq fun K5 hK5 => ?_; refine sq fun K6 hK6 => ?_; refine qU 3 5 (k := ?_); refine rg' (h := fun J7 hJ7 => ?_); apply hJ7; apply hK6; refine aH ?_; refine eO (X := HT) [2, 6, 7] (fun q ρ σ1 => (q.i ≤ l.length) ∧ (r4 l [] = r4 (l.drop q.i) q.a) ∧ (q.a.length ≤ 8) ∧ (ρ 3 = .sl 5 (aL q.a) q.a.length .shut) ∧ (ρ 8 = .v (.int .i64 q.i)) ∧ (σ1 = σ)) (fun q => l.length - q.i) (⟨0, 0, []⟩) ?st1 ?rd1
 case st1 =>
  refine ⟨lp, ?_, lp, lp, lp, ?_⟩
  · rfl
  · rfl
 case rd1 =>
  rintro q ρ1 σ1 hF1 ⟨hi, hE, hqa, h4, h17, hσ⟩; obtain rfl := hσ.symm
  have f1 := dX hF1
  (try simp [dW, F] at f1); replace F := aF h4 F; replace F := aF h17 F; (try replace F := aF f1 F); refine sr fun _ hJ9 => ?_; apply hJ9; refine sq fun K10 hK10 => ?_; refine cs (fun c9 => ?_) (fun c9 => ?_)
  · (try exact aG c9); all_goals have c9p := c9; try simp [F] at c9p
    all_goals
     replace F := aF c9 F; (try replace F := aF c9p F); refine aD ?_; apply hK10; refine sq fun K11 hK11 => ?_; refine aH ?_; refine sq fun K12 hK12 => ?_
     obtain ⟨i, E, S⟩ := q
     simp only at hi hE hqa h4 h17
     have hlt : i < l.length := by simp at c9; omega
     have hat := jN hlt
     have hb1 : i * 2 + 2 ≤ l.length * 2 := by omega
     have hxc := h5 _ (List.getElem_mem hlt)
     have hcons : l.drop i = l[i] :: l.drop (i + 1) := List.drop_eq_getElem_cons hlt
     obtain ⟨x, hx⟩ : ∃ x, x = l[i] := ⟨_, rfl⟩
     rw [← hx] at hat hxc hcons
     rw [hcons] at hE
     obtain ⟨xl, xc⟩ := x
     simp only at hxc
     simp only [r4] at hE
     obtain ⟨S2, hS2⟩ : ∃ S2, S2 = kI S xc := ⟨_, rfl⟩
     have hS2l : S2.length ≤ 8 := by rw [hS2]; exact eI (mL _ _)
     rw [← hS2] at hE
     replace F := aF hlt F; replace F := aF hat F; replace F := aF hb1 F; refine rg' (h := fun J13 hJ13 => ?_); apply hJ13; apply hK12; refine rg' (h := fun J14 hJ14 => ?_)
     refine ca (c := (hS2 ▸ AZ (by omega) hxc)) (k := ?_)
     rintro _ _ ⟨rfl, rfl⟩; (repeat first | simp [F] | simp (disch := omega) only [wC, if_pos, if_neg]); apply hJ14; apply hK11; refine rg' (h := fun J15 hJ15 => ?_); apply hJ15; refine ⟨gk, (⟨i + 1, E, S2⟩), ⟨kpG, lpG, ?_, ?_, lpG, lpG, lpG⟩, lpG⟩
     · exact hE
     · exact hS2l
  (try exact aG c9); all_goals have c9p := c9; try simp [F] at c9p
  all_goals
   replace F := aF c9 F; try replace F := aF c9p F
   have hend : r4 l [] = q.a := by rw [hE, List.drop_of_length_le (by have h := c9; simp at h; omega)]; rfl
   replace F := aF hend F; refine bO ?_; apply hK5; refine sr fun _ hJ17 => ?_; apply hJ17; refine ra ?_; exact gcr

attribute [local simp] oA iR eY in
theorem BP {σ : St} {p : Pln} {t : Nat} (hp : p.Ok) (hs : p.s + oT p.ps < 2 ^ 64) :
  aB Tryz.prog 109 [.agg (iR p), .v (.int .u64 t)] σ (fun av σ' => av = .sl 2 (eN (p.ps.take (jV p.ps p.s t))) (jV p.ps p.s t) .shut ∧ σ = σ') := by
 refine aM ?_ (by simp [AV.under, m4])
 obtain ⟨pk, ps, pe, pt, pp⟩ := p
 obtain ⟨k1, k2, k3, k4, h5⟩ := hp
 simp only at hs k4 k1 h5
 have F := True.intro
 refine aA Tryz.func109 rfl rfl rfl ?_; refine sr fun _ hJ2 => ?_; apply hJ2; refine sr fun _ hJ4 => ?_; apply hJ4; refine sq fun K5 hK5 => ?_; refine sr fun _ hJ7 => ?_; apply hJ7; refine aH ?_; refine eO (X := HT) [1, 2, 11, 12] (fun q ρ σ1 => (q.i ≤ pp.length) ∧ (jV pp ps t = jV (pp.drop q.i) q.e t + q.i) ∧ (q.e + oT (pp.drop q.i) < 2 ^ 64) ∧ (ρ 5 = .v (.int .u64 q.e)) ∧ (ρ 13 = .v (.int .i64 q.i)) ∧ (σ1 = { σ with objs := σ.objs ++ [[.v (.int .u8 pk.toNat), .v (.int .u64 ps), .v (.int .u64 pe), .sl 5 (aL pt) pt.length .shut, .sl 2 (eN pp) pp.length .shut]] })) (fun q => pp.length - q.i) (⟨0, ps, []⟩) ?st1 ?rd1
 case st1 =>
  refine ⟨lp, ?_, ?_, lp, lp, ?_⟩
  · rfl
  · exact hs
  · rfl
 case rd1 =>
  rintro q ρ1 σ1 hF1 ⟨hi, hE, hqe, h4, h17, hσ⟩; obtain rfl := hσ.symm
  have f1 := dX hF1
  (try simp [dW, F] at f1); replace F := aF h4 F; replace F := aF h17 F; (try replace F := aF f1 F); refine sr fun _ hJ9 => ?_; apply hJ9; refine sq fun K10 hK10 => ?_; refine cs (fun c14 => ?_) (fun c14 => ?_)
  · (try exact aG c14); all_goals have c14p := c14; try simp [F] at c14p
    all_goals
     replace F := aF c14 F; (try replace F := aF c14p F); refine aD ?_; apply hK10; refine sq fun K11 hK11 => ?_; refine aH ?_; refine sq fun K12 hK12 => ?_
     obtain ⟨i, E, S⟩ := q
     simp only at hi hE hqe h4 h17
     have hlt : i < pp.length := by simp at c14; omega
     have hat := jN hlt
     have hb1 : i * 2 + 2 ≤ pp.length * 2 := by omega
     have hcons : pp.drop i = pp[i] :: pp.drop (i + 1) := List.drop_eq_getElem_cons hlt
     obtain ⟨x, hx⟩ : ∃ x, x = pp[i] := ⟨_, rfl⟩
     rw [← hx] at hat hcons
     rw [hcons] at hE hqe
     obtain ⟨xl, xc⟩ := x
     simp only [jV] at hE
     simp only [oT] at hqe
     have hw : IntKind.u64.wrap ((E : Int) + xl) = ((E + xl : Nat) : Int) := by rw [fE (by omega)]; rfl
     replace F := aF hlt F; replace F := aF hat F; replace F := aF hb1 F; replace F := aF hw F; refine rg' (h := fun J13 hJ13 => ?_); apply hJ13; apply hK12; refine sr fun _ hJ15 => ?_; apply hJ15; refine sr fun _ hJ17 => ?_; apply hJ17; refine cs (fun c24 => ?_) (fun c24 => ?_)
     · (try exact aG c24); all_goals have c24p := c24; try simp [F] at c24p
       all_goals
        replace F := aF c24 F; try replace F := aF c24p F
        have h1 : t < E + xl := by have h := c24; simp at h; omega
        rw [if_pos h1, Nat.zero_add] at hE
        have hpt := Dz pp i
        replace F := aF hE (And.intro hpt F); refine sr fun _ hJ19 => ?_; apply hJ19; refine ra ?_; exact gcr
     (try exact aG c24); all_goals have c24p := c24; try simp [F] at c24p
     all_goals
      replace F := aF c24 F; try replace F := aF c24p F
      have h1 : ¬ t < E + xl := by have h := c24; simp at h; omega
      rw [if_neg h1] at hE
      have hE2 : jV pp ps t = jV (pp.drop (i + 1)) (E + xl) t + (i + 1) := by rw [hE]; omega
      have hqe2 : E + xl + oT (pp.drop (i + 1)) < 2 ^ 64 := by omega
      refine aD ?_; apply hK11; refine rg' (h := fun J20 hJ20 => ?_); apply hJ20; refine ⟨gk, (⟨i + 1, E + xl, []⟩), ⟨kpG, lpG, ?_, ?_, lpG, lpG, lpG⟩, lpG⟩
      · exact hE2
      · exact hqe2
  (try exact aG c14); all_goals have c14p := c14; try simp [F] at c14p
  all_goals
   replace F := aF c14 F; try replace F := aF c14p F
   have hii : q.i = pp.length := by have h := c14; simp at h; omega
   have hend : jV pp ps t = pp.length := by rw [hE, List.drop_of_length_le (by omega)]; simp [jV, hii]
   have htk : pp.take pp.length = pp := List.take_length
   replace F := aF hend (And.intro htk F); refine bO ?_; apply hK5; refine sr fun _ hJ22 => ?_; apply hJ22; refine ra ?_; exact gcr

end Go.Proofs.YtjpnjhlfieklfaaGreat

/-
  What a plan gives..
-/
namespace Go.Proofs.YtjpnjhlfieklfaaGreat
set_option maxHeartbeats 1600000
set_option linter.unnecessarySimpa false
set_option maxRecDepth 100000
set_option linter.unusedSimpArgs false
set_option linter.unusedVariables false
open Go Go.Vm
attribute [local simp] dK aJ dJ opA bD bH cJ bP ofValue dC plain aR aS bY b6 cA cC b7 cE b8 b9 cX iC cB cH cG cD bU aV aU bL cS aW dN dP bI bC cN gI bR dD bW AV.cells AV.bA dE cI e6 bF aY cQ dI dS dY cL aO dR dQ gM fU fR cW cU cM List.getElem?_cons_zero List.getElem?_cons_succ o7 lZ cV

attribute [local simp] iR eY dV in
theorem Dd {σ : St} {p : Pln} {t : Nat} (hp : p.Ok) (hc : p.tot.length ≤ 1000000) (hs : p.s + oT p.ps < 2 ^ 64) (ht : t < 2 ^ 64) :
  aB Tryz.prog 79 [.agg (iR p), .v (.int .u64 t)] σ (fun av σ' => av = .sl 5 (aL (fY p t)) (fY p t).length .shut ∧ σ = σ') := by
 refine aM ?_ (by simp [AV.under])
 have hp0 := hp
 obtain ⟨pk, ps, pe, pt, pp⟩ := p
 obtain ⟨k1, k2, k3, k4, h5⟩ := hp
 simp only at hc hs k1 k2 k3 k4 h5
 have hkn : ∀ n : UInt8, pk = n ↔ (pk.toNat : Int) = (n.toNat : Int) := fun n => ⟨fun e => by rw [e], fun e => UInt8.toNat_inj.1 (Int.ofNat_inj.1 e)⟩
 have hon := B0 pp ps t
 have hol : (pp.take (jV pp ps t)).length = jV pp ps t := by simp; omega
 have hsum : ∀ σ, aB Tryz.prog 108 [.sl 2 (eN (pp.take (jV pp ps t))) (jV pp ps t) .shut] σ (fun av σ' => av = .sl 5 (aL (r4 (pp.take (jV pp ps t)) [])) (r4 (pp.take (jV pp ps t)) []).length .shut ∧ σ = σ') := fun σ => by
  have h := IX (σ := σ) (l := pp.take (jV pp ps t)) (tl := .shut) (by rw [hol]; omega) (fun x hx => (h5 x (List.mem_of_mem_take hx)).2)
  rw [hol] at h; exact h
 have F := True.intro
 refine aA Tryz.func79 rfl rfl rfl ?_; refine sr fun _ hJ2 => ?_; apply hJ2; refine sq fun K3 hK3 => ?_; refine aH ?_; refine sr fun _ hJ5 => ?_; refine gs 14 (fun g1_3 => ?_) (fun g1_3 => ?_)
 · (try exact aG g1_3); all_goals have g1_3p := g1_3; try simp [F] at g1_3p
   all_goals
    replace F := aF g1_3 F; (try replace F := aF g1_3p F); (iterate 3 refine no2 (k := ?_)); apply hJ5; refine ct ?_; refine sq fun K6 hK6 => ?_
    have h35 : (pk.toNat : Int) = 3 ∨ (pk.toNat : Int) = 5 := by first | exact .inl (by simpa using g1_3) | exact .inr (by simpa using c10)
    have hv : fY ⟨pk, ps, pe, pt, pp⟩ t = r4 (pp.take (jV pp ps t)) [] := by rw [fY]; rcases h35 with h | h <;> simp [hkn, h]
    replace F := aF hv F; refine rg' (h := fun J7 hJ7 => ?_); refine ca (c := (BP (t := t) hp0 hs)) (k := ?_); rintro _ _ ⟨rfl, rfl⟩; (repeat first | simp [F] | simp (disch := omega) only [wC, if_pos, if_neg]); refine ca (c := hsum _) (k := ?_); rintro _ _ ⟨rfl, rfl⟩; (repeat first | simp [F] | simp (disch := omega) only [wC, if_pos, if_neg]); apply hJ7; apply hK6; refine ra ?_; exact gcr (hA := by simp only [aT]; simp [fY, hkn, F]; first | exact Wk.refl _ | exact Wk.nil _ _ _)
 (try exact aG g1_3); all_goals have g1_3p := g1_3; try simp [F] at g1_3p
 all_goals
  replace F := aF g1_3 F; (try replace F := aF g1_3p F); (iterate 3 refine go2 (k := ?_)); apply hJ5; refine cs (fun c10 => ?_) (fun c10 => ?_)
  · (try exact aG c10); all_goals have c10p := c10; try simp [F] at c10p
    all_goals
     replace F := aF c10 F; (try replace F := aF c10p F); refine sq fun K8 hK8 => ?_
     have h35 : (pk.toNat : Int) = 3 ∨ (pk.toNat : Int) = 5 := by first | exact .inl (by simpa using g1_3) | exact .inr (by simpa using c10)
     have hv : fY ⟨pk, ps, pe, pt, pp⟩ t = r4 (pp.take (jV pp ps t)) [] := by rw [fY]; rcases h35 with h | h <;> simp [hkn, h]
     replace F := aF hv F; refine rg' (h := fun J9 hJ9 => ?_); refine ca (c := (BP (t := t) hp0 hs)) (k := ?_); rintro _ _ ⟨rfl, rfl⟩; (repeat first | simp [F] | simp (disch := omega) only [wC, if_pos, if_neg]); refine ca (c := hsum _) (k := ?_); rintro _ _ ⟨rfl, rfl⟩; (repeat first | simp [F] | simp (disch := omega) only [wC, if_pos, if_neg]); apply hJ9; apply hK8; refine ra ?_; exact gcr (hA := by simp only [aT]; simp [fY, hkn, F]; first | exact Wk.refl _ | exact Wk.nil _ _ _)
  (try exact aG c10); all_goals have c10p := c10; try simp [F] at c10p
  all_goals
   replace F := aF c10 F; (try replace F := aF c10p F); refine sr fun _ hJ11 => ?_; refine gs 27 (fun g3_3 => ?_) (fun g3_3 => ?_)
   · (try exact aG g3_3); all_goals have g3_3p := g3_3; try simp [F] at g3_3p
     all_goals
      replace F := aF g3_3 F; (try replace F := aF g3_3p F); (iterate 3 refine go2 (k := ?_)); refine gs 32 (fun g3_8 => ?_) (fun g3_8 => ?_)
      · (try exact aG g3_8); all_goals have g3_8p := g3_8; try simp [F] at g3_8p
        all_goals
         replace F := aF g3_8 F; (try replace F := aF g3_8p F); (iterate 9 refine no2 (k := ?_)); apply hJ11; refine ct ?_; refine sr fun _ hJ13 => ?_; apply hJ13; refine ra ?_; exact gcr (hA := by simp only [aT]; simp [fY, hkn, F]; first | exact Wk.refl _ | exact Wk.nil _ _ _)
      (try exact aG g3_8); all_goals have g3_8p := g3_8; try simp [F] at g3_8p
      all_goals
       replace F := aF g3_8 F; (try replace F := aF g3_8p F); (iterate 4 refine go2 (k := ?_)); refine gs 36 (fun g3_12 => ?_) (fun g3_12 => ?_)
       · (try exact aG g3_12); all_goals have g3_12p := g3_12; try simp [F] at g3_12p
         all_goals
          replace F := aF g3_12 F; (try replace F := aF g3_12p F); (iterate 5 refine go2 (k := ?_)); apply hJ11; refine cs (fun c23 => ?_) (fun c23 => ?_)
          · (try exact aG c23); all_goals have c23p := c23; try simp [F] at c23p
            all_goals
             replace F := aF c23 F; try replace F := aF c23p F
             have n1 : t ≤ ps := by have h := c23; simp at h; omega
             replace F := aF n1 F; refine sr fun _ hJ15 => ?_; apply hJ15; refine ra ?_; exact gcr (hA := by simp only [aT]; simp [fY, hkn, F]; first | exact Wk.refl _ | exact Wk.nil _ _ _)
          (try exact aG c23); all_goals have c23p := c23; try simp [F] at c23p
          all_goals
           replace F := aF c23 F; try replace F := aF c23p F
           have n1 : ¬ t ≤ ps := by have h := c23; simp at h; omega
           replace F := aF n1 F; refine sr fun _ hJ17 => ?_; apply hJ17; refine cs (fun c43 => ?_) (fun c43 => ?_)
           · (try exact aG c43); all_goals have c43p := c43; try simp [F] at c43p
             all_goals
              replace F := aF c43 F; try replace F := aF c43p F
              have n2 : pe ≤ t := by have h := c43; simp at h; omega
              replace F := aF n2 F; refine sr fun _ hJ19 => ?_; refine ca (c := qV hc) (k := ?_); rintro _ _ ⟨rfl, rfl⟩; (repeat first | simp [F] | simp (disch := omega) only [wC, if_pos, if_neg]); apply hJ19; refine ra ?_; exact gcr (hA := by simp only [aT]; simp [fY, hkn, F]; first | exact Wk.refl _ | exact Wk.nil _ _ _)
           (try exact aG c43); all_goals have c43p := c43; try simp [F] at c43p
           all_goals
            replace F := aF c43 F; try replace F := aF c43p F
            have n2 : ¬ pe ≤ t := by have h := c43; simp at h; omega
            replace F := aF n2 F; refine sr fun _ hJ21 => ?_; apply hJ21; refine cs (fun c51 => ?_) (fun c51 => ?_)
            · (try exact aG c51); all_goals have c51p := c51; try simp [F] at c51p
              all_goals
               replace F := aF c51 F; (try replace F := aF c51p F); refine sr fun _ hJ23 => ?_; apply hJ23; refine ra ?_; exact gcr (hA := by simp only [aT]; simp [fY, hkn, F]; first | exact Wk.refl _ | exact Wk.nil _ _ _)
            (try exact aG c51); all_goals have c51p := c51; try simp [F] at c51p
            all_goals
             replace F := aF c51 F; (try replace F := aF c51p F); refine aD ?_; apply hK3; refine sr fun _ hJ25 => ?_; apply hJ25; refine sq fun K26 hK26 => ?_; refine sr fun _ hJ28 => ?_; apply hJ28; refine aH ?_; refine eO (X := Nat) [1, 2, 4, 56, 57] (fun i ρ σ1 => (i ≤ pt.length) ∧ (ρ 5 = grA σ.toks.length 5 (iD i) (aL (fO ps pe t (pt.take i))) (fO ps pe t (pt.take i)).length) ∧ (ρ 58 = .v (.int .i64 i)) ∧ (σ1 = { σ with objs := σ.objs ++ [[.v (.int .u8 pk.toNat), .v (.int .u64 ps), .v (.int .u64 pe), .sl 5 (aL pt) pt.length .shut, .sl 2 (eN pp) pp.length .shut]], toks := σ.toks ++ grT (iD i) (fO ps pe t (pt.take i)).length })) (fun i => pt.length - i) (0) ?st1 ?rd1
             case st1 =>
              refine ⟨lp, lp, lp, ?_⟩
              · simp [F]
             case rd1 =>
              rintro i ρ1 σ1 hF1 ⟨hi, h8, h12, hσ⟩; obtain rfl := hσ.symm
              have f1 := dX hF1
              (try simp [dW, F] at f1); replace F := aF h8 F; replace F := aF h12 F; (try replace F := aF f1 F); refine sr fun _ hJ30 => ?_; apply hJ30; refine sq fun K31 hK31 => ?_; refine cs (fun c59 => ?_) (fun c59 => ?_)
              · (try exact aG c59); all_goals have c59p := c59; try simp [F] at c59p
                all_goals
                 replace F := aF c59 F; (try replace F := aF c59p F); refine aD ?_; apply hK31; refine sq fun K32 hK32 => ?_; refine aH ?_; refine sq fun K33 hK33 => ?_
                 have hlt : i < pt.length := by simp at c59; omega
                 have hat := gD hlt
                 have hb1 : i * 5 + 5 ≤ pt.length * 5 := by omega
                 obtain ⟨x, hx⟩ : ∃ x, x = pt[i] := ⟨_, rfl⟩
                 rw [← hx] at hat
                 simp only [dV] at hat
                 have hse : ps < t := by have h := c23; simp at h; omega
                 have hte : t < pe := by have h := c43; simp at h; omega
                 have hw1 : IntKind.u64.wrap ((t : Int) - ps) = ((t - ps : Nat) : Int) := by rw [fE (by omega)]; omega
                 have hw2 : IntKind.u64.wrap ((pe : Int) - ps) = ((pe - ps : Nat) : Int) := by rw [fE (by omega)]; omega
                 have hpn : jE x ps pe t < 2 ^ 256 := sD (by omega)
                 have hmd : mdN x.n.v (t - ps) (pe - ps) false = (Num.of (jE x ps pe t)).v := by rw [Num.s9 hpn, mdN, if_neg (by omega), show mdQ x.n.v (t - ps) (pe - ps) false = jE x ps pe t by simp [mdQ, jE], if_pos hpn]
                 obtain ⟨n, hn⟩ : ∃ n, n = Num.of (jE x ps pe t) := ⟨_, rfl⟩
                 rw [← hn] at hmd
                 obtain ⟨L, hL⟩ : ∃ L, L = fO ps pe t (pt.take i) := ⟨_, rfl⟩
                 obtain ⟨M, hM⟩ : ∃ M, M = j1 x.d n := ⟨_, rfl⟩
                 have hnx : fO ps pe t (pt.take (i + 1)) = L ++ M := by rw [hL, hM, hn, ← mJ, hx, List.take_append_getElem hlt]
                 have hLl : L.length ≤ i := by rw [hL]; exact Nat.le_trans (mB _ _ _ _) (by simp; omega)
                 have hMl : M.length ≤ 1 := by rw [hM]; unfold j1; split <;> simp
                 rw [← hL] at h8 F
                 rw [← hL]
                 have hb0 : iD i = false → aL L = [] ∧ L.length = 0 := fun h => by have h0 := j4 h; subst h0; rw [hL]; simp [fO]
                 have happ : ∀ objs, dA Tryz.prog 23 (grA σ.toks.length 5 (iD i) (aL L) L.length) (.sl 5 (aL M) M.length .shut) ⟨objs, σ.toks ++ grT (iD i) L.length, σ.gl, σ.rows⟩ = some (grA σ.toks.length 5 true (aL L ++ aL M) (L.length + M.length), ⟨objs, σ.toks ++ grT true (L.length + M.length), σ.gl, σ.rows⟩) := fun objs => kC elemT_23 ti_38 (by decide) rfl hb0 (.inl rfl) (by simp [fZ]; omega) (by simp [maxLen]; omega)
                 replace F := aF hlt F; replace F := aF hat F; replace F := aF hb1 F; replace F := aF hw1 F; replace F := aF hw2 F; replace F := aF happ F; refine rg' (h := fun J34 hJ34 => ?_); apply hJ34; apply hK33; refine sq fun K35 hK35 => ?_
                 refine bQ (by kernel_rfl) fun J36 hJ36 => ?_
                 refine q2 0 ?_; refine q2 1 ?_; refine q2 2 ?_; refine q2 3 ?_; refine q2 4 ?_; refine q2 5 ?_; refine q2 7 ?_; refine q2 8 ?_; refine q2 9 ?_; refine q2 10 ?_; refine q2 11 ?_; refine d2 6 17 ?_ ?_
                 · refine ac 6 rfl (c := iJ (n := t - ps) (by omega)) (k := ?_)
                   rintro _ _ ⟨rfl, rfl⟩
                   refine ⟨by first | exact fun _ _ h => h | (refine aI [11, 10, 9, 8, 7, 4, 3, 2, 1, 0] (by kernel_rfl) ?_; (repeat' first | exact ln2 | refine lc ?_ ?_) <;> constructor <;> first | rfl | (simp [F]; done)), ?_⟩
                   (repeat first | simp [F] | simp (disch := omega) only [wC, if_pos, if_neg]); refine d2 12 17 ?_ ?_
                   · refine ac 12 rfl (c := iJ (n := pe - ps) (by omega)) (k := ?_)
                     rintro _ _ ⟨rfl, rfl⟩
                     refine ⟨by first | exact fun _ _ h => h | (refine aI [10, 9, 8, 7, 4, 3, 2, 1, 0] (by kernel_rfl) ?_; (repeat' first | exact ln2 | refine lc ?_ ?_) <;> constructor <;> first | rfl | (simp [F]; done)), ?_⟩
                     (repeat first | simp [F] | simp (disch := omega) only [wC, if_pos, if_neg]); refine d2 13 17 ?_ ?_
                     · refine ac 13 rfl (c := (hmd ▸ fV x.n.h (by omega) (by omega))) (k := ?_)
                       rintro _ _ ⟨rfl, rfl⟩
                       refine ⟨by first | exact fun _ _ h => h | (refine aI [10, 9, 8, 7, 4, 3, 2, 0] (by kernel_rfl) ?_; (repeat' first | exact ln2 | refine lc ?_ ?_) <;> constructor <;> first | rfl | (simp [F]; done)), ?_⟩
                       (repeat first | simp [F] | simp (disch := omega) only [wC, if_pos, if_neg]); refine q2 14 ?_; refine q2 15 ?_; refine q2 16 ?_; refine dop 17 rfl ?_; repeat (first | simp [F] | simp (disch := omega) only [wC, if_pos, if_neg])
                       refine ⟨by first | exact bT _ (by kernel_rfl) | exact bN (by kernel_rfl) rfl, ?_⟩
                       refine dop 18 rfl ?_; repeat (first | simp [F] | simp (disch := omega) only [wC, if_pos, if_neg])
                       refine ⟨bS (by kernel_rfl), ?_⟩
                       refine q2 19 ?_; refine dd ?_; apply hJ36; apply hK35; refine rg' (h := fun J37 hJ37 => ?_); refine ca (c := (hM ▸ gY (d := x.d) (n := n))) (k := ?_); rintro _ _ ⟨rfl, rfl⟩; (repeat first | simp [F] | simp (disch := omega) only [wC, if_pos, if_neg]); apply hJ37; apply hK32; refine rg' (h := fun J38 hJ38 => ?_); apply hJ38; refine ⟨gk, (i + 1), ⟨kpG, lpG, ?_, lpG, ?_⟩, lpG⟩
                       · rw [hnx, ← cO]
                         simp [F, AV.gcO, cF]
                       · rw [hnx]
                         simp [F, St.fD]
                     · refine ao 17 rfl ?_; repeat (first | simp [F] | simp (disch := omega) only [wC, if_pos, if_neg])
                       refine ⟨by first | exact bT _ (by kernel_rfl) | exact bN (by kernel_rfl) rfl, ?_⟩
                       refine dc 13 rfl (c := (hmd ▸ fV x.n.h (by omega) (by omega))) (k := ?_)
                       rintro _ _ ⟨rfl, rfl⟩
                       refine ⟨by first | exact fun _ _ h => h | (refine aI [10, 9, 8, 7, 4, 3, 2, 0] (by kernel_rfl) ?_; (repeat' first | exact ln2 | refine lc ?_ ?_) <;> constructor <;> first | rfl | (simp [F]; done)), ?_⟩
                       (repeat first | simp [F] | simp (disch := omega) only [wC, if_pos, if_neg]); refine q2 14 ?_; refine q2 15 ?_; refine q2 16 ?_; refine dop 18 rfl ?_; repeat (first | simp [F] | simp (disch := omega) only [wC, if_pos, if_neg])
                       refine ⟨bS (by kernel_rfl), ?_⟩
                       refine q2 19 ?_; refine dd ?_; apply hJ36; apply hK35; refine rg' (h := fun J39 hJ39 => ?_); refine ca (c := (hM ▸ gY (d := x.d) (n := n))) (k := ?_); rintro _ _ ⟨rfl, rfl⟩; (repeat first | simp [F] | simp (disch := omega) only [wC, if_pos, if_neg]); apply hJ39; apply hK32; refine rg' (h := fun J40 hJ40 => ?_); apply hJ40; refine ⟨gk, (i + 1), ⟨kpG, lpG, ?_, lpG, ?_⟩, lpG⟩
                       · rw [hnx, ← cO]
                         simp [F, AV.gcO, cF]
                       · rw [hnx]
                         simp [F, St.fD]
                   · refine ao 17 rfl ?_; repeat (first | simp [F] | simp (disch := omega) only [wC, if_pos, if_neg])
                     refine ⟨by first | exact bT _ (by kernel_rfl) | exact bN (by kernel_rfl) rfl, ?_⟩
                     refine dc 12 rfl (c := iJ (n := pe - ps) (by omega)) (k := ?_)
                     rintro _ _ ⟨rfl, rfl⟩
                     refine ⟨by first | exact fun _ _ h => h | (refine aI [10, 9, 8, 7, 4, 3, 2, 1, 0] (by kernel_rfl) ?_; (repeat' first | exact ln2 | refine lc ?_ ?_) <;> constructor <;> first | rfl | (simp [F]; done)), ?_⟩
                     repeat (first | simp [F] | simp (disch := omega) only [wC, if_pos, if_neg])
                     refine dc 13 rfl (c := (hmd ▸ fV x.n.h (by omega) (by omega))) (k := ?_)
                     rintro _ _ ⟨rfl, rfl⟩
                     refine ⟨by first | exact fun _ _ h => h | (refine aI [10, 9, 8, 7, 4, 3, 2, 0] (by kernel_rfl) ?_; (repeat' first | exact ln2 | refine lc ?_ ?_) <;> constructor <;> first | rfl | (simp [F]; done)), ?_⟩
                     (repeat first | simp [F] | simp (disch := omega) only [wC, if_pos, if_neg]); refine q2 14 ?_; refine q2 15 ?_; refine q2 16 ?_; refine dop 18 rfl ?_; repeat (first | simp [F] | simp (disch := omega) only [wC, if_pos, if_neg])
                     refine ⟨bS (by kernel_rfl), ?_⟩
                     refine q2 19 ?_; refine dd ?_; apply hJ36; apply hK35; refine rg' (h := fun J41 hJ41 => ?_); refine ca (c := (hM ▸ gY (d := x.d) (n := n))) (k := ?_); rintro _ _ ⟨rfl, rfl⟩; (repeat first | simp [F] | simp (disch := omega) only [wC, if_pos, if_neg]); apply hJ41; apply hK32; refine rg' (h := fun J42 hJ42 => ?_); apply hJ42; refine ⟨gk, (i + 1), ⟨kpG, lpG, ?_, lpG, ?_⟩, lpG⟩
                     · rw [hnx, ← cO]
                       simp [F, AV.gcO, cF]
                     · rw [hnx]
                       simp [F, St.fD]
                 · refine ao 17 rfl ?_; repeat (first | simp [F] | simp (disch := omega) only [wC, if_pos, if_neg])
                   refine ⟨by first | exact bT _ (by kernel_rfl) | exact bN (by kernel_rfl) rfl, ?_⟩
                   refine dc 6 rfl (c := iJ (n := t - ps) (by omega)) (k := ?_)
                   rintro _ _ ⟨rfl, rfl⟩
                   refine ⟨by first | exact fun _ _ h => h | (refine aI [11, 10, 9, 8, 7, 4, 3, 2, 1, 0] (by kernel_rfl) ?_; (repeat' first | exact ln2 | refine lc ?_ ?_) <;> constructor <;> first | rfl | (simp [F]; done)), ?_⟩
                   repeat (first | simp [F] | simp (disch := omega) only [wC, if_pos, if_neg])
                   refine dc 12 rfl (c := iJ (n := pe - ps) (by omega)) (k := ?_)
                   rintro _ _ ⟨rfl, rfl⟩
                   refine ⟨by first | exact fun _ _ h => h | (refine aI [10, 9, 8, 7, 4, 3, 2, 1, 0] (by kernel_rfl) ?_; (repeat' first | exact ln2 | refine lc ?_ ?_) <;> constructor <;> first | rfl | (simp [F]; done)), ?_⟩
                   repeat (first | simp [F] | simp (disch := omega) only [wC, if_pos, if_neg])
                   refine dc 13 rfl (c := (hmd ▸ fV x.n.h (by omega) (by omega))) (k := ?_)
                   rintro _ _ ⟨rfl, rfl⟩
                   refine ⟨by first | exact fun _ _ h => h | (refine aI [10, 9, 8, 7, 4, 3, 2, 0] (by kernel_rfl) ?_; (repeat' first | exact ln2 | refine lc ?_ ?_) <;> constructor <;> first | rfl | (simp [F]; done)), ?_⟩
                   (repeat first | simp [F] | simp (disch := omega) only [wC, if_pos, if_neg]); refine q2 14 ?_; refine q2 15 ?_; refine q2 16 ?_; refine dop 18 rfl ?_; repeat (first | simp [F] | simp (disch := omega) only [wC, if_pos, if_neg])
                   refine ⟨bS (by kernel_rfl), ?_⟩
                   refine q2 19 ?_; refine dd ?_; apply hJ36; apply hK35; refine rg' (h := fun J43 hJ43 => ?_); refine ca (c := (hM ▸ gY (d := x.d) (n := n))) (k := ?_); rintro _ _ ⟨rfl, rfl⟩; (repeat first | simp [F] | simp (disch := omega) only [wC, if_pos, if_neg]); apply hJ43; apply hK32; refine rg' (h := fun J44 hJ44 => ?_); apply hJ44; refine ⟨gk, (i + 1), ⟨kpG, lpG, ?_, lpG, ?_⟩, lpG⟩
                   · rw [hnx, ← cO]
                     simp [F, AV.gcO, cF]
                   · rw [hnx]
                     simp [F, St.fD]
              (try exact aG c59); all_goals have c59p := c59; try simp [F] at c59p
              all_goals
               replace F := aF c59 F; try replace F := aF c59p F
               have hii : i = pt.length := by have h := c59; simp at h; omega
               have hv : fY ⟨pk, ps, pe, pt, pp⟩ t = fO ps pe t (pt.take i) := by rw [hii, List.take_length, fY]; simp [hkn, F]
               replace F := aF hv F; refine bO ?_; apply hK26; refine sr fun _ hJ46 => ?_; apply hJ46; refine ra ?_
               rw [hv]
               exact gcr (hA := by simp only [aT]; simp [F]; exact qL (fun h => by have h0 := j4 h; subst h0; simp [fO]))
       (try exact aG g3_12); all_goals have g3_12p := g3_12; try simp [F] at g3_12p
       all_goals
        replace F := aF g3_12 F; (try replace F := aF g3_12p F); (iterate 4 refine no2 (k := ?_)); refine go2 (k := ?_); apply hJ11; refine cf ?_; refine sr fun _ hJ48 => ?_; apply hJ48; refine cs (fun c43 => ?_) (fun c43 => ?_)
        · (try exact aG c43); all_goals have c43p := c43; try simp [F] at c43p
          all_goals
           replace F := aF c43 F; try replace F := aF c43p F
           have n2 : pe ≤ t := by have h := c43; simp at h; omega
           replace F := aF n2 F; refine sr fun _ hJ50 => ?_; refine ca (c := qV hc) (k := ?_); rintro _ _ ⟨rfl, rfl⟩; (repeat first | simp [F] | simp (disch := omega) only [wC, if_pos, if_neg]); apply hJ50; refine ra ?_; exact gcr (hA := by simp only [aT]; simp [fY, hkn, F]; first | exact Wk.refl _ | exact Wk.nil _ _ _)
        (try exact aG c43); all_goals have c43p := c43; try simp [F] at c43p
        all_goals
         replace F := aF c43 F; try replace F := aF c43p F
         have n2 : ¬ pe ≤ t := by have h := c43; simp at h; omega
         replace F := aF n2 F; refine sr fun _ hJ52 => ?_; apply hJ52; refine cs (fun c51 => ?_) (fun c51 => ?_)
         · (try exact aG c51); all_goals have c51p := c51; try simp [F] at c51p
           all_goals
            replace F := aF c51 F; (try replace F := aF c51p F); refine sr fun _ hJ54 => ?_; apply hJ54; refine ra ?_; exact gcr (hA := by simp only [aT]; simp [fY, hkn, F]; first | exact Wk.refl _ | exact Wk.nil _ _ _)
         (try exact aG c51); all_goals have c51p := c51; try simp [F] at c51p
         all_goals
          replace F := aF c51 F; (try replace F := aF c51p F); refine aD ?_; apply hK3; refine sr fun _ hJ56 => ?_; apply hJ56; refine sq fun K57 hK57 => ?_; refine sr fun _ hJ59 => ?_; apply hJ59; refine aH ?_; refine eO (X := Nat) [1, 2, 4, 56, 57] (fun i ρ σ1 => (i ≤ pt.length) ∧ (ρ 5 = grA σ.toks.length 5 (iD i) (aL (fO ps pe t (pt.take i))) (fO ps pe t (pt.take i)).length) ∧ (ρ 58 = .v (.int .i64 i)) ∧ (σ1 = { σ with objs := σ.objs ++ [[.v (.int .u8 pk.toNat), .v (.int .u64 ps), .v (.int .u64 pe), .sl 5 (aL pt) pt.length .shut, .sl 2 (eN pp) pp.length .shut]], toks := σ.toks ++ grT (iD i) (fO ps pe t (pt.take i)).length })) (fun i => pt.length - i) (0) ?st1 ?rd1
          case st1 =>
           refine ⟨lp, lp, lp, ?_⟩
           · simp [F]
          case rd1 =>
           rintro i ρ1 σ1 hF1 ⟨hi, h8, h12, hσ⟩; obtain rfl := hσ.symm
           have f1 := dX hF1
           (try simp [dW, F] at f1); replace F := aF h8 F; replace F := aF h12 F; (try replace F := aF f1 F); refine sr fun _ hJ61 => ?_; apply hJ61; refine sq fun K62 hK62 => ?_; refine cs (fun c59 => ?_) (fun c59 => ?_)
           · (try exact aG c59); all_goals have c59p := c59; try simp [F] at c59p
             all_goals
              replace F := aF c59 F; (try replace F := aF c59p F); refine aD ?_; apply hK62; refine sq fun K63 hK63 => ?_; refine aH ?_; refine sq fun K64 hK64 => ?_
              have hlt : i < pt.length := by simp at c59; omega
              have hat := gD hlt
              have hb1 : i * 5 + 5 ≤ pt.length * 5 := by omega
              obtain ⟨x, hx⟩ : ∃ x, x = pt[i] := ⟨_, rfl⟩
              rw [← hx] at hat
              simp only [dV] at hat
              have hse : ps < t := by have h := c23; simp at h; omega
              have hte : t < pe := by have h := c43; simp at h; omega
              have hw1 : IntKind.u64.wrap ((t : Int) - ps) = ((t - ps : Nat) : Int) := by rw [fE (by omega)]; omega
              have hw2 : IntKind.u64.wrap ((pe : Int) - ps) = ((pe - ps : Nat) : Int) := by rw [fE (by omega)]; omega
              have hpn : jE x ps pe t < 2 ^ 256 := sD (by omega)
              have hmd : mdN x.n.v (t - ps) (pe - ps) false = (Num.of (jE x ps pe t)).v := by rw [Num.s9 hpn, mdN, if_neg (by omega), show mdQ x.n.v (t - ps) (pe - ps) false = jE x ps pe t by simp [mdQ, jE], if_pos hpn]
              obtain ⟨n, hn⟩ : ∃ n, n = Num.of (jE x ps pe t) := ⟨_, rfl⟩
              rw [← hn] at hmd
              obtain ⟨L, hL⟩ : ∃ L, L = fO ps pe t (pt.take i) := ⟨_, rfl⟩
              obtain ⟨M, hM⟩ : ∃ M, M = j1 x.d n := ⟨_, rfl⟩
              have hnx : fO ps pe t (pt.take (i + 1)) = L ++ M := by rw [hL, hM, hn, ← mJ, hx, List.take_append_getElem hlt]
              have hLl : L.length ≤ i := by rw [hL]; exact Nat.le_trans (mB _ _ _ _) (by simp; omega)
              have hMl : M.length ≤ 1 := by rw [hM]; unfold j1; split <;> simp
              rw [← hL] at h8 F
              rw [← hL]
              have hb0 : iD i = false → aL L = [] ∧ L.length = 0 := fun h => by have h0 := j4 h; subst h0; rw [hL]; simp [fO]
              have happ : ∀ objs, dA Tryz.prog 23 (grA σ.toks.length 5 (iD i) (aL L) L.length) (.sl 5 (aL M) M.length .shut) ⟨objs, σ.toks ++ grT (iD i) L.length, σ.gl, σ.rows⟩ = some (grA σ.toks.length 5 true (aL L ++ aL M) (L.length + M.length), ⟨objs, σ.toks ++ grT true (L.length + M.length), σ.gl, σ.rows⟩) := fun objs => kC elemT_23 ti_38 (by decide) rfl hb0 (.inl rfl) (by simp [fZ]; omega) (by simp [maxLen]; omega)
              replace F := aF hlt F; replace F := aF hat F; replace F := aF hb1 F; replace F := aF hw1 F; replace F := aF hw2 F; replace F := aF happ F; refine rg' (h := fun J65 hJ65 => ?_); apply hJ65; apply hK64; refine sq fun K66 hK66 => ?_
              refine bQ (by kernel_rfl) fun J67 hJ67 => ?_
              refine q2 0 ?_; refine q2 1 ?_; refine q2 2 ?_; refine q2 3 ?_; refine q2 4 ?_; refine q2 5 ?_; refine q2 7 ?_; refine q2 8 ?_; refine q2 9 ?_; refine q2 10 ?_; refine q2 11 ?_; refine d2 6 17 ?_ ?_
              · refine ac 6 rfl (c := iJ (n := t - ps) (by omega)) (k := ?_)
                rintro _ _ ⟨rfl, rfl⟩
                refine ⟨by first | exact fun _ _ h => h | (refine aI [11, 10, 9, 8, 7, 4, 3, 2, 1, 0] (by kernel_rfl) ?_; (repeat' first | exact ln2 | refine lc ?_ ?_) <;> constructor <;> first | rfl | (simp [F]; done)), ?_⟩
                (repeat first | simp [F] | simp (disch := omega) only [wC, if_pos, if_neg]); refine d2 12 17 ?_ ?_
                · refine ac 12 rfl (c := iJ (n := pe - ps) (by omega)) (k := ?_)
                  rintro _ _ ⟨rfl, rfl⟩
                  refine ⟨by first | exact fun _ _ h => h | (refine aI [10, 9, 8, 7, 4, 3, 2, 1, 0] (by kernel_rfl) ?_; (repeat' first | exact ln2 | refine lc ?_ ?_) <;> constructor <;> first | rfl | (simp [F]; done)), ?_⟩
                  (repeat first | simp [F] | simp (disch := omega) only [wC, if_pos, if_neg]); refine d2 13 17 ?_ ?_
                  · refine ac 13 rfl (c := (hmd ▸ fV x.n.h (by omega) (by omega))) (k := ?_)
                    rintro _ _ ⟨rfl, rfl⟩
                    refine ⟨by first | exact fun _ _ h => h | (refine aI [10, 9, 8, 7, 4, 3, 2, 0] (by kernel_rfl) ?_; (repeat' first | exact ln2 | refine lc ?_ ?_) <;> constructor <;> first | rfl | (simp [F]; done)), ?_⟩
                    (repeat first | simp [F] | simp (disch := omega) only [wC, if_pos, if_neg]); refine q2 14 ?_; refine q2 15 ?_; refine q2 16 ?_; refine dop 17 rfl ?_; repeat (first | simp [F] | simp (disch := omega) only [wC, if_pos, if_neg])
                    refine ⟨by first | exact bT _ (by kernel_rfl) | exact bN (by kernel_rfl) rfl, ?_⟩
                    refine dop 18 rfl ?_; repeat (first | simp [F] | simp (disch := omega) only [wC, if_pos, if_neg])
                    refine ⟨bS (by kernel_rfl), ?_⟩
                    refine q2 19 ?_; refine dd ?_; apply hJ67; apply hK66; refine rg' (h := fun J68 hJ68 => ?_); refine ca (c := (hM ▸ gY (d := x.d) (n := n))) (k := ?_); rintro _ _ ⟨rfl, rfl⟩; (repeat first | simp [F] | simp (disch := omega) only [wC, if_pos, if_neg]); apply hJ68; apply hK63; refine rg' (h := fun J69 hJ69 => ?_); apply hJ69; refine ⟨gk, (i + 1), ⟨kpG, lpG, ?_, lpG, ?_⟩, lpG⟩
                    · rw [hnx, ← cO]
                      simp [F, AV.gcO, cF]
                    · rw [hnx]
                      simp [F, St.fD]
                  · refine ao 17 rfl ?_; repeat (first | simp [F] | simp (disch := omega) only [wC, if_pos, if_neg])
                    refine ⟨by first | exact bT _ (by kernel_rfl) | exact bN (by kernel_rfl) rfl, ?_⟩
                    refine dc 13 rfl (c := (hmd ▸ fV x.n.h (by omega) (by omega))) (k := ?_)
                    rintro _ _ ⟨rfl, rfl⟩
                    refine ⟨by first | exact fun _ _ h => h | (refine aI [10, 9, 8, 7, 4, 3, 2, 0] (by kernel_rfl) ?_; (repeat' first | exact ln2 | refine lc ?_ ?_) <;> constructor <;> first | rfl | (simp [F]; done)), ?_⟩
                    (repeat first | simp [F] | simp (disch := omega) only [wC, if_pos, if_neg]); refine q2 14 ?_; refine q2 15 ?_; refine q2 16 ?_; refine dop 18 rfl ?_; repeat (first | simp [F] | simp (disch := omega) only [wC, if_pos, if_neg])
                    refine ⟨bS (by kernel_rfl), ?_⟩
                    refine q2 19 ?_; refine dd ?_; apply hJ67; apply hK66; refine rg' (h := fun J70 hJ70 => ?_); refine ca (c := (hM ▸ gY (d := x.d) (n := n))) (k := ?_); rintro _ _ ⟨rfl, rfl⟩; (repeat first | simp [F] | simp (disch := omega) only [wC, if_pos, if_neg]); apply hJ70; apply hK63; refine rg' (h := fun J71 hJ71 => ?_); apply hJ71; refine ⟨gk, (i + 1), ⟨kpG, lpG, ?_, lpG, ?_⟩, lpG⟩
                    · rw [hnx, ← cO]
                      simp [F, AV.gcO, cF]
                    · rw [hnx]
                      simp [F, St.fD]
                · refine ao 17 rfl ?_; repeat (first | simp [F] | simp (disch := omega) only [wC, if_pos, if_neg])
                  refine ⟨by first | exact bT _ (by kernel_rfl) | exact bN (by kernel_rfl) rfl, ?_⟩
                  refine dc 12 rfl (c := iJ (n := pe - ps) (by omega)) (k := ?_)
                  rintro _ _ ⟨rfl, rfl⟩
                  refine ⟨by first | exact fun _ _ h => h | (refine aI [10, 9, 8, 7, 4, 3, 2, 1, 0] (by kernel_rfl) ?_; (repeat' first | exact ln2 | refine lc ?_ ?_) <;> constructor <;> first | rfl | (simp [F]; done)), ?_⟩
                  repeat (first | simp [F] | simp (disch := omega) only [wC, if_pos, if_neg])
                  refine dc 13 rfl (c := (hmd ▸ fV x.n.h (by omega) (by omega))) (k := ?_)
                  rintro _ _ ⟨rfl, rfl⟩
                  refine ⟨by first | exact fun _ _ h => h | (refine aI [10, 9, 8, 7, 4, 3, 2, 0] (by kernel_rfl) ?_; (repeat' first | exact ln2 | refine lc ?_ ?_) <;> constructor <;> first | rfl | (simp [F]; done)), ?_⟩
                  (repeat first | simp [F] | simp (disch := omega) only [wC, if_pos, if_neg]); refine q2 14 ?_; refine q2 15 ?_; refine q2 16 ?_; refine dop 18 rfl ?_; repeat (first | simp [F] | simp (disch := omega) only [wC, if_pos, if_neg])
                  refine ⟨bS (by kernel_rfl), ?_⟩
                  refine q2 19 ?_; refine dd ?_; apply hJ67; apply hK66; refine rg' (h := fun J72 hJ72 => ?_); refine ca (c := (hM ▸ gY (d := x.d) (n := n))) (k := ?_); rintro _ _ ⟨rfl, rfl⟩; (repeat first | simp [F] | simp (disch := omega) only [wC, if_pos, if_neg]); apply hJ72; apply hK63; refine rg' (h := fun J73 hJ73 => ?_); apply hJ73; refine ⟨gk, (i + 1), ⟨kpG, lpG, ?_, lpG, ?_⟩, lpG⟩
                  · rw [hnx, ← cO]
                    simp [F, AV.gcO, cF]
                  · rw [hnx]
                    simp [F, St.fD]
              · refine ao 17 rfl ?_; repeat (first | simp [F] | simp (disch := omega) only [wC, if_pos, if_neg])
                refine ⟨by first | exact bT _ (by kernel_rfl) | exact bN (by kernel_rfl) rfl, ?_⟩
                refine dc 6 rfl (c := iJ (n := t - ps) (by omega)) (k := ?_)
                rintro _ _ ⟨rfl, rfl⟩
                refine ⟨by first | exact fun _ _ h => h | (refine aI [11, 10, 9, 8, 7, 4, 3, 2, 1, 0] (by kernel_rfl) ?_; (repeat' first | exact ln2 | refine lc ?_ ?_) <;> constructor <;> first | rfl | (simp [F]; done)), ?_⟩
                repeat (first | simp [F] | simp (disch := omega) only [wC, if_pos, if_neg])
                refine dc 12 rfl (c := iJ (n := pe - ps) (by omega)) (k := ?_)
                rintro _ _ ⟨rfl, rfl⟩
                refine ⟨by first | exact fun _ _ h => h | (refine aI [10, 9, 8, 7, 4, 3, 2, 1, 0] (by kernel_rfl) ?_; (repeat' first | exact ln2 | refine lc ?_ ?_) <;> constructor <;> first | rfl | (simp [F]; done)), ?_⟩
                repeat (first | simp [F] | simp (disch := omega) only [wC, if_pos, if_neg])
                refine dc 13 rfl (c := (hmd ▸ fV x.n.h (by omega) (by omega))) (k := ?_)
                rintro _ _ ⟨rfl, rfl⟩
                refine ⟨by first | exact fun _ _ h => h | (refine aI [10, 9, 8, 7, 4, 3, 2, 0] (by kernel_rfl) ?_; (repeat' first | exact ln2 | refine lc ?_ ?_) <;> constructor <;> first | rfl | (simp [F]; done)), ?_⟩
                (repeat first | simp [F] | simp (disch := omega) only [wC, if_pos, if_neg]); refine q2 14 ?_; refine q2 15 ?_; refine q2 16 ?_; refine dop 18 rfl ?_; repeat (first | simp [F] | simp (disch := omega) only [wC, if_pos, if_neg])
                refine ⟨bS (by kernel_rfl), ?_⟩
                refine q2 19 ?_; refine dd ?_; apply hJ67; apply hK66; refine rg' (h := fun J74 hJ74 => ?_); refine ca (c := (hM ▸ gY (d := x.d) (n := n))) (k := ?_); rintro _ _ ⟨rfl, rfl⟩; (repeat first | simp [F] | simp (disch := omega) only [wC, if_pos, if_neg]); apply hJ74; apply hK63; refine rg' (h := fun J75 hJ75 => ?_); apply hJ75; refine ⟨gk, (i + 1), ⟨kpG, lpG, ?_, lpG, ?_⟩, lpG⟩
                · rw [hnx, ← cO]
                  simp [F, AV.gcO, cF]
                · rw [hnx]
                  simp [F, St.fD]
           (try exact aG c59); all_goals have c59p := c59; try simp [F] at c59p
           all_goals
            replace F := aF c59 F; try replace F := aF c59p F
            have hii : i = pt.length := by have h := c59; simp at h; omega
            have hv : fY ⟨pk, ps, pe, pt, pp⟩ t = fO ps pe t (pt.take i) := by rw [hii, List.take_length, fY]; simp [hkn, F]
            replace F := aF hv F; refine bO ?_; apply hK57; refine sr fun _ hJ77 => ?_; apply hJ77; refine ra ?_
            rw [hv]
            exact gcr (hA := by simp only [aT]; simp [F]; exact qL (fun h => by have h0 := j4 h; subst h0; simp [fO]))
   (try exact aG g3_3); all_goals have g3_3p := g3_3; try simp [F] at g3_3p
   all_goals
    replace F := aF g3_3 F; (try replace F := aF g3_3p F); (iterate 3 refine no2 (k := ?_)); (iterate 4 refine go2 (k := ?_)); refine gs 36 (fun g3_12 => ?_) (fun g3_12 => ?_)
    · (try exact aG g3_12); all_goals have g3_12p := g3_12; try simp [F] at g3_12p
      all_goals
       replace F := aF g3_12 F; (try replace F := aF g3_12p F); (iterate 5 refine go2 (k := ?_)); apply hJ11; refine cs (fun c23 => ?_) (fun c23 => ?_)
       · (try exact aG c23); all_goals have c23p := c23; try simp [F] at c23p
         all_goals
          replace F := aF c23 F; try replace F := aF c23p F
          have n1 : t ≤ ps := by have h := c23; simp at h; omega
          replace F := aF n1 F; refine sr fun _ hJ79 => ?_; apply hJ79; refine ra ?_; exact gcr (hA := by simp only [aT]; simp [fY, hkn, F]; first | exact Wk.refl _ | exact Wk.nil _ _ _)
       (try exact aG c23); all_goals have c23p := c23; try simp [F] at c23p
       all_goals
        replace F := aF c23 F; try replace F := aF c23p F
        have n1 : ¬ t ≤ ps := by have h := c23; simp at h; omega
        replace F := aF n1 F; refine sr fun _ hJ81 => ?_; apply hJ81; refine cs (fun c43 => ?_) (fun c43 => ?_)
        · (try exact aG c43); all_goals have c43p := c43; try simp [F] at c43p
          all_goals
           replace F := aF c43 F; try replace F := aF c43p F
           have n2 : pe ≤ t := by have h := c43; simp at h; omega
           replace F := aF n2 F; refine sr fun _ hJ83 => ?_; refine ca (c := qV hc) (k := ?_); rintro _ _ ⟨rfl, rfl⟩; (repeat first | simp [F] | simp (disch := omega) only [wC, if_pos, if_neg]); apply hJ83; refine ra ?_; exact gcr (hA := by simp only [aT]; simp [fY, hkn, F]; first | exact Wk.refl _ | exact Wk.nil _ _ _)
        (try exact aG c43); all_goals have c43p := c43; try simp [F] at c43p
        all_goals
         replace F := aF c43 F; try replace F := aF c43p F
         have n2 : ¬ pe ≤ t := by have h := c43; simp at h; omega
         replace F := aF n2 F; refine sr fun _ hJ85 => ?_; apply hJ85; refine cs (fun c51 => ?_) (fun c51 => ?_)
         · (try exact aG c51); all_goals have c51p := c51; try simp [F] at c51p
           all_goals
            replace F := aF c51 F; (try replace F := aF c51p F); refine sr fun _ hJ87 => ?_; apply hJ87; refine ra ?_; exact gcr (hA := by simp only [aT]; simp [fY, hkn, F]; first | exact Wk.refl _ | exact Wk.nil _ _ _)
         (try exact aG c51); all_goals have c51p := c51; try simp [F] at c51p
         all_goals
          replace F := aF c51 F; (try replace F := aF c51p F); refine aD ?_; apply hK3; refine sr fun _ hJ89 => ?_; apply hJ89; refine sq fun K90 hK90 => ?_; refine sr fun _ hJ92 => ?_; apply hJ92; refine aH ?_; refine eO (X := Nat) [1, 2, 4, 56, 57] (fun i ρ σ1 => (i ≤ pt.length) ∧ (ρ 5 = grA σ.toks.length 5 (iD i) (aL (fO ps pe t (pt.take i))) (fO ps pe t (pt.take i)).length) ∧ (ρ 58 = .v (.int .i64 i)) ∧ (σ1 = { σ with objs := σ.objs ++ [[.v (.int .u8 pk.toNat), .v (.int .u64 ps), .v (.int .u64 pe), .sl 5 (aL pt) pt.length .shut, .sl 2 (eN pp) pp.length .shut]], toks := σ.toks ++ grT (iD i) (fO ps pe t (pt.take i)).length })) (fun i => pt.length - i) (0) ?st1 ?rd1
          case st1 =>
           refine ⟨lp, lp, lp, ?_⟩
           · simp [F]
          case rd1 =>
           rintro i ρ1 σ1 hF1 ⟨hi, h8, h12, hσ⟩; obtain rfl := hσ.symm
           have f1 := dX hF1
           (try simp [dW, F] at f1); replace F := aF h8 F; replace F := aF h12 F; (try replace F := aF f1 F); refine sr fun _ hJ94 => ?_; apply hJ94; refine sq fun K95 hK95 => ?_; refine cs (fun c59 => ?_) (fun c59 => ?_)
           · (try exact aG c59); all_goals have c59p := c59; try simp [F] at c59p
             all_goals
              replace F := aF c59 F; (try replace F := aF c59p F); refine aD ?_; apply hK95; refine sq fun K96 hK96 => ?_; refine aH ?_; refine sq fun K97 hK97 => ?_
              have hlt : i < pt.length := by simp at c59; omega
              have hat := gD hlt
              have hb1 : i * 5 + 5 ≤ pt.length * 5 := by omega
              obtain ⟨x, hx⟩ : ∃ x, x = pt[i] := ⟨_, rfl⟩
              rw [← hx] at hat
              simp only [dV] at hat
              have hse : ps < t := by have h := c23; simp at h; omega
              have hte : t < pe := by have h := c43; simp at h; omega
              have hw1 : IntKind.u64.wrap ((t : Int) - ps) = ((t - ps : Nat) : Int) := by rw [fE (by omega)]; omega
              have hw2 : IntKind.u64.wrap ((pe : Int) - ps) = ((pe - ps : Nat) : Int) := by rw [fE (by omega)]; omega
              have hpn : jE x ps pe t < 2 ^ 256 := sD (by omega)
              have hmd : mdN x.n.v (t - ps) (pe - ps) false = (Num.of (jE x ps pe t)).v := by rw [Num.s9 hpn, mdN, if_neg (by omega), show mdQ x.n.v (t - ps) (pe - ps) false = jE x ps pe t by simp [mdQ, jE], if_pos hpn]
              obtain ⟨n, hn⟩ : ∃ n, n = Num.of (jE x ps pe t) := ⟨_, rfl⟩
              rw [← hn] at hmd
              obtain ⟨L, hL⟩ : ∃ L, L = fO ps pe t (pt.take i) := ⟨_, rfl⟩
              obtain ⟨M, hM⟩ : ∃ M, M = j1 x.d n := ⟨_, rfl⟩
              have hnx : fO ps pe t (pt.take (i + 1)) = L ++ M := by rw [hL, hM, hn, ← mJ, hx, List.take_append_getElem hlt]
              have hLl : L.length ≤ i := by rw [hL]; exact Nat.le_trans (mB _ _ _ _) (by simp; omega)
              have hMl : M.length ≤ 1 := by rw [hM]; unfold j1; split <;> simp
              rw [← hL] at h8 F
              rw [← hL]
              have hb0 : iD i = false → aL L = [] ∧ L.length = 0 := fun h => by have h0 := j4 h; subst h0; rw [hL]; simp [fO]
              have happ : ∀ objs, dA Tryz.prog 23 (grA σ.toks.length 5 (iD i) (aL L) L.length) (.sl 5 (aL M) M.length .shut) ⟨objs, σ.toks ++ grT (iD i) L.length, σ.gl, σ.rows⟩ = some (grA σ.toks.length 5 true (aL L ++ aL M) (L.length + M.length), ⟨objs, σ.toks ++ grT true (L.length + M.length), σ.gl, σ.rows⟩) := fun objs => kC elemT_23 ti_38 (by decide) rfl hb0 (.inl rfl) (by simp [fZ]; omega) (by simp [maxLen]; omega)
              replace F := aF hlt F; replace F := aF hat F; replace F := aF hb1 F; replace F := aF hw1 F; replace F := aF hw2 F; replace F := aF happ F; refine rg' (h := fun J98 hJ98 => ?_); apply hJ98; apply hK97; refine sq fun K99 hK99 => ?_
              refine bQ (by kernel_rfl) fun J100 hJ100 => ?_
              refine q2 0 ?_; refine q2 1 ?_; refine q2 2 ?_; refine q2 3 ?_; refine q2 4 ?_; refine q2 5 ?_; refine q2 7 ?_; refine q2 8 ?_; refine q2 9 ?_; refine q2 10 ?_; refine q2 11 ?_; refine d2 6 17 ?_ ?_
              · refine ac 6 rfl (c := iJ (n := t - ps) (by omega)) (k := ?_)
                rintro _ _ ⟨rfl, rfl⟩
                refine ⟨by first | exact fun _ _ h => h | (refine aI [11, 10, 9, 8, 7, 4, 3, 2, 1, 0] (by kernel_rfl) ?_; (repeat' first | exact ln2 | refine lc ?_ ?_) <;> constructor <;> first | rfl | (simp [F]; done)), ?_⟩
                (repeat first | simp [F] | simp (disch := omega) only [wC, if_pos, if_neg]); refine d2 12 17 ?_ ?_
                · refine ac 12 rfl (c := iJ (n := pe - ps) (by omega)) (k := ?_)
                  rintro _ _ ⟨rfl, rfl⟩
                  refine ⟨by first | exact fun _ _ h => h | (refine aI [10, 9, 8, 7, 4, 3, 2, 1, 0] (by kernel_rfl) ?_; (repeat' first | exact ln2 | refine lc ?_ ?_) <;> constructor <;> first | rfl | (simp [F]; done)), ?_⟩
                  (repeat first | simp [F] | simp (disch := omega) only [wC, if_pos, if_neg]); refine d2 13 17 ?_ ?_
                  · refine ac 13 rfl (c := (hmd ▸ fV x.n.h (by omega) (by omega))) (k := ?_)
                    rintro _ _ ⟨rfl, rfl⟩
                    refine ⟨by first | exact fun _ _ h => h | (refine aI [10, 9, 8, 7, 4, 3, 2, 0] (by kernel_rfl) ?_; (repeat' first | exact ln2 | refine lc ?_ ?_) <;> constructor <;> first | rfl | (simp [F]; done)), ?_⟩
                    (repeat first | simp [F] | simp (disch := omega) only [wC, if_pos, if_neg]); refine q2 14 ?_; refine q2 15 ?_; refine q2 16 ?_; refine dop 17 rfl ?_; repeat (first | simp [F] | simp (disch := omega) only [wC, if_pos, if_neg])
                    refine ⟨by first | exact bT _ (by kernel_rfl) | exact bN (by kernel_rfl) rfl, ?_⟩
                    refine dop 18 rfl ?_; repeat (first | simp [F] | simp (disch := omega) only [wC, if_pos, if_neg])
                    refine ⟨bS (by kernel_rfl), ?_⟩
                    refine q2 19 ?_; refine dd ?_; apply hJ100; apply hK99; refine rg' (h := fun J101 hJ101 => ?_); refine ca (c := (hM ▸ gY (d := x.d) (n := n))) (k := ?_); rintro _ _ ⟨rfl, rfl⟩; (repeat first | simp [F] | simp (disch := omega) only [wC, if_pos, if_neg]); apply hJ101; apply hK96; refine rg' (h := fun J102 hJ102 => ?_); apply hJ102; refine ⟨gk, (i + 1), ⟨kpG, lpG, ?_, lpG, ?_⟩, lpG⟩
                    · rw [hnx, ← cO]
                      simp [F, AV.gcO, cF]
                    · rw [hnx]
                      simp [F, St.fD]
                  · refine ao 17 rfl ?_; repeat (first | simp [F] | simp (disch := omega) only [wC, if_pos, if_neg])
                    refine ⟨by first | exact bT _ (by kernel_rfl) | exact bN (by kernel_rfl) rfl, ?_⟩
                    refine dc 13 rfl (c := (hmd ▸ fV x.n.h (by omega) (by omega))) (k := ?_)
                    rintro _ _ ⟨rfl, rfl⟩
                    refine ⟨by first | exact fun _ _ h => h | (refine aI [10, 9, 8, 7, 4, 3, 2, 0] (by kernel_rfl) ?_; (repeat' first | exact ln2 | refine lc ?_ ?_) <;> constructor <;> first | rfl | (simp [F]; done)), ?_⟩
                    (repeat first | simp [F] | simp (disch := omega) only [wC, if_pos, if_neg]); refine q2 14 ?_; refine q2 15 ?_; refine q2 16 ?_; refine dop 18 rfl ?_; repeat (first | simp [F] | simp (disch := omega) only [wC, if_pos, if_neg])
                    refine ⟨bS (by kernel_rfl), ?_⟩
                    refine q2 19 ?_; refine dd ?_; apply hJ100; apply hK99; refine rg' (h := fun J103 hJ103 => ?_); refine ca (c := (hM ▸ gY (d := x.d) (n := n))) (k := ?_); rintro _ _ ⟨rfl, rfl⟩; (repeat first | simp [F] | simp (disch := omega) only [wC, if_pos, if_neg]); apply hJ103; apply hK96; refine rg' (h := fun J104 hJ104 => ?_); apply hJ104; refine ⟨gk, (i + 1), ⟨kpG, lpG, ?_, lpG, ?_⟩, lpG⟩
                    · rw [hnx, ← cO]
                      simp [F, AV.gcO, cF]
                    · rw [hnx]
                      simp [F, St.fD]
                · refine ao 17 rfl ?_; repeat (first | simp [F] | simp (disch := omega) only [wC, if_pos, if_neg])
                  refine ⟨by first | exact bT _ (by kernel_rfl) | exact bN (by kernel_rfl) rfl, ?_⟩
                  refine dc 12 rfl (c := iJ (n := pe - ps) (by omega)) (k := ?_)
                  rintro _ _ ⟨rfl, rfl⟩
                  refine ⟨by first | exact fun _ _ h => h | (refine aI [10, 9, 8, 7, 4, 3, 2, 1, 0] (by kernel_rfl) ?_; (repeat' first | exact ln2 | refine lc ?_ ?_) <;> constructor <;> first | rfl | (simp [F]; done)), ?_⟩
                  repeat (first | simp [F] | simp (disch := omega) only [wC, if_pos, if_neg])
                  refine dc 13 rfl (c := (hmd ▸ fV x.n.h (by omega) (by omega))) (k := ?_)
                  rintro _ _ ⟨rfl, rfl⟩
                  refine ⟨by first | exact fun _ _ h => h | (refine aI [10, 9, 8, 7, 4, 3, 2, 0] (by kernel_rfl) ?_; (repeat' first | exact ln2 | refine lc ?_ ?_) <;> constructor <;> first | rfl | (simp [F]; done)), ?_⟩
                  (repeat first | simp [F] | simp (disch := omega) only [wC, if_pos, if_neg]); refine q2 14 ?_; refine q2 15 ?_; refine q2 16 ?_; refine dop 18 rfl ?_; repeat (first | simp [F] | simp (disch := omega) only [wC, if_pos, if_neg])
                  refine ⟨bS (by kernel_rfl), ?_⟩
                  refine q2 19 ?_; refine dd ?_; apply hJ100; apply hK99; refine rg' (h := fun J105 hJ105 => ?_); refine ca (c := (hM ▸ gY (d := x.d) (n := n))) (k := ?_); rintro _ _ ⟨rfl, rfl⟩; (repeat first | simp [F] | simp (disch := omega) only [wC, if_pos, if_neg]); apply hJ105; apply hK96; refine rg' (h := fun J106 hJ106 => ?_); apply hJ106; refine ⟨gk, (i + 1), ⟨kpG, lpG, ?_, lpG, ?_⟩, lpG⟩
                  · rw [hnx, ← cO]
                    simp [F, AV.gcO, cF]
                  · rw [hnx]
                    simp [F, St.fD]
              · refine ao 17 rfl ?_; repeat (first | simp [F] | simp (disch := omega) only [wC, if_pos, if_neg])
                refine ⟨by first | exact bT _ (by kernel_rfl) | exact bN (by kernel_rfl) rfl, ?_⟩
                refine dc 6 rfl (c := iJ (n := t - ps) (by omega)) (k := ?_)
                rintro _ _ ⟨rfl, rfl⟩
                refine ⟨by first | exact fun _ _ h => h | (refine aI [11, 10, 9, 8, 7, 4, 3, 2, 1, 0] (by kernel_rfl) ?_; (repeat' first | exact ln2 | refine lc ?_ ?_) <;> constructor <;> first | rfl | (simp [F]; done)), ?_⟩
                repeat (first | simp [F] | simp (disch := omega) only [wC, if_pos, if_neg])
                refine dc 12 rfl (c := iJ (n := pe - ps) (by omega)) (k := ?_)
                rintro _ _ ⟨rfl, rfl⟩
                refine ⟨by first | exact fun _ _ h => h | (refine aI [10, 9, 8, 7, 4, 3, 2, 1, 0] (by kernel_rfl) ?_; (repeat' first | exact ln2 | refine lc ?_ ?_) <;> constructor <;> first | rfl | (simp [F]; done)), ?_⟩
                repeat (first | simp [F] | simp (disch := omega) only [wC, if_pos, if_neg])
                refine dc 13 rfl (c := (hmd ▸ fV x.n.h (by omega) (by omega))) (k := ?_)
                rintro _ _ ⟨rfl, rfl⟩
                refine ⟨by first | exact fun _ _ h => h | (refine aI [10, 9, 8, 7, 4, 3, 2, 0] (by kernel_rfl) ?_; (repeat' first | exact ln2 | refine lc ?_ ?_) <;> constructor <;> first | rfl | (simp [F]; done)), ?_⟩
                (repeat first | simp [F] | simp (disch := omega) only [wC, if_pos, if_neg]); refine q2 14 ?_; refine q2 15 ?_; refine q2 16 ?_; refine dop 18 rfl ?_; repeat (first | simp [F] | simp (disch := omega) only [wC, if_pos, if_neg])
                refine ⟨bS (by kernel_rfl), ?_⟩
                refine q2 19 ?_; refine dd ?_; apply hJ100; apply hK99; refine rg' (h := fun J107 hJ107 => ?_); refine ca (c := (hM ▸ gY (d := x.d) (n := n))) (k := ?_); rintro _ _ ⟨rfl, rfl⟩; (repeat first | simp [F] | simp (disch := omega) only [wC, if_pos, if_neg]); apply hJ107; apply hK96; refine rg' (h := fun J108 hJ108 => ?_); apply hJ108; refine ⟨gk, (i + 1), ⟨kpG, lpG, ?_, lpG, ?_⟩, lpG⟩
                · rw [hnx, ← cO]
                  simp [F, AV.gcO, cF]
                · rw [hnx]
                  simp [F, St.fD]
           (try exact aG c59); all_goals have c59p := c59; try simp [F] at c59p
           all_goals
            replace F := aF c59 F; try replace F := aF c59p F
            have hii : i = pt.length := by have h := c59; simp at h; omega
            have hv : fY ⟨pk, ps, pe, pt, pp⟩ t = fO ps pe t (pt.take i) := by rw [hii, List.take_length, fY]; simp [hkn, F]
            replace F := aF hv F; refine bO ?_; apply hK90; refine sr fun _ hJ110 => ?_; apply hJ110; refine ra ?_
            rw [hv]
            exact gcr (hA := by simp only [aT]; simp [F]; exact qL (fun h => by have h0 := j4 h; subst h0; simp [fO]))
    (try exact aG g3_12); all_goals have g3_12p := g3_12; try simp [F] at g3_12p
    all_goals
     replace F := aF g3_12 F; (try replace F := aF g3_12p F); (iterate 4 refine no2 (k := ?_)); refine go2 (k := ?_); apply hJ11; refine cf ?_; refine sr fun _ hJ112 => ?_; apply hJ112; refine cs (fun c43 => ?_) (fun c43 => ?_)
     · (try exact aG c43); all_goals have c43p := c43; try simp [F] at c43p
       all_goals
        replace F := aF c43 F; try replace F := aF c43p F
        have n2 : pe ≤ t := by have h := c43; simp at h; omega
        replace F := aF n2 F; refine sr fun _ hJ114 => ?_; refine ca (c := qV hc) (k := ?_); rintro _ _ ⟨rfl, rfl⟩; (repeat first | simp [F] | simp (disch := omega) only [wC, if_pos, if_neg]); apply hJ114; refine ra ?_; exact gcr (hA := by simp only [aT]; simp [fY, hkn, F]; first | exact Wk.refl _ | exact Wk.nil _ _ _)
     (try exact aG c43); all_goals have c43p := c43; try simp [F] at c43p
     all_goals
      replace F := aF c43 F; try replace F := aF c43p F
      have n2 : ¬ pe ≤ t := by have h := c43; simp at h; omega
      replace F := aF n2 F; refine sr fun _ hJ116 => ?_; apply hJ116; refine cs (fun c51 => ?_) (fun c51 => ?_)
      · (try exact aG c51); all_goals have c51p := c51; try simp [F] at c51p
        all_goals
         replace F := aF c51 F; (try replace F := aF c51p F); refine sr fun _ hJ118 => ?_; apply hJ118; refine ra ?_; exact gcr (hA := by simp only [aT]; simp [fY, hkn, F]; first | exact Wk.refl _ | exact Wk.nil _ _ _)
      (try exact aG c51); all_goals have c51p := c51; try simp [F] at c51p
      all_goals
       replace F := aF c51 F; (try replace F := aF c51p F); refine aD ?_; apply hK3; refine sr fun _ hJ120 => ?_; apply hJ120; refine sq fun K121 hK121 => ?_; refine sr fun _ hJ123 => ?_; apply hJ123; refine aH ?_; refine eO (X := Nat) [1, 2, 4, 56, 57] (fun i ρ σ1 => (i ≤ pt.length) ∧ (ρ 5 = grA σ.toks.length 5 (iD i) (aL (fO ps pe t (pt.take i))) (fO ps pe t (pt.take i)).length) ∧ (ρ 58 = .v (.int .i64 i)) ∧ (σ1 = { σ with objs := σ.objs ++ [[.v (.int .u8 pk.toNat), .v (.int .u64 ps), .v (.int .u64 pe), .sl 5 (aL pt) pt.length .shut, .sl 2 (eN pp) pp.length .shut]], toks := σ.toks ++ grT (iD i) (fO ps pe t (pt.take i)).length })) (fun i => pt.length - i) (0) ?st1 ?rd1
       case st1 =>
        refine ⟨lp, lp, lp, ?_⟩
        · simp [F]
       case rd1 =>
        rintro i ρ1 σ1 hF1 ⟨hi, h8, h12, hσ⟩; obtain rfl := hσ.symm
        have f1 := dX hF1
        (try simp [dW, F] at f1); replace F := aF h8 F; replace F := aF h12 F; (try replace F := aF f1 F); refine sr fun _ hJ125 => ?_; apply hJ125; refine sq fun K126 hK126 => ?_; refine cs (fun c59 => ?_) (fun c59 => ?_)
        · (try exact aG c59); all_goals have c59p := c59; try simp [F] at c59p
          all_goals
           replace F := aF c59 F; (try replace F := aF c59p F); refine aD ?_; apply hK126; refine sq fun K127 hK127 => ?_; refine aH ?_; refine sq fun K128 hK128 => ?_
           have hlt : i < pt.length := by simp at c59; omega
           have hat := gD hlt
           have hb1 : i * 5 + 5 ≤ pt.length * 5 := by omega
           obtain ⟨x, hx⟩ : ∃ x, x = pt[i] := ⟨_, rfl⟩
           rw [← hx] at hat
           simp only [dV] at hat
           have hse : ps < t := by have h := c23; simp at h; omega
           have hte : t < pe := by have h := c43; simp at h; omega
           have hw1 : IntKind.u64.wrap ((t : Int) - ps) = ((t - ps : Nat) : Int) := by rw [fE (by omega)]; omega
           have hw2 : IntKind.u64.wrap ((pe : Int) - ps) = ((pe - ps : Nat) : Int) := by rw [fE (by omega)]; omega
           have hpn : jE x ps pe t < 2 ^ 256 := sD (by omega)
           have hmd : mdN x.n.v (t - ps) (pe - ps) false = (Num.of (jE x ps pe t)).v := by rw [Num.s9 hpn, mdN, if_neg (by omega), show mdQ x.n.v (t - ps) (pe - ps) false = jE x ps pe t by simp [mdQ, jE], if_pos hpn]
           obtain ⟨n, hn⟩ : ∃ n, n = Num.of (jE x ps pe t) := ⟨_, rfl⟩
           rw [← hn] at hmd
           obtain ⟨L, hL⟩ : ∃ L, L = fO ps pe t (pt.take i) := ⟨_, rfl⟩
           obtain ⟨M, hM⟩ : ∃ M, M = j1 x.d n := ⟨_, rfl⟩
           have hnx : fO ps pe t (pt.take (i + 1)) = L ++ M := by rw [hL, hM, hn, ← mJ, hx, List.take_append_getElem hlt]
           have hLl : L.length ≤ i := by rw [hL]; exact Nat.le_trans (mB _ _ _ _) (by simp; omega)
           have hMl : M.length ≤ 1 := by rw [hM]; unfold j1; split <;> simp
           rw [← hL] at h8 F
           rw [← hL]
           have hb0 : iD i = false → aL L = [] ∧ L.length = 0 := fun h => by have h0 := j4 h; subst h0; rw [hL]; simp [fO]
           have happ : ∀ objs, dA Tryz.prog 23 (grA σ.toks.length 5 (iD i) (aL L) L.length) (.sl 5 (aL M) M.length .shut) ⟨objs, σ.toks ++ grT (iD i) L.length, σ.gl, σ.rows⟩ = some (grA σ.toks.length 5 true (aL L ++ aL M) (L.length + M.length), ⟨objs, σ.toks ++ grT true (L.length + M.length), σ.gl, σ.rows⟩) := fun objs => kC elemT_23 ti_38 (by decide) rfl hb0 (.inl rfl) (by simp [fZ]; omega) (by simp [maxLen]; omega)
           replace F := aF hlt F; replace F := aF hat F; replace F := aF hb1 F; replace F := aF hw1 F; replace F := aF hw2 F; replace F := aF happ F; refine rg' (h := fun J129 hJ129 => ?_); apply hJ129; apply hK128; refine sq fun K130 hK130 => ?_
           refine bQ (by kernel_rfl) fun J131 hJ131 => ?_
           refine q2 0 ?_; refine q2 1 ?_; refine q2 2 ?_; refine q2 3 ?_; refine q2 4 ?_; refine q2 5 ?_; refine q2 7 ?_; refine q2 8 ?_; refine q2 9 ?_; refine q2 10 ?_; refine q2 11 ?_; refine d2 6 17 ?_ ?_
           · refine ac 6 rfl (c := iJ (n := t - ps) (by omega)) (k := ?_)
             rintro _ _ ⟨rfl, rfl⟩
             refine ⟨by first | exact fun _ _ h => h | (refine aI [11, 10, 9, 8, 7, 4, 3, 2, 1, 0] (by kernel_rfl) ?_; (repeat' first | exact ln2 | refine lc ?_ ?_) <;> constructor <;> first | rfl | (simp [F]; done)), ?_⟩
             (repeat first | simp [F] | simp (disch := omega) only [wC, if_pos, if_neg]); refine d2 12 17 ?_ ?_
             · refine ac 12 rfl (c := iJ (n := pe - ps) (by omega)) (k := ?_)
               rintro _ _ ⟨rfl, rfl⟩
               refine ⟨by first | exact fun _ _ h => h | (refine aI [10, 9, 8, 7, 4, 3, 2, 1, 0] (by kernel_rfl) ?_; (repeat' first | exact ln2 | refine lc ?_ ?_) <;> constructor <;> first | rfl | (simp [F]; done)), ?_⟩
               (repeat first | simp [F] | simp (disch := omega) only [wC, if_pos, if_neg]); refine d2 13 17 ?_ ?_
               · refine ac 13 rfl (c := (hmd ▸ fV x.n.h (by omega) (by omega))) (k := ?_)
                 rintro _ _ ⟨rfl, rfl⟩
                 refine ⟨by first | exact fun _ _ h => h | (refine aI [10, 9, 8, 7, 4, 3, 2, 0] (by kernel_rfl) ?_; (repeat' first | exact ln2 | refine lc ?_ ?_) <;> constructor <;> first | rfl | (simp [F]; done)), ?_⟩
                 (repeat first | simp [F] | simp (disch := omega) only [wC, if_pos, if_neg]); refine q2 14 ?_; refine q2 15 ?_; refine q2 16 ?_; refine dop 17 rfl ?_; repeat (first | simp [F] | simp (disch := omega) only [wC, if_pos, if_neg])
                 refine ⟨by first | exact bT _ (by kernel_rfl) | exact bN (by kernel_rfl) rfl, ?_⟩
                 refine dop 18 rfl ?_; repeat (first | simp [F] | simp (disch := omega) only [wC, if_pos, if_neg])
                 refine ⟨bS (by kernel_rfl), ?_⟩
                 refine q2 19 ?_; refine dd ?_; apply hJ131; apply hK130; refine rg' (h := fun J132 hJ132 => ?_); refine ca (c := (hM ▸ gY (d := x.d) (n := n))) (k := ?_); rintro _ _ ⟨rfl, rfl⟩; (repeat first | simp [F] | simp (disch := omega) only [wC, if_pos, if_neg]); apply hJ132; apply hK127; refine rg' (h := fun J133 hJ133 => ?_); apply hJ133; refine ⟨gk, (i + 1), ⟨kpG, lpG, ?_, lpG, ?_⟩, lpG⟩
                 · rw [hnx, ← cO]
                   simp [F, AV.gcO, cF]
                 · rw [hnx]
                   simp [F, St.fD]
               · refine ao 17 rfl ?_; repeat (first | simp [F] | simp (disch := omega) only [wC, if_pos, if_neg])
                 refine ⟨by first | exact bT _ (by kernel_rfl) | exact bN (by kernel_rfl) rfl, ?_⟩
                 refine dc 13 rfl (c := (hmd ▸ fV x.n.h (by omega) (by omega))) (k := ?_)
                 rintro _ _ ⟨rfl, rfl⟩
                 refine ⟨by first | exact fun _ _ h => h | (refine aI [10, 9, 8, 7, 4, 3, 2, 0] (by kernel_rfl) ?_; (repeat' first | exact ln2 | refine lc ?_ ?_) <;> constructor <;> first | rfl | (simp [F]; done)), ?_⟩
                 (repeat first | simp [F] | simp (disch := omega) only [wC, if_pos, if_neg]); refine q2 14 ?_; refine q2 15 ?_; refine q2 16 ?_; refine dop 18 rfl ?_; repeat (first | simp [F] | simp (disch := omega) only [wC, if_pos, if_neg])
                 refine ⟨bS (by kernel_rfl), ?_⟩
                 refine q2 19 ?_; refine dd ?_; apply hJ131; apply hK130; refine rg' (h := fun J134 hJ134 => ?_); refine ca (c := (hM ▸ gY (d := x.d) (n := n))) (k := ?_); rintro _ _ ⟨rfl, rfl⟩; (repeat first | simp [F] | simp (disch := omega) only [wC, if_pos, if_neg]); apply hJ134; apply hK127; refine rg' (h := fun J135 hJ135 => ?_); apply hJ135; refine ⟨gk, (i + 1), ⟨kpG, lpG, ?_, lpG, ?_⟩, lpG⟩
                 · rw [hnx, ← cO]
                   simp [F, AV.gcO, cF]
                 · rw [hnx]
                   simp [F, St.fD]
             · refine ao 17 rfl ?_; repeat (first | simp [F] | simp (disch := omega) only [wC, if_pos, if_neg])
               refine ⟨by first | exact bT _ (by kernel_rfl) | exact bN (by kernel_rfl) rfl, ?_⟩
               refine dc 12 rfl (c := iJ (n := pe - ps) (by omega)) (k := ?_)
               rintro _ _ ⟨rfl, rfl⟩
               refine ⟨by first | exact fun _ _ h => h | (refine aI [10, 9, 8, 7, 4, 3, 2, 1, 0] (by kernel_rfl) ?_; (repeat' first | exact ln2 | refine lc ?_ ?_) <;> constructor <;> first | rfl | (simp [F]; done)), ?_⟩
               repeat (first | simp [F] | simp (disch := omega) only [wC, if_pos, if_neg])
               refine dc 13 rfl (c := (hmd ▸ fV x.n.h (by omega) (by omega))) (k := ?_)
               rintro _ _ ⟨rfl, rfl⟩
               refine ⟨by first | exact fun _ _ h => h | (refine aI [10, 9, 8, 7, 4, 3, 2, 0] (by kernel_rfl) ?_; (repeat' first | exact ln2 | refine lc ?_ ?_) <;> constructor <;> first | rfl | (simp [F]; done)), ?_⟩
               (repeat first | simp [F] | simp (disch := omega) only [wC, if_pos, if_neg]); refine q2 14 ?_; refine q2 15 ?_; refine q2 16 ?_; refine dop 18 rfl ?_; repeat (first | simp [F] | simp (disch := omega) only [wC, if_pos, if_neg])
               refine ⟨bS (by kernel_rfl), ?_⟩
               refine q2 19 ?_; refine dd ?_; apply hJ131; apply hK130; refine rg' (h := fun J136 hJ136 => ?_); refine ca (c := (hM ▸ gY (d := x.d) (n := n))) (k := ?_); rintro _ _ ⟨rfl, rfl⟩; (repeat first | simp [F] | simp (disch := omega) only [wC, if_pos, if_neg]); apply hJ136; apply hK127; refine rg' (h := fun J137 hJ137 => ?_); apply hJ137; refine ⟨gk, (i + 1), ⟨kpG, lpG, ?_, lpG, ?_⟩, lpG⟩
               · rw [hnx, ← cO]
                 simp [F, AV.gcO, cF]
               · rw [hnx]
                 simp [F, St.fD]
           · refine ao 17 rfl ?_; repeat (first | simp [F] | simp (disch := omega) only [wC, if_pos, if_neg])
             refine ⟨by first | exact bT _ (by kernel_rfl) | exact bN (by kernel_rfl) rfl, ?_⟩
             refine dc 6 rfl (c := iJ (n := t - ps) (by omega)) (k := ?_)
             rintro _ _ ⟨rfl, rfl⟩
             refine ⟨by first | exact fun _ _ h => h | (refine aI [11, 10, 9, 8, 7, 4, 3, 2, 1, 0] (by kernel_rfl) ?_; (repeat' first | exact ln2 | refine lc ?_ ?_) <;> constructor <;> first | rfl | (simp [F]; done)), ?_⟩
             repeat (first | simp [F] | simp (disch := omega) only [wC, if_pos, if_neg])
             refine dc 12 rfl (c := iJ (n := pe - ps) (by omega)) (k := ?_)
             rintro _ _ ⟨rfl, rfl⟩
             refine ⟨by first | exact fun _ _ h => h | (refine aI [10, 9, 8, 7, 4, 3, 2, 1, 0] (by kernel_rfl) ?_; (repeat' first | exact ln2 | refine lc ?_ ?_) <;> constructor <;> first | rfl | (simp [F]; done)), ?_⟩
             repeat (first | simp [F] | simp (disch := omega) only [wC, if_pos, if_neg])
             refine dc 13 rfl (c := (hmd ▸ fV x.n.h (by omega) (by omega))) (k := ?_)
             rintro _ _ ⟨rfl, rfl⟩
             refine ⟨by first | exact fun _ _ h => h | (refine aI [10, 9, 8, 7, 4, 3, 2, 0] (by kernel_rfl) ?_; (repeat' first | exact ln2 | refine lc ?_ ?_) <;> constructor <;> first | rfl | (simp [F]; done)), ?_⟩
             (repeat first | simp [F] | simp (disch := omega) only [wC, if_pos, if_neg]); refine q2 14 ?_; refine q2 15 ?_; refine q2 16 ?_; refine dop 18 rfl ?_; repeat (first | simp [F] | simp (disch := omega) only [wC, if_pos, if_neg])
             refine ⟨bS (by kernel_rfl), ?_⟩
             refine q2 19 ?_; refine dd ?_; apply hJ131; apply hK130; refine rg' (h := fun J138 hJ138 => ?_); refine ca (c := (hM ▸ gY (d := x.d) (n := n))) (k := ?_); rintro _ _ ⟨rfl, rfl⟩; (repeat first | simp [F] | simp (disch := omega) only [wC, if_pos, if_neg]); apply hJ138; apply hK127; refine rg' (h := fun J139 hJ139 => ?_); apply hJ139; refine ⟨gk, (i + 1), ⟨kpG, lpG, ?_, lpG, ?_⟩, lpG⟩
             · rw [hnx, ← cO]
               simp [F, AV.gcO, cF]
             · rw [hnx]
               simp [F, St.fD]
        (try exact aG c59); all_goals have c59p := c59; try simp [F] at c59p
        all_goals
         replace F := aF c59 F; try replace F := aF c59p F
         have hii : i = pt.length := by have h := c59; simp at h; omega
         have hv : fY ⟨pk, ps, pe, pt, pp⟩ t = fO ps pe t (pt.take i) := by rw [hii, List.take_length, fY]; simp [hkn, F]
         replace F := aF hv F; refine bO ?_; apply hK121; refine sr fun _ hJ141 => ?_; apply hJ141; refine ra ?_
         rw [hv]
         exact gcr (hA := by simp only [aT]; simp [F]; exact qL (fun h => by have h0 := j4 h; subst h0; simp [fO]))

theorem Gg {p : Pln} {t : Nat} (h : p.tot.length ≤ 1000000) : (fY p t).length ≤ 1000000 := by
 unfold fY
 split
 · have := eI (xN (p.ps.take (jV p.ps p.s t)) [] Go.Vm.gV); omega
 · split
   · simp
   · split
     · exact h
     · split
       · simp
       · exact Nat.le_trans (mB _ _ _ _) h

attribute [local simp] iR eY in
theorem yN {σ : St} {p : Pln} {t : Nat} (hp : p.Ok) (hc : p.tot.length ≤ 1000000) (hs : p.s + oT p.ps < 2 ^ 64) (ht : t < 2 ^ 64) :
  aB Tryz.prog 45 [.agg (iR p), .v (.int .u64 t)] σ (fun av σ' => av = .sl 5 (aL (pD p.tot (fY p t))) (pD p.tot (fY p t)).length .shut ∧ σ = σ') := by
 refine aM ?_ (by simp [AV.under])
 have hp0 := hp
 obtain ⟨W, hW⟩ : ∃ W, W = fY p t := ⟨_, rfl⟩
 have hWl : W.length ≤ 1000000 := by rw [hW]; exact Gg hc
 have hv : ∀ σ, aB Tryz.prog 79 [.agg (iR p), .v (.int .u64 t)] σ (fun av σ' => av = .sl 5 (aL W) W.length .shut ∧ σ = σ') := fun σ => by rw [hW]; exact Dd hp hc hs ht
 rw [← hW]
 obtain ⟨Z, hZ⟩ : ∃ Z, Z = pD p.tot W := ⟨_, rfl⟩
 rw [← hZ]
 obtain ⟨pk, ps, pe, pt, pp⟩ := p
 simp only at hc hZ
 have F := True.intro
 refine aA Tryz.func45 rfl rfl rfl ?_; refine sr fun _ hJ2 => ?_; apply hJ2; refine sq fun K3 hK3 => ?_
 refine bQ (by kernel_rfl) fun J4 hJ4 => ?_
 refine q2 0 ?_; refine q2 1 ?_; refine q2 2 ?_; refine q2 3 ?_; refine dc 4 rfl (c := hv _) (k := ?_); rintro _ _ ⟨rfl, rfl⟩
 refine ⟨by first | exact fun _ _ h => h | (refine aI [1, 0] (by kernel_rfl) ?_; (repeat' first | exact ln2 | refine lc ?_ ?_) <;> constructor <;> first | rfl | (simp [F]; done)), ?_⟩
 repeat (first | simp [F] | simp (disch := omega) only [wC, if_pos, if_neg])
 refine dc 5 rfl (c := (hZ ▸ Hb (by omega) (by omega))) (k := ?_)
 rintro _ _ ⟨rfl, rfl⟩
 refine ⟨by first | exact fun _ _ h => h | (refine aI [0] (by kernel_rfl) ?_; (repeat' first | exact ln2 | refine lc ?_ ?_) <;> constructor <;> first | rfl | (simp [F]; done)), ?_⟩
 (repeat first | simp [F] | simp (disch := omega) only [wC, if_pos, if_neg]); refine q2 6 ?_; refine dd ?_; apply hJ4; apply hK3; refine ra ?_; exact gcr

end Go.Proofs.YtjpnjhlfieklfaaGreat

/-
  Plans that are made of numbers: they are right.
-/
namespace Go.Vm
set_option linter.unnecessarySimpa false
set_option linter.unusedSimpArgs false
set_option linter.unusedVariables false
open Go

structure Pc where
 l : Nat
 c : List bB
structure Mad where
 k : UInt8
 s : Nat
 n : Nat
 c : List bB
 ps : List Pc
def Mad.Ok (m : Mad) : Prop := m.s < 2 ^ 32 ∧ m.n < 2 ^ 16 ∧ ∀ x ∈ m.ps, x.l < 2 ^ 16
theorem v9 : ∀ (l : List Per), (∀ x ∈ l, x.l ≤ 2 ^ 16) → oT l ≤ l.length * 2 ^ 16
 | [], _ => by simp [oT]
 | x :: l, h => by
   have h1 := h x (by simp)
   have h2 := v9 l (fun y hy => h y (by simp [hy]))
   simp only [oT, List.length_cons, Nat.add_mul]
   omega
def pcC (x : Pc) : List AV := [.v (.int .u16 x.l), .sl 5 (aL x.c) x.c.length .shut]
def Mc (l : List Pc) : List AV := l.flatMap pcC
@[simp] theorem Mh : Mc [] = [] := rfl
@[simp] theorem Mk (l : List Pc) : (Mc l).length = l.length * 2 := kD pcC 2 (fun _ => rfl) l

def Mt (x : Per) : Prop := 0 < x.l ∧ x.l ≤ 2 ^ 16 ∧ x.c ≠ [] ∧ bM x.c ∧ ∀ d, d < 8 → amt x.c d < 2 ^ 250
structure Jz (p : Pln) : Prop where
 ok : p.Ok
 tot : bM p.tot
 kinds : p.k = 0 ∨ p.k = 1 ∨ p.k = 2 ∨ p.k = 3 ∨ p.k = 4 ∨ p.k = 5
 zero : p.k = 0 → p = ⟨0, 0, 0, [], []⟩
 even : p.k = 1 → p.s < p.e
 late : p.k = 2 → p.s = 0
 small : p.s + oT p.ps ≤ 2 ^ 40
 pers : ∀ x ∈ p.ps, Mt x
 steps : p.k = 3 ∨ p.k = 5 → p.e = p.s + oT p.ps ∧ p.tot = r4 p.ps [] ∧ p.ps ≠ [] ∧ p.ps.length ≤ 16

theorem Jz.len {p : Pln} (g : Jz p) : p.tot.length ≤ 1000000 := by have := eI g.tot; omega
theorem Jz.fit {p : Pln} (g : Jz p) : p.s + oT p.ps < 2 ^ 64 := Nat.lt_of_le_of_lt g.small (by decide)

end Go.Vm
