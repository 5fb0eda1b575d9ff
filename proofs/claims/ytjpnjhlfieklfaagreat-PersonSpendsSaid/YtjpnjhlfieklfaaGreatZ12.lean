import Derived.Test.YtjpnjhlfieklfaaGreatZ7
import Derived.Test.YtjpnjhlfieklfaaGreatZ10
import Derived.Test.YtjpnjhlfieklfaaGreatZ11
import Derived.Test.YtjpnjhlfieklfaaGreatZ9
import Derived.RangeFuncKeeps
import Derived.RangeFuncLeaves
import Derived.Shelf.Abstract
import Derived.WalkKit
import Derived.OwnWalkIn
import Derived.TacticsInMore
import Derived.LoopNIn
import Derived.LoopIn
set_option linter.unnecessarySimpa false
set_option maxRecDepth 100000
set_option linter.unusedSimpArgs false
set_option linter.unusedVariables false
namespace Go.Proofs.YtjpnjhlfieklfaaGreat
set_option maxHeartbeats 1600000
open Go Go.Vm
attribute [local simp] dM aI dJ opA bH bN cM bP ofValue dC plain aQ aR cA b8 cC cB bY b7 b9 bZ kC yQ bW cG cD b6 bU aT aS bO cU aW dQ dR bK aZ cL gA bS dE cF AV.cells AV.bL dF cO eZ bF aV cQ dI dS dV cN aN dP dO fX eY eV List.getElem?_cons_zero List.getElem?_cons_succ dA
theorem zC {σ : St} {x y c : Nat} (hc : c ≤ 1) : z6 Tryz.prog 102 [.v (.int .u64 x), .v (.int .u64 y), .v (.int .u64 c)] σ (fun av _ => ∃ s c' : Nat, s = (x + y + c) % 18446744073709551616 ∧ c' = (x + y + c) / 18446744073709551616 ∧ av = .tup [.v (.int .u64 s), .v (.int .u64 c')]) :=
 F7 Tryz.func102 (by kernel_rfl) (by kernel_rfl) (by kernel_rfl) (by kernel_rfl) hc
theorem IP {σ : St} {x y c : Nat} (hc : c ≤ 1) : z6 Tryz.prog 142 [.v (.int .u64 x), .v (.int .u64 y), .v (.int .u64 c)] σ (fun av _ => ∃ s c' : Nat, s = (x + 18446744073709551616 - y - c) % 18446744073709551616 ∧ c' = (if x < y + c then 1 else 0) ∧ av = .tup [.v (.int .u64 s), .v (.int .u64 c')]) :=
 FB Tryz.func142 (by kernel_rfl) (by kernel_rfl) (by kernel_rfl) (by kernel_rfl) hc
theorem BM {σ : St} {x y : Nat} (hx : x < 2 ^ 256) (hy : y < 2 ^ 256) :
  aE Tryz.prog 72 [.agg (aM x), .agg (aM y)] σ (fun av σ' => av = .tup [.agg (aM (nH x y)), .v (.int .i64 (r8 x y : Nat))] ∧ σ = σ') := by
 refine aU ?_ (by simp [AV.under, bB, aM])
 have hx4 : x < 18446744073709551616 ^ 4 := hx
 have hy4 : y < 18446744073709551616 ^ 4 := hy
 rw [eH x, eH y]
 have F := True.intro
 refine aB Tryz.func72 rfl rfl rfl ?_; refine sr fun _ hJ2 => ?_; apply hJ2; refine sr fun _ hJ4 => ?_; apply hJ4; refine sq fun K5 hK5 => ?_; refine sr fun _ hJ7 => ?_; apply hJ7; refine aD ?_; refine cK (X := Nat) [2, 3, 4, 5] (fun i ρ σ1 => (i ≤ 4) ∧ (ρ 6 = .v (.int .u64 (uW 18446744073709551616 x y i : Nat))) ∧ (ρ 8 = .v (.int .i64 i)) ∧ (σ1 = { σ with objs := σ.objs ++ [dH (mix 18446744073709551616 4 i (x + y) x), dH (cR 18446744073709551616 4 y), aM 0] })) (fun i => 4 - i) (0) ?st1 ?rd1
 case st1 =>
  refine ⟨lp, ?_, lp, ?_⟩
  · simp [F9]
  · simp [o8, fS]
 case rd1 =>
  rintro i ρ1 σ1 hF1 ⟨hi, h6, h8, hσ⟩; obtain rfl := hσ.symm
  have f1 := dU hF1
  (try simp [dT, F] at f1); replace F := aF h6 F; replace F := aF h8 F; (try replace F := aF f1 F); refine sr fun _ hJ9 => ?_; apply hJ9; refine sq fun K10 hK10 => ?_; refine cs (fun c9 => ?_) (fun c9 => ?_)
  · (try exact aK c9); all_goals have c9p := c9; try simp [F] at c9p
    all_goals
     replace F := aF c9 F; (try replace F := aF c9p F); refine aA ?_; apply hK10; refine sq fun K11 hK11 => ?_; refine aD ?_; refine sr fun _ hJ13 => ?_; apply hJ13
     have hi4 : i < 4 := by simp at c9; omega
     have hgx := oZ (b := 18446744073709551616) (s := x + y) (x := x) hi4
     have hgy := eU (b := 18446744073709551616) (x := y) hi4
     have hst := oF (b := 18446744073709551616) (s := x + y) (x := x) hi4
     have hml := pP (b := 18446744073709551616) (s := x + y) (x := x) (Nat.le_of_lt hi4)
     generalize hX : x / 18446744073709551616 ^ i % 18446744073709551616 = X at hgx
     generalize hY : y / 18446744073709551616 ^ i % 18446744073709551616 = Y at hgy
     have hi5 : (i : Int) < 4 := by omega
     obtain ⟨_, hgx2⟩ := List.getElem?_eq_some_iff.1 hgx
     obtain ⟨_, hgy2⟩ := List.getElem?_eq_some_iff.1 hgy
     replace F := aF hgx F; replace F := aF hgy F; replace F := aF hgx2 F; replace F := aF hgy2 F; replace F := aF hml F; replace F := aF hi4 F; replace F := aF hi5 F
     refine bI (by kernel_rfl) fun J14 hJ14 => ?_
     refine q2 0 ?_; refine q2 1 ?_; refine q2 2 ?_; refine q2 3 ?_; refine q2 4 ?_; refine q2 5 ?_; refine q2 6 ?_; refine q2 7 ?_
     refine de 8 rfl (c := zC (x := X) (y := Y) (c := uW 18446744073709551616 x y i) (Ju (by decide))) (k := ?_)
     rintro _ _ ⟨s, c1, hs, hc1, rfl⟩ rfl
     obtain rfl : c1 = uW 18446744073709551616 x y (i + 1) := by rw [hc1, ← hX, ← hY]; exact Ft (by decide)
     have hs2 : s = (x + y) / 18446744073709551616 ^ i % 18446744073709551616 := by rw [hs, ← hX, ← hY]; exact IJ (by decide)
     rw [← hs2] at hst
     (repeat first | simp [F] | simp (disch := omega) only [wC, if_pos, if_neg]); refine q2 9 ?_; refine q2 10 ?_; refine q2 11 ?_; refine q2 12 ?_; refine dop 13 rfl ?_; repeat (first | simp [F] | simp (disch := omega) only [wC, if_pos, if_neg])
     refine ⟨cE (by kernel_rfl), ?_⟩
     refine dop 14 rfl ?_; (repeat first | simp [F] | simp (disch := omega) only [wC, if_pos, if_neg]); (try refine ⟨ln, ?_⟩); refine dd ?_; apply hJ14; apply hK11; refine rg' (h := fun J15 hJ15 => ?_); apply hJ15; refine ⟨(i + 1), ⟨kp, lp, lp, lp, ?_⟩, lp⟩
     · simp [hst]
  (try exact aK c9); all_goals have c9p := c9; try simp [F] at c9p
  all_goals
   replace F := aF c9 F; try replace F := aF c9p F
   obtain rfl : i = 4 := by simp at c9; omega
   have hma := rS 18446744073709551616 4 (x + y) x
   rw [hma]
   rw [GX hx4 hy4] at h6 F
   rw [← eH]
   have hnl : (aM (x + y)).length = 4 := rfl
   have hnt : (aM (x + y)).take 4 = aM (x + y) := rfl
   replace F := aF hnl (And.intro hnt F); refine bJ ?_; apply hK5; refine sq fun K16 hK16 => ?_; refine sr fun _ hJ18 => ?_; apply hJ18; refine cs (fun c26 => ?_) (fun c26 => ?_)
   · (try exact aK c26); all_goals have c26p := c26; try simp [F] at c26p
     all_goals
      replace F := aF c26 F; try replace F := aF c26p F
      have hbig : ¬ x + y < 2 ^ 256 := by first | (intro h; apply c26p; omega) | omega
      have hN : nH x y = 0 := if_neg hbig
      have hE : r8 x y = 2 := if_neg hbig
      replace F := aF hN (And.intro hE (And.intro fS F)); refine sr fun _ hJ20 => ?_; apply hJ20; refine bQ ?_; (try simp only [eD, bG, bV]); refine gY (h := ?_); exact gcr
   (try exact aK c26); all_goals have c26p := c26; try simp [F] at c26p
   all_goals
    replace F := aF c26 F; try replace F := aF c26p F
    have hbig : x + y < 2 ^ 256 := by first | omega | (simp at c26p; omega)
    have hN : nH x y = x + y := if_pos hbig
    have hE : r8 x y = 0 := if_pos hbig
    replace F := aF hN (And.intro hE F); refine aA ?_; apply hK16; refine sr fun _ hJ22 => ?_; apply hJ22; refine bQ ?_; (try simp only [eD, bG, bV]); refine gY (h := ?_); exact gcr
def w7 (x y : Nat) : Nat := (x + 2 ^ 256 - y) % 2 ^ 256
theorem EJ {σ : St} {x y : Nat} (hx : x < 2 ^ 256) (hy : y < 2 ^ 256) :
  aE Tryz.prog 131 [.agg (aM x), .agg (aM y)] σ (fun av σ' => av = .tup [.agg (aM (w7 x y)), .v (.bool (decide (x < y)))] ∧ σ = σ') := by
 refine aU ?_ (by simp [AV.under, bB, aM])
 have hx4 : x < 18446744073709551616 ^ 4 := hx
 have hy4 : y < 18446744073709551616 ^ 4 := hy
 rw [eH x, eH y]
 obtain ⟨s4, hs4⟩ : ∃ s4, s4 = x + 18446744073709551616 ^ 4 - y := ⟨_, rfl⟩
 have F := True.intro
 refine aB Tryz.func131 rfl rfl rfl ?_; refine sr fun _ hJ2 => ?_; apply hJ2; refine sr fun _ hJ4 => ?_; apply hJ4; refine sq fun K5 hK5 => ?_; refine sr fun _ hJ7 => ?_; apply hJ7; refine aD ?_; refine cK (X := Nat) [2, 3, 4, 5] (fun i ρ σ1 => (i ≤ 4) ∧ (ρ 6 = .v (.int .u64 (o9 18446744073709551616 x y i : Nat))) ∧ (ρ 8 = .v (.int .i64 i)) ∧ (σ1 = { σ with objs := σ.objs ++ [dH (mix 18446744073709551616 4 i s4 x), dH (cR 18446744073709551616 4 y), aM 0] })) (fun i => 4 - i) (0) ?st1 ?rd1
 case st1 =>
  refine ⟨lp, ?_, lp, ?_⟩
  · simp [vG]
  · simp [o8, fS]
 case rd1 =>
  rintro i ρ1 σ1 hF1 ⟨hi, h6, h8, hσ⟩; obtain rfl := hσ.symm
  have f1 := dU hF1
  (try simp [dT, F] at f1); replace F := aF h6 F; replace F := aF h8 F; (try replace F := aF f1 F); refine sr fun _ hJ9 => ?_; apply hJ9; refine sq fun K10 hK10 => ?_; refine cs (fun c9 => ?_) (fun c9 => ?_)
  · (try exact aK c9); all_goals have c9p := c9; try simp [F] at c9p
    all_goals
     replace F := aF c9 F; (try replace F := aF c9p F); refine aA ?_; apply hK10; refine sq fun K11 hK11 => ?_; refine aD ?_; refine sr fun _ hJ13 => ?_; apply hJ13
     have hi4 : i < 4 := by simp at c9; omega
     have hgx := oZ (b := 18446744073709551616) (s := s4) (x := x) hi4
     have hgy := eU (b := 18446744073709551616) (x := y) hi4
     have hst := oF (b := 18446744073709551616) (s := s4) (x := x) hi4
     have hml := pP (b := 18446744073709551616) (s := s4) (x := x) (Nat.le_of_lt hi4)
     generalize hX : x / 18446744073709551616 ^ i % 18446744073709551616 = X at hgx
     generalize hY : y / 18446744073709551616 ^ i % 18446744073709551616 = Y at hgy
     have hi5 : (i : Int) < 4 := by omega
     obtain ⟨_, hgx2⟩ := List.getElem?_eq_some_iff.1 hgx
     obtain ⟨_, hgy2⟩ := List.getElem?_eq_some_iff.1 hgy
     replace F := aF hgx F; replace F := aF hgy F; replace F := aF hgx2 F; replace F := aF hgy2 F; replace F := aF hml F; replace F := aF hi4 F; replace F := aF hi5 F
     refine bI (by kernel_rfl) fun J14 hJ14 => ?_
     refine q2 0 ?_; refine q2 1 ?_; refine q2 2 ?_; refine q2 3 ?_; refine q2 4 ?_; refine q2 5 ?_; refine q2 6 ?_; refine q2 7 ?_; refine de 8 rfl (c := IP (x := X) (y := Y) (c := o9 18446744073709551616 x y i) (Bs _ _ _ _)) (k := ?_); rintro _ _ ⟨s, c1, hs, hc1, rfl⟩ rfl
     obtain rfl : c1 = o9 18446744073709551616 x y (i + 1) := by rw [hc1, ← hX, ← hY]; exact vO (by decide)
     have hs2 : s = s4 / 18446744073709551616 ^ i % 18446744073709551616 := by rw [hs, hs4, ← hX, ← hY]; exact zX (by decide) hi4 hx4 hy4
     rw [← hs2] at hst
     (repeat first | simp [F] | simp (disch := omega) only [wC, if_pos, if_neg]); refine q2 9 ?_; refine q2 10 ?_; refine q2 11 ?_; refine q2 12 ?_; refine dop 13 rfl ?_; repeat (first | simp [F] | simp (disch := omega) only [wC, if_pos, if_neg])
     refine ⟨cE (by kernel_rfl), ?_⟩
     refine dop 14 rfl ?_; (repeat first | simp [F] | simp (disch := omega) only [wC, if_pos, if_neg]); (try refine ⟨ln, ?_⟩); refine dd ?_; apply hJ14; apply hK11; refine rg' (h := fun J15 hJ15 => ?_); apply hJ15; refine ⟨(i + 1), ⟨kp, lp, lp, lp, ?_⟩, lp⟩
     · simp [hst]
  (try exact aK c9); all_goals have c9p := c9; try simp [F] at c9p
  all_goals
   replace F := aF c9 F; try replace F := aF c9p F
   obtain rfl : i = 4 := by simp at c9; omega
   have hma := rS 18446744073709551616 4 s4 x
   rw [hma]
   rw [GM hx4 hy4] at h6 F
   have hnn : dH (cR 18446744073709551616 4 s4) = aM (w7 x y) := by rw [eH]; congr 1; exact (pG (by decide) (iT (by decide)) (by simp) (by rw [e9, hs4]; rfl))
   rw [hnn]
   have hnl : (aM (w7 x y)).length = 4 := rfl
   have hnt : (aM (w7 x y)).take 4 = aM (w7 x y) := rfl
   have hb2 : (((if x < y then 1 else 0 : Nat) : Int) != 0) = decide (x < y) := by split <;> simp [*]
   replace F := aF hnl (And.intro hnt (And.intro hb2 F)); refine bJ ?_; apply hK5; refine sr fun _ hJ17 => ?_; apply hJ17; refine bQ ?_; (try simp only [eD, bG, bV]); refine gY (h := ?_); exact gcr
theorem CE {σ : St} {x y : Nat} (hy : y < 2 ^ 256) :
  aE Tryz.prog 131 [.agg (aM x), .agg (aM y)] σ (fun av σ' => av = .tup [.agg (aM (w7 (x % 2 ^ 256) y)), .v (.bool (decide (x % 2 ^ 256 < y)))] ∧ σ = σ') := by
 have h := EJ (σ := σ) (x := x % 2 ^ 256) (Nat.mod_lt _ (by decide)) hy
 rwa [HO] at h
theorem Kw {σ : St} {x y : Nat} (hx : x < 2 ^ 256) (hy : y < 2 ^ 256) :
  aE Tryz.prog 113 [.agg (aM x), .agg (aM y)] σ (fun av σ' => av = .tup [.agg (aM (x - y)), .v (.int .i64 (if x < y then 3 else 0 : Nat))] ∧ σ = σ') := by
 refine aU ?_ (by simp [AV.under, bB, aM])
 have F := True.intro
 refine aB Tryz.func113 rfl rfl rfl ?_; refine sr fun _ hJ2 => ?_; apply hJ2; refine sr fun _ hJ4 => ?_; refine ca (c := EJ hx hy) (k := ?_); rintro _ _ ⟨rfl, rfl⟩; (try simp [F]); apply hJ4; refine sq fun K5 hK5 => ?_; refine sr fun _ hJ7 => ?_; apply hJ7; refine cs (fun c14 => ?_) (fun c14 => ?_)
 · (try exact aK c14); all_goals have c14p := c14; try simp [F] at c14p
   all_goals
    replace F := aF c14 F; try replace F := aF c14p F
    have h0 : x - y = 0 := by first | omega | (simp at c14p; omega)
    have hlt : x < y := by simpa using c14p
    replace F := aF h0 (And.intro hlt (And.intro fS F)); refine sr fun _ hJ9 => ?_; apply hJ9; refine bQ ?_; (try simp only [eD, bG, bV]); refine gY (h := ?_); exact gcr
 (try exact aK c14); all_goals have c14p := c14; try simp [F] at c14p
 all_goals
  replace F := aF c14 F; try replace F := aF c14p F
  have hlt : ¬ x < y := by simpa using c14p
  have h0 : w7 x y = x - y := by unfold w7; omega
  replace F := aF h0 (And.intro hlt F); refine aA ?_; apply hK5; refine sr fun _ hJ11 => ?_; apply hJ11; refine bQ ?_; (try simp only [eD, bG, bV]); refine gY (h := ?_); exact gcr
theorem zE {σ : St} {x y : Nat} (hx : x < 2 ^ 256) (hy : y < 2 ^ 256) :
  aE Tryz.prog 80 [.agg (aM x), .agg (aM y)] σ (fun av σ' => av = .agg (aM (x - y)) ∧ σ = σ') := by
 refine aU ?_ (by simp [AV.under, bB, aM])
 have F := True.intro
 refine aB Tryz.func80 rfl rfl rfl ?_; refine sr fun _ hJ2 => ?_; apply hJ2; refine sr fun _ hJ4 => ?_; refine ca (c := Kw hx hy) (k := ?_); rintro _ _ ⟨rfl, rfl⟩; (try simp [F]); apply hJ4; refine sr fun _ hJ6 => ?_; apply hJ6; refine bQ ?_; (try simp only [eD, bG, bV]); refine j1 (h := ?_); exact gcr
theorem iW {σ : St} {n : Nat} (hn : n < 2 ^ 64) : aE Tryz.prog 112 [.v (.int .u64 n)] σ (fun av σ' => av = .agg (aM n) ∧ σ = σ') := by
 refine aU ?_ (by simp [AV.under, bB, aM])
 have F := True.intro
 refine aB Tryz.func112 rfl rfl rfl ?_; refine sr fun _ hJ2 => ?_; apply hJ2; refine sq fun K3 hK3 => ?_
 have h0 := yR hn
 replace F := aF h0 F; refine rg' (h := fun J4 hJ4 => ?_); apply hJ4; apply hK3; refine bQ ?_; (try simp only [eD, bG, bV]); refine j1 (h := ?_); exact gcr
theorem Ik {σ : St} {x y : Nat} (hx : x < 2 ^ 64) (hy : y < 2 ^ 64) :
  aE Tryz.prog 139 [.v (.int .u64 x), .v (.int .u64 y)] σ (fun av σ' => (∃ h l : Nat, h = x * y / 2 ^ 64 ∧ l = x * y % 2 ^ 64 ∧ av = .tup [.v (.int .u64 h), .v (.int .u64 l)]) ∧ σ = σ') := by
 have F := True.intro
 refine aB Tryz.func139 rfl rfl rfl ?_; refine sr fun _ hJ2 => ?_; apply hJ2; refine sr fun _ hJ4 => ?_; apply hJ4; refine sr fun _ hJ6 => ?_; apply hJ6; refine sr fun _ hJ8 => ?_; apply hJ8; refine sr fun _ hJ10 => ?_; apply hJ10; refine sr fun _ hJ12 => ?_; apply hJ12; refine sr fun _ hJ14 => ?_; apply hJ14; refine sr fun _ hJ16 => ?_; apply hJ16; refine sr fun _ hJ18 => ?_; apply hJ18; refine sr fun _ hJ20 => ?_; apply hJ20; refine sr fun _ hJ22 => ?_; apply hJ22; refine sr fun _ hJ24 => ?_; apply hJ24; refine bQ ?_; (try simp only [eD, bG, bV]); refine fV rfl (.inr rfl) ?_; refine ⟨⟨x * y / 2 ^ 64, x * y % 2 ^ 64, rfl, rfl, ?_⟩, rfl⟩; simp only [aP]
 simp
 exact ⟨IA hx hy, KD x y⟩
attribute [local simp] rW EC lE in
theorem LM {σ : St} {n : Nat} (hn : n < 2 ^ 512) :
  aE Tryz.prog 130 [.agg (iL n)] σ (fun av σ' => av = .tup [.agg (aM (if n < 2 ^ 256 then n else 0)), .v (.int .i64 (if n < 2 ^ 256 then 0 else 2 : Nat))] ∧ σ = σ') := by
 refine aU ?_ (by simp [AV.under, bB, aM])
 have hcq : gC (aM (n / 2 ^ 256)) [.v (.int .u64 0), .v (.int .u64 0), .v (.int .u64 0), .v (.int .u64 0)] = decide (n / 2 ^ 256 = 0) := k8 (x := ⟨n / 2 ^ 256, by omega⟩)
 have hdt : ((iL n).drop 4).take 4 = aM (n / 2 ^ 256) := by rw [D0]; rfl
 have hfn : ∀ x, lE [some .u64, some .u64, some .u64, some .u64] (aM x) = true := fun x => rfl
 have F := And.intro hcq (And.intro hdt (And.intro hfn (True.intro)))
 refine aB Tryz.func130 rfl rfl rfl ?_; refine sr fun _ hJ2 => ?_; apply hJ2; refine sq fun K3 hK3 => ?_; refine sr fun _ hJ5 => ?_; apply hJ5; refine cs (fun c8 => ?_) (fun c8 => ?_)
 · (try exact aK c8); all_goals have c8p := c8; try simp [F] at c8p
   all_goals
    replace F := aF c8 F; try replace F := aF c8p F
    have hbig : ¬ n < 2 ^ 256 := by first | (simp at c8p; omega) | omega
    replace F := aF hbig (And.intro (if_neg hbig : (if n < 2 ^ 256 then n else 0) = 0) (And.intro fS F)); refine sr fun _ hJ7 => ?_; apply hJ7; refine bQ ?_; (try simp only [eD, bG, bV]); refine gY (h := ?_); exact gcr
 (try exact aK c8); all_goals have c8p := c8; try simp [F] at c8p
 all_goals
  replace F := aF c8 F; try replace F := aF c8p F
  have hbig : n < 2 ^ 256 := by first | (simp at c8p; omega) | omega
  replace F := aF hbig F; refine aA ?_; apply hK3; refine sr fun _ hJ9 => ?_; apply hJ9; refine bQ ?_; (try simp only [eD, bG, bV]); refine gY (h := ?_); exact gcr
end Go.Proofs.YtjpnjhlfieklfaaGreat
namespace Go.Proofs.YtjpnjhlfieklfaaGreat
open Go Go.Vm Go.RowKit Go.Shelf
attribute [local go_sem] Oper.semAt_some
set_option maxRecDepth 100000 in
set_option maxHeartbeats 2000000 in
theorem GW (n : Nat) (hn : 1 ≤ n) (l Bn Bo m c : Nat) (ad : Option Addr) (xs : List Value) (Good : Nat → Nat → Prop) (J Jx : List (Fin m) → World → Prop) (hm : m < 4611686018427387904) (hl : xs.length = m)
  (hx : ∀ (j : Nat) x, xs[j]? = some x → ∃ b o, ad = some ⟨b, o, none⟩ ∧ Good b (o + j))
  (hY : ∀ pre (i : Fin m) W, J pre W → pre.length < m → YieldAt Fence.wide (n - 1) Tryz.prog l #[.int .i64 i.val, xs[i.val]'(by omega)] W fun e W' =>
   (e = .returned (.bool true) ∧ J (pre ++ [i]) W' ∧ pU Good W W') ∨ (e = .returned (.bool false) ∧ Jx (pre ++ [i]) W'))
  (W : World) (hc : W.cell? ⟨Bn, Bo, none⟩ = some (.slice ad m c)) (hB : Good Bn Bo) (hxc : ∀ (j : Nat) x, xs[j]? = some x → ∀ b o, ad = some ⟨b, o, none⟩ → W.cell? ⟨b, o + j, none⟩ = some x) (h0 : J [] W) :
  CallsIn Fence.wide n Tryz.prog 152 #[.func (.yield l) #[] #[], .pointer (some ⟨Bn, Bo, none⟩)] W fun e W' => (∃ v, e = .returned v) ∧
   ((∃ ys : List (Fin m), ys.map Fin.val = (List.range m).reverse ∧ J ys W') ∨ (∃ pre : List (Fin m), pre.map Fin.val <+: (List.range m).reverse ∧ Jx pre W')) := by
 have hw1 : ∀ k : Nat, k ≤ m → IntKind.i64.wrap ((k : Int) - 1) = (k : Int) - 1 := fun k hk => wrap_i64 _ (by omega) (by omega)
 refine callsIn_of_wp Tryz.func152 rfl trivial ?_ rfl; simp only [Tryz.ntmps152, List.size_toArray, List.length_cons, List.length_nil, Nat.reduceAdd, Nat.reduceSub, Array.replicate_succ, Array.replicate_zero, List.push_toArray, List.append_toArray, List.nil_append, List.cons_append]
 gi_wp2
 gi_loopw [3] (fun v wr => ∃ (k : Nat) (pre : List (Fin m)), k ≤ m ∧ v = .int .i64 ((k : Int) - 1) ∧ pre.map Fin.val = (List.range m).reverse.take (m - k) ∧ J pre wr ∧ wr.cell? ⟨Bn, Bo, none⟩ = some (.slice ad m c) ∧ (∀ (j : Nat) x, xs[j]? = some x → ∀ b o, ad = some ⟨b, o, none⟩ → wr.cell? ⟨b, o + j, none⟩ = some x))
  (fun v wr => left v)
 case atStart =>
  exact ⟨m, [], Nat.le_refl _, rfl, by simp, h0, hc, hxc⟩
 case round =>
  obtain ⟨k, pre, hk, rfl, hp, hJ, hc', hxc'⟩ := hrel
  cases k with
  | zero =>
    have e : ((0 : Nat) : Int) - 1 = -1 := by omega
    rw [e]
    gi_wp2
    go_end0
    exact ⟨⟨_, rfl⟩, .inl ⟨pre, by rw [hp]; exact List.take_of_length_le (by simp), hJ⟩⟩
  | succ k =>
    have hkl : k < xs.length := by omega
    have hxk : xs[k]? = some xs[k] := List.getElem?_eq_getElem hkl
    obtain ⟨b, o, rfl, hgood⟩ := hx k _ hxk
    have hcell := hxc' k _ hxk b o rfl
    have hlen : pre.length = m - (k + 1) := by
     have := congrArg List.length hp
     simpa using this
    obtain ⟨fn, tmps, assign, body, hy, hR⟩ := hY pre ⟨k, by omega⟩ wr hJ (by omega)
    have e : ((k + 1 : Nat) : Int) - 1 = (k : Int) := by omega
    rw [e]
    have hk0 : ¬ (k : Int) < 0 := by omega
    have hkm : (k : Int) < m := by omega
    gi_wp2
    refine hR.mono ?_
    have hsnoc : (pre ++ [(⟨k, by omega⟩ : Fin m)]).map Fin.val = (List.range m).reverse.take (m - k) := by
     have hlt : m - (k + 1) < ((List.range m).reverse).length := by simp; omega
     have e1 : m - k = m - (k + 1) + 1 := by omega
     rw [e1, List.take_succ_eq_append_getElem hlt, List.map_append, hp]
     congr 1
     simp
     omega
    rintro e3 W3 (⟨rfl, hJ3, hk3⟩ | ⟨rfl, hJx3⟩)
    · have hc3 : W3.cell? ⟨Bn, Bo, none⟩ = some (.slice (some ⟨b, o, none⟩) m c) := hk3 _ _ _ hB hc'
      have hx3 : ∀ (j : Nat) x, xs[j]? = some x → ∀ b' o', some (⟨b, o, none⟩ : Addr) = some ⟨b', o', none⟩ → W3.cell? ⟨b', o' + j, none⟩ = some x := by
       intro j x hj b' o' hb'
       cases hb'
       obtain ⟨b2, o2, h2, h3⟩ := hx j x hj
       cases h2
       exact hk3 _ _ _ h3 (hxc' j x hj _ _ rfl)
      gi_wp2
      go_roundw
      case rel => exact ⟨k, pre ++ [⟨k, by omega⟩], by omega, rfl, hsnoc, hJ3, hc3, hx3⟩
      case measure => simp [left]
    · gi_wp2
      refine bodyPost_ret (results_none rfl _ _ _) rfl ?_; exact ⟨⟨_, rfl⟩, .inr ⟨pre ++ [⟨k, by omega⟩], by rw [hsnoc]; exact List.take_prefix _ _, hJx3⟩⟩
theorem Je : E7 Tryz.prog 152 (fun m => m < 4611686018427387904) := by
 intro n w Bn Bo m c ad xs Good hn hm hc hB hl hx l J Jx W hW _ _ hY h0
 have hin : ∀ {b o : Nat} {x : Value}, w.cell? ⟨b, o, none⟩ = some x → W.cell? ⟨b, o, none⟩ = some x := by
  intro b o x h
  obtain ⟨cs, e, fr, hb, _⟩ := mP h
  have := hW.block b (Array.getElem?_eq_some_iff.1 hb).1
  obtain ⟨cs', e', fr', hb', hx'⟩ := mP h
  rw [gL (this.trans hb'), hx']
 exact GW n hn l Bn Bo m c ad xs Good J Jx hm hl (fun j x hj => let ⟨b, o, h1, h2, _⟩ := hx j x hj; ⟨b, o, h1, h2⟩) hY W (hin hc) hB (fun j x hj b o hb => by
  obtain ⟨b2, o2, h1, h2, h3⟩ := hx j x hj
  rw [h1] at hb; cases hb
  exact hin h3) h0
end Go.Proofs.YtjpnjhlfieklfaaGreat
namespace Go.Vm
open Go Go.RowKit
section
variable {P : Program} {N : Nat} {ρ : Nat → AV} {σ : St}
theorem z7 {g p1 p2 q1 q2 : Tmp} {o1 o2 : Oper} {i1 i2 : Nat} {body : Code} {gf : FuncId} {ob : Nat → Prop} {vs : List Value} {m id : Nat} {Q : Exit → (Nat → AV) → St → Prop} (hback : E7 P gf ob) (hm : ob m) (hcb : eG P gf = true)
  (hN : (decide (p1 < N) && decide (p2 < N) && decide (q1 < N) && decide (q2 < N)) = true) (ho1 : o1.op = .assign (.tmp p1)) (ho2 : o2.op = .assign (.tmp p2)) (hg1 : o1.guard = none) (hg2 : o2.guard = none) (hd1 : o1.dst = some q1) (hd2 : o2.dst = some q2)
  (hne : (p1 != p2 && p1 != q1 && p2 != q1) = true)
  (I : List Nat → St → Prop) (hg : ρ g = .fn gf [.ep [.bs id 0 1 m]]) (hml : m = vs.length) (hplain : vs.all (fun x => plain x && x.oneCell') = true) (hI : ∀ pre σ', I pre σ' → σ'.objs[id]? = some (vs.map .v))
  (Ix : Code → List Nat → St → Prop) (h0 : I [] σ)
  (round : ∀ z pre i x σ', i < m → vs[i]? = some x → I pre σ' → Run z P N body (eF (eF (eF (eF ρ (some p1) (.v (.int .i64 (i : Nat)))) (some p2) (.v x)) (some q1) (.v (.int .i64 (i : Nat)))) (some q2) (.v x)) σ' (fun e _ σ'' => match e with
   | .normal => I (pre ++ [i]) σ''
   | .ret => Ix .ret (pre ++ [i]) σ''
   | .exit j => Ix (.exit j) (pre ++ [i]) σ''
   | .goto j => Ix (.goto j) (pre ++ [i]) σ''
   | _ => False))
  (done : ∀ σ', I (List.range m).reverse σ' → Q .normal ρ σ')
  (stop : ∀ c pre σ', pre <+: (List.range m).reverse → Ix c pre σ' → Run ⟨none, 3⟩ P N c ρ σ' Q) :
  Run ⟨none, 3⟩ P N (.rangeFunc (.tmp g) #[p1, p2] (.seq (.region i1 #[o1] false) (.region i2 #[o2] false)) body) ρ σ Q := by
 intro G w a R hR hK
 simp only [Bool.and_eq_true, decide_eq_true_eq, bne_iff_ne, ne_eq] at hN hne
 obtain ⟨⟨⟨n1, n2⟩, n3⟩, n4⟩ := hN
 obtain ⟨⟨e1, e2⟩, e3⟩ := hne
 have hgv := hR.env g
 rw [hg] at hgv
 -- the iterator, and what it holds
 obtain ⟨cs, hcs, hcl, hcr⟩ : ∃ cs : Array Value, a.tmps.getD g undef = .func (.func gf) #[] cs ∧ cs.size = 1 ∧ ∀ x, cs[0]? = some x → AVR G w x (.ep [.bs id 0 1 m]) := by
  generalize a.tmps.getD g undef = v at hgv
  cases hgv with
  | fn hl h => exact ⟨_, rfl, hl, fun x hx => h 0 x _ hx rfl⟩
 obtain ⟨Bn, Bo, hcap, hBg, v, hv, hva⟩ : ∃ Bn Bo, cs = #[.pointer (some ⟨Bn, Bo, none⟩)] ∧ G.tag Bn Bo = .fixd ∧ ∃ v, w.cell? ⟨Bn, Bo, none⟩ = some v ∧ AVR G w v (.bs id 0 1 m) := by
  have h1 := hcr cs[0] (Array.getElem?_eq_getElem (by omega))
  generalize hx : cs[0] = x at h1
  cases h1 with
  | ep xs hl hs hxs h =>
    rename_i b o
    have hlt : 0 < xs.length := by rw [hl]; simp
    obtain ⟨c1, _⟩ := hxs 0 xs[0] (List.getElem?_eq_getElem hlt)
    refine ⟨b, o, ?_, by simpa using hs 0 (by simp), xs[0], by simpa using c1, h 0 _ _ (List.getElem?_eq_getElem hlt) rfl⟩
    apply Array.ext
    · simpa using hcl
    · intro i hi1 hi2
      have : i = 0 := by omega
      subst this
      simpa using hx
 obtain ⟨b0, c, hb0, rfl⟩ : ∃ b0 c, G.pl id = some b0 ∧ v = .slice (some ⟨b0, 0, none⟩) m c := by
  cases hva with
  | bs h hc => exact ⟨_, _, h, rfl⟩
 have hpl : ∀ (j : Nat) x, vs[j]? = some x → plain x = true := fun j x hj => by
  have := List.all_eq_true.1 hplain x (List.mem_of_getElem? hj)
  simp only [Bool.and_eq_true] at this
  exact this.1
 have hcells : ∀ G' W σ', Ext G w G' W → dD G' W σ' → σ'.objs[id]? = some (vs.map .v) → ∀ (j : Nat) x, vs[j]? = some x → W.cell? ⟨b0, j, none⟩ = some x := by
  intro G' W σ' hE hS ho j x hj
  obtain ⟨cc, e, cs', h1, h2, h3, _, h5⟩ := hS.obj id b0 (hE.pl _ _ hb0)
  rw [ho] at h1; cases h1
  have hjl : j < cc.size := by rw [h3]; simpa using (List.getElem?_eq_some_iff.1 hj).1
  have h6 := h5 j cc[j] (.v x) (Array.getElem?_eq_getElem hjl) (by simp [hj])
  rw [gL h2, Array.getElem?_eq_getElem hjl, h6.mH]
 let Good : Nat → Nat → Prop := fun b o => G.tag b o = .fixd ∨ (b = b0 ∧ o < m)
 have hxs0 := hcells G w σ (.refl _ _) hR.s (hI _ _ h0)
 have hx : ∀ (j : Nat) x, vs[j]? = some x → ∃ b o, some (⟨b0, 0, none⟩ : Addr) = some ⟨b, o, none⟩ ∧ Good b (o + j) ∧ w.cell? ⟨b, o + j, none⟩ = some x := fun j x hj =>
  ⟨b0, 0, rfl, .inr ⟨rfl, by have := (List.getElem?_eq_some_iff.1 hj).1; omega⟩, by rw [Nat.zero_add]; exact hxs0 j x hj⟩
 have hseq := hback 2 w Bn Bo m c (some ⟨b0, 0, none⟩) vs Good (by omega) hm hv (.inl hBg) hml.symm hx
 have hdf : ∀ D, w.heap.size ≤ D → ({ target := .collected D, args := #[] } : Deferred) ∉ a.defers := by
  intro D hD hmem
  obtain ⟨D', h1, _, h3⟩ := hR.defers.1 _ hmem
  have : D = D' := by injection h1 with h1; injection h1
  subst this
  have := (Array.getElem?_eq_some_iff.1 h3).1
  omega
 have hRel : ∀ (D : Nat) G' W σ', w.heap.size ≤ D → Ext G w G' W → dD G' W σ' → W.heap[D]? = some (.deferred (some [])) → Rel N G' W ρ σ' { a with defers := { target := .collected D, args := #[] } :: a.defers } := by
  intro D G' W σ' hD hE hS hk
  refine ⟨hS, ⟨fun d hd => ?_, List.nodup_cons.2 ⟨hdf D hD, hR.defers.2.1⟩, by rw [hE.base]; exact Nat.le_trans hR.defers.2.2 hE.size⟩, hR.size, fun i => (hR.env i).mono hE⟩
  rcases List.mem_cons.1 hd with rfl | hd
  · refine ⟨D, rfl, ?_, hk⟩
    rw [hE.base]
    exact Nat.le_trans hR.defers.2.2 hD
  · exact (hR.defers.1.mono hE) d hd
 have hown : ∀ {β : Type} (J : β → St → Prop), OwnFrom w.heap.size (fun (s : β) W => ∃ G' σ', Ext G w G' W ∧ dD G' W σ' ∧ J s σ') := by
  rintro β J s W W' row ⟨G', σ', hE, hS, hJ⟩ hgr hrow
  have hst : Still W W' := qZ hgr (fun r e => (hrow r e).2)
  refine ⟨G', σ', hE.still hst hgr.os hgr.tape hgr.output (fun b hb => hgr.block b (Nat.lt_of_lt_of_le hb hE.size) (fun e => ?_)), hS.still hst, hJ⟩
  have := (hrow b e.symm).1
  omega
 let a0 : Fin m → Act := fun i => { tmps := ((#[p1, p2] : Array Tmp).zip #[.int .i64 i.val, vs[i.val]'(by omega)]).foldl (fun t (p, v) => t.setIfInBounds p v) a.tmps, defers := [] }
 let a1 : Fin m → Act := fun i => (a0 i).put (some q1) ((a0 i).eval (.tmp p1))
 let a2 : Fin m → Act := fun i => (a1 i).put (some q2) ((a1 i).eval (.tmp p2))
 have hF : ∀ l f, ((Fence.wide).inRound l).fn f := fun _ _ => trivial
 have post : ∀ (pre : List (Fin m)) (i : Fin m) (W : World) (e : Exit) (ρ' : Nat → AV) (σ'' : St) (G2 : Gh) (a' : Act) (W' : World) (G' : Gh) (σ1 : St), Ext G w G' W → dD G' W σ1 → I (pre.map Fin.val) σ1 → (match e with
   | .normal => I (pre.map Fin.val ++ [i.val]) σ''
   | .ret => Ix .ret (pre.map Fin.val ++ [i.val]) σ''
   | .exit j => Ix (.exit j) (pre.map Fin.val ++ [i.val]) σ''
   | .goto j => Ix (.goto j) (pre.map Fin.val ++ [i.val]) σ''
   | _ => False) → Ext G' W G2 W' → Rel N G2 W' ρ' σ'' a' →
   ownPostK (pU Good) (fun (s : List (Fin m)) W => ∃ G' σ', Ext G w G' W ∧ dD G' W σ' ∧ I (s.map Fin.val) σ') (fun c (s : List (Fin m)) W => ∃ G' σ', Ext G w G' W ∧ dD G' W σ' ∧ Ix c (s.map Fin.val) σ') (pre ++ [i]) W e a' W' := by
  intro pre i W e ρ' σ'' G2 a' W' G' σ1 hE hS1 hI1 hq hE2 hR2
  cases e with
  | normal =>
    have hkp : pU Good W W' := by
     rintro b o x (hb | ⟨rfl, hb⟩) hx
     · exact hE2.cell (hE.sealed b o hb) hx
     · have hj : vs[o]? = some vs[o] := List.getElem?_eq_getElem (by omega)
       have e1 := hcells G' W σ1 hE hS1 (hI _ _ hI1) o _ hj
       rw [e1] at hx; cases hx
       exact hcells G2 W' σ'' (hE.trans hE2) hR2.s (hI _ _ hq) o _ hj
    exact ⟨hE2.others, hkp, G2, σ'', hE.trans hE2, hR2.s, by simpa using hq⟩
  | ret => exact ⟨hE2.others, G2, σ'', hE.trans hE2, hR2.s, by simpa using hq⟩
  | exit j => exact ⟨hE2.others, G2, σ'', hE.trans hE2, hR2.s, by simpa using hq⟩
  | goto j => exact ⟨hE2.others, G2, σ'', hE.trans hE2, hR2.s, by simpa using hq⟩
  | panic ch => exact hq.elim
  | outgrown => exact hq.elim
 refine wpIn_rangeFunc_ownF (F := Fence.wide) rfl (by show 1 ≤ 3; omega) (gf := gf) (lb := #[.pointer (some ⟨Bn, Bo, none⟩)]) (by rw [← hcap]; exact hcs) trivial (fun args w => kS hcb) hseq
  (fun h k b o x hb hx => k b o x hb (h b o x hb hx)) (fun W l o o' _ hl ho _ b off x _ hx => ?keep) (Below.refl _ _) (fun _ => rfl)
  (fun s W => ∃ G' σ', Ext G w G' W ∧ dD G' W σ' ∧ I (s.map Fin.val) σ') (fun c s W => ∃ G' σ', Ext G w G' W ∧ dD G' W σ' ∧ Ix c (s.map Fin.val) σ')
  (hown _) (fun c => hown _) ⟨G, σ, .refl _ _, hR.s, h0⟩ a2 ?assign ?body ?done ?stop
 case keep => exact (vW hl ho).cell hx
 case assign =>
  intro l x W K hK'
  refine wpIn_seq ?_; refine mG (hF l) ho1 hg1 ?_
  show Code.wpIn _ _ _ _ _ _ _
  refine mG (hF l) ho2 hg2 ?_
  rw [hd1, hd2]
  exact hK'
 case body =>
  rintro l pre i W ⟨G', σ', hE, hS, hI1⟩ hlt
  have hi : i.val < vs.length := by omega
  have hxi : AVR G w vs[i.val] (.v vs[i.val]) := .v (hpl i.val _ (List.getElem?_eq_getElem hi))
  refine round ⟨some l, 1⟩ (pre.map Fin.val) i.val vs[i.val] σ' i.isLt (List.getElem?_eq_getElem hi) hI1 G' W (a2 i) _ ?_ (fun e ρ' σ'' G2 a' W' hq hE2 hR2 => post pre i W e ρ' σ'' G2 a' W' G' σ' hE hS hI1 hq hE2 hR2)
  have hb : a0 i = (({ a with defers := [] } : Act).put (some p1) (.int .i64 i.val)).put (some p2) (vs[i.val]'hi) := by simp [a0, Act.put]
  have r0 : Rel N G' W ρ σ' { a with defers := [] } := ⟨hS, ⟨Marks.nil _ _, List.nodup_nil, by rw [hE.base]; exact Nat.le_trans hR.defers.2.2 hE.size⟩, hR.size, fun i => (hR.env i).mono hE⟩
  have r1 := r0.put (.refl _ _) hS (d := some p1) (by simpa [inN] using n1) (v := .int .i64 i.val) (x := .v (.int .i64 i.val)) (.v rfl)
  have r2 := r1.put (.refl _ _) hS (d := some p2) (by simpa [inN] using n2) (hxi.mono hE)
  rw [← hb] at r2
  have v1 : AVR G' W ((a0 i).eval (.tmp p1)) (.v (.int .i64 i.val)) := by
   have h := r2.env p1
   have e : eF (eF ρ (some p1) (.v (.int .i64 i.val))) (some p2) (.v vs[i.val]) p1 = .v (.int .i64 i.val) := by simp [eF, e1]
   rw [e] at h
   exact h
  have r3 := r2.put (.refl _ _) hS (d := some q1) (by simpa [inN] using n3) v1
  have v2 : AVR G' W ((a1 i).eval (.tmp p2)) (.v vs[i.val]) := by
   have h := r3.env p2
   have e : eF (eF (eF ρ (some p1) (.v (.int .i64 i.val))) (some p2) (.v vs[i.val])) (some q1) (.v (.int .i64 i.val)) p2 = .v vs[i.val] := by simp [eF, e3]
   rw [e] at h
   exact h
  exact r3.put (.refl _ _) hS (d := some q2) (by simpa [inN] using n4) v2
 case done =>
  rintro D ys W hD hys ⟨G', σ', hE, hS, hI1⟩ hk
  rw [hys] at hI1
  exact hK .normal ρ σ' G' _ W (done σ' hI1) hE (hRel D G' W σ' hD hE hS hk)
 case stop =>
  rintro D c pre W hD hpre ⟨G', σ', hE, hS, hI1⟩ hk; exact stop c _ σ' hpre hI1 G' W _ R (hRel D G' W σ' hD hE hS hk) (fun e ρ' σ2 G2 a2 w2 hq hE2 hR2 => hK e ρ' σ2 G2 a2 w2 hq (hE.trans hE2) hR2)
end
end Go.Vm
namespace Go.Proofs.YtjpnjhlfieklfaaGreat
set_option maxHeartbeats 1600000
open Go Go.Vm
attribute [local simp] dM aI dJ opA bH bN cM bP ofValue dC plain aQ aR cA b8 cC cB bY b7 b9 bZ kC yQ bW cG cD b6 bU aT aS bO cU aW dQ dR bK aZ cL gA bS dE cF AV.cells AV.bL dF cO eZ bF aV cQ dI dS dV cN aN dP dO fX eY eV List.getElem?_cons_zero List.getElem?_cons_succ dA
theorem Hx {σ : St} {id x e : Nat} (h : σ.objs[id]? = some (aM x)) (hx : x < 2 ^ 256) (he : e ≤ 1) :
  aE Tryz.prog 140 [.ptr id 0, .v (.int .u64 e)] σ (fun av σ' => av = .v (.int .u64 ((2 * x + e) / 2 ^ 256 : Nat)) ∧ σ' = { σ with objs := σ.objs.set id (aM (2 * x + e)) }) := by
 have hx4 : x < 18446744073709551616 ^ 4 := hx
 have hs := cY h
 have hlt := cZ h
 rw [eH] at h
 have F := And.intro h (And.intro hs (True.intro))
 refine aB Tryz.func140 rfl rfl rfl ?_; refine sr fun _ hJ2 => ?_; apply hJ2; refine sq fun K3 hK3 => ?_; refine sr fun _ hJ5 => ?_; apply hJ5; refine aD ?_; refine cK (X := Nat) [0, 4, 7] (fun i ρ σ1 => (i ≤ 4) ∧ (ρ 1 = .v (.int .u64 (shc 18446744073709551616 x e i : Nat))) ∧ (ρ 8 = .v (.int .i64 i)) ∧ (σ1 = { σ with objs := σ.objs.set id (dH (mix 18446744073709551616 4 i (2 * x + e) x)) })) (fun i => 4 - i) (0) ?st1 ?rd1
 case st1 =>
  refine ⟨lp, ?_, lp, ?_⟩
  · simp [CT]
  · rw [o8, YtjpnjhlfieklfaaGreat.oO h]
 case rd1 =>
  rintro i ρ1 σ1 hF1 ⟨hi, h6, h8, hσ⟩; obtain rfl := hσ.symm
  have f1 := dU hF1
  (try simp [dT, F] at f1); replace F := aF h6 F; replace F := aF h8 F; (try replace F := aF f1 F); refine sr fun _ hJ7 => ?_; apply hJ7; refine sq fun K8 hK8 => ?_; refine cs (fun c9 => ?_) (fun c9 => ?_)
  · try exact aK c9
    all_goals
     replace F := aF c9 F; refine aA ?_; apply hK8; refine sq fun K9 hK9 => ?_; refine aD ?_; refine sq fun K10 hK10 => ?_
     have hi4 : i < 4 := by simp at c9; omega
     have hgx := oZ (b := 18446744073709551616) (s := 2 * x + e) (x := x) hi4
     have hst := oF (b := 18446744073709551616) (s := 2 * x + e) (x := x) hi4
     have hml := pP (b := 18446744073709551616) (s := 2 * x + e) (x := x) (Nat.le_of_lt hi4)
     generalize hX : x / 18446744073709551616 ^ i % 18446744073709551616 = X at hgx
     have hi5 : (i : Int) < 4 := by omega
     obtain ⟨_, hgx2⟩ := List.getElem?_eq_some_iff.1 hgx
     have hc1 := HL (b := 18446744073709551616) (x := x) (i := i) (by decide) he
     have hnx : shc 18446744073709551616 x e (i + 1) = (2 * X + shc 18446744073709551616 x e i) / 18446744073709551616 := by rw [← hX]; exact (C6 (by decide)).symm
     have hXl : X < 18446744073709551616 := by rw [← hX]; exact Nat.mod_lt _ (by decide)
     have hfd : (X : Int).fdiv 9223372036854775808 = ((shc 18446744073709551616 x e (i + 1) : Nat) : Int) := by rw [hnx]; exact (rH X 9223372036854775808).trans (by congr 1; omega)
     replace F := aF hfd F; replace F := aF hgx F; replace F := aF hgx2 F; replace F := aF hml F; replace F := aF hi4 F; replace F := aF hi5 F
     refine bI (by kernel_rfl) fun J11 hJ11 => ?_
     refine q2 0 ?_; refine q2 1 ?_; refine q2 2 ?_; refine q2 3 ?_; refine q2 4 ?_; refine q2 5 ?_; refine dd ?_; apply hJ11; apply hK10; refine rg' (h := fun J12 hJ12 => ?_); apply hJ12; apply hK9; refine rg' (h := fun J13 hJ13 => ?_); apply hJ13; refine ⟨(i + 1), ⟨kp, lp, lp, lp, ?_⟩, lp⟩
     · have hor := H6 hXl hc1
       have hdg : (2 * X + shc 18446744073709551616 x e i) % 18446744073709551616 = (2 * x + e) / 18446744073709551616 ^ i % 18446744073709551616 := by rw [← hX]; exact EM (by decide)
       rw [hdg] at hor
       rw [← hor] at hst
       simp [F]
       exact congrArg (σ.objs.set id) hst
  try exact aK c9
  all_goals
   replace F := aF c9 F
   obtain rfl : i = 4 := by simp at c9; omega
   rw [H2 hx4] at h6 F
   rw [rS, ← eH]
   refine bJ ?_; apply hK3; refine sr fun _ hJ15 => ?_; apply hJ15; refine ra ?_; refine ⟨?_, rfl⟩; simp only [aP]
   simp [F]
theorem Dy {σ : St} {x : Nat} : aE Tryz.prog 153 [.v (.int .u64 x)] σ (fun av σ' => av = .v (.bool false) ∧ σ = σ') := by
 have F := True.intro
 refine aB Tryz.func153 rfl rfl rfl ?_; refine sr fun _ hJ2 => ?_; apply hJ2; refine sr fun _ hJ4 => ?_; apply hJ4; refine ra ?_; exact rt
theorem Jl {σ : St} {x y : Nat} : aE Tryz.prog 148 [.v (.int .u64 x), .v (.int .u64 y)] σ (fun av σ' => av = .v (.int .i64 (if x < y then -1 else if y < x then 1 else 0)) ∧ σ = σ') := by
 have F := True.intro
 refine aB Tryz.func148 rfl rfl rfl ?_; refine sr fun _ hJ2 => ?_; apply hJ2; refine sr fun _ hJ4 => ?_; refine ca (c := Dy) (k := ?_); rintro _ _ ⟨rfl, rfl⟩; (try simp [F]); apply hJ4; refine sr fun _ hJ6 => ?_; refine ca (c := Dy) (k := ?_); rintro _ _ ⟨rfl, rfl⟩; (try simp [F]); apply hJ6; refine sq fun K7 hK7 => ?_; refine sr fun _ hJ9 => ?_; apply hJ9; refine cs (fun c11 => ?_) (fun c11 => ?_)
 · (try exact aK c11); all_goals have c11p := c11; try simp [F] at c11p
   all_goals
    replace F := aF c11 F; (try replace F := aF c11p F); refine sq fun K10 hK10 => ?_; refine sr fun _ hJ12 => ?_; apply hJ12; refine cs (fun c12 => ?_) (fun c12 => ?_)
    · (try exact aK c12); all_goals have c12p := c12; try simp [F] at c12p
      all_goals
       replace F := aF c12 F; (try replace F := aF c12p F); refine sr fun _ hJ14 => ?_; apply hJ14; refine ra ?_; exact rt
    (try exact aK c12); all_goals have c12p := c12; try simp [F] at c12p
    all_goals
     replace F := aF c12 F; (try replace F := aF c12p F); refine aA ?_; apply hK10; refine sr fun _ hJ16 => ?_; apply hJ16; refine ra ?_; exact rt
 (try exact aK c11); all_goals have c11p := c11; try simp [F] at c11p
 all_goals
  replace F := aF c11 F; (try replace F := aF c11p F); refine aA ?_; apply hK7; refine sq fun K17 hK17 => ?_; refine sr fun _ hJ19 => ?_; apply hJ19; refine cs (fun c13 => ?_) (fun c13 => ?_)
  · (try exact aK c13); all_goals have c13p := c13; try simp [F] at c13p
    all_goals
     replace F := aF c13 F; (try replace F := aF c13p F); refine sr fun _ hJ21 => ?_; apply hJ21; refine ra ?_; exact rt
  (try exact aK c13); all_goals have c13p := c13; try simp [F] at c13p
  all_goals
   replace F := aF c13 F; (try replace F := aF c13p F); refine aA ?_; apply hK17; refine sq fun K22 hK22 => ?_; refine sr fun _ hJ24 => ?_; apply hJ24; refine cs (fun c16 => ?_) (fun c16 => ?_)
   · (try exact aK c16); all_goals have c16p := c16; try simp [F] at c16p
     all_goals
      replace F := aF c16 F; (try replace F := aF c16p F); refine sr fun _ hJ26 => ?_; apply hJ26; refine ra ?_; exact rt
   (try exact aK c16); all_goals have c16p := c16; try simp [F] at c16p
   all_goals
    replace F := aF c16 F; try replace F := aF c16p F
    have hn1 : ¬ x < y := by simpa using c16
    replace F := aF hn1 F; refine aA ?_; apply hK22; refine sq fun K27 hK27 => ?_; refine sr fun _ hJ29 => ?_; apply hJ29; refine cs (fun c19 => ?_) (fun c19 => ?_)
    · (try exact aK c19); all_goals have c19p := c19; try simp [F] at c19p
      all_goals
       replace F := aF c19 F; (try replace F := aF c19p F); refine sr fun _ hJ31 => ?_; apply hJ31; refine ra ?_; exact rt
    (try exact aK c19); all_goals have c19p := c19; try simp [F] at c19p
    all_goals
     replace F := aF c19 F; try replace F := aF c19p F
     have hn2 : ¬ y < x := by simpa using c19
     replace F := aF hn2 F; refine aA ?_; apply hK27; refine sr fun _ hJ33 => ?_; apply hJ33; refine ra ?_; exact rt
theorem y4 {σ : St} {id sz m : Nat} :
  aE Tryz.prog 147 [.bs id 0 sz m] σ (fun av σ' => av = .fn 152 [.ptr σ.objs.length 0] ∧ σ' = { σ with objs := σ.objs ++ [[.bs id 0 sz m]] }) := by
 have F := True.intro
 refine aB Tryz.func147 rfl rfl rfl ?_; refine sr fun _ hJ2 => ?_; apply hJ2; refine sr fun _ hJ4 => ?_; apply hJ4; refine ra ?_; exact rt
theorem Ad {σ : St} {id sz m : Nat} :
  aE Tryz.prog 147 [.bs id 0 sz m] σ (fun av σ' => av = .fn 152 [.ep [.bs id 0 sz m]] ∧ σ = σ') :=
 nZ y4 (by simp) rfl
def nG (x y : Nat) : Int := if x < y then -1 else if y < x then 1 else 0
theorem HF {n x y i : Nat} (hx : x < 18446744073709551616 ^ n) (hy : y < 18446744073709551616 ^ n) (hi : i < n) (h : ∀ j, i < j → j < n → x / 18446744073709551616 ^ j % 18446744073709551616 = y / 18446744073709551616 ^ j % 18446744073709551616)
  (hne : x / 18446744073709551616 ^ i % 18446744073709551616 ≠ y / 18446744073709551616 ^ i % 18446744073709551616) : nG x y = (if x / 18446744073709551616 ^ i % 18446744073709551616 < y / 18446744073709551616 ^ i % 18446744073709551616 then -1 else 1) := by
 unfold nG
 by_cases hl : x / 18446744073709551616 ^ i % 18446744073709551616 < y / 18446744073709551616 ^ i % 18446744073709551616
 · rw [if_pos hl, if_pos (uY (by decide) hx hy hi h hl)]
 · have hg : y / 18446744073709551616 ^ i % 18446744073709551616 < x / 18446744073709551616 ^ i % 18446744073709551616 := by omega
   have := uY (by decide) hy hx hi (fun j h1 h2 => (h j h1 h2).symm) hg
   rw [if_neg hl, if_neg (by omega), if_pos this]
theorem Ld {σ : St} {x y : Nat} (hx : x < 2 ^ 256) (hy : y < 2 ^ 256) :
  aE Tryz.prog 141 [.agg (aM x), .agg (aM y)] σ (fun av σ' => av = .v (.int .i64 (nG x y)) ∧ σ = σ') := by
 refine aU ?_ rfl
 have hx4 : x < 18446744073709551616 ^ 4 := hx
 have hy4 : y < 18446744073709551616 ^ 4 := hy
 rw [eH x, eH y]
 have F := True.intro
 refine aB Tryz.func141 rfl rfl rfl ?_; refine sr fun _ hJ2 => ?_; apply hJ2; refine sq fun K3 hK3 => ?_; refine sr fun _ hJ5 => ?_; refine ca (c := Ad) (k := ?_); rintro _ _ ⟨rfl, rfl⟩; (try simp [F]); apply hJ5; refine aD ?_
 refine z7 Je ?rm1 (by first | rfl | (simp; done)) rfl rfl rfl rfl rfl rfl rfl rfl (vs := C9 (cR 18446744073709551616 4 x)) (fun pre σ1 => (∀ j ∈ pre, x / 18446744073709551616 ^ j % 18446744073709551616 = y / 18446744073709551616 ^ j % 18446744073709551616) ∧ σ1 = { σ with objs := σ.objs ++ [dH (cR 18446744073709551616 4 x), dH (cR 18446744073709551616 4 y), [.v (.int .i64 0)]] }) (by first | rfl | (simp [F]; done)) ?ml1 (by first | exact DB _ | rfl) ?hI1 (fun c pre σ1 => c = .ret ∧ ∃ pre0 i X Y, pre = pre0 ++ [i] ∧ (∀ j ∈ pre0, x / 18446744073709551616 ^ j % 18446744073709551616 = y / 18446744073709551616 ^ j % 18446744073709551616) ∧ x / 18446744073709551616 ^ i % 18446744073709551616 = X ∧ y / 18446744073709551616 ^ i % 18446744073709551616 = Y ∧ X ≠ Y ∧ σ1 = { σ with objs := σ.objs ++ [dH (cR 18446744073709551616 4 x), dH (cR 18446744073709551616 4 y), [.v (.int .i64 (if X < Y then -1 else 1))]] }) ?rs1 ?rr1 ?rd1 ?rx1
 case ml1 =>
  first | rfl | (simp [C9]; done)
 case hI1 =>
  intro pre σ1 hI; rw [hI.2]; simp [Il]
 case rm1 =>
  omega
 case rs1 =>
  exact ⟨by simp, by simp⟩
 case rr1 =>
  rintro z pre i v σ1 hi hv ⟨hI, rfl⟩
  obtain ⟨X, hX, rfl⟩ := IF hv
  rw [oU hi] at hX
  injection hX with hX
  have hgy := eU (b := 18446744073709551616) (x := y) hi
  have hi5 : (i : Int) < 4 := by omega
  obtain ⟨_, hgy2⟩ := List.getElem?_eq_some_iff.1 hgy
  generalize hY : y / 18446744073709551616 ^ i % 18446744073709551616 = Y at hgy hgy2
  replace F := aF hgy F; replace F := aF hgy2 F; replace F := aF hi F; replace F := aF hi5 F; refine aD ?_; refine sr fun _ hJ7 => ?_; refine ca (c := Jl) (k := ?_); rintro _ _ ⟨rfl, rfl⟩; (try simp [F]); apply hJ7; refine sr fun _ hJ9 => ?_; apply hJ9; refine cs (fun c18 => ?_) (fun c18 => ?_)
  · try exact aK c18
    all_goals
     replace F := aF c18 F
     have hne : X ≠ Y := by rintro rfl; simp at c18
     refine sr fun _ hJ11 => ?_; apply hJ11; refine bQ ?_; (try simp only [eD, bG, bV]); exact ⟨by first | trivial | rfl, pre, i, X, Y, rfl, hI, hX, hY, hne, by simp [F]⟩
  try exact aK c18
  all_goals
   replace F := aF c18 F
   have heq : X = Y := by have := c18; simp at this; split at this <;> first | (simp at this; done) | (split at this <;> first | (simp at this; done) | omega)
   refine aA ?_
   refine ⟨?_, by simp [F]⟩
   intro j hj
   rcases List.mem_append.1 hj with h | h
   · exact hI j h
   · simp at h; subst h; rw [hX, hY, heq]
 case rd1 =>
  rintro σ1 ⟨hI, rfl⟩
  have hxy : x = y := by have := tM (b := 18446744073709551616) (n := 4) (i := 0) (by decide) hx4 hy4 (by omega) (fun j _ hj => hI j (by simp; omega)); simpa using this
  have hcI : nG x y = 0 := by subst hxy; simp [nG]
  replace F := aF hcI F; apply hK3; refine sr fun _ hJ13 => ?_; apply hJ13; refine bQ ?_; (try simp only [eD, bG, bV]); refine j1 (h := ?_); exact gcr
 case rx1 =>
  rintro c pre σ1 hpre ⟨rfl, pre0, i, X, Y, rfl, hI, rfl, rfl, hne, rfl⟩
  obtain ⟨hi4, hall⟩ := I8 hpre
  have hcI : nG x y = (if x / 18446744073709551616 ^ i % 18446744073709551616 < y / 18446744073709551616 ^ i % 18446744073709551616 then -1 else 1) := HF hx4 hy4 hi4 (fun j h1 h2 => hI j (hall j h1 h2)) hne
  replace F := aF hcI F; refine bQ ?_; (try simp only [eD, bG, bV]); refine j1 (h := ?_); exact gcr
structure TS where
 k : Nat
 P : List Nat
 c : Nat
attribute [local simp] qX qM rW in
theorem qE {σ : St} {x y : Nat} (hx : x < 2 ^ 256) (hy : y < 2 ^ 256) :
  aE Tryz.prog 128 [.agg (aM x), .agg (aM y)] σ (fun av σ' => av = .agg (iL (x * y)) ∧ σ = σ') := by
 refine aU ?_ (by simp [AV.under, bB, iL, m7])
 have hx4 : x < 18446744073709551616 ^ 4 := hx
 have hy4 : y < 18446744073709551616 ^ 4 := hy
 have F := True.intro
 refine aB Tryz.func128 rfl rfl rfl ?_; refine sr fun _ hJ2 => ?_; apply hJ2; refine sr fun _ hJ4 => ?_; apply hJ4; refine sq fun K5 hK5 => ?_; refine sr fun _ hJ7 => ?_; apply hJ7; refine aD ?_; refine cK (X := Nat) [3, 4, 5, 14] (fun i ρ σ1 => (i ≤ 4) ∧ (ρ 15 = .v (.int .i64 i)) ∧ (σ1 = { σ with objs := σ.objs ++ [aM x, aM y, iL 0, iL ((x % 18446744073709551616 ^ i) * y)] })) (fun i => 4 - i) (0) ?st1 ?rd1
 case st1 =>
  refine ⟨lp, lp, ?_⟩
  · simp [Nat.mod_one, sO]
 case rd1 =>
  rintro i ρ1 σ1 hF1 ⟨hi, h15, hσ⟩; obtain rfl := hσ.symm
  have f1 := dU hF1
  (try simp [dT, F] at f1); replace F := aF h15 F; (try replace F := aF f1 F); refine sr fun _ hJ9 => ?_; apply hJ9; refine sq fun K10 hK10 => ?_; refine cs (fun c16 => ?_) (fun c16 => ?_)
  · all_goals
     replace F := aF c16 F; refine aA ?_; apply hK10; refine sq fun K11 hK11 => ?_; refine aD ?_; refine sq fun K12 hK12 => ?_
     have hi4 : i < 4 := by simp at c16; omega
     have hgx : (aM x)[i]? = some (.v (.int .u64 (x / 18446744073709551616 ^ i % 18446744073709551616 : Nat))) := by rw [eH]; exact eU hi4
     generalize hX : x / 18446744073709551616 ^ i % 18446744073709551616 = X at hgx
     obtain ⟨_, hgx2⟩ := List.getElem?_eq_some_iff.1 hgx
     have hi5 : (i : Int) < 4 := by omega
     have hXl : X < 18446744073709551616 := by rw [← hX]; exact Nat.mod_lt _ (by decide)
     replace F := aF hgx F; replace F := aF hgx2 F; replace F := aF hi4 F; replace F := aF hi5 F; refine rg' (h := fun J13 hJ13 => ?_); apply hJ13; apply hK12; refine sr fun _ hJ15 => ?_; apply hJ15; refine sq fun K16 hK16 => ?_; refine sr fun _ hJ18 => ?_; apply hJ18; refine aD ?_; refine cK (X := TS) [3, 4, 5, 6, 7, 14, 15, 16, 17, 18, 19] (fun q ρ σ1 => (q.k ≤ 4) ∧ (q8 x y i X q.k q.P q.c) ∧ (ρ 8 = .v (.int .u64 q.c)) ∧ (ρ 20 = .v (.int .i64 q.k)) ∧ (σ1 = { σ with objs := σ.objs ++ [aM x, aM y, iL 0, dH q.P] })) (fun q => 4 - q.k) (⟨0, cR 18446744073709551616 8 ((x % 18446744073709551616 ^ i) * y), 0⟩) ?st2 ?rd2
     case st2 =>
      refine ⟨lp, ?_, lp, lp, ?_⟩
      · exact CO hi hy4
      · rfl
     case rd2 =>
      rintro q ρ2 σ1 hF2 ⟨hk, hT, h8, h20, hσ2⟩; obtain rfl := hσ2.symm
      have f2 := dU hF2
      (try simp [dT, F] at f2); replace F := aF h8 F; replace F := aF h20 F; (try replace F := aF f2 F); refine sr fun _ hJ20 => ?_; apply hJ20; refine sq fun K21 hK21 => ?_; refine cs (fun c21 => ?_) (fun c21 => ?_)
      · all_goals
         replace F := aF c21 F; refine aA ?_; apply hK21; refine sq fun K22 hK22 => ?_; refine aD ?_; refine sq fun K23 hK23 => ?_
         have hk4 : q.k < 4 := by simp at c21; omega
         have hgy : (aM y)[q.k]? = some (.v (.int .u64 (y / 18446744073709551616 ^ q.k % 18446744073709551616 : Nat))) := by rw [eH]; exact eU hk4
         generalize hY : y / 18446744073709551616 ^ q.k % 18446744073709551616 = Y at hgy
         obtain ⟨_, hgy2⟩ := List.getElem?_eq_some_iff.1 hgy
         have hk5 : (q.k : Int) < 4 := by omega
         have hYl : Y < 18446744073709551616 := by rw [← hY]; exact Nat.mod_lt _ (by decide)
         have hPl := hT.1
         obtain ⟨p, hp⟩ : ∃ p, q.P[i + q.k]? = some p := ⟨_, List.getElem?_eq_getElem (by omega)⟩
         have hp2 := (List.getElem?_eq_some_iff.1 hp).2
         have hgp : (dH q.P)[i + q.k]? = some (.v (.int .u64 p)) := by simp [dH, hp]
         obtain ⟨_, hgp2⟩ := List.getElem?_eq_some_iff.1 hgp
         have hpl : p < 18446744073709551616 := hT.2.1 p (List.mem_of_getElem? hp)
         have hcl := hT.2.2.1
         have htn : ((i : Int) + (q.k : Int)).toNat = i + q.k := by omega
         have hXY := Nat.mul_le_mul (show X ≤ 18446744073709551615 by omega) (show Y ≤ 18446744073709551615 by omega)
         have hib : (i : Int) + q.k < 8 := by omega
         have hib2 : (0 : Int) ≤ (i : Int) + q.k := by omega
         have hib3 : i + q.k < 8 := by omega
         replace F := aF hgy F; replace F := aF hgy2 F; replace F := aF hk4 F; replace F := aF hk5 F; replace F := aF hgp F; replace F := aF hgp2 F; replace F := aF htn F; replace F := aF hPl F; replace F := aF hib F; replace F := aF hib2 F; replace F := aF hib3 F; refine rg' (h := fun J24 hJ24 => ?_); apply hJ24; apply hK23; refine sr fun _ hJ26 => ?_; refine ca (c := Ik (x := X) (y := Y) st st) (k := ?_); rintro _ _ ⟨⟨hh, ll, hh1, hl1, rfl⟩, rfl⟩; (try simp [F]); apply hJ26; refine sr fun _ hJ28 => ?_; apply hJ28; refine sr fun _ hJ30 => ?_
         refine ce (c := zC (x := ll) (y := p) (c := 0) (by omega)) (k := ?_)
         rintro _ _ ⟨s1, c1, hs1, hc1, rfl⟩ rfl; (try simp [F]); apply hJ30; refine sr fun _ hJ32 => ?_; apply hJ32; refine sr fun _ hJ34 => ?_
         refine ce (c := zC (x := s1) (y := q.c) (c := 0) (by omega)) (k := ?_)
         rintro _ _ ⟨s2, c2, hs2, hc2, rfl⟩ rfl; (try simp [F]); apply hJ34; refine rg' (h := fun J35 hJ35 => ?_); apply hJ35; apply hK22; refine rg' (h := fun J36 hJ36 => ?_); apply hJ36; refine ⟨(⟨q.k + 1, q.P.set (i + q.k) s2, hh + c1 + c2⟩), ⟨kp, lp, ?_, lp, lp, ?_⟩, lp⟩
         · exact Ep (s := s2) (c' := hh + c1 + c2) hT hi4 hk4 hXl hp hY (by omega) (by omega)
         · have hset := jB q.P (i + q.k) s2 (by omega)
           simp [F]
           exact hset
      all_goals
       replace F := aF c21 F
       have hk4 : q.k = 4 := by simp at c21; omega
       rw [hk4] at hT
       have hlast := Ej hT hi4 hX hy4
       have hPl := hT.1
       have hset := jB q.P (i + 4) q.c (by omega)
       have hib : (i : Int) + 4 < 8 := by omega
       have hib3 : i + 4 < 8 := by omega
       have htn : ((i : Int) + 4).toNat = i + 4 := by omega
       have hib2 : (0 : Int) ≤ (i : Int) + 4 := by omega
       rw [hlast] at hset
       replace F := aF hib (And.intro hib3 (And.intro htn (And.intro hib2 (And.intro hPl F)))); refine bJ ?_; apply hK16; refine rg' (h := fun J37 hJ37 => ?_); apply hJ37; apply hK11; refine rg' (h := fun J38 hJ38 => ?_); apply hJ38; refine ⟨(i + 1), ⟨kp, lp, lp, ?_⟩, lp⟩
       · simp [F]
         exact hset
  all_goals
   replace F := aF c16 F
   obtain rfl : i = 4 := by simp at c16; omega
   have hxm : x % 18446744073709551616 ^ 4 = x := Nat.mod_eq_of_lt hx4
   rw [hxm]
   refine bJ ?_; apply hK5; refine sr fun _ hJ40 => ?_; apply hJ40; refine bQ ?_; (try simp only [eD, bG, bV]); refine j1 (h := ?_); exact gcr
end Go.Proofs.YtjpnjhlfieklfaaGreat
namespace Go.Proofs.YtjpnjhlfieklfaaGreat
set_option maxHeartbeats 1600000
set_option exponentiation.threshold 600
open Go Go.Vm
attribute [local simp] dM aI dJ opA bH bN cM bP ofValue dC plain aQ aR cA b8 cC cB bY b7 b9 bZ cV gN bW cG cD b6 bU aT aS bO cU aW dQ dR bK aZ cL gA bS dE cF AV.cells AV.bL dF cO eZ bF aV cQ dI dS dV cN aN dP dO fX eY eV cW cT List.getElem?_cons_zero List.getElem?_cons_succ cI dA
theorem Jg {T c : Nat} (h : 0 ≤ nG T c) : c ≤ T := by
 unfold nG at h; split at h <;> omega
theorem Kq {T c : Nat} (h : ¬ 0 ≤ nG T c) : T < c := by
 unfold nG at h
 split at h
 · assumption
 · split at h <;> omega
attribute [local simp] qX qM rW in
theorem rG {σ : St} {x c : Nat} (hx : x < 2 ^ 512) (hc : c < 2 ^ 256) (hc0 : 0 < c) :
  aE Tryz.prog 129 [.agg (iL x), .agg (aM c)] σ (fun av σ' => av = .tup [.agg (iL (x / c)), .agg (aM (x % c))] ∧ σ = σ') := by
 refine aU ?_ (by simp [AV.under, bB, iL, m7, aM])
 have F := True.intro
 refine aB Tryz.func129 rfl rfl rfl ?_; refine sr fun _ hJ2 => ?_; apply hJ2; refine sr fun _ hJ4 => ?_; apply hJ4; refine sr fun _ hJ6 => ?_; apply hJ6; refine sq fun K7 hK7 => ?_; refine sr fun _ hJ9 => ?_; apply hJ9; refine aD ?_; refine cK (X := Nat) [2, 3, 4, 5, 6, 7] (fun n ρ σ1 => (n ≤ 512) ∧ (ρ 8 = .v (.int .i64 ((n : Int) - 1))) ∧ (σ1 = { σ with objs := σ.objs ++ [iL x, aM c, iL 0, aM 0, iL (x / 2 ^ n / c * 2 ^ n), aM (x / 2 ^ n % c)] })) (fun n => n) (512) ?st1 ?rd1
 case st1 =>
  refine ⟨lp, lp, ?_⟩
  · rw [Nat.div_eq_of_lt hx]
    simp [sO, fS]
 case rd1 =>
  rintro n ρ1 σ1 hF1 ⟨hn, h8, hσ⟩; obtain rfl := hσ.symm
  have f1 := dU hF1
  (try simp [dT, F] at f1); replace F := aF h8 F; (try replace F := aF f1 F); refine sq fun K10 hK10 => ?_; refine sr fun _ hJ12 => ?_; apply hJ12; refine cs (fun c11 => ?_) (fun c11 => ?_)
  · (try exact aK c11); all_goals have c11p := c11; try simp [F] at c11p
    all_goals
     replace F := aF c11 F; (try replace F := aF c11p F); refine aA ?_; apply hK10; refine sq fun K13 hK13 => ?_; refine aD ?_; refine sq fun K14 hK14 => ?_
     obtain ⟨j, rfl⟩ : ∃ j, n = j + 1 := ⟨n - 1, by simp at c11; omega⟩
     have hj : ((j + 1 : Nat) : Int) - 1 = (j : Int) := by omega
     rw [hj] at h8 F
     obtain ⟨q, hq⟩ : ∃ q, q = j / 64 := ⟨_, rfl⟩
     obtain ⟨r, hr⟩ : ∃ r, r = j % 64 := ⟨_, rfl⟩
     have e1 : (j : Int) / 64 = (q : Int) := by omega
     have e2 : (j : Int) % 64 = (r : Int) := by omega
     have hq8 : q < 8 := by omega
     have hq8i : (q : Int) < 8 := by omega
     have hr64 : r < 64 := by omega
     have e3 : (j : Int).tdiv 64 = (q : Int) := by rw [Int.tdiv_eq_ediv_of_nonneg (by omega)]; exact e1
     have e4 : (j : Int).tmod 64 = (r : Int) := by rw [Int.tmod_eq_emod_of_nonneg (by omega)]; exact e2
     obtain ⟨L, hL⟩ : ∃ L, L = x / 18446744073709551616 ^ q % 18446744073709551616 := ⟨_, rfl⟩
     have hgx : (iL x)[q]? = some (.v (.int .u64 L)) := by rw [hL]; exact eU hq8
     obtain ⟨_, hgx2⟩ := List.getElem?_eq_some_iff.1 hgx
     replace F := aF e1 F; replace F := aF e2 F; replace F := aF e3 F; replace F := aF e4 F; replace F := aF hq8 F; replace F := aF hq8i F; replace F := aF hr64 F; replace F := aF hgx F; replace F := aF hgx2 F; refine rg' (h := fun J15 hJ15 => ?_)
     obtain ⟨B, hB⟩ : ∃ B, B = x / 2 ^ j % 2 := ⟨_, rfl⟩
     have hbit := Hg hL hr64 (show j = 64 * q + r by omega)
     rw [← hB] at hbit
     obtain ⟨R, hR⟩ : ∃ R, R = x / 2 ^ (j + 1) % c := ⟨_, rfl⟩
     have hRl : R < c := by rw [hR]; exact Nat.mod_lt _ hc0
     obtain ⟨hd1, hd2, hd3⟩ := AR (x := x) (c := c) (j := j) hc0
     rw [← hR, ← hB] at hd1 hd2 hd3
     obtain ⟨Q, hQ⟩ : ∃ Q, Q = x / 2 ^ (j + 1) / c * 2 ^ (j + 1) := ⟨_, rfl⟩
     rw [← hQ, ← hR]
     obtain ⟨T, hT⟩ : ∃ T, T = 2 * R + B := ⟨_, rfl⟩
     rw [← hT] at hd1 hd2 hd3
     replace F := aF hbit F
     refine ca (c := Hx (id := σ.objs.length + 5) (x := R) (e := B) (by simp [cT]) (by omega) (by omega)) (k := ?_)
     rintro _ _ ⟨rfl, rfl⟩
     rw [← hT]
     (repeat first | simp [F] | simp (disch := omega) only [wC, if_pos, if_neg]); apply hJ15; apply hK14; refine sr fun _ hJ17 => ?_; refine gs 25 (fun g7_2 => ?_) (fun g7_2 => ?_)
     · (try exact aK g7_2); all_goals have g7_2p := g7_2; try simp [F] at g7_2p
       all_goals
        replace F := aF g7_2 F; try replace F := aF g7_2p F
        have hcT : c ≤ T := by have h := g7_2; simp only [bne_iff_ne, ne_eq] at h; omega
        have hsn : w7 (T % 2 ^ 256) c = T - c := by unfold w7; omega
        obtain ⟨hd4, hd5⟩ := hd2 hcT
        (iterate 4 refine no2 (k := ?_)); apply hJ17; refine ct ?_; refine sr fun _ hJ19 => ?_; refine ca (c := CE (x := T) (y := c) hc) (k := ?_); rintro _ _ ⟨rfl, rfl⟩; (repeat first | simp [F] | simp (disch := omega) only [wC, if_pos, if_neg]); apply hJ19
        rw [hsn]
        obtain ⟨M, hM⟩ : ∃ M, M = Q / 18446744073709551616 ^ q % 18446744073709551616 := ⟨_, rfl⟩
        have hgM : (iL Q)[q]? = some (.v (.int .u64 M)) := by rw [hM]; exact eU hq8
        obtain ⟨_, hgM2⟩ := List.getElem?_eq_some_iff.1 hgM
        have hQ0 : Q / 2 ^ j % 2 = 0 := by rw [hQ, Nat.pow_succ, show x / (2 ^ j * 2) / c * (2 ^ j * 2) = 2 ^ j * (x / (2 ^ j * 2) / c * 2) by grind, Nat.mul_div_cancel_left _ (Nat.two_pow_pos j)]; omega
        have hQ2 : x / 2 ^ j / c * 2 ^ j = Q + 2 ^ j := by rw [hd4, hQ, Nat.pow_succ]; grind
        have hQl : Q + 2 ^ j < 2 ^ 512 := by rw [← hQ2]; exact Nat.lt_of_le_of_lt (Nat.le_trans (Nat.mul_le_mul_right _ (Nat.div_le_self _ _)) (Nat.div_mul_le_self _ _)) hx
        obtain ⟨hb1, hb2, hb3⟩ := C8 hM hr64 (show j = 64 * q + r by omega) hq8 hQ0 hQl
        have hsl := Dx hr64
        obtain ⟨E, hE⟩ : ∃ E, E = 2 ^ r := ⟨_, rfl⟩
        rw [← hE] at hb1 hb2 hb3 hsl
        have hoM := ES (a := M) (b := E) (by omega) (by omega)
        rw [hb2] at hoM
        obtain ⟨M2, hM2⟩ : ∃ M2, M2 = M + E := ⟨_, rfl⟩
        rw [← hM2] at hoM hb3
        have hset := jB (cR 18446744073709551616 8 Q) q M2 (by simpa using hq8)
        rw [hb3] at hset
        replace F := aF hgM F; replace F := aF hgM2 F; replace F := aF hsl F; replace F := aF hoM F; replace F := aF hd5 F; replace F := aF hQ2 F
        refine bI (by kernel_rfl) fun J20 hJ20 => ?_
        refine q2 0 ?_; refine q2 1 ?_; refine q2 2 ?_; refine q2 3 ?_; refine q2 4 ?_; refine q2 5 ?_; refine q2 6 ?_; refine q2 7 ?_; refine q2 8 ?_; refine dop 9 rfl ?_; (repeat first | simp [F] | simp (disch := omega) only [wC, if_pos, if_neg]); refine ⟨ln, ?_⟩; refine dd ?_; apply hJ20; apply hK13; refine rg' (h := fun J21 hJ21 => ?_); apply hJ21; refine ⟨(j), ⟨kp, lp, lp, ?_⟩, lp⟩
        · simp [F]
          exact hset
     (try exact aK g7_2); all_goals have g7_2p := g7_2; try simp [F] at g7_2p
     all_goals
      replace F := aF g7_2 F; try replace F := aF g7_2p F
      have hT0 : T < 2 ^ 256 := by have h := g7_2; simp only [bne_eq_false_iff_eq] at h; omega
      (iterate 2 refine go2 (k := ?_)); refine ca (c := Ld (x := T) (y := c) hT0 hc) (k := ?_); rintro _ _ ⟨rfl, rfl⟩; (repeat first | simp [F] | simp (disch := omega) only [wC, if_pos, if_neg]); refine go2 (k := ?_); apply hJ17; refine cs (fun c30 => ?_) (fun c30 => ?_)
      · (try exact aK c30); all_goals have c30p := c30; try simp [F] at c30p
        all_goals
         replace F := aF c30 F; try replace F := aF c30p F
         have hcT : c ≤ T := by have h := c30; simp only [decide_eq_true_eq] at h; exact Jg h
         have hsn : w7 (T % 2 ^ 256) c = T - c := by unfold w7; omega
         obtain ⟨hd4, hd5⟩ := hd2 hcT
         refine sr fun _ hJ23 => ?_; refine ca (c := CE (x := T) (y := c) hc) (k := ?_); rintro _ _ ⟨rfl, rfl⟩; (repeat first | simp [F] | simp (disch := omega) only [wC, if_pos, if_neg]); apply hJ23
         rw [hsn]
         obtain ⟨M, hM⟩ : ∃ M, M = Q / 18446744073709551616 ^ q % 18446744073709551616 := ⟨_, rfl⟩
         have hgM : (iL Q)[q]? = some (.v (.int .u64 M)) := by rw [hM]; exact eU hq8
         obtain ⟨_, hgM2⟩ := List.getElem?_eq_some_iff.1 hgM
         have hQ0 : Q / 2 ^ j % 2 = 0 := by rw [hQ, Nat.pow_succ, show x / (2 ^ j * 2) / c * (2 ^ j * 2) = 2 ^ j * (x / (2 ^ j * 2) / c * 2) by grind, Nat.mul_div_cancel_left _ (Nat.two_pow_pos j)]; omega
         have hQ2 : x / 2 ^ j / c * 2 ^ j = Q + 2 ^ j := by rw [hd4, hQ, Nat.pow_succ]; grind
         have hQl : Q + 2 ^ j < 2 ^ 512 := by rw [← hQ2]; exact Nat.lt_of_le_of_lt (Nat.le_trans (Nat.mul_le_mul_right _ (Nat.div_le_self _ _)) (Nat.div_mul_le_self _ _)) hx
         obtain ⟨hb1, hb2, hb3⟩ := C8 hM hr64 (show j = 64 * q + r by omega) hq8 hQ0 hQl
         have hsl := Dx hr64
         obtain ⟨E, hE⟩ : ∃ E, E = 2 ^ r := ⟨_, rfl⟩
         rw [← hE] at hb1 hb2 hb3 hsl
         have hoM := ES (a := M) (b := E) (by omega) (by omega)
         rw [hb2] at hoM
         obtain ⟨M2, hM2⟩ : ∃ M2, M2 = M + E := ⟨_, rfl⟩
         rw [← hM2] at hoM hb3
         have hset := jB (cR 18446744073709551616 8 Q) q M2 (by simpa using hq8)
         rw [hb3] at hset
         replace F := aF hgM F; replace F := aF hgM2 F; replace F := aF hsl F; replace F := aF hoM F; replace F := aF hd5 F; replace F := aF hQ2 F
         refine bI (by kernel_rfl) fun J24 hJ24 => ?_
         refine q2 0 ?_; refine q2 1 ?_; refine q2 2 ?_; refine q2 3 ?_; refine q2 4 ?_; refine q2 5 ?_; refine q2 6 ?_; refine q2 7 ?_; refine q2 8 ?_; refine dop 9 rfl ?_; (repeat first | simp [F] | simp (disch := omega) only [wC, if_pos, if_neg]); refine ⟨ln, ?_⟩; refine dd ?_; apply hJ24; apply hK13; refine rg' (h := fun J25 hJ25 => ?_); apply hJ25; refine ⟨(j), ⟨kp, lp, lp, ?_⟩, lp⟩
         · simp [F]
           exact hset
      (try exact aK c30); all_goals have c30p := c30; try simp [F] at c30p
      all_goals
       replace F := aF c30 F; try replace F := aF c30p F
       have hcT : T < c := by have h := c30; simp only [decide_eq_false_iff_not] at h; exact Kq h
       obtain ⟨hd4, hd5⟩ := hd1 hcT
       have hQ2 : x / 2 ^ j / c * 2 ^ j = Q := by rw [hd4, hQ, Nat.pow_succ]; grind
       replace F := aF hd5 (And.intro hQ2 F); refine aA ?_; apply hK13; refine rg' (h := fun J26 hJ26 => ?_); apply hJ26; refine ⟨(j), ⟨kp, lp, lp, lp⟩, lp⟩
  (try exact aK c11); all_goals have c11p := c11; try simp [F] at c11p
  all_goals
   replace F := aF c11 F; try replace F := aF c11p F
   obtain rfl : n = 0 := by simp at c11; omega
   have e0 : x / 2 ^ 0 / c * 2 ^ 0 = x / c := by simp
   have e1 : x / 2 ^ 0 % c = x % c := by simp
   rw [e0, e1]
   refine bJ ?_; apply hK7; refine sq fun K27 hK27 => ?_
   refine bI (by kernel_rfl) fun J28 hJ28 => ?_
   refine q2 0 ?_; refine q2 1 ?_; refine dop 2 rfl ?_; repeat (first | simp [F] | simp (disch := omega) only [wC, if_pos, if_neg])
   refine ⟨by first | exact fun _ _ h => h | (refine aH [1] (by kernel_rfl) ?_; (repeat' first | exact ln2 | refine lc ?_ ?_) <;> constructor <;> first | rfl | (simp [F]; done)), ?_⟩
   refine dop 3 rfl ?_; (repeat first | simp [F] | simp (disch := omega) only [wC, if_pos, if_neg]); refine ⟨ln, ?_⟩; refine dd ?_; apply hJ28; apply hK27; refine bQ ?_; (try simp only [eD, bG, bV]); refine Kl (h := ?_); exact gcr
def mdQ (a b c : Nat) (up : Bool) : Nat := a * b / c + (if up = true ∧ a * b % c ≠ 0 then 1 else 0)
def mdN (a b c : Nat) (up : Bool) : Nat := if c = 0 then 0 else if mdQ a b c up < 2 ^ 256 then mdQ a b c up else 0
def mdE (a b c : Nat) (up : Bool) : Nat := if c = 0 then 1 else if mdQ a b c up < 2 ^ 256 then 0 else 2
theorem ER {a b : Nat} (ha : a < 2 ^ 256) (hb : b < 2 ^ 256) : a * b < 2 ^ 512 := by
 have : a * b < 2 ^ 256 * 2 ^ 256 := Nat.mul_lt_mul'' ha hb
 rwa [← Nat.pow_add] at this
theorem Km {a b c : Nat} {up : Bool} (h0 : ¬ c = 0) (hq : ¬ a * b / c < 2 ^ 256) : mdN a b c up = 0 ∧ mdE a b c up = 2 := by
 have : ¬ mdQ a b c up < 2 ^ 256 := by unfold mdQ; omega
 simp only [mdN, mdE, if_neg h0, if_neg this, and_self]
theorem L1 {a b c : Nat} (h0 : ¬ c = 0) (hr : ¬ a * b % c = 0) : mdN a b c true = nH (a * b / c) 1 ∧ mdE a b c true = r8 (a * b / c) 1 := by
 have : mdQ a b c true = a * b / c + 1 := by unfold mdQ; rw [if_pos ⟨rfl, hr⟩]
 simp only [mdN, mdE, if_neg h0, this, nH, r8, and_self]
theorem II {a b c : Nat} {up : Bool} (h0 : ¬ c = 0) (hq : a * b / c < 2 ^ 256) (h : up = false ∨ a * b % c = 0) : mdN a b c up = a * b / c ∧ mdE a b c up = 0 := by
 have : mdQ a b c up = a * b / c := by
  unfold mdQ; rw [if_neg]; omega
  rintro ⟨h1, h2⟩; rcases h with h | h
  · rw [h] at h1; cases h1
  · exact h2 h
 simp only [mdN, mdE, if_neg h0, this, if_pos hq, and_self]
attribute [local simp] qX qM rW lE sO fS in
theorem gF {σ : St} {a b c : Nat} {up : Bool} (ha : a < 2 ^ 256) (hb : b < 2 ^ 256) (hc : c < 2 ^ 256) :
  aE Tryz.prog 111 [.agg (aM a), .agg (aM b), .agg (aM c), .v (.bool up)] σ (fun av σ' => av = .tup [.agg (aM (mdN a b c up)), .v (.int .i64 (mdE a b c up : Nat))] ∧ σ = σ') := by
 refine aU ?_ (by simp [AV.under, bB, aM])
 have hcq : gC (aM c) [.v (.int .u64 0), .v (.int .u64 0), .v (.int .u64 0), .v (.int .u64 0)] = decide (c = 0) := k8 (x := ⟨c, hc⟩)
 have hfn : ∀ x, lE [some .u64, some .u64, some .u64, some .u64] (aM x) = true := fun x => rfl
 have hP := ER ha hb
 have hz0 : gC (aM 0) (aM 0) = true := rfl
 rw [fS] at hz0
 have hqP : a * b / c < 2 ^ 512 := Nat.lt_of_le_of_lt (Nat.div_le_self _ _) hP
 have F := And.intro hz0 (And.intro hcq (And.intro hfn (True.intro)))
 refine aB Tryz.func111 rfl rfl rfl ?_; refine sr fun _ hJ2 => ?_; apply hJ2; refine sq fun K3 hK3 => ?_; refine sr fun _ hJ5 => ?_; apply hJ5; refine cs (fun c16 => ?_) (fun c16 => ?_)
 · try exact aK c16
   all_goals
    replace F := aF c16 F
    have h0 : c = 0 := by simpa using c16
    subst h0
    have e1 : mdN a b 0 up = 0 := by simp [mdN]
    have e2 : mdE a b 0 up = 1 := by simp [mdE]
    replace F := aF e1 (And.intro e2 F); refine sr fun _ hJ7 => ?_; apply hJ7; refine bQ ?_; (try simp only [eD, bG, bV]); refine gY (h := ?_); exact gcr
 try exact aK c16
 all_goals
  replace F := aF c16 F
  have h0 : ¬ c = 0 := by simpa using c16
  refine aA ?_; apply hK3; refine sqc (X := Bool) [3, 8, 9] (fun k ρ σ1 => (ρ 10 = .ptr (σ.objs.length + bif k then 4 else 5) 0) ∧ (ρ 11 = .ptr (σ.objs.length + bif k then 5 else 4) 0) ∧ (σ1 = { σ with objs := σ.objs ++ [aM a, aM b, aM c, aM 0] ++ (bif k then [iL (a * b / c), aM (a * b % c)] else [aM (a * b % c), iL (a * b / c)]) })) ?cy8 ?cx8
  case cy8 =>
   rintro k ρCr3 σ1 hFCr3 ⟨h10, h11, hσ⟩; obtain rfl := hσ.symm
   have fCr3 := dU hFCr3
   (try simp [dT, F] at fCr3); replace F := aF h10 F; replace F := aF h11 F; try replace F := aF fCr3 F
   have hov := Km (a := a) (b := b) (up := up) h0
   have had : up = true → ¬ a * b % c = 0 → mdN a b c up = nH (a * b / c) 1 ∧ mdE a b c up = r8 (a * b / c) 1 := fun e hr => by subst e; exact L1 h0 hr
   have hpl := II (a := a) (b := b) (up := up) h0
   by_cases hq : a * b / c < 2 ^ 256 <;> by_cases hr : a * b % c = 0 <;> cases up <;> cases k
   all_goals simp at h10 h11 F
   all_goals simp
   (all_goals try replace F := aF (hov hq) F); (all_goals try replace F := aF (had rfl hr) F); (all_goals try replace F := aF (hpl hq (by first | exact .inl rfl | exact .inr hr)) F); all_goals have hcr : gC (aM (a * b % c)) [.v (.int .u64 0), .v (.int .u64 0), .v (.int .u64 0), .v (.int .u64 0)] = decide (a * b % c = 0) := k8 (x := ⟨a * b % c, Nat.lt_of_lt_of_le (Nat.mod_lt _ (by omega)) (Nat.le_of_lt hc)⟩)
   all_goals replace F := aF hq (And.intro hr (And.intro hcr F))
   all_goals
    refine sr fun _ hJ10 => ?_; refine ca (c := LM hqP) (k := ?_); rintro _ _ ⟨rfl, rfl⟩; (try simp [F]); apply hJ10; refine sq fun K11 hK11 => ?_; refine sr fun _ hJ13 => ?_; refine gs 33 (fun g5_2 => ?_) (fun g5_2 => ?_)
    · try exact aK g5_2
      all_goals
       replace F := aF g5_2 F; refine go2 (k := ?_); refine gs 36 (fun g5_5 => ?_) (fun g5_5 => ?_)
       · try exact aK g5_5
         all_goals
          replace F := aF g5_5 F; (iterate 3 refine go2 (k := ?_)); apply hJ13; refine cs (fun c40 => ?_) (fun c40 => ?_)
          · try exact aK c40
            all_goals
             replace F := aF c40 F; refine sq fun K14 hK14 => ?_
             refine bI (by kernel_rfl) fun J15 hJ15 => ?_
             refine q2 0 ?_
             refine dc 1 rfl (c := iW (n := 1) (by decide)) (k := ?_)
             rintro _ _ ⟨rfl, rfl⟩
             refine ⟨by first | exact fun _ _ h => h | (refine aH [0] (by kernel_rfl) ?_; (repeat' first | exact ln2 | refine lc ?_ ?_) <;> constructor <;> first | rfl | (simp [F]; done)), ?_⟩
             try simp [F]
             refine dc 2 rfl (c := BM (x := a * b / c) (y := 1) hq (by decide)) (k := ?_)
             rintro _ _ ⟨rfl, rfl⟩; refine ⟨ln, ?_⟩; (try simp [F]); refine q2 3 ?_; refine q2 4 ?_; refine dop 5 rfl ?_; (try simp [F]); refine ⟨ln, ?_⟩; refine q2 6 ?_; refine dd ?_; apply hJ15; apply hK14; refine bQ ?_; (try simp only [eD, bG, bV]); refine gY (h := ?_); exact gcr
          try exact aK c40
          all_goals
           replace F := aF c40 F; refine aA ?_; apply hK11; refine sr fun _ hJ17 => ?_; apply hJ17; refine bQ ?_; (try simp only [eD, bG, bV]); refine gY (h := ?_); exact gcr
       try exact aK g5_5
       all_goals
        replace F := aF g5_5 F; (iterate 3 refine no2 (k := ?_)); apply hJ13; refine cf ?_; refine aA ?_; apply hK11; refine sr fun _ hJ19 => ?_; apply hJ19; refine bQ ?_; (try simp only [eD, bG, bV]); refine gY (h := ?_); exact gcr
    try exact aK g5_2
    all_goals
     replace F := aF g5_2 F; (iterate 4 refine no2 (k := ?_)); apply hJ13; refine cf ?_; refine aA ?_; apply hK11; refine sr fun _ hJ21 => ?_; apply hJ21; refine bQ ?_; (try simp only [eD, bG, bV]); refine gY (h := ?_); exact gcr
  case cx8 =>
   intro K8 hK8
   refine bI (by kernel_rfl) fun J22 hJ22 => ?_
   refine q2 0 ?_; refine q2 1 ?_; refine q2 3 ?_; refine d3 2 8 9 ?_ ?_ ?_
   · refine ac 2 rfl (c := qE ha hb) (k := ?_); rintro _ _ ⟨rfl, rfl⟩
     refine ⟨by first | exact fun _ _ h => h | (refine aH [3] (by kernel_rfl) ?_; (repeat' first | exact ln2 | refine lc ?_ ?_) <;> constructor <;> first | rfl | (simp [F]; done)), ?_⟩
     (try simp [F]); refine d3 4 8 9 ?_ ?_ ?_
     · refine ac 4 rfl (c := rG hP hc (by omega)) (k := ?_)
       rintro _ _ ⟨rfl, rfl⟩; refine ⟨ln, ?_⟩; (try simp [F]); refine q2 5 ?_; refine q2 6 ?_; refine q2 7 ?_; refine d2 8 9 ?_ ?_
       · refine ao 8 rfl ?_; try simp [F]
         refine ⟨cE (by kernel_rfl), ?_⟩
         refine dop 9 rfl ?_; try simp [F]
         refine ⟨cE (by kernel_rfl), ?_⟩
         refine dop 10 rfl ?_; try simp [F]
         refine ⟨cE (by kernel_rfl), ?_⟩
         refine dop 11 rfl ?_; (try simp [F]); refine ⟨ln, ?_⟩; refine dd ?_; apply hJ22
         first | refine hK8 (true) _ _ ⟨kp, lp, lp, lp⟩ | refine hK8 (false) _ _ ⟨kp, lp, lp, lp⟩
       · refine ao 9 rfl ?_; try simp [F]
         refine ⟨cE (by kernel_rfl), ?_⟩
         refine dop 8 rfl ?_; try simp [F]
         refine ⟨cE (by kernel_rfl), ?_⟩
         refine dop 10 rfl ?_; try simp [F]
         refine ⟨cE (by kernel_rfl), ?_⟩
         refine dop 11 rfl ?_; (try simp [F]); refine ⟨ln, ?_⟩; refine dd ?_; apply hJ22
         first | refine hK8 (true) _ _ ⟨kp, lp, lp, lp⟩ | refine hK8 (false) _ _ ⟨kp, lp, lp, lp⟩
     · refine ao 8 rfl ?_; try simp [F]
       refine ⟨by first | exact cH _ (by kernel_rfl) | exact bT (by kernel_rfl) rfl, ?_⟩
       refine d2 4 9 ?_ ?_
       · refine ac 4 rfl (c := rG hP hc (by omega)) (k := ?_)
         rintro _ _ ⟨rfl, rfl⟩; refine ⟨ln, ?_⟩; (try simp [F]); refine q2 5 ?_; refine q2 6 ?_; refine q2 7 ?_; refine dop 9 rfl ?_; try simp [F]
         refine ⟨cE (by kernel_rfl), ?_⟩
         refine dop 10 rfl ?_; try simp [F]
         refine ⟨cE (by kernel_rfl), ?_⟩
         refine dop 11 rfl ?_; (try simp [F]); refine ⟨ln, ?_⟩; refine dd ?_; apply hJ22
         first | refine hK8 (true) _ _ ⟨kp, lp, lp, lp⟩ | refine hK8 (false) _ _ ⟨kp, lp, lp, lp⟩
       · refine ao 9 rfl ?_; try simp [F]
         refine ⟨by first | exact cH _ (by kernel_rfl) | exact bT (by kernel_rfl) rfl, ?_⟩
         refine dc 4 rfl (c := rG hP hc (by omega)) (k := ?_)
         rintro _ _ ⟨rfl, rfl⟩; refine ⟨ln, ?_⟩; (try simp [F]); refine q2 5 ?_; refine q2 6 ?_; refine q2 7 ?_; refine dop 10 rfl ?_; try simp [F]
         refine ⟨cE (by kernel_rfl), ?_⟩
         refine dop 11 rfl ?_; (try simp [F]); refine ⟨ln, ?_⟩; refine dd ?_; apply hJ22
         first | refine hK8 (true) _ _ ⟨kp, lp, lp, lp⟩ | refine hK8 (false) _ _ ⟨kp, lp, lp, lp⟩
     · refine ao 9 rfl ?_; try simp [F]
       refine ⟨by first | exact cH _ (by kernel_rfl) | exact bT (by kernel_rfl) rfl, ?_⟩
       refine d2 4 8 ?_ ?_
       · refine ac 4 rfl (c := rG hP hc (by omega)) (k := ?_)
         rintro _ _ ⟨rfl, rfl⟩; refine ⟨ln, ?_⟩; (try simp [F]); refine q2 5 ?_; refine q2 6 ?_; refine q2 7 ?_; refine dop 8 rfl ?_; try simp [F]
         refine ⟨cE (by kernel_rfl), ?_⟩
         refine dop 10 rfl ?_; try simp [F]
         refine ⟨cE (by kernel_rfl), ?_⟩
         refine dop 11 rfl ?_; (try simp [F]); refine ⟨ln, ?_⟩; refine dd ?_; apply hJ22
         first | refine hK8 (true) _ _ ⟨kp, lp, lp, lp⟩ | refine hK8 (false) _ _ ⟨kp, lp, lp, lp⟩
       · refine ao 8 rfl ?_; try simp [F]
         refine ⟨by first | exact cH _ (by kernel_rfl) | exact bT (by kernel_rfl) rfl, ?_⟩
         refine dc 4 rfl (c := rG hP hc (by omega)) (k := ?_)
         rintro _ _ ⟨rfl, rfl⟩; refine ⟨ln, ?_⟩; (try simp [F]); refine q2 5 ?_; refine q2 6 ?_; refine q2 7 ?_; refine dop 10 rfl ?_; try simp [F]
         refine ⟨cE (by kernel_rfl), ?_⟩
         refine dop 11 rfl ?_; (try simp [F]); refine ⟨ln, ?_⟩; refine dd ?_; apply hJ22
         first | refine hK8 (true) _ _ ⟨kp, lp, lp, lp⟩ | refine hK8 (false) _ _ ⟨kp, lp, lp, lp⟩
   · refine ao 8 rfl ?_; try simp [F]
     refine ⟨by first | exact cH _ (by kernel_rfl) | exact bT (by kernel_rfl) rfl, ?_⟩
     refine d2 2 9 ?_ ?_
     · refine ac 2 rfl (c := qE ha hb) (k := ?_); rintro _ _ ⟨rfl, rfl⟩
       refine ⟨by first | exact fun _ _ h => h | (refine aH [3] (by kernel_rfl) ?_; (repeat' first | exact ln2 | refine lc ?_ ?_) <;> constructor <;> first | rfl | (simp [F]; done)), ?_⟩
       (try simp [F]); refine d2 4 9 ?_ ?_
       · refine ac 4 rfl (c := rG hP hc (by omega)) (k := ?_)
         rintro _ _ ⟨rfl, rfl⟩; refine ⟨ln, ?_⟩; (try simp [F]); refine q2 5 ?_; refine q2 6 ?_; refine q2 7 ?_; refine dop 9 rfl ?_; try simp [F]
         refine ⟨cE (by kernel_rfl), ?_⟩
         refine dop 10 rfl ?_; try simp [F]
         refine ⟨cE (by kernel_rfl), ?_⟩
         refine dop 11 rfl ?_; (try simp [F]); refine ⟨ln, ?_⟩; refine dd ?_; apply hJ22
         first | refine hK8 (true) _ _ ⟨kp, lp, lp, lp⟩ | refine hK8 (false) _ _ ⟨kp, lp, lp, lp⟩
       · refine ao 9 rfl ?_; try simp [F]
         refine ⟨by first | exact cH _ (by kernel_rfl) | exact bT (by kernel_rfl) rfl, ?_⟩
         refine dc 4 rfl (c := rG hP hc (by omega)) (k := ?_)
         rintro _ _ ⟨rfl, rfl⟩; refine ⟨ln, ?_⟩; (try simp [F]); refine q2 5 ?_; refine q2 6 ?_; refine q2 7 ?_; refine dop 10 rfl ?_; try simp [F]
         refine ⟨cE (by kernel_rfl), ?_⟩
         refine dop 11 rfl ?_; (try simp [F]); refine ⟨ln, ?_⟩; refine dd ?_; apply hJ22
         first | refine hK8 (true) _ _ ⟨kp, lp, lp, lp⟩ | refine hK8 (false) _ _ ⟨kp, lp, lp, lp⟩
     · refine ao 9 rfl ?_; try simp [F]
       refine ⟨by first | exact cH _ (by kernel_rfl) | exact bT (by kernel_rfl) rfl, ?_⟩
       refine dc 2 rfl (c := qE ha hb) (k := ?_); rintro _ _ ⟨rfl, rfl⟩
       refine ⟨by first | exact fun _ _ h => h | (refine aH [3] (by kernel_rfl) ?_; (repeat' first | exact ln2 | refine lc ?_ ?_) <;> constructor <;> first | rfl | (simp [F]; done)), ?_⟩
       try simp [F]
       refine dc 4 rfl (c := rG hP hc (by omega)) (k := ?_)
       rintro _ _ ⟨rfl, rfl⟩; refine ⟨ln, ?_⟩; (try simp [F]); refine q2 5 ?_; refine q2 6 ?_; refine q2 7 ?_; refine dop 10 rfl ?_; try simp [F]
       refine ⟨cE (by kernel_rfl), ?_⟩
       refine dop 11 rfl ?_; (try simp [F]); refine ⟨ln, ?_⟩; refine dd ?_; apply hJ22
       first | refine hK8 (true) _ _ ⟨kp, lp, lp, lp⟩ | refine hK8 (false) _ _ ⟨kp, lp, lp, lp⟩
   · refine ao 9 rfl ?_; try simp [F]
     refine ⟨by first | exact cH _ (by kernel_rfl) | exact bT (by kernel_rfl) rfl, ?_⟩
     refine d2 2 8 ?_ ?_
     · refine ac 2 rfl (c := qE ha hb) (k := ?_); rintro _ _ ⟨rfl, rfl⟩
       refine ⟨by first | exact fun _ _ h => h | (refine aH [3] (by kernel_rfl) ?_; (repeat' first | exact ln2 | refine lc ?_ ?_) <;> constructor <;> first | rfl | (simp [F]; done)), ?_⟩
       (try simp [F]); refine d2 4 8 ?_ ?_
       · refine ac 4 rfl (c := rG hP hc (by omega)) (k := ?_)
         rintro _ _ ⟨rfl, rfl⟩; refine ⟨ln, ?_⟩; (try simp [F]); refine q2 5 ?_; refine q2 6 ?_; refine q2 7 ?_; refine dop 8 rfl ?_; try simp [F]
         refine ⟨cE (by kernel_rfl), ?_⟩
         refine dop 10 rfl ?_; try simp [F]
         refine ⟨cE (by kernel_rfl), ?_⟩
         refine dop 11 rfl ?_; (try simp [F]); refine ⟨ln, ?_⟩; refine dd ?_; apply hJ22
         first | refine hK8 (true) _ _ ⟨kp, lp, lp, lp⟩ | refine hK8 (false) _ _ ⟨kp, lp, lp, lp⟩
       · refine ao 8 rfl ?_; try simp [F]
         refine ⟨by first | exact cH _ (by kernel_rfl) | exact bT (by kernel_rfl) rfl, ?_⟩
         refine dc 4 rfl (c := rG hP hc (by omega)) (k := ?_)
         rintro _ _ ⟨rfl, rfl⟩; refine ⟨ln, ?_⟩; (try simp [F]); refine q2 5 ?_; refine q2 6 ?_; refine q2 7 ?_; refine dop 10 rfl ?_; try simp [F]
         refine ⟨cE (by kernel_rfl), ?_⟩
         refine dop 11 rfl ?_; (try simp [F]); refine ⟨ln, ?_⟩; refine dd ?_; apply hJ22
         first | refine hK8 (true) _ _ ⟨kp, lp, lp, lp⟩ | refine hK8 (false) _ _ ⟨kp, lp, lp, lp⟩
     · refine ao 8 rfl ?_; try simp [F]
       refine ⟨by first | exact cH _ (by kernel_rfl) | exact bT (by kernel_rfl) rfl, ?_⟩
       refine dc 2 rfl (c := qE ha hb) (k := ?_); rintro _ _ ⟨rfl, rfl⟩
       refine ⟨by first | exact fun _ _ h => h | (refine aH [3] (by kernel_rfl) ?_; (repeat' first | exact ln2 | refine lc ?_ ?_) <;> constructor <;> first | rfl | (simp [F]; done)), ?_⟩
       try simp [F]
       refine dc 4 rfl (c := rG hP hc (by omega)) (k := ?_)
       rintro _ _ ⟨rfl, rfl⟩; refine ⟨ln, ?_⟩; (try simp [F]); refine q2 5 ?_; refine q2 6 ?_; refine q2 7 ?_; refine dop 10 rfl ?_; try simp [F]
       refine ⟨cE (by kernel_rfl), ?_⟩
       refine dop 11 rfl ?_; (try simp [F]); refine ⟨ln, ?_⟩; refine dd ?_; apply hJ22
       first | refine hK8 (true) _ _ ⟨kp, lp, lp, lp⟩ | refine hK8 (false) _ _ ⟨kp, lp, lp, lp⟩
attribute [local simp] fS dX in
theorem mQ {σ : St} {l : List bD} {d : UInt8} {tl : eO} (hl : l.length ≤ 9223372036854775807) :
  aE Tryz.prog 48 [.sl 5 (aL l) l.length tl, .v (.int .u8 d.toNat)] σ (fun av σ' => av = .agg (aM (amt l d.toNat)) ∧ σ = σ') := by
 refine aU ?_ rfl
 have F := True.intro
 refine aB Tryz.func48 rfl rfl rfl ?_; refine sr fun _ hJ2 => ?_; apply hJ2; refine sq fun K3 hK3 => ?_; refine sr fun _ hJ5 => ?_; apply hJ5; refine aD ?_; refine fA (X := Nat) [1, 4, 7, 8] (fun i ρ σ1 => (i ≤ l.length) ∧ (amt l d.toNat = amt (l.drop i) d.toNat) ∧ (ρ 9 = .v (.int .i64 i)) ∧ (σ1 = { σ with objs := σ.objs ++ [aM 0] })) (fun i => l.length - i) (0) ?st1 ?rd1
 case st1 =>
  refine ⟨lp, lp, lp, ?_⟩
  · rfl
 case rd1 =>
  rintro i ρ1 σ1 hF1 ⟨hi, hA, h9, hσ⟩; obtain rfl := hσ.symm
  have f1 := dU hF1
  (try simp [dT, F] at f1); replace F := aF h9 F; (try replace F := aF f1 F); refine sr fun _ hJ7 => ?_; apply hJ7; refine sq fun K8 hK8 => ?_; refine cs (fun c10 => ?_) (fun c10 => ?_)
  · all_goals
     replace F := aF c10 F; refine aA ?_; apply hK8; refine sq fun K9 hK9 => ?_; refine aD ?_; refine sq fun K10 hK10 => ?_
     have hlt : i < l.length := by simp at c10; omega
     have hat := gG hlt
     simp only [dX] at hat
     have hb1 : i * 5 + 5 ≤ l.length * 5 := by omega
     have hcons : l.drop i = l[i] :: l.drop (i + 1) := List.drop_eq_getElem_cons hlt
     replace F := aF hat F; replace F := aF hb1 F; refine rg' (h := fun J11 hJ11 => ?_); apply hJ11; apply hK10; refine sr fun _ hJ13 => ?_; apply hJ13; refine cs (fun c16 => ?_) (fun c16 => ?_)
     · all_goals
        replace F := aF c16 F
        have hd : l[i].d.toNat = d.toNat := by have h := c16; simp at h; first | omega | (subst h; rfl) | (rw [h])
        have hA2 : amt l d.toNat = l[i].n.v := by rw [hA, hcons]; unfold amt; rw [if_pos hd]
        replace F := aF hA2 F; refine sr fun _ hJ15 => ?_; apply hJ15; refine bQ ?_; (try simp only [eD, bG, bV]); refine j1 (h := ?_); exact gcr
     all_goals
      replace F := aF c16 F
      have hd : ¬ l[i].d.toNat = d.toNat := by have h := c16; simp at h; first | omega | (intro e; exact h (UInt8.toNat_inj.1 e))
      refine aA ?_; apply hK9; refine rg' (h := fun J16 hJ16 => ?_); apply hJ16; refine ⟨gk, (i + 1), ⟨kpG, lpG, ?_, lpG, lpG⟩, lpG⟩
      · rw [hA, hcons]
        exact if_neg hd
  all_goals
   replace F := aF c10 F
   have hend : amt l d.toNat = 0 := by rw [hA, List.drop_of_length_le (by simp at c10; omega)]; rfl
   replace F := aF hend F; refine bJ ?_; apply hK3; refine sr fun _ hJ18 => ?_; apply hJ18; refine bQ ?_; (try simp only [eD, bG, bV]); refine j1 (h := ?_); exact gcr
theorem iF {σ : St} {d : UInt8} {n : Num} :
  aE Tryz.prog 49 [.v (.int .u8 d.toNat), .agg (aM n.v)] σ (fun av σ' => av = .sl 5 (aL (j4 d n)) (j4 d n).length .shut ∧ σ = σ') := by
 refine aU ?_ (by simp [AV.under])
 have hR : bA [⟨d, n⟩] ↔ d.toNat < 8 ∧ n.v ≠ 0 := by simp [bA]
 have hc : .v (.int .u8 (d.toNat : Int)) :: aM n.v = aL [⟨d, n⟩] := by simp [aL, dX]
 have hdr : ∀ f : Nat → AV, List.drop 5 (List.map f (List.range 5)) = [] := fun _ => rfl
 have F := And.intro hc (And.intro hdr (True.intro))
 refine aB Tryz.func49 rfl rfl rfl ?_; refine sr fun _ hJ2 => ?_; apply hJ2; refine sq fun K3 hK3 => ?_; refine sr fun _ hJ5 => ?_; apply hJ5; refine sr fun _ hJ7 => ?_
 refine ca (c := tC (l := [⟨d, n⟩]) (by simp)) (k := ?_)
 rintro _ _ ⟨rfl, rfl⟩; (try simp [F]); apply hJ7; refine cs (fun c11 => ?_) (fun c11 => ?_)
 · all_goals
    replace F := aF c11 F
    have hr : j4 d n = [⟨d, n⟩] := if_pos (hR.1 (by simpa using c11))
    replace F := aF hr F; refine sr fun _ hJ9 => ?_; apply hJ9; refine ra ?_; exact gcr
 all_goals
  replace F := aF c11 F
  have hr : j4 d n = [] := if_neg (fun h => by have := hR.2 h; simp [this] at c11)
  replace F := aF hr F; refine aA ?_; apply hK3; refine sr fun _ hJ11 => ?_; apply hJ11; refine ra ?_; exact gcr
def FnA (fid : FuncId) (caps : List AV) (F : Nat → Nat → Nat × Nat) : Prop :=
 ∀ (σ : St) (x y : Nat), x < 2 ^ 256 → y < 2 ^ 256 → aE Tryz.prog fid ([.agg (aM x), .agg (aM y)] ++ caps) σ (fun av σ' => av = .tup [.agg (aM (F x y).1), .v (.int .i64 ((F x y).2 : Nat))] ∧ σ = σ')
theorem E6 {σ : St} {a b : List bD} {ta tb : eO} {fid : FuncId} {caps : List AV} {Fn : Nat → Nat → Nat × Nat} (ha : a.length ≤ 9223372036854775807) (hb : b.length ≤ 9223372036854775807) (hcb : eG Tryz.prog fid = true) (hF : FnA fid caps Fn) (hcp : ∀ n, bM n caps = true)
  (hFl : ∀ x y, x < 2 ^ 256 → y < 2 ^ 256 → (Fn x y).1 < 2 ^ 256) :
  aE Tryz.prog 71 [.sl 5 (aL a) a.length ta, .sl 5 (aL b) b.length tb, .fn fid caps] σ (fun av σ' => av = .tup [.sl 5 (aL (qF Fn a b)) (qF Fn a b).length .shut, .v (.int .i64 (jQ Fn a b 8 : Nat))] ∧ σ = σ') := by
 refine aU ?_ (by simp [AV.under, bB])
 obtain ⟨fl, hfl⟩ : ∃ fl : Nat → Nat, fl = fun d => (Fn (amt a d) (amt b d)).1 := ⟨_, rfl⟩
 have F := And.intro hcp (And.intro hcb (True.intro))
 refine aB Tryz.func71 rfl rfl rfl ?_; refine sr fun _ hJ2 => ?_; apply hJ2; refine sr fun _ hJ4 => ?_; apply hJ4; refine sq fun K5 hK5 => ?_; refine sr fun _ hJ7 => ?_; apply hJ7; refine aD ?_; refine fA (X := Nat) [0, 1, 2] (fun d ρ σ1 => (d ≤ 8) ∧ (jQ Fn a b d = 0) ∧ (ρ 8 = grA σ.toks.length 5 (iS d) (aL (fR fl d)) (fR fl d).length) ∧ (ρ 12 = .v (.int .u8 d)) ∧ (σ1 = { σ with toks := σ.toks ++ grT (iS d) (fR fl d).length })) (fun d => 8 - d) (0) ?st1 ?rd1
 case st1 =>
  refine ⟨lp, ?_, lp, lp, lp⟩
  · rfl
 case rd1 =>
  rintro d ρ1 σ1 hF1 ⟨hd, hE, h8, h12, hσ⟩; obtain rfl := hσ.symm
  have f1 := dU hF1
  (try simp [dT, F] at f1); replace F := aF h8 F; replace F := aF h12 F; (try replace F := aF f1 F); refine sr fun _ hJ9 => ?_; apply hJ9; refine sq fun K10 hK10 => ?_; refine cs (fun c13 => ?_) (fun c13 => ?_)
  · all_goals
     replace F := aF c13 F; refine aA ?_; apply hK10; refine sq fun K11 hK11 => ?_; refine aD ?_; refine sq fun K12 hK12 => ?_
     have hd8 : d < 8 := by simp at c13; omega
     obtain ⟨D, rfl⟩ : ∃ D : UInt8, d = D.toNat := ⟨UInt8.ofNat d, (mW (by omega)).symm⟩
     have hfD : fl D.toNat < 2 ^ 256 := by rw [hfl]; exact hFl _ _ (gD _ _) (gD _ _)
     have hnum : (Fn (amt a D.toNat) (amt b D.toNat)).1 = (Num.of (fl D.toNat)).v := by rw [Num.qA hfD, hfl]
     obtain ⟨L, hL⟩ : ∃ L, L = fR fl D.toNat := ⟨_, rfl⟩
     obtain ⟨M, hM⟩ : ∃ M, M = j4 D (Num.of (fl D.toNat)) := ⟨_, rfl⟩
     have hnx : fR fl (D.toNat + 1) = L ++ M := by rw [hL, hM]; exact IQ hd8 hfD
     have hLl : L.length ≤ 8 := by rw [hL]; exact Nat.le_trans (tT _ _) hd
     have hMl : M.length ≤ 1 := by rw [hM]; unfold j4; split <;> simp
     rw [← hL] at h8 F
     rw [← hL]
     have hb0 : iS D.toNat = false → aL L = [] ∧ L.length = 0 := fun h => by rw [hL, kH h]; simp [fR]
     have happ : ∀ objs, dG Tryz.prog 23 (grA σ.toks.length 5 (iS D.toNat) (aL L) L.length) (.sl 5 (aL M) M.length .shut) ⟨objs, σ.toks ++ grT (iS D.toNat) L.length, σ.gl, σ.rows⟩ = some (grA σ.toks.length 5 true (aL L ++ aL M) (L.length + M.length), ⟨objs, σ.toks ++ grT true (L.length + M.length), σ.gl, σ.rows⟩) := fun objs => kM elemT_23 ti_38 (by decide) rfl hb0 (.inl rfl) (by simp [gH]; omega) (by simp [maxLen]; omega)
     replace F := aF hnum (And.intro happ F); refine rg' (h := fun J13 hJ13 => ?_); apply hJ13; apply hK12; refine sr fun _ hJ15 => ?_; refine ca (c := mQ (l := a) (d := D) ha) (k := ?_); rintro _ _ ⟨rfl, rfl⟩; (try simp [F]); refine ca (c := mQ (l := b) (d := D) hb) (k := ?_); rintro _ _ ⟨rfl, rfl⟩; (try simp [F]); refine ca (c := hF _ _ _ (gD _ _) (gD _ _)) (k := ?_); rintro _ _ ⟨rfl, rfl⟩; (try simp [F]); apply hJ15; refine sq fun K16 hK16 => ?_; refine sr fun _ hJ18 => ?_; apply hJ18; refine cs (fun c27 => ?_) (fun c27 => ?_)
     · all_goals
        replace F := aF c27 F
        have he0 : ¬ (Fn (amt a D.toNat) (amt b D.toNat)).2 = 0 := by have h := c27; simp at h; omega
        have e1 : jQ Fn a b (D.toNat + 1) = (Fn (amt a D.toNat) (amt b D.toNat)).2 := by simp only [jQ, hE, ne_eq, not_true_eq_false, if_false]
        have e8 : jQ Fn a b 8 = (Fn (amt a D.toNat) (amt b D.toNat)).2 := by have := zL (F := Fn) (a := a) (b := b) (d := D.toNat + 1) (by rw [e1]; exact he0) (8 - (D.toNat + 1)); rw [show D.toNat + 1 + (8 - (D.toNat + 1)) = 8 by omega] at this; rw [this, e1]
        have eL : qF Fn a b = [] := by unfold qF; rw [if_neg (by rw [e8]; exact he0)]
        replace F := aF e8 (And.intro eL F); refine sr fun _ hJ20 => ?_; apply hJ20; refine bQ ?_; (try simp only [eD, bG, bV]); refine fV rfl (.inr rfl) ?_
        rw [e8, eL]
        exact gcr (hA := WkL.tup (.cons (Wk.nil _ _ _) (.cons (Wk.refl _) .nil)))
     all_goals
      replace F := aF c27 F
      have he0 : (Fn (amt a D.toNat) (amt b D.toNat)).2 = 0 := by have h := c27; simp at h; omega
      refine aA ?_; apply hK16; refine rg' (h := fun J21 hJ21 => ?_); refine ca (c := (hM ▸ iF (d := D) (n := Num.of (fl D.toNat)))) (k := ?_); rintro _ _ ⟨rfl, rfl⟩; (try simp [F]); apply hJ21; apply hK11; refine rg' (h := fun J22 hJ22 => ?_); apply hJ22; refine ⟨gk, (D.toNat + 1), ⟨kpG, lpG, ?_, ?_, lpG, ?_⟩, lpG⟩
      · simp only [jQ, hE, ne_eq, not_true_eq_false, if_false]
        exact he0
      · rw [hnx, ← cX]
        simp [F, AV.gcO, cP]
      · rw [hnx]
        simp [F, St.fU]
  all_goals
   replace F := aF c13 F
   obtain rfl : d = 8 := by simp at c13; omega
   have eL : qF Fn a b = fR fl 8 := by unfold qF; rw [if_pos hE, hfl]
   replace F := aF hE (And.intro eL F); refine bJ ?_; apply hK5; refine sr fun _ hJ24 => ?_; apply hJ24; refine bQ ?_; (try simp only [eD, bG, bV]); refine fV rfl (.inr rfl) ?_
   rw [hE, eL]
   exact gcr (hA := WkL.tup (.cons (by simp only [aP]; simp [F]; first | exact Wk.shut _ _ _ _ | exact rJ (b := true) (fun h => absurd h (by decide))) (.cons (Wk.refl _) .nil)))
theorem JF : FnA 72 [] (fun x y => (nH x y, r8 x y)) := fun σ x y hx hy => BM hx hy
theorem HY {σ : St} {x y : Nat} {fid : FuncId} {Fn : Nat → Nat → Nat} (hcb : eG Tryz.prog fid = true) (hf : ∀ (σ : St) (x y : Nat), x < 2 ^ 256 → y < 2 ^ 256 → aE Tryz.prog fid [.agg (aM x), .agg (aM y)] σ (fun av σ' => av = .agg (aM (Fn x y)) ∧ σ = σ')) (hx : x < 2 ^ 256) (hy : y < 2 ^ 256) :
  aE Tryz.prog 127 [.agg (aM x), .agg (aM y), .ep [.fn fid []]] σ (fun av σ' => av = .tup [.agg (aM (Fn x y)), .v (.int .i64 0)] ∧ σ = σ') := by
 refine aU ?_ (by simp [AV.under, bB])
 have F := And.intro hcb (True.intro)
 refine aB Tryz.func127 rfl rfl rfl ?_; refine sr fun _ hJ2 => ?_; apply hJ2; refine sr fun _ hJ4 => ?_; refine ca (c := hf _ _ _ hx hy) (k := ?_); rintro _ _ ⟨rfl, rfl⟩; (try simp [F]); apply hJ4; refine bQ ?_; (try simp only [eD, bG, bV]); refine gY (h := ?_); exact gcr
theorem IN {σ : St} {fid : FuncId} :
  aE Tryz.prog 107 [.fn fid []] σ (fun av σ' => av = .fn 127 [.ptr σ.objs.length 0] ∧ σ' = { σ with objs := σ.objs ++ [[.fn fid []]] }) := by
 have F := True.intro
 refine aB Tryz.func107 rfl rfl rfl ?_; refine sr fun _ hJ2 => ?_; apply hJ2; refine sr fun _ hJ4 => ?_; apply hJ4; refine ra ?_; exact rt
theorem JJ {σ : St} {fid : FuncId} : aE Tryz.prog 107 [.fn fid []] σ (fun av σ' => av = .fn 127 [.ep [.fn fid []]] ∧ σ = σ') :=
 nZ IN (by simp) rfl
theorem Jy : FnA 127 [.ep [.fn 80 []]] (fun x y => (x - y, 0)) := fun σ x y hx hy =>
 HY (Fn := fun x y => x - y) (by simp) (fun σ x y hx hy => zE hx hy) hx hy
theorem B2 {σ : St} {a b : List bD} {ta tb : eO} (ha : a.length ≤ 9223372036854775807) (hb : b.length ≤ 9223372036854775807) :
  aE Tryz.prog 37 [.sl 5 (aL a) a.length ta, .sl 5 (aL b) b.length tb] σ (fun av σ' => av = .tup [.sl 5 (aL (iN a b)) (iN a b).length .shut, .v (.int .i64 (iD a b : Nat))] ∧ σ = σ') := by
 have F := True.intro
 refine aB Tryz.func37 rfl rfl rfl ?_; refine sr fun _ hJ2 => ?_; apply hJ2; refine sr fun _ hJ4 => ?_
 refine ca (c := E6 ha hb (by simp) JF (fun _ ↦ rfl) (fun x y _ _ ↦ JH x y)) (k := ?_)
 rintro _ _ ⟨rfl, rfl⟩; (try simp [F]); apply hJ4; refine bQ ?_; (try simp only [eD, bG, bV]); refine fV rfl (.inr rfl) ?_; exact ⟨rfl, rfl⟩
theorem Ib {σ : St} {a b : List bD} {ta tb : eO} (ha : a.length ≤ 9223372036854775807) (hb : b.length ≤ 9223372036854775807) :
  aE Tryz.prog 78 [.sl 5 (aL a) a.length ta, .sl 5 (aL b) b.length tb] σ (fun av σ' => av = .sl 5 (aL (kA a b)) (kA a b).length .shut ∧ σ = σ') := by
 have F := True.intro
 refine aB Tryz.func78 rfl rfl rfl ?_; refine sr fun _ hJ2 => ?_; apply hJ2; refine sr fun _ hJ4 => ?_; refine ca (c := JJ) (k := ?_); rintro _ _ ⟨rfl, rfl⟩; try simp [F]
 refine ca (c := E6 ha hb (by simp) Jy (fun _ ↦ rfl) (fun x y hx _ ↦ Nat.lt_of_le_of_lt (Nat.sub_le _ _) hx)) (k := ?_)
 rintro _ _ ⟨rfl, rfl⟩; (try simp [F]); apply hJ4; refine sr fun _ hJ6 => ?_; apply hJ6; refine ra ?_; exact ⟨rfl, rfl⟩
end Go.Proofs.YtjpnjhlfieklfaaGreat
namespace Go.Vm
set_option exponentiation.threshold 600
open Go
theorem tQ {G : Gh} {w : World} {σ : St} (hS : dD G w σ) : ∃ G', Ext G w G' w ∧ dD G' w { σ with rows := σ.rows ++ [⟨0, [], none⟩] } ∧ G'.rw σ.rows.length = some (0, 0, 0, 0) := by
 let G' : Gh := { G with rw := fun i' => if i' = σ.rows.length then some (0, 0, 0, 0) else G.rw i' }
 have hE : Ext G w G' w := by
  refine ⟨rfl, rfl, rfl, rfl, Nat.le_refl _, fun _ c _ _ h => ⟨c, h, rfl, fun _ _ => rfl⟩, fun _ _ h _ => h, fun _ _ h => h, fun _ _ _ h => h, fun _ _ h => h, fun _ m r h => ⟨m, r, h, Nat.le_refl _, fun _ => rfl⟩, fun q m r hq => ⟨m, r, ?_, Nat.le_refl _, fun _ => rfl⟩⟩
  show (if q = _ then _ else _) = _
  rw [if_neg (fun e => by subst e; exact Da hS _ hq)]; exact hq
 refine ⟨G', hE, ⟨?_, hS.inj, hS.tok, hS.fresh, fun g cs2 hg => (hS.gl g cs2 hg).mono hE, hS.tot, hS.totk, ?_, ?_⟩, if_pos rfl⟩
 · intro id b hp
   obtain ⟨c2, e2, cs2, h1, h2, h3, h4, h5⟩ := hS.obj id b hp
   exact ⟨c2, e2, cs2, h1, h2, h3, h4, fun j x a hx ha => (h5 j x a hx ha).mono hE⟩
 · intro q gc b o C hq
   have hq' : (if q = σ.rows.length then some (0, 0, 0, 0) else G.rw q) = some (gc, b, o, C) := hq
   by_cases hql : q = σ.rows.length
   · subst hql
     rw [if_pos rfl] at hq'
     cases hq'
     exact ⟨⟨0, [], none⟩, by simp, rfl, by simp, ⟨fun s e => (by cases e), fun h => (by omega)⟩⟩
   · rw [if_neg hql] at hq'
     obtain ⟨r, h1, h2, h3, h4, h5⟩ := hS.row q gc b o C hq'
     refine ⟨r, by show (σ.rows ++ _)[q]? = _; rw [List.getElem?_append_left (List.getElem?_eq_some_iff.1 h1).1]; exact h1, h2, h3, h4, fun hC => ?_⟩
     obtain ⟨c2, e2, g1, g2, g3, g4, g5⟩ := h5 hC
     exact ⟨c2, e2, g1, g2, g3, g4, fun j x a hx ha => (g5 j x a hx ha).mono hE⟩
 · intro q hq
   show ∃ p, (if q = σ.rows.length then some (0, 0, 0, 0) else G.rw q) = some p
   by_cases hql : q = σ.rows.length
   · rw [if_pos hql]; exact ⟨_, rfl⟩
   · rw [if_neg hql]; exact hS.totr q (by simp at hq; omega)
section
variable {z : kV} {P : Program} {N : Nat} {ρ : Nat → AV} {σ : St}
theorem Rel.MQ {G : Gh} {w : World} {a : Act} (hR : Rel N G w ρ σ a) {G' : Gh} {σ' : St} {ρ' : Nat → AV} (hE : Ext G w G' w) (hS : dD G' w σ') (he : ∀ i, AVR G' w (a.tmps.getD i undef) (ρ' i)) : Rel N G' w ρ' σ' a :=
 ⟨hS, ⟨hR.defers.1.mono hE, hR.defers.2.1, by rw [hE.base]; exact hR.defers.2.2⟩, hR.size, he⟩
theorem Ed {G : Gh} {w : World} {a : Act} (hR : Rel N G w ρ σ a) (d sz : Nat) {s : Nat} (h : ρ d = .sl s [] 0 .full) :
  ∃ G', Ext G w G' w ∧ Rel N G' w (eF ρ (some d) (.row σ.rows.length 0 0 sz 0)) { σ with rows := σ.rows ++ [⟨0, [], none⟩] } a := by
 obtain ⟨G', hE, hS, hrw⟩ := tQ hR.s
 refine ⟨G', hE, hR.MQ hE hS (fun i => ?_)⟩
 by_cases hi : i = d
 · subst hi
   have hx := hR.env i
   rw [h] at hx
   obtain ⟨ad, c, e1, e2⟩ := sG hx
   subst e2
   rw [e1]
   show AVR G' w _ (if i = i then _ else _)
   rw [if_pos rfl]
   exact .row hrw (Nat.le_refl _) (Nat.le_refl _) (fun h => (h rfl).elim) (fun _ => ⟨by simp, fun h => (h rfl).elim⟩)
 · show AVR G' w _ (if i = d then _ else _)
   rw [if_neg hi]
   exact (hR.env i).mono hE
theorem Ek {c : Code} {Q : Exit → (Nat → AV) → St → Prop} (d sz : Nat) {s : Nat} (h : ρ d = .sl s [] 0 .full := by first | rfl | (simp [F]; done))
  (k : Run z P N c (eF ρ (some d) (.row σ.rows.length 0 0 sz 0)) { σ with rows := σ.rows ++ [⟨0, [], none⟩] } Q) : Run z P N c ρ σ Q := fun G w a R hR hK => by
 obtain ⟨G', hE, hR'⟩ := Ed hR d sz h
 exact k G' w a R hR' (fun e ρ' σ' G2 a' w' hq hE2 hR2 => hK e ρ' σ' G2 a' w' hq (hE.trans hE2) hR2)
theorem xW {G : Gh} {w : World} {a : Act} (hR : Rel N G w ρ σ a) (d : Nat) {k g off sz n : Nat} {cells : List AV} {sp : Option Nat} (h : ρ d = .row k g off sz n) (hr : σ.rows[k]? = some ⟨g, cells, sp⟩) (hl : off + n * sz ≤ cells.length) :
  ∃ G', Ext G w G' w ∧ Rel N G' w (eF ρ (some d) (.sl sz ((cells.drop off).take (n * sz)) n .shut)) { σ with rows := σ.rows.set k ⟨g + 1, [], none⟩ } a := by
 obtain ⟨G1, e1, e2, e3⟩ := Df hR.s hr
 refine ⟨G1, e1, hR.MQ e1 (e3 σ.objs rfl (fun id cs ds h1 h2 => by rw [h1] at h2; cases h2; exact FrL.refl _)) (fun i => ?_)⟩
 by_cases hi : i = d
 · subst hi
   have hx := hR.env i
   rw [h] at hx
   show AVR G1 w _ (if i = i then _ else _)
   rw [if_pos rfl]
   exact e2 _ _ _ hx (.row hl)
 · show AVR G1 w _ (if i = d then _ else _)
   rw [if_neg hi]
   exact (hR.env i).mono e1
theorem run_freeze {c : Code} {Q : Exit → (Nat → AV) → St → Prop} (d : Nat) {k g off sz n : Nat} {cells : List AV} {sp : Option Nat} (h : ρ d = .row k g off sz n := by first | rfl | (simp [F]; done) | (simp [F]; exact ⟨rfl, rfl, rfl⟩) | (simp [F]; exact ⟨rfl, rfl, rfl, rfl, rfl⟩)) (hr : σ.rows[k]? = some ⟨g, cells, sp⟩ := by first | rfl | (simp [F]; done) | (simp [F]; rfl) | (simp [F]; exact ⟨rfl, rfl⟩) | (simp [F]; exact ⟨rfl, rfl, rfl⟩)) (hl : off + n * sz ≤ cells.length := by first | (simp [F]; done) | omega | (simp [F]; omega))
  (kk : Run z P N c (eF ρ (some d) (.sl sz ((cells.drop off).take (n * sz)) n .shut)) { σ with rows := σ.rows.set k ⟨g + 1, [], none⟩ } Q) : Run z P N c ρ σ Q := fun G w a R hR hK => by
 obtain ⟨G', hE, hR'⟩ := xW hR d h hr hl
 exact kk G' w a R hR' (fun e ρ' σ' G2 a' w' hq hE2 hR2 => hK e ρ' σ' G2 a' w' hq (hE.trans hE2) hR2)
theorem CA {ops : Array Oper} {l : List Oper} {K : (Nat → AV) → St → Prop} (d : Nat) {k g off sz n : Nat} {cells : List AV} {sp : Option Nat} (h : ρ d = .row k g off sz n := by first | rfl | (simp [F]; done) | (simp [F]; exact ⟨rfl, rfl, rfl⟩) | (simp [F]; exact ⟨rfl, rfl, rfl, rfl, rfl⟩)) (hr : σ.rows[k]? = some ⟨g, cells, sp⟩ := by first | rfl | (simp [F]; done) | (simp [F]; rfl) | (simp [F]; exact ⟨rfl, rfl⟩) | (simp [F]; exact ⟨rfl, rfl, rfl⟩)) (hl : off + n * sz ≤ cells.length := by first | (simp [F]; done) | omega | (simp [F]; omega))
  (kk : kI z P N ops l (eF ρ (some d) (.sl sz ((cells.drop off).take (n * sz)) n .shut)) { σ with rows := σ.rows.set k ⟨g + 1, [], none⟩ } K) : kI z P N ops l ρ σ K := fun G w a R hR hK => by
 obtain ⟨G', hE, hR'⟩ := xW hR d h hr hl
 exact kk G' w a R hR' (fun ρ' σ' G2 a' w' hq hE2 hR2 => hK ρ' σ' G2 a' w' hq (hE.trans hE2) hR2)
theorem vD {c : Code} {Q : Exit → (Nat → AV) → St → Prop} (d sz : Nat) {q g n : Nat} {cells : List AV} {sp : Option Nat} (h : ρ d = .row q g 0 sz n := by first | rfl | (simp [F]; done) | (simp [F]; exact ⟨rfl, rfl, rfl⟩) | (simp [F]; exact ⟨rfl, rfl, rfl, rfl, rfl⟩)) (hr : σ.rows[q]? = some ⟨g, cells, sp⟩ := by first | rfl | (simp [F]; done) | (simp [F]; rfl) | (simp [F]; exact ⟨rfl, rfl⟩) | (simp [F]; exact ⟨rfl, rfl, rfl⟩)) (hl : cells.length = n * sz := by first | (simp [F]; done) | omega | (simp [F]; omega))
  (k : Run z P N c (eF ρ (some d) (.sl sz cells n .shut)) { σ with rows := σ.rows.set q ⟨g + 1, [], none⟩ } Q) : Run z P N c ρ σ Q :=
 run_freeze d h hr (by omega) (by rw [List.drop_zero, List.take_of_length_le (by omega)]; exact k)
theorem Jj {ops : Array Oper} {l : List Oper} {K : (Nat → AV) → St → Prop} (d sz : Nat) {q g n : Nat} {cells : List AV} {sp : Option Nat} (h : ρ d = .row q g 0 sz n := by first | rfl | (simp [F]; done) | (simp [F]; exact ⟨rfl, rfl, rfl⟩) | (simp [F]; exact ⟨rfl, rfl, rfl, rfl, rfl⟩)) (hr : σ.rows[q]? = some ⟨g, cells, sp⟩ := by first | rfl | (simp [F]; done) | (simp [F]; rfl) | (simp [F]; exact ⟨rfl, rfl⟩) | (simp [F]; exact ⟨rfl, rfl, rfl⟩)) (hl : cells.length = n * sz := by first | (simp [F]; done) | omega | (simp [F]; omega))
  (k : kI z P N ops l (eF ρ (some d) (.sl sz cells n .shut)) { σ with rows := σ.rows.set q ⟨g + 1, [], none⟩ } K) : kI z P N ops l ρ σ K :=
 CA d h hr (by omega) (by rw [List.drop_zero, List.take_of_length_le (by omega)]; exact k)
theorem D9 {c : Code} {Q : Exit → (Nat → AV) → St → Prop} (q : Nat) {g : Nat} {cells : List AV} {sp : Option Nat} (hr : σ.rows[q]? = some ⟨g, cells, sp⟩ := by first | rfl | (simp [F]; done) | (simp [F]; rfl) | (simp [F]; exact ⟨rfl, rfl⟩) | (simp [F]; exact ⟨rfl, rfl, rfl⟩))
  (k : Run z P N c ρ { σ with rows := σ.rows.set q ⟨g, cells, none⟩ } Q) : Run z P N c ρ σ Q := fun G w a R hR hK => by
 have h0 : WkS { σ with rows := σ.rows.set q ⟨g, cells, sp⟩ } { σ with rows := σ.rows.set q ⟨g, cells, none⟩ } :=
  WkS.setRow ⟨rfl, Nat.le_refl _, by rw [List.take_length]; exact WkL.refl _, fun s h => by cases h⟩
 have e : ({ σ with rows := σ.rows.set q ⟨g, cells, sp⟩ } : St) = σ := by
  have : σ.rows.set q ⟨g, cells, sp⟩ = σ.rows := by
   apply List.ext_getElem?
   intro j
   by_cases hj : q = j
   · subst hj
     have hlt := (List.getElem?_eq_some_iff.1 hr).1
     rw [List.getElem?_set_self hlt, hr]
   · rw [List.getElem?_set_ne hj]
  rw [this]
 rw [e] at h0
 exact k G w a R ⟨hR.s.wk h0, hR.defers, hR.size, hR.env⟩ hK
theorem pA {f : FuncId} {args : List AV} {A : AV} {τ : St} (k : aE P f args σ (fun av σ' => av = A ∧ tY σ σ' ∧ σ.fU σ' = τ)) (hA : A.eM σ.objs.length = true) : aE P f args σ (fun av σ' => av = A ∧ σ' = τ) := by
 intro G w vs R hS hl hr hK
 refine k G w vs R hS hl hr (fun v av σ0 G' w' hq hE hS' hv => ?_)
 obtain ⟨rfl, hg, rfl⟩ := hq
 obtain ⟨h1, h2⟩ := hS.fU hS' hE hg
 exact hK v _ _ _ w' ⟨rfl, rfl⟩ h1 h2 (hv.kG hE hS.tot hA)
end
theorem gco {av A : AV} {σ σ' τ : St} (hA : av = A := by first | rfl | (simp [F]; done)) (hg : tY σ σ' := by exact gk) (ht : σ.fU σ' = τ := by first | rfl | (simp [F, St.fU]; done)) : av = A ∧ tY σ σ' ∧ σ.fU σ' = τ := ⟨hA, hg, ht⟩
theorem DA {b n x y : Nat} (hb : 0 < b) (h : x % b ^ n = y % b ^ n) : cR b n x = cR b n y := by
 have hy : cR b n (eA b (cR b n y)) = cR b n y := by
  have := uZ hb (iT (n := n) (x := y) hb)
  rwa [oJ] at this
 have hx : cR b n (eA b (cR b n x)) = cR b n x := by
  have := uZ hb (iT (n := n) (x := x) hb)
  rwa [oJ] at this
 rw [← hx, ← hy, e9, e9, h]
theorem lB {b : Nat} {L : List Nat} {i : Nat} (h : i < L.length) : eA b (L.take (i + 1)) = eA b (L.take i) + b ^ i * L[i] := by
 rw [jD h, vM]
 simp [Nat.min_eq_left (Nat.le_of_lt h)]
def crA (b : Nat) (L : List Nat) (i : Nat) : List Nat := cR b i (eA b (L.take i)) ++ L.drop i
def crO (b : Nat) (L : List Nat) (i : Nat) : Nat := eA b (L.take i) / b ^ i
theorem IM (b : Nat) (L : List Nat) : crA b L 0 = L := by simp [crA, cR]
theorem CW (b : Nat) (L : List Nat) : crO b L 0 = 0 := by simp [crO]
theorem EW {b : Nat} {L : List Nat} {i : Nat} (h : i ≤ L.length) : (crA b L i).length = L.length := by simp [crA]; omega
theorem JV {b : Nat} {L : List Nat} {i : Nat} (h : i < L.length) : (crA b L i)[i]? = some L[i] := by
 unfold crA
 rw [List.getElem?_append_right (by simp)]
 simp [h]
theorem Ct {b : Nat} {L : List Nat} {i : Nat} (hb : 0 < b) (h : i < L.length) : (crO b L i + L[i]) / b = crO b L (i + 1) := by
 unfold crO
 rw [lB h, Nat.pow_succ, ← Nat.div_div_eq_div_mul, Nat.add_mul_div_left _ _ (Nat.pow_pos hb)]
theorem I9 {b : Nat} {L : List Nat} {i : Nat} (hb : 0 < b) (h : i < L.length) : (crA b L i).set i ((crO b L i + L[i]) % b) = crA b L (i + 1) := by
 unfold crA crO
 rw [List.set_append_right _ _ (by simp), oT, lB h, Nat.add_mul_div_left _ _ (Nat.pow_pos hb)]
 have e : L.drop i = L[i] :: L.drop (i + 1) := List.drop_eq_getElem_cons h
 simp only [oJ, Nat.sub_self]
 rw [e, List.set_cons_zero, List.append_assoc]
 rw [DA hb (show (eA b (L.take i) + b ^ i * L[i]) % b ^ i = eA b (L.take i) % b ^ i from Nat.add_mul_mod_self_left ..)]
 rfl
theorem IE {b m : Nat} {L : List Nat} (hb : 2 ≤ b) (hL : ∀ d ∈ L, d ≤ m) : ∀ i, i ≤ L.length → crO b L i ≤ m
 | 0, _ => by rw [CW]; omega
 | i + 1, h => by
   have ih := IE hb hL i (by omega)
   rw [← Ct (by omega) (by omega : i < L.length)]
   have hd := hL L[i] (List.getElem_mem _)
   refine Nat.le_trans (Nat.div_le_div_left (c := 2) hb (by omega)) ?_
   omega
theorem Jd (b : Nat) (L : List Nat) : crA b L L.length ++ [crO b L L.length] = cR b L.length (eA b L) ++ [eA b L / b ^ L.length] := by
 simp [crA, crO]
theorem kL {l : List Nat} {i n : Nat} (h : l[i]? = some n) : (dH l)[i]? = some (.v (.int .u64 n)) := by simp [dH, h]
theorem Dj {T i q r d : Nat} (hq : q = i / 4) (hr : r = i % 4) (hi : i < 16) (hT : T < 65536 ^ i) (hd : d < 65536) :
  T / 18446744073709551616 ^ q % 18446744073709551616 + d * 2 ^ (16 * r) < 18446744073709551616 ∧
  (cR 18446744073709551616 4 T).set q (T / 18446744073709551616 ^ q % 18446744073709551616 + d * 2 ^ (16 * r)) = cR 18446744073709551616 4 (T + 65536 ^ i * d) := by
 have hr4 : r < 4 := by omega
 have hq4 : q < 4 := by omega
 have e16 : ∀ n, (65536 : Nat) ^ n = 2 ^ (16 * n) := fun n => by rw [Nat.pow_mul]
 have eW : ∀ n, (18446744073709551616 : Nat) ^ n = 2 ^ (64 * n) := fun n => by rw [Nat.pow_mul]
 have e1 : (65536 : Nat) ^ i = 18446744073709551616 ^ q * 2 ^ (16 * r) := by
  rw [e16, eW, ← Nat.pow_add]; congr 1; omega
 have hM : T / 18446744073709551616 ^ q < 2 ^ (16 * r) := Nat.div_lt_of_lt_mul (by rw [← e1]; exact hT)
 have hp : (2 : Nat) ^ (16 * r) = 1 ∨ (2 : Nat) ^ (16 * r) = 65536 ∨ (2 : Nat) ^ (16 * r) = 4294967296 ∨ (2 : Nat) ^ (16 * r) = 281474976710656 := by
  have : r = 0 ∨ r = 1 ∨ r = 2 ∨ r = 3 := by omega
  rcases this with rfl | rfl | rfl | rfl <;> simp
 have hlt : T / 18446744073709551616 ^ q % 18446744073709551616 + d * 2 ^ (16 * r) < 18446744073709551616 := by
  generalize T / 18446744073709551616 ^ q = M at hM
  rcases hp with h | h | h | h <;> rw [h] at hM ⊢ <;> omega
 refine ⟨hlt, ?_⟩
 have hl1 : q < (cR 18446744073709551616 4 T).length := by simpa using hq4
 have hTl : T < 18446744073709551616 ^ 4 := Nat.lt_of_lt_of_le hT (by rw [e16, eW]; exact Nat.pow_le_pow_right (by omega) (by omega))
 refine pG (by decide) (fun x hx => ?_) (by simp) ?_
 · rcases List.mem_or_eq_of_mem_set hx with h | h
   · exact iT (by decide) x h
   · rw [h]; exact hlt
 · have e := l9 (b := 18446744073709551616) hl1 (T / 18446744073709551616 ^ q % 18446744073709551616 + d * 2 ^ (16 * r))
   rw [nD hq4, e9, Nat.mod_eq_of_lt hTl, Nat.mul_add] at e
   have e2 : 18446744073709551616 ^ q * (d * 2 ^ (16 * r)) = 65536 ^ i * d := by rw [e1]; grind
   rw [e2] at e
   omega
theorem DG {b : Nat} {L : List Nat} {n : Nat} (hb : 0 < b) (h : eA b L < b ^ n) : ∀ j, n ≤ j → (hj : j < L.length) → L[j] = 0 := by
 intro j hn hj
 have hi : L = L.take j ++ L[j] :: L.drop (j + 1) := by rw [List.getElem_cons_drop, List.take_append_drop]
 have h3 : eA b L = eA b (L.take j) + b ^ j * (L[j] + b * eA b (L.drop (j + 1))) := by
  conv => lhs; rw [hi, jW]
  simp [eA, Nat.min_eq_left (Nat.le_of_lt hj)]
 have h4 : b ^ n ≤ b ^ j := Nat.pow_le_pow_right hb hn
 rcases Nat.eq_zero_or_pos L[j] with h0 | h0
 · exact h0
 · have h5 : b ^ j * 1 ≤ b ^ j * (L[j] + b * eA b (L.drop (j + 1))) := Nat.mul_le_mul_left _ (by omega)
   omega
theorem H3 {b : Nat} {L : List Nat} {j n : Nat} (hb : 0 < b) (hn : n ≤ j) (hj : j < L.length) (h : 0 < L[j]) : ¬ eA b L < b ^ n := fun hlt => by
 have := DG hb hlt j hn hj
 omega
theorem EB {b : Nat} {L : List Nat} {n : Nat} (h : ∀ j, n ≤ j → (hj : j < L.length) → L[j] = 0) : eA b L = eA b (L.take n) := by
 conv => lhs; rw [← List.take_append_drop n L, jW]
 have : eA b (L.drop n) = 0 := by
  have e : L.drop n = List.replicate (L.length - n) 0 := by
   apply List.ext_getElem
   · simp
   · intro i h1 h2
     simp at h1 h2 ⊢
     exact h (n + i) (by omega) (by omega)
  rw [e, AU]
 rw [this]; simp
def p9 (L M : List Nat) (i : Nat) : List Nat := (List.zipWith (· + ·) L M).take i ++ L.drop i
theorem Gm (L M : List Nat) : p9 L M 0 = L := by simp [p9]
theorem B7 {L M : List Nat} {i : Nat} (h : L.length = M.length) (hi : i ≤ L.length) : (p9 L M i).length = L.length := by simp [p9]; omega
theorem ID {L M : List Nat} {i : Nat} (h : L.length = M.length) (hi : i < L.length) : (p9 L M i)[i]? = some L[i] := by
 unfold p9
 rw [List.getElem?_append_right (by simp; omega)]
 have : i - (List.take i (List.zipWith (· + ·) L M)).length = 0 := by simp; omega
 rw [this]; simp [hi]
theorem IS {L M : List Nat} {i : Nat} (h : L.length = M.length) (hi : i < L.length) : (p9 L M i).set i (L[i] + M[i]) = p9 L M (i + 1) := by
 unfold p9
 have hl : (List.take i (List.zipWith (· + ·) L M)).length = i := by simp; omega
 rw [List.set_append_right _ _ (by omega), hl, Nat.sub_self]
 have e : L.drop i = L[i] :: L.drop (i + 1) := List.drop_eq_getElem_cons hi
 rw [e, List.set_cons_zero, jD (by simp; omega)]
 simp
theorem Ch {L M : List Nat} (h : L.length = M.length) : p9 L M L.length = List.zipWith (· + ·) L M := by
 unfold p9
 rw [List.take_of_length_le (by simp; omega), List.drop_of_length_le (Nat.le_refl _), List.append_nil]
theorem Dc (b : Nat) : ∀ L M : List Nat, L.length = M.length → eA b (List.zipWith (· + ·) L M) = eA b L + eA b M
 | [], [], _ => rfl
 | x :: L, y :: M, h => by
   simp only [List.zipWith_cons_cons, eA, Dc b L M (by simpa using h), Nat.mul_add]
   omega
theorem LP {L M : List Nat} {m : Nat} (hL : ∀ d ∈ L, d < m) (hM : ∀ d ∈ M, d < m) : ∀ d ∈ List.zipWith (· + ·) L M, d ≤ 2 * m := by
 intro d hd
 obtain ⟨i, hi, rfl⟩ := List.getElem_of_mem hd
 simp at hi
 have h1 := hL L[i] (List.getElem_mem _)
 have h2 := hM M[i] (List.getElem_mem _)
 simp; omega
theorem BP {P : List Nat} {m X Y c : Nat} (hP : ∀ d ∈ P, d < 65536) (hm : m < P.length) (hc : c < 65536) (hX : X < 65536) (hY : Y < 65536) :
  (∀ d ∈ P.set m ((X * Y + P[m] + c) % 65536), d < 65536) ∧ (X * Y + P[m] + c) / 65536 < 65536 ∧
  eA 65536 (P.set m ((X * Y + P[m] + c) % 65536)) + 65536 ^ (m + 1) * ((X * Y + P[m] + c) / 65536) = eA 65536 P + 65536 ^ m * (X * Y + c) := by
 have hp := hP _ (List.getElem_mem hm)
 refine ⟨fun d hd => ?_, ?_, ?_⟩
 · rcases List.mem_or_eq_of_mem_set hd with h | h
   · exact hP d h
   · rw [h]; exact Nat.mod_lt _ (by decide)
 · have h1 : X ≤ 65535 := by omega
   have h2 : Y ≤ 65535 := by omega
   have := Nat.mul_le_mul h1 h2
   omega
 · have h1 := l9 (b := 65536) hm ((X * Y + P[m] + c) % 65536)
   generalize eA 65536 (P.set m ((X * Y + P[m] + c) % 65536)) = v at *
   generalize eA 65536 P = v0 at *
   rw [Nat.pow_succ, Nat.mul_assoc]
   have h2 := Nat.div_add_mod (X * Y + P[m] + c) 65536
   generalize (X * Y + P[m] + c) / 65536 = q at *
   generalize (X * Y + P[m] + c) % 65536 = r at *
   generalize 65536 ^ m = B at *
   have h3 : B * (65536 * q) + B * r = B * (X * Y + c) + B * P[m] := by rw [← Nat.mul_add, h2, ← Nat.mul_add]; congr 1; omega
   omega
def mM (x y i X k : Nat) (P : List Nat) (c : Nat) : Prop :=
 P.length = 32 ∧ (∀ d ∈ P, d < 65536) ∧ c < 65536 ∧
  eA 65536 P + 65536 ^ (i + k) * c = (x % 65536 ^ i) * y + 65536 ^ i * (X * (y % 65536 ^ k)) ∧
  ∀ j, i + k ≤ j → P[j]? = (cR 65536 32 ((x % 65536 ^ i) * y))[j]?
theorem zZ {x y i X : Nat} (hi : i ≤ 16) (hy : y < 65536 ^ 16) : mM x y i X 0 (cR 65536 32 ((x % 65536 ^ i) * y)) 0 := by
 refine ⟨by simp, iT (by decide), by decide, ?_, fun j _ => rfl⟩
 rw [e9, Nat.mod_eq_of_lt (uD (by decide) hy (by omega))]
 simp [Nat.mod_one]
theorem B1 {x y i X k p c s c' : Nat} {P : List Nat} (h : mM x y i X k P c) (hi : i < 16) (hk : k < 16) (hX : X < 65536) (hp : P[i + k]? = some p) {Y : Nat} (hY : y / 65536 ^ k % 65536 = Y)
  (hs : s = (X * Y + p + c) % 65536) (hc : c' = (X * Y + p + c) / 65536) : mM x y i X (k + 1) (P.set (i + k) s) c' := by
 obtain ⟨h1, h2, h3, h4, h5⟩ := h
 obtain ⟨hl, rfl⟩ := List.getElem?_eq_some_iff.1 hp
 have hY2 : Y < 65536 := by rw [← hY]; exact Nat.mod_lt _ (by decide)
 obtain ⟨e1, e2, e3⟩ := BP h2 hl h3 hX hY2
 subst hs hc
 refine ⟨by simp [h1], e1, e2, ?_, fun j hj => ?_⟩
 · rw [← Nat.add_assoc, e3, j6, hY, Nat.mul_add (65536 ^ (i + k)), Nat.add_comm (65536 ^ (i + k) * (X * Y)), ← Nat.add_assoc, h4, Nat.pow_add]
   generalize 65536 ^ i = A
   generalize 65536 ^ k = B
   generalize y % B = z
   grind
 · rw [List.getElem?_set_ne (by omega)]
   exact h5 j (by omega)
theorem BJ {x y i X c : Nat} {P : List Nat} (h : mM x y i X 16 P c) (hi : i < 16) (hy : y < 65536 ^ 16) : P[i + 16]? = some 0 := by
 rw [h.2.2.2.2 (i + 16) (Nat.le_refl _), oU (by omega), Nat.div_eq_of_lt (uD (by decide) hy (Nat.le_refl _))]
theorem Bx {x y i X c : Nat} {P : List Nat} (h : mM x y i X 16 P c) (hi : i < 16) (hX : x / 65536 ^ i % 65536 = X) (hy : y < 65536 ^ 16) :
  P.set (i + 16) c = cR 65536 32 ((x % 65536 ^ (i + 1)) * y) := by
 obtain ⟨h1, h2, h3, h4, h5⟩ := h
 have hl : i + 16 < P.length := by omega
 have h0 : P[i + 16] = 0 := by
  have := h5 (i + 16) (Nat.le_refl _)
  rw [List.getElem?_eq_getElem hl, oU (by omega), Nat.div_eq_of_lt (uD (by decide) hy (Nat.le_refl _))] at this
  simpa using this
 refine pG (by decide) (fun d hd => ?_) (by simp [h1]) ?_
 · rcases List.mem_or_eq_of_mem_set hd with h | h
   · exact h2 d h
   · rw [h]; exact h3
 · have e := l9 (b := 65536) hl c
   rw [h0, Nat.mul_zero, Nat.add_zero] at e
   rw [e, h4, Nat.mod_eq_of_lt hy, j6 _ x i, hX]
   generalize 65536 ^ i = A
   grind
theorem kE {P : Program} {e : TypeId} (h : ti P e = some ⟨false, 1, 8, .int .u64 0⟩) (n : Nat) : qD P e n = some (dH (List.replicate n 0)) := by
 have hz : dV P e = some (.v (.int .u64 0)) := by simp [dV, h, ofValue, dC, plain]
 have hz1 : (Value.int .u64 0).oneCell' = true := rfl
 simp only [qD, h, hz, AV.cells]
 simp [AV.bL]
 apply List.ext_getElem
 · simp [dH]
 · intro i h1 h2
   simp [dH, Nat.mod_one]
theorem E0 {x w q r j : Nat} (hr : r < w) (hj : j = w * q + r) : x / (2 ^ w) ^ q % 2 ^ w / 2 ^ r % 2 = x / 2 ^ j % 2 := by
 rw [← Nat.pow_mul, hj, Nat.pow_add, ← Nat.div_div_eq_div_mul]
 generalize x / 2 ^ (w * q) = y
 obtain ⟨s, rfl⟩ : ∃ s, w = r + (s + 1) := ⟨w - r - 1, by omega⟩
 rw [Nat.pow_add, Nat.mod_mul_right_div_self, Nat.pow_succ, Nat.mul_comm (2 ^ s) 2, Nat.mod_mul_right_mod]
theorem DV {Q j q r M : Nat} (hM : M = Q / 65536 ^ q % 65536) (hr : r < 16) (hj : j = 16 * q + r) (hq : q < 32) (hb : Q / 2 ^ j % 2 = 0) (hl : Q + 2 ^ j < 2 ^ 512) :
  M + 2 ^ r < 65536 ∧ (cR 65536 32 Q).set q (M + 2 ^ r) = cR 65536 32 (Q + 2 ^ j) := by
 have hm2 : M / 2 ^ r % 2 = 0 := by rw [hM]; exact (E0 (w := 16) hr hj).trans hb
 have hMl : M < 65536 := by rw [hM]; exact Nat.mod_lt _ (by decide)
 have hlt : M + 2 ^ r < 65536 := by
  have e := Nat.div_add_mod M (2 ^ r)
  have e2 := Nat.mod_lt M (Nat.two_pow_pos r)
  obtain ⟨s, hs⟩ : ∃ s, 16 = r + (s + 1) := ⟨15 - r, by omega⟩
  have hW : 65536 = 2 ^ r * (2 * 2 ^ s) := by
   rw [show (65536 : Nat) = 2 ^ 16 from rfl]; conv => lhs; rw [hs, Nat.pow_add, Nat.pow_succ, Nat.mul_comm (2 ^ s)]
  have h3 : M / 2 ^ r < 2 * 2 ^ s := Nat.div_lt_of_lt_mul (by rw [← hW]; exact hMl)
  have h5 := Nat.mul_le_mul_left (2 ^ r) (show M / 2 ^ r + 2 ≤ 2 * 2 ^ s by omega)
  rw [Nat.mul_add] at h5
  rw [hW]; omega
 have hl1 : q < (cR 65536 32 Q).length := by simpa using hq
 refine ⟨hlt, pG (by decide) (fun d hd => ?_) (by simp) ?_⟩
 · rcases List.mem_or_eq_of_mem_set hd with h | h
   · exact iT (by decide) d h
   · rw [h]; exact hlt
 · have e := l9 (b := 65536) hl1 (M + 2 ^ r)
   have hQ : Q < 65536 ^ 32 := by
    have h8 : (65536 : Nat) ^ 32 = 2 ^ 512 := by rw [show (65536 : Nat) = 2 ^ 16 from rfl, ← Nat.pow_mul]
    rw [h8]; exact Nat.lt_of_le_of_lt (Nat.le_add_right _ _) hl
   rw [nD hq, ← hM, e9, Nat.mod_eq_of_lt hQ] at e
   have e2 : 65536 ^ q * 2 ^ r = 2 ^ j := by rw [show (65536 : Nat) = 2 ^ 16 from rfl, ← Nat.pow_mul, ← Nat.pow_add, hj]
   rw [Nat.mul_add, e2] at e
   omega
theorem Gw {b n x : Nat} (h : x < b ^ n) : cR b (n + 1) x = cR b n x ++ [0] := by
 rw [oT, Nat.div_eq_of_lt h, Nat.zero_mod]
theorem Ir {b n x y : Nat} (hb : 0 < b) (hy : y ≤ x) : cR b n (x + b ^ n - y) = cR b n (x - y) :=
 DA hb (by rw [show x + b ^ n - y = x - y + b ^ n by omega, Nat.add_mod_right])
theorem Gn {b n x : Nat} (hx : x < b ^ n) (h : ∀ j, j < n → x / b ^ j % b = 0) : x = 0 := by
 have e : cR b n x = List.replicate n 0 := by
  apply List.ext_getElem
  · simp
  · intro i h1 h2
    simp at h1
    rw [nD h1, h i h1]; simp
 have := e9 b x n
 rw [e, AU, Nat.mod_eq_of_lt hx] at this
 omega
end Go.Vm
namespace Go.Proofs.YtjpnjhlfieklfaaGreat
set_option maxHeartbeats 1600000
open Go Go.Vm
theorem JU : zeroCell ⟨false, 1, 8, .int .u64 0⟩ = true := rfl
attribute [local simp] dM aI dJ opA bH bN cM bP ofValue dC plain aQ aR cA b8 cC cB bY b7 b9 bZ cV gN bW cG cD b6 bU aT aS bO cU aW dQ dR bK aZ cL gA bS dE cF j7 kD JU dG gH maxLen AV.cells AV.bL dF cO eZ bF aV cQ dI dS dV cN aN dP dO fX eY eV cW cT cI List.getElem?_cons_zero List.getElem?_cons_succ dA
theorem JO {x i : Nat} : x / 18446744073709551616 ^ (i / 4) % 18446744073709551616 / 2 ^ (16 * (i % 4)) % 65536 = x / 65536 ^ i % 65536 := by
 have e : ∀ n, (65536 : Nat) ^ n = 2 ^ (16 * n) := fun n => by rw [Nat.pow_mul]
 have hW : ∀ n, (18446744073709551616 : Nat) ^ n = 2 ^ (64 * n) := fun n => by rw [Nat.pow_mul]
 rw [e, hW]
 have h1 : 16 * i = 64 * (i / 4) + 16 * (i % 4) := by omega
 rw [h1, Nat.pow_add, ← Nat.div_div_eq_div_mul]
 generalize x / 2 ^ (64 * (i / 4)) = y
 have h2 : i % 4 < 4 := Nat.mod_lt _ (by omega)
 obtain ⟨m, hm⟩ : ∃ m, m = i % 4 := ⟨_, rfl⟩
 rw [← hm] at h2 ⊢
 have : m = 0 ∨ m = 1 ∨ m = 2 ∨ m = 3 := by omega
 rcases this with rfl | rfl | rfl | rfl <;> simp <;> omega
attribute [local simp] lJ in
theorem r6 {σ : St} {x : Nat} :
  aE Tryz.prog 83 [.agg (aM x)] σ (fun av σ' => av = .row σ.rows.length 16 0 1 16 ∧ σ' = { σ with rows := σ.rows ++ [⟨16, dH (cR 65536 16 x), none⟩] }) := by
 refine pA ?_ rfl
 have F := True.intro
 refine aB Tryz.func83 rfl rfl rfl ?_; refine sr fun _ hJ2 => ?_; apply hJ2; refine sr fun _ hJ4 => ?_; apply hJ4; refine sq fun K5 hK5 => ?_; refine sq fun K6 hK6 => ?_; refine Ek 3 1 (k := ?_); refine rg' (h := fun J7 hJ7 => ?_); apply hJ7; apply hK6; refine aD ?_; refine cK (X := Nat) [1, 2] (fun i ρ σ1 => (i ≤ 16) ∧ (ρ 3 = .row σ.rows.length i 0 1 i) ∧ (ρ 4 = .v (.int .i64 i)) ∧ (σ1 = { σ with objs := σ.objs ++ [aM x], rows := σ.rows ++ [⟨i, dH (cR 65536 i x), none⟩] })) (fun i => 16 - i) (0) ?st1 ?rd1
 case st1 =>
  refine ⟨lp, lp, lp, ?_⟩
  · simp [cR, dH]
 case rd1 =>
  rintro i ρ1 σ1 hF1 ⟨hi, h3, h4, hσ⟩; obtain rfl := hσ.symm
  have f1 := dU hF1
  (try simp [dT, F] at f1); replace F := aF h3 F; replace F := aF h4 F; (try replace F := aF f1 F); refine sq fun K8 hK8 => ?_; refine sr fun _ hJ10 => ?_; apply hJ10; refine cs (fun c6 => ?_) (fun c6 => ?_)
  · try exact aK c6
    all_goals
     replace F := aF c6 F; refine aA ?_; apply hK8; refine sq fun K11 hK11 => ?_; refine aD ?_
     have hi16 : i < 16 := by simp at c6; omega
     obtain ⟨q, hq⟩ : ∃ q, q = i / 4 := ⟨_, rfl⟩
     obtain ⟨r, hr⟩ : ∃ r, r = i % 4 := ⟨_, rfl⟩
     have e1 : (i : Int) / 4 = (q : Int) := by omega
     have e2 : (i : Int) % 4 = (r : Int) := by omega
     have hq4 : q < 4 := by omega
     have hq4i : (q : Int) < 4 := by omega
     have e3 : (i : Int).tdiv 4 = (q : Int) := by rw [Int.tdiv_eq_ediv_of_nonneg (by omega)]; exact e1
     have e4 : (i : Int).tmod 4 = (r : Int) := by rw [Int.tmod_eq_emod_of_nonneg (by omega)]; exact e2
     obtain ⟨L, hL⟩ : ∃ L, L = x / 18446744073709551616 ^ q % 18446744073709551616 := ⟨_, rfl⟩
     have hgx : (aM x)[q]? = some (.v (.int .u64 L)) := by rw [hL, eH]; exact eU hq4
     obtain ⟨_, hgx2⟩ := List.getElem?_eq_some_iff.1 hgx
     have hneg : ¬ (16 * (r : Int) < 0) := by omega
     have htn : (16 * (r : Int)).toNat = 16 * r := by omega
     have hmn : min (16 * r) 64 = 16 * r := by omega
     obtain ⟨V, hV⟩ : ∃ V, V = x / 65536 ^ i % 65536 := ⟨_, rfl⟩
     have hval : ((L : Int).fdiv (2 ^ (16 * r))).tmod 65536 = (V : Int) := by rw [lG, rH, hV, ← JO, ← hq, ← hr, ← hL, Int.tmod_eq_emod_of_nonneg (Int.natCast_nonneg _)]; rfl
     have hb1 : (i + 1) * 8 ≤ 140737488355328 := by omega
     have hb2 : i ≤ 9223372036854775806 := by omega
     have htk : List.take i (dH (cR 65536 i x)) = dH (cR 65536 i x) := List.take_of_length_le (by simp)
     have hsn : dH (cR 65536 i x) ++ [.v (.int .u64 V)] = dH (cR 65536 (i + 1) x) := by rw [vS, hV, ← oT]
     replace F := aF hneg F; replace F := aF htn F; replace F := aF hmn F; replace F := aF hval F; replace F := aF hb1 F; replace F := aF hb2 F; replace F := aF htk F; replace F := aF hsn F; replace F := aF e1 F; replace F := aF e2 F; replace F := aF e3 F; replace F := aF e4 F; replace F := aF hq4 F; replace F := aF hq4i F; replace F := aF hgx F; replace F := aF hgx2 F; replace F := aF hi16 F; refine rg' (h := fun J12 hJ12 => ?_); apply hJ12; apply hK11; refine rg' (h := fun J13 hJ13 => ?_); apply hJ13; refine ⟨(i + 1), ⟨kp, lp, lp, lp, lp⟩, lp⟩
  try exact aK c6
  all_goals
   replace F := aF c6 F
   obtain rfl : i = 16 := by simp at c6; omega
   refine bJ ?_; apply hK5; refine sr fun _ hJ15 => ?_; apply hJ15; refine ra ?_; exact gco
theorem mO {σ : St} {x : Nat} :
  aE Tryz.prog 83 [.agg (aM x)] σ (fun av σ' => av = .sl 1 (dH (cR 65536 16 x)) 16 .shut ∧ σ = σ') :=
 cS (tU (cS r6 (fun av σ' ⟨h1, h2⟩ => ⟨16, none, h1, h2⟩)) (by simp) (m7 _ _)) (fun av σ' ⟨h1, h2⟩ => ⟨h1, h2.symm⟩)
theorem CF {σ : St} {k g n : Nat} {L : List Nat} (hr : σ.rows[k]? = some ⟨g, dH L, none⟩) (hn : L.length = n) (hn2 : n ≤ 1000) (hL : ∀ d ∈ L, d ≤ 4611686018427387904) :
  aE Tryz.prog 106 [.row k g 0 1 n] σ (fun av σ' => av = .row k (g + 1) 0 1 (n + 1) ∧ σ' = { σ with rows := σ.rows.set k ⟨g + 1, dH (cR 65536 n (eA 65536 L) ++ [eA 65536 L / 65536 ^ n]), none⟩ }) := by
 subst hn
 have hs := fun x => cY hr x
 have hss : ∀ x y : fY, (σ.rows.set k x).set k y = σ.rows.set k y := fun x y => List.set_set _
 have F := And.intro hs (And.intro hss (True.intro))
 refine aB Tryz.func106 rfl rfl rfl ?_; refine sr fun _ hJ2 => ?_; apply hJ2; refine sr fun _ hJ4 => ?_; apply hJ4; refine sq fun K5 hK5 => ?_; refine sr fun _ hJ7 => ?_; apply hJ7; refine aD ?_; refine cK (X := Nat) [0, 2] (fun i ρ σ1 => (i ≤ L.length) ∧ (ρ 3 = .v (.int .u64 (crO 65536 L i : Nat))) ∧ (ρ 4 = .v (.int .i64 i)) ∧ (σ1 = { σ with rows := σ.rows.set k ⟨g, dH (crA 65536 L i), none⟩ })) (fun i => L.length - i) (0) ?st1 ?rd1
 case st1 =>
  refine ⟨lp, ?_, lp, ?_⟩
  · simp [CW]
  · rw [IM, YtjpnjhlfieklfaaGreat.oO hr]
 case rd1 =>
  rintro i ρ1 σ1 hF1 ⟨hi, h3, h4, hσ⟩; obtain rfl := hσ.symm
  have f1 := dU hF1
  (try simp [dT, F] at f1); replace F := aF h3 F; replace F := aF h4 F; (try replace F := aF f1 F); refine sq fun K8 hK8 => ?_; refine sr fun _ hJ10 => ?_; apply hJ10; refine cs (fun c8 => ?_) (fun c8 => ?_)
  · try exact aK c8
    all_goals
     replace F := aF c8 F; refine aA ?_; apply hK8; refine sq fun K11 hK11 => ?_; refine aD ?_; refine sq fun K12 hK12 => ?_
     have hlt : i < L.length := by simp at c8; omega
     obtain ⟨d, hd⟩ : ∃ d, d = L[i] := ⟨_, rfl⟩
     have hgx : (dH (crA 65536 L i))[i]? = some (.v (.int .u64 d)) := by rw [hd]; exact kL (JV hlt)
     obtain ⟨_, hgx2⟩ := List.getElem?_eq_some_iff.1 hgx
     have hcl := EW (b := 65536) hi
     have hdl : d ≤ 4611686018427387904 := by rw [hd]; exact hL _ (List.getElem_mem _)
     have hcO := IE (b := 65536) (by omega) hL i hi
     obtain ⟨c, hc⟩ : ∃ c, c = crO 65536 L i := ⟨_, rfl⟩
     rw [← hc] at h3 F hcO
     have hsum : IntKind.u64.wrap ((c : Int) + d) = ((c + d : Nat) : Int) := by rw [eI (by omega)]; push_cast; rfl
     obtain ⟨s, hsd⟩ : ∃ s, s = c + d := ⟨_, rfl⟩
     rw [← hsd] at hsum
     have hs6 : (s : Int).tmod 65536 = ((s % 65536 : Nat) : Int) := by rw [Int.tmod_eq_emod_of_nonneg (by omega)]; rfl
     obtain ⟨m, hm⟩ : ∃ m, m = s % 65536 := ⟨_, rfl⟩
     obtain ⟨v, hv⟩ : ∃ v, v = s / 65536 := ⟨_, rfl⟩
     rw [← hm] at hs6
     have hs7 : (s : Int).tdiv 65536 = (v : Int) := by rw [Int.tdiv_eq_ediv_of_nonneg (by omega), hv]; rfl
     have hs8 : (s : Int) / 65536 = (v : Int) := by omega
     have hs9 : (s : Int) % 65536 = (m : Int) := by omega
     have hlti : (i : Int) < L.length := by omega
     have hset := jB (crA 65536 L i) i m (by rw [hcl]; exact hlt)
     have hcs : (crA 65536 L i).set i m = crA 65536 L (i + 1) := by rw [hm, hsd, hc, hd]; exact I9 (by omega) hlt
     rw [hcs] at hset
     have hvn : v = crO 65536 L (i + 1) := by rw [hv, hsd, hc, hd]; exact Ct (by omega) hlt
     replace F := aF hgx F; replace F := aF hgx2 F; replace F := aF hcl F; replace F := aF hlt F; replace F := aF hlti F; replace F := aF hsum F; replace F := aF hs6 F; replace F := aF hs7 F; replace F := aF hs8 F; replace F := aF hs9 F; refine rg' (h := fun J13 hJ13 => ?_); apply hJ13; apply hK12; refine sr fun _ hJ15 => ?_; apply hJ15; refine rg' (h := fun J16 hJ16 => ?_); apply hJ16; apply hK11; refine rg' (h := fun J17 hJ17 => ?_); apply hJ17; refine ⟨(i + 1), ⟨kp, lp, ?_, lp, ?_⟩, lp⟩
     · simp [F, hvn]
     · simp [F, hset]
  try exact aK c8
  all_goals
   replace F := aF c8 F
   obtain rfl : i = L.length := by simp at c8; omega
   have hb1 : (L.length + 1) * 8 ≤ 140737488355328 := by omega
   have hb2 : L.length ≤ 9223372036854775806 := by omega
   have hcl := EW (b := 65536) (Nat.le_refl L.length)
   have htk : List.take L.length (dH (crA 65536 L L.length)) = dH (crA 65536 L L.length) := List.take_of_length_le (by simp [hcl])
   have hall : dH (crA 65536 L L.length) ++ [.v (.int .u64 (crO 65536 L L.length : Nat))] = dH (cR 65536 L.length (eA 65536 L) ++ [eA 65536 L / 65536 ^ L.length]) := by rw [vS, Jd]
   replace F := aF hb1 (And.intro hb2 (And.intro hcl (And.intro htk (And.intro hall F)))); refine bJ ?_; apply hK5; refine sr fun _ hJ19 => ?_; apply hJ19; refine ra ?_; exact rt
end Go.Proofs.YtjpnjhlfieklfaaGreat
namespace Go.Proofs.YtjpnjhlfieklfaaGreat
set_option maxHeartbeats 1600000
open Go Go.Vm
attribute [local simp] dM aI dJ opA bH bN cM bP ofValue dC plain aQ aR cA b8 cC cB bY b7 b9 bZ cV gN bW cG cD b6 bU aT aS bO cU aW dQ dR bK aZ cL gA bS dE cF j7 kD JU dG gH maxLen AV.cells AV.bL dF cO eZ bF aV cQ dI dS dV cN aN dP dO fX eY eV cW cT cI List.getElem?_cons_zero List.getElem?_cons_succ dA
attribute [local simp] fS in
theorem zS {σ : St} {L : List Nat} {n : Nat} {tl : eO} (hn : L.length = n) (h16 : 16 ≤ n) (hl : n ≤ 1000) (hL : ∀ d ∈ L.take 16, d < 65536) :
  aE Tryz.prog 105 [.sl 1 (dH L) n tl] σ (fun av σ' => av = .tup [.agg (aM (if eA 65536 L < 2 ^ 256 then eA 65536 L else 0)), .v (.bool (decide (eA 65536 L < 2 ^ 256)))] ∧ σ = σ') := by
 refine aU ?_ (by simp [AV.under, bB, aM])
 have e256 : (65536 : Nat) ^ 16 = 2 ^ 256 := by rw [show (65536 : Nat) = 2 ^ 16 from rfl, ← Nat.pow_mul]
 subst hn
 have F := True.intro
 refine aB Tryz.func105 rfl rfl rfl ?_; refine sr fun _ hJ2 => ?_; apply hJ2; refine sr fun _ hJ4 => ?_; apply hJ4; refine sq fun K5 hK5 => ?_; refine sr fun _ hJ7 => ?_; apply hJ7; refine aD ?_; refine cK (X := Nat) [0, 2, 4] (fun i ρ σ1 => (i ≤ L.length) ∧ (∀ j, 16 ≤ j → j < i → L[j]? = some 0) ∧ (ρ 5 = .v (.int .i64 i)) ∧ (σ1 = { σ with objs := σ.objs ++ [aM 0, aM (eA 65536 (L.take (min i 16)))] })) (fun i => L.length - i) (0) ?st1 ?rd1
 case st1 =>
  refine ⟨lp, ?_, lp, ?_⟩
  · intro j h1 h2
    omega
  · simp [fS]
 case rd1 =>
  rintro i ρ1 σ1 hF1 ⟨hi, hz, h5, hσ⟩; obtain rfl := hσ.symm
  have f1 := dU hF1
  (try simp [dT, F] at f1); replace F := aF h5 F; (try replace F := aF f1 F); refine sq fun K8 hK8 => ?_; refine sr fun _ hJ10 => ?_; apply hJ10; refine cs (fun c9 => ?_) (fun c9 => ?_)
  · (try exact aK c9); all_goals have c9p := c9; try simp [F] at c9p
    all_goals
     replace F := aF c9 F; (try replace F := aF c9p F); refine aA ?_; apply hK8; refine sq fun K11 hK11 => ?_; refine aD ?_; refine sq fun K12 hK12 => ?_; refine sq fun K13 hK13 => ?_
     have hlt : i < L.length := by simp at c9; omega
     obtain ⟨d, hd⟩ : ∃ d, d = L[i] := ⟨_, rfl⟩
     have hgd : L[i]? = some d := by rw [hd]; exact List.getElem?_eq_getElem hlt
     have hgx : (dH L)[i]? = some (.v (.int .u64 d)) := kL hgd
     obtain ⟨_, hgx2⟩ := List.getElem?_eq_some_iff.1 hgx
     have hlti : (i : Int) < L.length := by omega
     have hdr : List.drop i (dH L) = .v (.int .u64 d) :: List.drop (i + 1) (dH L) := by rw [List.drop_eq_getElem_cons (by simpa using hlt), hgx2]
     replace F := aF hgx F; replace F := aF hgx2 F; replace F := aF hlt F; replace F := aF hlti F; replace F := aF hdr F; refine rg' (h := fun J14 hJ14 => ?_); refine gs 14 (fun g5_2 => ?_) (fun g5_2 => ?_)
     · (try exact aK g5_2); all_goals have g5_2p := g5_2; try simp [F] at g5_2p
       all_goals
        replace F := aF g5_2 F; (try replace F := aF g5_2p F); (iterate 5 refine go2 (k := ?_)); apply hJ14; apply hK13; refine cs (fun c20 => ?_) (fun c20 => ?_)
        · (try exact aK c20); all_goals have c20p := c20; try simp [F] at c20p
          all_goals
           replace F := aF c20 F; try replace F := aF c20p F
           have hbig : ¬ eA 65536 L < 2 ^ 256 := by rw [← e256]; exact H3 (by omega) (by have h := g5_2; simp at h; omega) hlt (by rw [← hd]; have h := c20; simp at h; omega)
           replace F := aF hbig (And.intro (if_neg hbig : (if eA 65536 L < 2 ^ 256 then eA 65536 L else 0) = 0) F); refine sr fun _ hJ16 => ?_; apply hJ16; refine bQ ?_; (try simp only [eD, bG, bV]); refine gY (h := ?_); exact gcr
        (try exact aK c20); all_goals have c20p := c20; try simp [F] at c20p
        all_goals
         replace F := aF c20 F; (try replace F := aF c20p F); refine aA ?_; apply hK12; refine sr fun _ hJ18 => ?_; apply hJ18; refine cs (fun c23 => ?_) (fun c23 => ?_)
         · (try exact aK c23); all_goals have c23p := c23; try simp [F] at c23p
           all_goals
            replace F := aF c23 F; try replace F := aF c23p F
            have hi16 : i < 16 := by have h := c23; simp at h; omega
            have hm1 : min i 16 = i := by omega
            have hm2 : min (i + 1) 16 = i + 1 := by omega
            obtain ⟨T, hT⟩ : ∃ T, T = eA 65536 (L.take i) := ⟨_, rfl⟩
            have hTl : T < 65536 ^ i := by rw [hT]; have := tE (b := 65536) (l := L.take i) (fun x hx => hL x (by rw [List.mem_take_iff_getElem] at hx ⊢; obtain ⟨k, hk, e⟩ := hx; exact ⟨k, by omega, e⟩)); rwa [List.length_take, Nat.min_eq_left (by omega)] at this
            have hdl : d < 65536 := hL d (by rw [hd, List.mem_take_iff_getElem]; exact ⟨i, by omega, rfl⟩)
            rw [hm1, ← hT]
            obtain ⟨q, hq⟩ : ∃ q, q = i / 4 := ⟨_, rfl⟩
            obtain ⟨r, hr⟩ : ∃ r, r = i % 4 := ⟨_, rfl⟩
            have e1 : (i : Int) / 4 = (q : Int) := by omega
            have e2 : (i : Int) % 4 = (r : Int) := by omega
            have hq4 : q < 4 := by omega
            have hq4i : (q : Int) < 4 := by omega
            have e3 : (i : Int).tdiv 4 = (q : Int) := by rw [Int.tdiv_eq_ediv_of_nonneg (by omega)]; exact e1
            have e4 : (i : Int).tmod 4 = (r : Int) := by rw [Int.tmod_eq_emod_of_nonneg (by omega)]; exact e2
            have hneg : ¬ (16 * (r : Int) < 0) := by omega
            have htn : (16 * (r : Int)).toNat = 16 * r := by omega
            have hmn : min (16 * r) 64 = 16 * r := by omega
            obtain ⟨hy1, hy2⟩ := Dj hq hr hi16 hTl hdl
            obtain ⟨M, hM⟩ : ∃ M, M = T / 18446744073709551616 ^ q % 18446744073709551616 := ⟨_, rfl⟩
            rw [← hM] at hy1 hy2
            have hgM : (aM T)[q]? = some (.v (.int .u64 M)) := by rw [hM, eH]; exact eU hq4
            obtain ⟨_, hgM2⟩ := List.getElem?_eq_some_iff.1 hgM
            obtain ⟨S, hS⟩ : ∃ S, S = d * 2 ^ (16 * r) := ⟨_, rfl⟩
            rw [← hS] at hy1 hy2
            have hsh : IntKind.u64.wrap ((d : Int) * 2 ^ (16 * r)) = (S : Int) := by rw [lG, show (d : Int) * ((2 ^ (16 * r) : Nat) : Int) = ((d * 2 ^ (16 * r) : Nat) : Int) by push_cast; rfl, ← hS]; exact lF (by omega)
            obtain ⟨A, hA⟩ : ∃ A, A = M + S := ⟨_, rfl⟩
            rw [← hA] at hy1 hy2
            have had : IntKind.u64.wrap ((M : Int) + S) = (A : Int) := by rw [show (M : Int) + S = (A : Int) by omega]; exact lF hy1
            have hset := jB (cR 18446744073709551616 4 T) q A (by simpa using hq4)
            rw [hy2, ← eH, ← eH] at hset
            have hnx : eA 65536 (L.take (i + 1)) = T + 65536 ^ i * d := by rw [lB hlt, ← hT, hd]
            replace F := aF hm2 F; replace F := aF e1 F; replace F := aF e2 F; replace F := aF e3 F; replace F := aF e4 F; replace F := aF hneg F; replace F := aF htn F; replace F := aF hmn F; replace F := aF hq4 F; replace F := aF hq4i F; replace F := aF hgM F; replace F := aF hgM2 F; replace F := aF hsh F; replace F := aF had F
            refine bI (by kernel_rfl) fun J19 hJ19 => ?_
            refine q2 0 ?_; refine q2 1 ?_; refine q2 2 ?_; refine q2 3 ?_; refine q2 4 ?_; refine q2 5 ?_; refine q2 6 ?_; refine q2 7 ?_; refine q2 8 ?_; refine q2 9 ?_; refine q2 10 ?_; refine q2 11 ?_; refine q2 12 ?_; refine q2 13 ?_; refine dop 14 rfl ?_; (repeat first | simp [F] | simp (disch := omega) only [wC, if_pos, if_neg]); refine ⟨ln, ?_⟩; refine dd ?_; apply hJ19; apply hK11; refine rg' (h := fun J20 hJ20 => ?_); apply hJ20; refine ⟨(i + 1), ⟨kp, lp, ?_, lp, ?_⟩, lp⟩
            · intro j h1 h2
              by_cases hj : j = i
              · subst hj; first | omega | (rw [hgd, hd0])
              · exact hz j h1 (by omega)
            · simp [F]
              rw [hnx]
              exact hset
         (try exact aK c23); all_goals have c23p := c23; try simp [F] at c23p
         all_goals
          replace F := aF c23 F; try replace F := aF c23p F
          have hd0 : d = 0 := by have h := c20; simp at h; omega
          have hi16 : 16 ≤ i := by have h := c23; simp at h; omega
          have hm1 : min i 16 = 16 := by omega
          have hm2 : min (i + 1) 16 = 16 := by omega
          replace F := aF hm1 (And.intro hm2 F); refine aA ?_; apply hK11; refine rg' (h := fun J21 hJ21 => ?_); apply hJ21; refine ⟨(i + 1), ⟨kp, lp, ?_, lp, lp⟩, lp⟩
          · intro j h1 h2
            by_cases hj : j = i
            · subst hj; first | omega | (rw [hgd, hd0])
            · exact hz j h1 (by omega)
     (try exact aK g5_2); all_goals have g5_2p := g5_2; try simp [F] at g5_2p
     all_goals
      replace F := aF g5_2 F; (try replace F := aF g5_2p F); (iterate 5 refine no2 (k := ?_)); apply hJ14; apply hK13; refine cf ?_; refine aA ?_; apply hK12; refine sr fun _ hJ23 => ?_; apply hJ23; refine cs (fun c23 => ?_) (fun c23 => ?_)
      · (try exact aK c23); all_goals have c23p := c23; try simp [F] at c23p
        all_goals
         replace F := aF c23 F; try replace F := aF c23p F
         have hi16 : i < 16 := by have h := c23; simp at h; omega
         have hm1 : min i 16 = i := by omega
         have hm2 : min (i + 1) 16 = i + 1 := by omega
         obtain ⟨T, hT⟩ : ∃ T, T = eA 65536 (L.take i) := ⟨_, rfl⟩
         have hTl : T < 65536 ^ i := by rw [hT]; have := tE (b := 65536) (l := L.take i) (fun x hx => hL x (by rw [List.mem_take_iff_getElem] at hx ⊢; obtain ⟨k, hk, e⟩ := hx; exact ⟨k, by omega, e⟩)); rwa [List.length_take, Nat.min_eq_left (by omega)] at this
         have hdl : d < 65536 := hL d (by rw [hd, List.mem_take_iff_getElem]; exact ⟨i, by omega, rfl⟩)
         rw [hm1, ← hT]
         obtain ⟨q, hq⟩ : ∃ q, q = i / 4 := ⟨_, rfl⟩
         obtain ⟨r, hr⟩ : ∃ r, r = i % 4 := ⟨_, rfl⟩
         have e1 : (i : Int) / 4 = (q : Int) := by omega
         have e2 : (i : Int) % 4 = (r : Int) := by omega
         have hq4 : q < 4 := by omega
         have hq4i : (q : Int) < 4 := by omega
         have e3 : (i : Int).tdiv 4 = (q : Int) := by rw [Int.tdiv_eq_ediv_of_nonneg (by omega)]; exact e1
         have e4 : (i : Int).tmod 4 = (r : Int) := by rw [Int.tmod_eq_emod_of_nonneg (by omega)]; exact e2
         have hneg : ¬ (16 * (r : Int) < 0) := by omega
         have htn : (16 * (r : Int)).toNat = 16 * r := by omega
         have hmn : min (16 * r) 64 = 16 * r := by omega
         obtain ⟨hy1, hy2⟩ := Dj hq hr hi16 hTl hdl
         obtain ⟨M, hM⟩ : ∃ M, M = T / 18446744073709551616 ^ q % 18446744073709551616 := ⟨_, rfl⟩
         rw [← hM] at hy1 hy2
         have hgM : (aM T)[q]? = some (.v (.int .u64 M)) := by rw [hM, eH]; exact eU hq4
         obtain ⟨_, hgM2⟩ := List.getElem?_eq_some_iff.1 hgM
         obtain ⟨S, hS⟩ : ∃ S, S = d * 2 ^ (16 * r) := ⟨_, rfl⟩
         rw [← hS] at hy1 hy2
         have hsh : IntKind.u64.wrap ((d : Int) * 2 ^ (16 * r)) = (S : Int) := by rw [lG, show (d : Int) * ((2 ^ (16 * r) : Nat) : Int) = ((d * 2 ^ (16 * r) : Nat) : Int) by push_cast; rfl, ← hS]; exact lF (by omega)
         obtain ⟨A, hA⟩ : ∃ A, A = M + S := ⟨_, rfl⟩
         rw [← hA] at hy1 hy2
         have had : IntKind.u64.wrap ((M : Int) + S) = (A : Int) := by rw [show (M : Int) + S = (A : Int) by omega]; exact lF hy1
         have hset := jB (cR 18446744073709551616 4 T) q A (by simpa using hq4)
         rw [hy2, ← eH, ← eH] at hset
         have hnx : eA 65536 (L.take (i + 1)) = T + 65536 ^ i * d := by rw [lB hlt, ← hT, hd]
         replace F := aF hm2 F; replace F := aF e1 F; replace F := aF e2 F; replace F := aF e3 F; replace F := aF e4 F; replace F := aF hneg F; replace F := aF htn F; replace F := aF hmn F; replace F := aF hq4 F; replace F := aF hq4i F; replace F := aF hgM F; replace F := aF hgM2 F; replace F := aF hsh F; replace F := aF had F
         refine bI (by kernel_rfl) fun J24 hJ24 => ?_
         refine q2 0 ?_; refine q2 1 ?_; refine q2 2 ?_; refine q2 3 ?_; refine q2 4 ?_; refine q2 5 ?_; refine q2 6 ?_; refine q2 7 ?_; refine q2 8 ?_; refine q2 9 ?_; refine q2 10 ?_; refine q2 11 ?_; refine q2 12 ?_; refine q2 13 ?_; refine dop 14 rfl ?_; (repeat first | simp [F] | simp (disch := omega) only [wC, if_pos, if_neg]); refine ⟨ln, ?_⟩; refine dd ?_; apply hJ24; apply hK11; refine rg' (h := fun J25 hJ25 => ?_); apply hJ25; refine ⟨(i + 1), ⟨kp, lp, ?_, lp, ?_⟩, lp⟩
         · intro j h1 h2
           by_cases hj : j = i
           · subst hj; first | omega | (rw [hgd, hd0])
           · exact hz j h1 (by omega)
         · simp [F]
           rw [hnx]
           exact hset
      (try exact aK c23); all_goals have c23p := c23; try simp [F] at c23p
      all_goals
       replace F := aF c23 F; try replace F := aF c23p F
       have hd0 : d = 0 := by have h := c20; simp at h; omega
       have hi16 : 16 ≤ i := by have h := c23; simp at h; omega
       have hm1 : min i 16 = 16 := by omega
       have hm2 : min (i + 1) 16 = 16 := by omega
       replace F := aF hm1 (And.intro hm2 F); refine aA ?_; apply hK11; refine rg' (h := fun J26 hJ26 => ?_); apply hJ26; refine ⟨(i + 1), ⟨kp, lp, ?_, lp, lp⟩, lp⟩
       · intro j h1 h2
         by_cases hj : j = i
         · subst hj; first | omega | (rw [hgd, hd0])
         · exact hz j h1 (by omega)
  (try exact aK c9); all_goals have c9p := c9; try simp [F] at c9p
  all_goals
   replace F := aF c9 F; try replace F := aF c9p F
   obtain rfl : i = L.length := by simp at c9; omega
   have hm1 : min L.length 16 = 16 := by omega
   have hv : eA 65536 L = eA 65536 (L.take 16) := EB (fun j h1 h2 => by have := hz j h1 h2; rw [List.getElem?_eq_getElem h2] at this; simpa using this)
   have hfit : eA 65536 L < 2 ^ 256 := by rw [hv, ← e256]; have := tE (b := 65536) (l := L.take 16) hL; rwa [List.length_take, Nat.min_eq_left h16] at this
   rw [hm1, ← hv]
   replace F := aF hfit (And.intro hm1 F); refine bJ ?_; apply hK5; refine sr fun _ hJ28 => ?_; apply hJ28; refine bQ ?_; (try simp only [eD, bG, bV]); refine gY (h := ?_); exact gcr
theorem AJ {σ : St} {n : Nat} (hn : n < 2 ^ 64) : aE Tryz.prog 133 [.v (.int .u64 n)] σ (fun av σ' => av = .agg (aM n) ∧ σ = σ') := by
 refine aU ?_ (by simp [AV.under, bB, aM])
 have F := True.intro
 refine aB Tryz.func133 rfl rfl rfl ?_; refine sr fun _ hJ2 => ?_; apply hJ2; refine sq fun K3 hK3 => ?_
 have h0 := yR hn
 replace F := aF h0 F; refine rg' (h := fun J4 hJ4 => ?_); apply hJ4; apply hK3; refine bQ ?_; (try simp only [eD, bG, bV]); refine j1 (h := ?_); exact gcr
theorem Gk {b n x y i : Nat} (hb : 0 < b) (hx : x < b ^ n) (hy : y < b ^ n) (hi : i < n) (h : ∀ j, i < j → j < n → x / b ^ j % b = y / b ^ j % b) (hl : x / b ^ i % b < y / b ^ i % b) : nG x y = -1 := if_pos (uY hb hx hy hi h hl)
theorem Gd {b n x y i : Nat} (hb : 0 < b) (hx : x < b ^ n) (hy : y < b ^ n) (hi : i < n) (h : ∀ j, i < j → j < n → x / b ^ j % b = y / b ^ j % b) (hl : y / b ^ i % b < x / b ^ i % b) : nG x y = 1 := by
 have := uY hb hy hx hi (fun j h1 h2 => (h j h1 h2).symm) hl
 unfold nG; rw [if_neg (by omega), if_pos this]
theorem Fz (x : Nat) : nG x x = 0 := by simp [nG]
theorem Bv {σ : St} {x y : Nat} (hx : x < 2 ^ 256) (hy : y < 2 ^ 256) :
  aE Tryz.prog 53 [.agg (aM x), .agg (aM y)] σ (fun av σ' => av = .v (.int .i64 (nG x y)) ∧ σ = σ') := by
 refine aU ?_ rfl
 have e256 : (65536 : Nat) ^ 16 = 2 ^ 256 := by rw [show (65536 : Nat) = 2 ^ 16 from rfl, ← Nat.pow_mul]
 have hx4 : x < 65536 ^ 16 := by rw [e256]; exact hx
 have hy4 : y < 65536 ^ 16 := by rw [e256]; exact hy
 have F := True.intro
 refine aB Tryz.func53 rfl rfl rfl ?_; refine sr fun _ hJ2 => ?_; apply hJ2; refine sq fun K3 hK3 => ?_
 refine bI (by kernel_rfl) fun J4 hJ4 => ?_
 refine q2 0 ?_; refine q2 2 ?_; refine dc 1 rfl (c := mO) (k := ?_); rintro _ _ ⟨rfl, rfl⟩
 refine ⟨by first | exact fun _ _ h => h | (refine aH [2] (by kernel_rfl) ?_; (repeat' first | exact ln2 | refine lc ?_ ?_) <;> constructor <;> first | rfl | (simp [F]; done)), ?_⟩
 (try simp [F]); refine dc 3 rfl (c := mO) (k := ?_); rintro _ _ ⟨rfl, rfl⟩; refine ⟨ln, ?_⟩; (try simp [F]); refine q2 4 ?_; refine q2 5 ?_; refine dd ?_; apply hJ4; apply hK3; refine sq fun K5 hK5 => ?_; refine sr fun _ hJ7 => ?_; apply hJ7; refine aD ?_; refine cK (X := Nat) [5, 6] (fun n ρ σ1 => (n ≤ 16) ∧ (∀ j, n ≤ j → j < 16 → x / 65536 ^ j % 65536 = y / 65536 ^ j % 65536) ∧ (ρ 7 = .v (.int .i64 ((n : Int) - 1))) ∧ (σ1 = { σ with objs := σ.objs ++ [aM x, aM y] })) (fun n => n) (16) ?st1 ?rd1
 case st1 =>
  refine ⟨lp, ?_, lp, lp⟩
  · intro j h1 h2
    omega
 case rd1 =>
  rintro n ρ1 σ1 hF1 ⟨hn, hE, h7, hσ⟩; obtain rfl := hσ.symm
  have f1 := dU hF1
  (try simp [dT, F] at f1); replace F := aF h7 F; (try replace F := aF f1 F); refine sq fun K8 hK8 => ?_; refine sr fun _ hJ10 => ?_; apply hJ10; refine cs (fun c13 => ?_) (fun c13 => ?_)
  · try exact aK c13
    all_goals
     replace F := aF c13 F; refine aA ?_; apply hK8; refine sq fun K11 hK11 => ?_; refine aD ?_; refine sq fun K12 hK12 => ?_; refine sq fun K13 hK13 => ?_
     obtain ⟨i, rfl⟩ : ∃ i, n = i + 1 := ⟨n - 1, by simp at c13; omega⟩
     have hi : ((i + 1 : Nat) : Int) - 1 = (i : Int) := by omega
     rw [hi] at h7 F
     have hi16 : i < 16 := by omega
     have hgx := eU (b := 65536) (x := x) hi16
     have hgy := eU (b := 65536) (x := y) hi16
     have hii : (i : Int) < 16 := by omega
     obtain ⟨X, hX⟩ : ∃ X, X = x / 65536 ^ i % 65536 := ⟨_, rfl⟩
     obtain ⟨Y, hY⟩ : ∃ Y, Y = y / 65536 ^ i % 65536 := ⟨_, rfl⟩
     rw [← hX] at hgx
     rw [← hY] at hgy
     obtain ⟨_, hgx2⟩ := List.getElem?_eq_some_iff.1 hgx
     obtain ⟨_, hgy2⟩ := List.getElem?_eq_some_iff.1 hgy
     have hdx : List.drop i (dH (cR 65536 16 x)) = .v (.int .u64 X) :: List.drop (i + 1) (dH (cR 65536 16 x)) := by rw [List.drop_eq_getElem_cons (by simpa using hi16), hgx2]
     have hdy : List.drop i (dH (cR 65536 16 y)) = .v (.int .u64 Y) :: List.drop (i + 1) (dH (cR 65536 16 y)) := by rw [List.drop_eq_getElem_cons (by simpa using hi16), hgy2]
     replace F := aF hgx F; replace F := aF hgy F; replace F := aF hgx2 F; replace F := aF hgy2 F; replace F := aF hdx F; replace F := aF hdy F; replace F := aF hi16 F; replace F := aF hii F
     refine bI (by kernel_rfl) fun J14 hJ14 => ?_
     refine q2 0 ?_; refine q2 1 ?_; refine q2 2 ?_; refine q2 3 ?_; refine q2 4 ?_; refine q2 5 ?_; refine q2 6 ?_; refine q2 7 ?_; refine q2 8 ?_; refine dd ?_; apply hJ14; apply hK13; refine cs (fun c24 => ?_) (fun c24 => ?_)
     · try exact aK c24
       all_goals
        replace F := aF c24 F
        have hcI := Gk (b := 65536) (n := 16) (by omega) hx4 hy4 hi16 (fun j h1 h2 => hE j h1 h2) (by rw [← hX, ← hY]; have h := c24; simp at h; exact h)
        replace F := aF hcI F; refine sr fun _ hJ16 => ?_; apply hJ16; refine ra ?_; exact gcr
     try exact aK c24
     all_goals
      replace F := aF c24 F; refine aA ?_; apply hK12; refine sq fun K17 hK17 => ?_
      refine bI (by kernel_rfl) fun J18 hJ18 => ?_
      refine q2 0 ?_; refine q2 1 ?_; refine q2 2 ?_; refine q2 3 ?_; refine q2 4 ?_; refine q2 5 ?_; refine q2 6 ?_; refine q2 7 ?_; refine q2 8 ?_; refine dd ?_; apply hJ18; apply hK17; refine cs (fun c33 => ?_) (fun c33 => ?_)
      · try exact aK c33
        all_goals
         replace F := aF c33 F
         have hcI := Gd (b := 65536) (n := 16) (by omega) hx4 hy4 hi16 (fun j h1 h2 => hE j h1 h2) (by rw [← hX, ← hY]; have h := c33; simp at h; exact h)
         replace F := aF hcI F; refine sr fun _ hJ20 => ?_; apply hJ20; refine ra ?_; exact gcr
      try exact aK c33
      all_goals
       replace F := aF c33 F; refine aA ?_; apply hK11; refine rg' (h := fun J21 hJ21 => ?_); apply hJ21; refine ⟨(i), ⟨kp, lp, ?_, lp, lp⟩, lp⟩
       · intro j h1 h2
         by_cases hj : j = i
         · subst hj; rw [← hX, ← hY]; have h := c24; have h' := c33; simp at h h'; omega
         · exact hE j (by omega) h2
  try exact aK c13
  all_goals
   replace F := aF c13 F
   obtain rfl : n = 0 := by simp at c13; omega
   have hxy : x = y := by have := tM (b := 65536) (n := 16) (i := 0) (by omega) hx4 hy4 (by omega) hE; simpa using this
   have hcI : nG x y = 0 := by rw [hxy]; exact Fz y
   replace F := aF hcI F; refine bJ ?_; apply hK5; refine sr fun _ hJ23 => ?_; apply hJ23; refine ra ?_; exact gcr
theorem pF (b n V : Nat) : eA b (cR b n V ++ [V / b ^ n]) = V := by
 rw [vM, e9, oJ, Nat.mod_add_div]
attribute [local simp] lJ in
theorem EV {σ : St} {x y : Nat} (hx : x < 2 ^ 256) (hy : y < 2 ^ 256) :
  aE Tryz.prog 77 [.agg (aM x), .agg (aM y)] σ (fun av σ' => av = .tup [.agg (aM (nH x y)), .v (.bool (decide (x + y < 2 ^ 256)))] ∧ σ = σ') := by
 refine aU ?_ (by simp [AV.under, bB, aM])
 have e256 : (65536 : Nat) ^ 16 = 2 ^ 256 := by rw [show (65536 : Nat) = 2 ^ 16 from rfl, ← Nat.pow_mul]
 have hx4 : x < 65536 ^ 16 := by rw [e256]; exact hx
 have hy4 : y < 65536 ^ 16 := by rw [e256]; exact hy
 obtain ⟨X, hX⟩ : ∃ X, X = cR 65536 16 x := ⟨_, rfl⟩
 obtain ⟨Y, hY⟩ : ∃ Y, Y = cR 65536 16 y := ⟨_, rfl⟩
 have hXl : X.length = 16 := by rw [hX]; simp
 have hYl : Y.length = 16 := by rw [hY]; simp
 have hXm : ∀ d ∈ X, d < 65536 := by rw [hX]; exact iT (by decide)
 have hYm : ∀ d ∈ Y, d < 65536 := by rw [hY]; exact iT (by decide)
 have hXY : X.length = Y.length := by omega
 have hvs : eA 65536 (p9 X Y 16) = x + y := by
  rw [show 16 = X.length by omega, Ch hXY, Dc _ _ _ hXY, hX, hY, e9, e9, Nat.mod_eq_of_lt hx4, Nat.mod_eq_of_lt hy4]
 have F := True.intro
 refine aB Tryz.func77 rfl rfl rfl ?_; refine sr fun _ hJ2 => ?_; apply hJ2; refine sq fun K3 hK3 => ?_
 refine bI (by kernel_rfl) fun J4 hJ4 => ?_
 refine q2 0 ?_; refine q2 2 ?_; refine dc 1 rfl (c := r6 (x := x)) (k := ?_); rintro _ _ ⟨rfl, rfl⟩
 refine ⟨by first | exact fun _ _ h => h | (refine aH [2] (by kernel_rfl) ?_; (repeat' first | exact ln2 | refine lc ?_ ?_) <;> constructor <;> first | rfl | (simp [F]; done)), ?_⟩
 (repeat first | simp [F] | simp (disch := omega) only [wC, if_pos, if_neg]); refine dc 3 rfl (c := mO (x := y)) (k := ?_); rintro _ _ ⟨rfl, rfl⟩; refine ⟨ln, ?_⟩; (repeat first | simp [F] | simp (disch := omega) only [wC, if_pos, if_neg]); refine q2 4 ?_; refine q2 5 ?_; refine dd ?_; apply hJ4; apply hK3; refine sq fun K5 hK5 => ?_; refine sr fun _ hJ7 => ?_; apply hJ7; refine aD ?_; refine cK (X := Nat) [4, 5, 6, 7] (fun i ρ σ1 => (i ≤ 16) ∧ (ρ 8 = .v (.int .i64 i)) ∧ (σ1 = { σ with objs := σ.objs ++ [aM x, aM y, aM 0], rows := σ.rows ++ [⟨16, dH (p9 X Y i), none⟩] })) (fun i => 16 - i) (0) ?st1 ?rd1
 case st1 =>
  refine ⟨lp, lp, ?_⟩
  · rw [Gm, hX]; simp [fS]
 case rd1 =>
  rintro i ρ1 σ1 hF1 ⟨hi, h8, hσ⟩; obtain rfl := hσ.symm
  have f1 := dU hF1
  (try simp [dT, F] at f1); replace F := aF h8 F; (try replace F := aF f1 F); refine sq fun K8 hK8 => ?_; refine sr fun _ hJ10 => ?_; apply hJ10; refine cs (fun c14 => ?_) (fun c14 => ?_)
  · (try exact aK c14); all_goals have c14p := c14; try simp [F] at c14p
    all_goals
     replace F := aF c14 F; (try replace F := aF c14p F); refine aA ?_; apply hK8; refine sq fun K11 hK11 => ?_; refine aD ?_
     have hi16 : i < 16 := by simp at c14; omega
     obtain ⟨p, hp⟩ : ∃ p, p = X[i] := ⟨_, rfl⟩
     obtain ⟨q, hq⟩ : ∃ q, q = Y[i] := ⟨_, rfl⟩
     have hgx : (dH (p9 X Y i))[i]? = some (.v (.int .u64 p)) := by rw [hp]; exact kL (ID hXY (by omega))
     have hgy : (dH (cR 65536 16 y))[i]? = some (.v (.int .u64 q)) := by rw [← hY, hq]; exact kL (List.getElem?_eq_getElem (by omega))
     obtain ⟨_, hgx2⟩ := List.getElem?_eq_some_iff.1 hgx
     obtain ⟨_, hgy2⟩ := List.getElem?_eq_some_iff.1 hgy
     have hdy : List.drop i (dH (cR 65536 16 y)) = .v (.int .u64 q) :: List.drop (i + 1) (dH (cR 65536 16 y)) := by rw [List.drop_eq_getElem_cons (by simpa using hi16), hgy2]
     have hpl : p < 65536 := by rw [hp]; exact hXm _ (List.getElem_mem _)
     have hql : q < 65536 := by rw [hq]; exact hYm _ (List.getElem_mem _)
     have hal := B7 hXY (show i ≤ X.length by omega)
     rw [hXl] at hal
     obtain ⟨s, hs⟩ : ∃ s, s = p + q := ⟨_, rfl⟩
     have hsw : IntKind.u64.wrap ((p : Int) + q) = (s : Int) := by rw [show (p : Int) + q = (s : Int) by omega]; exact lF (by omega)
     have hset := jB (p9 X Y i) i s (by omega)
     rw [hs, hp, hq, IS hXY (by omega), ← hp, ← hq, ← hs] at hset
     have hii : (i : Int) < 16 := by omega
     replace F := aF hgx F; replace F := aF hgy F; replace F := aF hgx2 F; replace F := aF hgy2 F; replace F := aF hdy F; replace F := aF hal F; replace F := aF hsw F; replace F := aF hi16 F; replace F := aF hii F
     refine bI (by kernel_rfl) fun J12 hJ12 => ?_
     refine q2 0 ?_; refine q2 1 ?_; refine q2 2 ?_; refine q2 3 ?_; refine q2 4 ?_; refine q2 5 ?_; refine q2 6 ?_; refine q2 7 ?_; refine q2 8 ?_; refine q2 9 ?_; refine dop 10 rfl ?_; (repeat first | simp [F] | simp (disch := omega) only [wC, if_pos, if_neg]); refine ⟨ln, ?_⟩; refine dd ?_; apply hJ12; apply hK11; refine rg' (h := fun J13 hJ13 => ?_); apply hJ13; refine ⟨(i + 1), ⟨kp, lp, lp, ?_⟩, lp⟩
     · simp [F, hset]
  (try exact aK c14); all_goals have c14p := c14; try simp [F] at c14p
  all_goals
   replace F := aF c14 F; try replace F := aF c14p F
   obtain rfl : i = 16 := by simp at c14; omega
   have hal := B7 hXY (show 16 ≤ X.length by omega)
   rw [hXl] at hal
   have hsm : ∀ d ∈ p9 X Y 16, d ≤ 4611686018427387904 := by rw [show p9 X Y 16 = List.zipWith (· + ·) X Y by rw [← Ch hXY, hXl]]; intro d hd; have := LP hXm hYm d hd; omega
   refine bJ ?_; apply hK5; refine sr fun _ hJ15 => ?_
   refine ca (c := CF (k := σ.rows.length) (g := 16) (n := 16) (L := p9 X Y 16) (by simp) hal (by omega) hsm) (k := ?_)
   rintro _ _ ⟨rfl, rfl⟩
   rw [hvs]
   (repeat first | simp [F] | simp (disch := omega) only [wC, if_pos, if_neg]); refine Jj 28 1 (k := ?_)
   refine ca (c := zS (L := cR 65536 16 (x + y) ++ [(x + y) / 65536 ^ 16]) (n := 17) (by simp) (by omega) (by omega) (by rw [List.take_append_of_le_length (by simp), List.take_of_length_le (by simp)]; exact iT (by decide))) (k := ?_)
   rintro _ _ ⟨rfl, rfl⟩
   rw [pF]
   have hN : (if x + y < 2 ^ 256 then x + y else 0) = nH x y := rfl
   rw [hN]
   (repeat first | simp [F] | simp (disch := omega) only [wC, if_pos, if_neg]); apply hJ15; refine bQ ?_; (try simp only [eD, bG, bV]); refine gY (h := ?_); exact gcr
attribute [local simp] lJ in
theorem yW {σ : St} {x y : Nat} (hx : x < 2 ^ 256) (hy : y < 2 ^ 256) :
  aE Tryz.prog 82 [.agg (aM x), .agg (aM y)] σ (fun av σ' => av = .agg (aM (x - y)) ∧ σ = σ') := by
 refine aU ?_ (by simp [AV.under, bB, aM])
 have e256 : (65536 : Nat) ^ 16 = 2 ^ 256 := by rw [show (65536 : Nat) = 2 ^ 16 from rfl, ← Nat.pow_mul]
 have hx4 : x < 65536 ^ 16 := by rw [e256]; exact hx
 have hy4 : y < 65536 ^ 16 := by rw [e256]; exact hy
 obtain ⟨s4, hs4⟩ : ∃ s4, s4 = x + 65536 ^ 16 - y := ⟨_, rfl⟩
 have F := True.intro
 refine aB Tryz.func82 rfl rfl rfl ?_; refine sr fun _ hJ2 => ?_; apply hJ2; refine sq fun K3 hK3 => ?_; refine sr fun _ hJ5 => ?_; refine ca (c := Bv hx hy) (k := ?_); rintro _ _ ⟨rfl, rfl⟩; (try simp [F]); apply hJ5; refine cs (fun c15 => ?_) (fun c15 => ?_)
 · try exact aK c15
   all_goals
    replace F := aF c15 F
    have h0 : x - y = 0 := by have h := c15; simp only [decide_eq_true_eq] at h; unfold nG at h; split at h <;> first | omega | (split at h <;> omega)
    replace F := aF h0 (And.intro fS F); refine sr fun _ hJ7 => ?_; apply hJ7; refine bQ ?_; (try simp only [eD, bG, bV]); refine j1 (h := ?_); exact gcr
 try exact aK c15
 all_goals
  replace F := aF c15 F
  have hyx : y < x := by have h := c15; simp only [decide_eq_false_iff_not] at h; unfold nG at h; split at h <;> first | omega | (split at h <;> omega)
  refine aA ?_; apply hK3; refine sq fun K8 hK8 => ?_
  refine bI (by kernel_rfl) fun J9 hJ9 => ?_
  refine q2 0 ?_; refine q2 2 ?_; refine dc 1 rfl (c := r6 (x := x)) (k := ?_); rintro _ _ ⟨rfl, rfl⟩
  refine ⟨by first | exact fun _ _ h => h | (refine aH [2] (by kernel_rfl) ?_; (repeat' first | exact ln2 | refine lc ?_ ?_) <;> constructor <;> first | rfl | (simp [F]; done)), ?_⟩
  (try simp [F]); refine dc 3 rfl (c := mO (x := y)) (k := ?_); rintro _ _ ⟨rfl, rfl⟩; refine ⟨ln, ?_⟩; (try simp [F]); refine q2 4 ?_; refine q2 5 ?_; refine dd ?_; apply hJ9; apply hK8; refine sr fun _ hJ11 => ?_; apply hJ11; refine sq fun K12 hK12 => ?_; refine sr fun _ hJ14 => ?_; apply hJ14; refine aD ?_; refine cK (X := Nat) [4, 5, 6] (fun i ρ σ1 => (i ≤ 16) ∧ (ρ 7 = .v (.int .u64 (o9 65536 x y i : Nat))) ∧ (ρ 8 = .v (.int .i64 i)) ∧ (σ1 = { σ with objs := σ.objs ++ [aM x, aM y, aM 0], rows := σ.rows ++ [⟨16, dH (mix 65536 16 i s4 x), none⟩] })) (fun i => 16 - i) (0) ?st1 ?rd1
  case st1 =>
   refine ⟨lp, ?_, lp, ?_⟩
   · simp [vG]
   · rw [o8]; simp [fS]
  case rd1 =>
   rintro i ρ1 σ1 hF1 ⟨hi, h7, h8, hσ⟩; obtain rfl := hσ.symm
   have f1 := dU hF1
   (try simp [dT, F] at f1); replace F := aF h7 F; replace F := aF h8 F; (try replace F := aF f1 F); refine sq fun K15 hK15 => ?_; refine sr fun _ hJ17 => ?_; apply hJ17; refine cs (fun c22 => ?_) (fun c22 => ?_)
   · try exact aK c22
     all_goals
      replace F := aF c22 F; refine aA ?_; apply hK15; refine sq fun K18 hK18 => ?_; refine aD ?_; refine sq fun K19 hK19 => ?_
      have hi16 : i < 16 := by simp at c22; omega
      have hgx := oZ (b := 65536) (s := s4) (x := x) hi16
      have hgy := eU (b := 65536) (x := y) hi16
      have hml := pP (b := 65536) (s := s4) (x := x) (Nat.le_of_lt hi16)
      obtain ⟨p, hp⟩ : ∃ p, p = x / 65536 ^ i % 65536 := ⟨_, rfl⟩
      obtain ⟨q, hq⟩ : ∃ q, q = y / 65536 ^ i % 65536 := ⟨_, rfl⟩
      rw [← hp] at hgx
      rw [← hq] at hgy
      obtain ⟨_, hgx2⟩ := List.getElem?_eq_some_iff.1 hgx
      obtain ⟨_, hgy2⟩ := List.getElem?_eq_some_iff.1 hgy
      have hii : (i : Int) < 16 := by omega
      have hdy : List.drop i (dH (cR 65536 16 y)) = .v (.int .u64 q) :: List.drop (i + 1) (dH (cR 65536 16 y)) := by rw [List.drop_eq_getElem_cons (by simpa using hi16), hgy2]
      have hpl : p < 65536 := by rw [hp]; exact Nat.mod_lt _ (by decide)
      have hql : q < 65536 := by rw [hq]; exact Nat.mod_lt _ (by decide)
      obtain ⟨c, hc⟩ : ∃ c, c = o9 65536 x y i := ⟨_, rfl⟩
      have hcl : c ≤ 1 := by rw [hc]; exact Bs _ _ _ _
      rw [← hc] at h7 F
      obtain ⟨n, hn⟩ : ∃ n, n = p + 65536 - q - c := ⟨_, rfl⟩
      have hne : (p : Int) + 65536 - q - c = (n : Int) := by omega
      obtain ⟨m, hm⟩ : ∃ m, m = n % 65536 := ⟨_, rfl⟩
      obtain ⟨v, hv⟩ : ∃ v, v = n / 65536 := ⟨_, rfl⟩
      obtain ⟨c2, hc2⟩ : ∃ c2, c2 = 1 - v := ⟨_, rfl⟩
      have hv1 : v ≤ 1 := by omega
      have hn6 : (n : Int).tmod 65536 = (m : Int) := by rw [Int.tmod_eq_emod_of_nonneg (by omega)]; omega
      have hn7 : (n : Int).tdiv 65536 = (v : Int) := by rw [Int.tdiv_eq_ediv_of_nonneg (by omega)]; omega
      have hn8 : (n : Int) % 65536 = (m : Int) := by omega
      have hn9 : (n : Int) / 65536 = (v : Int) := by omega
      have hw2 : IntKind.u64.wrap (1 - (v : Int)) = (c2 : Int) := by rw [eI (by omega)]; omega
      have hdg : m = s4 / 65536 ^ i % 65536 := by rw [hm, hn, hs4, hp, hq, hc]; exact zX (by decide) hi16 hx4 hy4
      have hc3 : c2 = o9 65536 x y (i + 1) := by rw [← vO (by decide), ← hp, ← hq, ← hc]; split <;> omega
      have hset := oF (b := 65536) (s := s4) (x := x) hi16
      rw [← hdg] at hset
      replace F := aF hgx F; replace F := aF hgy F; replace F := aF hgx2 F; replace F := aF hgy2 F; replace F := aF hdy F; replace F := aF hml F; replace F := aF hne F; replace F := aF hn6 F; replace F := aF hn7 F; replace F := aF hn8 F; replace F := aF hn9 F; replace F := aF hw2 F; replace F := aF hi16 F; replace F := aF hii F
      refine bI (by kernel_rfl) fun J20 hJ20 => ?_
      refine q2 0 ?_; refine q2 1 ?_; refine q2 2 ?_; refine q2 3 ?_; refine q2 4 ?_; refine q2 5 ?_; refine q2 6 ?_; refine q2 7 ?_; refine q2 8 ?_; refine q2 9 ?_; refine q2 10 ?_; refine q2 11 ?_; refine q2 12 ?_; refine dd ?_; apply hJ20; apply hK19; refine sr fun _ hJ22 => ?_; apply hJ22; refine rg' (h := fun J23 hJ23 => ?_); apply hJ23; apply hK18; refine rg' (h := fun J24 hJ24 => ?_); apply hJ24; refine ⟨(i + 1), ⟨kp, lp, ?_, lp, ?_⟩, lp⟩
      · simp only [aP]
        try simp [F]
        rw [← hc3]
        omega
      · simp [F, hset]
   try exact aK c22
   all_goals
    replace F := aF c22 F
    obtain rfl : i = 16 := by simp at c22; omega
    rw [rS]
    refine vD 5 1 (k := ?_); refine bJ ?_; apply hK12; refine sq fun K25 hK25 => ?_
    have hv : eA 65536 (cR 65536 16 s4) = x - y := by rw [e9, hs4, show x + 65536 ^ 16 - y = (x - y) + 65536 ^ 16 by omega, Nat.add_mod_right, Nat.mod_eq_of_lt (by omega)]
    refine rg' (h := fun J26 hJ26 => ?_)
    refine ca (c := zS (L := cR 65536 16 s4) (n := 16) (by simp) (by omega) (by omega) (by rw [List.take_of_length_le (by simp)]; exact iT (by decide))) (k := ?_)
    rintro _ _ ⟨rfl, rfl⟩
    rw [hv]
    have hfit : x - y < 2 ^ 256 := by omega
    rw [if_pos hfit]
    (try simp [F]); apply hJ26; apply hK25; refine sr fun _ hJ28 => ?_; apply hJ28; refine bQ ?_; (try simp only [eD, bG, bV]); refine j1 (h := ?_); exact gcr
end Go.Proofs.YtjpnjhlfieklfaaGreat
namespace Go.Proofs.YtjpnjhlfieklfaaGreat
open Go Go.Vm
attribute [local simp] dM aI dJ opA bH bN cM bP ofValue dC plain aQ aR cA b8 cC cB bY b7 b9 bZ cV gN bW cG cD b6 bU aT aS bO cU aW dQ dR bK aZ cL gA bS mS kE dE cF j7 kD JU dG gH maxLen AV.cells AV.bL dF cO eZ bF aV cQ dI dS dV cN aN dP dO fX eY eV cW cT cI List.getElem?_cons_zero List.getElem?_cons_succ
set_option maxHeartbeats 1600000 in
attribute [local simp] dA List.getElem?_cons_zero List.getElem?_cons_succ lJ in
theorem Kx {σ : St} {x y : Nat} (hx : x < 2 ^ 256) (hy : y < 2 ^ 256) :
  aE Tryz.prog 144 [.agg (aM x), .agg (aM y)] σ (fun av σ' => av = .sl 1 (dH (cR 65536 32 (x * y))) 32 .shut ∧ σ = σ') := by
 refine aU ?_ (by simp [AV.under, bB, m7])
 have e256 : (65536 : Nat) ^ 16 = 2 ^ 256 := by rw [show (65536 : Nat) = 2 ^ 16 from rfl, ← Nat.pow_mul]
 have hx4 : x < 65536 ^ 16 := by rw [e256]; exact hx
 have hy4 : y < 65536 ^ 16 := by rw [e256]; exact hy
 have F := True.intro
 refine aB Tryz.func144 rfl rfl rfl ?_; refine sr fun _ hJ2 => ?_; apply hJ2; refine sq fun K3 hK3 => ?_
 refine bI (by kernel_rfl) fun J4 hJ4 => ?_
 refine q2 0 ?_; refine q2 2 ?_; refine dc 1 rfl (c := mO) (k := ?_); rintro _ _ ⟨rfl, rfl⟩
 refine ⟨by first | exact fun _ _ h => h | (refine aH [2] (by kernel_rfl) ?_; (repeat' first | exact ln2 | refine lc ?_ ?_) <;> constructor <;> first | rfl | (simp [F]; done)), ?_⟩
 (try simp [F]); refine dc 3 rfl (c := mO) (k := ?_); rintro _ _ ⟨rfl, rfl⟩; refine ⟨ln, ?_⟩; (try simp [F]); refine q2 4 ?_; refine q2 5 ?_; refine dd ?_; apply hJ4; apply hK3; refine sr fun _ hJ6 => ?_; apply hJ6; refine sq fun K7 hK7 => ?_; refine sr fun _ hJ9 => ?_; apply hJ9; refine aD ?_; refine cK (X := Nat) [4, 5, 6, 7] (fun i ρ σ1 => (i ≤ 16) ∧ (ρ 8 = .v (.int .i64 i)) ∧ (σ1 = { σ with objs := σ.objs ++ [aM x, aM y], rows := σ.rows ++ [⟨0, dH (cR 65536 32 ((x % 65536 ^ i) * y)), some 0⟩] })) (fun i => 16 - i) (0) ?st1 ?rd1
 case st1 =>
  refine ⟨lp, lp, ?_⟩
  · simp [Nat.mod_one, AZ]
 case rd1 =>
  rintro i ρ1 σ1 hF1 ⟨hi, h8, hσ⟩; obtain rfl := hσ.symm
  have f1 := dU hF1
  (try simp [dT, F] at f1); replace F := aF h8 F; (try replace F := aF f1 F); refine sq fun K10 hK10 => ?_; refine sr fun _ hJ12 => ?_; apply hJ12; refine cs (fun c18 => ?_) (fun c18 => ?_)
  · all_goals
     replace F := aF c18 F; refine aA ?_; apply hK10; refine sq fun K13 hK13 => ?_; refine aD ?_; refine sq fun K14 hK14 => ?_
     have hi16 : i < 16 := by simp at c18; omega
     have hgx := eU (b := 65536) (x := x) hi16
     obtain ⟨X, hX⟩ : ∃ X, X = x / 65536 ^ i % 65536 := ⟨_, rfl⟩
     rw [← hX] at hgx
     obtain ⟨_, hgx2⟩ := List.getElem?_eq_some_iff.1 hgx
     have hi5 : (i : Int) < 16 := by omega
     have hXl : X < 65536 := by rw [hX]; exact Nat.mod_lt _ (by decide)
     have hdx : List.drop i (dH (cR 65536 16 x)) = .v (.int .u64 X) :: List.drop (i + 1) (dH (cR 65536 16 x)) := by rw [List.drop_eq_getElem_cons (by simpa using hi16), hgx2]
     replace F := aF hgx F; replace F := aF hgx2 F; replace F := aF hdx F; replace F := aF hi16 F; replace F := aF hi5 F; refine rg' (h := fun J15 hJ15 => ?_); apply hJ15; apply hK14; refine sq fun K16 hK16 => ?_; refine sr fun _ hJ18 => ?_; apply hJ18; refine aD ?_; refine cK (X := TS) [4, 5, 6, 7, 8, 17, 18] (fun q ρ σ1 => (q.k ≤ 16) ∧ (mM x y i X q.k q.P q.c) ∧ (ρ 9 = .v (.int .u64 q.c)) ∧ (ρ 10 = .v (.int .i64 q.k)) ∧ (σ1 = { σ with objs := σ.objs ++ [aM x, aM y], rows := σ.rows ++ [⟨0, dH q.P, some 0⟩] })) (fun q => 16 - q.k) (⟨0, cR 65536 32 ((x % 65536 ^ i) * y), 0⟩) ?st2 ?rd2
     case st2 =>
      refine ⟨lp, ?_, lp, lp, ?_⟩
      · exact zZ hi hy4
      · rfl
     case rd2 =>
      rintro q ρ2 σ1 hF2 ⟨hk, hT, h9, h10, hσ2⟩; obtain rfl := hσ2.symm
      have f2 := dU hF2
      (try simp [dT, F] at f2); replace F := aF h9 F; replace F := aF h10 F; (try replace F := aF f2 F); refine sq fun K19 hK19 => ?_; refine sr fun _ hJ21 => ?_; apply hJ21; refine cs (fun c22 => ?_) (fun c22 => ?_)
      · all_goals
         replace F := aF c22 F; refine aA ?_; apply hK19; refine sq fun K22 hK22 => ?_; refine aD ?_; refine sq fun K23 hK23 => ?_
         have hk16 : q.k < 16 := by simp at c22; omega
         have hgy := eU (b := 65536) (x := y) hk16
         obtain ⟨Y, hY⟩ : ∃ Y, Y = y / 65536 ^ q.k % 65536 := ⟨_, rfl⟩
         rw [← hY] at hgy
         obtain ⟨_, hgy2⟩ := List.getElem?_eq_some_iff.1 hgy
         have hk5 : (q.k : Int) < 16 := by omega
         have hYl : Y < 65536 := by rw [hY]; exact Nat.mod_lt _ (by decide)
         have hdy : List.drop q.k (dH (cR 65536 16 y)) = .v (.int .u64 Y) :: List.drop (q.k + 1) (dH (cR 65536 16 y)) := by rw [List.drop_eq_getElem_cons (by simpa using hk16), hgy2]
         have hPl := hT.1
         obtain ⟨p, hp⟩ : ∃ p, q.P[i + q.k]? = some p := ⟨_, List.getElem?_eq_getElem (by omega)⟩
         have hp2 := (List.getElem?_eq_some_iff.1 hp).2
         have hgp : (dH q.P)[i + q.k]? = some (.v (.int .u64 p)) := kL hp
         obtain ⟨_, hgp2⟩ := List.getElem?_eq_some_iff.1 hgp
         have hpl : p < 65536 := hT.2.1 p (List.mem_of_getElem? hp)
         have hcl := hT.2.2.1
         have htn : ((i : Int) + (q.k : Int)).toNat = i + q.k := by omega
         obtain ⟨M, hM⟩ : ∃ M, M = X * Y := ⟨_, rfl⟩
         have hMl : M ≤ 65535 * 65535 := by rw [hM]; exact Nat.mul_le_mul (by omega) (by omega)
         have hMw : IntKind.u64.wrap ((X : Int) * Y) = (M : Int) := by rw [KD, ← hM, Nat.mod_eq_of_lt (by omega)]
         obtain ⟨n, hn⟩ : ∃ n, n = M + p + q.c := ⟨_, rfl⟩
         have hne : (p : Int) + M + q.c = (n : Int) := by omega
         obtain ⟨m, hm⟩ : ∃ m, m = n % 65536 := ⟨_, rfl⟩
         obtain ⟨v, hv⟩ : ∃ v, v = n / 65536 := ⟨_, rfl⟩
         have hn6 : (n : Int).tmod 65536 = (m : Int) := by rw [Int.tmod_eq_emod_of_nonneg (by omega)]; omega
         have hn7 : (n : Int).tdiv 65536 = (v : Int) := by rw [Int.tdiv_eq_ediv_of_nonneg (by omega)]; omega
         have hn8 : (n : Int) % 65536 = (m : Int) := by omega
         have hn9 : (n : Int) / 65536 = (v : Int) := by omega
         have hib : (i : Int) + q.k < 32 := by omega
         have hib2 : (0 : Int) ≤ (i : Int) + q.k := by omega
         have hib3 : i + q.k < 32 := by omega
         have hset := jB q.P (i + q.k) m (by omega)
         replace F := aF hgy F; replace F := aF hgy2 F; replace F := aF hdy F; replace F := aF hk16 F; replace F := aF hk5 F; replace F := aF hgp F; replace F := aF hgp2 F; replace F := aF htn F; replace F := aF hPl F; replace F := aF hib F; replace F := aF hib2 F; replace F := aF hib3 F; replace F := aF hMw F; replace F := aF hne F; replace F := aF hn6 F; replace F := aF hn7 F; replace F := aF hn8 F; replace F := aF hn9 F
         refine bI (by kernel_rfl) fun J24 hJ24 => ?_
         refine q2 0 ?_; refine q2 1 ?_; refine q2 2 ?_; refine q2 3 ?_; refine q2 4 ?_; refine q2 5 ?_; refine q2 6 ?_; refine q2 7 ?_; refine q2 8 ?_; refine q2 9 ?_; refine q2 10 ?_; refine q2 11 ?_; refine q2 12 ?_; refine q2 13 ?_; refine q2 14 ?_; refine q2 15 ?_; refine q2 16 ?_; refine q2 17 ?_; refine q2 18 ?_; refine dd ?_; apply hJ24; apply hK23; refine sr fun _ hJ26 => ?_; apply hJ26; refine rg' (h := fun J27 hJ27 => ?_); apply hJ27; apply hK22; refine rg' (h := fun J28 hJ28 => ?_); apply hJ28; refine ⟨(⟨q.k + 1, q.P.set (i + q.k) m, v⟩), ⟨kp, lp, ?_, lp, lp, ?_⟩, lp⟩
         · exact B1 (s := m) (c' := v) hT hi16 hk16 hXl hp hY.symm (by omega) (by omega)
         · simp [F, hset]
      all_goals
       replace F := aF c22 F
       have hk16 : q.k = 16 := by simp at c22; omega
       rw [hk16] at hT
       have hlast := Bx hT hi16 hX.symm hy4
       have hPl := hT.1
       have hcl := hT.2.2.1
       have hset := jB q.P (i + 16) q.c (by omega)
       have hgp : (dH q.P)[i + 16]? = some (.v (.int .u64 (0 : Nat))) := kL (BJ hT hi16 hy4)
       obtain ⟨_, hgp2⟩ := List.getElem?_eq_some_iff.1 hgp
       have hib : (i : Int) + 16 < 32 := by omega
       have hib3 : i + 16 < 32 := by omega
       have htn : ((i : Int) + 16).toNat = i + 16 := by omega
       have hib2 : (0 : Int) ≤ (i : Int) + 16 := by omega
       rw [hlast] at hset
       replace F := aF hib (And.intro hib3 (And.intro htn (And.intro hib2 (And.intro hPl (And.intro hgp (And.intro hgp2 F)))))); refine bJ ?_; apply hK16; refine rg' (h := fun J29 hJ29 => ?_); apply hJ29; apply hK13; refine rg' (h := fun J30 hJ30 => ?_); apply hJ30; refine ⟨(i + 1), ⟨kp, lp, lp, ?_⟩, lp⟩
       · simp [F, hset]
  all_goals
   replace F := aF c18 F
   obtain rfl : i = 16 := by simp at c18; omega
   have hxm : x % 65536 ^ 16 = x := Nat.mod_eq_of_lt hx4
   rw [hxm]
   refine bJ ?_; apply hK7; refine sq fun K31 hK31 => ?_; refine vD 7 1 (k := ?_); refine rg' (h := fun J32 hJ32 => ?_); apply hJ32; apply hK31; refine ra ?_; exact gcr
end Go.Proofs.YtjpnjhlfieklfaaGreat
namespace Go.Vm
open Go
section
variable {P : Program} {G : Gh} {w : World} {σ : St}
theorem yK {t : TypeId} {len sz n : Nat} {cs : List AV} {tl : eO} {vs : List (Nat × Value)} {ps : List (Nat × AV)} (hv : Fa2 (fun (p : Nat × Value) (q : Nat × AV) => p.1 = q.1 ∧ AVR G w p.2 q.2) vs ps) (h : aN P t len ps = some (.sl sz cs n tl)) :
  ∃ c e, (Instr.buildSlice t len vs.toArray).run P w = .ok (.slice (some ⟨w.heap.size, 0, none⟩) n n) (w.alloc (.cells c e)) ∧ gE P t = some e ∧ c.size = cs.length ∧ cs.length = n * sz ∧ (∀ (q : Nat) x, c[q]? = some x → x.oneCell' = true) ∧ (∀ (q : Nat) x b, c[q]? = some x → cs[q]? = some b → AVR G w x b) := by
 unfold aN at h
 split at h
 case h_2 => cases h
 rename_i e he
 split at h
 case h_2 => cases h
 rename_i i z hi hz
 split at h
 case isFalse => cases h
 rename_i hcond
 obtain ⟨hpos, hzl, hlim⟩ := hcond
 split at h
 case h_2 => cases h
 rename_i cs hf
 split at h
 case isFalse => cases h
 rename_i hall
 cases h
 obtain ⟨zv, hzr, hzv⟩ := nK (G := G) (w := w) hz
 obtain ⟨d, j, hd, hj, hzj, hag, hsz, hby⟩ := gQ hi
 obtain ⟨hce, hcr⟩ := hzv.lV
 have ht := fE he
 have hlim' : ¬ (len * j.size > 2 ^ 24) := by rw [← hsz]; omega
 let z0 : Array Value := if len * j.size = 0 then #[] else zv.cells
 let cur : Array Value := (Array.range (len * j.size)).map (fun x => z0[x % z0.size]!)
 have hcur : cur.size = len * j.size := by simp [cur]
 have hcr2 : ∀ (k : Nat) x b, cur[k]? = some x → ((List.range (len * i.size)).map fun k => z.cells.getD (k % i.size) dA)[k]? = some b → AVR G w x b := by
  intro k x b hx hb
  have hk : k < len * j.size := by have := (Array.getElem?_eq_some_iff.1 hx).1; omega
  have hk' : k < len * i.size := by rw [hsz]; exact hk
  have hne : ¬ (len * j.size = 0) := by omega
  have hz0e : z0 = zv.cells := by simp [z0, hne]
  have hmod : k % zv.cells.size < zv.cells.size := Nat.mod_lt _ (by rw [hce, hzl]; exact hpos)
  simp [cur, hk, hz0e] at hx
  simp [hk'] at hb
  subst hx
  have hcs : zv.cells.size = i.size := by rw [hce, hzl]
  rw [getElem!_pos zv.cells (k % zv.cells.size) hmod]
  refine hcr (k % zv.cells.size) _ _ (Array.getElem?_eq_getElem hmod) ?_
  rw [hcs]
  have := y3 z.cells k i.size hzl hpos
  rw [this, ← hb]
  simp [List.getD]
 obtain ⟨c, hc, hcl, hcr3⟩ := pS (fun i' => some (i' * j.size, j.size)) _ (fun q x h => by
  simp only [List.getElem?_map] at h
  by_cases hq : q < len
  · simp [hq] at h; rw [← h, hsz]
  · simp [hq] at h) vs ps cur _ cs hv (by simp [hcur, hsz]) hcr2 hf
 have hcsz : c.size = len * i.size := by
  have : ∀ (zs : List (Nat × AV)) (x y : List AV), dS ((List.range len).map fun k => (k * i.size, i.size)) x zs = some y → y.length = x.length := by
   intro zs
   induction zs with
   | nil => intro x y h; simp [dS] at h; rw [h]
   | cons p zs ih =>
     intro x y h
     unfold dS at h
     split at h
     · split at h
       · rename_i hc
         rw [ih _ _ h, j9 _ _ _ (by rw [hc.1]; exact hc.2)]
       · cases h
     · cases h
  have := this ps _ _ hf
  simp at this
  omega
 have hrun : (Instr.buildSlice t len vs.toArray).run P w = .ok (.slice (some ⟨w.heap.size, 0, none⟩) len len) (w.alloc (.cells c e)) := by
  unfold Instr.buildSlice
  simp only [Sem.run_bind, run_underlying ht, Result.andThen_ok, run_sizeOf w hj, if_neg hlim']
  by_cases h0 : len * j.size = 0
  · have hz0e : z0 = #[] := by simp [z0, h0]
    have hc' := hc
    simp only [cur, hz0e] at hc'
    rw [if_pos h0]
    simp only [Sem.run_bind, Sem.run_pure, Result.andThen_ok]
    rw [hc']
    simp [newRow]
  · have hz0e : z0 = zv.cells := by simp [z0, h0]
    have hc' := hc
    simp only [cur, hz0e] at hc'
    rw [if_neg h0]
    simp only [Sem.run_bind, Sem.run_pure, Result.andThen_ok, hzr]
    rw [hc']
    simp [newRow]
 have hone : ∀ (q : Nat) x, c[q]? = some x → x.oneCell' = true := fun q x hq => by
  have hlt : q < cs.length := by have := (Array.getElem?_eq_some_iff.1 hq).1; omega
  exact (hcr3 q x _ hq (List.getElem?_eq_getElem hlt)).r4 (List.all_eq_true.1 hall _ (List.getElem_mem hlt))
 exact ⟨c, e, hrun, he, by omega, by omega, hone, hcr3⟩
theorem xY (hS : dD G w σ) {t : TypeId} {len sz n : Nat} {cs : List AV} {tl : eO} {vs : List (Nat × Value)} {ps : List (Nat × AV)} (hv : Fa2 (fun (p : Nat × Value) (q : Nat × AV) => p.1 = q.1 ∧ AVR G w p.2 q.2) vs ps) (h : aN P t len ps = some (.sl sz cs n tl)) :
  ∃ y w' G', (Instr.buildSlice t len vs.toArray).run P w = .ok y w' ∧ Ext G w G' w' ∧ dD G' w' { σ with rows := σ.rows ++ [⟨0, cs, none⟩] } ∧ AVR G' w' y (.row σ.rows.length 0 0 sz n) := by
 obtain ⟨c, e, hrun, _, hl, hn, hone, hcr3⟩ := yK (P := P) hv h
 obtain ⟨G', f1, f2, f3⟩ := yL hS e c cs none (by omega) (fun s e => by cases e) hone hcr3
 exact ⟨_, _, G', hrun, f1, f2, .row f3 (Nat.le_refl _) (Nat.le_refl _) (fun _ => ⟨_, _, rfl⟩) (fun _ => ⟨by omega, fun _ => rfl⟩)⟩
end
section
variable {z : kV} {P : Program} {N : Nat} {ρ : Nat → AV} {σ : St}
end
section
variable {z : kV} {P : Program} {N : Nat} {ρ : Nat → AV} {σ : St} {Q : Exit → (Nat → AV) → St → Prop} {ops : Array Oper} {rest : List Oper} {o : Oper} {K : (Nat → AV) → St → Prop}
end
end Go.Vm
