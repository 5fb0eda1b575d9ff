import Derived.Test.YtdbaddholggkbaaZ7
import Derived.Test.YtdbaddholggkbaaZ10
import Derived.Test.YtdbaddholggkbaaZ11
import Derived.Test.YtdbaddholggkbaaZ9
import Derived.RangeFuncKeeps
import Derived.RangeFuncLeaves
import Derived.Shelf.Abstract
import Derived.WalkKit
import Derived.OwnWalkIn
import Derived.TacticsInMore
import Derived.LoopNIn
import Derived.LoopIn
/-
  Numbers: sums and differences, limb by limb.
-/
namespace Go.Proofs.Ytdbaddholggkbaa
set_option linter.unnecessarySimpa false
set_option maxRecDepth 100000
open Go Go.Vm
set_option linter.unusedSimpArgs false
set_option linter.unusedVariables false
attribute [local simp] evalL wantedA isCall opA evalA evalAll evalsA evalOpt ofValue ofCell plain binA_eql_pn binA_neq_pn binA_gtr binA_lss binA_geq binA_leq binA_add binA_sub binA_eql binA_neq binA_or binA_and binA_shl binA_shr binA_mul binA_quo binA_rem binA_agg_eql binA_agg_neq convA_int unA_not fieldAddrA loadA partA pickA_true pickA_false pickA_bb lenA builtinA storeA splice AV.cells AV.isCell sliceA boundA intA callOf indexAddrA newObjA buildA fillA zeroA ofCells buildSliceA indexA fieldA numA_len4 numA_take4 numA_drop4 List.getElem?_cons_zero List.getElem?_cons_succ

theorem add64_ok {σ : St} {x y c : Nat} (hc : c ≤ 1) : ExtA Try.prog 139 [.v (.int .u64 x), .v (.int .u64 y), .v (.int .u64 c)] σ (fun av _ => ∃ s c' : Nat, s = (x + y + c) % 18446744073709551616 ∧ c' = (x + y + c) / 18446744073709551616 ∧ av = .tup [.v (.int .u64 s), .v (.int .u64 c')]) :=
  add64_ext Try.func139 (by kernel_rfl) (by kernel_rfl) (by kernel_rfl) (by kernel_rfl) hc
set_option maxHeartbeats 1600000 in
attribute [local simp] undefA List.getElem?_cons_zero List.getElem?_cons_succ in
theorem nadd_ok {σ : St} {x y : Nat} (hx : x < 2 ^ 256) (hy : y < 2 ^ 256) :
    CallsA Try.prog 118 [.agg (numA x), .agg (numA y)] σ (fun av σ' => av = .tup [.agg (numA (addN x y)), .v (.int .i64 (addE x y : Nat))] ∧ σ = σ') := by
  refine callsA_gcS ?_ (by simp [AV.under, underL, numA])
  have hx4 : x < 18446744073709551616 ^ 4 := hx
  have hy4 : y < 18446744073709551616 ^ 4 := hy
  rw [numA_digs x, numA_digs y]
  have F := True.intro
  refine callsA_body Try.func118 rfl rfl rfl ?_; refine sr fun _ hJ2 => ?_; refine hJ2 _ _ ?_; refine sr fun _ hJ4 => ?_; refine hJ4 _ _ ?_; refine sq fun K5 hK5 => ?_; refine sr fun _ hJ7 => ?_; refine hJ7 _ _ ?_; refine run_block_k ?_; refine run_loopF (X := Nat) [2, 3, 4, 5] (fun i ρ σ1 => (i ≤ 4) ∧ (ρ 6 = .v (.int .u64 (addc 18446744073709551616 x y i : Nat))) ∧ (ρ 8 = .v (.int .i64 i)) ∧ (σ1 = { σ with objs := σ.objs ++ [u64s (mix 18446744073709551616 4 i (x + y) x), u64s (digs 18446744073709551616 4 y), numA 0] })) (fun i => 4 - i) (0) ?st1 ?rd1
  case st1 =>
   refine ⟨lp, ?_, lp, ?_⟩
   · simp [addc_zero]
   · simp [mix_zero, numA_zero4]
  case rd1 =>
   rintro i ρ1 σ1 hF1 ⟨hi, h6, h8, hσ⟩; obtain rfl := hσ.symm
   have f1 := keepL hF1
   (try simp [KeepL, F] at f1); replace F := aF h6 F; replace F := aF h8 F; (try replace F := aF f1 F); refine sr fun _ hJ9 => ?_; refine hJ9 _ _ ?_; refine sq fun K10 hK10 => ?_; refine cs (fun c9 => ?_) (fun c9 => ?_)
   · try exact nope c9
     all_goals
      replace F := wf F c9; refine run_skip ?_; refine hK10 _ _ ?_; refine sq fun K11 hK11 => ?_; refine run_block_k ?_; refine sr fun _ hJ13 => ?_; refine hJ13 _ _ ?_
      have hi4 : i < 4 := by simp at c9; omega
      have hgx := mixU_get (b := 18446744073709551616) (s := x + y) (x := x) hi4
      have hgy := digU_get (b := 18446744073709551616) (x := y) hi4
      have hst := mixU_set (b := 18446744073709551616) (s := x + y) (x := x) hi4
      have hml := mix_len (b := 18446744073709551616) (s := x + y) (x := x) (Nat.le_of_lt hi4)
      generalize hX : x / 18446744073709551616 ^ i % 18446744073709551616 = X at hgx
      generalize hY : y / 18446744073709551616 ^ i % 18446744073709551616 = Y at hgy
      have hi5 : (i : Int) < 4 := by omega
      obtain ⟨_, hgx2⟩ := List.getElem?_eq_some_iff.1 hgx
      obtain ⟨_, hgy2⟩ := List.getElem?_eq_some_iff.1 hgy
      replace F := aF hgx F; replace F := aF hgy F; replace F := aF hgx2 F; replace F := aF hgy2 F; replace F := aF hml F; replace F := aF hi4 F; replace F := aF hi5 F
      refine run_draw (by kernel_rfl) fun J14 hJ14 => ?_
      refine rp2 0 (k := ?_); refine rp2 1 (k := ?_); refine rp2 2 (k := ?_); refine rp2 3 (k := ?_); refine rp2 4 (k := ?_); refine rp2 5 (k := ?_); refine rp2 6 (k := ?_); refine rp2 7 (k := ?_)
      refine de 8 rfl (c := add64_ok (x := X) (y := Y) (c := addc 18446744073709551616 x y i) (addc_le (by decide))) (k := ?_)
      rintro _ _ ⟨s, c1, hs, hc1, rfl⟩ rfl
      obtain rfl : c1 = addc 18446744073709551616 x y (i + 1) := by rw [hc1, ← hX, ← hY]; exact addc_next (by decide)
      have hs2 : s = (x + y) / 18446744073709551616 ^ i % 18446744073709551616 := by rw [hs, ← hX, ← hY]; exact addc_dig (by decide)
      rw [← hs2] at hst
      (repeat (first | simp [F] | simp (disch := omega) only [wC, if_pos, if_neg])); refine rp2 9 (k := ?_); refine rp2 10 (k := ?_); refine rp2 11 (k := ?_); refine rp2 12 (k := ?_); refine dop 13 rfl ?_; repeat (first | simp [F] | simp (disch := omega) only [wC, if_pos, if_neg])
      refine ⟨later_tmp (by kernel_rfl), ?_⟩
      refine dop 14 rfl ?_; (repeat (first | simp [F] | simp (disch := omega) only [wC, if_pos, if_neg])); (try refine ⟨ln, ?_⟩); refine dd ?_; refine hJ14 _ _ ?_; refine hK11 _ _ ?_; refine rg' (h := fun J15 hJ15 => ?_); refine hJ15 _ _ ?_; refine ⟨(i + 1), ⟨kp, lp, lp, lp, ?_⟩, lp⟩
      · simp [hst]
   try exact nope c9
   all_goals
    replace F := wf F c9
    obtain rfl : i = 4 := by simp at c9; omega
    have hma := mix_all 18446744073709551616 4 (x + y) x
    rw [hma]
    rw [addc_last hx4 hy4] at h6 F
    rw [← numA_digs]
    have hnl : (numA (x + y)).length = 4 := rfl
    have hnt : (numA (x + y)).take 4 = numA (x + y) := rfl
    replace F := aF hnl (And.intro hnt F); refine run_exit ?_; refine hK5 _ _ ?_; refine sq fun K16 hK16 => ?_; refine sr fun _ hJ18 => ?_; refine hJ18 _ _ ?_; refine cs (fun c26 => ?_) (fun c26 => ?_)
    · (try exact nope c26); all_goals have c26p := c26; try simp [F] at c26p
      all_goals
       replace F := aF c26 F; try replace F := aF c26p F
       have hbig : ¬ x + y < 2 ^ 256 := by first | (intro h; apply c26p; omega) | omega
       have hN : addN x y = 0 := if_neg hbig
       have hE : addE x y = 2 := if_neg hbig
       replace F := aF hN (And.intro hE (And.intro numA_zero4 F)); refine sr fun _ hJ20 => ?_; refine hJ20 _ _ ?_; refine run_ret ?_; (try simp only [Then, InBlock, NoGoto]); refine acell2 (h := ?_); exact gcr
    (try exact nope c26); all_goals have c26p := c26; try simp [F] at c26p
    all_goals
     replace F := aF c26 F; try replace F := aF c26p F
     have hbig : x + y < 2 ^ 256 := by first | omega | (simp at c26p; omega)
     have hN : addN x y = x + y := if_pos hbig
     have hE : addE x y = 0 := if_pos hbig
     replace F := aF hN (And.intro hE F); refine run_skip ?_; refine hK16 _ _ ?_; refine sr fun _ hJ22 => ?_; refine hJ22 _ _ ?_; refine run_ret ?_; (try simp only [Then, InBlock, NoGoto]); refine acell2 (h := ?_); exact gcr

structure TS where
  k : Nat
  P : List Nat
  c : Nat
end Go.Proofs.Ytdbaddholggkbaa

/-
  Coins: amounts, sums, rests.
-/
namespace Go.Proofs.Ytdbaddholggkbaa
set_option linter.unnecessarySimpa false
set_option maxRecDepth 100000
open Go Go.Vm
set_option linter.unusedSimpArgs false
set_option linter.unusedVariables false
attribute [local simp] evalL wantedA isCall opA evalA evalAll evalsA evalOpt ofValue ofCell plain binA_eql_pn binA_neq_pn binA_gtr binA_lss binA_geq binA_leq binA_add binA_sub binA_eql binA_neq binA_orI binA_andI binA_shl binA_shr binA_mul binA_quo binA_rem binA_agg_eql binA_agg_neq convA_int unA_not fieldAddrA loadA partA pickA_true pickA_false pickA_bb lenA builtinA storeA splice AV.cells AV.isCell sliceA boundA intA callOf indexAddrA newObjA buildA fillA zeroA ofCells buildSliceA indexA fieldA numA_len4 numA_take4 numA_drop4 set_appN get_appN take_appN List.getElem?_cons_zero List.getElem?_cons_succ

set_option maxHeartbeats 1600000 in
attribute [local simp] undefA List.getElem?_cons_zero List.getElem?_cons_succ numA_zero4 coinC in
theorem amount_ok {σ : St} {l : List Coin} {d : UInt8} {tl : Tail} (hl : l.length ≤ 9223372036854775807) :
    CallsA Try.prog 144 [.sl 5 (coinsC l) l.length tl, .v (.int .u8 d.toNat)] σ (fun av σ' => av = .agg (numA (amt l d.toNat)) ∧ σ = σ') := by
  refine callsA_gcS ?_ rfl
  have F := True.intro
  refine callsA_body Try.func144 rfl rfl rfl ?_; refine sr fun _ hJ2 => ?_; refine hJ2 _ _ ?_; refine sq fun K3 hK3 => ?_; refine sr fun _ hJ5 => ?_; refine hJ5 _ _ ?_; refine run_block_k ?_; refine run_loopG (X := Nat) [1, 4, 7, 8] (fun i ρ σ1 => (i ≤ l.length) ∧ (amt l d.toNat = amt (l.drop i) d.toNat) ∧ (ρ 9 = .v (.int .i64 i)) ∧ (σ1 = { σ with objs := σ.objs ++ [numA 0] })) (fun i => l.length - i) (0) ?st1 ?rd1
  case st1 =>
   refine ⟨lp, lp, lp, ?_⟩
   · rfl
  case rd1 =>
   rintro i ρ1 σ1 hF1 ⟨hi, hA, h9, hσ⟩; obtain rfl := hσ.symm
   have f1 := keepL hF1
   (try simp [KeepL, F] at f1); replace F := aF h9 F; (try replace F := aF f1 F); refine sr fun _ hJ7 => ?_; refine hJ7 _ _ ?_; refine sq fun K8 hK8 => ?_; refine cs (fun c10 => ?_) (fun c10 => ?_)
   · try exact nope c10
     all_goals
      replace F := wf F c10; refine run_skip ?_; refine hK8 _ _ ?_; refine sq fun K9 hK9 => ?_; refine run_block_k ?_; refine sq fun K10 hK10 => ?_
      have hlt : i < l.length := by simp at c10; omega
      have hat := coinsC_at hlt
      simp only [coinC] at hat
      have hb1 : i * 5 + 5 ≤ l.length * 5 := by omega
      have hcons : l.drop i = l[i] :: l.drop (i + 1) := List.drop_eq_getElem_cons hlt
      replace F := aF hat F; replace F := aF hb1 F; refine rg' (h := fun J11 hJ11 => ?_); refine hJ11 _ _ ?_; refine hK10 _ _ ?_; refine sr fun _ hJ13 => ?_; refine hJ13 _ _ ?_; refine cs (fun c16 => ?_) (fun c16 => ?_)
      · try exact nope c16
        all_goals
         replace F := wf F c16
         have hd : l[i].d.toNat = d.toNat := by have h := c16; simp at h; first | omega | (subst h; rfl) | (rw [h])
         have hA2 : amt l d.toNat = l[i].n.v := by rw [hA, hcons]; unfold amt; rw [if_pos hd]
         replace F := aF hA2 F; refine sr fun _ hJ15 => ?_; refine hJ15 _ _ ?_; refine run_ret ?_; (try simp only [Then, InBlock, NoGoto]); refine acell (h := ?_); exact gcr
      try exact nope c16
      all_goals
       replace F := wf F c16
       have hd : ¬ l[i].d.toNat = d.toNat := by have h := c16; simp at h; first | omega | (intro e; exact h (UInt8.toNat_inj.1 e))
       refine run_skip ?_; refine hK9 _ _ ?_; refine rg' (h := fun J16 hJ16 => ?_); refine hJ16 _ _ ?_; refine ⟨gk, (i + 1), ⟨kpG, lpG, ?_, lpG, lpG⟩, lpG⟩
       · rw [hA, hcons]
         exact if_neg hd
   try exact nope c10
   all_goals
    replace F := wf F c10
    have hend : amt l d.toNat = 0 := by rw [hA, List.drop_of_length_le (by simp at c10; omega)]; rfl
    replace F := aF hend F; refine run_exit ?_; refine hK3 _ _ ?_; refine sr fun _ hJ18 => ?_; refine hJ18 _ _ ?_; refine run_ret ?_; (try simp only [Then, InBlock, NoGoto]); refine acell (h := ?_); exact gcr

set_option maxHeartbeats 1600000 in
attribute [local simp] undefA List.getElem?_cons_zero List.getElem?_cons_succ in
theorem one_ok {σ : St} {d : UInt8} {n : Num} :
    CallsA Try.prog 68 [.v (.int .u8 d.toNat), .agg (numA n.v)] σ (fun av σ' => av = .sl 5 (coinsC (oneL d n)) (oneL d n).length .shut ∧ σ = σ') := by
  refine callsA_gcS ?_ (by simp [AV.under])
  have hR : Right [⟨d, n⟩] ↔ d.toNat < 8 ∧ n.v ≠ 0 := by simp [Right]
  have hc : .v (.int .u8 (d.toNat : Int)) :: numA n.v = coinsC [⟨d, n⟩] := by simp [coinsC, coinC]
  have hdr : ∀ f : Nat → AV, List.drop 5 (List.map f (List.range 5)) = [] := fun _ => rfl
  have F := And.intro hc (And.intro hdr (True.intro))
  refine callsA_body Try.func68 rfl rfl rfl ?_; refine sr fun _ hJ2 => ?_; refine hJ2 _ _ ?_; refine sq fun K3 hK3 => ?_; refine sr fun _ hJ5 => ?_; refine hJ5 _ _ ?_; refine sr fun _ hJ7 => ?_
  refine cb (c := right_ok (l := [⟨d, n⟩]) (by simp)) (k := ?_)
  refine hJ7 _ _ ?_; refine cs (fun c11 => ?_) (fun c11 => ?_)
  · try exact nope c11
    all_goals
     replace F := wf F c11
     have hr : oneL d n = [⟨d, n⟩] := if_pos (hR.1 (by simpa using c11))
     replace F := aF hr F; refine sr fun _ hJ9 => ?_; refine hJ9 _ _ ?_; refine ra ?_; exact gcr
  try exact nope c11
  all_goals
   replace F := wf F c11
   have hr : oneL d n = [] := if_neg (fun h => by have := hR.2 h; simp [this] at c11)
   replace F := aF hr F; refine run_skip ?_; refine hK3 _ _ ?_; refine sr fun _ hJ11 => ?_; refine hJ11 _ _ ?_; refine ra ?_; exact gcr

def FnA (fid : FuncId) (caps : List AV) (F : Nat → Nat → Nat × Nat) : Prop :=
  ∀ (σ : St) (x y : Nat), x < 2 ^ 256 → y < 2 ^ 256 → CallsA Try.prog fid ([.agg (numA x), .agg (numA y)] ++ caps) σ (fun av σ' => av = .tup [.agg (numA (F x y).1), .v (.int .i64 ((F x y).2 : Nat))] ∧ σ = σ')

set_option maxHeartbeats 1600000 in
attribute [local simp] undefA List.getElem?_cons_zero List.getElem?_cons_succ in
theorem each_ok {σ : St} {a b : List Coin} {ta tb : Tail} {fid : FuncId} {caps : List AV} {Fn : Nat → Nat → Nat × Nat} (ha : a.length ≤ 9223372036854775807) (hb : b.length ≤ 9223372036854775807) (hcb : callable Try.prog fid = true) (hF : FnA fid caps Fn) (hcp : ∀ n, noObjL n caps = true)
    (hFl : ∀ x y, x < 2 ^ 256 → y < 2 ^ 256 → (Fn x y).1 < 2 ^ 256) :
    CallsA Try.prog 123 [.sl 5 (coinsC a) a.length ta, .sl 5 (coinsC b) b.length tb, .fn fid caps] σ (fun av σ' => av = .tup [.sl 5 (coinsC (eachL Fn a b)) (eachL Fn a b).length .shut, .v (.int .i64 (eachE Fn a b 8 : Nat))] ∧ σ = σ') := by
  refine callsA_gcS ?_ (by simp [AV.under, underL])
  obtain ⟨fl, hfl⟩ : ∃ fl : Nat → Nat, fl = fun d => (Fn (amt a d) (amt b d)).1 := ⟨_, rfl⟩
  have F := And.intro hcp (And.intro hcb (True.intro))
  refine callsA_body Try.func123 rfl rfl rfl ?_; refine sr fun _ hJ2 => ?_; refine hJ2 _ _ ?_; refine sr fun _ hJ4 => ?_; refine hJ4 _ _ ?_; refine sq fun K5 hK5 => ?_; refine sr fun _ hJ7 => ?_; refine hJ7 _ _ ?_; refine run_block_k ?_; refine run_loopG (X := Nat) [0, 1, 2] (fun d ρ σ1 => (d ≤ 8) ∧ (eachE Fn a b d = 0) ∧ (ρ 8 = grA σ.toks.length 5 (posB d) (coinsC (lstF fl d)) (lstF fl d).length) ∧ (ρ 12 = .v (.int .u8 d)) ∧ (σ1 = { σ with toks := σ.toks ++ grT (posB d) (lstF fl d).length })) (fun d => 8 - d) (0) ?st1 ?rd1
  case st1 =>
   refine ⟨lp, ?_, lp, lp, lp⟩
   · rfl
  case rd1 =>
   rintro d ρ1 σ1 hF1 ⟨hd, hE, h8, h12, hσ⟩; obtain rfl := hσ.symm
   have f1 := keepL hF1
   (try simp [KeepL, F] at f1); replace F := aF h8 F; replace F := aF h12 F; (try replace F := aF f1 F); refine sr fun _ hJ9 => ?_; refine hJ9 _ _ ?_; refine sq fun K10 hK10 => ?_; refine cs (fun c13 => ?_) (fun c13 => ?_)
   · try exact nope c13
     all_goals
      replace F := wf F c13; refine run_skip ?_; refine hK10 _ _ ?_; refine sq fun K11 hK11 => ?_; refine run_block_k ?_; refine sq fun K12 hK12 => ?_
      have hd8 : d < 8 := by simp at c13; omega
      obtain ⟨D, rfl⟩ : ∃ D : UInt8, d = D.toNat := ⟨UInt8.ofNat d, (toNat_u8 (by omega)).symm⟩
      have hfD : fl D.toNat < 2 ^ 256 := by rw [hfl]; exact hFl _ _ (amt_lt _ _) (amt_lt _ _)
      have hnum : (Fn (amt a D.toNat) (amt b D.toNat)).1 = (Num.of (fl D.toNat)).v := by rw [Num.of_v hfD, hfl]
      obtain ⟨L, hL⟩ : ∃ L, L = lstF fl D.toNat := ⟨_, rfl⟩
      obtain ⟨M, hM⟩ : ∃ M, M = oneL D (Num.of (fl D.toNat)) := ⟨_, rfl⟩
      have hnx : lstF fl (D.toNat + 1) = L ++ M := by rw [hL, hM]; exact lstF_one hd8 hfD
      have hLl : L.length ≤ 8 := by rw [hL]; exact Nat.le_trans (lstF_len _ _) hd
      have hMl : M.length ≤ 1 := by rw [hM]; unfold oneL; split <;> simp
      rw [← hL] at h8 F
      rw [← hL]
      have hb0 : posB D.toNat = false → coinsC L = [] ∧ L.length = 0 := fun h => by rw [hL, posB_no h]; simp [lstF]
      have happ : ∀ objs, appendA Try.prog 23 (grA σ.toks.length 5 (posB D.toNat) (coinsC L) L.length) (.sl 5 (coinsC M) M.length .shut) ⟨objs, σ.toks ++ grT (posB D.toNat) L.length, σ.gl, σ.rows⟩ = some (grA σ.toks.length 5 true (coinsC L ++ coinsC M) (L.length + M.length), ⟨objs, σ.toks ++ grT true (L.length + M.length), σ.gl, σ.rows⟩) := fun objs => append_gr elemT_23 ti_86 (by decide) rfl hb0 (.inl rfl) (by simp [roomA]; omega) (by simp [maxLen]; omega)
      replace F := aF hnum (And.intro happ F); refine rg' (h := fun J13 hJ13 => ?_); refine hJ13 _ _ ?_; refine hK12 _ _ ?_; refine sr fun _ hJ15 => ?_; refine cb (c := amount_ok (l := a) (d := D) ha) (k := ?_); refine cb (c := amount_ok (l := b) (d := D) hb) (k := ?_); refine cb (c := hF _ _ _ (amt_lt _ _) (amt_lt _ _)) (k := ?_); refine hJ15 _ _ ?_; refine sq fun K16 hK16 => ?_; refine sr fun _ hJ18 => ?_; refine hJ18 _ _ ?_; refine cs (fun c27 => ?_) (fun c27 => ?_)
      · try exact nope c27
        all_goals
         replace F := wf F c27
         have he0 : ¬ (Fn (amt a D.toNat) (amt b D.toNat)).2 = 0 := by have h := c27; simp at h; omega
         have e1 : eachE Fn a b (D.toNat + 1) = (Fn (amt a D.toNat) (amt b D.toNat)).2 := by simp only [eachE, hE, ne_eq, not_true_eq_false, if_false]
         have e8 : eachE Fn a b 8 = (Fn (amt a D.toNat) (amt b D.toNat)).2 := by have := eachE_stop (F := Fn) (a := a) (b := b) (d := D.toNat + 1) (by rw [e1]; exact he0) (8 - (D.toNat + 1)); rw [show D.toNat + 1 + (8 - (D.toNat + 1)) = 8 by omega] at this; rw [this, e1]
         have eL : eachL Fn a b = [] := by unfold eachL; rw [if_neg (by rw [e8]; exact he0)]
         replace F := aF e8 (And.intro eL F); refine sr fun _ hJ20 => ?_; refine hJ20 _ _ ?_; refine run_ret ?_; (try simp only [Then, InBlock, NoGoto]); refine answer_tmp2 rfl (.inr rfl) ?_
         rw [e8, eL]
         exact gcr (hA := WkL.tup (.cons (Wk.nil _ _ _) (.cons (Wk.refl _) .nil)))
      try exact nope c27
      all_goals
       replace F := wf F c27
       have he0 : (Fn (amt a D.toNat) (amt b D.toNat)).2 = 0 := by have h := c27; simp at h; omega
       refine run_skip ?_; refine hK16 _ _ ?_; refine rg' (h := fun J21 hJ21 => ?_); refine cb (c := (hM ▸ one_ok (d := D) (n := Num.of (fl D.toNat)))) (k := ?_); refine hJ21 _ _ ?_; refine hK11 _ _ ?_; refine rg' (h := fun J22 hJ22 => ?_); refine hJ22 _ _ ?_; refine ⟨gk, (D.toNat + 1), ⟨kpG, lpG, ?_, ?_, lpG, ?_⟩, lpG⟩
       · simp only [eachE, hE, ne_eq, not_true_eq_false, if_false]
         exact he0
       · rw [hnx, ← coinsC_append]
         simp [F, AV.gcO, noObjL_append]
       · rw [hnx]
         simp [F, St.trimO]
   try exact nope c13
   all_goals
    replace F := wf F c13
    obtain rfl : d = 8 := by simp at c13; omega
    have eL : eachL Fn a b = lstF fl 8 := by unfold eachL; rw [if_pos hE, hfl]
    replace F := aF hE (And.intro eL F); refine run_exit ?_; refine hK5 _ _ ?_; refine sr fun _ hJ24 => ?_; refine hJ24 _ _ ?_; refine run_ret ?_; (try simp only [Then, InBlock, NoGoto]); refine answer_tmp2 rfl (.inr rfl) ?_
    rw [hE, eL]
    exact gcr (hA := WkL.tup (.cons (by simp only [putA_get]; simp [F]; first | exact Wk.shut _ _ _ _ | exact wk_grA (b := true) (fun h => absurd h (by decide))) (.cons (Wk.refl _) .nil)))

theorem addE_fn : FnA 118 [] (fun x y => (addN x y, addE x y)) := fun σ x y hx hy => nadd_ok hx hy

set_option maxHeartbeats 1600000 in
attribute [local simp] undefA List.getElem?_cons_zero List.getElem?_cons_succ in
theorem cadd_ok {σ : St} {a b : List Coin} {ta tb : Tail} (ha : a.length ≤ 9223372036854775807) (hb : b.length ≤ 9223372036854775807) :
    CallsA Try.prog 114 [.sl 5 (coinsC a) a.length ta, .sl 5 (coinsC b) b.length tb] σ (fun av σ' => av = .tup [.sl 5 (coinsC (cAddL a b)) (cAddL a b).length .shut, .v (.int .i64 (cAddE a b : Nat))] ∧ σ = σ') := by
  have F := True.intro
  refine callsA_body Try.func114 rfl rfl rfl ?_; refine sr fun _ hJ2 => ?_; refine hJ2 _ _ ?_; refine sr fun _ hJ4 => ?_
  refine cb (c := each_ok ha hb (by simp) addE_fn (fun _ ↦ rfl) (fun x y _ _ ↦ addN_lt x y)) (k := ?_)
  refine hJ4 _ _ ?_; refine run_ret ?_; (try simp only [Then, InBlock, NoGoto]); refine answer_tmp2 rfl (.inr rfl) ?_; exact ⟨rfl, rfl⟩

end Go.Proofs.Ytdbaddholggkbaa

/-
  Rows on the way: a nil list that may be written; a row that nobody will write again; a call that hands back rows.
-/
namespace Go.Vm
set_option linter.unnecessarySimpa false
set_option linter.unusedSimpArgs false
set_option linter.unusedVariables false
open Go

theorem nilrow_sound {G : Gh} {w : World} {σ : St} (hS : RelS G w σ) : ∃ G', Ext G w G' w ∧ RelS G' w { σ with rows := σ.rows ++ [⟨0, [], none⟩] } ∧ G'.rw σ.rows.length = some (0, 0, 0, 0) := by
  let G' : Gh := { G with rw := fun i' => if i' = σ.rows.length then some (0, 0, 0, 0) else G.rw i' }
  have hE : Ext G w G' w := by
    refine ⟨rfl, rfl, rfl, rfl, Nat.le_refl _, fun _ c _ _ h => ⟨c, h, rfl, fun _ _ => rfl⟩, fun _ _ h _ => h, fun _ _ h => h, fun _ _ _ h => h, fun _ _ h => h, fun _ m r h => ⟨m, r, h, Nat.le_refl _, fun _ => rfl⟩, fun q m r hq => ⟨m, r, ?_, Nat.le_refl _, fun _ => rfl⟩⟩
    show (if q = _ then _ else _) = _
    rw [if_neg (fun e => by subst e; exact rw_fresh hS _ hq)]; exact hq
  refine ⟨G', hE, ⟨?_, hS.inj, hS.tok, hS.fresh, fun g cs2 hg => (hS.gl g cs2 hg).mono hE, hS.tot, hS.totk, ?_, ?_⟩, if_pos rfl⟩
  · intro id b hp
    obtain ⟨c2, e2, cs2, h1, h2, h3, h4, h5⟩ := hS.obj id b hp
    exact ⟨c2, e2, cs2, h1, h2, h3, h4, fun j x a hx ha => (h5 j x a hx ha).mono hE⟩
  · intro q gc b o C hq
    have hq' : (if q = σ.rows.length then some (0, 0, 0, 0) else G.rw q) = some (gc, b, o, C) := hq
    by_cases hql : q = σ.rows.length
    · subst hql
      rw [if_pos rfl] at hq'
      cases hq'
      exact ⟨⟨0, [], none⟩, by simp, rfl, by simp, ⟨fun s e => (by cases e), fun h => (by omega)⟩⟩
    · rw [if_neg hql] at hq'
      obtain ⟨r, h1, h2, h3, h4, h5⟩ := hS.row q gc b o C hq'
      refine ⟨r, by show (σ.rows ++ _)[q]? = _; rw [List.getElem?_append_left (List.getElem?_eq_some_iff.1 h1).1]; exact h1, h2, h3, h4, fun hC => ?_⟩
      obtain ⟨c2, e2, g1, g2, g3, g4, g5⟩ := h5 hC
      exact ⟨c2, e2, g1, g2, g3, g4, fun j x a hx ha => (g5 j x a hx ha).mono hE⟩
  · intro q hq
    show ∃ p, (if q = σ.rows.length then some (0, 0, 0, 0) else G.rw q) = some p
    by_cases hql : q = σ.rows.length
    · rw [if_pos hql]; exact ⟨_, rfl⟩
    · rw [if_neg hql]; exact hS.totr q (by simp at hq; omega)

section
variable {z : Zone} {P : Program} {N : Nat} {ρ : Nat → AV} {σ : St}

theorem Rel.turn {G : Gh} {w : World} {a : Act} (hR : Rel N G w ρ σ a) {G' : Gh} {σ' : St} {ρ' : Nat → AV} (hE : Ext G w G' w) (hS : RelS G' w σ') (he : ∀ i, AVR G' w (a.tmps.getD i undef) (ρ' i)) : Rel N G' w ρ' σ' a :=
  ⟨hS, ⟨hR.defers.1.mono hE, hR.defers.2.1, by rw [hE.base]; exact hR.defers.2.2⟩, hR.size, he⟩

theorem nilrow_rel {G : Gh} {w : World} {a : Act} (hR : Rel N G w ρ σ a) (d sz : Nat) {s : Nat} (h : ρ d = .sl s [] 0 .full) :
    ∃ G', Ext G w G' w ∧ Rel N G' w (putA ρ (some d) (.row σ.rows.length 0 0 sz 0)) { σ with rows := σ.rows ++ [⟨0, [], none⟩] } a := by
  obtain ⟨G', hE, hS, hrw⟩ := nilrow_sound hR.s
  refine ⟨G', hE, hR.turn hE hS (fun i => ?_)⟩
  by_cases hi : i = d
  · subst hi
    have hx := hR.env i
    rw [h] at hx
    obtain ⟨ad, c, e1, e2⟩ := sl_empty_full hx
    subst e2
    rw [e1]
    show AVR G' w _ (if i = i then _ else _)
    rw [if_pos rfl]
    exact .row hrw (Nat.le_refl _) (Nat.le_refl _) (fun h => (h rfl).elim) (fun _ => ⟨by simp, fun h => (h rfl).elim⟩)
  · show AVR G' w _ (if i = d then _ else _)
    rw [if_neg hi]
    exact (hR.env i).mono hE

theorem run_nilrow {c : Code} {Q : Exit → (Nat → AV) → St → Prop} (d sz : Nat) {s : Nat} (h : ρ d = .sl s [] 0 .full := by first | rfl | (simp [F]; done))
    (k : Run z P N c (putA ρ (some d) (.row σ.rows.length 0 0 sz 0)) { σ with rows := σ.rows ++ [⟨0, [], none⟩] } Q) : Run z P N c ρ σ Q := fun G w a R hR hK => by
  obtain ⟨G', hE, hR'⟩ := nilrow_rel hR d sz h
  exact k G' w a R hR' (fun e ρ' σ' G2 a' w' hq hE2 hR2 => hK e ρ' σ' G2 a' w' hq (hE.trans hE2) hR2)
theorem freeze_rel {G : Gh} {w : World} {a : Act} (hR : Rel N G w ρ σ a) (d : Nat) {k g off sz n : Nat} {cells : List AV} {sp : Option Nat} (h : ρ d = .row k g off sz n) (hr : σ.rows[k]? = some ⟨g, cells, sp⟩) (hl : off + n * sz ≤ cells.length) :
    ∃ G', Ext G w G' w ∧ Rel N G' w (putA ρ (some d) (.sl sz ((cells.drop off).take (n * sz)) n .shut)) { σ with rows := σ.rows.set k ⟨g + 1, [], none⟩ } a := by
  obtain ⟨G1, e1, e2, e3⟩ := fr_sound hR.s hr
  refine ⟨G1, e1, hR.turn e1 (e3 σ.objs rfl (fun id cs ds h1 h2 => by rw [h1] at h2; cases h2; exact FrL.refl _)) (fun i => ?_)⟩
  by_cases hi : i = d
  · subst hi
    have hx := hR.env i
    rw [h] at hx
    show AVR G1 w _ (if i = i then _ else _)
    rw [if_pos rfl]
    exact e2 _ _ _ hx (.row hl)
  · show AVR G1 w _ (if i = d then _ else _)
    rw [if_neg hi]
    exact (hR.env i).mono e1

theorem run_freeze {c : Code} {Q : Exit → (Nat → AV) → St → Prop} (d : Nat) {k g off sz n : Nat} {cells : List AV} {sp : Option Nat} (h : ρ d = .row k g off sz n := by first | rfl | (simp [F]; done) | (simp [F]; exact ⟨rfl, rfl, rfl⟩) | (simp [F]; exact ⟨rfl, rfl, rfl, rfl, rfl⟩)) (hr : σ.rows[k]? = some ⟨g, cells, sp⟩ := by first | rfl | (simp [F]; done) | (simp [F]; rfl) | (simp [F]; exact ⟨rfl, rfl⟩) | (simp [F]; exact ⟨rfl, rfl, rfl⟩)) (hl : off + n * sz ≤ cells.length := by first | (simp [F]; done) | omega | (simp [F]; omega))
    (kk : Run z P N c (putA ρ (some d) (.sl sz ((cells.drop off).take (n * sz)) n .shut)) { σ with rows := σ.rows.set k ⟨g + 1, [], none⟩ } Q) : Run z P N c ρ σ Q := fun G w a R hR hK => by
  obtain ⟨G', hE, hR'⟩ := freeze_rel hR d h hr hl
  exact kk G' w a R hR' (fun e ρ' σ' G2 a' w' hq hE2 hR2 => hK e ρ' σ' G2 a' w' hq (hE.trans hE2) hR2)
theorem runL_freeze {ops : Array Oper} {l : List Oper} {K : (Nat → AV) → St → Prop} (d : Nat) {k g off sz n : Nat} {cells : List AV} {sp : Option Nat} (h : ρ d = .row k g off sz n := by first | rfl | (simp [F]; done) | (simp [F]; exact ⟨rfl, rfl, rfl⟩) | (simp [F]; exact ⟨rfl, rfl, rfl, rfl, rfl⟩)) (hr : σ.rows[k]? = some ⟨g, cells, sp⟩ := by first | rfl | (simp [F]; done) | (simp [F]; rfl) | (simp [F]; exact ⟨rfl, rfl⟩) | (simp [F]; exact ⟨rfl, rfl, rfl⟩)) (hl : off + n * sz ≤ cells.length := by first | (simp [F]; done) | omega | (simp [F]; omega))
    (kk : RunL z P N ops l (putA ρ (some d) (.sl sz ((cells.drop off).take (n * sz)) n .shut)) { σ with rows := σ.rows.set k ⟨g + 1, [], none⟩ } K) : RunL z P N ops l ρ σ K := fun G w a R hR hK => by
  obtain ⟨G', hE, hR'⟩ := freeze_rel hR d h hr hl
  exact kk G' w a R hR' (fun ρ' σ' G2 a' w' hq hE2 hR2 => hK ρ' σ' G2 a' w' hq (hE.trans hE2) hR2)

theorem run_fz {c : Code} {Q : Exit → (Nat → AV) → St → Prop} (d sz : Nat) {q g n : Nat} {cells : List AV} {sp : Option Nat} (h : ρ d = .row q g 0 sz n := by first | rfl | (simp [F]; done) | (simp [F]; exact ⟨rfl, rfl, rfl⟩) | (simp [F]; exact ⟨rfl, rfl, rfl, rfl, rfl⟩)) (hr : σ.rows[q]? = some ⟨g, cells, sp⟩ := by first | rfl | (simp [F]; done) | (simp [F]; rfl) | (simp [F]; exact ⟨rfl, rfl⟩) | (simp [F]; exact ⟨rfl, rfl, rfl⟩)) (hl : cells.length = n * sz := by first | (simp [F]; done) | omega | (simp [F]; omega))
    (k : Run z P N c (putA ρ (some d) (.sl sz cells n .shut)) { σ with rows := σ.rows.set q ⟨g + 1, [], none⟩ } Q) : Run z P N c ρ σ Q :=
  run_freeze d h hr (by omega) (by rw [List.drop_zero, List.take_of_length_le (by omega)]; exact k)
theorem runL_fz {ops : Array Oper} {l : List Oper} {K : (Nat → AV) → St → Prop} (d sz : Nat) {q g n : Nat} {cells : List AV} {sp : Option Nat} (h : ρ d = .row q g 0 sz n := by first | rfl | (simp [F]; done) | (simp [F]; exact ⟨rfl, rfl, rfl⟩) | (simp [F]; exact ⟨rfl, rfl, rfl, rfl, rfl⟩)) (hr : σ.rows[q]? = some ⟨g, cells, sp⟩ := by first | rfl | (simp [F]; done) | (simp [F]; rfl) | (simp [F]; exact ⟨rfl, rfl⟩) | (simp [F]; exact ⟨rfl, rfl, rfl⟩)) (hl : cells.length = n * sz := by first | (simp [F]; done) | omega | (simp [F]; omega))
    (k : RunL z P N ops l (putA ρ (some d) (.sl sz cells n .shut)) { σ with rows := σ.rows.set q ⟨g + 1, [], none⟩ } K) : RunL z P N ops l ρ σ K :=
  runL_freeze d h hr (by omega) (by rw [List.drop_zero, List.take_of_length_le (by omega)]; exact k)

theorem callsA_gcO {f : FuncId} {args : List AV} {A : AV} {τ : St} (k : CallsA P f args σ (fun av σ' => av = A ∧ GoneO σ σ' ∧ σ.trimO σ' = τ)) (hA : A.noObj σ.objs.length = true) : CallsA P f args σ (fun av σ' => av = A ∧ σ' = τ) := by
  intro G w vs R hS hl hr hK
  refine k G w vs R hS hl hr (fun v av σ0 G' w' hq hE hS' hv => ?_)
  obtain ⟨rfl, hg, rfl⟩ := hq
  obtain ⟨h1, h2⟩ := hS.trimO hS' hE hg
  exact hK v _ _ _ w' ⟨rfl, rfl⟩ h1 h2 (hv.forgetO hE hS.tot hA)
theorem callsA_gcOx {f : FuncId} {args : List AV} {Q : AV → St → Prop} (k : CallsA P f args σ (fun av σ' => av.noObj σ.objs.length = true ∧ GoneO σ σ' ∧ Q av (σ.trimO σ'))) : CallsA P f args σ Q := by
  intro G w vs R hS hl hr hK
  refine k G w vs R hS hl hr (fun v av σ0 G' w' hq hE hS' hv => ?_)
  obtain ⟨hA, hg, hq⟩ := hq
  obtain ⟨h1, h2⟩ := hS.trimO hS' hE hg
  exact hK v _ _ _ w' hq h1 h2 (hv.forgetO hE hS.tot hA)
end

theorem gco {av A : AV} {σ σ' τ : St} (hA : av = A := by first | rfl | (simp [F]; done)) (hg : GoneO σ σ' := by exact gk) (ht : σ.trimO σ' = τ := by first | rfl | (simp [F, St.trimO]; done)) : av = A ∧ GoneO σ σ' ∧ σ.trimO σ' = τ := ⟨hA, hg, ht⟩

end Go.Vm

/-
  Digits that are made right; numbers of digits.
-/
namespace Go.Vm
set_option linter.unnecessarySimpa false
set_option linter.unusedSimpArgs false
set_option linter.unusedVariables false
set_option exponentiation.threshold 600
open Go

theorem digs_mod {b n x y : Nat} (hb : 0 < b) (h : x % b ^ n = y % b ^ n) : digs b n x = digs b n y := by
  have hy : digs b n (valD b (digs b n y)) = digs b n y := by
    have := digs_valD hb (digs_lt (n := n) (x := y) hb)
    rwa [digs_len] at this
  have hx : digs b n (valD b (digs b n x)) = digs b n x := by
    have := digs_valD hb (digs_lt (n := n) (x := x) hb)
    rwa [digs_len] at this
  rw [← hx, ← hy, valD_digs, valD_digs, h]

theorem valD_take_succ {b : Nat} {L : List Nat} {i : Nat} (h : i < L.length) : valD b (L.take (i + 1)) = valD b (L.take i) + b ^ i * L[i] := by
  rw [take_snoc h, valD_snoc]
  simp [Nat.min_eq_left (Nat.le_of_lt h)]

def crA (b : Nat) (L : List Nat) (i : Nat) : List Nat := digs b i (valD b (L.take i)) ++ L.drop i
def crO (b : Nat) (L : List Nat) (i : Nat) : Nat := valD b (L.take i) / b ^ i
theorem crA_zero (b : Nat) (L : List Nat) : crA b L 0 = L := by simp [crA, digs]
theorem crO_zero (b : Nat) (L : List Nat) : crO b L 0 = 0 := by simp [crO]
theorem crA_len {b : Nat} {L : List Nat} {i : Nat} (h : i ≤ L.length) : (crA b L i).length = L.length := by simp [crA]; omega
theorem crA_get {b : Nat} {L : List Nat} {i : Nat} (h : i < L.length) : (crA b L i)[i]? = some L[i] := by
  unfold crA
  rw [List.getElem?_append_right (by simp)]
  simp [h]
theorem crO_next {b : Nat} {L : List Nat} {i : Nat} (hb : 0 < b) (h : i < L.length) : (crO b L i + L[i]) / b = crO b L (i + 1) := by
  unfold crO
  rw [valD_take_succ h, Nat.pow_succ, ← Nat.div_div_eq_div_mul, Nat.add_mul_div_left _ _ (Nat.pow_pos hb)]
theorem crA_set {b : Nat} {L : List Nat} {i : Nat} (hb : 0 < b) (h : i < L.length) : (crA b L i).set i ((crO b L i + L[i]) % b) = crA b L (i + 1) := by
  unfold crA crO
  rw [List.set_append_right _ _ (by simp), digs_snoc, valD_take_succ h, Nat.add_mul_div_left _ _ (Nat.pow_pos hb)]
  have e : L.drop i = L[i] :: L.drop (i + 1) := List.drop_eq_getElem_cons h
  simp only [digs_len, Nat.sub_self]
  rw [e, List.set_cons_zero, List.append_assoc]
  rw [digs_mod hb (show (valD b (L.take i) + b ^ i * L[i]) % b ^ i = valD b (L.take i) % b ^ i from Nat.add_mul_mod_self_left ..)]
  rfl
theorem crO_le {b m : Nat} {L : List Nat} (hb : 2 ≤ b) (hL : ∀ d ∈ L, d ≤ m) : ∀ i, i ≤ L.length → crO b L i ≤ m
  | 0, _ => by rw [crO_zero]; omega
  | i + 1, h => by
    have ih := crO_le hb hL i (by omega)
    rw [← crO_next (by omega) (by omega : i < L.length)]
    have hd := hL L[i] (List.getElem_mem _)
    refine Nat.le_trans (Nat.div_le_div_left (c := 2) hb (by omega)) ?_
    omega
theorem crA_all (b : Nat) (L : List Nat) : crA b L L.length ++ [crO b L L.length] = digs b L.length (valD b L) ++ [valD b L / b ^ L.length] := by
  simp [crA, crO]

theorem u64s_get_of {l : List Nat} {i n : Nat} (h : l[i]? = some n) : (u64s l)[i]? = some (.v (.int .u64 n)) := by simp [u64s, h]

theorem digs_lay {T i q r d : Nat} (hq : q = i / 4) (hr : r = i % 4) (hi : i < 16) (hT : T < 65536 ^ i) (hd : d < 65536) :
    T / 18446744073709551616 ^ q % 18446744073709551616 + d * 2 ^ (16 * r) < 18446744073709551616 ∧
    (digs 18446744073709551616 4 T).set q (T / 18446744073709551616 ^ q % 18446744073709551616 + d * 2 ^ (16 * r)) = digs 18446744073709551616 4 (T + 65536 ^ i * d) := by
  have hr4 : r < 4 := by omega
  have hq4 : q < 4 := by omega
  have e16 : ∀ n, (65536 : Nat) ^ n = 2 ^ (16 * n) := fun n => by rw [Nat.pow_mul]
  have eW : ∀ n, (18446744073709551616 : Nat) ^ n = 2 ^ (64 * n) := fun n => by rw [Nat.pow_mul]
  have e1 : (65536 : Nat) ^ i = 18446744073709551616 ^ q * 2 ^ (16 * r) := by
    rw [e16, eW, ← Nat.pow_add]; congr 1; omega
  have hM : T / 18446744073709551616 ^ q < 2 ^ (16 * r) := Nat.div_lt_of_lt_mul (by rw [← e1]; exact hT)
  have hp : (2 : Nat) ^ (16 * r) = 1 ∨ (2 : Nat) ^ (16 * r) = 65536 ∨ (2 : Nat) ^ (16 * r) = 4294967296 ∨ (2 : Nat) ^ (16 * r) = 281474976710656 := by
    have : r = 0 ∨ r = 1 ∨ r = 2 ∨ r = 3 := by omega
    rcases this with rfl | rfl | rfl | rfl <;> simp
  have hlt : T / 18446744073709551616 ^ q % 18446744073709551616 + d * 2 ^ (16 * r) < 18446744073709551616 := by
    generalize T / 18446744073709551616 ^ q = M at hM
    rcases hp with h | h | h | h <;> rw [h] at hM ⊢ <;> omega
  refine ⟨hlt, ?_⟩
  have hl1 : q < (digs 18446744073709551616 4 T).length := by simpa using hq4
  have hTl : T < 18446744073709551616 ^ 4 := Nat.lt_of_lt_of_le hT (by rw [e16, eW]; exact Nat.pow_le_pow_right (by omega) (by omega))
  refine digs_of (by decide) (fun x hx => ?_) (by simp) ?_
  · rcases List.mem_or_eq_of_mem_set hx with h | h
    · exact digs_lt (by decide) x h
    · rw [h]; exact hlt
  · have e := valD_set (b := 18446744073709551616) hl1 (T / 18446744073709551616 ^ q % 18446744073709551616 + d * 2 ^ (16 * r))
    rw [digs_get hq4, valD_digs, Nat.mod_eq_of_lt hTl, Nat.mul_add] at e
    have e2 : 18446744073709551616 ^ q * (d * 2 ^ (16 * r)) = 65536 ^ i * d := by rw [e1]; grind
    rw [e2] at e
    omega

theorem valD_small {b : Nat} {L : List Nat} {n : Nat} (hb : 0 < b) (h : valD b L < b ^ n) : ∀ j, n ≤ j → (hj : j < L.length) → L[j] = 0 := by
  intro j hn hj
  have hi : L = L.take j ++ L[j] :: L.drop (j + 1) := by rw [List.getElem_cons_drop, List.take_append_drop]
  have h3 : valD b L = valD b (L.take j) + b ^ j * (L[j] + b * valD b (L.drop (j + 1))) := by
    conv => lhs; rw [hi, valD_append]
    simp [valD, Nat.min_eq_left (Nat.le_of_lt hj)]
  have h4 : b ^ n ≤ b ^ j := Nat.pow_le_pow_right hb hn
  rcases Nat.eq_zero_or_pos L[j] with h0 | h0
  · exact h0
  · have h5 : b ^ j * 1 ≤ b ^ j * (L[j] + b * valD b (L.drop (j + 1))) := Nat.mul_le_mul_left _ (by omega)
    omega
theorem valD_big {b : Nat} {L : List Nat} {j n : Nat} (hb : 0 < b) (hn : n ≤ j) (hj : j < L.length) (h : 0 < L[j]) : ¬ valD b L < b ^ n := fun hlt => by
  have := valD_small hb hlt j hn hj
  omega
theorem valD_zeros {b : Nat} {L : List Nat} {n : Nat} (h : ∀ j, n ≤ j → (hj : j < L.length) → L[j] = 0) : valD b L = valD b (L.take n) := by
  conv => lhs; rw [← List.take_append_drop n L, valD_append]
  have : valD b (L.drop n) = 0 := by
    have e : L.drop n = List.replicate (L.length - n) 0 := by
      apply List.ext_getElem
      · simp
      · intro i h1 h2
        simp at h1 h2 ⊢
        exact h (n + i) (by omega) (by omega)
    rw [e, valD_zero]
  rw [this]; simp

def addm (L M : List Nat) (i : Nat) : List Nat := (List.zipWith (· + ·) L M).take i ++ L.drop i
theorem addm_zero (L M : List Nat) : addm L M 0 = L := by simp [addm]
theorem addm_len {L M : List Nat} {i : Nat} (h : L.length = M.length) (hi : i ≤ L.length) : (addm L M i).length = L.length := by simp [addm]; omega
theorem addm_get {L M : List Nat} {i : Nat} (h : L.length = M.length) (hi : i < L.length) : (addm L M i)[i]? = some L[i] := by
  unfold addm
  rw [List.getElem?_append_right (by simp; omega)]
  have : i - (List.take i (List.zipWith (· + ·) L M)).length = 0 := by simp; omega
  rw [this]; simp [hi]
theorem addm_set {L M : List Nat} {i : Nat} (h : L.length = M.length) (hi : i < L.length) : (addm L M i).set i (L[i] + M[i]) = addm L M (i + 1) := by
  unfold addm
  have hl : (List.take i (List.zipWith (· + ·) L M)).length = i := by simp; omega
  rw [List.set_append_right _ _ (by omega), hl, Nat.sub_self]
  have e : L.drop i = L[i] :: L.drop (i + 1) := List.drop_eq_getElem_cons hi
  rw [e, List.set_cons_zero, take_snoc (by simp; omega)]
  simp
theorem addm_all {L M : List Nat} (h : L.length = M.length) : addm L M L.length = List.zipWith (· + ·) L M := by
  unfold addm
  rw [List.take_of_length_le (by simp; omega), List.drop_of_length_le (Nat.le_refl _), List.append_nil]
theorem valD_zip (b : Nat) : ∀ L M : List Nat, L.length = M.length → valD b (List.zipWith (· + ·) L M) = valD b L + valD b M
  | [], [], _ => rfl
  | x :: L, y :: M, h => by
    simp only [List.zipWith_cons_cons, valD, valD_zip b L M (by simpa using h), Nat.mul_add]
    omega
theorem zip_le {L M : List Nat} {m : Nat} (hL : ∀ d ∈ L, d < m) (hM : ∀ d ∈ M, d < m) : ∀ d ∈ List.zipWith (· + ·) L M, d ≤ 2 * m := by
  intro d hd
  obtain ⟨i, hi, rfl⟩ := List.getElem_of_mem hd
  simp at hi
  have h1 := hL L[i] (List.getElem_mem _)
  have h2 := hM M[i] (List.getElem_mem _)
  simp; omega

theorem zeros64 {P : Program} {e : TypeId} (h : ti P e = some ⟨false, 1, 8, .int .u64 0⟩) (n : Nat) : zerosA P e n = some (u64s (List.replicate n 0)) := by
  have hz : zeroA P e = some (.v (.int .u64 0)) := by simp [zeroA, h, ofValue, ofCell, plain]
  have hz1 : (Value.int .u64 0).oneCell' = true := rfl
  simp only [zerosA, h, hz, AV.cells]
  simp [AV.isCell]
  apply List.ext_getElem
  · simp [u64s]
  · intro i h1 h2
    simp [u64s, Nat.mod_one]

end Go.Vm

/-
  The document's numbers: digits of 16 bits.
-/
namespace Go.Proofs.Ytdbaddholggkbaa
set_option linter.unnecessarySimpa false
set_option maxRecDepth 100000
open Go Go.Vm
set_option linter.unusedSimpArgs false
set_option linter.unusedVariables false

theorem zc64 : zeroCell ⟨false, 1, 8, .int .u64 0⟩ = true := rfl

attribute [local simp] evalL wantedA isCall opA evalA evalAll evalsA evalOpt ofValue ofCell plain binA_eql_pn binA_neq_pn binA_gtr binA_lss binA_geq binA_leq binA_add binA_sub binA_eql binA_neq binA_orI binA_andI binA_shl binA_shr binA_mul binA_quo binA_rem binA_agg_eql binA_agg_neq convA_int unA_not fieldAddrA loadA partA pickA_true pickA_false pickA_bb lenA builtinA storeA splice readA rowAppA zc64 appendA roomA maxLen AV.cells AV.isCell sliceA boundA intA callOf indexAddrA newObjA buildA fillA zeroA ofCells buildSliceA indexA fieldA numA_len4 numA_take4 numA_drop4 set_appN get_appN take_appN List.getElem?_cons_zero List.getElem?_cons_succ

theorem digit16 {x i : Nat} : x / 18446744073709551616 ^ (i / 4) % 18446744073709551616 / 2 ^ (16 * (i % 4)) % 65536 = x / 65536 ^ i % 65536 := by
  have e : ∀ n, (65536 : Nat) ^ n = 2 ^ (16 * n) := fun n => by rw [Nat.pow_mul]
  have hW : ∀ n, (18446744073709551616 : Nat) ^ n = 2 ^ (64 * n) := fun n => by rw [Nat.pow_mul]
  rw [e, hW]
  have h1 : 16 * i = 64 * (i / 4) + 16 * (i % 4) := by omega
  rw [h1, Nat.pow_add, ← Nat.div_div_eq_div_mul]
  generalize x / 2 ^ (64 * (i / 4)) = y
  have h2 : i % 4 < 4 := Nat.mod_lt _ (by omega)
  obtain ⟨m, hm⟩ : ∃ m, m = i % 4 := ⟨_, rfl⟩
  rw [← hm] at h2 ⊢
  have : m = 0 ∨ m = 1 ∨ m = 2 ∨ m = 3 := by omega
  rcases this with rfl | rfl | rfl | rfl <;> simp <;> omega

set_option maxHeartbeats 1600000 in
attribute [local simp] undefA List.getElem?_cons_zero List.getElem?_cons_succ u64s_noObj in
theorem digits_ok {σ : St} {x : Nat} :
    CallsA Try.prog 127 [.agg (numA x)] σ (fun av σ' => av = .row σ.rows.length 16 0 1 16 ∧ σ' = { σ with rows := σ.rows ++ [⟨16, u64s (digs 65536 16 x), none⟩] }) := by
  refine callsA_gcO ?_ rfl
  have F := True.intro
  refine callsA_body Try.func127 rfl rfl rfl ?_; refine sr fun _ hJ2 => ?_; refine hJ2 _ _ ?_; refine sr fun _ hJ4 => ?_; refine hJ4 _ _ ?_; refine sq fun K5 hK5 => ?_; refine sq fun K6 hK6 => ?_; refine run_nilrow 3 1 (k := ?_); refine rg' (h := fun J7 hJ7 => ?_); refine hJ7 _ _ ?_; refine hK6 _ _ ?_; refine run_block_k ?_; refine run_loopF (X := Nat) [1, 2] (fun i ρ σ1 => (i ≤ 16) ∧ (ρ 3 = .row σ.rows.length i 0 1 i) ∧ (ρ 4 = .v (.int .i64 i)) ∧ (σ1 = { σ with objs := σ.objs ++ [numA x], rows := σ.rows ++ [⟨i, u64s (digs 65536 i x), none⟩] })) (fun i => 16 - i) (0) ?st1 ?rd1
  case st1 =>
   refine ⟨lp, lp, lp, ?_⟩
   · simp [digs, u64s]
  case rd1 =>
   rintro i ρ1 σ1 hF1 ⟨hi, h3, h4, hσ⟩; obtain rfl := hσ.symm
   have f1 := keepL hF1
   (try simp [KeepL, F] at f1); replace F := aF h3 F; replace F := aF h4 F; (try replace F := aF f1 F); refine sq fun K8 hK8 => ?_; refine sr fun _ hJ10 => ?_; refine hJ10 _ _ ?_; refine cs (fun c6 => ?_) (fun c6 => ?_)
   · try exact nope c6
     all_goals
      replace F := wf F c6; refine run_skip ?_; refine hK8 _ _ ?_; refine sq fun K11 hK11 => ?_; refine run_block_k ?_
      have hi16 : i < 16 := by simp at c6; omega
      obtain ⟨q, hq⟩ : ∃ q, q = i / 4 := ⟨_, rfl⟩
      obtain ⟨r, hr⟩ : ∃ r, r = i % 4 := ⟨_, rfl⟩
      have e1 : (i : Int) / 4 = (q : Int) := by omega
      have e2 : (i : Int) % 4 = (r : Int) := by omega
      have hq4 : q < 4 := by omega
      have hq4i : (q : Int) < 4 := by omega
      have e3 : (i : Int).tdiv 4 = (q : Int) := by rw [Int.tdiv_eq_ediv_of_nonneg (by omega)]; exact e1
      have e4 : (i : Int).tmod 4 = (r : Int) := by rw [Int.tmod_eq_emod_of_nonneg (by omega)]; exact e2
      obtain ⟨L, hL⟩ : ∃ L, L = x / 18446744073709551616 ^ q % 18446744073709551616 := ⟨_, rfl⟩
      have hgx : (numA x)[q]? = some (.v (.int .u64 L)) := by rw [hL, numA_digs]; exact digU_get hq4
      obtain ⟨_, hgx2⟩ := List.getElem?_eq_some_iff.1 hgx
      have hneg : ¬ (16 * (r : Int) < 0) := by omega
      have htn : (16 * (r : Int)).toNat = 16 * r := by omega
      have hmn : min (16 * r) 64 = 16 * r := by omega
      obtain ⟨V, hV⟩ : ∃ V, V = x / 65536 ^ i % 65536 := ⟨_, rfl⟩
      have hval : ((L : Int).fdiv (2 ^ (16 * r))).tmod 65536 = (V : Int) := by rw [pow2_cast, fdiv_nat, hV, ← digit16, ← hq, ← hr, ← hL, Int.tmod_eq_emod_of_nonneg (Int.natCast_nonneg _)]; rfl
      have hb1 : (i + 1) * 8 ≤ 140737488355328 := by omega
      have hb2 : i ≤ 9223372036854775806 := by omega
      have htk : List.take i (u64s (digs 65536 i x)) = u64s (digs 65536 i x) := List.take_of_length_le (by simp)
      have hsn : u64s (digs 65536 i x) ++ [.v (.int .u64 V)] = u64s (digs 65536 (i + 1) x) := by rw [u64s_snoc, hV, ← digs_snoc]
      replace F := aF hneg F; replace F := aF htn F; replace F := aF hmn F; replace F := aF hval F; replace F := aF hb1 F; replace F := aF hb2 F; replace F := aF htk F; replace F := aF hsn F; replace F := aF e1 F; replace F := aF e2 F; replace F := aF e3 F; replace F := aF e4 F; replace F := aF hq4 F; replace F := aF hq4i F; replace F := aF hgx F; replace F := aF hgx2 F; replace F := aF hi16 F; refine rg' (h := fun J12 hJ12 => ?_); refine hJ12 _ _ ?_; refine hK11 _ _ ?_; refine rg' (h := fun J13 hJ13 => ?_); refine hJ13 _ _ ?_; refine ⟨(i + 1), ⟨kp, lp, lp, lp, lp⟩, lp⟩
   try exact nope c6
   all_goals
    replace F := wf F c6
    obtain rfl : i = 16 := by simp at c6; omega
    refine run_exit ?_; refine hK5 _ _ ?_; refine sr fun _ hJ15 => ?_; refine hJ15 _ _ ?_; refine ra ?_; exact gco

theorem digits_sl {σ : St} {x : Nat} :
    CallsA Try.prog 127 [.agg (numA x)] σ (fun av σ' => av = .sl 1 (u64s (digs 65536 16 x)) 16 .shut ∧ σ = σ') :=
  callsA_mono (callsA_freeze_ret (callsA_mono digits_ok (fun av σ' ⟨h1, h2⟩ => ⟨16, none, h1, h2⟩)) (by simp) (u64s_under _ _)) (fun av σ' ⟨h1, h2⟩ => ⟨h1, h2.symm⟩)

set_option maxHeartbeats 1600000 in
attribute [local simp] undefA List.getElem?_cons_zero List.getElem?_cons_succ in
theorem carry_ok {σ : St} {k g n : Nat} {L : List Nat} (hr : σ.rows[k]? = some ⟨g, u64s L, none⟩) (hn : L.length = n) (hn2 : n ≤ 1000) (hL : ∀ d ∈ L, d ≤ 4611686018427387904) :
    CallsA Try.prog 121 [.row k g 0 1 n] σ (fun av σ' => av = .row k (g + 1) 0 1 (n + 1) ∧ σ' = { σ with rows := σ.rows.set k ⟨g + 1, u64s (digs 65536 n (valD 65536 L) ++ [valD 65536 L / 65536 ^ n]), none⟩ }) := by
  subst hn
  have hs := fun x => set_self_of hr x
  have hss : ∀ x y : RowSt, (σ.rows.set k x).set k y = σ.rows.set k y := fun x y => List.set_set _
  have F := And.intro hs (And.intro hss (True.intro))
  refine callsA_body Try.func121 rfl rfl rfl ?_; refine sr fun _ hJ2 => ?_; refine hJ2 _ _ ?_; refine sr fun _ hJ4 => ?_; refine hJ4 _ _ ?_; refine sq fun K5 hK5 => ?_; refine sr fun _ hJ7 => ?_; refine hJ7 _ _ ?_; refine run_block_k ?_; refine run_loopF (X := Nat) [0, 2] (fun i ρ σ1 => (i ≤ L.length) ∧ (ρ 3 = .v (.int .u64 (crO 65536 L i : Nat))) ∧ (ρ 4 = .v (.int .i64 i)) ∧ (σ1 = { σ with rows := σ.rows.set k ⟨g, u64s (crA 65536 L i), none⟩ })) (fun i => L.length - i) (0) ?st1 ?rd1
  case st1 =>
   refine ⟨lp, ?_, lp, ?_⟩
   · simp [crO_zero]
   · rw [crA_zero, Ytdbaddholggkbaa.set_same hr]
  case rd1 =>
   rintro i ρ1 σ1 hF1 ⟨hi, h3, h4, hσ⟩; obtain rfl := hσ.symm
   have f1 := keepL hF1
   (try simp [KeepL, F] at f1); replace F := aF h3 F; replace F := aF h4 F; (try replace F := aF f1 F); refine sq fun K8 hK8 => ?_; refine sr fun _ hJ10 => ?_; refine hJ10 _ _ ?_; refine cs (fun c8 => ?_) (fun c8 => ?_)
   · try exact nope c8
     all_goals
      replace F := wf F c8; refine run_skip ?_; refine hK8 _ _ ?_; refine sq fun K11 hK11 => ?_; refine run_block_k ?_; refine sq fun K12 hK12 => ?_
      have hlt : i < L.length := by simp at c8; omega
      obtain ⟨d, hd⟩ : ∃ d, d = L[i] := ⟨_, rfl⟩
      have hgx : (u64s (crA 65536 L i))[i]? = some (.v (.int .u64 d)) := by rw [hd]; exact u64s_get_of (crA_get hlt)
      obtain ⟨_, hgx2⟩ := List.getElem?_eq_some_iff.1 hgx
      have hcl := crA_len (b := 65536) hi
      have hdl : d ≤ 4611686018427387904 := by rw [hd]; exact hL _ (List.getElem_mem _)
      have hcO := crO_le (b := 65536) (by omega) hL i hi
      obtain ⟨c, hc⟩ : ∃ c, c = crO 65536 L i := ⟨_, rfl⟩
      rw [← hc] at h3 F hcO
      have hsum : IntKind.u64.wrap ((c : Int) + d) = ((c + d : Nat) : Int) := by rw [wrap_u64c (by omega)]; push_cast; rfl
      obtain ⟨s, hsd⟩ : ∃ s, s = c + d := ⟨_, rfl⟩
      rw [← hsd] at hsum
      have hs6 : (s : Int).tmod 65536 = ((s % 65536 : Nat) : Int) := by rw [Int.tmod_eq_emod_of_nonneg (by omega)]; rfl
      obtain ⟨m, hm⟩ : ∃ m, m = s % 65536 := ⟨_, rfl⟩
      obtain ⟨v, hv⟩ : ∃ v, v = s / 65536 := ⟨_, rfl⟩
      rw [← hm] at hs6
      have hs7 : (s : Int).tdiv 65536 = (v : Int) := by rw [Int.tdiv_eq_ediv_of_nonneg (by omega), hv]; rfl
      have hs8 : (s : Int) / 65536 = (v : Int) := by omega
      have hs9 : (s : Int) % 65536 = (m : Int) := by omega
      have hlti : (i : Int) < L.length := by omega
      have hset := u64s_set (crA 65536 L i) i m (by rw [hcl]; exact hlt)
      have hcs : (crA 65536 L i).set i m = crA 65536 L (i + 1) := by rw [hm, hsd, hc, hd]; exact crA_set (by omega) hlt
      rw [hcs] at hset
      have hvn : v = crO 65536 L (i + 1) := by rw [hv, hsd, hc, hd]; exact crO_next (by omega) hlt
      replace F := aF hgx F; replace F := aF hgx2 F; replace F := aF hcl F; replace F := aF hlt F; replace F := aF hlti F; replace F := aF hsum F; replace F := aF hs6 F; replace F := aF hs7 F; replace F := aF hs8 F; replace F := aF hs9 F; refine rg' (h := fun J13 hJ13 => ?_); refine hJ13 _ _ ?_; refine hK12 _ _ ?_; refine sr fun _ hJ15 => ?_; refine hJ15 _ _ ?_; refine rg' (h := fun J16 hJ16 => ?_); refine hJ16 _ _ ?_; refine hK11 _ _ ?_; refine rg' (h := fun J17 hJ17 => ?_); refine hJ17 _ _ ?_; refine ⟨(i + 1), ⟨kp, lp, ?_, lp, ?_⟩, lp⟩
      · simp [F, hvn]
      · simp [F, hset]
   try exact nope c8
   all_goals
    replace F := wf F c8
    obtain rfl : i = L.length := by simp at c8; omega
    have hb1 : (L.length + 1) * 8 ≤ 140737488355328 := by omega
    have hb2 : L.length ≤ 9223372036854775806 := by omega
    have hcl := crA_len (b := 65536) (Nat.le_refl L.length)
    have htk : List.take L.length (u64s (crA 65536 L L.length)) = u64s (crA 65536 L L.length) := List.take_of_length_le (by simp [hcl])
    have hall : u64s (crA 65536 L L.length) ++ [.v (.int .u64 (crO 65536 L L.length : Nat))] = u64s (digs 65536 L.length (valD 65536 L) ++ [valD 65536 L / 65536 ^ L.length]) := by rw [u64s_snoc, crA_all]
    replace F := aF hb1 (And.intro hb2 (And.intro hcl (And.intro htk (And.intro hall F)))); refine run_exit ?_; refine hK5 _ _ ?_; refine sr fun _ hJ19 => ?_; refine hJ19 _ _ ?_; refine ra ?_; exact rt

end Go.Proofs.Ytdbaddholggkbaa

/-
  The document's numbers: what digits are; sums.
-/
namespace Go.Proofs.Ytdbaddholggkbaa
set_option linter.unnecessarySimpa false
set_option maxRecDepth 100000
open Go Go.Vm
set_option linter.unusedSimpArgs false
set_option linter.unusedVariables false
attribute [local simp] evalL wantedA isCall opA evalA evalAll evalsA evalOpt ofValue ofCell plain binA_eql_pn binA_neq_pn binA_gtr binA_lss binA_geq binA_leq binA_add binA_sub binA_eql binA_neq binA_orI binA_andI binA_shl binA_shr binA_mul binA_quo binA_rem binA_agg_eql binA_agg_neq convA_int unA_not fieldAddrA loadA partA pickA_true pickA_false pickA_bb lenA builtinA storeA splice readA rowAppA zc64 appendA roomA maxLen AV.cells AV.isCell sliceA boundA intA callOf indexAddrA newObjA buildA fillA zeroA ofCells buildSliceA indexA fieldA numA_len4 numA_take4 numA_drop4 set_appN get_appN take_appN List.getElem?_cons_zero List.getElem?_cons_succ

set_option maxHeartbeats 1600000 in
attribute [local simp] undefA List.getElem?_cons_zero List.getElem?_cons_succ numA_zero4 in
theorem rof_ok {σ : St} {L : List Nat} {n : Nat} {tl : Tail} (hn : L.length = n) (h16 : 16 ≤ n) (hl : n ≤ 1000) (hL : ∀ d ∈ L.take 16, d < 65536) :
    CallsA Try.prog 122 [.sl 1 (u64s L) n tl] σ (fun av σ' => av = .tup [.agg (numA (if valD 65536 L < 2 ^ 256 then valD 65536 L else 0)), .v (.bool (decide (valD 65536 L < 2 ^ 256)))] ∧ σ = σ') := by
  refine callsA_gcS ?_ (by simp [AV.under, underL, numA])
  have e256 : (65536 : Nat) ^ 16 = 2 ^ 256 := by rw [show (65536 : Nat) = 2 ^ 16 from rfl, ← Nat.pow_mul]
  subst hn
  have F := True.intro
  refine callsA_body Try.func122 rfl rfl rfl ?_; refine sr fun _ hJ2 => ?_; refine hJ2 _ _ ?_; refine sr fun _ hJ4 => ?_; refine hJ4 _ _ ?_; refine sq fun K5 hK5 => ?_; refine sr fun _ hJ7 => ?_; refine hJ7 _ _ ?_; refine run_block_k ?_; refine run_loopF (X := Nat) [0, 2, 4] (fun i ρ σ1 => (i ≤ L.length) ∧ (∀ j, 16 ≤ j → j < i → L[j]? = some 0) ∧ (ρ 5 = .v (.int .i64 i)) ∧ (σ1 = { σ with objs := σ.objs ++ [numA 0, numA (valD 65536 (L.take (min i 16)))] })) (fun i => L.length - i) (0) ?st1 ?rd1
  case st1 =>
   refine ⟨lp, ?_, lp, ?_⟩
   · intro j h1 h2
     omega
   · simp [numA_zero4]
  case rd1 =>
   rintro i ρ1 σ1 hF1 ⟨hi, hz, h5, hσ⟩; obtain rfl := hσ.symm
   have f1 := keepL hF1
   (try simp [KeepL, F] at f1); replace F := aF h5 F; (try replace F := aF f1 F); refine sq fun K8 hK8 => ?_; refine sr fun _ hJ10 => ?_; refine hJ10 _ _ ?_; refine cs (fun c9 => ?_) (fun c9 => ?_)
   · try exact nope c9
     all_goals
      replace F := wf F c9; refine run_skip ?_; refine hK8 _ _ ?_; refine sq fun K11 hK11 => ?_; refine run_block_k ?_; refine sq fun K12 hK12 => ?_; refine sq fun K13 hK13 => ?_
      have hlt : i < L.length := by simp at c9; omega
      obtain ⟨d, hd⟩ : ∃ d, d = L[i] := ⟨_, rfl⟩
      have hgd : L[i]? = some d := by rw [hd]; exact List.getElem?_eq_getElem hlt
      have hgx : (u64s L)[i]? = some (.v (.int .u64 d)) := u64s_get_of hgd
      obtain ⟨_, hgx2⟩ := List.getElem?_eq_some_iff.1 hgx
      have hlti : (i : Int) < L.length := by omega
      have hdr : List.drop i (u64s L) = .v (.int .u64 d) :: List.drop (i + 1) (u64s L) := by rw [List.drop_eq_getElem_cons (by simpa using hlt), hgx2]
      replace F := aF hgx F; replace F := aF hgx2 F; replace F := aF hlt F; replace F := aF hlti F; replace F := aF hdr F; refine rg' (h := fun J14 hJ14 => ?_); refine gs 14 (fun g5_2 => ?_) (fun g5_2 => ?_)
      · try exact nope g5_2
        all_goals
         replace F := wf F g5_2; (iterate 5 refine go2 (k := ?_)); refine hJ14 _ _ ?_; refine hK13 _ _ ?_; refine cs (fun c20 => ?_) (fun c20 => ?_)
         · try exact nope c20
           all_goals
            replace F := wf F c20
            have hbig : ¬ valD 65536 L < 2 ^ 256 := by rw [← e256]; exact valD_big (by omega) (by have h := g5_2; simp at h; omega) hlt (by rw [← hd]; have h := c20; simp at h; omega)
            replace F := aF hbig (And.intro (if_neg hbig : (if valD 65536 L < 2 ^ 256 then valD 65536 L else 0) = 0) F); refine sr fun _ hJ16 => ?_; refine hJ16 _ _ ?_; refine run_ret ?_; (try simp only [Then, InBlock, NoGoto]); refine acell2 (h := ?_); exact gcr
         try exact nope c20
         all_goals
          replace F := wf F c20; refine run_skip ?_; refine hK12 _ _ ?_; refine sr fun _ hJ18 => ?_; refine hJ18 _ _ ?_; refine cs (fun c23 => ?_) (fun c23 => ?_)
          · try exact nope c23
            all_goals
             replace F := wf F c23
             have hi16 : i < 16 := by have h := c23; simp at h; omega
             have hm1 : min i 16 = i := by omega
             have hm2 : min (i + 1) 16 = i + 1 := by omega
             obtain ⟨T, hT⟩ : ∃ T, T = valD 65536 (L.take i) := ⟨_, rfl⟩
             have hTl : T < 65536 ^ i := by rw [hT]; have := valD_lt (b := 65536) (l := L.take i) (fun x hx => hL x (by rw [List.mem_take_iff_getElem] at hx ⊢; obtain ⟨k, hk, e⟩ := hx; exact ⟨k, by omega, e⟩)); rwa [List.length_take, Nat.min_eq_left (by omega)] at this
             have hdl : d < 65536 := hL d (by rw [hd, List.mem_take_iff_getElem]; exact ⟨i, by omega, rfl⟩)
             rw [hm1, ← hT]
             obtain ⟨q, hq⟩ : ∃ q, q = i / 4 := ⟨_, rfl⟩
             obtain ⟨r, hr⟩ : ∃ r, r = i % 4 := ⟨_, rfl⟩
             have e1 : (i : Int) / 4 = (q : Int) := by omega
             have e2 : (i : Int) % 4 = (r : Int) := by omega
             have hq4 : q < 4 := by omega
             have hq4i : (q : Int) < 4 := by omega
             have e3 : (i : Int).tdiv 4 = (q : Int) := by rw [Int.tdiv_eq_ediv_of_nonneg (by omega)]; exact e1
             have e4 : (i : Int).tmod 4 = (r : Int) := by rw [Int.tmod_eq_emod_of_nonneg (by omega)]; exact e2
             have hneg : ¬ (16 * (r : Int) < 0) := by omega
             have htn : (16 * (r : Int)).toNat = 16 * r := by omega
             have hmn : min (16 * r) 64 = 16 * r := by omega
             obtain ⟨hy1, hy2⟩ := digs_lay hq hr hi16 hTl hdl
             obtain ⟨M, hM⟩ : ∃ M, M = T / 18446744073709551616 ^ q % 18446744073709551616 := ⟨_, rfl⟩
             rw [← hM] at hy1 hy2
             have hgM : (numA T)[q]? = some (.v (.int .u64 M)) := by rw [hM, numA_digs]; exact digU_get hq4
             obtain ⟨_, hgM2⟩ := List.getElem?_eq_some_iff.1 hgM
             obtain ⟨S, hS⟩ : ∃ S, S = d * 2 ^ (16 * r) := ⟨_, rfl⟩
             rw [← hS] at hy1 hy2
             have hsh : IntKind.u64.wrap ((d : Int) * 2 ^ (16 * r)) = (S : Int) := by rw [pow2_cast, show (d : Int) * ((2 ^ (16 * r) : Nat) : Int) = ((d * 2 ^ (16 * r) : Nat) : Int) by push_cast; rfl, ← hS]; exact wrapN (by omega)
             obtain ⟨A, hA⟩ : ∃ A, A = M + S := ⟨_, rfl⟩
             rw [← hA] at hy1 hy2
             have had : IntKind.u64.wrap ((M : Int) + S) = (A : Int) := by rw [show (M : Int) + S = (A : Int) by omega]; exact wrapN hy1
             have hset := u64s_set (digs 18446744073709551616 4 T) q A (by simpa using hq4)
             rw [hy2, ← numA_digs, ← numA_digs] at hset
             have hnx : valD 65536 (L.take (i + 1)) = T + 65536 ^ i * d := by rw [valD_take_succ hlt, ← hT, hd]
             replace F := aF hm2 F; replace F := aF e1 F; replace F := aF e2 F; replace F := aF e3 F; replace F := aF e4 F; replace F := aF hneg F; replace F := aF htn F; replace F := aF hmn F; replace F := aF hq4 F; replace F := aF hq4i F; replace F := aF hgM F; replace F := aF hgM2 F; replace F := aF hsh F; replace F := aF had F
             refine run_draw (by kernel_rfl) fun J19 hJ19 => ?_
             refine rp2 0 (k := ?_); refine rp2 1 (k := ?_); refine rp2 2 (k := ?_); refine rp2 3 (k := ?_); refine rp2 4 (k := ?_); refine rp2 5 (k := ?_); refine rp2 6 (k := ?_); refine rp2 7 (k := ?_); refine rp2 8 (k := ?_); refine rp2 9 (k := ?_); refine rp2 10 (k := ?_); refine rp2 11 (k := ?_); refine rp2 12 (k := ?_); refine rp2 13 (k := ?_); refine dop 14 rfl ?_; (repeat (first | simp [F] | simp (disch := omega) only [wC, if_pos, if_neg])); refine ⟨ln, ?_⟩; refine dd ?_; refine hJ19 _ _ ?_; refine hK11 _ _ ?_; refine rg' (h := fun J20 hJ20 => ?_); refine hJ20 _ _ ?_; refine ⟨(i + 1), ⟨kp, lp, ?_, lp, ?_⟩, lp⟩
             · intro j h1 h2
               by_cases hj : j = i
               · subst hj; first | omega | (rw [hgd, hd0])
               · exact hz j h1 (by omega)
             · simp [F]
               rw [hnx]
               exact hset
          try exact nope c23
          all_goals
           replace F := wf F c23
           have hd0 : d = 0 := by have h := c20; simp at h; omega
           have hi16 : 16 ≤ i := by have h := c23; simp at h; omega
           have hm1 : min i 16 = 16 := by omega
           have hm2 : min (i + 1) 16 = 16 := by omega
           replace F := aF hm1 (And.intro hm2 F); refine run_skip ?_; refine hK11 _ _ ?_; refine rg' (h := fun J21 hJ21 => ?_); refine hJ21 _ _ ?_; refine ⟨(i + 1), ⟨kp, lp, ?_, lp, lp⟩, lp⟩
           · intro j h1 h2
             by_cases hj : j = i
             · subst hj; first | omega | (rw [hgd, hd0])
             · exact hz j h1 (by omega)
      try exact nope g5_2
      all_goals
       replace F := wf F g5_2; (iterate 5 refine no2 (k := ?_)); refine hJ14 _ _ ?_; refine hK13 _ _ ?_; refine cf ?_; refine run_skip ?_; refine hK12 _ _ ?_; refine sr fun _ hJ23 => ?_; refine hJ23 _ _ ?_; refine cs (fun c23 => ?_) (fun c23 => ?_)
       · try exact nope c23
         all_goals
          replace F := wf F c23
          have hi16 : i < 16 := by have h := c23; simp at h; omega
          have hm1 : min i 16 = i := by omega
          have hm2 : min (i + 1) 16 = i + 1 := by omega
          obtain ⟨T, hT⟩ : ∃ T, T = valD 65536 (L.take i) := ⟨_, rfl⟩
          have hTl : T < 65536 ^ i := by rw [hT]; have := valD_lt (b := 65536) (l := L.take i) (fun x hx => hL x (by rw [List.mem_take_iff_getElem] at hx ⊢; obtain ⟨k, hk, e⟩ := hx; exact ⟨k, by omega, e⟩)); rwa [List.length_take, Nat.min_eq_left (by omega)] at this
          have hdl : d < 65536 := hL d (by rw [hd, List.mem_take_iff_getElem]; exact ⟨i, by omega, rfl⟩)
          rw [hm1, ← hT]
          obtain ⟨q, hq⟩ : ∃ q, q = i / 4 := ⟨_, rfl⟩
          obtain ⟨r, hr⟩ : ∃ r, r = i % 4 := ⟨_, rfl⟩
          have e1 : (i : Int) / 4 = (q : Int) := by omega
          have e2 : (i : Int) % 4 = (r : Int) := by omega
          have hq4 : q < 4 := by omega
          have hq4i : (q : Int) < 4 := by omega
          have e3 : (i : Int).tdiv 4 = (q : Int) := by rw [Int.tdiv_eq_ediv_of_nonneg (by omega)]; exact e1
          have e4 : (i : Int).tmod 4 = (r : Int) := by rw [Int.tmod_eq_emod_of_nonneg (by omega)]; exact e2
          have hneg : ¬ (16 * (r : Int) < 0) := by omega
          have htn : (16 * (r : Int)).toNat = 16 * r := by omega
          have hmn : min (16 * r) 64 = 16 * r := by omega
          obtain ⟨hy1, hy2⟩ := digs_lay hq hr hi16 hTl hdl
          obtain ⟨M, hM⟩ : ∃ M, M = T / 18446744073709551616 ^ q % 18446744073709551616 := ⟨_, rfl⟩
          rw [← hM] at hy1 hy2
          have hgM : (numA T)[q]? = some (.v (.int .u64 M)) := by rw [hM, numA_digs]; exact digU_get hq4
          obtain ⟨_, hgM2⟩ := List.getElem?_eq_some_iff.1 hgM
          obtain ⟨S, hS⟩ : ∃ S, S = d * 2 ^ (16 * r) := ⟨_, rfl⟩
          rw [← hS] at hy1 hy2
          have hsh : IntKind.u64.wrap ((d : Int) * 2 ^ (16 * r)) = (S : Int) := by rw [pow2_cast, show (d : Int) * ((2 ^ (16 * r) : Nat) : Int) = ((d * 2 ^ (16 * r) : Nat) : Int) by push_cast; rfl, ← hS]; exact wrapN (by omega)
          obtain ⟨A, hA⟩ : ∃ A, A = M + S := ⟨_, rfl⟩
          rw [← hA] at hy1 hy2
          have had : IntKind.u64.wrap ((M : Int) + S) = (A : Int) := by rw [show (M : Int) + S = (A : Int) by omega]; exact wrapN hy1
          have hset := u64s_set (digs 18446744073709551616 4 T) q A (by simpa using hq4)
          rw [hy2, ← numA_digs, ← numA_digs] at hset
          have hnx : valD 65536 (L.take (i + 1)) = T + 65536 ^ i * d := by rw [valD_take_succ hlt, ← hT, hd]
          replace F := aF hm2 F; replace F := aF e1 F; replace F := aF e2 F; replace F := aF e3 F; replace F := aF e4 F; replace F := aF hneg F; replace F := aF htn F; replace F := aF hmn F; replace F := aF hq4 F; replace F := aF hq4i F; replace F := aF hgM F; replace F := aF hgM2 F; replace F := aF hsh F; replace F := aF had F
          refine run_draw (by kernel_rfl) fun J24 hJ24 => ?_
          refine rp2 0 (k := ?_); refine rp2 1 (k := ?_); refine rp2 2 (k := ?_); refine rp2 3 (k := ?_); refine rp2 4 (k := ?_); refine rp2 5 (k := ?_); refine rp2 6 (k := ?_); refine rp2 7 (k := ?_); refine rp2 8 (k := ?_); refine rp2 9 (k := ?_); refine rp2 10 (k := ?_); refine rp2 11 (k := ?_); refine rp2 12 (k := ?_); refine rp2 13 (k := ?_); refine dop 14 rfl ?_; (repeat (first | simp [F] | simp (disch := omega) only [wC, if_pos, if_neg])); refine ⟨ln, ?_⟩; refine dd ?_; refine hJ24 _ _ ?_; refine hK11 _ _ ?_; refine rg' (h := fun J25 hJ25 => ?_); refine hJ25 _ _ ?_; refine ⟨(i + 1), ⟨kp, lp, ?_, lp, ?_⟩, lp⟩
          · intro j h1 h2
            by_cases hj : j = i
            · subst hj; first | omega | (rw [hgd, hd0])
            · exact hz j h1 (by omega)
          · simp [F]
            rw [hnx]
            exact hset
       try exact nope c23
       all_goals
        replace F := wf F c23
        have hd0 : d = 0 := by have h := c20; simp at h; omega
        have hi16 : 16 ≤ i := by have h := c23; simp at h; omega
        have hm1 : min i 16 = 16 := by omega
        have hm2 : min (i + 1) 16 = 16 := by omega
        replace F := aF hm1 (And.intro hm2 F); refine run_skip ?_; refine hK11 _ _ ?_; refine rg' (h := fun J26 hJ26 => ?_); refine hJ26 _ _ ?_; refine ⟨(i + 1), ⟨kp, lp, ?_, lp, lp⟩, lp⟩
        · intro j h1 h2
          by_cases hj : j = i
          · subst hj; first | omega | (rw [hgd, hd0])
          · exact hz j h1 (by omega)
   try exact nope c9
   all_goals
    replace F := wf F c9
    obtain rfl : i = L.length := by simp at c9; omega
    have hm1 : min L.length 16 = 16 := by omega
    have hv : valD 65536 L = valD 65536 (L.take 16) := valD_zeros (fun j h1 h2 => by have := hz j h1 h2; rw [List.getElem?_eq_getElem h2] at this; simpa using this)
    have hfit : valD 65536 L < 2 ^ 256 := by rw [hv, ← e256]; have := valD_lt (b := 65536) (l := L.take 16) hL; rwa [List.length_take, Nat.min_eq_left h16] at this
    rw [hm1, ← hv]
    replace F := aF hfit (And.intro hm1 F); refine run_exit ?_; refine hK5 _ _ ?_; refine sr fun _ hJ28 => ?_; refine hJ28 _ _ ?_; refine run_ret ?_; (try simp only [Then, InBlock, NoGoto]); refine acell2 (h := ?_); exact gcr

theorem valD_whole (b n V : Nat) : valD b (digs b n V ++ [V / b ^ n]) = V := by
  rw [valD_snoc, valD_digs, digs_len, Nat.mod_add_div]

set_option maxHeartbeats 1600000 in
attribute [local simp] undefA List.getElem?_cons_zero List.getElem?_cons_succ u64s_noObj in
theorem radd_ok {σ : St} {x y : Nat} (hx : x < 2 ^ 256) (hy : y < 2 ^ 256) :
    CallsA Try.prog 77 [.agg (numA x), .agg (numA y)] σ (fun av σ' => av = .tup [.agg (numA (addN x y)), .v (.bool (decide (x + y < 2 ^ 256)))] ∧ σ = σ') := by
  refine callsA_gcS ?_ (by simp [AV.under, underL, numA])
  have e256 : (65536 : Nat) ^ 16 = 2 ^ 256 := by rw [show (65536 : Nat) = 2 ^ 16 from rfl, ← Nat.pow_mul]
  have hx4 : x < 65536 ^ 16 := by rw [e256]; exact hx
  have hy4 : y < 65536 ^ 16 := by rw [e256]; exact hy
  obtain ⟨X, hX⟩ : ∃ X, X = digs 65536 16 x := ⟨_, rfl⟩
  obtain ⟨Y, hY⟩ : ∃ Y, Y = digs 65536 16 y := ⟨_, rfl⟩
  have hXl : X.length = 16 := by rw [hX]; simp
  have hYl : Y.length = 16 := by rw [hY]; simp
  have hXm : ∀ d ∈ X, d < 65536 := by rw [hX]; exact digs_lt (by decide)
  have hYm : ∀ d ∈ Y, d < 65536 := by rw [hY]; exact digs_lt (by decide)
  have hXY : X.length = Y.length := by omega
  have hvs : valD 65536 (addm X Y 16) = x + y := by
    rw [show 16 = X.length by omega, addm_all hXY, valD_zip _ _ _ hXY, hX, hY, valD_digs, valD_digs, Nat.mod_eq_of_lt hx4, Nat.mod_eq_of_lt hy4]
  have F := True.intro
  refine callsA_body Try.func77 rfl rfl rfl ?_; refine sr fun _ hJ2 => ?_; refine hJ2 _ _ ?_; refine sq fun K3 hK3 => ?_
  refine run_draw (by kernel_rfl) fun J4 hJ4 => ?_
  refine rp2 0 (k := ?_); refine rp2 2 (k := ?_); refine dc 1 rfl (c := digits_ok (x := x)) (k := ?_); rintro _ _ ⟨rfl, rfl⟩
  refine ⟨by first | exact fun _ _ h => h | (refine later_list [2] (by kernel_rfl) (fc2 ?_ <| fn0) <;> constructor <;> first | rfl | (simp [F]; done)), ?_⟩
  (repeat (first | simp [F] | simp (disch := omega) only [wC, if_pos, if_neg])); refine dc 3 rfl (c := digits_sl (x := y)) (k := ?_); rintro _ _ ⟨rfl, rfl⟩; refine ⟨ln, ?_⟩; (repeat (first | simp [F] | simp (disch := omega) only [wC, if_pos, if_neg])); refine rp2 4 (k := ?_); refine rp2 5 (k := ?_); refine dd ?_; refine hJ4 _ _ ?_; refine hK3 _ _ ?_; refine sq fun K5 hK5 => ?_; refine sr fun _ hJ7 => ?_; refine hJ7 _ _ ?_; refine run_block_k ?_; refine run_loopF (X := Nat) [4, 5, 6, 7] (fun i ρ σ1 => (i ≤ 16) ∧ (ρ 8 = .v (.int .i64 i)) ∧ (σ1 = { σ with objs := σ.objs ++ [numA x, numA y, numA 0], rows := σ.rows ++ [⟨16, u64s (addm X Y i), none⟩] })) (fun i => 16 - i) (0) ?st1 ?rd1
  case st1 =>
   refine ⟨lp, lp, ?_⟩
   · rw [addm_zero, hX]; simp [numA_zero4]
  case rd1 =>
   rintro i ρ1 σ1 hF1 ⟨hi, h8, hσ⟩; obtain rfl := hσ.symm
   have f1 := keepL hF1
   (try simp [KeepL, F] at f1); replace F := aF h8 F; (try replace F := aF f1 F); refine sq fun K8 hK8 => ?_; refine sr fun _ hJ10 => ?_; refine hJ10 _ _ ?_; refine cs (fun c14 => ?_) (fun c14 => ?_)
   · try exact nope c14
     all_goals
      replace F := wf F c14; refine run_skip ?_; refine hK8 _ _ ?_; refine sq fun K11 hK11 => ?_; refine run_block_k ?_
      have hi16 : i < 16 := by simp at c14; omega
      obtain ⟨p, hp⟩ : ∃ p, p = X[i] := ⟨_, rfl⟩
      obtain ⟨q, hq⟩ : ∃ q, q = Y[i] := ⟨_, rfl⟩
      have hgx : (u64s (addm X Y i))[i]? = some (.v (.int .u64 p)) := by rw [hp]; exact u64s_get_of (addm_get hXY (by omega))
      have hgy : (u64s (digs 65536 16 y))[i]? = some (.v (.int .u64 q)) := by rw [← hY, hq]; exact u64s_get_of (List.getElem?_eq_getElem (by omega))
      obtain ⟨_, hgx2⟩ := List.getElem?_eq_some_iff.1 hgx
      obtain ⟨_, hgy2⟩ := List.getElem?_eq_some_iff.1 hgy
      have hdy : List.drop i (u64s (digs 65536 16 y)) = .v (.int .u64 q) :: List.drop (i + 1) (u64s (digs 65536 16 y)) := by rw [List.drop_eq_getElem_cons (by simpa using hi16), hgy2]
      have hpl : p < 65536 := by rw [hp]; exact hXm _ (List.getElem_mem _)
      have hql : q < 65536 := by rw [hq]; exact hYm _ (List.getElem_mem _)
      have hal := addm_len hXY (show i ≤ X.length by omega)
      rw [hXl] at hal
      obtain ⟨s, hs⟩ : ∃ s, s = p + q := ⟨_, rfl⟩
      have hsw : IntKind.u64.wrap ((p : Int) + q) = (s : Int) := by rw [show (p : Int) + q = (s : Int) by omega]; exact wrapN (by omega)
      have hset := u64s_set (addm X Y i) i s (by omega)
      rw [hs, hp, hq, addm_set hXY (by omega), ← hp, ← hq, ← hs] at hset
      have hii : (i : Int) < 16 := by omega
      replace F := aF hgx F; replace F := aF hgy F; replace F := aF hgx2 F; replace F := aF hgy2 F; replace F := aF hdy F; replace F := aF hal F; replace F := aF hsw F; replace F := aF hi16 F; replace F := aF hii F
      refine run_draw (by kernel_rfl) fun J12 hJ12 => ?_
      refine rp2 0 (k := ?_); refine rp2 1 (k := ?_); refine rp2 2 (k := ?_); refine rp2 3 (k := ?_); refine rp2 4 (k := ?_); refine rp2 5 (k := ?_); refine rp2 6 (k := ?_); refine rp2 7 (k := ?_); refine rp2 8 (k := ?_); refine rp2 9 (k := ?_); refine dop 10 rfl ?_; (repeat (first | simp [F] | simp (disch := omega) only [wC, if_pos, if_neg])); refine ⟨ln, ?_⟩; refine dd ?_; refine hJ12 _ _ ?_; refine hK11 _ _ ?_; refine rg' (h := fun J13 hJ13 => ?_); refine hJ13 _ _ ?_; refine ⟨(i + 1), ⟨kp, lp, lp, ?_⟩, lp⟩
      · simp [F, hset]
   try exact nope c14
   all_goals
    replace F := wf F c14
    obtain rfl : i = 16 := by simp at c14; omega
    have hal := addm_len hXY (show 16 ≤ X.length by omega)
    rw [hXl] at hal
    have hsm : ∀ d ∈ addm X Y 16, d ≤ 4611686018427387904 := by rw [show addm X Y 16 = List.zipWith (· + ·) X Y by rw [← addm_all hXY, hXl]]; intro d hd; have := zip_le hXm hYm d hd; omega
    refine run_exit ?_; refine hK5 _ _ ?_; refine sr fun _ hJ15 => ?_
    refine ca (c := carry_ok (k := σ.rows.length) (g := 16) (n := 16) (L := addm X Y 16) (by simp) hal (by omega) hsm) (k := ?_)
    rintro _ _ ⟨rfl, rfl⟩
    rw [hvs]
    (repeat (first | simp [F] | simp (disch := omega) only [wC, if_pos, if_neg])); refine runL_fz 28 1 (k := ?_)
    refine ca (c := rof_ok (L := digs 65536 16 (x + y) ++ [(x + y) / 65536 ^ 16]) (n := 17) (by simp) (by omega) (by omega) (by rw [List.take_append_of_le_length (by simp), List.take_of_length_le (by simp)]; exact digs_lt (by decide))) (k := ?_)
    rintro _ _ ⟨rfl, rfl⟩
    rw [valD_whole]
    have hN : (if x + y < 2 ^ 256 then x + y else 0) = addN x y := rfl
    rw [hN]
    (repeat (first | simp [F] | simp (disch := omega) only [wC, if_pos, if_neg])); refine hJ15 _ _ ?_; refine run_ret ?_; (try simp only [Then, InBlock, NoGoto]); refine acell2 (h := ?_); exact gcr
end Go.Proofs.Ytdbaddholggkbaa

/-
  The document's coins.
-/
namespace Go.Proofs.Ytdbaddholggkbaa
set_option linter.unnecessarySimpa false
set_option maxRecDepth 100000
open Go Go.Vm
set_option linter.unusedSimpArgs false
set_option linter.unusedVariables false
attribute [local simp] evalL wantedA isCall opA evalA evalAll evalsA evalOpt ofValue ofCell plain binA_eql_pn binA_neq_pn binA_gtr binA_lss binA_geq binA_leq binA_add binA_sub binA_eql binA_neq binA_orI binA_andI binA_shl binA_shr binA_mul binA_quo binA_rem binA_agg_eql binA_agg_neq convA_int unA_not fieldAddrA loadA partA pickA_true pickA_false pickA_bb lenA builtinA storeA splice AV.cells AV.isCell sliceA boundA intA callOf indexAddrA newObjA buildA fillA zeroA ofCells buildSliceA indexA fieldA numA_len4 numA_take4 numA_drop4 set_appN get_appN take_appN List.getElem?_cons_zero List.getElem?_cons_succ makeA zeros64

set_option maxHeartbeats 1600000 in
attribute [local simp] undefA List.getElem?_cons_zero List.getElem?_cons_succ in
theorem rlist_ok {σ : St} {f : Nat → Nat} (hf : ∀ d, d < 8 → f d < 2 ^ 256) :
    CallsA Try.prog 71 [.agg (purA (purF f))] σ (fun av σ' => av = .sl 5 (coinsC (lstF f 8)) (lstF f 8).length .shut ∧ σ = σ') := by
  refine callsA_gcS ?_ (by simp [AV.under])
  have hpl : (purA (purF f)).length = 32 := by rw [purA_len]; simp
  have F := And.intro hpl (True.intro)
  refine callsA_body Try.func71 rfl rfl rfl ?_; refine sr fun _ hJ2 => ?_; refine hJ2 _ _ ?_; refine sr fun _ hJ4 => ?_; refine hJ4 _ _ ?_; refine sq fun K5 hK5 => ?_; refine sr fun _ hJ7 => ?_; refine hJ7 _ _ ?_; refine run_block_k ?_; refine run_loopF (X := Nat) [1, 2] (fun d ρ σ1 => (d ≤ 8) ∧ (ρ 3 = grA σ.toks.length 5 (neB (lstF f d)) (coinsC (lstF f d)) (lstF f d).length) ∧ (ρ 4 = .v (.int .i64 d)) ∧ (σ1 = { σ with objs := σ.objs ++ [purA (purF f)], toks := σ.toks ++ grT (neB (lstF f d)) (lstF f d).length })) (fun d => 8 - d) (0) ?st1 ?rd1
  case st1 =>
   refine ⟨lp, ?_, lp, ?_⟩
   · rfl
   · simp [lstF]
  case rd1 =>
   rintro d ρ1 σ1 hF1 ⟨hj, h3, h4, hσ⟩; obtain rfl := hσ.symm
   have f1 := keepL hF1
   (try simp [KeepL, F] at f1); replace F := aF h3 F; replace F := aF h4 F; (try replace F := aF f1 F); refine sq fun K8 hK8 => ?_; refine sr fun _ hJ10 => ?_; refine hJ10 _ _ ?_; refine cs (fun c6 => ?_) (fun c6 => ?_)
   · try exact nope c6
     all_goals
      replace F := wf F c6; refine run_skip ?_; refine hK8 _ _ ?_; refine sq fun K11 hK11 => ?_; refine run_block_k ?_; refine sq fun K12 hK12 => ?_
      have hd8 : d < 8 := by simp at c6; omega
      have hat := purA_at (P := purF f) (d := d) (by simpa using hd8)
      rw [purF_get hd8] at hat
      have hb1 : d * 4 + 4 ≤ 32 := by omega
      have hd5 : (d : Int) < 8 := by omega
      have hw8 : IntKind.u8.wrap (d : Int) = (d : Int) := wrap_u8c ⟨by omega, by omega⟩
      obtain ⟨c, hc⟩ : ∃ c : Coin, c = ⟨UInt8.ofNat d, Num.of (f d)⟩ := ⟨_, rfl⟩
      have hcn : c.n.v = f d := by rw [hc]; exact Num.of_v (hf d hd8)
      have hcd : (c.d.toNat : Int) = (d : Int) := by rw [hc]; simp only [toNat_u8 (show d < 256 by omega)]
      have hcoin : AV.v (.int .u8 (d : Int)) :: numA (f d) = coinC c := by rw [coinC, hcd, hcn]
      obtain ⟨L, hL⟩ : ∃ L, L = lstF f d := ⟨_, rfl⟩
      have hLl : L.length ≤ 8 := by rw [hL]; exact Nat.le_trans (lstF_len _ _) hj
      rw [← hL] at h3 F
      rw [← hL]
      have hb0 : neB L = false → coinsC L = [] ∧ L.length = 0 := fun h => by rw [neB_no h]; simp
      have happ : ∀ objs, appendA Try.prog 23 (grA σ.toks.length 5 (neB L) (coinsC L) L.length) (.sl 5 (coinC c) 1 .full) ⟨objs, σ.toks ++ grT (neB L) L.length, σ.gl, σ.rows⟩ = some (grA σ.toks.length 5 true (coinsC L ++ coinC c) (L.length + 1), ⟨objs, σ.toks ++ grT true (L.length + 1), σ.gl, σ.rows⟩) := fun objs => append_gr elemT_23 ti_86 (by decide) rfl hb0 (.inl rfl) (by simp [roomA]; omega) (by simp [maxLen]; omega)
      have hcl : (coinC c).length = 5 := rfl
      have hca : (coinC c).all AV.isCell = true := rfl
      have hdr : ∀ f : Nat → AV, List.drop 5 (List.map f (List.range 5)) = [] := fun _ => rfl
      replace F := aF hcl F; replace F := aF hca F; replace F := aF hdr F; replace F := aF hat F; replace F := aF hb1 F; replace F := aF hd5 F; replace F := aF hd8 F; replace F := aF hw8 F; replace F := aF hcoin F; replace F := aF happ F; refine rg' (h := fun J13 hJ13 => ?_); refine cb (c := zero_ok (x := ⟨f d, hf d hd8⟩)) (k := ?_); refine hJ13 _ _ ?_; refine hK12 _ _ ?_; refine cs (fun c13 => ?_) (fun c13 => ?_)
      · try exact nope c13
        all_goals
         replace F := wf F c13
         have hnx : lstF f (d + 1) = L ++ [c] := by rw [hL, hc]; simp only [lstF]; rw [if_neg (by simpa using c13)]
         refine rg' (h := fun J14 hJ14 => ?_); refine hJ14 _ _ ?_; refine hK11 _ _ ?_; refine rg' (h := fun J15 hJ15 => ?_); refine hJ15 _ _ ?_; refine ⟨(d + 1), ⟨kp, lp, ?_, lp, ?_⟩, lp⟩
         · rw [hnx, ← coinsC_snoc]
           simp [F]
         · rw [hnx]
           simp [F]
      try exact nope c13
      all_goals
       replace F := wf F c13
       have hnx : lstF f (d + 1) = L := by rw [hL]; simp only [lstF]; rw [if_pos (by simpa using c13), List.append_nil]
       refine run_skip ?_; refine hK11 _ _ ?_; refine rg' (h := fun J16 hJ16 => ?_); refine hJ16 _ _ ?_; refine ⟨(d + 1), ⟨kp, lp, ?_, lp, ?_⟩, lp⟩
       · rw [hnx]
         simp [F]
       · rw [hnx]
   try exact nope c6
   all_goals
    replace F := wf F c6
    obtain rfl : d = 8 := by simp at c6; omega
    refine run_exit ?_; refine hK5 _ _ ?_; refine sr fun _ hJ18 => ?_; refine hJ18 _ _ ?_; refine ra ?_
    refine gcr (hA := by simp only [putA_get]; simp [F]; exact wk_grA (fun h => by rw [neB_no h]; simp))

theorem pur_len (g : Nat → Nat) : (purA (purF g)).length = 32 := by rw [purA_len]; simp
theorem pur_take (g : Nat → Nat) : (purA (purF g)).take 32 = purA (purF g) := List.take_of_length_le (by rw [pur_len]; decide)
theorem pur_drop (g : Nat → Nat) : (purA (purF g)).drop 32 = [] := List.drop_of_length_le (by rw [pur_len]; decide)
theorem pur_cell (g : Nat → Nat) : ∀ x ∈ purA (purF g), x.isCell = true := by simpa using purA_isCell (purF g)

theorem pur_all (g : Nat → Nat) : (∀ x, x ∈ purA (purF g) → x.isCell = true) = True := eq_true (pur_cell g)

set_option maxHeartbeats 1600000 in
attribute [local simp] undefA List.getElem?_cons_zero List.getElem?_cons_succ in
theorem rpof_ok {σ : St} {l : List Coin} {tl : Tail} (hl : Right l) :
    CallsA Try.prog 76 [.sl 5 (coinsC l) l.length tl] σ (fun av σ' => av = .agg (purA (purF (amt l))) ∧ σ = σ') := by
  refine callsA_gcS ?_ (by simp [AV.under, purA_under])
  have hl8 := right_len hl
  have hPl := pur_len
  have hPt := pur_take
  have hPd := pur_drop
  have hPc := pur_cell
  simp only [AV.isCell] at hPc
  have F := And.intro hPl (And.intro hPt (And.intro hPd (And.intro hPc (True.intro))))
  refine callsA_body Try.func76 rfl rfl rfl ?_; refine sr fun _ hJ2 => ?_; refine hJ2 _ _ ?_; refine sr fun _ hJ4 => ?_; refine hJ4 _ _ ?_; refine sq fun K5 hK5 => ?_; refine sr fun _ hJ7 => ?_; refine hJ7 _ _ ?_; refine run_block_k ?_; refine run_loopF (X := Nat) [0, 2, 3] (fun i ρ σ1 => (i ≤ l.length) ∧ (ρ 4 = .v (.int .i64 i)) ∧ (σ1 = { σ with objs := σ.objs ++ [purA (purF fun _ => 0), purA (purF (amt (l.take i)))] })) (fun i => l.length - i) (0) ?st1 ?rd1
  case st1 =>
   refine ⟨lp, lp, ?_⟩
   · simp only [List.take_zero, show amt [] = fun _ => 0 from rfl, purA_zero]
  case rd1 =>
   rintro i ρ1 σ1 hF1 ⟨hi, h4, hσ⟩; obtain rfl := hσ.symm
   have f1 := keepL hF1
   (try simp [KeepL, F] at f1); replace F := aF h4 F; (try replace F := aF f1 F); refine sq fun K8 hK8 => ?_; refine sr fun _ hJ10 => ?_; refine hJ10 _ _ ?_; refine cs (fun c8 => ?_) (fun c8 => ?_)
   · try exact nope c8
     all_goals
      replace F := wf F c8; refine run_skip ?_; refine hK8 _ _ ?_; refine sq fun K11 hK11 => ?_; refine run_block_k ?_
      have hlt : i < l.length := by simp at c8; omega
      have hat := coinsC_at hlt
      simp only [coinC] at hat
      have hb1 : i * 5 + 5 ≤ l.length * 5 := by omega
      obtain ⟨c, hc⟩ : ∃ c, c = l[i] := ⟨_, rfl⟩
      rw [← hc] at hat
      have htk : l.take (i + 1) = l.take i ++ [c] := by rw [hc]; exact (List.take_append_getElem hlt).symm
      have hR : Right (l.take i ++ [c]) := by rw [← htk]; exact right_take hl _
      have hd8 : c.d.toNat < 8 := (right_snoc.1 hR).2.1.1
      obtain ⟨d, hd⟩ : ∃ d, d = c.d.toNat := ⟨_, rfl⟩
      rw [← hd] at hat hd8
      have hd5 : (d : Int) < 8 := by omega
      have hb2 : d * 4 + 4 ≤ 32 := by omega
      obtain ⟨f, hf⟩ : ∃ f, f = amt (l.take i) := ⟨_, rfl⟩
      rw [← hf]
      have hset := purA_set (P := purF f) (d := d) (by simpa using hd8) c.n.v
      rw [purF_set] at hset
      have hnx : purF (fun j => if j = d then c.n.v else f j) = purF (amt (l.take (i + 1))) := purF_congr (fun j _ => by rw [htk, amt_snoc hR, ← hd, hf])
      rw [hnx] at hset
      replace F := aF hat F; replace F := aF hb1 F; replace F := aF hset F; replace F := aF hd8 F; replace F := aF hd5 F; replace F := aF hb2 F
      refine run_draw (by kernel_rfl) fun J12 hJ12 => ?_
      refine rp2 0 (k := ?_); refine rp2 1 (k := ?_); refine rp2 2 (k := ?_); refine rp2 3 (k := ?_); refine rp2 4 (k := ?_); refine rp2 5 (k := ?_); refine rp2 6 (k := ?_); refine rp2 7 (k := ?_); refine rp2 8 (k := ?_); refine rp2 9 (k := ?_); refine rp2 10 (k := ?_); refine dop 11 rfl ?_; (repeat (first | simp [F] | simp (disch := omega) only [wC, if_pos, if_neg])); refine ⟨ln, ?_⟩; refine dd ?_; refine hJ12 _ _ ?_; refine hK11 _ _ ?_; refine rg' (h := fun J13 hJ13 => ?_); refine hJ13 _ _ ?_; refine ⟨(i + 1), ⟨kp, lp, lp, lp⟩, lp⟩
   try exact nope c8
   all_goals
    replace F := wf F c8
    have hend : l.take i = l := List.take_of_length_le (by simp at c8; omega)
    rw [hend]
    refine run_exit ?_; refine hK5 _ _ ?_; refine sr fun _ hJ15 => ?_; refine hJ15 _ _ ?_; refine run_ret ?_; (try simp only [Then, InBlock, NoGoto]); refine acell (h := ?_); exact gcr

theorem addF_next (fa fb : Nat → Nat) (d j : Nat) : (if j = d then fa d + fb d else if j < d then fa j + fb j else fa j) = if j < d + 1 then fa j + fb j else fa j := by
  by_cases h : j = d
  · subst h; simp
  · by_cases h2 : j < d
    · rw [if_neg h, if_pos h2, if_pos (by omega)]
    · rw [if_neg h, if_neg h2, if_neg (by omega)]

set_option maxHeartbeats 1600000 in
attribute [local simp] undefA List.getElem?_cons_zero List.getElem?_cons_succ in
theorem rpadd_ok {σ : St} {a b : List Coin} {ta tb : Tail} (ha : Right a) (hb : Right b) :
    CallsA Try.prog 27 [.sl 5 (coinsC a) a.length ta, .sl 5 (coinsC b) b.length tb] σ (fun av σ' => av = .tup [.sl 5 (coinsC (cAddL a b)) (cAddL a b).length .shut, .v (.bool (decide (cAddE a b = 0)))] ∧ σ = σ') := by
  refine callsA_gcS ?_ (by simp [AV.under, underL])
  have hPl := pur_len
  have hPt := pur_take
  have hPd := pur_drop
  have hPn : ∀ n g, noObjL n (purA (purF g)) = true := fun n g => purA_noObj n _
  have hPc := pur_all
  simp only [AV.isCell] at hPc
  obtain ⟨fa, hfa⟩ : ∃ fa, fa = amt a := ⟨_, rfl⟩
  obtain ⟨fb, hfb⟩ : ∃ fb, fb = amt b := ⟨_, rfl⟩
  obtain ⟨fs, hfs⟩ : ∃ fs : Nat → Nat → Nat, fs = fun d j => if j < d then fa j + fb j else fa j := ⟨_, rfl⟩
  have hfs0 : fs 0 = fa := by rw [hfs]; funext j; simp
  have hla : ∀ d, fa d < 2 ^ 256 := fun d => by rw [hfa]; exact amt_lt _ _
  have hlb : ∀ d, fb d < 2 ^ 256 := fun d => by rw [hfb]; exact amt_lt _ _
  have F := And.intro hPl (And.intro hPt (And.intro hPd (And.intro hPc (And.intro hPn (True.intro)))))
  refine callsA_body Try.func27 rfl rfl rfl ?_; refine sr fun _ hJ2 => ?_; refine hJ2 _ _ ?_; refine sr fun _ hJ4 => ?_; refine cb (c := (hfa ▸ rpof_ok ha)) (k := ?_); refine cb (c := (hfb ▸ rpof_ok hb)) (k := ?_); refine hJ4 _ _ ?_; refine sq fun K5 hK5 => ?_; refine sr fun _ hJ7 => ?_; refine hJ7 _ _ ?_; refine run_block_k ?_; refine run_loopG (X := Nat) [6, 7] (fun d ρ σ1 => (d ≤ 8) ∧ (∀ j, j < d → fa j + fb j < 2 ^ 256) ∧ (ρ 8 = .v (.int .i64 d)) ∧ (σ1 = { σ with objs := σ.objs ++ [purA (purF (fs d)), purA (purF fb)] })) (fun d => 8 - d) (0) ?st1 ?rd1
  case st1 =>
   refine ⟨lp, ?_, lp, ?_⟩
   · intro j hj
     exact absurd hj (Nat.not_lt_zero j)
   · rw [hfs0]
  case rd1 =>
   rintro d ρ1 σ1 hF1 ⟨hd, hE, h8, hσ⟩; obtain rfl := hσ.symm
   have f1 := keepL hF1
   (try simp [KeepL, F] at f1); replace F := aF h8 F; (try replace F := aF f1 F); refine sq fun K8 hK8 => ?_; refine sr fun _ hJ10 => ?_; refine hJ10 _ _ ?_; refine cs (fun c16 => ?_) (fun c16 => ?_)
   · try exact nope c16
     all_goals
      replace F := wf F c16; refine run_skip ?_; refine hK8 _ _ ?_; refine sq fun K11 hK11 => ?_; refine run_block_k ?_; refine sq fun K12 hK12 => ?_
      have hd8 : d < 8 := by simp at c16; omega
      have hd5 : (d : Int) < 8 := by omega
      have hb2 : d * 4 + 4 ≤ 32 := by omega
      have hata := purA_at (P := purF (fs d)) (d := d) (by simpa using hd8)
      rw [purF_get hd8] at hata
      have hatb := purA_at (P := purF fb) (d := d) (by simpa using hd8)
      rw [purF_get hd8] at hatb
      have hfd : fs d d = fa d := by rw [hfs]; simp
      rw [hfd] at hata
      have hset := purA_set (P := purF (fs d)) (d := d) (by simpa using hd8) (fa d + fb d)
      rw [purF_set] at hset
      have hnx : (fun j => if j = d then fa d + fb d else fs d j) = fs (d + 1) := by rw [hfs]; funext j; simp only; exact addF_next fa fb d j
      rw [hnx] at hset
      replace F := aF hata F; replace F := aF hatb F; replace F := aF hset F; replace F := aF hd8 F; replace F := aF hd5 F; replace F := aF hb2 F
      refine run_draw (by kernel_rfl) fun J13 hJ13 => ?_
      refine rp2 0 (k := ?_); refine rp2 1 (k := ?_); refine rp2 2 (k := ?_); refine rp2 3 (k := ?_); refine rp2 4 (k := ?_); refine rp2 5 (k := ?_); refine d2 6 10 ?_ ?_
      · refine ac 6 rfl (c := radd_ok (hla d) (hlb d)) (k := ?_); rintro _ _ ⟨rfl, rfl⟩
        refine ⟨by first | exact fun _ _ h => h | (refine later_list [4, 3, 1, 0] (by kernel_rfl) (fc2 ?_ <| fc2 ?_ <| fc2 ?_ <| fc2 ?_ <| fn0) <;> constructor <;> first | rfl | (simp [F]; done)), ?_⟩
        (repeat (first | simp [F] | simp (disch := omega) only [wC, if_pos, if_neg])); refine rp2 7 (k := ?_); refine rp2 8 (k := ?_); refine rp2 9 (k := ?_); refine dop 10 rfl ?_; repeat (first | simp [F] | simp (disch := omega) only [wC, if_pos, if_neg])
        refine ⟨by first | exact later_more _ (by kernel_rfl) | exact later_more2 (by kernel_rfl) rfl, ?_⟩
        refine dop 11 rfl ?_; repeat (first | simp [F] | simp (disch := omega) only [wC, if_pos, if_neg])
        refine ⟨later_tmp (by kernel_rfl), ?_⟩
        refine rp2 12 (k := ?_); refine dd ?_; refine hJ13 _ _ ?_; refine hK12 _ _ ?_; refine sq fun K14 hK14 => ?_; refine sr fun _ hJ16 => ?_; refine hJ16 _ _ ?_; refine cs (fun c30 => ?_) (fun c30 => ?_)
        · try exact nope c30
          all_goals
           replace F := wf F c30
           have hs : ¬ fa d + fb d < 2 ^ 256 := by simpa using c30
           have he : ¬ cAddE a b = 0 := fun h => hs (by have := cAddE_zero.1 h d hd8; rw [hfa, hfb]; exact this)
           have hL := cAddL_no he
           replace F := aF hL (And.intro he F); refine sr fun _ hJ18 => ?_; refine hJ18 _ _ ?_; refine run_ret ?_; (try simp only [Then, InBlock, NoGoto]); refine answer_tmp2 rfl (.inr rfl) ?_
           rw [hL, decide_eq_false he]
           exact gcr (hA := WkL.tup (.cons (Wk.nil _ _ _) (.cons (Wk.refl _) .nil)))
        try exact nope c30
        all_goals
         replace F := wf F c30
         have hs : fa d + fb d < 2 ^ 256 := by simpa using c30
         have hs2 : addN (fa d) (fb d) = fa d + fb d := if_pos hs
         replace F := aF hs2 F; refine run_skip ?_; refine hK14 _ _ ?_; refine rg' (h := fun J19 hJ19 => ?_); refine hJ19 _ _ ?_; refine hK11 _ _ ?_; refine rg' (h := fun J20 hJ20 => ?_); refine hJ20 _ _ ?_; refine ⟨gk, (d + 1), ⟨kpG, lpG, ?_, lpG, lpG⟩, lpG⟩
         · intro j hj
           rcases Nat.lt_or_ge j d with h | h
           · exact hE j h
           · obtain rfl : j = d := by omega
             exact hs
      · refine ao 10 rfl ?_; repeat (first | simp [F] | simp (disch := omega) only [wC, if_pos, if_neg])
        refine ⟨by first | exact later_more _ (by kernel_rfl) | exact later_more2 (by kernel_rfl) rfl, ?_⟩
        refine dc 6 rfl (c := radd_ok (hla d) (hlb d)) (k := ?_); rintro _ _ ⟨rfl, rfl⟩
        refine ⟨by first | exact fun _ _ h => h | (refine later_list [4, 3, 1, 0] (by kernel_rfl) (fc2 ?_ <| fc2 ?_ <| fc2 ?_ <| fc2 ?_ <| fn0) <;> constructor <;> first | rfl | (simp [F]; done)), ?_⟩
        (repeat (first | simp [F] | simp (disch := omega) only [wC, if_pos, if_neg])); refine rp2 7 (k := ?_); refine rp2 8 (k := ?_); refine rp2 9 (k := ?_); refine dop 11 rfl ?_; repeat (first | simp [F] | simp (disch := omega) only [wC, if_pos, if_neg])
        refine ⟨later_tmp (by kernel_rfl), ?_⟩
        refine rp2 12 (k := ?_); refine dd ?_; refine hJ13 _ _ ?_; refine hK12 _ _ ?_; refine sq fun K21 hK21 => ?_; refine sr fun _ hJ23 => ?_; refine hJ23 _ _ ?_; refine cs (fun c30 => ?_) (fun c30 => ?_)
        · try exact nope c30
          all_goals
           replace F := wf F c30
           have hs : ¬ fa d + fb d < 2 ^ 256 := by simpa using c30
           have he : ¬ cAddE a b = 0 := fun h => hs (by have := cAddE_zero.1 h d hd8; rw [hfa, hfb]; exact this)
           have hL := cAddL_no he
           replace F := aF hL (And.intro he F); refine sr fun _ hJ25 => ?_; refine hJ25 _ _ ?_; refine run_ret ?_; (try simp only [Then, InBlock, NoGoto]); refine answer_tmp2 rfl (.inr rfl) ?_
           rw [hL, decide_eq_false he]
           exact gcr (hA := WkL.tup (.cons (Wk.nil _ _ _) (.cons (Wk.refl _) .nil)))
        try exact nope c30
        all_goals
         replace F := wf F c30
         have hs : fa d + fb d < 2 ^ 256 := by simpa using c30
         have hs2 : addN (fa d) (fb d) = fa d + fb d := if_pos hs
         replace F := aF hs2 F; refine run_skip ?_; refine hK21 _ _ ?_; refine rg' (h := fun J26 hJ26 => ?_); refine hJ26 _ _ ?_; refine hK11 _ _ ?_; refine rg' (h := fun J27 hJ27 => ?_); refine hJ27 _ _ ?_; refine ⟨gk, (d + 1), ⟨kpG, lpG, ?_, lpG, lpG⟩, lpG⟩
         · intro j hj
           rcases Nat.lt_or_ge j d with h | h
           · exact hE j h
           · obtain rfl : j = d := by omega
             exact hs
   try exact nope c16
   all_goals
    replace F := wf F c16
    obtain rfl : d = 8 := by simp at c16; omega
    have he : cAddE a b = 0 := cAddE_zero.2 (fun d hd => by have := hE d hd; rw [hfa, hfb] at this; exact this)
    have hL : lstF (fs 8) 8 = cAddL a b := by rw [cAddL_yes he, hfs, hfa, hfb]; exact lstF_congr (fun i hi => by simp [hi])
    have hf8 : ∀ d, d < 8 → fs 8 d < 2 ^ 256 := fun d hd => by rw [hfs]; simp only [if_pos hd]; exact hE d hd
    replace F := aF he F; refine run_exit ?_; refine hK5 _ _ ?_; refine sr fun _ hJ29 => ?_; refine cb (c := (hL ▸ rlist_ok hf8)) (k := ?_); refine hJ29 _ _ ?_; refine run_ret ?_; (try simp only [Then, InBlock, NoGoto]); refine answer_tmp2 rfl (.inr rfl) ?_; exact gcr
set_option maxHeartbeats 1600000 in
attribute [local simp] undefA List.getElem?_cons_zero List.getElem?_cons_succ in
theorem cequal_ok {σ : St} {a b : List Coin} {ta tb : Tail} (hla : a.length ≤ 9223372036854775807) (hlb : b.length ≤ 9223372036854775807) :
    CallsA Try.prog 131 [.sl 5 (coinsC a) a.length ta, .sl 5 (coinsC b) b.length tb] σ (fun av σ' => av = .v (.bool (decide (a = b))) ∧ σ = σ') := by
  have hcl : ∀ c, (coinC c).length = 5 := fun _ => rfl
  have hct : ∀ c R, List.take 5 (coinC c ++ R) = coinC c := fun _ _ => rfl
  have F := And.intro hcl (And.intro hct (True.intro))
  refine callsA_body Try.func131 rfl rfl rfl ?_; refine sr fun _ hJ2 => ?_; refine hJ2 _ _ ?_; refine sq fun K3 hK3 => ?_; refine sr fun _ hJ5 => ?_; refine hJ5 _ _ ?_; refine cs (fun c10 => ?_) (fun c10 => ?_)
  · try exact nope c10
    all_goals
     replace F := wf F c10
     have hne : ¬ a = b := fun e => by subst e; simp at c10
     replace F := aF hne F; refine sr fun _ hJ7 => ?_; refine hJ7 _ _ ?_; refine ra ?_; exact rt
  try exact nope c10
  all_goals
   replace F := wf F c10; refine run_skip ?_; refine hK3 _ _ ?_; refine sq fun K8 hK8 => ?_; refine sq fun K9 hK9 => ?_
   have hlen : a.length = b.length := by have h := c10; simp at h; omega
   refine rg' (h := fun J10 hJ10 => ?_); refine hJ10 _ _ ?_; refine hK9 _ _ ?_; refine run_block_k ?_; refine run_loopF (X := Nat) [0, 1, 12] (fun i ρ σ1 => (i ≤ a.length) ∧ (a.take i = b.take i) ∧ (ρ 13 = .v (.int .i64 i)) ∧ (σ1 = σ)) (fun i => a.length - i) (0) ?st1 ?rd1
   case st1 =>
    refine ⟨lp, ?_, lp, ?_⟩
    · rfl
    · rfl
   case rd1 =>
    rintro i ρ1 σ1 hF1 ⟨hi, hE, h13, hσ⟩; obtain rfl := hσ.symm
    have f1 := keepL hF1
    (try simp [KeepL, F] at f1); replace F := aF h13 F; (try replace F := aF f1 F); refine sr fun _ hJ12 => ?_; refine hJ12 _ _ ?_; refine sq fun K13 hK13 => ?_; refine cs (fun c14 => ?_) (fun c14 => ?_)
    · try exact nope c14
      all_goals
       replace F := wf F c14; refine run_skip ?_; refine hK13 _ _ ?_; refine sq fun K14 hK14 => ?_; refine run_block_k ?_; refine sq fun K15 hK15 => ?_
       have hlt : i < a.length := by simp at c14; omega
       have hltb : i < b.length := by omega
       have hat := coinsC_at hlt
       have hatb := coinsC_at hltb
       have hb1 : i * 5 + 5 ≤ a.length * 5 := by omega
       have hb2 : i * 5 + 5 ≤ b.length * 5 := by omega
       obtain ⟨x, hx⟩ : ∃ x, x = a[i] := ⟨_, rfl⟩
       obtain ⟨y, hy⟩ : ∃ y, y = b[i] := ⟨_, rfl⟩
       rw [← hx] at hat
       rw [← hy] at hatb
       have hta : a.take (i + 1) = a.take i ++ [x] := by rw [hx]; exact (List.take_append_getElem hlt).symm
       have htb : b.take (i + 1) = b.take i ++ [y] := by rw [hy]; exact (List.take_append_getElem hltb).symm
       replace F := aF hlt F; replace F := aF hltb F; replace F := aF hat F; replace F := aF hatb F; replace F := aF hb1 F; replace F := aF hb2 F; refine rg' (h := fun J16 hJ16 => ?_); refine hJ16 _ _ ?_; refine hK15 _ _ ?_; refine sq fun K17 hK17 => ?_
       refine run_draw (by kernel_rfl) fun J18 hJ18 => ?_
       refine rp2 0 (k := ?_); refine rp2 1 (k := ?_); refine rp2 2 (k := ?_); refine rp2 3 (k := ?_); refine rp2 4 (k := ?_); refine rp2 5 (k := ?_); refine rp2 6 (k := ?_); refine rp2 7 (k := ?_); refine rp2 8 (k := ?_); refine dd ?_; refine hJ18 _ _ ?_; refine hK17 _ _ ?_; refine cs (fun c24 => ?_) (fun c24 => ?_)
       · try exact nope c24
         all_goals
          replace F := wf F c24
          have hne : ¬ a = b := fun e => by subst e; rw [← hx] at hy; subst hy; simp at c24
          replace F := aF hne F; refine sr fun _ hJ20 => ?_; refine hJ20 _ _ ?_; refine ra ?_; exact rt
       try exact nope c24
       all_goals
        replace F := wf F c24
        have hxy : x = y := by simpa using c24
        refine run_skip ?_; refine hK14 _ _ ?_; refine rg' (h := fun J21 hJ21 => ?_); refine hJ21 _ _ ?_; refine ⟨(i + 1), ⟨kp, lp, ?_, lp, lp⟩, lp⟩
        · rw [hta, htb, hE, hxy]
    try exact nope c14
    all_goals
     replace F := wf F c14
     have he : a = b := by have h := c14; simp at h; rw [List.take_of_length_le (by omega), List.take_of_length_le (by omega)] at hE; exact hE
     replace F := aF he F; refine run_exit ?_; refine hK8 _ _ ?_; refine sr fun _ hJ23 => ?_; refine hJ23 _ _ ?_; refine ra ?_; exact rt

set_option maxHeartbeats 1600000 in
attribute [local simp] undefA List.getElem?_cons_zero List.getElem?_cons_succ in
theorem csame_ok {σ : St} {a b : List Coin} {ta tb : Tail} (hla : a.length ≤ 9223372036854775807) (hlb : b.length ≤ 9223372036854775807) :
    CallsA Try.prog 92 [.sl 5 (coinsC a) a.length ta, .sl 5 (coinsC b) b.length tb] σ (fun av σ' => av = .v (.bool (decide (a = b))) ∧ σ = σ') := by
  have F := True.intro
  refine callsA_body Try.func92 rfl rfl rfl ?_; refine sr fun _ hJ2 => ?_; refine hJ2 _ _ ?_; refine sr fun _ hJ4 => ?_; refine cb (c := cequal_ok hla hlb) (k := ?_); refine hJ4 _ _ ?_; refine ra ?_; exact rt

set_option maxHeartbeats 1600000 in
attribute [local simp] undefA List.getElem?_cons_zero List.getElem?_cons_succ in
theorem psome_ok {σ : St} {l : List Coin} {tl : Tail} (hl : l.length ≤ 9223372036854775807) :
    CallsA Try.prog 60 [.sl 5 (coinsC l) l.length tl] σ (fun av σ' => av = .v (.bool (decide (l ≠ [] ∧ Right l))) ∧ σ = σ') := by
  have h0 : 0 < l.length ↔ l ≠ [] := List.length_pos_iff
  have F := And.intro h0 (True.intro)
  refine callsA_body Try.func60 rfl rfl rfl ?_; refine sr fun _ hJ2 => ?_; refine hJ2 _ _ ?_; refine sr fun _ hJ4 => ?_; refine gs 6 (fun g1_3 => ?_) (fun g1_3 => ?_)
  · try exact nope g1_3
    all_goals
     replace F := wf F g1_3; refine go2 (k := ?_); refine cb (c := right_ok hl) (k := ?_); refine hJ4 _ _ ?_; refine ra ?_; exact rt
  try exact nope g1_3
  all_goals
   replace F := wf F g1_3; (iterate 2 refine no2 (k := ?_)); refine hJ4 _ _ ?_; refine ra ?_; exact rt
end Go.Proofs.Ytdbaddholggkbaa

/-
  Plans: what they are, when they are right.
-/
namespace Go.Vm
open Go

structure Per where
  l : Nat
  c : List Coin
deriving DecidableEq

structure Pln where
  k : UInt8
  s : Nat
  e : Nat
  tot : List Coin
  ps : List Per
deriving DecidableEq

def perC (p : Per) : List AV := [.v (.int .u64 p.l), .sl 5 (coinsC p.c) p.c.length .shut]
def persC (l : List Per) : List AV := l.flatMap perC
def plnC (p : Pln) : List AV := [.v (.int .u8 p.k.toNat), .v (.int .u64 p.s), .v (.int .u64 p.e), .sl 5 (coinsC p.tot) p.tot.length .shut, .sl 2 (persC p.ps) p.ps.length .shut]
@[simp] theorem persC_nil : persC [] = [] := rfl
@[simp] theorem persC_len (l : List Per) : (persC l).length = l.length * 2 := flat_length perC 2 (fun _ => rfl) l
theorem persC_at {l : List Per} {i : Nat} (h : i < l.length) : (persC l).drop (i * 2) = perC l[i] ++ restC perC l i := flat_at perC 2 (fun _ => rfl) l i h
theorem persC_noObj (n : Nat) : ∀ l : List Per, noObjL n (persC l) = true := noObjL_flat (fun p => by simp [perC, noObjL, AV.noObj, coinsC, noObjL_flat, coinC, numA])
theorem persC_under (B : Bd) : ∀ l : List Per, underL B (persC l) = true := underL_flat (fun p => by simp [perC, underL, AV.under, coinsC, underL_flat, coinC, numA])
theorem persC_append (l m : List Per) : persC l ++ persC m = persC (l ++ m) := by simp [persC]
def Pln.Ok (p : Pln) : Prop := p.s < 2 ^ 64 ∧ p.e < 2 ^ 64 ∧ p.tot.length ≤ 9223372036854775807 ∧ p.ps.length ≤ 9223372036854775807 ∧ ∀ x ∈ p.ps, x.l < 2 ^ 64 ∧ x.c.length ≤ 9223372036854775807

def perOk : List Per → Nat → List Coin → Option (Nat × List Coin)
  | [], e, a => some (e, a)
  | x :: l, e, a => if x.l = 0 ∨ 2 ^ 40 < x.l ∨ 2 ^ 40 < e ∨ ¬ (x.c ≠ [] ∧ Right x.c) then none else if cAddE a x.c = 0 then perOk l (e + x.l) (cAddL a x.c) else none
def perB (p : Pln) : Bool := decide (p.ps.length ≤ 16) && decide (perOk p.ps p.s [] = some (p.e, p.tot))
def rightB (p : Pln) : Bool :=
  if p.k = 0 then decide (p = ⟨0, 0, 0, [], []⟩)
  else if ¬ (p.tot ≠ [] ∧ Right p.tot) ∨ 2 ^ 40 < p.e then false
  else if p.k = 1 then decide (p.s < p.e ∧ p.ps = [])
  else if p.k = 2 then decide (p.s = 0 ∧ p.ps = [])
  else if p.k = 4 then decide (p.s = 0 ∧ p.e = 0 ∧ p.ps = [])
  else if p.k = 3 ∨ p.k = 5 then perB p
  else false

structure PerQ where
  i : Nat
  e : Nat
  a : List Coin

section
variable {P : Program} {z : Zone} {N : Nat} {σ : St} {ρ : Nat → AV}
theorem run_nilsh {c : Code} {Q : Exit → (Nat → AV) → St → Prop} (d sz : Nat) {s : Nat} (h : ρ d = .sl s [] 0 .full := by first | rfl | (simp [F]; done))
    (k : Run z P N c (putA ρ (some d) (.sl sz [] 0 .shut)) σ Q) : Run z P N c ρ σ Q := run_wk (fun i => by
  rw [putA_get]; split
  · rename_i e; subst e; rw [h]; exact Wk.nil _ _ _
  · exact Wk.refl _) k
end

end Go.Vm

/-
  The same plans..
-/
namespace Go.Proofs.Ytdbaddholggkbaa
set_option linter.unnecessarySimpa false
set_option maxRecDepth 100000
open Go Go.Vm
set_option linter.unusedSimpArgs false
set_option linter.unusedVariables false
attribute [local simp] evalL wantedA isCall opA evalA evalAll evalsA evalOpt ofValue ofCell plain binA_eql_pn binA_neq_pn binA_gtr binA_lss binA_geq binA_leq binA_add binA_sub binA_eql binA_neq binA_orI binA_andI binA_shl binA_shr binA_mul binA_quo binA_rem binA_agg_eql binA_agg_neq convA_int unA_not fieldAddrA loadA partA pickA_true pickA_false pickA_bb lenA builtinA storeA splice AV.cells AV.isCell sliceA boundA intA callOf indexAddrA newObjA buildA fillA zeroA ofCells buildSliceA indexA fieldA numA_len4 numA_take4 numA_drop4 set_appN get_appN take_appN List.getElem?_cons_zero List.getElem?_cons_succ makeA zeros64

set_option maxHeartbeats 1600000 in
attribute [local simp] undefA List.getElem?_cons_zero List.getElem?_cons_succ in
theorem psame1_ok {σ : St} {x y : Per} (hx : x.c.length ≤ 9223372036854775807) (hy : y.c.length ≤ 9223372036854775807) :
    CallsA Try.prog 94 [.agg (perC x), .agg (perC y)] σ (fun av σ' => av = .v (.bool (decide (x = y))) ∧ σ = σ') := by
  refine callsA_gcS ?_ rfl
  obtain ⟨l, c⟩ := x
  obtain ⟨l2, c2⟩ := y
  simp only [Per.mk.injEq, perC, Bool.decide_and]
  have F := True.intro
  refine callsA_body Try.func94 rfl rfl rfl ?_; refine sr fun _ hJ2 => ?_; refine hJ2 _ _ ?_; refine sr fun _ hJ4 => ?_; refine gs 10 (fun g1_5 => ?_) (fun g1_5 => ?_)
  · try exact nope g1_5
    all_goals
     replace F := wf F g1_5
     have hl : l = l2 := by have h := g1_5; simp at h; omega
     replace F := aF hl F; (iterate 4 refine go2 (k := ?_)); refine cb (c := csame_ok hx hy) (k := ?_); refine hJ4 _ _ ?_; refine ra ?_; exact gcr
  try exact nope g1_5
  all_goals
   replace F := wf F g1_5
   have hl : ¬ l = l2 := by have h := g1_5; simp at h; omega
   replace F := aF hl F; (iterate 5 refine no2 (k := ?_)); refine hJ4 _ _ ?_; refine ra ?_; exact gcr

set_option maxHeartbeats 1600000 in
attribute [local simp] undefA List.getElem?_cons_zero List.getElem?_cons_succ perC persC_noObj in
theorem pequal_ok {σ : St} {a b : List Per} {ta tb : Tail} (hla : a.length ≤ 9223372036854775807) (hlb : b.length ≤ 9223372036854775807) (ha : ∀ x ∈ a, x.c.length ≤ 9223372036854775807) (hb : ∀ x ∈ b, x.c.length ≤ 9223372036854775807) :
    CallsA Try.prog 93 [.sl 2 (persC a) a.length ta, .sl 2 (persC b) b.length tb, .fn 94 []] σ (fun av σ' => av = .v (.bool (decide (a = b))) ∧ σ = σ') := by
  refine callsA_gcS ?_ rfl
  have F := True.intro
  refine callsA_body Try.func93 rfl rfl rfl ?_; refine sr fun _ hJ2 => ?_; refine hJ2 _ _ ?_; refine sq fun K3 hK3 => ?_; refine sr fun _ hJ5 => ?_; refine hJ5 _ _ ?_; refine cs (fun c14 => ?_) (fun c14 => ?_)
  · try exact nope c14
    all_goals
     replace F := wf F c14
     have hne : ¬ a = b := fun e => by subst e; simp at c14
     replace F := aF hne F; refine sr fun _ hJ7 => ?_; refine hJ7 _ _ ?_; refine ra ?_; exact gcr
  try exact nope c14
  all_goals
   replace F := wf F c14; refine run_skip ?_; refine hK3 _ _ ?_; refine sq fun K8 hK8 => ?_; refine sq fun K9 hK9 => ?_
   have hlen : a.length = b.length := by have h := c14; simp at h; omega
   refine rg' (h := fun J10 hJ10 => ?_); refine hJ10 _ _ ?_; refine hK9 _ _ ?_; refine run_block_k ?_; refine run_loopG (X := Nat) [1, 2, 15, 16] (fun i ρ σ1 => (i ≤ a.length) ∧ (a.take i = b.take i) ∧ (ρ 17 = .v (.int .i64 i)) ∧ (σ1 = σ)) (fun i => a.length - i) (0) ?st1 ?rd1
   case st1 =>
    refine ⟨lp, ?_, lp, ?_⟩
    · rfl
    · rfl
   case rd1 =>
    rintro i ρ1 σ1 hF1 ⟨hi, hE, h13, hσ⟩; obtain rfl := hσ.symm
    have f1 := keepL hF1
    (try simp [KeepL, F] at f1); replace F := aF h13 F; (try replace F := aF f1 F); refine sr fun _ hJ12 => ?_; refine hJ12 _ _ ?_; refine sq fun K13 hK13 => ?_; refine cs (fun c18 => ?_) (fun c18 => ?_)
    · try exact nope c18
      all_goals
       replace F := wf F c18; refine run_skip ?_; refine hK13 _ _ ?_; refine sq fun K14 hK14 => ?_; refine run_block_k ?_; refine sq fun K15 hK15 => ?_
       have hlt : i < a.length := by simp at c18; omega
       have hltb : i < b.length := by omega
       have hat := persC_at hlt
       have hatb := persC_at hltb
       have hb1 : i * 2 + 2 ≤ a.length * 2 := by omega
       have hb2 : i * 2 + 2 ≤ b.length * 2 := by omega
       obtain ⟨x, hx⟩ : ∃ x, x = a[i] := ⟨_, rfl⟩
       obtain ⟨y, hy⟩ : ∃ y, y = b[i] := ⟨_, rfl⟩
       rw [← hx] at hat
       rw [← hy] at hatb
       have hta : a.take (i + 1) = a.take i ++ [x] := by rw [hx]; exact (List.take_append_getElem hlt).symm
       have htb : b.take (i + 1) = b.take i ++ [y] := by rw [hy]; exact (List.take_append_getElem hltb).symm
       have hxl := ha x (by rw [hx]; exact List.getElem_mem _)
       have hyl := hb y (by rw [hy]; exact List.getElem_mem _)
       replace F := aF hlt F; replace F := aF hltb F; replace F := aF hat F; replace F := aF hatb F; replace F := aF hb1 F; replace F := aF hb2 F; refine rg' (h := fun J16 hJ16 => ?_); refine hJ16 _ _ ?_; refine hK15 _ _ ?_; refine sr fun _ hJ18 => ?_; refine hJ18 _ _ ?_; refine sr fun _ hJ20 => ?_; refine cb (c := (psame1_ok (x := x) (y := y) hxl hyl)) (k := ?_); refine hJ20 _ _ ?_; refine cs (fun c30 => ?_) (fun c30 => ?_)
       · try exact nope c30
         all_goals
          replace F := wf F c30
          have hne : ¬ a = b := fun e => by subst e; rw [← hx] at hy; subst hy; simp at c30
          replace F := aF hne F; refine sr fun _ hJ22 => ?_; refine hJ22 _ _ ?_; refine ra ?_; exact gcr
       try exact nope c30
       all_goals
        replace F := wf F c30
        have hxy : x = y := by simpa using c30
        refine run_skip ?_; refine hK14 _ _ ?_; refine rg' (h := fun J23 hJ23 => ?_); refine hJ23 _ _ ?_; refine ⟨gk, (i + 1), ⟨kpG, lpG, ?_, lpG, lpG⟩, lpG⟩
        · rw [hta, htb, hE, hxy]
    try exact nope c18
    all_goals
     replace F := wf F c18
     have he : a = b := by have h := c18; simp at h; rw [List.take_of_length_le (by omega), List.take_of_length_le (by omega)] at hE; exact hE
     replace F := aF he F; refine run_exit ?_; refine hK8 _ _ ?_; refine sr fun _ hJ25 => ?_; refine hJ25 _ _ ?_; refine ra ?_; exact gcr

set_option maxHeartbeats 1600000 in
attribute [local simp] undefA List.getElem?_cons_zero List.getElem?_cons_succ in
theorem plsame_ok {σ : St} {a b : Pln} (ha : a.Ok) (hb : b.Ok) :
    CallsA Try.prog 47 [.agg (plnC a), .agg (plnC b)] σ (fun av σ' => av = .v (.bool (decide (a = b))) ∧ σ = σ') := by
  refine callsA_gcS ?_ rfl
  obtain ⟨ak, a1, a2, a3, a4⟩ := a
  obtain ⟨bk, b1, b2, b3, b4⟩ := b
  obtain ⟨ha1, ha2, ha3, ha4, ha5⟩ := ha
  obtain ⟨hb1, hb2, hb3, hb4, hb5⟩ := hb
  simp only [Pln.mk.injEq, plnC, Bool.decide_and] at *
  have F := True.intro
  refine callsA_body Try.func47 rfl rfl rfl ?_; refine sr fun _ hJ2 => ?_; refine hJ2 _ _ ?_; refine sr fun _ hJ4 => ?_; refine gs 10 (fun g1_5 => ?_) (fun g1_5 => ?_)
  · try exact nope g1_5
    all_goals
     replace F := wf F g1_5
     have hl1 : ak = bk := by have h := g1_5; simp at h; exact UInt8.toNat_inj.1 (by omega)
     replace F := aF hl1 F; (iterate 5 refine go2 (k := ?_)); refine gs 17 (fun g1_12 => ?_) (fun g1_12 => ?_)
     · try exact nope g1_12
       all_goals
        replace F := wf F g1_12
        have hl2 : a1 = b1 := by have h := g1_12; simp at h; omega
        replace F := aF hl2 F; (iterate 5 refine go2 (k := ?_)); refine gs 24 (fun g1_19 => ?_) (fun g1_19 => ?_)
        · try exact nope g1_19
          all_goals
           replace F := wf F g1_19
           have hl3 : a2 = b2 := by have h := g1_19; simp at h; omega
           replace F := aF hl3 F; (iterate 4 refine go2 (k := ?_)); refine cb (c := csame_ok ha3 hb3) (k := ?_); refine gs 31 (fun g1_26 => ?_) (fun g1_26 => ?_)
           · try exact nope g1_26
             all_goals
              replace F := wf F g1_26; (iterate 4 refine go2 (k := ?_)); refine cb (c := pequal_ok ha4 hb4 (fun x hx ↦ (ha5 x hx).2) (fun x hx ↦ (hb5 x hx).2)) (k := ?_); refine hJ4 _ _ ?_; refine ra ?_; exact gcr
           try exact nope g1_26
           all_goals
            replace F := wf F g1_26; (iterate 5 refine no2 (k := ?_)); refine hJ4 _ _ ?_; refine ra ?_; exact gcr
        try exact nope g1_19
        all_goals
         replace F := wf F g1_19
         have hl3 : ¬ a2 = b2 := by have h := g1_19; simp at h; omega
         replace F := aF hl3 F; (iterate 10 refine no2 (k := ?_)); refine hJ4 _ _ ?_; refine ra ?_; exact gcr
     try exact nope g1_12
     all_goals
      replace F := wf F g1_12
      have hl2 : ¬ a1 = b1 := by have h := g1_12; simp at h; omega
      replace F := aF hl2 F; (iterate 15 refine no2 (k := ?_)); refine hJ4 _ _ ?_; refine ra ?_; exact gcr
  try exact nope g1_5
  all_goals
   replace F := wf F g1_5
   have hl1 : ¬ ak = bk := by have h := g1_5; simp at h; intro e; subst e; exact h rfl
   replace F := aF hl1 F; (iterate 20 refine no2 (k := ?_)); refine hJ4 _ _ ?_; refine ra ?_; exact gcr
set_option maxHeartbeats 1600000 in
attribute [local simp] undefA List.getElem?_cons_zero List.getElem?_cons_succ perC persC_noObj in
theorem periods_ok {σ : St} {p : Pln} (hp : p.Ok) (he : p.e ≤ 2 ^ 40) :
    CallsA Try.prog 61 [.agg (plnC p)] σ (fun av σ' => av = .v (.bool (perB p)) ∧ σ = σ') := by
  refine callsA_gcS ?_ rfl
  obtain ⟨pk, ps, pe, pt, pp⟩ := p
  obtain ⟨k1, k2, k3, k4, h5⟩ := hp
  simp only [plnC, perB] at *
  have F := True.intro
  refine callsA_body Try.func61 rfl rfl rfl ?_; refine sr fun _ hJ2 => ?_; refine hJ2 _ _ ?_; refine sq fun K3 hK3 => ?_; refine sr fun _ hJ5 => ?_; refine hJ5 _ _ ?_; refine cs (fun c11 => ?_) (fun c11 => ?_)
  · try exact nope c11
    all_goals
     replace F := wf F c11
     have hbig : ¬ pp.length ≤ 16 := by have h := c11; simp at h; omega
     replace F := aF hbig F; refine sr fun _ hJ7 => ?_; refine hJ7 _ _ ?_; refine ra ?_; exact gcr
  try exact nope c11
  all_goals
   replace F := wf F c11
   have hbig : pp.length ≤ 16 := by have h := c11; simp at h; omega
   replace F := aF hbig F; refine run_skip ?_; refine hK3 _ _ ?_; refine sr fun _ hJ9 => ?_; refine hJ9 _ _ ?_; refine sr fun _ hJ11 => ?_; refine hJ11 _ _ ?_; refine sq fun K12 hK12 => ?_; refine sq fun K13 hK13 => ?_; refine run_nilsh 4 5 (k := ?_); refine rg' (h := fun J14 hJ14 => ?_); refine hJ14 _ _ ?_; refine hK13 _ _ ?_; refine run_block_k ?_; refine run_loopG (X := PerQ) [1, 15, 16] (fun q ρ σ1 => (q.i ≤ pp.length) ∧ (perOk pp ps [] = perOk (pp.drop q.i) q.e q.a) ∧ (q.e < 2 ^ 64) ∧ (q.a.length ≤ 8) ∧ (ρ 3 = .v (.int .u64 q.e)) ∧ (ρ 4 = .sl 5 (coinsC q.a) q.a.length .shut) ∧ (ρ 17 = .v (.int .i64 q.i)) ∧ (σ1 = { σ with objs := σ.objs ++ [[.v (.int .u8 pk.toNat), .v (.int .u64 ps), .v (.int .u64 pe), .sl 5 (coinsC pt) pt.length .shut, .sl 2 (persC pp) pp.length .shut]] })) (fun q => pp.length - q.i) (⟨0, ps, []⟩) ?st1 ?rd1
   case st1 =>
    refine ⟨lp, ?_, lp, lp, lp, lp, lp, ?_⟩
    · rfl
    · rfl
   case rd1 =>
    rintro q ρ1 σ1 hF1 ⟨hi, hE, hqe, hqa, h3, h4, h17, hσ⟩; obtain rfl := hσ.symm
    have f1 := keepL hF1
    (try simp [KeepL, F] at f1); replace F := aF h3 F; replace F := aF h4 F; replace F := aF h17 F; (try replace F := aF f1 F); refine sr fun _ hJ16 => ?_; refine hJ16 _ _ ?_; refine sq fun K17 hK17 => ?_; refine cs (fun c18 => ?_) (fun c18 => ?_)
    · try exact nope c18
      all_goals
       replace F := wf F c18; refine run_skip ?_; refine hK17 _ _ ?_; refine sq fun K18 hK18 => ?_; refine run_block_k ?_; refine sq fun K19 hK19 => ?_
       obtain ⟨i, E, S⟩ := q
       simp only at hi hE hqe hqa h3 h4 h17
       have hlt : i < pp.length := by simp at c18; omega
       have hat := persC_at hlt
       have hb1 : i * 2 + 2 ≤ pp.length * 2 := by omega
       have hx5 := h5 _ (List.getElem_mem hlt)
       have hcons : pp.drop i = pp[i] :: pp.drop (i + 1) := List.drop_eq_getElem_cons hlt
       obtain ⟨x, hx⟩ : ∃ x, x = pp[i] := ⟨_, rfl⟩
       rw [← hx] at hat hx5 hcons
       rw [hcons] at hE
       obtain ⟨xl, xc⟩ := x
       obtain ⟨hxl, hxc⟩ := hx5
       simp only at hxl hxc
       simp only [perOk] at hE
       replace F := aF hlt F; replace F := aF hat F; replace F := aF hb1 F; refine rg' (h := fun J20 hJ20 => ?_); refine hJ20 _ _ ?_; refine hK19 _ _ ?_; refine sq fun K21 hK21 => ?_; refine sr fun _ hJ23 => ?_; refine gs 24 (fun g8_3 => ?_) (fun g8_3 => ?_)
       · try exact nope g8_3
         all_goals
          replace F := wf F g8_3
          have hbad : perOk pp ps [] = none := by rw [hE]; exact if_pos (.inl (by have h := g8_3; simp at h; omega))
          replace F := aF hbad F; (iterate 9 refine no2 (k := ?_)); refine hJ23 _ _ ?_; refine ct ?_; refine sr fun _ hJ25 => ?_; refine hJ25 _ _ ?_; refine ra ?_; exact gcr
       try exact nope g8_3
       all_goals
        replace F := wf F g8_3; (iterate 3 refine go2 (k := ?_)); refine gs 29 (fun g8_8 => ?_) (fun g8_8 => ?_)
        · try exact nope g8_8
          all_goals
           replace F := wf F g8_8
           have hbad : perOk pp ps [] = none := by rw [hE]; exact if_pos (.inr (.inl (by have h := g8_8; simp at h; omega)))
           replace F := aF hbad F; (iterate 6 refine no2 (k := ?_)); refine hJ23 _ _ ?_; refine ct ?_; refine sr fun _ hJ27 => ?_; refine hJ27 _ _ ?_; refine ra ?_; exact gcr
        try exact nope g8_8
        all_goals
         replace F := wf F g8_8; (iterate 2 refine go2 (k := ?_)); refine gs 33 (fun g8_12 => ?_) (fun g8_12 => ?_)
         · try exact nope g8_12
           all_goals
            replace F := wf F g8_12
            have hbad : perOk pp ps [] = none := by rw [hE]; exact if_pos (.inr (.inr (.inl (by have h := g8_12; simp at h; omega))))
            replace F := aF hbad F; (iterate 4 refine no2 (k := ?_)); refine hJ23 _ _ ?_; refine ct ?_; refine sr fun _ hJ29 => ?_; refine hJ29 _ _ ?_; refine ra ?_; exact gcr
         try exact nope g8_12
         all_goals
          replace F := wf F g8_12; (iterate 2 refine go2 (k := ?_)); refine cb (c := psome_ok hxc) (k := ?_); refine go2 (k := ?_); refine hJ23 _ _ ?_; refine cs (fun c38 => ?_) (fun c38 => ?_)
          · try exact nope c38
            all_goals
             replace F := wf F c38
             have hbad : perOk pp ps [] = none := by rw [hE]; exact if_pos (.inr (.inr (.inr (by have h := c38; simp at h; intro hh; rcases h with h | h; exact hh.1 h; exact h hh.2))))
             replace F := aF hbad F; refine sr fun _ hJ31 => ?_; refine hJ31 _ _ ?_; refine ra ?_; exact gcr
          try exact nope c38
          all_goals
           replace F := wf F c38
           have n1 : ¬ xl = 0 := by have h := g8_3; simp at h; omega
           have n2 : ¬ 2 ^ 40 < xl := by have h := g8_8; simp at h; omega
           have n3 : ¬ 2 ^ 40 < E := by have h := g8_12; simp at h; omega
           have n4 : ¬ ¬ (xc ≠ [] ∧ Right xc) := by have h := c38; simp at h; exact fun hn => hn ⟨h.1, h.2⟩
           have hgood : ¬ (xl = 0 ∨ 2 ^ 40 < xl ∨ 2 ^ 40 < E ∨ ¬ (xc ≠ [] ∧ Right xc)) := fun h => h.elim n1 (fun h => h.elim n2 (fun h => h.elim n3 n4))
           have hw2 : E + xl < 2 ^ 64 := by omega
           obtain ⟨S2, hS2⟩ : ∃ S2, S2 = cAddL S xc := ⟨_, rfl⟩
           have hS2l : S2.length ≤ 8 := by rw [hS2]; exact right_len (right_cAdd _ _)
           rw [← hS2] at hE
           rw [if_neg hgood] at hE
           have hw : IntKind.u64.wrap ((E : Int) + xl) = ((E + xl : Nat) : Int) := by rw [wrap_u64c (by omega)]; rfl
           replace F := aF hw F; refine run_skip ?_; refine hK21 _ _ ?_; refine sr fun _ hJ33 => ?_; refine hJ33 _ _ ?_; refine sr fun _ hJ35 => ?_; refine hJ35 _ _ ?_; refine sr fun _ hJ37 => ?_
           refine cb (c := (hS2 ▸ cadd_ok (by omega) hxc)) (k := ?_)
           refine hJ37 _ _ ?_; refine sr fun _ hJ39 => ?_; refine hJ39 _ _ ?_; refine cs (fun c51 => ?_) (fun c51 => ?_)
           · try exact nope c51
             all_goals
              replace F := wf F c51
              have hne : ¬ cAddE S xc = 0 := by have h := c51; simp at h; omega
              rw [if_neg hne] at hE
              replace F := aF hE F; refine sr fun _ hJ41 => ?_; refine hJ41 _ _ ?_; refine ra ?_; exact gcr
           try exact nope c51
           all_goals
            replace F := wf F c51
            have hye : cAddE S xc = 0 := by have h := c51; simp at h; omega
            rw [if_pos hye] at hE
            refine run_skip ?_; refine hK18 _ _ ?_; refine rg' (h := fun J42 hJ42 => ?_); refine hJ42 _ _ ?_; refine ⟨gk, (⟨i + 1, E + xl, S2⟩), ⟨kpG, lpG, ?_, ?_, ?_, lpG, lpG, lpG, lpG⟩, lpG⟩
            · exact hE
            · exact hw2
            · exact hS2l
    try exact nope c18
    all_goals
     replace F := wf F c18
     have hend : perOk pp ps [] = some (q.e, q.a) := by rw [hE, List.drop_of_length_le (by have h := c18; simp at h; omega)]; rfl
     replace F := aF hend F; refine run_exit ?_; refine hK12 _ _ ?_; refine sr fun _ hJ44 => ?_; refine gs 57 (fun g16_4 => ?_) (fun g16_4 => ?_)
     · try exact nope g16_4
       all_goals
        replace F := wf F g16_4
        have hee : q.e = pe := by have h := g16_4; simp at h; omega
        replace F := aF hee F; iterate 3 refine go2 (k := ?_)
        refine ca (c := csame_ok (by omega) k3) (k := ?_)
        rintro _ _ ⟨rfl, rfl⟩; (repeat (first | simp [F] | simp (disch := omega) only [wC, if_pos, if_neg]))
        refine hJ44 _ _ ?_; refine ra ?_; exact gcr
     try exact nope g16_4
     all_goals
      replace F := wf F g16_4
      have hee : ¬ q.e = pe := by have h := g16_4; simp at h; omega
      replace F := aF hee F; (iterate 4 refine no2 (k := ?_)); refine hJ44 _ _ ?_; refine ra ?_; exact gcr
theorem okZero : (⟨0, 0, 0, [], []⟩ : Pln).Ok := ⟨by decide, by decide, by decide, by decide, fun x hx => absurd hx (by simp)⟩

theorem plsame0_ok {σ : St} {a : Pln} (ha : a.Ok) :
    CallsA Try.prog 47 [.agg (plnC a), .agg [.v (.int .u8 0), .v (.int .u64 0), .v (.int .u64 0), .sl 0 [] 0 .full, .sl 0 [] 0 .full]] σ (fun av σ' => av = .v (.bool (decide (a = ⟨0, 0, 0, [], []⟩))) ∧ σ = σ') :=
  callsA_wk (.cons (Wk.refl _) (.cons (WkL.agg (.cons (Wk.refl _) (.cons (Wk.refl _) (.cons (Wk.refl _) (.cons (Wk.nil _ _ _) (.cons (Wk.nil _ _ _) .nil)))))) .nil)) (plsame_ok ha okZero)

set_option maxHeartbeats 1600000 in
attribute [local simp] undefA List.getElem?_cons_zero List.getElem?_cons_succ perC plnC persC_noObj in
theorem plright_ok {σ : St} {p : Pln} (hp : p.Ok) :
    CallsA Try.prog 18 [.agg (plnC p)] σ (fun av σ' => av = .v (.bool (rightB p)) ∧ σ = σ') := by
  refine callsA_gcS ?_ rfl
  have hsame := plsame0_ok (σ := σ) hp
  obtain ⟨pk, ps, pe, pt, pp⟩ := p
  have hp0 := hp
  obtain ⟨k1, k2, k3, k4, h5⟩ := hp
  have hnil : ((pp.length : Int) == 0) = decide (pp = []) := by cases pp <;> simp <;> omega
  have hkn : ∀ n : UInt8, pk = n ↔ (pk.toNat : Int) = (n.toNat : Int) := fun n => ⟨fun e => by rw [e], fun e => UInt8.toNat_inj.1 (Int.ofNat_inj.1 e)⟩
  simp only [plnC] at *
  have F := And.intro hnil (True.intro)
  refine callsA_body Try.func18 rfl rfl rfl ?_; refine sr fun _ hJ2 => ?_; refine hJ2 _ _ ?_; refine sq fun K3 hK3 => ?_; refine sr fun _ hJ5 => ?_; refine hJ5 _ _ ?_; refine cs (fun c5 => ?_) (fun c5 => ?_)
  · try exact nope c5
    all_goals
     replace F := wf F c5
     have hk0 : pk = 0 := (hkn 0).2 (by have h := c5; simp at h; simpa using h)
     have hB : rightB ⟨pk, ps, pe, pt, pp⟩ = decide ((⟨pk, ps, pe, pt, pp⟩ : Pln) = ⟨0, 0, 0, [], []⟩) := by rw [rightB, if_pos hk0]
     replace F := aF hB F; refine sr fun _ hJ7 => ?_; refine cb (c := plsame0_ok hp0) (k := ?_); refine hJ7 _ _ ?_; refine ra ?_; exact gcr
  try exact nope c5
  all_goals
   replace F := wf F c5
   have hk0 : ¬ pk = 0 := fun e => by rw [hkn] at e; have h := c5; simp at h; exact h (by simpa using e)
   refine run_skip ?_; refine hK3 _ _ ?_; refine sq fun K8 hK8 => ?_; refine sr fun _ hJ10 => ?_; refine cb (c := psome_ok k3) (k := ?_); refine gs 13 (fun g3_4 => ?_) (fun g3_4 => ?_)
   · try exact nope g3_4
     all_goals
      replace F := wf F g3_4
      have hB : rightB ⟨pk, ps, pe, pt, pp⟩ = false := by rw [rightB, if_neg hk0, if_pos (.inl (by have h := g3_4; simp at h; intro hh; rcases h with h | h; exact hh.1 h; exact h hh.2))]
      replace F := aF hB F; (iterate 3 refine no2 (k := ?_)); refine hJ10 _ _ ?_; refine ct ?_; refine sr fun _ hJ12 => ?_; refine hJ12 _ _ ?_; refine ra ?_; exact gcr
   try exact nope g3_4
   all_goals
    replace F := wf F g3_4; (iterate 3 refine go2 (k := ?_)); refine hJ10 _ _ ?_; refine cs (fun c17 => ?_) (fun c17 => ?_)
    · try exact nope c17
      all_goals
       replace F := wf F c17
       have hB : rightB ⟨pk, ps, pe, pt, pp⟩ = false := by rw [rightB, if_neg hk0, if_pos (.inr (by show 2 ^ 40 < pe; have h := c17; simp at h; omega))]
       replace F := aF hB F; refine sr fun _ hJ14 => ?_; refine hJ14 _ _ ?_; refine ra ?_; exact gcr
    try exact nope c17
    all_goals
     replace F := wf F c17
     have hs1 : ¬ pt = [] := by have h := g3_4; simp at h; exact h.1
     have hs2 : Right pt := by have h := g3_4; simp at h; exact h.2
     have hs3 : pe ≤ 1099511627776 := by have h := c17; simp at h; omega
     have hs3' : ¬ 1099511627776 < pe := by omega
     replace F := aF hs1 (And.intro hs2 (And.intro hs3 (And.intro hs3' F))); refine run_skip ?_; refine hK8 _ _ ?_; refine sq fun K15 hK15 => ?_; refine sr fun _ hJ17 => ?_; refine hJ17 _ _ ?_; refine run_block_k ?_; refine sr fun _ hJ19 => ?_; refine hJ19 _ _ ?_; refine cs (fun c20 => ?_) (fun c20 => ?_)
     · try exact nope c20
       all_goals
        replace F := wf F c20; refine sr fun _ hJ21 => ?_; refine gs 27 (fun g7_5 => ?_) (fun g7_5 => ?_)
        · try exact nope g7_5
          all_goals
           replace F := wf F g7_5
           have h1 : ps < pe := by have h := g7_5; simp at h; omega
           have hB : rightB ⟨pk, ps, pe, pt, pp⟩ = decide (pp = []) := by rw [rightB]; simp [hkn, F, h1]
           replace F := aF hB F; (iterate 4 refine go2 (k := ?_)); refine hJ21 _ _ ?_; refine ra ?_; exact gcr
        try exact nope g7_5
        all_goals
         replace F := wf F g7_5
         have h1 : ¬ ps < pe := by have h := g7_5; simp at h; omega
         have hB : rightB ⟨pk, ps, pe, pt, pp⟩ = false := by rw [rightB]; simp [hkn, F, h1]
         replace F := aF hB F; (iterate 4 refine no2 (k := ?_)); refine hJ21 _ _ ?_; refine ra ?_; exact gcr
     try exact nope c20
     all_goals
      replace F := wf F c20; refine sr fun _ hJ23 => ?_; refine hJ23 _ _ ?_; refine cs (fun c33 => ?_) (fun c33 => ?_)
      · try exact nope c33
        all_goals
         replace F := wf F c33; refine sr fun _ hJ25 => ?_; refine gs 38 (fun g9_3 => ?_) (fun g9_3 => ?_)
         · try exact nope g9_3
           all_goals
            replace F := wf F g9_3
            have h1 : ps = 0 := by have h := g9_3; simp at h; omega
            have hB : rightB ⟨pk, 0, pe, pt, pp⟩ = decide (pp = []) := by rw [rightB]; simp [hkn, F, h1]
            replace F := aF hB F; (iterate 4 refine go2 (k := ?_)); refine hJ25 _ _ ?_; refine ra ?_; exact gcr
         try exact nope g9_3
         all_goals
          replace F := wf F g9_3
          have h1 : ¬ ps = 0 := by have h := g9_3; simp at h; omega
          have hB : rightB ⟨pk, ps, pe, pt, pp⟩ = false := by rw [rightB]; simp [hkn, F, h1]
          replace F := aF hB F; (iterate 4 refine no2 (k := ?_)); refine hJ25 _ _ ?_; refine ra ?_; exact gcr
      try exact nope c33
      all_goals
       replace F := wf F c33; refine sr fun _ hJ27 => ?_; refine hJ27 _ _ ?_; refine cs (fun c44 => ?_) (fun c44 => ?_)
       · try exact nope c44
         all_goals
          replace F := wf F c44; refine sr fun _ hJ29 => ?_; refine gs 49 (fun g11_3 => ?_) (fun g11_3 => ?_)
          · try exact nope g11_3
            all_goals
             replace F := wf F g11_3
             have h1 : ps = 0 := by have h := g11_3; simp at h; omega
             replace F := aF h1 F; (iterate 3 refine go2 (k := ?_)); refine gs 54 (fun g11_8 => ?_) (fun g11_8 => ?_)
             · try exact nope g11_8
               all_goals
                replace F := wf F g11_8
                have h2 : pe = 0 := by have h := g11_8; simp at h; omega
                have hB : rightB ⟨pk, 0, 0, pt, pp⟩ = decide (pp = []) := by rw [rightB]; simp [hkn, F]
                replace F := aF hB F; (iterate 4 refine go2 (k := ?_)); refine hJ29 _ _ ?_; refine ra ?_; exact gcr
             try exact nope g11_8
             all_goals
              replace F := wf F g11_8
              have h2 : ¬ pe = 0 := by have h := g11_8; simp at h; omega
              have hB : rightB ⟨pk, 0, pe, pt, pp⟩ = false := by rw [rightB]; simp [hkn, F, h2]
              replace F := aF hB F; (iterate 4 refine no2 (k := ?_)); refine hJ29 _ _ ?_; refine ra ?_; exact gcr
          try exact nope g11_3
          all_goals
           replace F := wf F g11_3
           have h1 : ¬ ps = 0 := by have h := g11_3; simp at h; omega
           have hB : rightB ⟨pk, ps, pe, pt, pp⟩ = false := by rw [rightB]; simp [hkn, F, h1]
           replace F := aF hB F; (iterate 7 refine no2 (k := ?_)); refine hJ29 _ _ ?_; refine ra ?_; exact gcr
       try exact nope c44
       all_goals
        replace F := wf F c44; refine sq fun K30 hK30 => ?_; refine sr fun _ hJ32 => ?_; refine hJ32 _ _ ?_; refine cs (fun c60 => ?_) (fun c60 => ?_)
        · try exact nope c60
          all_goals
           replace F := wf F c60; refine run_skip ?_; refine hK30 _ _ ?_; refine cs (fun c60 => ?_) (fun c60 => ?_)
           · try exact nope c60
             all_goals
              replace F := wf F c60; refine sq fun K33 hK33 => ?_
              have h35 : (pk.toNat : Int) = 3 ∨ (pk.toNat : Int) = 5 := by have h := c60; simp at h; first | exact .inl (by simpa using h) | exact .inr (by simpa using h)
              have hB : rightB ⟨pk, ps, pe, pt, pp⟩ = perB ⟨pk, ps, pe, pt, pp⟩ := by rw [rightB]; rcases h35 with h35 | h35 <;> simp [hkn, hs1, hs2, hs3', h35]
              replace F := aF hB F; refine rg' (h := fun J34 hJ34 => ?_)
              refine cb (c := periods_ok hp0 (by show pe ≤ 2 ^ 40; omega)) (k := ?_)
              refine hJ34 _ _ ?_; refine hK33 _ _ ?_; refine ra ?_; exact gcr
           try exact nope c60
           all_goals
            replace F := wf F c60; refine run_skip ?_; refine hK15 _ _ ?_; refine sq fun K35 hK35 => ?_
            have hB : rightB ⟨pk, ps, pe, pt, pp⟩ = false := by rw [rightB]; simp [hkn, F]
            replace F := aF hB F; refine rg' (h := fun J36 hJ36 => ?_); refine hJ36 _ _ ?_; refine hK35 _ _ ?_; refine ra ?_; exact gcr
        try exact nope c60
        all_goals
         replace F := wf F c60; refine rg' (h := fun J37 hJ37 => ?_); refine hJ37 _ _ ?_; refine hK30 _ _ ?_; refine cs (fun c60 => ?_) (fun c60 => ?_)
         · try exact nope c60
           all_goals
            replace F := wf F c60; refine sq fun K38 hK38 => ?_
            have h35 : (pk.toNat : Int) = 3 ∨ (pk.toNat : Int) = 5 := by have h := c60; simp at h; first | exact .inl (by simpa using h) | exact .inr (by simpa using h)
            have hB : rightB ⟨pk, ps, pe, pt, pp⟩ = perB ⟨pk, ps, pe, pt, pp⟩ := by rw [rightB]; rcases h35 with h35 | h35 <;> simp [hkn, hs1, hs2, hs3', h35]
            replace F := aF hB F; refine rg' (h := fun J39 hJ39 => ?_)
            refine cb (c := periods_ok hp0 (by show pe ≤ 2 ^ 40; omega)) (k := ?_)
            refine hJ39 _ _ ?_; refine hK38 _ _ ?_; refine ra ?_; exact gcr
         try exact nope c60
         all_goals
          replace F := wf F c60; refine run_skip ?_; refine hK15 _ _ ?_; refine sq fun K40 hK40 => ?_
          have hB : rightB ⟨pk, ps, pe, pt, pp⟩ = false := by rw [rightB]; simp [hkn, F]
          replace F := aF hB F; refine rg' (h := fun J41 hJ41 => ?_); refine hJ41 _ _ ?_; refine hK40 _ _ ?_; refine ra ?_; exact gcr
end Go.Proofs.Ytdbaddholggkbaa

/-
  The document's right plans are the right plans.
-/
namespace Go.Vm
open Go

def perOk2 : List Per → Nat → List Coin → Option (Nat × List Coin)
  | [], e, a => some (e, a)
  | x :: l, e, a => if x.l = 0 ∨ e < x.l ∨ x.c = [] ∨ ¬ Right x.c then none else if cAddE a x.c = 0 then perOk2 l (e - x.l) (cAddL a x.c) else none

theorem perOk_two : ∀ (l : List Per) (E : Nat) (a : List Coin) (e : Nat) (t : List Coin), e ≤ 2 ^ 40 → (perOk l E a = some (e, t) ↔ E ≤ e ∧ perOk2 l (e - E) a = some (0, t))
  | [], E, a, e, t, he => by
    simp only [perOk, perOk2, Option.some.injEq, Prod.mk.injEq]
    constructor
    · rintro ⟨h1, h2⟩; exact ⟨by omega, by omega, h2⟩
    · rintro ⟨h1, h2, h3⟩; exact ⟨by omega, h3⟩
  | x :: l, E, a, e, t, he => by
    have ih := perOk_two l (E + x.l) (cAddL a x.c) e t he
    have e1 : e - (E + x.l) = e - E - x.l := by omega
    rw [e1] at ih
    have e2 : x.l ≤ e - E ∧ E ≤ e ↔ E + x.l ≤ e := by omega
    simp only [perOk, perOk2]
    by_cases h0 : x.l = 0
    · rw [if_pos (.inl h0), if_pos (.inl h0)]; simp
    by_cases h1 : x.c = []
    · rw [if_pos (.inr (.inr (.inr (fun h => h.1 h1)))), if_pos (.inr (.inr (.inl h1)))]; simp
    by_cases h2 : Right x.c
    · by_cases h3 : cAddE a x.c = 0
      · rw [if_pos h3, if_pos h3]
        by_cases h4 : E + x.l ≤ e
        · rw [if_neg (by rintro (h | h | h | h); exact h0 h; omega; omega; exact h ⟨h1, h2⟩), if_neg (by rintro (h | h | h | h); exact h0 h; omega; exact h1 h; exact h h2), ih]
          constructor
          · rintro ⟨_, h⟩; exact ⟨by omega, h⟩
          · rintro ⟨_, h⟩; exact ⟨h4, h⟩
        · constructor
          · intro h
            split at h
            · cases h
            · exact absurd (ih.1 h).1 h4
          · rintro ⟨h5, h⟩
            split at h
            · cases h
            · rename_i hn
              exact absurd (by omega : E + x.l ≤ e) h4
      · rw [if_neg h3, if_neg h3]
        constructor
        · intro h; split at h <;> cases h
        · rintro ⟨_, h⟩; split at h <;> cases h
    · rw [if_pos (.inr (.inr (.inr (fun h => h2 h.2)))), if_pos (.inr (.inr (.inr h2)))]; simp

theorem perB_two {p : Pln} (he : p.e ≤ 2 ^ 40) (ht : p.tot ≠ []) : perB p = (decide (p.ps ≠ []) && decide (p.ps.length ≤ 16) && decide (p.s ≤ p.e) && decide (perOk2 p.ps (p.e - p.s) [] = some (0, p.tot))) := by
  unfold perB
  have h := perOk_two p.ps p.s [] p.e p.tot he
  by_cases h0 : p.ps = []
  · have : ¬ perOk p.ps p.s [] = some (p.e, p.tot) := by
      rw [h0]; simp only [perOk, Option.some.injEq, Prod.mk.injEq]
      rintro ⟨_, h2⟩; exact ht h2.symm
    rw [decide_eq_false this]; simp [h0]
  · rw [Bool.eq_iff_iff]
    simp only [Bool.and_eq_true, decide_eq_true_eq, h]
    constructor
    · rintro ⟨a, b, c⟩; exact ⟨⟨⟨h0, a⟩, b⟩, c⟩
    · rintro ⟨⟨⟨_, a⟩, b⟩, c⟩; exact ⟨a, b, c⟩

end Go.Vm

/-
  The document's right plans..
-/
namespace Go.Proofs.Ytdbaddholggkbaa
set_option linter.unnecessarySimpa false
set_option maxRecDepth 100000
open Go Go.Vm
set_option linter.unusedSimpArgs false
set_option linter.unusedVariables false
attribute [local simp] evalL wantedA isCall opA evalA evalAll evalsA evalOpt ofValue ofCell plain binA_eql_pn binA_neq_pn binA_gtr binA_lss binA_geq binA_leq binA_add binA_sub binA_eql binA_neq binA_orI binA_andI binA_shl binA_shr binA_mul binA_quo binA_rem binA_agg_eql binA_agg_neq convA_int unA_not fieldAddrA loadA partA pickA_true pickA_false pickA_bb lenA builtinA storeA splice AV.cells AV.isCell sliceA boundA intA callOf indexAddrA newObjA buildA fillA zeroA ofCells buildSliceA indexA fieldA numA_len4 numA_take4 numA_drop4 set_appN get_appN take_appN List.getElem?_cons_zero List.getElem?_cons_succ makeA zeros64

set_option maxHeartbeats 1600000 in
attribute [local simp] undefA List.getElem?_cons_zero List.getElem?_cons_succ perC plnC persC_noObj in
theorem rpright_ok {σ : St} {p : Pln} (hp : p.Ok) :
    CallsA Try.prog 19 [.agg (plnC p)] σ (fun av σ' => av = .v (.bool (rightB p)) ∧ σ = σ') := by
  refine callsA_gcS ?_ rfl
  have hp0 := hp
  have hp2 := @perB_two p
  obtain ⟨pk, ps, pe, pt, pp⟩ := p
  obtain ⟨k1, k2, k3, k4, h5⟩ := hp
  have hnil : ((pp.length : Int) == 0) = decide (pp = []) := by cases pp <;> simp <;> omega
  have hnilt : ((pt.length : Int) == 0) = decide (pt = []) := by cases pt <;> simp <;> omega
  have hkn : ∀ n : UInt8, pk = n ↔ (pk.toNat : Int) = (n.toNat : Int) := fun n => ⟨fun e => by rw [e], fun e => UInt8.toNat_inj.1 (Int.ofNat_inj.1 e)⟩
  simp only at hp2
  have hpe0 : ((pe : Int) == 0) = decide (pe = 0) := by rw [Bool.eq_iff_iff]; simp
  have F := And.intro hnil (And.intro hnilt (And.intro hpe0 (True.intro)))
  refine callsA_body Try.func19 rfl rfl rfl ?_; refine sr fun _ hJ2 => ?_; refine hJ2 _ _ ?_; refine sq fun K3 hK3 => ?_; refine sr fun _ hJ5 => ?_; refine hJ5 _ _ ?_; refine cs (fun c11 => ?_) (fun c11 => ?_)
  · try exact nope c11
    all_goals
     replace F := wf F c11; refine sr fun _ hJ7 => ?_; refine gs 15 (fun g2_3 => ?_) (fun g2_3 => ?_)
     · try exact nope g2_3
       all_goals
        replace F := wf F g2_3; (iterate 3 refine go2 (k := ?_)); refine gs 20 (fun g2_8 => ?_) (fun g2_8 => ?_)
        · try exact nope g2_8
          all_goals
           replace F := wf F g2_8; (iterate 4 refine go2 (k := ?_)); refine gs 26 (fun g2_14 => ?_) (fun g2_14 => ?_)
           · try exact nope g2_14
             all_goals
              replace F := wf F g2_14; (iterate 4 refine go2 (k := ?_)); refine hJ7 _ _ ?_; refine ra ?_; exact gcr (hA := by simp only [putA_get]; simp [rightB, hkn, F]; exact Wk.refl _)
           try exact nope g2_14
           all_goals
            replace F := wf F g2_14; (iterate 4 refine no2 (k := ?_)); refine hJ7 _ _ ?_; refine ra ?_; exact gcr (hA := by simp only [putA_get]; simp [rightB, hkn, F]; exact Wk.refl _)
        try exact nope g2_8
        all_goals
         replace F := wf F g2_8; (iterate 8 refine no2 (k := ?_)); refine hJ7 _ _ ?_; refine ra ?_; exact gcr (hA := by simp only [putA_get]; simp [rightB, hkn, F]; exact Wk.refl _)
     try exact nope g2_3
     all_goals
      replace F := wf F g2_3; (iterate 11 refine no2 (k := ?_)); refine hJ7 _ _ ?_; refine ra ?_; exact gcr (hA := by simp only [putA_get]; simp [rightB, hkn, F]; exact Wk.refl _)
  try exact nope c11
  all_goals
   replace F := wf F c11; refine run_skip ?_; refine hK3 _ _ ?_; refine sq fun K8 hK8 => ?_; refine sr fun _ hJ10 => ?_; refine gs 35 (fun g3_3 => ?_) (fun g3_3 => ?_)
   · try exact nope g3_3
     all_goals
      replace F := wf F g3_3
      have n1 : ¬ (pk.toNat : Int) = 1 ∧ ¬ (pk.toNat : Int) = 2 ∧ ¬ (pk.toNat : Int) = 3 ∧ ¬ (pk.toNat : Int) = 4 ∧ ¬ (pk.toNat : Int) = 5 := by have h := g3_3; simp at h; omega
      replace F := aF n1 F; (iterate 11 refine no2 (k := ?_)); refine hJ10 _ _ ?_; refine ct ?_; refine sr fun _ hJ12 => ?_; refine hJ12 _ _ ?_; refine ra ?_; exact gcr (hA := by simp only [putA_get]; simp [rightB, hkn, F]; exact Wk.refl _)
   try exact nope g3_3
   all_goals
    replace F := wf F g3_3; (iterate 4 refine go2 (k := ?_)); refine gs 41 (fun g3_9 => ?_) (fun g3_9 => ?_)
    · try exact nope g3_9
      all_goals
       replace F := wf F g3_9; (iterate 7 refine no2 (k := ?_)); refine hJ10 _ _ ?_; refine ct ?_; refine sr fun _ hJ14 => ?_; refine hJ14 _ _ ?_; refine ra ?_; exact gcr (hA := by simp only [putA_get]; simp [rightB, hkn, F]; exact Wk.refl _)
    try exact nope g3_9
    all_goals
     replace F := wf F g3_9; (iterate 2 refine go2 (k := ?_)); refine cb (c := rright_ok k3) (k := ?_); refine go2 (k := ?_); refine gs 47 (fun g3_15 => ?_) (fun g3_15 => ?_)
     · try exact nope g3_15
       all_goals
        replace F := wf F g3_15; (iterate 3 refine no2 (k := ?_)); refine hJ10 _ _ ?_; refine ct ?_; refine sr fun _ hJ16 => ?_; refine hJ16 _ _ ?_; refine ra ?_; exact gcr (hA := by simp only [putA_get]; simp [rightB, hkn, F]; exact Wk.refl _)
     try exact nope g3_15
     all_goals
      replace F := wf F g3_15; (iterate 3 refine go2 (k := ?_)); refine hJ10 _ _ ?_; refine cs (fun c51 => ?_) (fun c51 => ?_)
      · try exact nope c51
        all_goals
         replace F := wf F c51
         have n1 : 1099511627776 < pe := by have h := c51; simp at h; omega
         replace F := aF n1 F; refine sr fun _ hJ18 => ?_; refine hJ18 _ _ ?_; refine ra ?_; exact gcr (hA := by simp only [putA_get]; simp [rightB, hkn, F]; exact Wk.refl _)
      try exact nope c51
      all_goals
       replace F := wf F c51
       have hs3' : ¬ 1099511627776 < pe := by have h := c51; simp at h; omega
       have hs1 : ¬ pt = [] := by simp [F]
       have hs2 : Right pt := by simp [F]
       have hb := hp2 (by omega) hs1
       replace F := aF hb (And.intro hs3' F); refine run_skip ?_; refine hK8 _ _ ?_; refine sq fun K19 hK19 => ?_; refine sr fun _ hJ21 => ?_; refine gs 55 (fun g5_3 => ?_) (fun g5_3 => ?_)
       · try exact nope g5_3
         all_goals
          replace F := wf F g5_3; (iterate 3 refine go2 (k := ?_)); refine hJ21 _ _ ?_; refine cs (fun c59 => ?_) (fun c59 => ?_)
          · try exact nope c59
            all_goals
             replace F := wf F c59; refine sq fun K22 hK22 => ?_; refine sr fun _ hJ24 => ?_; refine hJ24 _ _ ?_; refine cs (fun c63 => ?_) (fun c63 => ?_)
             · try exact nope c63
               all_goals
                replace F := wf F c63
                have n1 : ¬ pp = [] := fun e => by rw [e] at c63; simp at c63
                replace F := aF n1 F; refine sr fun _ hJ26 => ?_; refine hJ26 _ _ ?_; refine ra ?_; exact gcr (hA := by simp only [putA_get]; simp [rightB, hkn, F]; exact Wk.refl _)
             try exact nope c63
             all_goals
              replace F := wf F c63; refine run_skip ?_; refine hK22 _ _ ?_; refine sr fun _ hJ28 => ?_; refine gs 67 (fun g8_3 => ?_) (fun g8_3 => ?_)
              · try exact nope g8_3
                all_goals
                 replace F := wf F g8_3; (iterate 5 refine go2 (k := ?_)); refine gs 74 (fun g8_10 => ?_) (fun g8_10 => ?_)
                 · try exact nope g8_10
                   all_goals
                    replace F := wf F g8_10; (iterate 21 refine no2 (k := ?_)); refine hJ28 _ _ ?_; refine ra ?_; exact gcr (hA := by simp only [putA_get]; simp [rightB, hkn, F]; exact Wk.refl _)
                 try exact nope g8_10
                 all_goals
                  replace F := wf F g8_10; (iterate 4 refine go2 (k := ?_)); refine gs 78 (fun g8_14 => ?_) (fun g8_14 => ?_)
                  · try exact nope g8_14
                    all_goals
                     replace F := wf F g8_14; (iterate 4 refine go2 (k := ?_)); refine gs 84 (fun g8_20 => ?_) (fun g8_20 => ?_)
                     · try exact nope g8_20
                       all_goals
                        replace F := wf F g8_20; (iterate 13 refine no2 (k := ?_)); refine hJ28 _ _ ?_; refine ra ?_; exact gcr (hA := by simp only [putA_get]; simp [rightB, hkn, F]; exact Wk.refl _)
                     try exact nope g8_20
                     all_goals
                      replace F := wf F g8_20; (iterate 4 refine go2 (k := ?_)); refine gs 88 (fun g8_24 => ?_) (fun g8_24 => ?_)
                      · try exact nope g8_24
                        all_goals
                         replace F := wf F g8_24; (iterate 5 refine go2 (k := ?_)); refine gs 93 (fun g8_29 => ?_) (fun g8_29 => ?_)
                         · try exact nope g8_29
                           all_goals
                            replace F := wf F g8_29; (iterate 4 refine go2 (k := ?_)); refine hJ28 _ _ ?_; refine ra ?_; exact gcr (hA := by simp only [putA_get]; simp [rightB, hkn, F]; exact Wk.refl _)
                         try exact nope g8_29
                         all_goals
                          replace F := wf F g8_29; (iterate 3 refine no2 (k := ?_)); refine go2 (k := ?_); refine hJ28 _ _ ?_; refine ra ?_; exact gcr (hA := by simp only [putA_get]; simp [rightB, hkn, F]; exact Wk.refl _)
                      try exact nope g8_24
                      all_goals
                       replace F := wf F g8_24; (iterate 3 refine no2 (k := ?_)); (iterate 2 refine go2 (k := ?_)); (iterate 3 refine no2 (k := ?_)); refine go2 (k := ?_); refine hJ28 _ _ ?_; refine ra ?_; exact gcr (hA := by simp only [putA_get]; simp [rightB, hkn, F]; exact Wk.refl _)
                  try exact nope g8_14
                  all_goals
                   replace F := wf F g8_14; (iterate 3 refine no2 (k := ?_)); (iterate 5 refine go2 (k := ?_)); refine gs 88 (fun g8_24 => ?_) (fun g8_24 => ?_)
                   · try exact nope g8_24
                     all_goals
                      replace F := wf F g8_24; (iterate 5 refine go2 (k := ?_)); refine gs 93 (fun g8_29 => ?_) (fun g8_29 => ?_)
                      · try exact nope g8_29
                        all_goals
                         replace F := wf F g8_29; (iterate 4 refine go2 (k := ?_)); refine hJ28 _ _ ?_; refine ra ?_; exact gcr (hA := by simp only [putA_get]; simp [rightB, hkn, F]; exact Wk.refl _)
                      try exact nope g8_29
                      all_goals
                       replace F := wf F g8_29; (iterate 3 refine no2 (k := ?_)); refine go2 (k := ?_); refine hJ28 _ _ ?_; refine ra ?_; exact gcr (hA := by simp only [putA_get]; simp [rightB, hkn, F]; exact Wk.refl _)
                   try exact nope g8_24
                   all_goals
                    replace F := wf F g8_24; (iterate 3 refine no2 (k := ?_)); (iterate 2 refine go2 (k := ?_)); (iterate 3 refine no2 (k := ?_)); refine go2 (k := ?_); refine hJ28 _ _ ?_; refine ra ?_; exact gcr (hA := by simp only [putA_get]; simp [rightB, hkn, F]; exact Wk.refl _)
              try exact nope g8_3
              all_goals
               replace F := wf F g8_3; (iterate 5 refine no2 (k := ?_)); (iterate 4 refine go2 (k := ?_)); refine gs 78 (fun g8_14 => ?_) (fun g8_14 => ?_)
               · try exact nope g8_14
                 all_goals
                  replace F := wf F g8_14; (iterate 4 refine go2 (k := ?_)); refine gs 84 (fun g8_20 => ?_) (fun g8_20 => ?_)
                  · try exact nope g8_20
                    all_goals
                     replace F := wf F g8_20; (iterate 13 refine no2 (k := ?_)); refine hJ28 _ _ ?_; refine ra ?_; exact gcr (hA := by simp only [putA_get]; simp [rightB, hkn, F]; exact Wk.refl _)
                  try exact nope g8_20
                  all_goals
                   replace F := wf F g8_20; (iterate 4 refine go2 (k := ?_)); refine gs 88 (fun g8_24 => ?_) (fun g8_24 => ?_)
                   · try exact nope g8_24
                     all_goals
                      replace F := wf F g8_24; (iterate 5 refine go2 (k := ?_)); refine gs 93 (fun g8_29 => ?_) (fun g8_29 => ?_)
                      · try exact nope g8_29
                        all_goals
                         replace F := wf F g8_29; (iterate 4 refine go2 (k := ?_)); refine hJ28 _ _ ?_; refine ra ?_; exact gcr (hA := by simp only [putA_get]; simp [rightB, hkn, F]; exact Wk.refl _)
                      try exact nope g8_29
                      all_goals
                       replace F := wf F g8_29; (iterate 3 refine no2 (k := ?_)); refine go2 (k := ?_); refine hJ28 _ _ ?_; refine ra ?_; exact gcr (hA := by simp only [putA_get]; simp [rightB, hkn, F]; exact Wk.refl _)
                   try exact nope g8_24
                   all_goals
                    replace F := wf F g8_24; (iterate 3 refine no2 (k := ?_)); (iterate 2 refine go2 (k := ?_)); (iterate 3 refine no2 (k := ?_)); refine go2 (k := ?_); refine hJ28 _ _ ?_; refine ra ?_; exact gcr (hA := by simp only [putA_get]; simp [rightB, hkn, F]; exact Wk.refl _)
               try exact nope g8_14
               all_goals
                replace F := wf F g8_14; (iterate 3 refine no2 (k := ?_)); (iterate 5 refine go2 (k := ?_)); refine gs 88 (fun g8_24 => ?_) (fun g8_24 => ?_)
                · try exact nope g8_24
                  all_goals
                   replace F := wf F g8_24; (iterate 5 refine go2 (k := ?_)); refine gs 93 (fun g8_29 => ?_) (fun g8_29 => ?_)
                   · try exact nope g8_29
                     all_goals
                      replace F := wf F g8_29; (iterate 4 refine go2 (k := ?_)); refine hJ28 _ _ ?_; refine ra ?_; exact gcr (hA := by simp only [putA_get]; simp [rightB, hkn, F]; exact Wk.refl _)
                   try exact nope g8_29
                   all_goals
                    replace F := wf F g8_29; (iterate 3 refine no2 (k := ?_)); refine go2 (k := ?_); refine hJ28 _ _ ?_; refine ra ?_; exact gcr (hA := by simp only [putA_get]; simp [rightB, hkn, F]; exact Wk.refl _)
                try exact nope g8_24
                all_goals
                 replace F := wf F g8_24; (iterate 3 refine no2 (k := ?_)); (iterate 2 refine go2 (k := ?_)); (iterate 3 refine no2 (k := ?_)); refine go2 (k := ?_); refine hJ28 _ _ ?_; refine ra ?_; exact gcr (hA := by simp only [putA_get]; simp [rightB, hkn, F]; exact Wk.refl _)
          try exact nope c59
          all_goals
           replace F := wf F c59; refine run_skip ?_; refine hK19 _ _ ?_; refine sq fun K29 hK29 => ?_; refine sr fun _ hJ31 => ?_; refine gs 103 (fun g9_4 => ?_) (fun g9_4 => ?_)
           · try exact nope g9_4
             all_goals
              replace F := wf F g9_4
              have n0 : pp = [] := by simpa using g9_4
              have n2 : perB ⟨pk, ps, pe, pt, []⟩ = false := by rw [← n0, hb]; simp [n0]
              replace F := aF n2 F; (iterate 9 refine no2 (k := ?_)); refine hJ31 _ _ ?_; refine ct ?_; refine sr fun _ hJ33 => ?_; refine hJ33 _ _ ?_; refine ra ?_; exact gcr (hA := by simp only [putA_get]; simp [rightB, hkn, F]; exact Wk.refl _)
           try exact nope g9_4
           all_goals
            replace F := wf F g9_4; (iterate 4 refine go2 (k := ?_)); refine gs 109 (fun g9_10 => ?_) (fun g9_10 => ?_)
            · try exact nope g9_10
              all_goals
               replace F := wf F g9_10
               have n1 : ¬ pp.length ≤ 16 := by have h := g9_10; simp at h; omega
               have n2 : perB ⟨pk, ps, pe, pt, pp⟩ = false := by rw [hb]; simp [n1]
               replace F := aF n2 F; (iterate 5 refine no2 (k := ?_)); refine hJ31 _ _ ?_; refine ct ?_; refine sr fun _ hJ35 => ?_; refine hJ35 _ _ ?_; refine ra ?_; exact gcr (hA := by simp only [putA_get]; simp [rightB, hkn, F]; exact Wk.refl _)
            try exact nope g9_10
            all_goals
             replace F := wf F g9_10; (iterate 5 refine go2 (k := ?_)); refine hJ31 _ _ ?_; refine cs (fun c115 => ?_) (fun c115 => ?_)
             · try exact nope c115
               all_goals
                replace F := wf F c115
                have n1 : pp = [] ∨ ¬ pp.length ≤ 16 ∨ ¬ ps ≤ pe := by first | (have h := c115; simp at h; omega) | (have h := g9_10; simp at h; omega) | exact .inl (by simpa using g9_4)
                have n2 : perB ⟨pk, ps, pe, pt, pp⟩ = false := by rw [hb]; rcases n1 with h | h | h <;> simp [h]
                replace F := aF n2 F; refine sr fun _ hJ37 => ?_; refine hJ37 _ _ ?_; refine ra ?_; exact gcr (hA := by simp only [putA_get]; simp [rightB, hkn, F]; exact Wk.refl _)
             try exact nope c115
             all_goals
              replace F := wf F c115; refine run_skip ?_; refine hK29 _ _ ?_; refine sq fun K38 hK38 => ?_
              have hse : ps ≤ pe := by have h := c115; simp at h; omega
              have hp16 : pp.length ≤ 16 := by have h := g9_10; simp at h; omega
              have hpn : ¬ pp = [] := by simp [F]
              have hpB : perB ⟨pk, ps, pe, pt, pp⟩ = decide (perOk2 pp (pe - ps) [] = some (0, pt)) := by rw [hb]; simp [hse, hp16, hpn]
              have hw0 : IntKind.u64.wrap ((pe : Int) - ps) = ((pe - ps : Nat) : Int) := by rw [wrap_u64c (by omega)]; omega
              replace F := aF hpB (And.intro hw0 F); refine rg' (h := fun J39 hJ39 => ?_); refine hJ39 _ _ ?_; refine hK38 _ _ ?_; refine sr fun _ hJ41 => ?_; refine hJ41 _ _ ?_; refine sq fun K42 hK42 => ?_; refine sq fun K43 hK43 => ?_; refine run_nilsh 4 5 (k := ?_); refine rg' (h := fun J44 hJ44 => ?_); refine hJ44 _ _ ?_; refine hK43 _ _ ?_; refine run_block_k ?_; refine run_loopG (X := PerQ) [1] (fun q ρ σ1 => (q.i ≤ pp.length) ∧ (perOk2 pp (pe - ps) [] = perOk2 (pp.drop q.i) q.e q.a) ∧ (q.e < 2 ^ 64) ∧ (Right q.a) ∧ (ρ 3 = .v (.int .u64 q.e)) ∧ (ρ 4 = .sl 5 (coinsC q.a) q.a.length .shut) ∧ (ρ 5 = .v (.int .i64 q.i)) ∧ (σ1 = { σ with objs := σ.objs ++ [[.v (.int .u8 pk.toNat), .v (.int .u64 ps), .v (.int .u64 pe), .sl 5 (coinsC pt) pt.length .shut, .sl 2 (persC pp) pp.length .shut]] })) (fun q => pp.length - q.i) (⟨0, pe - ps, []⟩) ?st1 ?rd1
              case st1 =>
               refine ⟨lp, ?_, lp, ?_, lp, lp, lp, ?_⟩
               · rfl
               · exact Go.Vm.right_nil
               · simp [F]
              case rd1 =>
               rintro q ρ1 σ1 hF1 ⟨hi, hE, hqe, hqr, h3, h4, h17, hσ⟩; obtain rfl := hσ.symm
               have f1 := keepL hF1
               (try simp [KeepL, F] at f1); replace F := aF h3 F; replace F := aF h4 F; replace F := aF h17 F; (try replace F := aF f1 F); refine sq fun K45 hK45 => ?_; refine sr fun _ hJ47 => ?_; refine hJ47 _ _ ?_; refine cs (fun c125 => ?_) (fun c125 => ?_)
               · try exact nope c125
                 all_goals
                  replace F := wf F c125; refine run_skip ?_; refine hK45 _ _ ?_; refine sq fun K48 hK48 => ?_; refine run_block_k ?_; refine sq fun K49 hK49 => ?_
                  obtain ⟨i, E, S⟩ := q
                  simp only at hi hE hqe hqr h3 h4 h17
                  have hlt : i < pp.length := by simp at c125; omega
                  have hat := persC_at hlt
                  have hb1 : i * 2 + 2 ≤ pp.length * 2 := by omega
                  have hx5 := h5 _ (List.getElem_mem hlt)
                  have hcons : pp.drop i = pp[i] :: pp.drop (i + 1) := List.drop_eq_getElem_cons hlt
                  obtain ⟨x, hx⟩ : ∃ x, x = pp[i] := ⟨_, rfl⟩
                  rw [← hx] at hat hx5 hcons
                  rw [hcons] at hE
                  obtain ⟨xl, xc⟩ := x
                  obtain ⟨hxl, hxc⟩ := hx5
                  simp only at hxl hxc
                  simp only [perOk2] at hE
                  have hnilx : ((xc.length : Int) == 0) = decide (xc = []) := by cases xc <;> simp <;> omega
                  replace F := aF hlt F; replace F := aF hat F; replace F := aF hb1 F; replace F := aF hnilx F; refine rg' (h := fun J50 hJ50 => ?_); refine hJ50 _ _ ?_; refine hK49 _ _ ?_; refine sq fun K51 hK51 => ?_; refine sr fun _ hJ53 => ?_; refine gs 136 (fun g17_3 => ?_) (fun g17_3 => ?_)
                  · try exact nope g17_3
                    all_goals
                     replace F := wf F g17_3
                     have hbad : perOk2 pp (pe - ps) [] = none := by rw [hE]; exact if_pos (.inl (by have h := g17_3; simp at h; omega))
                     replace F := aF hbad F; (iterate 12 refine no2 (k := ?_)); refine hJ53 _ _ ?_; refine ct ?_; refine sr fun _ hJ55 => ?_; refine hJ55 _ _ ?_; refine ra ?_; exact gcr (hA := by simp only [putA_get]; simp [rightB, hkn, F]; exact Wk.refl _)
                  try exact nope g17_3
                  all_goals
                   replace F := wf F g17_3; (iterate 4 refine go2 (k := ?_)); refine gs 142 (fun g17_9 => ?_) (fun g17_9 => ?_)
                   · try exact nope g17_9
                     all_goals
                      replace F := wf F g17_9
                      have hbad : perOk2 pp (pe - ps) [] = none := by rw [hE]; exact if_pos (.inr (.inl (by have h := g17_9; simp at h; omega)))
                      replace F := aF hbad F; (iterate 8 refine no2 (k := ?_)); refine hJ53 _ _ ?_; refine ct ?_; refine sr fun _ hJ57 => ?_; refine hJ57 _ _ ?_; refine ra ?_; exact gcr (hA := by simp only [putA_get]; simp [rightB, hkn, F]; exact Wk.refl _)
                   try exact nope g17_9
                   all_goals
                    replace F := wf F g17_9; (iterate 4 refine go2 (k := ?_)); refine gs 148 (fun g17_15 => ?_) (fun g17_15 => ?_)
                    · try exact nope g17_15
                      all_goals
                       replace F := wf F g17_15
                       have hbad : perOk2 pp (pe - ps) [] = none := by rw [hE]; exact if_pos (.inr (.inr (.inl (by simpa using g17_15))))
                       replace F := aF hbad F; (iterate 4 refine no2 (k := ?_)); refine hJ53 _ _ ?_; refine ct ?_; refine sr fun _ hJ59 => ?_; refine hJ59 _ _ ?_; refine ra ?_; exact gcr (hA := by simp only [putA_get]; simp [rightB, hkn, F]; exact Wk.refl _)
                    try exact nope g17_15
                    all_goals
                     replace F := wf F g17_15; (iterate 2 refine go2 (k := ?_)); refine cb (c := rright_ok hxc) (k := ?_); refine go2 (k := ?_); refine hJ53 _ _ ?_; refine cs (fun c153 => ?_) (fun c153 => ?_)
                     · try exact nope c153
                       all_goals
                        replace F := wf F c153
                        have hbad : perOk2 pp (pe - ps) [] = none := by rw [hE]; exact if_pos (.inr (.inr (.inr (by simpa using c153))))
                        replace F := aF hbad F; refine sr fun _ hJ61 => ?_; refine hJ61 _ _ ?_; refine ra ?_; exact gcr (hA := by simp only [putA_get]; simp [rightB, hkn, F]; exact Wk.refl _)
                     try exact nope c153
                     all_goals
                      replace F := wf F c153
                      have n1 : ¬ xl = 0 := by have h := g17_3; simp at h; omega
                      have n2 : ¬ E < xl := by have h := g17_9; simp at h; omega
                      have n3 : ¬ xc = [] := by simpa using g17_15
                      have hxr : Right xc := by simpa using c153
                      have hgood : ¬ (xl = 0 ∨ E < xl ∨ xc = [] ∨ ¬ Right xc) := fun h => h.elim n1 (fun h => h.elim n2 (fun h => h.elim n3 (fun h => h hxr)))
                      have hw2 : E - xl < 2 ^ 64 := by omega
                      obtain ⟨S2, hS2⟩ : ∃ S2, S2 = cAddL S xc := ⟨_, rfl⟩
                      have hS2r : Right S2 := by rw [hS2]; exact right_cAdd _ _
                      rw [← hS2] at hE
                      rw [if_neg hgood] at hE
                      have hw : IntKind.u64.wrap ((E : Int) - xl) = ((E - xl : Nat) : Int) := by rw [wrap_u64c (by omega)]; omega
                      replace F := aF hw F; refine run_skip ?_; refine hK51 _ _ ?_; refine sr fun _ hJ63 => ?_; refine hJ63 _ _ ?_; refine sr fun _ hJ65 => ?_; refine cb (c := (hS2 ▸ rpadd_ok hqr hxr)) (k := ?_); refine hJ65 _ _ ?_; refine sq fun K66 hK66 => ?_; refine sr fun _ hJ68 => ?_; refine hJ68 _ _ ?_; refine cs (fun c166 => ?_) (fun c166 => ?_)
                      · try exact nope c166
                        all_goals
                         replace F := wf F c166
                         have hne : ¬ cAddE S xc = 0 := by simpa using c166
                         rw [if_neg hne] at hE
                         replace F := aF hE F; refine sr fun _ hJ70 => ?_; refine hJ70 _ _ ?_; refine ra ?_; exact gcr (hA := by simp only [putA_get]; simp [rightB, hkn, F]; exact Wk.refl _)
                      try exact nope c166
                      all_goals
                       replace F := wf F c166
                       have hye : cAddE S xc = 0 := by simpa using c166
                       rw [if_pos hye] at hE
                       refine run_skip ?_; refine hK66 _ _ ?_; refine rg' (h := fun J71 hJ71 => ?_); refine hJ71 _ _ ?_; refine hK48 _ _ ?_; refine rg' (h := fun J72 hJ72 => ?_); refine hJ72 _ _ ?_; refine ⟨gk, (⟨i + 1, E - xl, S2⟩), ⟨kpG, lpG, ?_, ?_, ?_, lpG, lpG, lpG, lpG⟩, lpG⟩
                       · exact hE
                       · exact hw2
                       · exact hS2r
               try exact nope c125
               all_goals
                replace F := wf F c125
                have hend : perOk2 pp (pe - ps) [] = some (q.e, q.a) := by rw [hE, List.drop_of_length_le (by have h := c125; simp at h; omega)]; rfl
                replace F := aF hend F; refine run_exit ?_; refine hK42 _ _ ?_; refine sr fun _ hJ74 => ?_; refine gs 170 (fun g24_2 => ?_) (fun g24_2 => ?_)
                · try exact nope g24_2
                  all_goals
                   replace F := wf F g24_2
                   have hee : q.e = 0 := by have h := g24_2; simp at h; omega
                   replace F := aF hee F; iterate 3 refine go2 (k := ?_)
                   refine ca (c := rsame_ok (by have := right_len hqr; omega) k3) (k := ?_)
                   rintro _ _ ⟨rfl, rfl⟩; (repeat (first | simp [F] | simp (disch := omega) only [wC, if_pos, if_neg]))
                   refine hJ74 _ _ ?_; refine ra ?_; exact gcr (hA := by simp only [putA_get]; simp [rightB, hkn, F]; exact Wk.refl _)
                try exact nope g24_2
                all_goals
                 replace F := wf F g24_2
                 have hee : ¬ q.e = 0 := by have h := g24_2; simp at h; omega
                 replace F := aF hee F; (iterate 4 refine no2 (k := ?_)); refine hJ74 _ _ ?_; refine ra ?_; exact gcr (hA := by simp only [putA_get]; simp [rightB, hkn, F]; exact Wk.refl _)
       try exact nope g5_3
       all_goals
        replace F := wf F g5_3; (iterate 3 refine no2 (k := ?_)); refine hJ21 _ _ ?_; refine cf ?_; refine run_skip ?_; refine hK19 _ _ ?_; refine sq fun K75 hK75 => ?_; refine sr fun _ hJ77 => ?_; refine gs 103 (fun g9_4 => ?_) (fun g9_4 => ?_)
        · try exact nope g9_4
          all_goals
           replace F := wf F g9_4
           have n0 : pp = [] := by simpa using g9_4
           have n2 : perB ⟨pk, ps, pe, pt, []⟩ = false := by rw [← n0, hb]; simp [n0]
           replace F := aF n2 F; (iterate 9 refine no2 (k := ?_)); refine hJ77 _ _ ?_; refine ct ?_; refine sr fun _ hJ79 => ?_; refine hJ79 _ _ ?_; refine ra ?_; exact gcr (hA := by simp only [putA_get]; simp [rightB, hkn, F]; exact Wk.refl _)
        try exact nope g9_4
        all_goals
         replace F := wf F g9_4; (iterate 4 refine go2 (k := ?_)); refine gs 109 (fun g9_10 => ?_) (fun g9_10 => ?_)
         · try exact nope g9_10
           all_goals
            replace F := wf F g9_10
            have n1 : ¬ pp.length ≤ 16 := by have h := g9_10; simp at h; omega
            have n2 : perB ⟨pk, ps, pe, pt, pp⟩ = false := by rw [hb]; simp [n1]
            replace F := aF n2 F; (iterate 5 refine no2 (k := ?_)); refine hJ77 _ _ ?_; refine ct ?_; refine sr fun _ hJ81 => ?_; refine hJ81 _ _ ?_; refine ra ?_; exact gcr (hA := by simp only [putA_get]; simp [rightB, hkn, F]; exact Wk.refl _)
         try exact nope g9_10
         all_goals
          replace F := wf F g9_10; (iterate 5 refine go2 (k := ?_)); refine hJ77 _ _ ?_; refine cs (fun c115 => ?_) (fun c115 => ?_)
          · try exact nope c115
            all_goals
             replace F := wf F c115
             have n1 : pp = [] ∨ ¬ pp.length ≤ 16 ∨ ¬ ps ≤ pe := by first | (have h := c115; simp at h; omega) | (have h := g9_10; simp at h; omega) | exact .inl (by simpa using g9_4)
             have n2 : perB ⟨pk, ps, pe, pt, pp⟩ = false := by rw [hb]; rcases n1 with h | h | h <;> simp [h]
             replace F := aF n2 F; refine sr fun _ hJ83 => ?_; refine hJ83 _ _ ?_; refine ra ?_; exact gcr (hA := by simp only [putA_get]; simp [rightB, hkn, F]; exact Wk.refl _)
          try exact nope c115
          all_goals
           replace F := wf F c115; refine run_skip ?_; refine hK75 _ _ ?_; refine sq fun K84 hK84 => ?_
           have hse : ps ≤ pe := by have h := c115; simp at h; omega
           have hp16 : pp.length ≤ 16 := by have h := g9_10; simp at h; omega
           have hpn : ¬ pp = [] := by simp [F]
           have hpB : perB ⟨pk, ps, pe, pt, pp⟩ = decide (perOk2 pp (pe - ps) [] = some (0, pt)) := by rw [hb]; simp [hse, hp16, hpn]
           have hw0 : IntKind.u64.wrap ((pe : Int) - ps) = ((pe - ps : Nat) : Int) := by rw [wrap_u64c (by omega)]; omega
           replace F := aF hpB (And.intro hw0 F); refine rg' (h := fun J85 hJ85 => ?_); refine hJ85 _ _ ?_; refine hK84 _ _ ?_; refine sr fun _ hJ87 => ?_; refine hJ87 _ _ ?_; refine sq fun K88 hK88 => ?_; refine sq fun K89 hK89 => ?_; refine run_nilsh 4 5 (k := ?_); refine rg' (h := fun J90 hJ90 => ?_); refine hJ90 _ _ ?_; refine hK89 _ _ ?_; refine run_block_k ?_; refine run_loopG (X := PerQ) [1] (fun q ρ σ1 => (q.i ≤ pp.length) ∧ (perOk2 pp (pe - ps) [] = perOk2 (pp.drop q.i) q.e q.a) ∧ (q.e < 2 ^ 64) ∧ (Right q.a) ∧ (ρ 3 = .v (.int .u64 q.e)) ∧ (ρ 4 = .sl 5 (coinsC q.a) q.a.length .shut) ∧ (ρ 5 = .v (.int .i64 q.i)) ∧ (σ1 = { σ with objs := σ.objs ++ [[.v (.int .u8 pk.toNat), .v (.int .u64 ps), .v (.int .u64 pe), .sl 5 (coinsC pt) pt.length .shut, .sl 2 (persC pp) pp.length .shut]] })) (fun q => pp.length - q.i) (⟨0, pe - ps, []⟩) ?st1 ?rd1
           case st1 =>
            refine ⟨lp, ?_, lp, ?_, lp, lp, lp, ?_⟩
            · rfl
            · exact Go.Vm.right_nil
            · simp [F]
           case rd1 =>
            rintro q ρ1 σ1 hF1 ⟨hi, hE, hqe, hqr, h3, h4, h17, hσ⟩; obtain rfl := hσ.symm
            have f1 := keepL hF1
            (try simp [KeepL, F] at f1); replace F := aF h3 F; replace F := aF h4 F; replace F := aF h17 F; (try replace F := aF f1 F); refine sq fun K91 hK91 => ?_; refine sr fun _ hJ93 => ?_; refine hJ93 _ _ ?_; refine cs (fun c125 => ?_) (fun c125 => ?_)
            · try exact nope c125
              all_goals
               replace F := wf F c125; refine run_skip ?_; refine hK91 _ _ ?_; refine sq fun K94 hK94 => ?_; refine run_block_k ?_; refine sq fun K95 hK95 => ?_
               obtain ⟨i, E, S⟩ := q
               simp only at hi hE hqe hqr h3 h4 h17
               have hlt : i < pp.length := by simp at c125; omega
               have hat := persC_at hlt
               have hb1 : i * 2 + 2 ≤ pp.length * 2 := by omega
               have hx5 := h5 _ (List.getElem_mem hlt)
               have hcons : pp.drop i = pp[i] :: pp.drop (i + 1) := List.drop_eq_getElem_cons hlt
               obtain ⟨x, hx⟩ : ∃ x, x = pp[i] := ⟨_, rfl⟩
               rw [← hx] at hat hx5 hcons
               rw [hcons] at hE
               obtain ⟨xl, xc⟩ := x
               obtain ⟨hxl, hxc⟩ := hx5
               simp only at hxl hxc
               simp only [perOk2] at hE
               have hnilx : ((xc.length : Int) == 0) = decide (xc = []) := by cases xc <;> simp <;> omega
               replace F := aF hlt F; replace F := aF hat F; replace F := aF hb1 F; replace F := aF hnilx F; refine rg' (h := fun J96 hJ96 => ?_); refine hJ96 _ _ ?_; refine hK95 _ _ ?_; refine sq fun K97 hK97 => ?_; refine sr fun _ hJ99 => ?_; refine gs 136 (fun g17_3 => ?_) (fun g17_3 => ?_)
               · try exact nope g17_3
                 all_goals
                  replace F := wf F g17_3
                  have hbad : perOk2 pp (pe - ps) [] = none := by rw [hE]; exact if_pos (.inl (by have h := g17_3; simp at h; omega))
                  replace F := aF hbad F; (iterate 12 refine no2 (k := ?_)); refine hJ99 _ _ ?_; refine ct ?_; refine sr fun _ hJ101 => ?_; refine hJ101 _ _ ?_; refine ra ?_; exact gcr (hA := by simp only [putA_get]; simp [rightB, hkn, F]; exact Wk.refl _)
               try exact nope g17_3
               all_goals
                replace F := wf F g17_3; (iterate 4 refine go2 (k := ?_)); refine gs 142 (fun g17_9 => ?_) (fun g17_9 => ?_)
                · try exact nope g17_9
                  all_goals
                   replace F := wf F g17_9
                   have hbad : perOk2 pp (pe - ps) [] = none := by rw [hE]; exact if_pos (.inr (.inl (by have h := g17_9; simp at h; omega)))
                   replace F := aF hbad F; (iterate 8 refine no2 (k := ?_)); refine hJ99 _ _ ?_; refine ct ?_; refine sr fun _ hJ103 => ?_; refine hJ103 _ _ ?_; refine ra ?_; exact gcr (hA := by simp only [putA_get]; simp [rightB, hkn, F]; exact Wk.refl _)
                try exact nope g17_9
                all_goals
                 replace F := wf F g17_9; (iterate 4 refine go2 (k := ?_)); refine gs 148 (fun g17_15 => ?_) (fun g17_15 => ?_)
                 · try exact nope g17_15
                   all_goals
                    replace F := wf F g17_15
                    have hbad : perOk2 pp (pe - ps) [] = none := by rw [hE]; exact if_pos (.inr (.inr (.inl (by simpa using g17_15))))
                    replace F := aF hbad F; (iterate 4 refine no2 (k := ?_)); refine hJ99 _ _ ?_; refine ct ?_; refine sr fun _ hJ105 => ?_; refine hJ105 _ _ ?_; refine ra ?_; exact gcr (hA := by simp only [putA_get]; simp [rightB, hkn, F]; exact Wk.refl _)
                 try exact nope g17_15
                 all_goals
                  replace F := wf F g17_15; (iterate 2 refine go2 (k := ?_)); refine cb (c := rright_ok hxc) (k := ?_); refine go2 (k := ?_); refine hJ99 _ _ ?_; refine cs (fun c153 => ?_) (fun c153 => ?_)
                  · try exact nope c153
                    all_goals
                     replace F := wf F c153
                     have hbad : perOk2 pp (pe - ps) [] = none := by rw [hE]; exact if_pos (.inr (.inr (.inr (by simpa using c153))))
                     replace F := aF hbad F; refine sr fun _ hJ107 => ?_; refine hJ107 _ _ ?_; refine ra ?_; exact gcr (hA := by simp only [putA_get]; simp [rightB, hkn, F]; exact Wk.refl _)
                  try exact nope c153
                  all_goals
                   replace F := wf F c153
                   have n1 : ¬ xl = 0 := by have h := g17_3; simp at h; omega
                   have n2 : ¬ E < xl := by have h := g17_9; simp at h; omega
                   have n3 : ¬ xc = [] := by simpa using g17_15
                   have hxr : Right xc := by simpa using c153
                   have hgood : ¬ (xl = 0 ∨ E < xl ∨ xc = [] ∨ ¬ Right xc) := fun h => h.elim n1 (fun h => h.elim n2 (fun h => h.elim n3 (fun h => h hxr)))
                   have hw2 : E - xl < 2 ^ 64 := by omega
                   obtain ⟨S2, hS2⟩ : ∃ S2, S2 = cAddL S xc := ⟨_, rfl⟩
                   have hS2r : Right S2 := by rw [hS2]; exact right_cAdd _ _
                   rw [← hS2] at hE
                   rw [if_neg hgood] at hE
                   have hw : IntKind.u64.wrap ((E : Int) - xl) = ((E - xl : Nat) : Int) := by rw [wrap_u64c (by omega)]; omega
                   replace F := aF hw F; refine run_skip ?_; refine hK97 _ _ ?_; refine sr fun _ hJ109 => ?_; refine hJ109 _ _ ?_; refine sr fun _ hJ111 => ?_; refine cb (c := (hS2 ▸ rpadd_ok hqr hxr)) (k := ?_); refine hJ111 _ _ ?_; refine sq fun K112 hK112 => ?_; refine sr fun _ hJ114 => ?_; refine hJ114 _ _ ?_; refine cs (fun c166 => ?_) (fun c166 => ?_)
                   · try exact nope c166
                     all_goals
                      replace F := wf F c166
                      have hne : ¬ cAddE S xc = 0 := by simpa using c166
                      rw [if_neg hne] at hE
                      replace F := aF hE F; refine sr fun _ hJ116 => ?_; refine hJ116 _ _ ?_; refine ra ?_; exact gcr (hA := by simp only [putA_get]; simp [rightB, hkn, F]; exact Wk.refl _)
                   try exact nope c166
                   all_goals
                    replace F := wf F c166
                    have hye : cAddE S xc = 0 := by simpa using c166
                    rw [if_pos hye] at hE
                    refine run_skip ?_; refine hK112 _ _ ?_; refine rg' (h := fun J117 hJ117 => ?_); refine hJ117 _ _ ?_; refine hK94 _ _ ?_; refine rg' (h := fun J118 hJ118 => ?_); refine hJ118 _ _ ?_; refine ⟨gk, (⟨i + 1, E - xl, S2⟩), ⟨kpG, lpG, ?_, ?_, ?_, lpG, lpG, lpG, lpG⟩, lpG⟩
                    · exact hE
                    · exact hw2
                    · exact hS2r
            try exact nope c125
            all_goals
             replace F := wf F c125
             have hend : perOk2 pp (pe - ps) [] = some (q.e, q.a) := by rw [hE, List.drop_of_length_le (by have h := c125; simp at h; omega)]; rfl
             replace F := aF hend F; refine run_exit ?_; refine hK88 _ _ ?_; refine sr fun _ hJ120 => ?_; refine gs 170 (fun g24_2 => ?_) (fun g24_2 => ?_)
             · try exact nope g24_2
               all_goals
                replace F := wf F g24_2
                have hee : q.e = 0 := by have h := g24_2; simp at h; omega
                replace F := aF hee F; iterate 3 refine go2 (k := ?_)
                refine ca (c := rsame_ok (by have := right_len hqr; omega) k3) (k := ?_)
                rintro _ _ ⟨rfl, rfl⟩; (repeat (first | simp [F] | simp (disch := omega) only [wC, if_pos, if_neg]))
                refine hJ120 _ _ ?_; refine ra ?_; exact gcr (hA := by simp only [putA_get]; simp [rightB, hkn, F]; exact Wk.refl _)
             try exact nope g24_2
             all_goals
              replace F := wf F g24_2
              have hee : ¬ q.e = 0 := by have h := g24_2; simp at h; omega
              replace F := aF hee F; (iterate 4 refine no2 (k := ?_)); refine hJ120 _ _ ?_; refine ra ?_; exact gcr (hA := by simp only [putA_get]; simp [rightB, hkn, F]; exact Wk.refl _)

end Go.Proofs.Ytdbaddholggkbaa

/-
  What a plan gives by a time.
-/
namespace Go.Vm
open Go

def lenS : List Per → Nat
  | [] => 0
  | x :: l => x.l + lenS l
def sumL : List Per → List Coin → List Coin
  | [], a => a
  | x :: l, a => sumL l (cAddL a x.c)
end Go.Vm

/-
  Plans that are made of numbers: they are right.
-/
namespace Go.Vm
set_option linter.unnecessarySimpa false
set_option linter.unusedSimpArgs false
set_option linter.unusedVariables false
open Go

structure Pc where
  l : Nat
  c : List Coin
structure Mad where
  k : UInt8
  s : Nat
  n : Nat
  c : List Coin
  ps : List Pc
def Mad.Ok (m : Mad) : Prop := m.s < 2 ^ 32 ∧ m.n < 2 ^ 16 ∧ ∀ x ∈ m.ps, x.l < 2 ^ 16
def pcC (x : Pc) : List AV := [.v (.int .u16 x.l), .sl 5 (coinsC x.c) x.c.length .shut]
def pcsC (l : List Pc) : List AV := l.flatMap pcC
@[simp] theorem pcsC_nil : pcsC [] = [] := rfl
@[simp] theorem pcsC_len (l : List Pc) : (pcsC l).length = l.length * 2 := flat_length pcC 2 (fun _ => rfl) l
end Go.Vm

/-
  Plans that are made of numbers..
-/
namespace Go.Proofs.Ytdbaddholggkbaa
set_option linter.unnecessarySimpa false
set_option maxRecDepth 100000
open Go Go.Vm
set_option linter.unusedSimpArgs false
set_option linter.unusedVariables false
attribute [local simp] evalL wantedA isCall opA evalA evalAll evalsA evalOpt ofValue ofCell plain binA_eql_pn binA_neq_pn binA_gtr binA_lss binA_geq binA_leq binA_add binA_sub binA_eql binA_neq binA_orI binA_andI binA_shl binA_shr binA_mul binA_quo binA_rem binA_agg_eql binA_agg_neq convA_int unA_not fieldAddrA loadA partA pickA_true pickA_false pickA_bb lenA builtinA storeA splice AV.cells AV.isCell sliceA boundA intA callOf indexAddrA newObjA buildA fillA zeroA ofCells buildSliceA indexA fieldA numA_len4 numA_take4 numA_drop4 set_appN get_appN take_appN List.getElem?_cons_zero List.getElem?_cons_succ makeA zeros64

def allA (b : Bool) (l : List Coin) : AV := bif b then .sl 5 (coinsC l) l.length .shut else .sl 0 [] 0 .full
@[simp] theorem allA_yes (l : List Coin) : allA true l = .sl 5 (coinsC l) l.length .shut := rfl
@[simp] theorem allA_no (l : List Coin) : allA false l = .sl 0 [] 0 .full := rfl
theorem allA_noObj (n : Nat) (b : Bool) (l : List Coin) : (allA b l).noObj n = true := by cases b <;> simp [AV.noObj, coinsC, noObjL_flat, coinC, numA, noObjL]

end Go.Proofs.Ytdbaddholggkbaa

/-
  What right plans give by a time: the plain laws.
-/
namespace Go.Vm
set_option linter.unnecessarySimpa false
set_option linter.unusedSimpArgs false
set_option linter.unusedVariables false
open Go

def PerOk (x : Per) : Prop := 0 < x.l ∧ x.l ≤ 2 ^ 16 ∧ x.c ≠ [] ∧ Right x.c ∧ ∀ d, d < 8 → amt x.c d < 2 ^ 250
structure Fine (p : Pln) : Prop where
  ok : p.Ok
  tot : Right p.tot
  kinds : p.k = 0 ∨ p.k = 1 ∨ p.k = 2 ∨ p.k = 3 ∨ p.k = 4 ∨ p.k = 5
  zero : p.k = 0 → p = ⟨0, 0, 0, [], []⟩
  even : p.k = 1 → p.s < p.e
  late : p.k = 2 → p.s = 0
  small : p.s + lenS p.ps ≤ 2 ^ 40
  pers : ∀ x ∈ p.ps, PerOk x
  steps : p.k = 3 ∨ p.k = 5 → p.e = p.s + lenS p.ps ∧ p.tot = sumL p.ps [] ∧ p.ps ≠ [] ∧ p.ps.length ≤ 16

end Go.Vm

/-
  Are two plans alike, by the document..
-/
namespace Go.Proofs.Ytdbaddholggkbaa
set_option linter.unnecessarySimpa false
set_option maxRecDepth 100000
open Go Go.Vm
set_option linter.unusedSimpArgs false
set_option linter.unusedVariables false
attribute [local simp] evalL wantedA isCall opA evalA evalAll evalsA evalOpt ofValue ofCell plain binA_eql_pn binA_neq_pn binA_gtr binA_lss binA_geq binA_leq binA_add binA_sub binA_eql binA_neq binA_orI binA_andI binA_shl binA_shr binA_mul binA_quo binA_rem binA_agg_eql binA_agg_neq convA_int unA_not fieldAddrA loadA partA pickA_true pickA_false pickA_bb lenA builtinA storeA splice AV.cells AV.isCell sliceA boundA intA callOf indexAddrA newObjA buildA fillA zeroA ofCells buildSliceA indexA fieldA numA_len4 numA_take4 numA_drop4 set_appN get_appN take_appN List.getElem?_cons_zero List.getElem?_cons_succ makeA zeros64

set_option maxHeartbeats 1600000 in
attribute [local simp] undefA List.getElem?_cons_zero List.getElem?_cons_succ plnC perC persC_noObj in
theorem rplsame_ok {σ : St} {a b : Pln} (ha : a.Ok) (hb : b.Ok) :
    CallsA Try.prog 31 [.agg (plnC a), .agg (plnC b)] σ (fun av σ' => av = .v (.bool (decide (a = b))) ∧ σ = σ') := by
  refine callsA_gcS ?_ rfl
  obtain ⟨D, hD⟩ : ∃ D, D = decide (a = b) := ⟨_, rfl⟩
  rw [← hD]
  obtain ⟨ak, a1, a2, a3, a4⟩ := a
  obtain ⟨bk, b1, b2, b3, b4⟩ := b
  obtain ⟨ha1, ha2, ha3, ha4, ha5⟩ := ha
  obtain ⟨hb1, hb2, hb3, hb4, hb5⟩ := hb
  simp only [Pln.mk.injEq] at *
  have hno : ¬ (ak = bk ∧ a1 = b1 ∧ a2 = b2 ∧ a3 = b3 ∧ a4 = b4) → D = false := fun h => by rw [hD]; exact decide_eq_false h
  have hyes : ak = bk → a1 = b1 → a2 = b2 → a3 = b3 → a4 = b4 → D = true := fun h1 h2 h3 h4 h5 => by rw [hD]; exact decide_eq_true ⟨h1, h2, h3, h4, h5⟩
  clear hD
  obtain ⟨B, hB⟩ : ∃ B, B = !(decide (ak = bk) && decide (a1 = b1) && decide (a2 = b2) && decide (a3 = b3) && decide (a4.length = b4.length)) := ⟨_, rfl⟩
  have F := True.intro
  refine callsA_body Try.func31 rfl rfl rfl ?_; refine sr fun _ hJ2 => ?_; refine hJ2 _ _ ?_; refine sq fun K3 hK3 => ?_; refine sqc (X := Unit) [2, 3, 4] (fun k ρ σ1 => (ρ 41 = .v (.bool B)) ∧ (σ1 = { σ with objs := σ.objs ++ [[.v (.int .u8 ak.toNat), .v (.int .u64 a1), .v (.int .u64 a2), .sl 5 (coinsC a3) a3.length .shut, .sl 2 (persC a4) a4.length .shut], [.v (.int .u8 bk.toNat), .v (.int .u64 b1), .v (.int .u64 b2), .sl 5 (coinsC b3) b3.length .shut, .sl 2 (persC b4) b4.length .shut]] })) ?cy4 ?cx4
  case cy4 =>
   rintro k ρCr1 σ1 hFCr1 ⟨h41, hσ⟩; obtain rfl := hσ.symm
   have fCr1 := keepL hFCr1
   (try simp [KeepL, F] at fCr1); replace F := aF h41 F; (try replace F := aF fCr1 F); refine cs (t := B) (fun c41 => ?_) (fun c41 => ?_)
   · try exact nope c41
     all_goals
      replace F := wf F c41
      have h0 : D = false := hno (fun ⟨e1, e2, e3, e4, e5⟩ => by rw [hB, e1, e2, e3, e4, e5] at c41; simp at c41)
      replace F := aF h0 F; refine sr fun _ hJ6 => ?_; refine hJ6 _ _ ?_; refine ra ?_; exact gcr
   try exact nope c41
   all_goals
    replace F := wf F c41
    obtain ⟨e1, e2, e3, e4, e5⟩ : ak = bk ∧ a1 = b1 ∧ a2 = b2 ∧ a3 = b3 ∧ a4.length = b4.length := by rw [hB] at c41; simp at c41; obtain ⟨⟨⟨⟨h1, h2⟩, h3⟩, h4⟩, h5⟩ := c41; exact ⟨h1, h2, h3, h4, h5⟩
    refine run_skip ?_; refine hK3 _ _ ?_; refine sq fun K7 hK7 => ?_; refine sr fun _ hJ9 => ?_; refine hJ9 _ _ ?_; refine run_block_k ?_; refine run_loopF (X := Nat) [2, 3] (fun i ρ σ1 => (i ≤ a4.length) ∧ (a4.take i = b4.take i) ∧ (ρ 5 = .v (.int .i64 i)) ∧ (σ1 = { σ with objs := σ.objs ++ [[.v (.int .u8 ak.toNat), .v (.int .u64 a1), .v (.int .u64 a2), .sl 5 (coinsC a3) a3.length .shut, .sl 2 (persC a4) a4.length .shut], [.v (.int .u8 bk.toNat), .v (.int .u64 b1), .v (.int .u64 b2), .sl 5 (coinsC b3) b3.length .shut, .sl 2 (persC b4) b4.length .shut]] })) (fun i => a4.length - i) (0) ?st1 ?rd1
    case st1 =>
     refine ⟨lp, ?_, lp, ?_⟩
     · rfl
     · rfl
    case rd1 =>
     rintro i ρ1 σ1 hF1 ⟨hi, hE, h5, hσ⟩; obtain rfl := hσ.symm
     have f1 := keepL hF1
     (try simp [KeepL, F] at f1); replace F := aF h5 F; (try replace F := aF f1 F); refine sq fun K10 hK10 => ?_; refine sr fun _ hJ12 => ?_; refine hJ12 _ _ ?_; refine cs (fun c46 => ?_) (fun c46 => ?_)
     · try exact nope c46
       all_goals
        replace F := wf F c46; refine run_skip ?_; refine hK10 _ _ ?_; refine sq fun K13 hK13 => ?_; refine run_block_k ?_; refine sq fun K14 hK14 => ?_
        have hlt : i < a4.length := by have h := c46; simp at h; omega
        have hlt2 : i < b4.length := by omega
        have hat := persC_at hlt
        have hat2 := persC_at hlt2
        have hb1 : i * 2 + 2 ≤ a4.length * 2 := by omega
        have hb2 : i * 2 + 2 ≤ b4.length * 2 := by omega
        have hx5 := ha5 _ (List.getElem_mem hlt)
        have hy5 := hb5 _ (List.getElem_mem hlt2)
        have htx : a4.take (i + 1) = a4.take i ++ [a4[i]] := (List.take_append_getElem hlt).symm
        have hty : b4.take (i + 1) = b4.take i ++ [b4[i]] := (List.take_append_getElem hlt2).symm
        have hxy : a4 = b4 → a4[i] = b4[i] := fun e => by subst e; rfl
        obtain ⟨x, hx⟩ : ∃ x, x = a4[i] := ⟨_, rfl⟩
        obtain ⟨y, hy⟩ : ∃ y, y = b4[i] := ⟨_, rfl⟩
        rw [← hx] at hat hx5 htx hxy
        rw [← hy] at hat2 hy5 hty hxy
        obtain ⟨xl, xc⟩ := x
        obtain ⟨yl, yc⟩ := y
        simp only [Per.mk.injEq] at hx5 hy5 hxy
        replace F := aF hlt F; replace F := aF hlt2 F; replace F := aF hat F; replace F := aF hat2 F; replace F := aF hb1 F; replace F := aF hb2 F
        refine run_draw (by kernel_rfl) fun J15 hJ15 => ?_
        refine rp2 0 (k := ?_); refine rp2 1 (k := ?_); refine rp2 2 (k := ?_); refine rp2 3 (k := ?_); refine rp2 4 (k := ?_); refine rp2 5 (k := ?_); refine rp2 6 (k := ?_); refine rp2 7 (k := ?_); refine rp2 8 (k := ?_); refine rp2 9 (k := ?_); refine rp2 10 (k := ?_); refine rp2 11 (k := ?_); refine rp2 12 (k := ?_); refine rp2 13 (k := ?_); refine gd 62 (fun g6_13 => ?_) (fun g6_13 => ?_)
        · try exact nope g6_13
          all_goals
           replace F := wf F g6_13
           have hm : ¬ xl = yl := by have h := g6_13; simp at h; omega
           have h0 : D = false := hno (fun e => hm (hxy e.2.2.2.2).1)
           replace F := aF h0 F; refine rp2 14 (k := ?_); refine rp2 15 (k := ?_); refine rp2 16 (k := ?_); refine rp2 17 (k := ?_); refine rp2 18 (k := ?_); refine rp2 19 (k := ?_); refine rp2 20 (k := ?_); refine rp2 21 (k := ?_); refine rp2 22 (k := ?_); refine rp2 23 (k := ?_); refine rp2 24 (k := ?_); refine rp2 25 (k := ?_); refine dop 26 rfl ?_; (repeat (first | simp [F] | simp (disch := omega) only [wC, if_pos, if_neg])); refine rp2 27 (k := ?_); refine rp2 28 (k := ?_); refine dd ?_; refine hJ15 _ _ ?_; refine hK14 _ _ ?_; refine ct ?_; refine sr fun _ hJ17 => ?_; refine hJ17 _ _ ?_; refine ra ?_; exact gcr
        try exact nope g6_13
        all_goals
         replace F := wf F g6_13
         have hm : xl = yl := by have h := g6_13; simp at h; omega
         refine rp2 14 (k := ?_); refine rp2 15 (k := ?_); refine rp2 16 (k := ?_); refine rp2 17 (k := ?_); refine rp2 18 (k := ?_); refine rp2 19 (k := ?_); refine rp2 20 (k := ?_); refine rp2 21 (k := ?_); refine rp2 22 (k := ?_); refine rp2 23 (k := ?_); refine rp2 24 (k := ?_); refine rp2 25 (k := ?_); refine dc 26 rfl (c := rsame_ok hx5.2 hy5.2) (k := ?_); rintro _ _ ⟨rfl, rfl⟩
         refine ⟨by first | exact fun _ _ h => h | (refine later_list [24, 23, 22, 21, 20, 18, 17, 16, 15, 14, 12, 11, 10, 9, 8, 7, 6, 5, 4, 3, 2, 1, 0] (by kernel_rfl) (fc2 ?_ <| fc2 ?_ <| fc2 ?_ <| fc2 ?_ <| fc2 ?_ <| fc2 ?_ <| fc2 ?_ <| fc2 ?_ <| fc2 ?_ <| fc2 ?_ <| fc2 ?_ <| fc2 ?_ <| fc2 ?_ <| fc2 ?_ <| fc2 ?_ <| fc2 ?_ <| fc2 ?_ <| fc2 ?_ <| fc2 ?_ <| fc2 ?_ <| fc2 ?_ <| fc2 ?_ <| fc2 ?_ <| fn0) <;> constructor <;> first | rfl | (simp [F]; done)), ?_⟩
         (repeat (first | simp [F] | simp (disch := omega) only [wC, if_pos, if_neg])); refine rp2 27 (k := ?_); refine rp2 28 (k := ?_); refine dd ?_; refine hJ15 _ _ ?_; refine hK14 _ _ ?_; refine cs (fun c77 => ?_) (fun c77 => ?_)
         · try exact nope c77
           all_goals
            replace F := wf F c77
            have h0 : D = false := hno (fun e => by have h := c77; simp at h; exact h (hxy e.2.2.2.2).2)
            replace F := aF h0 F; refine sr fun _ hJ19 => ?_; refine hJ19 _ _ ?_; refine ra ?_; exact gcr
         try exact nope c77
         all_goals
          replace F := wf F c77
          have hc : xc = yc := by have h := c77; simp at h; exact h
          refine run_skip ?_; refine hK13 _ _ ?_; refine rg' (h := fun J20 hJ20 => ?_); refine hJ20 _ _ ?_; refine ⟨(i + 1), ⟨kp, lp, ?_, lp, lp⟩, lp⟩
          · rw [htx, hty, hE, hm, hc]
     try exact nope c46
     all_goals
      replace F := wf F c46
      have h0 : D = true := hyes e1 e2 e3 e4 (by rw [List.take_of_length_le (by have h := c46; simp at h; omega), List.take_of_length_le (by have h := c46; simp at h; omega)] at hE; exact hE)
      replace F := aF h0 F; refine run_exit ?_; refine hK7 _ _ ?_; refine sr fun _ hJ22 => ?_; refine hJ22 _ _ ?_; refine ra ?_; exact gcr
  case cx4 =>
   intro K4 hK4
   refine rg' (h := fun J23 hJ23 => ?_); refine gs 11 (fun g1_5 => ?_) (fun g1_5 => ?_)
   · try exact nope g1_5
     all_goals
      replace F := wf F g1_5
      have hl1 : ¬ ak = bk := by have h := g1_5; simp at h; intro e; subst e; exact h rfl
      replace F := aF hl1 F; (iterate 23 refine no2 (k := ?_)); refine hJ23 _ _ ?_; refine hK4 (()) _ _ ⟨kp, ?_, lp⟩
      · rw [hB]
        simp [F]
        try (rw [Bool.eq_iff_iff]; simp; omega)
   try exact nope g1_5
   all_goals
    replace F := wf F g1_5
    have hl1 : ak = bk := by have h := g1_5; simp at h; exact UInt8.toNat_inj.1 (by omega)
    replace F := aF hl1 F; (iterate 5 refine go2 (k := ?_)); refine gs 18 (fun g1_12 => ?_) (fun g1_12 => ?_)
    · try exact nope g1_12
      all_goals
       replace F := wf F g1_12
       have hl2 : ¬ a1 = b1 := by have h := g1_12; simp at h; omega
       replace F := aF hl2 F; (iterate 18 refine no2 (k := ?_)); refine hJ23 _ _ ?_; refine hK4 (()) _ _ ⟨kp, ?_, lp⟩
       · rw [hB]
         simp [F]
         try (rw [Bool.eq_iff_iff]; simp; omega)
    try exact nope g1_12
    all_goals
     replace F := wf F g1_12
     have hl2 : a1 = b1 := by have h := g1_12; simp at h; omega
     replace F := aF hl2 F; (iterate 5 refine go2 (k := ?_)); refine gs 25 (fun g1_19 => ?_) (fun g1_19 => ?_)
     · try exact nope g1_19
       all_goals
        replace F := wf F g1_19
        have hl3 : ¬ a2 = b2 := by have h := g1_19; simp at h; omega
        replace F := aF hl3 F; (iterate 13 refine no2 (k := ?_)); refine hJ23 _ _ ?_; refine hK4 (()) _ _ ⟨kp, ?_, lp⟩
        · rw [hB]
          simp [F]
          try (rw [Bool.eq_iff_iff]; simp; omega)
     try exact nope g1_19
     all_goals
      replace F := wf F g1_19
      have hl3 : a2 = b2 := by have h := g1_19; simp at h; omega
      replace F := aF hl3 F; (iterate 4 refine go2 (k := ?_)); refine cb (c := rsame_ok ha3 hb3) (k := ?_); refine go2 (k := ?_); refine gs 33 (fun g1_27 => ?_) (fun g1_27 => ?_)
      · try exact nope g1_27
        all_goals
         replace F := wf F g1_27; (iterate 7 refine no2 (k := ?_)); refine hJ23 _ _ ?_; refine hK4 (()) _ _ ⟨kp, ?_, lp⟩
         · rw [hB]
           simp [F]
           try (rw [Bool.eq_iff_iff]; simp; omega)
      try exact nope g1_27
      all_goals
       replace F := wf F g1_27; (iterate 7 refine go2 (k := ?_)); refine hJ23 _ _ ?_; refine hK4 (()) _ _ ⟨kp, ?_, lp⟩
       · rw [hB]
         simp [F]
         try (rw [Bool.eq_iff_iff]; simp; omega)

end Go.Proofs.Ytdbaddholggkbaa

/-
  Messages: what they are, what a kind has, when they are right.
-/
namespace Go.Vm
set_option linter.unnecessarySimpa false
set_option linter.unusedSimpArgs false
open Go

structure Out where
  t : UInt8
  c : List Coin
deriving DecidableEq
structure Msg where
  k : UInt8
  f : UInt8
  s : Nat
  fee : List Coin
  t : UInt8
  v : UInt8
  o : UInt8
  n : Num
  c : List Coin
  outs : List Out
  p : Pln
  tm : Nat
  pt : Nat
  j : Bool
deriving DecidableEq

def outC (x : Out) : List AV := [.v (.int .u8 x.t.toNat), .sl 5 (coinsC x.c) x.c.length .shut]
def outsC (l : List Out) : List AV := l.flatMap outC
@[simp] theorem outsC_nil : outsC [] = [] := rfl
@[simp] theorem outsC_len (l : List Out) : (outsC l).length = l.length * 2 := flat_length outC 2 (fun _ => rfl) l
theorem outsC_at {l : List Out} {i : Nat} (h : i < l.length) : (outsC l).drop (i * 2) = outC l[i] ++ restC outC l i := flat_at outC 2 (fun _ => rfl) l i h
theorem outsC_noObj (n : Nat) : ∀ l : List Out, noObjL n (outsC l) = true := noObjL_flat (fun p => by simp [outC, noObjL, AV.noObj, coinsC, noObjL_flat, coinC, numA])
theorem outsC_under (B : Bd) : ∀ l : List Out, underL B (outsC l) = true := underL_flat (fun p => by simp [outC, underL, AV.under, coinsC, underL_flat, coinC, numA])
theorem outsC_append (l m : List Out) : outsC l ++ outsC m = outsC (l ++ m) := by simp [outsC]

def msgC (m : Msg) : List AV := [.v (.int .u8 m.k.toNat), .v (.int .u8 m.f.toNat), .v (.int .u64 m.s), .sl 5 (coinsC m.fee) m.fee.length .shut, .v (.int .u8 m.t.toNat), .v (.int .u8 m.v.toNat), .v (.int .u8 m.o.toNat),
  .v (.int .u64 (limb m.n.v 0)), .v (.int .u64 (limb m.n.v 1)), .v (.int .u64 (limb m.n.v 2)), .v (.int .u64 (limb m.n.v 3)), .sl 5 (coinsC m.c) m.c.length .shut, .sl 2 (outsC m.outs) m.outs.length .shut,
  .v (.int .u8 m.p.k.toNat), .v (.int .u64 m.p.s), .v (.int .u64 m.p.e), .sl 5 (coinsC m.p.tot) m.p.tot.length .shut, .sl 2 (persC m.p.ps) m.p.ps.length .shut, .v (.int .u64 m.tm), .v (.int .u16 m.pt), .v (.bool m.j)]

structure Msg.Ok (m : Msg) : Prop where
  s : m.s < 2 ^ 64
  fee : m.fee.length ≤ 9223372036854775807
  c : m.c.length ≤ 9223372036854775807
  outs : m.outs.length ≤ 9223372036854775807
  out : ∀ x ∈ m.outs, x.c.length ≤ 9223372036854775807
  p : m.p.Ok
  tm : m.tm < 2 ^ 64
  pt : m.pt < 2 ^ 16

def hasN (k : UInt8) : Nat :=
  if k = 1 then 17 else if k = 2 then 32 else if k = 3 ∨ k = 4 then 10 else if k = 5 then 14 else if k = 6 ∨ k = 7 ∨ k = 11 then 2 else if k = 8 ∨ k = 10 then 1 else if k = 9 then 65
  else if k = 32 then 1152 else if k = 33 then 1922 else if k = 34 then 1042 else if k = 35 then 1026 else if k = 36 then 1024 else 0
def hasK (k : UInt8) : Bool := decide (hasN k ≠ 0)
def hB (k : UInt8) (c : Nat) : Bool := decide (hasN k &&& c ≠ 0)
def onlyM (m : Msg) : Msg := ⟨m.k, bif hB m.k 1024 then 0 else m.f, bif hB m.k 1024 then 0 else m.s, bif hB m.k 1024 then [] else m.fee, bif hB m.k 1 then m.t else 0, bif hB m.k 2 then m.v else 0, bif hB m.k 4 then m.o else 0,
  bif hB m.k 8 then m.n else ⟨0, by decide⟩, bif hB m.k 16 then m.c else [], bif hB m.k 32 then m.outs else [], bif hB m.k 64 then m.p else ⟨0, 0, 0, [], []⟩, bif hB m.k 128 then m.tm else 0, bif hB m.k 256 then m.pt else 0, hB m.k 512 && m.j⟩
def outB (x : Out) : Bool := decide (x.t.toNat < 200) && decide (Right x.c)
def rightM (m : Msg) : Bool :=
  hasK m.k && decide (m = onlyM m) && decide (m.f.toNat < 200 ∧ m.t.toNat < 200 ∧ m.v.toNat < 16 ∧ m.o.toNat < 16) && decide (Right m.fee ∧ Right m.c)
  && !(hB m.k 32 && (decide (m.outs.length = 0) || decide (16 < m.outs.length))) && !(hB m.k 64 && decide (m.p.k = 0)) && m.outs.all outB && rightB m.p && decide (m.tm ≤ 2 ^ 40) && decide (m.pt ≤ 10000)

theorem onlyM_ok {m : Msg} (h : m.Ok) : (onlyM m).Ok := by
  obtain ⟨h1, h2, h3, h4, h5, h6, h7, h8⟩ := h
  refine ⟨?_, ?_, ?_, ?_, fun x hx => ?_, ?_, ?_, ?_⟩
  · simp only [onlyM]; cases hB m.k 1024 <;> simp [h1]
  · simp only [onlyM]; cases hB m.k 1024 <;> simp [h2]
  · simp only [onlyM]; cases hB m.k 16 <;> simp [h3]
  · simp only [onlyM]; cases hB m.k 32 <;> simp [h4]
  · simp only [onlyM] at hx
    cases hq : hB m.k 32 <;> rw [hq] at hx
    · simp at hx
    · exact h5 x hx
  · simp only [onlyM]; cases hB m.k 64
    · simp [Pln.Ok]
    · exact h6
  · simp only [onlyM]; cases hB m.k 128 <;> simp [h7]
  · simp only [onlyM]; cases hB m.k 256 <;> simp [h8]

def outA (b : Bool) (l : List Out) : AV := bif b then .sl 2 (outsC l) l.length .shut else .sl 0 [] 0 .full
@[simp] theorem outA_yes (l : List Out) : outA true l = .sl 2 (outsC l) l.length .shut := rfl
@[simp] theorem outA_no (l : List Out) : outA false l = .sl 0 [] 0 .full := rfl
def perA (b : Bool) (l : List Per) : AV := bif b then .sl 2 (persC l) l.length .shut else .sl 0 [] 0 .full
@[simp] theorem perA_yes (l : List Per) : perA true l = .sl 2 (persC l) l.length .shut := rfl
@[simp] theorem perA_no (l : List Per) : perA false l = .sl 0 [] 0 .full := rfl

theorem binA_andN {P : Program} (t : TypeId) (xo yo : Operand) {a b : Nat} (ha : a < 4096) (hb : b < 4096) : binA P .and t xo yo (.v (.int .i64 (a : Nat))) (.v (.int .i64 (b : Nat))) = some (.v (.int .i64 ((a &&& b : Nat)))) := by
  rw [binA_and]
  have e1 : BitVec.ofInt IntKind.i64.bits (a : Int) = BitVec.ofNat 64 a := by
    apply BitVec.eq_of_toNat_eq; simp [IntKind.bits]
  have e2 : BitVec.ofInt IntKind.i64.bits (b : Int) = BitVec.ofNat 64 b := by
    apply BitVec.eq_of_toNat_eq; simp [IntKind.bits]
  have hlt : a &&& b < 4096 := Nat.lt_of_le_of_lt Nat.and_le_left ha
  have e3 : (BitVec.ofNat 64 a &&& BitVec.ofNat 64 b).toNat = a &&& b := by
    rw [BitVec.toNat_and, BitVec.toNat_ofNat, BitVec.toNat_ofNat, Nat.mod_eq_of_lt (by omega), Nat.mod_eq_of_lt (by omega)]
  have e4 : ((BitVec.ofInt IntKind.i64.bits (a : Int) &&& BitVec.ofInt IntKind.i64.bits (b : Int)).toNat : Int) = ((a &&& b : Nat) : Int) := by
    have : (BitVec.ofInt IntKind.i64.bits (a : Int) &&& BitVec.ofInt IntKind.i64.bits (b : Int)).toNat = (BitVec.ofNat 64 a &&& BitVec.ofNat 64 b).toNat := by rw [e1, e2]; rfl
    rw [this, e3]
  rw [e4, wrap_i64 _ (by omega) (by omega)]
theorem hasN_lt (k : UInt8) : hasN k < 4096 := by unfold hasN; repeat (first | decide | split)

end Go.Vm
