import Derived.Test.YtmponlabfccjaaaZ7
import Derived.Test.YtmponlabfccjaaaZ14
import Derived.Test.YtmponlabfccjaaaZ10
/-
  Pool: two that are alike; few; a deed of both; are they the same?
-/
namespace Go.Proofs.Ytmponlabfccjaaa
set_option linter.unnecessarySimpa false
set_option maxRecDepth 100000
open Go Go.Vm
set_option linter.unusedSimpArgs false
set_option linter.unusedVariables false
attribute [local simp] evalL wantedA isCall opA evalA evalAll evalsA evalOpt ofValue ofCell plain binA_eql_pn binA_neq_pn binA_gtr binA_lss binA_geq binA_leq binA_add binA_sub binA_eql binA_neq binA_orI binA_shl binA_shr binA_mul binA_quo binA_rem binA_agg_eql binA_agg_neq convA_int unA_not fieldAddrA loadA partA pickA_true pickA_false pickA_bb lenA builtinA storeA splice AV.cells AV.isCell sliceA boundA intA callOf indexAddrA newObjA buildA fillA zeroA ofCells buildSliceA indexA fieldA set_appN get_appN take_appN List.getElem?_cons_zero List.getElem?_cons_succ get_sa0 get_sa1 get_sa2 get_sa3 set_sa0 set_sa1 set_sa2 set_sa3 sliceRowA binA_eqn binA_neqn drop_mr

structure AP where
  f : UInt8
  v : Vl
  d : Dl
def AP.Ok (a : AP) : Prop := a.v.Ok ∧ a.d.Ok
def Sp (σ : St) (G : Sg) (l : List (List AV)) : St := { σ with objs := σ.objs ++ stC σ.rows.length G :: l, rows := σ.rows ++ [stR1 G, stR2 G, stR3 G] }
theorem Sp.has (σ : St) (G : Sg) (l : List (List AV)) : HasS (Sp σ G l) σ.objs.length σ.rows.length G := ⟨by simp [Sp], by simp [Sp], by simp [Sp], by simp [Sp]⟩
theorem Sp.put (σ : St) (G G' : Sg) (l : List (List AV)) : putS (Sp σ G l) σ.objs.length σ.rows.length G' = Sp σ G' l := by simp [Sp, putS]
theorem Sp.app (σ : St) (G : Sg) (l : List (List AV)) (x : List AV) : { Sp σ G l with objs := (Sp σ G l).objs ++ [x] } = Sp σ G (l ++ [x]) := by simp [Sp]
theorem Sp.len (σ : St) (G : Sg) (l : List (List AV)) : (Sp σ G l).objs.length = σ.objs.length + (1 + l.length) := by simp [Sp]; omega
theorem newSp_ok {σ : St} : CallsA Try.prog 16 [] σ (fun av σ' => av = .ptr σ.objs.length 0 ∧ σ' = Sp σ newSg []) := new_st_ok
theorem addSp_ok {σ : St} {n : Nat} {G : Sg} {W : Pw} {ow : UInt8} {r : Nat} {l : List (List AV)} (hi : PoolS G.s W n) (hn : n ≤ 1000) (hr : r < 65536) :
    CallsA Try.prog 26 [.ptr σ.objs.length 0, .v (.int .u8 ow.toNat), .v (.int .u16 r)] (Sp σ G l) (fun av σ' => ∃ G', PoolS G'.s (addP W ow r).W (n + 1) ∧ av = .tup [.v (.int .u8 ((addP W ow r).i : Nat)), .v (.int .i64 ((addP W ow r).e : Nat))] ∧ σ' = Sp σ G' l) :=
  callsA_mono (padd_ok (Sp.has σ G l) hi hn hr) (fun av σ' ⟨G', e1, e2, e3⟩ => ⟨G', e1, e2, by rw [e3, Sp.put]⟩)
theorem setDSp_ok {σ : St} {n : Nat} {G : Sg} {W : Pw} {d : Dl} {l : List (List AV)} (hi : PoolS G.s W n) (hn : n ≤ 1000) (hd : d.Ok) :
    CallsA Try.prog 38 [.ptr σ.objs.length 0, .agg (dlC d)] (Sp σ G l) (fun av σ' => ∃ G', PoolS G'.s (setDP W d).W (n + 1) ∧ av = .v (.int .i64 ((setDP W d).e : Nat)) ∧ σ' = Sp σ G' l) :=
  callsA_mono (psetD_ok (Sp.has σ G l) hi hn hd) (fun av σ' ⟨G', e1, e2, e3⟩ => ⟨G', e1, e2, by rw [e3, Sp.put]⟩)
theorem PoolS.noD {s : Sto} {W : Pw} {n : Nat} {a b : UInt8} (h : PoolS s W n) (hx : ∀ d ∈ W.D, ¬ (d.o = a ∧ d.v = b)) : getL s.l (keyD a b) = none := by
  rw [← getL_pl (keyD_p1 _ _), h.pd]
  refine getL_no (fun p hp => ?_)
  obtain ⟨d, hd, rfl⟩ := List.mem_map.1 hp
  intro e
  have e2 : keyD d.o d.v = keyD a b := e
  simp only [keyD, List.cons.injEq, and_true, true_and] at e2
  exact hx d hd e2

def n5 : Num := ⟨5, by decide⟩
def d5 : Dl := ⟨7, 1, n5, []⟩
def d50 : Dl := ⟨7, 1, Num.zero, []⟩
theorem dl_wk {a b c d e f : AV} : Wk (.agg [a, b, c, d, e, f, .sl 0 [] 0 .full]) (.agg [a, b, c, d, e, f, .sl 5 [] 0 .shut]) :=
  WkL.agg (.cons (Wk.refl _) (.cons (Wk.refl _) (.cons (Wk.refl _) (.cons (Wk.refl _) (.cons (Wk.refl _) (.cons (Wk.refl _) (.cons (Wk.nil _ _ _) .nil)))))))
set_option maxHeartbeats 1600000 in
attribute [local simp] undefA List.getElem?_cons_zero List.getElem?_cons_succ dl0C in
theorem adds11_ok {σ : St} : CallsA Try.prog 25 [] σ (fun av σ' => av = .v (.bool true) ∧ σ = σ') := by
  refine callsA_gcS ?_ rfl
  have w1 : addP pw0 1 0 = ⟨⟨[newV 0 1 0], []⟩, 0, 0⟩ := by simp [addP, rightN, pw0]
  have w2 : addP ⟨[newV 0 1 0], []⟩ 2 10000 = ⟨⟨[newV 0 1 0, newV 1 2 10000], []⟩, 1, 0⟩ := by simp [addP, rightN]
  have w3 : setDP ⟨[newV 0 1 0, newV 1 2 10000], []⟩ d5 = ⟨⟨[newV 0 1 0, newV 1 2 10000], [d5]⟩, 0, 0⟩ := by simp [setDP, d5, Go.Vm.right_nil, zD, n5, setD]
  have w4 : setDP ⟨[newV 0 1 0, newV 1 2 10000], [d5]⟩ d50 = ⟨⟨[newV 0 1 0, newV 1 2 10000], []⟩, 0, 0⟩ := by simp [setDP, d5, d50, Go.Vm.right_nil, zD, Num.zero, setD, eqD]
  have k5 : d5.Ok := by show [].length ≤ _; simp
  have k50 : d50.Ok := by show [].length ≤ _; simp
  have c1 : CallsA Try.prog 26 [.ptr σ.objs.length 0, .v (.int .u8 1), .v (.int .u16 0)] (Sp σ newSg []) (fun av σ' => ∃ G', PoolS G'.s ⟨[newV 0 1 0], []⟩ 1 ∧ av = .tup [.v (.int .u8 0), .v (.int .i64 0)] ∧ σ' = Sp σ G' []) := by
    have := addSp_ok (σ := σ) (ow := 1) (r := 0) (l := []) PoolS.nil (by omega) (by omega)
    rw [w1] at this; exact this
  have c2 : ∀ G, PoolS G.s ⟨[newV 0 1 0], []⟩ 1 → CallsA Try.prog 26 [.ptr σ.objs.length 0, .v (.int .u8 2), .v (.int .u16 10000)] (Sp σ G []) (fun av σ' => ∃ G', PoolS G'.s ⟨[newV 0 1 0, newV 1 2 10000], []⟩ 2 ∧ av = .tup [.v (.int .u8 1), .v (.int .i64 0)] ∧ σ' = Sp σ G' []) := fun G hG => by
    have := addSp_ok (σ := σ) (ow := 2) (r := 10000) (l := []) hG (by omega) (by omega)
    rw [w2] at this; exact this
  have e5 : dlC d5 = [.v (.int .u8 7), .v (.int .u8 1), .v (.int .u64 5), .v (.int .u64 0), .v (.int .u64 0), .v (.int .u64 0), .sl 5 [] 0 .shut] := by simp [dlC, d5, n5, limb, cos, coinsC]
  have e50 : dlC d50 = [.v (.int .u8 7), .v (.int .u8 1), .v (.int .u64 0), .v (.int .u64 0), .v (.int .u64 0), .v (.int .u64 0), .sl 5 [] 0 .shut] := by simp [dlC, d50, Num.zero, limb, cos, coinsC]
  have c3 : ∀ G, PoolS G.s ⟨[newV 0 1 0, newV 1 2 10000], []⟩ 2 → CallsA Try.prog 38 [.ptr σ.objs.length 0, .agg [.v (.int .u8 7), .v (.int .u8 1), .v (.int .u64 5), .v (.int .u64 0), .v (.int .u64 0), .v (.int .u64 0), .sl 0 [] 0 .full]] (Sp σ G []) (fun av σ' => ∃ G', PoolS G'.s ⟨[newV 0 1 0, newV 1 2 10000], [d5]⟩ 3 ∧ av = .v (.int .i64 0) ∧ σ' = Sp σ G' []) := fun G hG => by
    have := setDSp_ok (σ := σ) (d := d5) (l := []) hG (by omega) k5
    rw [w3, e5] at this; exact callsA_wk (.cons (Wk.refl _) (.cons dl_wk .nil)) this
  have c4 : ∀ G, PoolS G.s ⟨[newV 0 1 0, newV 1 2 10000], [d5]⟩ 3 → CallsA Try.prog 40 [.ptr σ.objs.length 0, .v (.int .u8 7), .v (.int .u8 1)] (Sp σ G []) (fun av σ' => av = .tup [.agg (dlC d5), .v (.bool true)] ∧ Sp σ G [] = σ') := fun G hG =>
    get_yes (d := d5) (Sp.has σ G []) hG.ok (by omega) Go.Vm.right_nil (hG.getD (by simp))
  have c5 : ∀ G l, PoolS G.s ⟨[newV 0 1 0, newV 1 2 10000], [d5]⟩ 3 → CallsA Try.prog 38 [.ptr σ.objs.length 0, .agg [.v (.int .u8 7), .v (.int .u8 1), .v (.int .u64 0), .v (.int .u64 0), .v (.int .u64 0), .v (.int .u64 0), .sl 0 [] 0 .full]] (Sp σ G l) (fun av σ' => ∃ G', PoolS G'.s ⟨[newV 0 1 0, newV 1 2 10000], []⟩ 4 ∧ av = .v (.int .i64 0) ∧ σ' = Sp σ G' l) := fun G l hG => by
    have := setDSp_ok (σ := σ) (d := d50) (l := l) hG (by omega) k50
    rw [w4, e50] at this; exact callsA_wk (.cons (Wk.refl _) (.cons dl_wk .nil)) this
  have c6 : ∀ G l, PoolS G.s ⟨[newV 0 1 0, newV 1 2 10000], []⟩ 4 → CallsA Try.prog 40 [.ptr σ.objs.length 0, .v (.int .u8 7), .v (.int .u8 1)] (Sp σ G l) (fun av σ' => av = .tup [.agg dl0C, .v (.bool false)] ∧ Sp σ G l = σ') := fun G l hG =>
    get_no (a := 7) (b := 1) (Sp.has σ G l) hG.ok (by omega) (hG.noD (fun d hd => absurd hd (by simp)))
  rw [e5] at c4
  have hlen := Sp.len σ
  have hapx := Sp.app σ
  have g1 : ∀ G x l, (Sp σ G (x :: l)).objs[σ.objs.length + 1]? = some x := fun G x l => by simp [Sp]
  have g2 : ∀ G x l (h2 : σ.objs.length + 1 < (Sp σ G (x :: l)).objs.length), (Sp σ G (x :: l)).objs[σ.objs.length + 1]'h2 = x := fun G x l h2 => (List.getElem?_eq_some_iff.1 (g1 G x l)).2
  have F := And.intro hlen (And.intro g1 (And.intro g2 (True.intro)))
  refine callsA_body Try.func25 rfl rfl rfl ?_; refine sr fun _ hJ2 => ?_; refine hJ2 _ _ ?_; refine sr fun _ hJ4 => ?_; refine ca (c := newSp_ok) (k := ?_); rintro _ _ ⟨rfl, rfl⟩; (repeat (first | simp [F] | simp (disch := omega) only [wC, if_pos, if_neg])); refine hJ4 _ _ ?_; refine sr fun _ hJ6 => ?_; refine ca (c := c1) (k := ?_); rintro _ _ ⟨G1, e1, rfl, rfl⟩; (repeat (first | simp [F] | simp (disch := omega) only [wC, if_pos, if_neg])); refine hJ6 _ _ ?_; refine sr fun _ hJ8 => ?_; refine ca (c := c2 G1 e1) (k := ?_); rintro _ _ ⟨G2, e2, rfl, rfl⟩; (repeat (first | simp [F] | simp (disch := omega) only [wC, if_pos, if_neg])); refine hJ8 _ _ ?_; refine sq fun K9 hK9 => ?_; refine sr fun _ hJ11 => ?_; (iterate 9 refine go2 (k := ?_)); refine ca (c := c3 G2 e2) (k := ?_); rintro _ _ ⟨G3, e3, rfl, rfl⟩; (repeat (first | simp [F] | simp (disch := omega) only [wC, if_pos, if_neg])); refine go2 (k := ?_); refine hJ11 _ _ ?_; refine cf ?_; refine run_skip ?_; refine hK9 _ _ ?_; refine sr fun _ hJ13 => ?_; refine ca (c := c4 G3 e3) (k := ?_); rintro _ _ ⟨rfl, rfl⟩; (repeat (first | simp [F] | simp (disch := omega) only [wC, if_pos, if_neg])); refine hJ13 _ _ ?_; refine sq fun K14 hK14 => ?_; refine sq fun K15 hK15 => ?_
  rw [hapx]
  refine rg' (h := fun J16 hJ16 => ?_); refine ca (c := c5 G3 _ e3) (k := ?_); rintro _ _ ⟨G4, e4, rfl, rfl⟩; (repeat (first | simp [F] | simp (disch := omega) only [wC, if_pos, if_neg])); refine hJ16 _ _ ?_; refine hK15 _ _ ?_; refine cf ?_; refine run_skip ?_; refine hK14 _ _ ?_; refine sr fun _ hJ18 => ?_; refine ca (c := c6 G4 _ e4) (k := ?_); rintro _ _ ⟨rfl, rfl⟩; (repeat (first | simp [F] | simp (disch := omega) only [wC, if_pos, if_neg])); refine hJ18 _ _ ?_; refine sr fun _ hJ20 => ?_; (iterate 6 refine go2 (k := ?_)); refine hJ20 _ _ ?_; refine ra ?_; simp only [Sp]
  exact gcr
end Go.Proofs.Ytmponlabfccjaaa

/-
  Plans: what they are, when they are right.
-/
namespace Go.Vm
open Go

structure Per where
  l : Nat
  c : List Coin
deriving DecidableEq

structure Pln where
  k : UInt8
  s : Nat
  e : Nat
  tot : List Coin
  ps : List Per
deriving DecidableEq

def perC (p : Per) : List AV := [.v (.int .u64 p.l), .sl 5 (coinsC p.c) p.c.length .shut]
def persC (l : List Per) : List AV := l.flatMap perC
@[simp] theorem persC_nil : persC [] = [] := rfl
@[simp] theorem persC_len (l : List Per) : (persC l).length = l.length * 2 := flat_length perC 2 (fun _ => rfl) l
def Pln.Ok (p : Pln) : Prop := p.s < 2 ^ 64 ∧ p.e < 2 ^ 64 ∧ p.tot.length ≤ 9223372036854775807 ∧ p.ps.length ≤ 9223372036854775807 ∧ ∀ x ∈ p.ps, x.l < 2 ^ 64 ∧ x.c.length ≤ 9223372036854775807

structure PerQ where
  i : Nat
  e : Nat
  a : List Coin

section
variable {P : Program} {z : Zone} {N : Nat} {σ : St} {ρ : Nat → AV}
end

def lenS : List Per → Nat
  | [] => 0
  | x :: l => x.l + lenS l
def sumL : List Per → List Coin → List Coin
  | [], a => a
  | x :: l, a => sumL l (cAddL a x.c)
end Go.Vm

/-
  Plans that are made of numbers: they are right.
-/
namespace Go.Vm
set_option linter.unnecessarySimpa false
set_option linter.unusedSimpArgs false
set_option linter.unusedVariables false
open Go

structure Pc where
  l : Nat
  c : List Coin
structure Mad where
  k : UInt8
  s : Nat
  n : Nat
  c : List Coin
  ps : List Pc
def Mad.Ok (m : Mad) : Prop := m.s < 2 ^ 32 ∧ m.n < 2 ^ 16 ∧ ∀ x ∈ m.ps, x.l < 2 ^ 16
def pcC (x : Pc) : List AV := [.v (.int .u16 x.l), .sl 5 (coinsC x.c) x.c.length .shut]
def pcsC (l : List Pc) : List AV := l.flatMap pcC
@[simp] theorem pcsC_nil : pcsC [] = [] := rfl
@[simp] theorem pcsC_len (l : List Pc) : (pcsC l).length = l.length * 2 := flat_length pcC 2 (fun _ => rfl) l
end Go.Vm

/-
  The laws PoolNil, PoolFull, PoolActs, PoolOf.
-/
namespace Go.Proofs.Ytmponlabfccjaaa
set_option linter.unnecessarySimpa false
set_option maxRecDepth 100000
open Go Go.Vm
set_option linter.unusedSimpArgs false
set_option linter.unusedVariables false
attribute [local simp] evalL wantedA isCall opA evalA evalAll evalsA evalOpt ofValue ofCell plain binA_eql_pn binA_neq_pn binA_gtr binA_lss binA_geq binA_leq binA_add binA_sub binA_eql binA_neq binA_orI binA_shl binA_shr binA_mul binA_quo binA_rem binA_agg_eql binA_agg_neq convA_int unA_not fieldAddrA loadA partA pickA_true pickA_false pickA_bb lenA builtinA storeA splice AV.cells AV.isCell sliceA boundA intA callOf indexAddrA newObjA buildA fillA zeroA ofCells buildSliceA indexA fieldA set_appN get_appN take_appN List.getElem?_cons_zero List.getElem?_cons_succ get_sa0 get_sa1 get_sa2 get_sa3 set_sa0 set_sa1 set_sa2 set_sa3 sliceRowA binA_eqn binA_neqn drop_mr

structure FS where
  i : Nat
  G : Sg
  W : Pw
theorem addP_full {W : Pw} {ow : UInt8} {r : Nat} (h : 16 ≤ W.V.length) : addP W ow r = ⟨W, 0, if rightN ow r then 7 else 1⟩ := by
  rw [addP]; split <;> first | rfl | (rw [if_pos h])
set_option maxHeartbeats 1600000 in
attribute [local simp] undefA List.getElem?_cons_zero List.getElem?_cons_succ in
theorem poolFull_ok {σ : St} {ow : UInt8} {r : Nat} (hr : r < 65536) :
    CallsA Try.prog 5 [.v (.int .u8 ow.toNat), .v (.int .u16 r)] σ (fun av σ' => av = .v (.bool true) ∧ σ = σ') := by
  refine callsA_gcS ?_ rfl
  have F := True.intro
  refine callsA_body Try.func5 rfl rfl rfl ?_; refine sr fun _ hJ2 => ?_; refine hJ2 _ _ ?_; refine sq fun K3 hK3 => ?_; refine sr fun _ hJ5 => ?_; refine ca (c := adds11_ok) (k := ?_); rintro _ _ ⟨rfl, rfl⟩; (repeat (first | simp [F] | simp (disch := omega) only [wC, if_pos, if_neg])); refine hJ5 _ _ ?_; refine cf ?_; refine run_skip ?_; refine hK3 _ _ ?_; refine sr fun _ hJ7 => ?_; refine ca (c := newSp_ok) (k := ?_); rintro _ _ ⟨rfl, rfl⟩; (repeat (first | simp [F] | simp (disch := omega) only [wC, if_pos, if_neg])); refine hJ7 _ _ ?_; refine sq fun K8 hK8 => ?_; refine sr fun _ hJ10 => ?_; refine hJ10 _ _ ?_; refine run_block_k ?_; refine run_loopF (X := FS) [0, 1, 5] (fun x ρ σ1 => (x.i ≤ 16) ∧ (PoolS x.G.s x.W x.i) ∧ (x.W.V.length = x.i) ∧ (ρ 6 = .v (.int .i64 x.i)) ∧ (σ1 = Sp σ x.G [])) (fun x => 16 - x.i) (⟨0, newSg, pw0⟩) ?st1 ?rd1
  case st1 =>
   refine ⟨lp, ?_, ?_, lp, lp⟩
   · exact PoolS.nil
   · rfl
  case rd1 =>
   rintro x ρ1 σ1 hF1 ⟨h1, h2, h3, h5, hσ⟩; obtain rfl := hσ.symm
   have f1 := keepL hF1
   (try simp [KeepL, F] at f1); replace F := aF h5 F; (try replace F := aF f1 F); refine sq fun K11 hK11 => ?_; refine sr fun _ hJ13 => ?_; refine hJ13 _ _ ?_; refine cs (fun c15 => ?_) (fun c15 => ?_)
   · (try exact nope c15); all_goals have c15p := c15; try simp [F] at c15p
     all_goals
      replace F := aF c15 F; try replace F := aF c15p F
      have hlt : x.i < 16 := by have h := c15; simp at h; omega
      have hP : addP x.W 1 0 = ⟨{ x.W with V := x.W.V ++ [newV (UInt8.ofNat x.W.V.length) 1 0] }, x.W.V.length, 0⟩ := by rw [addP, if_pos (by decide : rightN 1 0), if_neg (by omega)]
      have c1 : CallsA Try.prog 26 [.ptr σ.objs.length 0, .v (.int .u8 1), .v (.int .u16 0)] (Sp σ x.G []) _ := addSp_ok (σ := σ) (ow := 1) (r := 0) (l := []) h2 (by omega) (by omega)
      rw [hP, h3] at c1
      obtain ⟨W1, hW1⟩ : ∃ W1 : Pw, W1 = { x.W with V := x.W.V ++ [newV (UInt8.ofNat x.i) 1 0] } := ⟨_, rfl⟩
      simp only [← hW1] at c1
      have hl1 : W1.V.length = x.i + 1 := by rw [hW1]; simp [h3]
      have hwi : IntKind.i64.wrap ((x.i : Int) + 1) = (x.i : Int) + 1 := wrap_i64 _ (by omega) (by omega)
      have hw0 : IntKind.i64.wrap (x.i : Int) = (x.i : Int) := wrap_i64 _ (by omega) (by omega)
      replace F := aF hwi (And.intro hw0 F); refine run_skip ?_; refine hK11 _ _ ?_; refine sq fun K14 hK14 => ?_; refine run_block_k ?_; refine sr fun _ hJ16 => ?_; refine ca (c := c1) (k := ?_); rintro _ _ ⟨G1, e1, rfl, rfl⟩; (repeat (first | simp [F] | simp (disch := omega) only [wC, if_pos, if_neg])); refine hJ16 _ _ ?_; refine sr fun _ hJ18 => ?_; (iterate 4 refine go2 (k := ?_)); refine hJ18 _ _ ?_; refine cf ?_; refine run_skip ?_; refine hK14 _ _ ?_; refine rg' (h := fun J19 hJ19 => ?_); refine hJ19 _ _ ?_; refine ⟨(⟨x.i + 1, G1, W1⟩), ⟨kp, lp, ?_, ?_, lp, lp⟩, lp⟩
      · exact e1
      · exact hl1
   (try exact nope c15); all_goals have c15p := c15; try simp [F] at c15p
   all_goals
    replace F := aF c15 F; try replace F := aF c15p F
    have h16 : x.i = 16 := by have h := c15; simp at h; omega
    have c2 := addSp_ok (σ := σ) (ow := ow) (r := r) (l := []) h2 (by omega) hr
    rw [addP_full (by omega)] at c2
    obtain ⟨PE, hPE⟩ : ∃ PE, PE = if rightN ow r then 7 else 1 := ⟨_, rfl⟩
    rw [← hPE] at c2
    refine run_exit ?_; refine hK8 _ _ ?_; refine sr fun _ hJ21 => ?_; refine ca (c := c2) (k := ?_); rintro _ _ ⟨G2, e2, rfl, rfl⟩; (repeat (first | simp [F] | simp (disch := omega) only [wC, if_pos, if_neg])); refine hJ21 _ _ ?_; refine sq fun K22 hK22 => ?_; refine sr fun _ hJ24 => ?_; refine gs 40 (fun g11_2 => ?_) (fun g11_2 => ?_)
    · (try exact nope g11_2); all_goals have g11_2p := g11_2; try simp [F] at g11_2p
      all_goals
       replace F := aF g11_2 F; try replace F := aF g11_2p F
       have hR : ¬ rightN ow r := fun q => by have h := g11_2; have q1 := q.1; simp at h; omega
       rw [if_neg hR] at hPE
       replace F := aF hPE F; (iterate 2 refine no2 (k := ?_)); refine hJ24 _ _ ?_; refine ct ?_; refine sr fun _ hJ26 => ?_; refine hJ26 _ _ ?_; refine ra ?_; simp only [Sp]
       exact gcr
    (try exact nope g11_2); all_goals have g11_2p := g11_2; try simp [F] at g11_2p
    all_goals
     replace F := aF g11_2 F; try replace F := aF g11_2p F
     have ho : ow.toNat < 200 := by have h := g11_2; simp at h; omega
     (iterate 2 refine go2 (k := ?_)); refine hJ24 _ _ ?_; refine cs (fun c43 => ?_) (fun c43 => ?_)
     · (try exact nope c43); all_goals have c43p := c43; try simp [F] at c43p
       all_goals
        replace F := aF c43 F; try replace F := aF c43p F
        have hR : ¬ rightN ow r := fun q => by have h := c43; have q2 := q.2; simp at h; omega
        rw [if_neg hR] at hPE
        replace F := aF hPE F; refine sr fun _ hJ28 => ?_; refine hJ28 _ _ ?_; refine ra ?_; simp only [Sp]
        exact gcr
     (try exact nope c43); all_goals have c43p := c43; try simp [F] at c43p
     all_goals
      replace F := aF c43 F; try replace F := aF c43p F
      have hR : rightN ow r := ⟨ho, by have h := c43; simp at h; omega⟩
      rw [if_pos hR] at hPE
      have hva := vals_ok (Sp.has σ G2 []) e2 (by omega)
      have hl16 : x.W.V.length = 16 := by omega
      rw [hl16] at hva
      replace F := aF hPE F; refine run_skip ?_; refine hK22 _ _ ?_; refine sr fun _ hJ30 => ?_; refine go2 (k := ?_); refine ca (c := hva) (k := ?_); rintro _ _ ⟨rfl, rfl⟩; (repeat (first | simp [F] | simp (disch := omega) only [wC, if_pos, if_neg])); (iterate 2 refine go2 (k := ?_)); refine hJ30 _ _ ?_; refine ra ?_; simp only [Sp]
      exact gcr

section
variable {z : Zone} {P : Program} {N : Nat} {ρ : Nat → AV}
end
end Go.Proofs.Ytmponlabfccjaaa

/-
  What right plans give by a time: the plain laws.
-/
namespace Go.Vm
set_option linter.unnecessarySimpa false
set_option linter.unusedSimpArgs false
set_option linter.unusedVariables false
open Go

def PerOk (x : Per) : Prop := 0 < x.l ∧ x.l ≤ 2 ^ 16 ∧ x.c ≠ [] ∧ Right x.c ∧ ∀ d, d < 8 → amt x.c d < 2 ^ 250
structure Fine (p : Pln) : Prop where
  ok : p.Ok
  tot : Right p.tot
  kinds : p.k = 0 ∨ p.k = 1 ∨ p.k = 2 ∨ p.k = 3 ∨ p.k = 4 ∨ p.k = 5
  zero : p.k = 0 → p = ⟨0, 0, 0, [], []⟩
  even : p.k = 1 → p.s < p.e
  late : p.k = 2 → p.s = 0
  small : p.s + lenS p.ps ≤ 2 ^ 40
  pers : ∀ x ∈ p.ps, PerOk x
  steps : p.k = 3 ∨ p.k = 5 → p.e = p.s + lenS p.ps ∧ p.tot = sumL p.ps [] ∧ p.ps ≠ [] ∧ p.ps.length ≤ 16

end Go.Vm

/-
  Messages: what they are, what a kind has, when they are right.
-/
namespace Go.Vm
set_option linter.unnecessarySimpa false
set_option linter.unusedSimpArgs false
open Go

structure Out where
  t : UInt8
  c : List Coin
deriving DecidableEq
structure Msg where
  k : UInt8
  f : UInt8
  s : Nat
  fee : List Coin
  t : UInt8
  v : UInt8
  o : UInt8
  n : Num
  c : List Coin
  outs : List Out
  p : Pln
  tm : Nat
  pt : Nat
  j : Bool
deriving DecidableEq

def outC (x : Out) : List AV := [.v (.int .u8 x.t.toNat), .sl 5 (coinsC x.c) x.c.length .shut]
def outsC (l : List Out) : List AV := l.flatMap outC
@[simp] theorem outsC_nil : outsC [] = [] := rfl
@[simp] theorem outsC_len (l : List Out) : (outsC l).length = l.length * 2 := flat_length outC 2 (fun _ => rfl) l
structure Msg.Ok (m : Msg) : Prop where
  s : m.s < 2 ^ 64
  fee : m.fee.length ≤ 9223372036854775807
  c : m.c.length ≤ 9223372036854775807
  outs : m.outs.length ≤ 9223372036854775807
  out : ∀ x ∈ m.outs, x.c.length ≤ 9223372036854775807
  p : m.p.Ok
  tm : m.tm < 2 ^ 64
  pt : m.pt < 2 ^ 16

def outA (b : Bool) (l : List Out) : AV := bif b then .sl 2 (outsC l) l.length .shut else .sl 0 [] 0 .full
@[simp] theorem outA_yes (l : List Out) : outA true l = .sl 2 (outsC l) l.length .shut := rfl
@[simp] theorem outA_no (l : List Out) : outA false l = .sl 0 [] 0 .full := rfl
def perA (b : Bool) (l : List Per) : AV := bif b then .sl 2 (persC l) l.length .shut else .sl 0 [] 0 .full
@[simp] theorem perA_yes (l : List Per) : perA true l = .sl 2 (persC l) l.length .shut := rfl
@[simp] theorem perA_no (l : List Per) : perA false l = .sl 0 [] 0 .full := rfl

end Go.Vm
