import Derived.Test.YtmponlabfccjaaaZ7
import Derived.Test.YtmponlabfccjaaaZ14
import Derived.Test.YtmponlabfccjaaaZ10
/-
  Pool: two that are alike; few; a deed of both; are they the same?
-/
namespace Go.Proofs.Ytmponlabfccjaaa
set_option linter.unnecessarySimpa false
set_option maxRecDepth 100000
open Go Go.Vm
set_option linter.unusedSimpArgs false
set_option linter.unusedVariables false
attribute [local simp] evalL wantedA isCall opA evalA evalAll evalsA evalOpt ofValue ofCell plain binA_eql_pn binA_neq_pn binA_gtr binA_lss binA_geq binA_leq binA_add binA_sub binA_eql binA_neq binA_orI binA_shl binA_shr binA_mul binA_quo binA_rem binA_agg_eql binA_agg_neq convA_int unA_not fieldAddrA loadA partA pickA_true pickA_false pickA_bb lenA builtinA storeA splice AV.cells AV.isCell sliceA boundA intA callOf indexAddrA newObjA buildA fillA zeroA ofCells buildSliceA indexA fieldA set_appN get_appN take_appN List.getElem?_cons_zero List.getElem?_cons_succ get_sa0 get_sa1 get_sa2 get_sa3 set_sa0 set_sa1 set_sa2 set_sa3 sliceRowA binA_eqn binA_neqn drop_mr

set_option maxHeartbeats 1600000 in
attribute [local simp] undefA List.getElem?_cons_zero List.getElem?_cons_succ vlC cos in
theorem rsameV_ok {σ : St} {v : Vl} (hv : v.Ok) :
    CallsA Try.prog 41 [.agg (vlC v), .agg (vlC v)] σ (fun av σ' => av = .v (.bool true) ∧ σ = σ') := by
  refine callsA_gcS ?_ rfl
  have hx : ∀ τ, CallsA Try.prog 21 [.sl 5 (coinsC v.x) v.x.length .shut, .sl 5 (coinsC v.x) v.x.length .shut] τ (fun av σ' => av = .v (.bool true) ∧ τ = σ') := fun τ => by have := rsame_ok (σ := τ) (l := v.x) (m := v.x) (t1 := .shut) (t2 := .shut) hv.2.1 hv.2.1; simpa using this
  have he : ∀ τ, CallsA Try.prog 21 [.sl 5 (coinsC v.e) v.e.length .shut, .sl 5 (coinsC v.e) v.e.length .shut] τ (fun av σ' => av = .v (.bool true) ∧ τ = σ') := fun τ => by have := rsame_ok (σ := τ) (l := v.e) (m := v.e) (t1 := .shut) (t2 := .shut) hv.2.2 hv.2.2; simpa using this
  have ht := cellsEq_num v.t v.t
  have hs := cellsEq_num v.s v.s
  simp only [numA, decide_true] at ht hs
  have F := And.intro ht (And.intro hs (True.intro))
  refine callsA_body Try.func41 rfl rfl rfl ?_; refine sr fun _ hJ2 => ?_; refine hJ2 _ _ ?_; refine sr fun _ hJ4 => ?_; (iterate 29 refine go2 (k := ?_)); refine ca (c := hx _) (k := ?_); rintro _ _ ⟨rfl, rfl⟩; (repeat (first | simp [F] | simp (disch := omega) only [wC, if_pos, if_neg])); (iterate 4 refine go2 (k := ?_)); refine ca (c := he _) (k := ?_); rintro _ _ ⟨rfl, rfl⟩; (repeat (first | simp [F] | simp (disch := omega) only [wC, if_pos, if_neg])); refine hJ4 _ _ ?_; refine ra ?_; exact gcr

set_option maxHeartbeats 1600000 in
attribute [local simp] undefA List.getElem?_cons_zero List.getElem?_cons_succ dlC cos in
theorem ralikeD_ok {σ : St} {d : Dl} (hd : d.Ok) :
    CallsA Try.prog 43 [.agg (dlC d), .agg (dlC d)] σ (fun av σ' => av = .v (.bool true) ∧ σ = σ') := by
  refine callsA_gcS ?_ rfl
  have hx : ∀ τ, CallsA Try.prog 21 [.sl 5 (coinsC d.x) d.x.length .shut, .sl 5 (coinsC d.x) d.x.length .shut] τ (fun av σ' => av = .v (.bool true) ∧ τ = σ') := fun τ => by have := rsame_ok (σ := τ) (l := d.x) (m := d.x) (t1 := .shut) (t2 := .shut) hd hd; simpa using this
  have hs := cellsEq_num d.s d.s
  simp only [numA, decide_true] at hs
  have F := And.intro hs (True.intro)
  refine callsA_body Try.func43 rfl rfl rfl ?_; refine sr fun _ hJ2 => ?_; refine hJ2 _ _ ?_; refine sr fun _ hJ4 => ?_; (iterate 14 refine go2 (k := ?_)); refine ca (c := hx _) (k := ?_); rintro _ _ ⟨rfl, rfl⟩; (repeat (first | simp [F] | simp (disch := omega) only [wC, if_pos, if_neg])); refine hJ4 _ _ ?_; refine ra ?_; exact gcr

structure AP where
  f : UInt8
  v : Vl
  d : Dl
def AP.Ok (a : AP) : Prop := a.v.Ok ∧ a.d.Ok
def Sp (σ : St) (G : Sg) (l : List (List AV)) : St := { σ with objs := σ.objs ++ stC σ.rows.length G :: l, rows := σ.rows ++ [stR1 G, stR2 G, stR3 G] }
theorem Sp.has (σ : St) (G : Sg) (l : List (List AV)) : HasS (Sp σ G l) σ.objs.length σ.rows.length G := ⟨by simp [Sp], by simp [Sp], by simp [Sp], by simp [Sp]⟩
theorem Sp.put (σ : St) (G G' : Sg) (l : List (List AV)) : putS (Sp σ G l) σ.objs.length σ.rows.length G' = Sp σ G' l := by simp [Sp, putS]
theorem Sp.app (σ : St) (G : Sg) (l : List (List AV)) (x : List AV) : { Sp σ G l with objs := (Sp σ G l).objs ++ [x] } = Sp σ G (l ++ [x]) := by simp [Sp]
theorem Sp.len (σ : St) (G : Sg) (l : List (List AV)) : (Sp σ G l).objs.length = σ.objs.length + (1 + l.length) := by simp [Sp]; omega
theorem newSp_ok {σ : St} : CallsA Try.prog 16 [] σ (fun av σ' => av = .ptr σ.objs.length 0 ∧ σ' = Sp σ newSg []) := new_st_ok
theorem addSp_ok {σ : St} {n : Nat} {G : Sg} {W : Pw} {ow : UInt8} {r : Nat} {l : List (List AV)} (hi : PoolS G.s W n) (hn : n ≤ 1000) (hr : r < 65536) :
    CallsA Try.prog 26 [.ptr σ.objs.length 0, .v (.int .u8 ow.toNat), .v (.int .u16 r)] (Sp σ G l) (fun av σ' => ∃ G', PoolS G'.s (addP W ow r).W (n + 1) ∧ av = .tup [.v (.int .u8 ((addP W ow r).i : Nat)), .v (.int .i64 ((addP W ow r).e : Nat))] ∧ σ' = Sp σ G' l) :=
  callsA_mono (padd_ok (Sp.has σ G l) hi hn hr) (fun av σ' ⟨G', e1, e2, e3⟩ => ⟨G', e1, e2, by rw [e3, Sp.put]⟩)
theorem setVSp_ok {σ : St} {n : Nat} {G : Sg} {W : Pw} {v : Vl} {l : List (List AV)} (hi : PoolS G.s W n) (hn : n ≤ 1000) (hv : v.Ok) :
    CallsA Try.prog 37 [.ptr σ.objs.length 0, .agg (vlC v)] (Sp σ G l) (fun av σ' => ∃ G', PoolS G'.s (setVP W v).W (n + 1) ∧ av = .v (.int .i64 ((setVP W v).e : Nat)) ∧ σ' = Sp σ G' l) :=
  callsA_mono (psetV_ok (Sp.has σ G l) hi hn hv) (fun av σ' ⟨G', e1, e2, e3⟩ => ⟨G', e1, e2, by rw [e3, Sp.put]⟩)
theorem setDSp_ok {σ : St} {n : Nat} {G : Sg} {W : Pw} {d : Dl} {l : List (List AV)} (hi : PoolS G.s W n) (hn : n ≤ 1000) (hd : d.Ok) :
    CallsA Try.prog 38 [.ptr σ.objs.length 0, .agg (dlC d)] (Sp σ G l) (fun av σ' => ∃ G', PoolS G'.s (setDP W d).W (n + 1) ∧ av = .v (.int .i64 ((setDP W d).e : Nat)) ∧ σ' = Sp σ G' l) :=
  callsA_mono (psetD_ok (Sp.has σ G l) hi hn hd) (fun av σ' ⟨G', e1, e2, e3⟩ => ⟨G', e1, e2, by rw [e3, Sp.put]⟩)
theorem PoolS.noD {s : Sto} {W : Pw} {n : Nat} {a b : UInt8} (h : PoolS s W n) (hx : ∀ d ∈ W.D, ¬ (d.o = a ∧ d.v = b)) : getL s.l (keyD a b) = none := by
  rw [← getL_pl (keyD_p1 _ _), h.pd]
  refine getL_no (fun p hp => ?_)
  obtain ⟨d, hd, rfl⟩ := List.mem_map.1 hp
  intro e
  have e2 : keyD d.o d.v = keyD a b := e
  simp only [keyD, List.cons.injEq, and_true, true_and] at e2
  exact hx d hd e2

def n5 : Num := ⟨5, by decide⟩
def d5 : Dl := ⟨7, 1, n5, []⟩
def d50 : Dl := ⟨7, 1, Num.zero, []⟩
theorem dl_wk {a b c d e f : AV} : Wk (.agg [a, b, c, d, e, f, .sl 0 [] 0 .full]) (.agg [a, b, c, d, e, f, .sl 5 [] 0 .shut]) :=
  WkL.agg (.cons (Wk.refl _) (.cons (Wk.refl _) (.cons (Wk.refl _) (.cons (Wk.refl _) (.cons (Wk.refl _) (.cons (Wk.refl _) (.cons (Wk.nil _ _ _) .nil)))))))
set_option maxHeartbeats 1600000 in
attribute [local simp] undefA List.getElem?_cons_zero List.getElem?_cons_succ dl0C in
theorem adds11_ok {σ : St} : CallsA Try.prog 25 [] σ (fun av σ' => av = .v (.bool true) ∧ σ = σ') := by
  refine callsA_gcS ?_ rfl
  have w1 : addP pw0 1 0 = ⟨⟨[newV 0 1 0], []⟩, 0, 0⟩ := by simp [addP, rightN, pw0]
  have w2 : addP ⟨[newV 0 1 0], []⟩ 2 10000 = ⟨⟨[newV 0 1 0, newV 1 2 10000], []⟩, 1, 0⟩ := by simp [addP, rightN]
  have w3 : setDP ⟨[newV 0 1 0, newV 1 2 10000], []⟩ d5 = ⟨⟨[newV 0 1 0, newV 1 2 10000], [d5]⟩, 0, 0⟩ := by simp [setDP, d5, Go.Vm.right_nil, zD, n5, setD]
  have w4 : setDP ⟨[newV 0 1 0, newV 1 2 10000], [d5]⟩ d50 = ⟨⟨[newV 0 1 0, newV 1 2 10000], []⟩, 0, 0⟩ := by simp [setDP, d5, d50, Go.Vm.right_nil, zD, Num.zero, setD, eqD]
  have k5 : d5.Ok := by show [].length ≤ _; simp
  have k50 : d50.Ok := by show [].length ≤ _; simp
  have c1 : CallsA Try.prog 26 [.ptr σ.objs.length 0, .v (.int .u8 1), .v (.int .u16 0)] (Sp σ newSg []) (fun av σ' => ∃ G', PoolS G'.s ⟨[newV 0 1 0], []⟩ 1 ∧ av = .tup [.v (.int .u8 0), .v (.int .i64 0)] ∧ σ' = Sp σ G' []) := by
    have := addSp_ok (σ := σ) (ow := 1) (r := 0) (l := []) PoolS.nil (by omega) (by omega)
    rw [w1] at this; exact this
  have c2 : ∀ G, PoolS G.s ⟨[newV 0 1 0], []⟩ 1 → CallsA Try.prog 26 [.ptr σ.objs.length 0, .v (.int .u8 2), .v (.int .u16 10000)] (Sp σ G []) (fun av σ' => ∃ G', PoolS G'.s ⟨[newV 0 1 0, newV 1 2 10000], []⟩ 2 ∧ av = .tup [.v (.int .u8 1), .v (.int .i64 0)] ∧ σ' = Sp σ G' []) := fun G hG => by
    have := addSp_ok (σ := σ) (ow := 2) (r := 10000) (l := []) hG (by omega) (by omega)
    rw [w2] at this; exact this
  have e5 : dlC d5 = [.v (.int .u8 7), .v (.int .u8 1), .v (.int .u64 5), .v (.int .u64 0), .v (.int .u64 0), .v (.int .u64 0), .sl 5 [] 0 .shut] := by simp [dlC, d5, n5, limb, cos, coinsC]
  have e50 : dlC d50 = [.v (.int .u8 7), .v (.int .u8 1), .v (.int .u64 0), .v (.int .u64 0), .v (.int .u64 0), .v (.int .u64 0), .sl 5 [] 0 .shut] := by simp [dlC, d50, Num.zero, limb, cos, coinsC]
  have c3 : ∀ G, PoolS G.s ⟨[newV 0 1 0, newV 1 2 10000], []⟩ 2 → CallsA Try.prog 38 [.ptr σ.objs.length 0, .agg [.v (.int .u8 7), .v (.int .u8 1), .v (.int .u64 5), .v (.int .u64 0), .v (.int .u64 0), .v (.int .u64 0), .sl 0 [] 0 .full]] (Sp σ G []) (fun av σ' => ∃ G', PoolS G'.s ⟨[newV 0 1 0, newV 1 2 10000], [d5]⟩ 3 ∧ av = .v (.int .i64 0) ∧ σ' = Sp σ G' []) := fun G hG => by
    have := setDSp_ok (σ := σ) (d := d5) (l := []) hG (by omega) k5
    rw [w3, e5] at this; exact callsA_wk (.cons (Wk.refl _) (.cons dl_wk .nil)) this
  have c4 : ∀ G, PoolS G.s ⟨[newV 0 1 0, newV 1 2 10000], [d5]⟩ 3 → CallsA Try.prog 40 [.ptr σ.objs.length 0, .v (.int .u8 7), .v (.int .u8 1)] (Sp σ G []) (fun av σ' => av = .tup [.agg (dlC d5), .v (.bool true)] ∧ Sp σ G [] = σ') := fun G hG =>
    get_yes (d := d5) (Sp.has σ G []) hG.ok (by omega) Go.Vm.right_nil (hG.getD (by simp))
  have c5 : ∀ G l, PoolS G.s ⟨[newV 0 1 0, newV 1 2 10000], [d5]⟩ 3 → CallsA Try.prog 38 [.ptr σ.objs.length 0, .agg [.v (.int .u8 7), .v (.int .u8 1), .v (.int .u64 0), .v (.int .u64 0), .v (.int .u64 0), .v (.int .u64 0), .sl 0 [] 0 .full]] (Sp σ G l) (fun av σ' => ∃ G', PoolS G'.s ⟨[newV 0 1 0, newV 1 2 10000], []⟩ 4 ∧ av = .v (.int .i64 0) ∧ σ' = Sp σ G' l) := fun G l hG => by
    have := setDSp_ok (σ := σ) (d := d50) (l := l) hG (by omega) k50
    rw [w4, e50] at this; exact callsA_wk (.cons (Wk.refl _) (.cons dl_wk .nil)) this
  have c6 : ∀ G l, PoolS G.s ⟨[newV 0 1 0, newV 1 2 10000], []⟩ 4 → CallsA Try.prog 40 [.ptr σ.objs.length 0, .v (.int .u8 7), .v (.int .u8 1)] (Sp σ G l) (fun av σ' => av = .tup [.agg dl0C, .v (.bool false)] ∧ Sp σ G l = σ') := fun G l hG =>
    get_no (a := 7) (b := 1) (Sp.has σ G l) hG.ok (by omega) (hG.noD (fun d hd => absurd hd (by simp)))
  rw [e5] at c4
  have hlen := Sp.len σ
  have hapx := Sp.app σ
  have g1 : ∀ G x l, (Sp σ G (x :: l)).objs[σ.objs.length + 1]? = some x := fun G x l => by simp [Sp]
  have g2 : ∀ G x l (h2 : σ.objs.length + 1 < (Sp σ G (x :: l)).objs.length), (Sp σ G (x :: l)).objs[σ.objs.length + 1]'h2 = x := fun G x l h2 => (List.getElem?_eq_some_iff.1 (g1 G x l)).2
  have F := And.intro hlen (And.intro g1 (And.intro g2 (True.intro)))
  refine callsA_body Try.func25 rfl rfl rfl ?_; refine sr fun _ hJ2 => ?_; refine hJ2 _ _ ?_; refine sr fun _ hJ4 => ?_; refine ca (c := newSp_ok) (k := ?_); rintro _ _ ⟨rfl, rfl⟩; (repeat (first | simp [F] | simp (disch := omega) only [wC, if_pos, if_neg])); refine hJ4 _ _ ?_; refine sr fun _ hJ6 => ?_; refine ca (c := c1) (k := ?_); rintro _ _ ⟨G1, e1, rfl, rfl⟩; (repeat (first | simp [F] | simp (disch := omega) only [wC, if_pos, if_neg])); refine hJ6 _ _ ?_; refine sr fun _ hJ8 => ?_; refine ca (c := c2 G1 e1) (k := ?_); rintro _ _ ⟨G2, e2, rfl, rfl⟩; (repeat (first | simp [F] | simp (disch := omega) only [wC, if_pos, if_neg])); refine hJ8 _ _ ?_; refine sq fun K9 hK9 => ?_; refine sr fun _ hJ11 => ?_; (iterate 9 refine go2 (k := ?_)); refine ca (c := c3 G2 e2) (k := ?_); rintro _ _ ⟨G3, e3, rfl, rfl⟩; (repeat (first | simp [F] | simp (disch := omega) only [wC, if_pos, if_neg])); refine go2 (k := ?_); refine hJ11 _ _ ?_; refine cf ?_; refine run_skip ?_; refine hK9 _ _ ?_; refine sr fun _ hJ13 => ?_; refine ca (c := c4 G3 e3) (k := ?_); rintro _ _ ⟨rfl, rfl⟩; (repeat (first | simp [F] | simp (disch := omega) only [wC, if_pos, if_neg])); refine hJ13 _ _ ?_; refine sq fun K14 hK14 => ?_; refine sq fun K15 hK15 => ?_
  rw [hapx]
  refine rg' (h := fun J16 hJ16 => ?_); refine ca (c := c5 G3 _ e3) (k := ?_); rintro _ _ ⟨G4, e4, rfl, rfl⟩; (repeat (first | simp [F] | simp (disch := omega) only [wC, if_pos, if_neg])); refine hJ16 _ _ ?_; refine hK15 _ _ ?_; refine cf ?_; refine run_skip ?_; refine hK14 _ _ ?_; refine sr fun _ hJ18 => ?_; refine ca (c := c6 G4 _ e4) (k := ?_); rintro _ _ ⟨rfl, rfl⟩; (repeat (first | simp [F] | simp (disch := omega) only [wC, if_pos, if_neg])); refine hJ18 _ _ ?_; refine sr fun _ hJ20 => ?_; (iterate 6 refine go2 (k := ?_)); refine hJ20 _ _ ?_; refine ra ?_; simp only [Sp]
  exact gcr
end Go.Proofs.Ytmponlabfccjaaa

/-
  Plans: what they are, when they are right.
-/
namespace Go.Vm
open Go

structure Per where
  l : Nat
  c : List Coin
deriving DecidableEq

structure Pln where
  k : UInt8
  s : Nat
  e : Nat
  tot : List Coin
  ps : List Per
deriving DecidableEq

def perC (p : Per) : List AV := [.v (.int .u64 p.l), .sl 5 (coinsC p.c) p.c.length .shut]
def persC (l : List Per) : List AV := l.flatMap perC
@[simp] theorem persC_nil : persC [] = [] := rfl
@[simp] theorem persC_len (l : List Per) : (persC l).length = l.length * 2 := flat_length perC 2 (fun _ => rfl) l
def Pln.Ok (p : Pln) : Prop := p.s < 2 ^ 64 ∧ p.e < 2 ^ 64 ∧ p.tot.length ≤ 9223372036854775807 ∧ p.ps.length ≤ 9223372036854775807 ∧ ∀ x ∈ p.ps, x.l < 2 ^ 64 ∧ x.c.length ≤ 9223372036854775807

structure PerQ where
  i : Nat
  e : Nat
  a : List Coin

section
variable {P : Program} {z : Zone} {N : Nat} {σ : St} {ρ : Nat → AV}
end

def lenS : List Per → Nat
  | [] => 0
  | x :: l => x.l + lenS l
def sumL : List Per → List Coin → List Coin
  | [], a => a
  | x :: l, a => sumL l (cAddL a x.c)
end Go.Vm

/-
  Plans that are made of numbers: they are right.
-/
namespace Go.Vm
set_option linter.unnecessarySimpa false
set_option linter.unusedSimpArgs false
set_option linter.unusedVariables false
open Go

structure Pc where
  l : Nat
  c : List Coin
structure Mad where
  k : UInt8
  s : Nat
  n : Nat
  c : List Coin
  ps : List Pc
def Mad.Ok (m : Mad) : Prop := m.s < 2 ^ 32 ∧ m.n < 2 ^ 16 ∧ ∀ x ∈ m.ps, x.l < 2 ^ 16
def pcC (x : Pc) : List AV := [.v (.int .u16 x.l), .sl 5 (coinsC x.c) x.c.length .shut]
def pcsC (l : List Pc) : List AV := l.flatMap pcC
@[simp] theorem pcsC_nil : pcsC [] = [] := rfl
@[simp] theorem pcsC_len (l : List Pc) : (pcsC l).length = l.length * 2 := flat_length pcC 2 (fun _ => rfl) l
end Go.Vm

/-
  The laws PoolNil, PoolFull, PoolActs, PoolOf.
-/
namespace Go.Proofs.Ytmponlabfccjaaa
set_option linter.unnecessarySimpa false
set_option maxRecDepth 100000
open Go Go.Vm
set_option linter.unusedSimpArgs false
set_option linter.unusedVariables false
attribute [local simp] evalL wantedA isCall opA evalA evalAll evalsA evalOpt ofValue ofCell plain binA_eql_pn binA_neq_pn binA_gtr binA_lss binA_geq binA_leq binA_add binA_sub binA_eql binA_neq binA_orI binA_shl binA_shr binA_mul binA_quo binA_rem binA_agg_eql binA_agg_neq convA_int unA_not fieldAddrA loadA partA pickA_true pickA_false pickA_bb lenA builtinA storeA splice AV.cells AV.isCell sliceA boundA intA callOf indexAddrA newObjA buildA fillA zeroA ofCells buildSliceA indexA fieldA set_appN get_appN take_appN List.getElem?_cons_zero List.getElem?_cons_succ get_sa0 get_sa1 get_sa2 get_sa3 set_sa0 set_sa1 set_sa2 set_sa3 sliceRowA binA_eqn binA_neqn drop_mr

structure FS where
  i : Nat
  G : Sg
  W : Pw
section
variable {z : Zone} {P : Program} {N : Nat} {ρ : Nat → AV}
end
set_option maxHeartbeats 1600000 in
attribute [local simp] undefA List.getElem?_cons_zero List.getElem?_cons_succ in
theorem poolThere_ok {σ : St} {v : Vl} {d : Dl} (hv : v.Ok) (hd : d.Ok) :
    CallsA Try.prog 10 [.agg (vlC v), .agg (dlC d)] σ (fun av σ' => av = .v (.bool true) ∧ σ = σ') := by
  refine callsA_gcS ?_ rfl
  obtain ⟨v1, hv1⟩ : ∃ v1 : Vl, v1 = { v with i := 0 } := ⟨_, rfl⟩
  obtain ⟨d1, hd1⟩ : ∃ d1 : Dl, d1 = { d with v := 0 } := ⟨_, rfl⟩
  have ov : v1.Ok := by rw [hv1]; exact hv
  have od : d1.Ok := by rw [hd1]; exact hd
  obtain ⟨V1, f, hf⟩ : ∃ (V1 : Vl) (f : Nat), setVP ⟨[newV 0 5 0], []⟩ v1 = ⟨⟨[V1], []⟩, 0, f⟩ ∧ ((f = 0 ∧ V1 = v1) ∨ (f = 1 ∧ V1 = newV 0 5 0)) := by
    by_cases hR : RightV v1
    · exact ⟨v1, 0, by rw [setVP, if_pos hR, if_neg (by rw [hv1]; simp)]; rw [hv1]; rfl, .inl ⟨rfl, rfl⟩⟩
    · exact ⟨newV 0 5 0, 1, by rw [setVP, if_neg hR], .inr ⟨rfl, rfl⟩⟩
  obtain ⟨hf1, hf2⟩ := hf
  have hVi : V1.i = 0 := by rcases hf2 with ⟨_, e⟩ | ⟨_, e⟩ <;> rw [e] <;> first | rfl | rw [hv1]
  obtain ⟨D1, g, hg⟩ : ∃ (D1 : List Dl) (g : Nat), setDP ⟨[V1], []⟩ d1 = ⟨⟨[V1], D1⟩, 0, g⟩ ∧ ((g = 0 ∧ D1 = if zD d1 then [] else [d1]) ∨ (g = 1 ∧ D1 = [])) := by
    by_cases hR : d1.o.toNat < 200 ∧ Right d1.x
    · exact ⟨if zD d1 then [] else [d1], 0, by rw [setDP, if_pos hR, if_neg (by rw [hd1]; simp)]; rfl, .inl ⟨rfl, rfl⟩⟩
    · exact ⟨[], 1, by rw [setDP, if_neg hR], .inr ⟨rfl, rfl⟩⟩
  obtain ⟨hg1, hg2⟩ := hg
  obtain ⟨zb, hzb⟩ : ∃ zb, zb = zD d1 := ⟨_, rfl⟩
  rw [← hzb] at hg2
  obtain ⟨σ0, hσ0⟩ : ∃ σ0 : St, σ0 = { σ with objs := σ.objs ++ [vlC v, dlC d] } := ⟨_, rfl⟩
  obtain ⟨σ1, hσ1⟩ : ∃ σ1 : St, σ1 = { σ with objs := σ.objs ++ [vlC v1, dlC d1] } := ⟨_, rfl⟩
  have l0 : σ0.objs.length = σ.objs.length + 2 := by rw [hσ0]; simp
  have l1 : σ1.objs.length = σ.objs.length + 2 := by rw [hσ1]; simp
  have hnew : CallsA Try.prog 16 [] σ0 (fun av σ' => av = .ptr (σ.objs.length + 2) 0 ∧ σ' = Sp σ0 newSg []) := by rw [← l0]; exact newSp_ok
  have w1 : addP pw0 5 0 = ⟨⟨[newV 0 5 0], []⟩, 0, 0⟩ := by simp [addP, rightN, pw0]
  have c1 : CallsA Try.prog 26 [.ptr (σ.objs.length + 2) 0, .v (.int .u8 5), .v (.int .u16 0)] (Sp σ0 newSg []) (fun av σ' => ∃ G', PoolS G'.s ⟨[newV 0 5 0], []⟩ 1 ∧ av = .tup [.v (.int .u8 0), .v (.int .i64 0)] ∧ σ' = Sp σ0 G' []) := by
    have := addSp_ok (σ := σ0) (ow := 5) (r := 0) (l := []) PoolS.nil (by omega) (by omega)
    rw [w1, l0] at this; exact this
  have c2 : ∀ G, PoolS G.s ⟨[newV 0 5 0], []⟩ 1 → CallsA Try.prog 37 [.ptr (σ.objs.length + 2) 0, .agg (vlC v1)] (Sp σ1 G []) (fun av σ' => ∃ G', PoolS G'.s ⟨[V1], []⟩ 2 ∧ av = .v (.int .i64 (f : Nat)) ∧ σ' = Sp σ1 G' []) := fun G hG => by
    have := setVSp_ok (σ := σ1) (l := []) hG (by omega) ov
    rw [hf1, l1] at this; exact this
  have c3 : ∀ G, PoolS G.s ⟨[V1], []⟩ 2 → CallsA Try.prog 38 [.ptr (σ.objs.length + 2) 0, .agg (dlC d1)] (Sp σ1 G []) (fun av σ' => ∃ G', PoolS G'.s ⟨[V1], D1⟩ 3 ∧ av = .v (.int .i64 (g : Nat)) ∧ σ' = Sp σ1 G' []) := fun G hG => by
    have := setDSp_ok (σ := σ1) (l := []) hG (by omega) od
    rw [hg1, l1] at this; exact this
  have c4 : ∀ G, PoolS G.s ⟨[V1], D1⟩ 3 → CallsA Try.prog 39 [.ptr (σ.objs.length + 2) 0, .v (.int .u8 0)] (Sp σ1 G []) (fun av σ' => av = .tup [.agg (vlC V1), .v (.bool true)] ∧ Sp σ1 G [] = σ') := fun G hG => by
    have := val_yes (v := V1) (Sp.has σ1 G []) hG.ok (by omega) (hG.rv _ (by simp)) (hG.getV (i := 0) (by simp))
    rw [hVi, l1] at this; exact this
  obtain ⟨is, his⟩ : ∃ is : Bool, is = decide (g = 0 ∧ zb = false) := ⟨_, rfl⟩
  have c5 : ∀ G X, PoolS G.s ⟨[V1], D1⟩ 3 → CallsA Try.prog 40 [.ptr (σ.objs.length + 2) 0, .v (.int .u8 d1.o.toNat), .v (.int .u8 0)] (Sp σ1 G [X]) (fun av σ' => ∃ Z : List AV, (Z.length = 7 ∧ (∀ x, x ∈ Z → x.isCell = true) = True ∧ List.take 7 Z = Z ∧ (is = true → Z = dlC d1)) ∧ av = .tup [.agg Z, .v (.bool is)] ∧ Sp σ1 G [X] = σ') := fun G X hG => by
    have hdv : d1.v = 0 := by rw [hd1]
    by_cases hx : g = 0 ∧ zb = false
    · have hD : D1 = [d1] := by
        rcases hg2 with ⟨_, e⟩ | ⟨e, _⟩
        · rw [e, hx.2]; rfl
        · omega
      rw [hD] at hG
      have := get_yes (d := d1) (Sp.has σ1 G [X]) hG.ok (by omega) (hG.rd _ (by simp)) (hG.getD (by simp))
      rw [hdv, l1] at this
      exact callsA_mono this (fun av σ' ⟨e1, e2⟩ => ⟨dlC d1, ⟨rfl, eq_true (cellD _), rfl, fun _ => rfl⟩, by rw [e1, his, decide_eq_true hx], e2⟩)
    · have hD : D1 = [] := by
        rcases hg2 with ⟨e0, e⟩ | ⟨_, e⟩
        · have : zb = true := by cases zb <;> first | rfl | exact absurd ⟨e0, rfl⟩ hx
          rw [e, this]; rfl
        · exact e
      rw [hD] at hG
      have := get_no (a := d1.o) (b := 0) (Sp.has σ1 G [X]) hG.ok (by omega) (hG.noD (fun d hd => absurd hd (by simp)))
      rw [l1] at this
      exact callsA_mono this (fun av σ' ⟨e1, e2⟩ => ⟨dl0C, ⟨rfl, eq_true (fun x hx => by simp only [dl0C, List.mem_cons, List.not_mem_nil, or_false] at hx; rcases hx with rfl | rfl | rfl | rfl | rfl | rfl | rfl <;> rfl), rfl, fun h => by rw [his] at h; exact absurd (of_decide_eq_true h) hx⟩, by rw [e1, his, decide_eq_false hx], e2⟩)
  have hsame : V1 = v1 → ∀ τ, CallsA Try.prog 41 [.agg (vlC V1), .agg (vlC v1)] τ (fun av σ' => av = .v (.bool true) ∧ τ = σ') := fun e τ => by rw [e]; exact rsameV_ok ov
  have hlike := fun τ => ralikeD_ok (σ := τ) od
  have hzero := fun τ => zero_ok (σ := τ) (x := d1.s)
  have hzd : decide (d1.s.v = 0) = zb := by rw [hzb]; rfl
  simp only [hzd] at hzero
  have hXo : f = 1 → ∀ h2 : 1 < (vlC V1).length, (vlC V1)[1]'h2 = .v (.int .u8 5) := fun e h2 => by rcases hf2 with ⟨e1, _⟩ | ⟨_, e1⟩ <;> first | (exfalso; omega) | (subst e1; rfl)
  obtain ⟨Q, hQ⟩ : ∃ Q, Q = vlC v := ⟨_, rfl⟩
  obtain ⟨Y, hY⟩ : ∃ Y, Y = dlC d := ⟨_, rfl⟩
  obtain ⟨Q1, hQ1⟩ : ∃ Q, Q = vlC v1 := ⟨_, rfl⟩
  obtain ⟨Y1, hY1⟩ : ∃ Y, Y = dlC d1 := ⟨_, rfl⟩
  obtain ⟨X, hX⟩ : ∃ X, X = vlC V1 := ⟨_, rfl⟩
  have s1 : AV.v (.int .u8 0) :: Q.tail = Q1 := by rw [hQ, hQ1, hv1]; rfl
  have s2 : List.take 1 Y ++ AV.v (.int .u8 0) :: List.drop 2 Y = Y1 := by rw [hY, hY1, hd1]; rfl
  have a1 : Q.length = 14 := by rw [hQ]; rfl
  have a2 : Y.length = 7 := by rw [hY]; rfl
  have a3 : Q1.length = 14 := by rw [hQ1]; rfl
  have a4 : Y1.length = 7 := by rw [hY1]; rfl
  have a5 : X.length = 14 := by rw [hX]; rfl
  have b1 : List.take 14 Q1 = Q1 := List.take_of_length_le (Nat.le_of_eq a3)
  have b2 : List.take 7 Y1 = Y1 := List.take_of_length_le (Nat.le_of_eq a4)
  have b3 : List.take 14 X = X := List.take_of_length_le (Nat.le_of_eq a5)
  have q12 : ∀ h2 : 12 < Q.length, Q[12]'h2 = .sl 5 (coinsC v.x) v.x.length .shut := fun h2 => by subst hQ; rfl
  have q13 : ∀ h2 : 13 < Q.length, Q[13]'h2 = .sl 5 (coinsC v.e) v.e.length .shut := fun h2 => by subst hQ; rfl
  have y6 : ∀ h2 : 6 < Y.length, Y[6]'h2 = .sl 5 (coinsC d.x) d.x.length .shut := fun h2 => by subst hY; rfl
  have y0 : ∀ h2 : 0 < Y1.length, Y1[0]'h2 = .v (.int .u8 (d1.o.toNat : Nat)) := fun h2 => by subst hY1; rfl
  have y2 : List.take 4 (List.drop 2 Y1) = numA d1.s.v := by subst hY1; rfl
  have xc : (∀ x, x ∈ X → x.isCell = true) = True := eq_true (by rw [hX]; exact cellV _)
  simp only [AV.isCell] at xc
  rw [← hQ, ← hY] at hσ0
  rw [← hQ1, ← hY1] at hσ1
  simp only [← hQ1] at c2 hsame
  simp only [← hY1] at c3 c5 hlike
  simp only [← hX] at c4 hsame hXo
  rw [← hQ, ← hY]
  have hbk : { σ with objs := σ.objs ++ [Q, Y] } = σ0 := hσ0.symm
  have k1 : ∀ G, (Sp σ0 G []).objs[σ.objs.length]? = some Q := fun G => by rw [hσ0]; simp [Sp]
  have k2 : ∀ G, (Sp σ0 G []).objs[σ.objs.length + 1]? = some Y := fun G => by rw [hσ0]; simp [Sp]
  have k3 : ∀ (G : Sg) x, ((Sp σ0 G []).objs.set σ.objs.length x)[σ.objs.length + 1]? = some Y := fun G x => by rw [List.getElem?_set_ne (by omega)]; exact k2 G
  have hset : ∀ G, { Sp σ0 G [] with objs := ((Sp σ0 G []).objs.set σ.objs.length Q1).set (σ.objs.length + 1) Y1 } = Sp σ1 G [] := fun G => by rw [hσ0, hσ1]; simp [Sp]
  have k4 : ∀ G l, (Sp σ1 G l).objs[σ.objs.length]? = some Q1 := fun G l => by rw [hσ1]; simp [Sp]
  have k5 : ∀ G l, (Sp σ1 G l).objs[σ.objs.length + 1]? = some Y1 := fun G l => by rw [hσ1]; simp [Sp]
  have k6 : ∀ G l, (Sp σ1 G (X :: l)).objs[σ.objs.length + 3]? = some X := fun G l => by rw [hσ1]; simp [Sp]
  have k7 : ∀ G Z, (Sp σ1 G [X, Z]).objs[σ.objs.length + 4]? = some Z := fun G Z => by rw [hσ1]; simp [Sp]
  have k4' : ∀ G l (h2 : σ.objs.length < (Sp σ1 G l).objs.length), (Sp σ1 G l).objs[σ.objs.length]'h2 = Q1 := fun G l h2 => (List.getElem?_eq_some_iff.1 (k4 G l)).2
  have k5' : ∀ G l (h2 : σ.objs.length + 1 < (Sp σ1 G l).objs.length), (Sp σ1 G l).objs[σ.objs.length + 1]'h2 = Y1 := fun G l h2 => (List.getElem?_eq_some_iff.1 (k5 G l)).2
  have k6' : ∀ G l (h2 : σ.objs.length + 3 < (Sp σ1 G (X :: l)).objs.length), (Sp σ1 G (X :: l)).objs[σ.objs.length + 3]'h2 = X := fun G l h2 => (List.getElem?_eq_some_iff.1 (k6 G l)).2
  have k7' : ∀ G Z (h2 : σ.objs.length + 4 < (Sp σ1 G [X, Z]).objs.length), (Sp σ1 G [X, Z]).objs[σ.objs.length + 4]'h2 = Z := fun G Z h2 => (List.getElem?_eq_some_iff.1 (k7 G Z)).2
  have hn2 : ∀ G Z, (Sp σ1 G [X, Z]).objs.length = σ.objs.length + 5 := fun G Z => by rw [Sp.len, l1]; rfl
  have hn0 : ∀ G, (Sp σ1 G []).objs.length = σ.objs.length + 3 := fun G => by rw [Sp.len, l1]; rfl
  have hn1 : ∀ G, (Sp σ1 G [X]).objs.length = σ.objs.length + 4 := fun G => by rw [Sp.len, l1]; rfl
  have hapx := Sp.app σ1
  have hfin : ∀ G l, ∃ L r, Sp σ1 G l = { σ with objs := σ.objs ++ L, rows := σ.rows ++ r } := fun G l => by
    rw [hσ1]; exact ⟨_, _, by simp only [Sp, List.append_assoc]; rfl⟩
  have F := And.intro a1 (And.intro a2 (And.intro a3 (And.intro a4 (And.intro a5 (And.intro b1 (And.intro b2 (And.intro b3 (And.intro q12 (And.intro q13 (And.intro y6 (And.intro y0 (And.intro y2 (And.intro xc (And.intro s1 (And.intro s2 (And.intro k1 (And.intro k2 (And.intro k3 (And.intro k4 (And.intro k5 (And.intro k6 (And.intro k7 (And.intro k4' (And.intro k5' (And.intro k6' (And.intro k7' (And.intro hn0 (And.intro hn1 (And.intro hn2 (True.intro))))))))))))))))))))))))))))))
  refine callsA_body Try.func10 rfl rfl rfl ?_; refine sr fun _ hJ2 => ?_; refine hJ2 _ _ ?_; refine sq fun K3 hK3 => ?_; refine sr fun _ hJ5 => ?_; refine ca (c := adds11_ok) (k := ?_); rintro _ _ ⟨rfl, rfl⟩; (repeat (first | simp [F] | simp (disch := omega) only [wC, if_pos, if_neg])); (iterate 12 refine go2 (k := ?_)); refine hJ5 _ _ ?_; refine cs (fun c29 => ?_) (fun c29 => ?_)
  · (try exact nope c29); all_goals have c29p := c29; try simp [F] at c29p
    all_goals
     replace F := aF c29 F; (try replace F := aF c29p F); refine sr fun _ hJ7 => ?_; refine ca (c := adds11_ok) (k := ?_); rintro _ _ ⟨rfl, rfl⟩; (repeat (first | simp [F] | simp (disch := omega) only [wC, if_pos, if_neg])); refine hJ7 _ _ ?_; refine ra ?_; exact gcr
  (try exact nope c29); all_goals have c29p := c29; try simp [F] at c29p
  all_goals
   replace F := aF c29 F; (try replace F := aF c29p F); refine run_skip ?_; refine hK3 _ _ ?_; refine sq fun K8 hK8 => ?_
   rw [hbk]
   refine rg' (h := fun J9 hJ9 => ?_); refine ca (c := hnew) (k := ?_); rintro _ _ ⟨rfl, rfl⟩; (repeat (first | simp [F] | simp (disch := omega) only [wC, if_pos, if_neg])); refine hJ9 _ _ ?_; refine hK8 _ _ ?_; refine sr fun _ hJ11 => ?_; refine ca (c := c1) (k := ?_); rintro _ _ ⟨G1, e1, rfl, rfl⟩; (repeat (first | simp [F] | simp (disch := omega) only [wC, if_pos, if_neg])); refine hJ11 _ _ ?_; refine sr fun _ hJ13 => ?_; refine hJ13 _ _ ?_; refine sq fun K14 hK14 => ?_
   rw [hset]
   refine run_draw (by kernel_rfl) fun J15 hJ15 => ?_
   refine rp2 0 (k := ?_); refine rp2 1 (k := ?_); refine rp2 3 (k := ?_); refine rp2 4 (k := ?_); refine dc 2 rfl (c := c2 G1 e1) (k := ?_); rintro _ _ ⟨G2, e2, rfl, rfl⟩
   refine ⟨by first | exact fun _ _ h => h | (refine later_list [4, 3] (by kernel_rfl) (List.forall_mem_cons.2 ⟨fun _ => fact2 rfl rfl ?_, List.forall_mem_cons.2 ⟨fun _ => fact2 rfl rfl ?_, fun _ h => absurd h List.not_mem_nil⟩⟩) <;> constructor <;> first | rfl | (simp [F]; done)), ?_⟩
   (repeat (first | simp [F] | simp (disch := omega) only [wC, if_pos, if_neg])); refine dc 5 rfl (c := c3 G2 e2) (k := ?_); rintro _ _ ⟨G3, e3, rfl, rfl⟩; refine ⟨ln, ?_⟩; (repeat (first | simp [F] | simp (disch := omega) only [wC, if_pos, if_neg])); refine rp2 6 (k := ?_); refine rp2 7 (k := ?_); refine dd ?_; refine hJ15 _ _ ?_; refine hK14 _ _ ?_; refine sr fun _ hJ17 => ?_; refine ca (c := c4 G3 e3) (k := ?_); rintro _ _ ⟨rfl, rfl⟩; (repeat (first | simp [F] | simp (disch := omega) only [wC, if_pos, if_neg])); refine hJ17 _ _ ?_; refine sq fun K18 hK18 => ?_
   rw [hapx]
   refine rg' (h := fun J19 hJ19 => ?_); refine ca (c := c5 G3 X e3) (k := ?_); rintro _ _ ⟨Z, ⟨z1, z2, z3, z4⟩, rfl, rfl⟩; simp only [AV.isCell] at z2
   replace F := aF z1 (And.intro z2 (And.intro z3 F)); (repeat (first | simp [F] | simp (disch := omega) only [wC, if_pos, if_neg])); refine hJ19 _ _ ?_; refine hK18 _ _ ?_; refine sq fun K20 hK20 => ?_; refine sq fun K21 hK21 => ?_
   rw [hapx]
   refine rg' (h := fun J22 hJ22 => ?_); (iterate 5 refine go2 (k := ?_)); refine gs 70 (fun g9_9 => ?_) (fun g9_9 => ?_)
   · (try exact nope g9_9); all_goals have g9_9p := g9_9; try simp [F] at g9_9p
     all_goals
      replace F := aF g9_9 F; try replace F := aF g9_9p F
      obtain ⟨hf0, hV⟩ : f = 0 ∧ V1 = v1 := by rcases hf2 with e | ⟨e, _⟩ <;> first | exact e | (exfalso; have h := g9_9; rw [e] at h; simp at h)
      have hsm := hsame hV
      replace F := aF hf0 F; (iterate 2 refine go2 (k := ?_)); refine ca (c := hsm _) (k := ?_); rintro _ _ ⟨rfl, rfl⟩; (repeat (first | simp [F] | simp (disch := omega) only [wC, if_pos, if_neg])); (iterate 5 refine go2 (k := ?_)); refine gs 80 (fun g9_19 => ?_) (fun g9_19 => ?_)
      · (try exact nope g9_19); all_goals have g9_19p := g9_19; try simp [F] at g9_19p
        all_goals
         replace F := aF g9_19 F; (try replace F := aF g9_19p F); (iterate 3 refine go2 (k := ?_)); refine gs 83 (fun g9_22 => ?_) (fun g9_22 => ?_)
         · (try exact nope g9_22); all_goals have g9_22p := g9_22; try simp [F] at g9_22p
           all_goals
            replace F := aF g9_22 F; (try replace F := aF g9_22p F); (iterate 3 refine no2 (k := ?_)); (iterate 2 refine go2 (k := ?_)); refine hJ22 _ _ ?_; refine hK21 _ _ ?_; refine cf ?_; refine run_skip ?_; refine hK20 _ _ ?_; refine sq fun K23 hK23 => ?_; refine sr fun _ hJ25 => ?_; refine gs 92 (fun g11_2 => ?_) (fun g11_2 => ?_)
            · (try exact nope g11_2); all_goals have g11_2p := g11_2; try simp [F] at g11_2p
              all_goals
               replace F := aF g11_2 F; try replace F := aF g11_2p F
               have hg0 : g = 1 := by rcases hg2 with ⟨e, _⟩ | ⟨e, _⟩ <;> first | exact e | (exfalso; have h := g11_2; rw [e] at h; simp at h)
               have hi0 : is = false := by rw [his, decide_eq_false_iff_not]; intro q; omega
               replace F := aF hg0 (And.intro hi0 F); (iterate 3 refine no2 (k := ?_)); refine hJ25 _ _ ?_; refine ct ?_; refine sr fun _ hJ27 => ?_; refine gs 99 (fun g12_2 => ?_) (fun g12_2 => ?_)
               · (try exact nope g12_2); all_goals have g12_2p := g12_2; try simp [F] at g12_2p
                 all_goals
                  replace F := aF g12_2 F; (try replace F := aF g12_2p F); (iterate 3 refine go2 (k := ?_)); refine gs 102 (fun g12_5 => ?_) (fun g12_5 => ?_)
                  · (try exact nope g12_5); all_goals have g12_5p := g12_5; try simp [F] at g12_5p
                    all_goals
                     replace F := aF g12_5 F; (try replace F := aF g12_5p F); (iterate 2 refine no2 (k := ?_)); refine go2 (k := ?_); refine hJ27 _ _ ?_; refine ra ?_
                     obtain ⟨LL, rr, hLr⟩ := hfin G3 [X, Z]
                     rw [hLr]
                     exact gcr
                  (try exact nope g12_5); all_goals have g12_5p := g12_5; try simp [F] at g12_5p
                  all_goals
                   replace F := aF g12_5 F; (try replace F := aF g12_5p F); (iterate 3 refine go2 (k := ?_)); refine hJ27 _ _ ?_; refine ra ?_
                   obtain ⟨LL, rr, hLr⟩ := hfin G3 [X, Z]
                   rw [hLr]
                   exact gcr
               (try exact nope g12_2); all_goals have g12_2p := g12_2; try simp [F] at g12_2p
               all_goals
                replace F := aF g12_2 F; (try replace F := aF g12_2p F); (iterate 6 refine no2 (k := ?_)); refine hJ27 _ _ ?_; refine ra ?_
                obtain ⟨LL, rr, hLr⟩ := hfin G3 [X, Z]
                rw [hLr]
                exact gcr
            (try exact nope g11_2); all_goals have g11_2p := g11_2; try simp [F] at g11_2p
            all_goals
             replace F := aF g11_2 F; try replace F := aF g11_2p F
             have hg0 : g = 0 := by rcases hg2 with ⟨e, _⟩ | ⟨e, _⟩ <;> first | exact e | (exfalso; have h := g11_2; rw [e] at h; simp at h)
             replace F := aF hg0 F; (iterate 2 refine go2 (k := ?_)); refine ca (c := hzero _) (k := ?_); rintro _ _ ⟨rfl, rfl⟩; (repeat (first | simp [F] | simp (disch := omega) only [wC, if_pos, if_neg])); refine hJ25 _ _ ?_; refine cs (fun c96 => ?_) (fun c96 => ?_)
             · (try exact nope c96); all_goals have c96p := c96; try simp [F] at c96p
               all_goals
                replace F := aF c96 F; try replace F := aF c96p F
                have hz0 : zb = true := by have h := c96; simpa using h
                have hi0 : is = false := by rw [his, hz0]; simp
                replace F := aF hi0 F; refine sr fun _ hJ29 => ?_; refine gs 99 (fun g12_2 => ?_) (fun g12_2 => ?_)
                · (try exact nope g12_2); all_goals have g12_2p := g12_2; try simp [F] at g12_2p
                  all_goals
                   replace F := aF g12_2 F; (try replace F := aF g12_2p F); (iterate 3 refine go2 (k := ?_)); refine gs 102 (fun g12_5 => ?_) (fun g12_5 => ?_)
                   · (try exact nope g12_5); all_goals have g12_5p := g12_5; try simp [F] at g12_5p
                     all_goals
                      replace F := aF g12_5 F; (try replace F := aF g12_5p F); (iterate 2 refine no2 (k := ?_)); refine go2 (k := ?_); refine hJ29 _ _ ?_; refine ra ?_
                      obtain ⟨LL, rr, hLr⟩ := hfin G3 [X, Z]
                      rw [hLr]
                      exact gcr
                   (try exact nope g12_5); all_goals have g12_5p := g12_5; try simp [F] at g12_5p
                   all_goals
                    replace F := aF g12_5 F; (try replace F := aF g12_5p F); (iterate 3 refine go2 (k := ?_)); refine hJ29 _ _ ?_; refine ra ?_
                    obtain ⟨LL, rr, hLr⟩ := hfin G3 [X, Z]
                    rw [hLr]
                    exact gcr
                (try exact nope g12_2); all_goals have g12_2p := g12_2; try simp [F] at g12_2p
                all_goals
                 replace F := aF g12_2 F; (try replace F := aF g12_2p F); (iterate 6 refine no2 (k := ?_)); refine hJ29 _ _ ?_; refine ra ?_
                 obtain ⟨LL, rr, hLr⟩ := hfin G3 [X, Z]
                 rw [hLr]
                 exact gcr
             (try exact nope c96); all_goals have c96p := c96; try simp [F] at c96p
             all_goals
              replace F := aF c96 F; try replace F := aF c96p F
              have hz0 : zb = false := by have h := c96; simpa using h
              have hi0 : is = true := by rw [his, hz0, hg0]; rfl
              have hZ := z4 hi0
              replace F := aF hi0 (And.intro hZ F); refine run_skip ?_; refine hK23 _ _ ?_; refine sr fun _ hJ31 => ?_; refine gs 108 (fun g13_1 => ?_) (fun g13_1 => ?_)
              · (try exact nope g13_1); all_goals have g13_1p := g13_1; try simp [F] at g13_1p
                all_goals
                 replace F := aF g13_1 F; (try replace F := aF g13_1p F); (iterate 2 refine go2 (k := ?_)); refine ca (c := hlike _) (k := ?_); rintro _ _ ⟨rfl, rfl⟩; (repeat (first | simp [F] | simp (disch := omega) only [wC, if_pos, if_neg])); refine hJ31 _ _ ?_; refine ra ?_
                 obtain ⟨LL, rr, hLr⟩ := hfin G3 [X, Y1]
                 rw [hLr]
                 exact gcr
              (try exact nope g13_1); all_goals have g13_1p := g13_1; try simp [F] at g13_1p
              all_goals
               replace F := aF g13_1 F; (try replace F := aF g13_1p F); (iterate 3 refine no2 (k := ?_)); refine hJ31 _ _ ?_; refine ra ?_
               obtain ⟨LL, rr, hLr⟩ := hfin G3 [X, Y1]
               rw [hLr]
               exact gcr
         (try exact nope g9_22); all_goals have g9_22p := g9_22; try simp [F] at g9_22p
         all_goals
          replace F := aF g9_22 F; (try replace F := aF g9_22p F); (iterate 5 refine go2 (k := ?_)); refine hJ22 _ _ ?_; refine hK21 _ _ ?_; refine cf ?_; refine run_skip ?_; refine hK20 _ _ ?_; refine sq fun K32 hK32 => ?_; refine sr fun _ hJ34 => ?_; refine gs 92 (fun g11_2 => ?_) (fun g11_2 => ?_)
          · (try exact nope g11_2); all_goals have g11_2p := g11_2; try simp [F] at g11_2p
            all_goals
             replace F := aF g11_2 F; try replace F := aF g11_2p F
             have hg0 : g = 1 := by rcases hg2 with ⟨e, _⟩ | ⟨e, _⟩ <;> first | exact e | (exfalso; have h := g11_2; rw [e] at h; simp at h)
             have hi0 : is = false := by rw [his, decide_eq_false_iff_not]; intro q; omega
             replace F := aF hg0 (And.intro hi0 F); (iterate 3 refine no2 (k := ?_)); refine hJ34 _ _ ?_; refine ct ?_; refine sr fun _ hJ36 => ?_; refine gs 99 (fun g12_2 => ?_) (fun g12_2 => ?_)
             · (try exact nope g12_2); all_goals have g12_2p := g12_2; try simp [F] at g12_2p
               all_goals
                replace F := aF g12_2 F; (try replace F := aF g12_2p F); (iterate 3 refine go2 (k := ?_)); refine gs 102 (fun g12_5 => ?_) (fun g12_5 => ?_)
                · (try exact nope g12_5); all_goals have g12_5p := g12_5; try simp [F] at g12_5p
                  all_goals
                   replace F := aF g12_5 F; (try replace F := aF g12_5p F); (iterate 2 refine no2 (k := ?_)); refine go2 (k := ?_); refine hJ36 _ _ ?_; refine ra ?_
                   obtain ⟨LL, rr, hLr⟩ := hfin G3 [X, Z]
                   rw [hLr]
                   exact gcr
                (try exact nope g12_5); all_goals have g12_5p := g12_5; try simp [F] at g12_5p
                all_goals
                 replace F := aF g12_5 F; (try replace F := aF g12_5p F); (iterate 3 refine go2 (k := ?_)); refine hJ36 _ _ ?_; refine ra ?_
                 obtain ⟨LL, rr, hLr⟩ := hfin G3 [X, Z]
                 rw [hLr]
                 exact gcr
             (try exact nope g12_2); all_goals have g12_2p := g12_2; try simp [F] at g12_2p
             all_goals
              replace F := aF g12_2 F; (try replace F := aF g12_2p F); (iterate 6 refine no2 (k := ?_)); refine hJ36 _ _ ?_; refine ra ?_
              obtain ⟨LL, rr, hLr⟩ := hfin G3 [X, Z]
              rw [hLr]
              exact gcr
          (try exact nope g11_2); all_goals have g11_2p := g11_2; try simp [F] at g11_2p
          all_goals
           replace F := aF g11_2 F; try replace F := aF g11_2p F
           have hg0 : g = 0 := by rcases hg2 with ⟨e, _⟩ | ⟨e, _⟩ <;> first | exact e | (exfalso; have h := g11_2; rw [e] at h; simp at h)
           replace F := aF hg0 F; (iterate 2 refine go2 (k := ?_)); refine ca (c := hzero _) (k := ?_); rintro _ _ ⟨rfl, rfl⟩; (repeat (first | simp [F] | simp (disch := omega) only [wC, if_pos, if_neg])); refine hJ34 _ _ ?_; refine cs (fun c96 => ?_) (fun c96 => ?_)
           · (try exact nope c96); all_goals have c96p := c96; try simp [F] at c96p
             all_goals
              replace F := aF c96 F; try replace F := aF c96p F
              have hz0 : zb = true := by have h := c96; simpa using h
              have hi0 : is = false := by rw [his, hz0]; simp
              replace F := aF hi0 F; refine sr fun _ hJ38 => ?_; refine gs 99 (fun g12_2 => ?_) (fun g12_2 => ?_)
              · (try exact nope g12_2); all_goals have g12_2p := g12_2; try simp [F] at g12_2p
                all_goals
                 replace F := aF g12_2 F; (try replace F := aF g12_2p F); (iterate 3 refine go2 (k := ?_)); refine gs 102 (fun g12_5 => ?_) (fun g12_5 => ?_)
                 · (try exact nope g12_5); all_goals have g12_5p := g12_5; try simp [F] at g12_5p
                   all_goals
                    replace F := aF g12_5 F; (try replace F := aF g12_5p F); (iterate 2 refine no2 (k := ?_)); refine go2 (k := ?_); refine hJ38 _ _ ?_; refine ra ?_
                    obtain ⟨LL, rr, hLr⟩ := hfin G3 [X, Z]
                    rw [hLr]
                    exact gcr
                 (try exact nope g12_5); all_goals have g12_5p := g12_5; try simp [F] at g12_5p
                 all_goals
                  replace F := aF g12_5 F; (try replace F := aF g12_5p F); (iterate 3 refine go2 (k := ?_)); refine hJ38 _ _ ?_; refine ra ?_
                  obtain ⟨LL, rr, hLr⟩ := hfin G3 [X, Z]
                  rw [hLr]
                  exact gcr
              (try exact nope g12_2); all_goals have g12_2p := g12_2; try simp [F] at g12_2p
              all_goals
               replace F := aF g12_2 F; (try replace F := aF g12_2p F); (iterate 6 refine no2 (k := ?_)); refine hJ38 _ _ ?_; refine ra ?_
               obtain ⟨LL, rr, hLr⟩ := hfin G3 [X, Z]
               rw [hLr]
               exact gcr
           (try exact nope c96); all_goals have c96p := c96; try simp [F] at c96p
           all_goals
            replace F := aF c96 F; try replace F := aF c96p F
            have hz0 : zb = false := by have h := c96; simpa using h
            have hi0 : is = true := by rw [his, hz0, hg0]; rfl
            have hZ := z4 hi0
            replace F := aF hi0 (And.intro hZ F); refine run_skip ?_; refine hK32 _ _ ?_; refine sr fun _ hJ40 => ?_; refine gs 108 (fun g13_1 => ?_) (fun g13_1 => ?_)
            · (try exact nope g13_1); all_goals have g13_1p := g13_1; try simp [F] at g13_1p
              all_goals
               replace F := aF g13_1 F; (try replace F := aF g13_1p F); (iterate 2 refine go2 (k := ?_)); refine ca (c := hlike _) (k := ?_); rintro _ _ ⟨rfl, rfl⟩; (repeat (first | simp [F] | simp (disch := omega) only [wC, if_pos, if_neg])); refine hJ40 _ _ ?_; refine ra ?_
               obtain ⟨LL, rr, hLr⟩ := hfin G3 [X, Y1]
               rw [hLr]
               exact gcr
            (try exact nope g13_1); all_goals have g13_1p := g13_1; try simp [F] at g13_1p
            all_goals
             replace F := aF g13_1 F; (try replace F := aF g13_1p F); (iterate 3 refine no2 (k := ?_)); refine hJ40 _ _ ?_; refine ra ?_
             obtain ⟨LL, rr, hLr⟩ := hfin G3 [X, Y1]
             rw [hLr]
             exact gcr
      (try exact nope g9_19); all_goals have g9_19p := g9_19; try simp [F] at g9_19p
      all_goals
       replace F := aF g9_19 F; (try replace F := aF g9_19p F); (iterate 7 refine no2 (k := ?_)); refine go2 (k := ?_); refine hJ22 _ _ ?_; refine hK21 _ _ ?_; refine cf ?_; refine run_skip ?_; refine hK20 _ _ ?_; refine sq fun K41 hK41 => ?_; refine sr fun _ hJ43 => ?_; refine gs 92 (fun g11_2 => ?_) (fun g11_2 => ?_)
       · (try exact nope g11_2); all_goals have g11_2p := g11_2; try simp [F] at g11_2p
         all_goals
          replace F := aF g11_2 F; try replace F := aF g11_2p F
          have hg0 : g = 1 := by rcases hg2 with ⟨e, _⟩ | ⟨e, _⟩ <;> first | exact e | (exfalso; have h := g11_2; rw [e] at h; simp at h)
          have hi0 : is = false := by rw [his, decide_eq_false_iff_not]; intro q; omega
          replace F := aF hg0 (And.intro hi0 F); (iterate 3 refine no2 (k := ?_)); refine hJ43 _ _ ?_; refine ct ?_; refine sr fun _ hJ45 => ?_; refine gs 99 (fun g12_2 => ?_) (fun g12_2 => ?_)
          · (try exact nope g12_2); all_goals have g12_2p := g12_2; try simp [F] at g12_2p
            all_goals
             replace F := aF g12_2 F; (try replace F := aF g12_2p F); (iterate 3 refine go2 (k := ?_)); refine gs 102 (fun g12_5 => ?_) (fun g12_5 => ?_)
             · (try exact nope g12_5); all_goals have g12_5p := g12_5; try simp [F] at g12_5p
               all_goals
                replace F := aF g12_5 F; (try replace F := aF g12_5p F); (iterate 2 refine no2 (k := ?_)); refine go2 (k := ?_); refine hJ45 _ _ ?_; refine ra ?_
                obtain ⟨LL, rr, hLr⟩ := hfin G3 [X, Z]
                rw [hLr]
                exact gcr
             (try exact nope g12_5); all_goals have g12_5p := g12_5; try simp [F] at g12_5p
             all_goals
              replace F := aF g12_5 F; (try replace F := aF g12_5p F); (iterate 3 refine go2 (k := ?_)); refine hJ45 _ _ ?_; refine ra ?_
              obtain ⟨LL, rr, hLr⟩ := hfin G3 [X, Z]
              rw [hLr]
              exact gcr
          (try exact nope g12_2); all_goals have g12_2p := g12_2; try simp [F] at g12_2p
          all_goals
           replace F := aF g12_2 F; (try replace F := aF g12_2p F); (iterate 6 refine no2 (k := ?_)); refine hJ45 _ _ ?_; refine ra ?_
           obtain ⟨LL, rr, hLr⟩ := hfin G3 [X, Z]
           rw [hLr]
           exact gcr
       (try exact nope g11_2); all_goals have g11_2p := g11_2; try simp [F] at g11_2p
       all_goals
        replace F := aF g11_2 F; try replace F := aF g11_2p F
        have hg0 : g = 0 := by rcases hg2 with ⟨e, _⟩ | ⟨e, _⟩ <;> first | exact e | (exfalso; have h := g11_2; rw [e] at h; simp at h)
        replace F := aF hg0 F; (iterate 2 refine go2 (k := ?_)); refine ca (c := hzero _) (k := ?_); rintro _ _ ⟨rfl, rfl⟩; (repeat (first | simp [F] | simp (disch := omega) only [wC, if_pos, if_neg])); refine hJ43 _ _ ?_; refine cs (fun c96 => ?_) (fun c96 => ?_)
        · (try exact nope c96); all_goals have c96p := c96; try simp [F] at c96p
          all_goals
           replace F := aF c96 F; try replace F := aF c96p F
           have hz0 : zb = true := by have h := c96; simpa using h
           have hi0 : is = false := by rw [his, hz0]; simp
           replace F := aF hi0 F; refine sr fun _ hJ47 => ?_; refine gs 99 (fun g12_2 => ?_) (fun g12_2 => ?_)
           · (try exact nope g12_2); all_goals have g12_2p := g12_2; try simp [F] at g12_2p
             all_goals
              replace F := aF g12_2 F; (try replace F := aF g12_2p F); (iterate 3 refine go2 (k := ?_)); refine gs 102 (fun g12_5 => ?_) (fun g12_5 => ?_)
              · (try exact nope g12_5); all_goals have g12_5p := g12_5; try simp [F] at g12_5p
                all_goals
                 replace F := aF g12_5 F; (try replace F := aF g12_5p F); (iterate 2 refine no2 (k := ?_)); refine go2 (k := ?_); refine hJ47 _ _ ?_; refine ra ?_
                 obtain ⟨LL, rr, hLr⟩ := hfin G3 [X, Z]
                 rw [hLr]
                 exact gcr
              (try exact nope g12_5); all_goals have g12_5p := g12_5; try simp [F] at g12_5p
              all_goals
               replace F := aF g12_5 F; (try replace F := aF g12_5p F); (iterate 3 refine go2 (k := ?_)); refine hJ47 _ _ ?_; refine ra ?_
               obtain ⟨LL, rr, hLr⟩ := hfin G3 [X, Z]
               rw [hLr]
               exact gcr
           (try exact nope g12_2); all_goals have g12_2p := g12_2; try simp [F] at g12_2p
           all_goals
            replace F := aF g12_2 F; (try replace F := aF g12_2p F); (iterate 6 refine no2 (k := ?_)); refine hJ47 _ _ ?_; refine ra ?_
            obtain ⟨LL, rr, hLr⟩ := hfin G3 [X, Z]
            rw [hLr]
            exact gcr
        (try exact nope c96); all_goals have c96p := c96; try simp [F] at c96p
        all_goals
         replace F := aF c96 F; try replace F := aF c96p F
         have hz0 : zb = false := by have h := c96; simpa using h
         have hi0 : is = true := by rw [his, hz0, hg0]; rfl
         have hZ := z4 hi0
         replace F := aF hi0 (And.intro hZ F); refine run_skip ?_; refine hK41 _ _ ?_; refine sr fun _ hJ49 => ?_; refine gs 108 (fun g13_1 => ?_) (fun g13_1 => ?_)
         · (try exact nope g13_1); all_goals have g13_1p := g13_1; try simp [F] at g13_1p
           all_goals
            replace F := aF g13_1 F; (try replace F := aF g13_1p F); (iterate 2 refine go2 (k := ?_)); refine ca (c := hlike _) (k := ?_); rintro _ _ ⟨rfl, rfl⟩; (repeat (first | simp [F] | simp (disch := omega) only [wC, if_pos, if_neg])); refine hJ49 _ _ ?_; refine ra ?_
            obtain ⟨LL, rr, hLr⟩ := hfin G3 [X, Y1]
            rw [hLr]
            exact gcr
         (try exact nope g13_1); all_goals have g13_1p := g13_1; try simp [F] at g13_1p
         all_goals
          replace F := aF g13_1 F; (try replace F := aF g13_1p F); (iterate 3 refine no2 (k := ?_)); refine hJ49 _ _ ?_; refine ra ?_
          obtain ⟨LL, rr, hLr⟩ := hfin G3 [X, Y1]
          rw [hLr]
          exact gcr
   (try exact nope g9_9); all_goals have g9_9p := g9_9; try simp [F] at g9_9p
   all_goals
    replace F := aF g9_9 F; try replace F := aF g9_9p F
    have hf0 : f = 1 := by rcases hf2 with ⟨e, _⟩ | ⟨e, _⟩ <;> first | exact e | (exfalso; have h := g9_9; rw [e] at h; simp at h)
    have hxo := hXo hf0
    replace F := aF hf0 (And.intro hxo F); (iterate 4 refine no2 (k := ?_)); (iterate 4 refine go2 (k := ?_)); refine gs 80 (fun g9_19 => ?_) (fun g9_19 => ?_)
    · (try exact nope g9_19); all_goals have g9_19p := g9_19; try simp [F] at g9_19p
      all_goals
       replace F := aF g9_19 F; (try replace F := aF g9_19p F); (iterate 3 refine go2 (k := ?_)); refine gs 83 (fun g9_22 => ?_) (fun g9_22 => ?_)
       · (try exact nope g9_22); all_goals have g9_22p := g9_22; try simp [F] at g9_22p
         all_goals
          replace F := aF g9_22 F; (try replace F := aF g9_22p F); (iterate 3 refine no2 (k := ?_)); (iterate 2 refine go2 (k := ?_)); refine hJ22 _ _ ?_; refine hK21 _ _ ?_; refine cf ?_; refine run_skip ?_; refine hK20 _ _ ?_; refine sq fun K50 hK50 => ?_; refine sr fun _ hJ52 => ?_; refine gs 92 (fun g11_2 => ?_) (fun g11_2 => ?_)
          · (try exact nope g11_2); all_goals have g11_2p := g11_2; try simp [F] at g11_2p
            all_goals
             replace F := aF g11_2 F; try replace F := aF g11_2p F
             have hg0 : g = 1 := by rcases hg2 with ⟨e, _⟩ | ⟨e, _⟩ <;> first | exact e | (exfalso; have h := g11_2; rw [e] at h; simp at h)
             have hi0 : is = false := by rw [his, decide_eq_false_iff_not]; intro q; omega
             replace F := aF hg0 (And.intro hi0 F); (iterate 3 refine no2 (k := ?_)); refine hJ52 _ _ ?_; refine ct ?_; refine sr fun _ hJ54 => ?_; refine gs 99 (fun g12_2 => ?_) (fun g12_2 => ?_)
             · (try exact nope g12_2); all_goals have g12_2p := g12_2; try simp [F] at g12_2p
               all_goals
                replace F := aF g12_2 F; (try replace F := aF g12_2p F); (iterate 3 refine go2 (k := ?_)); refine gs 102 (fun g12_5 => ?_) (fun g12_5 => ?_)
                · (try exact nope g12_5); all_goals have g12_5p := g12_5; try simp [F] at g12_5p
                  all_goals
                   replace F := aF g12_5 F; (try replace F := aF g12_5p F); (iterate 2 refine no2 (k := ?_)); refine go2 (k := ?_); refine hJ54 _ _ ?_; refine ra ?_
                   obtain ⟨LL, rr, hLr⟩ := hfin G3 [X, Z]
                   rw [hLr]
                   exact gcr
                (try exact nope g12_5); all_goals have g12_5p := g12_5; try simp [F] at g12_5p
                all_goals
                 replace F := aF g12_5 F; (try replace F := aF g12_5p F); (iterate 3 refine go2 (k := ?_)); refine hJ54 _ _ ?_; refine ra ?_
                 obtain ⟨LL, rr, hLr⟩ := hfin G3 [X, Z]
                 rw [hLr]
                 exact gcr
             (try exact nope g12_2); all_goals have g12_2p := g12_2; try simp [F] at g12_2p
             all_goals
              replace F := aF g12_2 F; (try replace F := aF g12_2p F); (iterate 6 refine no2 (k := ?_)); refine hJ54 _ _ ?_; refine ra ?_
              obtain ⟨LL, rr, hLr⟩ := hfin G3 [X, Z]
              rw [hLr]
              exact gcr
          (try exact nope g11_2); all_goals have g11_2p := g11_2; try simp [F] at g11_2p
          all_goals
           replace F := aF g11_2 F; try replace F := aF g11_2p F
           have hg0 : g = 0 := by rcases hg2 with ⟨e, _⟩ | ⟨e, _⟩ <;> first | exact e | (exfalso; have h := g11_2; rw [e] at h; simp at h)
           replace F := aF hg0 F; (iterate 2 refine go2 (k := ?_)); refine ca (c := hzero _) (k := ?_); rintro _ _ ⟨rfl, rfl⟩; (repeat (first | simp [F] | simp (disch := omega) only [wC, if_pos, if_neg])); refine hJ52 _ _ ?_; refine cs (fun c96 => ?_) (fun c96 => ?_)
           · (try exact nope c96); all_goals have c96p := c96; try simp [F] at c96p
             all_goals
              replace F := aF c96 F; try replace F := aF c96p F
              have hz0 : zb = true := by have h := c96; simpa using h
              have hi0 : is = false := by rw [his, hz0]; simp
              replace F := aF hi0 F; refine sr fun _ hJ56 => ?_; refine gs 99 (fun g12_2 => ?_) (fun g12_2 => ?_)
              · (try exact nope g12_2); all_goals have g12_2p := g12_2; try simp [F] at g12_2p
                all_goals
                 replace F := aF g12_2 F; (try replace F := aF g12_2p F); (iterate 3 refine go2 (k := ?_)); refine gs 102 (fun g12_5 => ?_) (fun g12_5 => ?_)
                 · (try exact nope g12_5); all_goals have g12_5p := g12_5; try simp [F] at g12_5p
                   all_goals
                    replace F := aF g12_5 F; (try replace F := aF g12_5p F); (iterate 2 refine no2 (k := ?_)); refine go2 (k := ?_); refine hJ56 _ _ ?_; refine ra ?_
                    obtain ⟨LL, rr, hLr⟩ := hfin G3 [X, Z]
                    rw [hLr]
                    exact gcr
                 (try exact nope g12_5); all_goals have g12_5p := g12_5; try simp [F] at g12_5p
                 all_goals
                  replace F := aF g12_5 F; (try replace F := aF g12_5p F); (iterate 3 refine go2 (k := ?_)); refine hJ56 _ _ ?_; refine ra ?_
                  obtain ⟨LL, rr, hLr⟩ := hfin G3 [X, Z]
                  rw [hLr]
                  exact gcr
              (try exact nope g12_2); all_goals have g12_2p := g12_2; try simp [F] at g12_2p
              all_goals
               replace F := aF g12_2 F; (try replace F := aF g12_2p F); (iterate 6 refine no2 (k := ?_)); refine hJ56 _ _ ?_; refine ra ?_
               obtain ⟨LL, rr, hLr⟩ := hfin G3 [X, Z]
               rw [hLr]
               exact gcr
           (try exact nope c96); all_goals have c96p := c96; try simp [F] at c96p
           all_goals
            replace F := aF c96 F; try replace F := aF c96p F
            have hz0 : zb = false := by have h := c96; simpa using h
            have hi0 : is = true := by rw [his, hz0, hg0]; rfl
            have hZ := z4 hi0
            replace F := aF hi0 (And.intro hZ F); refine run_skip ?_; refine hK50 _ _ ?_; refine sr fun _ hJ58 => ?_; refine gs 108 (fun g13_1 => ?_) (fun g13_1 => ?_)
            · (try exact nope g13_1); all_goals have g13_1p := g13_1; try simp [F] at g13_1p
              all_goals
               replace F := aF g13_1 F; (try replace F := aF g13_1p F); (iterate 2 refine go2 (k := ?_)); refine ca (c := hlike _) (k := ?_); rintro _ _ ⟨rfl, rfl⟩; (repeat (first | simp [F] | simp (disch := omega) only [wC, if_pos, if_neg])); refine hJ58 _ _ ?_; refine ra ?_
               obtain ⟨LL, rr, hLr⟩ := hfin G3 [X, Y1]
               rw [hLr]
               exact gcr
            (try exact nope g13_1); all_goals have g13_1p := g13_1; try simp [F] at g13_1p
            all_goals
             replace F := aF g13_1 F; (try replace F := aF g13_1p F); (iterate 3 refine no2 (k := ?_)); refine hJ58 _ _ ?_; refine ra ?_
             obtain ⟨LL, rr, hLr⟩ := hfin G3 [X, Y1]
             rw [hLr]
             exact gcr
       (try exact nope g9_22); all_goals have g9_22p := g9_22; try simp [F] at g9_22p
       all_goals
        replace F := aF g9_22 F; (try replace F := aF g9_22p F); (iterate 5 refine go2 (k := ?_)); refine hJ22 _ _ ?_; refine hK21 _ _ ?_; refine cf ?_; refine run_skip ?_; refine hK20 _ _ ?_; refine sq fun K59 hK59 => ?_; refine sr fun _ hJ61 => ?_; refine gs 92 (fun g11_2 => ?_) (fun g11_2 => ?_)
        · (try exact nope g11_2); all_goals have g11_2p := g11_2; try simp [F] at g11_2p
          all_goals
           replace F := aF g11_2 F; try replace F := aF g11_2p F
           have hg0 : g = 1 := by rcases hg2 with ⟨e, _⟩ | ⟨e, _⟩ <;> first | exact e | (exfalso; have h := g11_2; rw [e] at h; simp at h)
           have hi0 : is = false := by rw [his, decide_eq_false_iff_not]; intro q; omega
           replace F := aF hg0 (And.intro hi0 F); (iterate 3 refine no2 (k := ?_)); refine hJ61 _ _ ?_; refine ct ?_; refine sr fun _ hJ63 => ?_; refine gs 99 (fun g12_2 => ?_) (fun g12_2 => ?_)
           · (try exact nope g12_2); all_goals have g12_2p := g12_2; try simp [F] at g12_2p
             all_goals
              replace F := aF g12_2 F; (try replace F := aF g12_2p F); (iterate 3 refine go2 (k := ?_)); refine gs 102 (fun g12_5 => ?_) (fun g12_5 => ?_)
              · (try exact nope g12_5); all_goals have g12_5p := g12_5; try simp [F] at g12_5p
                all_goals
                 replace F := aF g12_5 F; (try replace F := aF g12_5p F); (iterate 2 refine no2 (k := ?_)); refine go2 (k := ?_); refine hJ63 _ _ ?_; refine ra ?_
                 obtain ⟨LL, rr, hLr⟩ := hfin G3 [X, Z]
                 rw [hLr]
                 exact gcr
              (try exact nope g12_5); all_goals have g12_5p := g12_5; try simp [F] at g12_5p
              all_goals
               replace F := aF g12_5 F; (try replace F := aF g12_5p F); (iterate 3 refine go2 (k := ?_)); refine hJ63 _ _ ?_; refine ra ?_
               obtain ⟨LL, rr, hLr⟩ := hfin G3 [X, Z]
               rw [hLr]
               exact gcr
           (try exact nope g12_2); all_goals have g12_2p := g12_2; try simp [F] at g12_2p
           all_goals
            replace F := aF g12_2 F; (try replace F := aF g12_2p F); (iterate 6 refine no2 (k := ?_)); refine hJ63 _ _ ?_; refine ra ?_
            obtain ⟨LL, rr, hLr⟩ := hfin G3 [X, Z]
            rw [hLr]
            exact gcr
        (try exact nope g11_2); all_goals have g11_2p := g11_2; try simp [F] at g11_2p
        all_goals
         replace F := aF g11_2 F; try replace F := aF g11_2p F
         have hg0 : g = 0 := by rcases hg2 with ⟨e, _⟩ | ⟨e, _⟩ <;> first | exact e | (exfalso; have h := g11_2; rw [e] at h; simp at h)
         replace F := aF hg0 F; (iterate 2 refine go2 (k := ?_)); refine ca (c := hzero _) (k := ?_); rintro _ _ ⟨rfl, rfl⟩; (repeat (first | simp [F] | simp (disch := omega) only [wC, if_pos, if_neg])); refine hJ61 _ _ ?_; refine cs (fun c96 => ?_) (fun c96 => ?_)
         · (try exact nope c96); all_goals have c96p := c96; try simp [F] at c96p
           all_goals
            replace F := aF c96 F; try replace F := aF c96p F
            have hz0 : zb = true := by have h := c96; simpa using h
            have hi0 : is = false := by rw [his, hz0]; simp
            replace F := aF hi0 F; refine sr fun _ hJ65 => ?_; refine gs 99 (fun g12_2 => ?_) (fun g12_2 => ?_)
            · (try exact nope g12_2); all_goals have g12_2p := g12_2; try simp [F] at g12_2p
              all_goals
               replace F := aF g12_2 F; (try replace F := aF g12_2p F); (iterate 3 refine go2 (k := ?_)); refine gs 102 (fun g12_5 => ?_) (fun g12_5 => ?_)
               · (try exact nope g12_5); all_goals have g12_5p := g12_5; try simp [F] at g12_5p
                 all_goals
                  replace F := aF g12_5 F; (try replace F := aF g12_5p F); (iterate 2 refine no2 (k := ?_)); refine go2 (k := ?_); refine hJ65 _ _ ?_; refine ra ?_
                  obtain ⟨LL, rr, hLr⟩ := hfin G3 [X, Z]
                  rw [hLr]
                  exact gcr
               (try exact nope g12_5); all_goals have g12_5p := g12_5; try simp [F] at g12_5p
               all_goals
                replace F := aF g12_5 F; (try replace F := aF g12_5p F); (iterate 3 refine go2 (k := ?_)); refine hJ65 _ _ ?_; refine ra ?_
                obtain ⟨LL, rr, hLr⟩ := hfin G3 [X, Z]
                rw [hLr]
                exact gcr
            (try exact nope g12_2); all_goals have g12_2p := g12_2; try simp [F] at g12_2p
            all_goals
             replace F := aF g12_2 F; (try replace F := aF g12_2p F); (iterate 6 refine no2 (k := ?_)); refine hJ65 _ _ ?_; refine ra ?_
             obtain ⟨LL, rr, hLr⟩ := hfin G3 [X, Z]
             rw [hLr]
             exact gcr
         (try exact nope c96); all_goals have c96p := c96; try simp [F] at c96p
         all_goals
          replace F := aF c96 F; try replace F := aF c96p F
          have hz0 : zb = false := by have h := c96; simpa using h
          have hi0 : is = true := by rw [his, hz0, hg0]; rfl
          have hZ := z4 hi0
          replace F := aF hi0 (And.intro hZ F); refine run_skip ?_; refine hK59 _ _ ?_; refine sr fun _ hJ67 => ?_; refine gs 108 (fun g13_1 => ?_) (fun g13_1 => ?_)
          · (try exact nope g13_1); all_goals have g13_1p := g13_1; try simp [F] at g13_1p
            all_goals
             replace F := aF g13_1 F; (try replace F := aF g13_1p F); (iterate 2 refine go2 (k := ?_)); refine ca (c := hlike _) (k := ?_); rintro _ _ ⟨rfl, rfl⟩; (repeat (first | simp [F] | simp (disch := omega) only [wC, if_pos, if_neg])); refine hJ67 _ _ ?_; refine ra ?_
             obtain ⟨LL, rr, hLr⟩ := hfin G3 [X, Y1]
             rw [hLr]
             exact gcr
          (try exact nope g13_1); all_goals have g13_1p := g13_1; try simp [F] at g13_1p
          all_goals
           replace F := aF g13_1 F; (try replace F := aF g13_1p F); (iterate 3 refine no2 (k := ?_)); refine hJ67 _ _ ?_; refine ra ?_
           obtain ⟨LL, rr, hLr⟩ := hfin G3 [X, Y1]
           rw [hLr]
           exact gcr
    (try exact nope g9_19); all_goals have g9_19p := g9_19; try simp [F] at g9_19p
    all_goals
     replace F := aF g9_19 F; (try replace F := aF g9_19p F); (iterate 7 refine no2 (k := ?_)); refine go2 (k := ?_); refine hJ22 _ _ ?_; refine hK21 _ _ ?_; refine cf ?_; refine run_skip ?_; refine hK20 _ _ ?_; refine sq fun K68 hK68 => ?_; refine sr fun _ hJ70 => ?_; refine gs 92 (fun g11_2 => ?_) (fun g11_2 => ?_)
     · (try exact nope g11_2); all_goals have g11_2p := g11_2; try simp [F] at g11_2p
       all_goals
        replace F := aF g11_2 F; try replace F := aF g11_2p F
        have hg0 : g = 1 := by rcases hg2 with ⟨e, _⟩ | ⟨e, _⟩ <;> first | exact e | (exfalso; have h := g11_2; rw [e] at h; simp at h)
        have hi0 : is = false := by rw [his, decide_eq_false_iff_not]; intro q; omega
        replace F := aF hg0 (And.intro hi0 F); (iterate 3 refine no2 (k := ?_)); refine hJ70 _ _ ?_; refine ct ?_; refine sr fun _ hJ72 => ?_; refine gs 99 (fun g12_2 => ?_) (fun g12_2 => ?_)
        · (try exact nope g12_2); all_goals have g12_2p := g12_2; try simp [F] at g12_2p
          all_goals
           replace F := aF g12_2 F; (try replace F := aF g12_2p F); (iterate 3 refine go2 (k := ?_)); refine gs 102 (fun g12_5 => ?_) (fun g12_5 => ?_)
           · (try exact nope g12_5); all_goals have g12_5p := g12_5; try simp [F] at g12_5p
             all_goals
              replace F := aF g12_5 F; (try replace F := aF g12_5p F); (iterate 2 refine no2 (k := ?_)); refine go2 (k := ?_); refine hJ72 _ _ ?_; refine ra ?_
              obtain ⟨LL, rr, hLr⟩ := hfin G3 [X, Z]
              rw [hLr]
              exact gcr
           (try exact nope g12_5); all_goals have g12_5p := g12_5; try simp [F] at g12_5p
           all_goals
            replace F := aF g12_5 F; (try replace F := aF g12_5p F); (iterate 3 refine go2 (k := ?_)); refine hJ72 _ _ ?_; refine ra ?_
            obtain ⟨LL, rr, hLr⟩ := hfin G3 [X, Z]
            rw [hLr]
            exact gcr
        (try exact nope g12_2); all_goals have g12_2p := g12_2; try simp [F] at g12_2p
        all_goals
         replace F := aF g12_2 F; (try replace F := aF g12_2p F); (iterate 6 refine no2 (k := ?_)); refine hJ72 _ _ ?_; refine ra ?_
         obtain ⟨LL, rr, hLr⟩ := hfin G3 [X, Z]
         rw [hLr]
         exact gcr
     (try exact nope g11_2); all_goals have g11_2p := g11_2; try simp [F] at g11_2p
     all_goals
      replace F := aF g11_2 F; try replace F := aF g11_2p F
      have hg0 : g = 0 := by rcases hg2 with ⟨e, _⟩ | ⟨e, _⟩ <;> first | exact e | (exfalso; have h := g11_2; rw [e] at h; simp at h)
      replace F := aF hg0 F; (iterate 2 refine go2 (k := ?_)); refine ca (c := hzero _) (k := ?_); rintro _ _ ⟨rfl, rfl⟩; (repeat (first | simp [F] | simp (disch := omega) only [wC, if_pos, if_neg])); refine hJ70 _ _ ?_; refine cs (fun c96 => ?_) (fun c96 => ?_)
      · (try exact nope c96); all_goals have c96p := c96; try simp [F] at c96p
        all_goals
         replace F := aF c96 F; try replace F := aF c96p F
         have hz0 : zb = true := by have h := c96; simpa using h
         have hi0 : is = false := by rw [his, hz0]; simp
         replace F := aF hi0 F; refine sr fun _ hJ74 => ?_; refine gs 99 (fun g12_2 => ?_) (fun g12_2 => ?_)
         · (try exact nope g12_2); all_goals have g12_2p := g12_2; try simp [F] at g12_2p
           all_goals
            replace F := aF g12_2 F; (try replace F := aF g12_2p F); (iterate 3 refine go2 (k := ?_)); refine gs 102 (fun g12_5 => ?_) (fun g12_5 => ?_)
            · (try exact nope g12_5); all_goals have g12_5p := g12_5; try simp [F] at g12_5p
              all_goals
               replace F := aF g12_5 F; (try replace F := aF g12_5p F); (iterate 2 refine no2 (k := ?_)); refine go2 (k := ?_); refine hJ74 _ _ ?_; refine ra ?_
               obtain ⟨LL, rr, hLr⟩ := hfin G3 [X, Z]
               rw [hLr]
               exact gcr
            (try exact nope g12_5); all_goals have g12_5p := g12_5; try simp [F] at g12_5p
            all_goals
             replace F := aF g12_5 F; (try replace F := aF g12_5p F); (iterate 3 refine go2 (k := ?_)); refine hJ74 _ _ ?_; refine ra ?_
             obtain ⟨LL, rr, hLr⟩ := hfin G3 [X, Z]
             rw [hLr]
             exact gcr
         (try exact nope g12_2); all_goals have g12_2p := g12_2; try simp [F] at g12_2p
         all_goals
          replace F := aF g12_2 F; (try replace F := aF g12_2p F); (iterate 6 refine no2 (k := ?_)); refine hJ74 _ _ ?_; refine ra ?_
          obtain ⟨LL, rr, hLr⟩ := hfin G3 [X, Z]
          rw [hLr]
          exact gcr
      (try exact nope c96); all_goals have c96p := c96; try simp [F] at c96p
      all_goals
       replace F := aF c96 F; try replace F := aF c96p F
       have hz0 : zb = false := by have h := c96; simpa using h
       have hi0 : is = true := by rw [his, hz0, hg0]; rfl
       have hZ := z4 hi0
       replace F := aF hi0 (And.intro hZ F); refine run_skip ?_; refine hK68 _ _ ?_; refine sr fun _ hJ76 => ?_; refine gs 108 (fun g13_1 => ?_) (fun g13_1 => ?_)
       · (try exact nope g13_1); all_goals have g13_1p := g13_1; try simp [F] at g13_1p
         all_goals
          replace F := aF g13_1 F; (try replace F := aF g13_1p F); (iterate 2 refine go2 (k := ?_)); refine ca (c := hlike _) (k := ?_); rintro _ _ ⟨rfl, rfl⟩; (repeat (first | simp [F] | simp (disch := omega) only [wC, if_pos, if_neg])); refine hJ76 _ _ ?_; refine ra ?_
          obtain ⟨LL, rr, hLr⟩ := hfin G3 [X, Y1]
          rw [hLr]
          exact gcr
       (try exact nope g13_1); all_goals have g13_1p := g13_1; try simp [F] at g13_1p
       all_goals
        replace F := aF g13_1 F; (try replace F := aF g13_1p F); (iterate 3 refine no2 (k := ?_)); refine hJ76 _ _ ?_; refine ra ?_
        obtain ⟨LL, rr, hLr⟩ := hfin G3 [X, Y1]
        rw [hLr]
        exact gcr
end Go.Proofs.Ytmponlabfccjaaa

/-
  What right plans give by a time: the plain laws.
-/
namespace Go.Vm
set_option linter.unnecessarySimpa false
set_option linter.unusedSimpArgs false
set_option linter.unusedVariables false
open Go

def PerOk (x : Per) : Prop := 0 < x.l ∧ x.l ≤ 2 ^ 16 ∧ x.c ≠ [] ∧ Right x.c ∧ ∀ d, d < 8 → amt x.c d < 2 ^ 250
structure Fine (p : Pln) : Prop where
  ok : p.Ok
  tot : Right p.tot
  kinds : p.k = 0 ∨ p.k = 1 ∨ p.k = 2 ∨ p.k = 3 ∨ p.k = 4 ∨ p.k = 5
  zero : p.k = 0 → p = ⟨0, 0, 0, [], []⟩
  even : p.k = 1 → p.s < p.e
  late : p.k = 2 → p.s = 0
  small : p.s + lenS p.ps ≤ 2 ^ 40
  pers : ∀ x ∈ p.ps, PerOk x
  steps : p.k = 3 ∨ p.k = 5 → p.e = p.s + lenS p.ps ∧ p.tot = sumL p.ps [] ∧ p.ps ≠ [] ∧ p.ps.length ≤ 16

end Go.Vm

/-
  Messages: what they are, what a kind has, when they are right.
-/
namespace Go.Vm
set_option linter.unnecessarySimpa false
set_option linter.unusedSimpArgs false
open Go

structure Out where
  t : UInt8
  c : List Coin
deriving DecidableEq
structure Msg where
  k : UInt8
  f : UInt8
  s : Nat
  fee : List Coin
  t : UInt8
  v : UInt8
  o : UInt8
  n : Num
  c : List Coin
  outs : List Out
  p : Pln
  tm : Nat
  pt : Nat
  j : Bool
deriving DecidableEq

def outC (x : Out) : List AV := [.v (.int .u8 x.t.toNat), .sl 5 (coinsC x.c) x.c.length .shut]
def outsC (l : List Out) : List AV := l.flatMap outC
@[simp] theorem outsC_nil : outsC [] = [] := rfl
@[simp] theorem outsC_len (l : List Out) : (outsC l).length = l.length * 2 := flat_length outC 2 (fun _ => rfl) l
structure Msg.Ok (m : Msg) : Prop where
  s : m.s < 2 ^ 64
  fee : m.fee.length ≤ 9223372036854775807
  c : m.c.length ≤ 9223372036854775807
  outs : m.outs.length ≤ 9223372036854775807
  out : ∀ x ∈ m.outs, x.c.length ≤ 9223372036854775807
  p : m.p.Ok
  tm : m.tm < 2 ^ 64
  pt : m.pt < 2 ^ 16

def outA (b : Bool) (l : List Out) : AV := bif b then .sl 2 (outsC l) l.length .shut else .sl 0 [] 0 .full
@[simp] theorem outA_yes (l : List Out) : outA true l = .sl 2 (outsC l) l.length .shut := rfl
@[simp] theorem outA_no (l : List Out) : outA false l = .sl 0 [] 0 .full := rfl
def perA (b : Bool) (l : List Per) : AV := bif b then .sl 2 (persC l) l.length .shut else .sl 0 [] 0 .full
@[simp] theorem perA_yes (l : List Per) : perA true l = .sl 2 (persC l) l.length .shut := rfl
@[simp] theorem perA_no (l : List Per) : perA false l = .sl 0 [] 0 .full := rfl

end Go.Vm

/-
  Arguments: numbers, lists of coins, plans.
-/
namespace Go.Vm
set_option linter.unnecessarySimpa false
set_option linter.unusedVariables false
open Go

theorem leavesF_mono {go go' : TypeId → Option (List TypeId)} (h : ∀ t l, go t = some l → go' t = some l) : ∀ (fs : List Field) (acc ls : List TypeId), leavesF go fs acc = some ls → leavesF go' fs acc = some ls
  | [], acc, ls, e => e
  | f :: fs, acc, ls, e => by
    simp only [leavesF] at e ⊢
    split at e
    · rename_i hf
      rw [if_pos hf]
      cases hg : go f.type with
      | none => rw [hg] at e; cases e
      | some l =>
        rw [hg] at e
        rw [h _ _ hg]
        exact leavesF_mono h fs _ ls e
    · cases e

theorem leaves_succ {P : Program} : ∀ (n : Nat) (t : TypeId) (l : List TypeId), leaves P n t = some l → leaves P (n + 1) t = some l
  | 0, t, l, h => by simp [leaves] at h
  | n + 1, t, l, h => by
    have ih := leaves_succ (P := P) n
    rw [leaves] at h ⊢
    split at h
    · exact h
    · exact h
    · exact h
    · rename_i e hu
      cases hg : leaves P n e with
      | none => rw [hg] at h; cases h
      | some l' => rw [hg] at h; simp only [ih _ _ hg]; exact h
    · rename_i fs hu
      cases hg : leavesF (leaves P n) fs.toList [] with
      | none => rw [hg] at h; cases h
      | some l' => rw [hg] at h; simp only [leavesF_mono ih _ _ _ hg]; exact h
    · rename_i k e hu
      cases hg : leaves P n e with
      | none => rw [hg] at h; cases h
      | some l' => rw [hg] at h; simp only [ih _ _ hg]; exact h
    · cases h

theorem leaves_add {P : Program} {n : Nat} {t : TypeId} {l : List TypeId} (h : leaves P n t = some l) : ∀ k, leaves P (n + k) t = some l
  | 0 => h
  | k + 1 => leaves_succ _ _ _ (leaves_add h k)
theorem leaves_one {P : Program} {n m : Nat} {t : TypeId} {l l' : List TypeId} (h : leaves P n t = some l) (h' : leaves P m t = some l') : l = l' := by
  have h1 := leaves_add h m
  have h2 := leaves_add h' n
  rw [Nat.add_comm] at h2
  rw [h1] at h2
  exact Option.some.inj h2

theorem join4' {a b c d : Nat} (ha : a < 2 ^ 64) (hb : b < 2 ^ 64) (hc : c < 2 ^ 64) (hd : d < 2 ^ 64) : ∃ x, x < 2 ^ 256 ∧ limb x 0 = a ∧ limb x 1 = b ∧ limb x 2 = c ∧ limb x 3 = d := by
  refine ⟨a + 2 ^ 64 * (b + 2 ^ 64 * (c + 2 ^ 64 * d)), ?_, ?_, ?_, ?_, ?_⟩ <;> (try simp only [limb, Nat.reduceMul, Nat.reducePow]) <;> omega

theorem u64_of' {P : Program} {u : TypeId} {a : AV} (hu : P.underlying u = some (.int .u64)) (w : WC P u a) : ∃ n : Nat, n < 2 ^ 64 ∧ a = .v (.int .u64 n) := by
  cases w with
  | bool h => rw [hu] at h; cases h
  | string h _ => rw [hu] at h; cases h
  | slice h _ _ _ _ => rw [hu] at h; cases h
  | int h hw =>
    rename_i k n
    rw [hu] at h
    cases h
    have m1 : IntKind.u64.min = 0 := rfl
    have m2 : IntKind.u64.max = 18446744073709551615 := rfl
    simp [Lit.wf, m1, m2] at hw
    exact ⟨n.toNat, by omega, by congr 2; omega⟩
theorem u8_of {P : Program} {u : TypeId} {a : AV} (hu : P.underlying u = some (.int .u8)) (w : WC P u a) : ∃ b : UInt8, a = .v (.int .u8 b.toNat) := by
  cases w with
  | bool h => rw [hu] at h; cases h
  | string h _ => rw [hu] at h; cases h
  | slice h _ _ _ _ => rw [hu] at h; cases h
  | int h hw =>
    rename_i k n
    rw [hu] at h
    cases h
    have m1 : IntKind.u8.min = 0 := rfl
    have m2 : IntKind.u8.max = 255 := rfl
    simp [Lit.wf, m1, m2] at hw
    refine ⟨UInt8.ofNat n.toNat, ?_⟩
    have e : (UInt8.ofNat n.toNat).toNat = n.toNat := toNat_u8 (by omega)
    rw [e]
    congr 2; omega

theorem num_of {P : Program} {u : TypeId} {a b c d : AV} (hu : P.underlying u = some (.int .u64)) (ha : WC P u a) (hb : WC P u b) (hc : WC P u c) (hd : WC P u d) : ∃ x : Num, [a, b, c, d] = numA x.v := by
  obtain ⟨na, ga, rfl⟩ := u64_of' hu ha
  obtain ⟨nb, gb, rfl⟩ := u64_of' hu hb
  obtain ⟨nc, gc, rfl⟩ := u64_of' hu hc
  obtain ⟨nd, gd, rfl⟩ := u64_of' hu hd
  obtain ⟨x, hx, x0, x1, x2, x3⟩ := join4' ga gb gc gd
  exact ⟨⟨x, hx⟩, by simp [numA, x0, x1, x2, x3]⟩

theorem groups {P : Program} {α : Type} {f : α → List AV} {ls : List TypeId} (hl : 0 < ls.length) (hf : ∀ a, (f a).length = ls.length)
    (one : ∀ cs : List AV, cs.length = ls.length → (∀ (j : Nat) a u, cs[j]? = some a → ls[j]? = some u → WC P u a) → ∃ x, cs = f x) :
    ∀ (n : Nat) (cs : List AV), cs.length = n * ls.length → (∀ (j : Nat) a u, cs[j]? = some a → ls[j % ls.length]? = some u → WC P u a) → ∃ l : List α, l.length = n ∧ cs = l.flatMap f
  | 0, cs, h, _ => ⟨[], rfl, by simpa using h⟩
  | n + 1, cs, h, hc => by
    have hle : ls.length ≤ cs.length := by rw [h, Nat.add_mul]; omega
    obtain ⟨x, hx⟩ := one (cs.take ls.length) (by simp; omega) (fun j a u ha hu => by
      have hj : j < ls.length := (List.getElem?_eq_some_iff.1 hu).1
      rw [List.getElem?_take, if_pos hj] at ha
      exact hc j a u ha (by rw [Nat.mod_eq_of_lt hj]; exact hu))
    obtain ⟨l, hln, hl2⟩ := groups hl hf one n (cs.drop ls.length) (by rw [List.length_drop, h, Nat.add_mul]; omega) (fun j a u ha hu => by
      rw [List.getElem?_drop] at ha
      exact hc (ls.length + j) a u ha (by rw [Nat.add_mod_left]; exact hu))
    exact ⟨x :: l, by simp [hln], by rw [List.flatMap_cons, ← hx, ← hl2, List.take_append_drop]⟩

theorem coins_of {P : Program} {t e tb u : TypeId} {k : Nat} {a : AV} (ht : P.underlying t = some (.slice e)) (hle : leaves P k e = some [tb, u, u, u, u]) (hb : P.underlying tb = some (.int .u8)) (hu : P.underlying u = some (.int .u64)) (w : WC P t a) : ∃ L : List Coin, a = .sl 5 (coinsC L) L.length .shut := by
  cases w with
  | bool h => rw [ht] at h; cases h
  | string h _ => rw [ht] at h; cases h
  | int h _ => rw [ht] at h; cases h
  | slice h hls hl hn hc =>
    rw [ht] at h
    cases h
    rename_i fuel ls cs n
    obtain rfl := leaves_one hle hls
    obtain ⟨L, hL, rfl⟩ := groups (f := coinC) (ls := [tb, u, u, u, u]) (by simp) (fun _ => rfl) (fun cs h1 h2 => by
      obtain ⟨a0, a1, a2, a3, a4, rfl⟩ : ∃ a0 a1 a2 a3 a4, cs = [a0, a1, a2, a3, a4] := by
        match cs, h1 with
        | [a0, a1, a2, a3, a4], _ => exact ⟨a0, a1, a2, a3, a4, rfl⟩
      obtain ⟨b, hb⟩ := u8_of hb (h2 0 a0 tb rfl rfl)
      obtain ⟨x, hx⟩ := num_of hu (h2 1 a1 u rfl rfl) (h2 2 a2 u rfl rfl) (h2 3 a3 u rfl rfl) (h2 4 a4 u rfl rfl)
      exact ⟨⟨b, x⟩, by rw [hb, hx]; rfl⟩) n cs hl hc
    exact ⟨L, by rw [← hL]; rfl⟩

theorem wc_len {P : Program} {t : TypeId} {sz n : Nat} {cs : List AV} {tl : Tail} (w : WC P t (.sl sz cs n tl)) : n ≤ 9223372036854775807 := by
  generalize hx : AV.sl sz cs n tl = x at w
  cases w with
  | bool h => cases hx
  | string h _ => cases hx
  | int h _ => cases hx
  | slice h hls hl hn hc => cases hx; exact hn

theorem u16_of {P : Program} {u : TypeId} {a : AV} (hu : P.underlying u = some (.int .u16)) (w : WC P u a) : ∃ n : Nat, n < 2 ^ 16 ∧ a = .v (.int .u16 n) := by
  cases w with
  | bool h => rw [hu] at h; cases h
  | string h _ => rw [hu] at h; cases h
  | slice h _ _ _ _ => rw [hu] at h; cases h
  | int h hw =>
    rename_i k n
    rw [hu] at h
    cases h
    have m1 : IntKind.u16.min = 0 := rfl
    have m2 : IntKind.u16.max = 65535 := rfl
    simp [Lit.wf, m1, m2] at hw
    exact ⟨n.toNat, by omega, by congr 2; omega⟩
theorem bool_of {P : Program} {u : TypeId} {a : AV} (hu : P.underlying u = some .bool) (w : WC P u a) : ∃ b : Bool, a = .v (.bool b) := by
  cases w with
  | int h _ => rw [hu] at h; cases h
  | string h _ => rw [hu] at h; cases h
  | slice h _ _ _ _ => rw [hu] at h; cases h
  | bool h => exact ⟨_, rfl⟩
end Go.Vm

/-
  Arguments: validators, delegations, deeds of both.
-/
namespace Go.Proofs.Ytmponlabfccjaaa
set_option linter.unnecessarySimpa false
set_option maxRecDepth 100000
open Go Go.Vm
set_option linter.unusedSimpArgs false
set_option linter.unusedVariables false
attribute [local simp] evalL wantedA isCall opA evalA evalAll evalsA evalOpt ofValue ofCell plain binA_eql_pn binA_neq_pn binA_gtr binA_lss binA_geq binA_leq binA_add binA_sub binA_eql binA_neq binA_orI binA_shl binA_shr binA_mul binA_quo binA_rem binA_agg_eql binA_agg_neq convA_int unA_not fieldAddrA loadA partA pickA_true pickA_false pickA_bb lenA builtinA storeA splice AV.cells AV.isCell sliceA boundA intA callOf indexAddrA newObjA buildA fillA zeroA ofCells buildSliceA indexA fieldA set_appN get_appN take_appN List.getElem?_cons_zero List.getElem?_cons_succ get_sa0 get_sa1 get_sa2 get_sa3 set_sa0 set_sa1 set_sa2 set_sa3 sliceRowA binA_eqn binA_neqn drop_mr

theorem vl_cells {P : Program} {k2 : Nat} {u b s t c ec : TypeId} {a0 a1 a2 a3 a4 a5 a6 a7 a8 a9 a10 a11 a12 a13 : AV} (hu : P.underlying u = some (.int .u64)) (hb : P.underlying b = some (.int .u8)) (hs : P.underlying s = some (.int .u16)) (ht : P.underlying t = some .bool) (hc : P.underlying c = some (.slice ec)) (hlc : leaves P k2 ec = some [b, u, u, u, u]) (h0 : WC P b a0) (h1 : WC P b a1) (h2 : WC P s a2) (h3 : WC P t a3) (h4 : WC P u a4) (h5 : WC P u a5) (h6 : WC P u a6) (h7 : WC P u a7) (h8 : WC P u a8) (h9 : WC P u a9) (h10 : WC P u a10) (h11 : WC P u a11) (h12 : WC P c a12) (h13 : WC P c a13) : ∃ e : Vl, [a0, a1, a2, a3, a4, a5, a6, a7, a8, a9, a10, a11, a12, a13] = vlC e ∧ e.Ok := by
  obtain ⟨x0, rfl⟩ := u8_of hb h0
  obtain ⟨x1, rfl⟩ := u8_of hb h1
  obtain ⟨x2, q2, rfl⟩ := u16_of hs h2
  obtain ⟨x3, rfl⟩ := bool_of ht h3
  obtain ⟨f, hf⟩ := num_of hu h4 h5 h6 h7
  obtain ⟨g, hg⟩ := num_of hu h8 h9 h10 h11
  obtain ⟨L, hL⟩ := coins_of hc hlc hb hu h12
  obtain ⟨M, hM⟩ := coins_of hc hlc hb hu h13
  subst hL hM
  simp only [numA, List.cons.injEq, and_true] at hf hg
  obtain ⟨rfl, rfl, rfl, rfl⟩ := hf
  obtain ⟨rfl, rfl, rfl, rfl⟩ := hg
  exact ⟨⟨x0, x1, x2, x3, f, g, L, M⟩, rfl, by omega, wc_len h12, wc_len h13⟩

theorem dl_cells {P : Program} {k2 : Nat} {u b s t c ec : TypeId} {a0 a1 a2 a3 a4 a5 a6 : AV} (hu : P.underlying u = some (.int .u64)) (hb : P.underlying b = some (.int .u8)) (hs : P.underlying s = some (.int .u16)) (ht : P.underlying t = some .bool) (hc : P.underlying c = some (.slice ec)) (hlc : leaves P k2 ec = some [b, u, u, u, u]) (h0 : WC P b a0) (h1 : WC P b a1) (h2 : WC P u a2) (h3 : WC P u a3) (h4 : WC P u a4) (h5 : WC P u a5) (h6 : WC P c a6) : ∃ e : Dl, [a0, a1, a2, a3, a4, a5, a6] = dlC e ∧ e.Ok := by
  obtain ⟨x0, rfl⟩ := u8_of hb h0
  obtain ⟨x1, rfl⟩ := u8_of hb h1
  obtain ⟨f, hf⟩ := num_of hu h2 h3 h4 h5
  obtain ⟨L, hL⟩ := coins_of hc hlc hb hu h6
  subst hL
  simp only [numA, List.cons.injEq, and_true] at hf
  obtain ⟨rfl, rfl, rfl, rfl⟩ := hf
  exact ⟨⟨x0, x1, f, L⟩, rfl, wc_len h6⟩

theorem vl_arg {P : Program} {k2 : Nat} {u b s t c ec : TypeId} {n : Nat} {ty : TypeId} {H : Type} {enc : TypeId × Value → H} {W : World} {spare : Nat → Bool} {cs : Array Value} {d : DataW H} {ps : List MemPlace} (hl : leaves P n ty = some [b, b, s, t, u, u, u, u, u, u, u, u, c, c]) (hu : P.underlying u = some (.int .u64)) (hb : P.underlying b = some (.int .u8)) (hs : P.underlying s = some (.int .u16)) (ht : P.underlying t = some .bool) (hc : P.underlying c = some (.slice ec)) (hlc : leaves P k2 ec = some [b, u, u, u, u])
    (h : DataW.Trod enc P W 0 spare true ty (.agg cs) d ps) : ∃ e : Vl, e.Ok ∧ AVR (atFirst W) W (.agg cs) (.agg (vlC e)) := by
  obtain ⟨l, h1, h2, h3, h4⟩ := open_arg hl h
  have hc9 : Value.cells (.agg cs) = cs := rfl
  rw [hc9] at h2 h3
  match l, h1, h2, h3, h4 with
  | [a0, a1, a2, a3, a4, a5, a6, a7, a8, a9, a10, a11, a12, a13], _, h2, h3, h4 =>
    obtain ⟨e, he, ho⟩ := vl_cells hu hb hs ht hc hlc (h4 0 a0 _ rfl rfl) (h4 1 a1 _ rfl rfl) (h4 2 a2 _ rfl rfl) (h4 3 a3 _ rfl rfl) (h4 4 a4 _ rfl rfl) (h4 5 a5 _ rfl rfl) (h4 6 a6 _ rfl rfl) (h4 7 a7 _ rfl rfl) (h4 8 a8 _ rfl rfl) (h4 9 a9 _ rfl rfl) (h4 10 a10 _ rfl rfl) (h4 11 a11 _ rfl rfl) (h4 12 a12 _ rfl rfl) (h4 13 a13 _ rfl rfl)
    rw [he] at h2 h3
    exact ⟨e, ho, .agg h2 h3⟩

theorem dl_arg {P : Program} {k2 : Nat} {u b s t c ec : TypeId} {n : Nat} {ty : TypeId} {H : Type} {enc : TypeId × Value → H} {W : World} {spare : Nat → Bool} {cs : Array Value} {d : DataW H} {ps : List MemPlace} (hl : leaves P n ty = some [b, b, u, u, u, u, c]) (hu : P.underlying u = some (.int .u64)) (hb : P.underlying b = some (.int .u8)) (hs : P.underlying s = some (.int .u16)) (ht : P.underlying t = some .bool) (hc : P.underlying c = some (.slice ec)) (hlc : leaves P k2 ec = some [b, u, u, u, u])
    (h : DataW.Trod enc P W 0 spare true ty (.agg cs) d ps) : ∃ e : Dl, e.Ok ∧ AVR (atFirst W) W (.agg cs) (.agg (dlC e)) := by
  obtain ⟨l, h1, h2, h3, h4⟩ := open_arg hl h
  have hc9 : Value.cells (.agg cs) = cs := rfl
  rw [hc9] at h2 h3
  match l, h1, h2, h3, h4 with
  | [a0, a1, a2, a3, a4, a5, a6], _, h2, h3, h4 =>
    obtain ⟨e, he, ho⟩ := dl_cells hu hb hs ht hc hlc (h4 0 a0 _ rfl rfl) (h4 1 a1 _ rfl rfl) (h4 2 a2 _ rfl rfl) (h4 3 a3 _ rfl rfl) (h4 4 a4 _ rfl rfl) (h4 5 a5 _ rfl rfl) (h4 6 a6 _ rfl rfl)
    rw [he] at h2 h3
    exact ⟨e, ho, .agg h2 h3⟩

end Go.Proofs.Ytmponlabfccjaaa
