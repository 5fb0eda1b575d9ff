import Derived.Test.YtdbaddholggkbaaZ8
import Derived.Test.YtdbaddholggkbaaZ7
import Derived.Test.YtdbaddholggkbaaZ9
import Derived.RangeFuncKeeps
import Derived.RangeFuncLeaves
import Derived.Shelf.Abstract
import Derived.WalkKit
import Derived.OwnWalkIn
import Derived.TacticsInMore
import Derived.LoopNIn
import Derived.LoopIn
/-
  The library's iterator over a slice, the last one first.
-/
namespace Go.Proofs.Ytdbaddholggkbaa
set_option linter.unnecessarySimpa false
set_option maxRecDepth 100000
open Go Go.Vm Go.RowKit Go.Shelf

attribute [local go_sem] Oper.semAt_some

def left : Value → Nat
  | .int _ n => (n + 1).toNat
  | _ => 0

set_option maxRecDepth 100000 in
set_option maxHeartbeats 2000000 in
theorem back62_in (n : Nat) (hn : 1 ≤ n) (l Bn Bo m c : Nat) (ad : Option Addr) (xs : List Value) (Good : Nat → Nat → Prop) (J Jx : List (Fin m) → World → Prop) (hm : m < 4611686018427387904) (hl : xs.length = m)
    (hx : ∀ (j : Nat) x, xs[j]? = some x → ∃ b o, ad = some ⟨b, o, none⟩ ∧ Good b (o + j))
    (hY : ∀ pre (i : Fin m) W, J pre W → pre.length < m → YieldAt Fence.wide (n - 1) Try.prog l #[.int .i64 i.val, xs[i.val]'(by omega)] W fun e W' =>
      (e = .returned (.bool true) ∧ J (pre ++ [i]) W' ∧ KeepsAt Good W W') ∨ (e = .returned (.bool false) ∧ Jx (pre ++ [i]) W'))
    (W : World) (hc : W.cell? ⟨Bn, Bo, none⟩ = some (.slice ad m c)) (hB : Good Bn Bo) (hxc : ∀ (j : Nat) x, xs[j]? = some x → ∀ b o, ad = some ⟨b, o, none⟩ → W.cell? ⟨b, o + j, none⟩ = some x) (h0 : J [] W) :
    CallsIn Fence.wide n Try.prog 154 #[.func (.yield l) #[] #[], .pointer (some ⟨Bn, Bo, none⟩)] W fun e W' => (∃ v, e = .returned v) ∧
      ((∃ ys : List (Fin m), ys.map Fin.val = (List.range m).reverse ∧ J ys W') ∨ (∃ pre : List (Fin m), pre.map Fin.val <+: (List.range m).reverse ∧ Jx pre W')) := by
  have hw1 : ∀ k : Nat, k ≤ m → IntKind.i64.wrap ((k : Int) - 1) = (k : Int) - 1 := fun k hk => wrap_i64 _ (by omega) (by omega)
  refine callsIn_of_wp Try.func154 rfl trivial ?_ rfl
  simp only [Try.ntmps154, List.size_toArray, List.length_cons, List.length_nil, Nat.reduceAdd, Nat.reduceSub, Array.replicate_succ, Array.replicate_zero, List.push_toArray, List.append_toArray, List.nil_append, List.cons_append]
  gi_wp2
  gi_loopw [3] (fun v wr => ∃ (k : Nat) (pre : List (Fin m)), k ≤ m ∧ v = .int .i64 ((k : Int) - 1) ∧ pre.map Fin.val = (List.range m).reverse.take (m - k) ∧ J pre wr ∧ wr.cell? ⟨Bn, Bo, none⟩ = some (.slice ad m c) ∧ (∀ (j : Nat) x, xs[j]? = some x → ∀ b o, ad = some ⟨b, o, none⟩ → wr.cell? ⟨b, o + j, none⟩ = some x))
    (fun v wr => left v)
  case atStart =>
    exact ⟨m, [], Nat.le_refl _, rfl, by simp, h0, hc, hxc⟩
  case round =>
    obtain ⟨k, pre, hk, rfl, hp, hJ, hc', hxc'⟩ := hrel
    cases k with
    | zero =>
      have e : ((0 : Nat) : Int) - 1 = -1 := by omega
      rw [e]
      gi_wp2
      go_end0
      exact ⟨⟨_, rfl⟩, .inl ⟨pre, by rw [hp]; exact List.take_of_length_le (by simp), hJ⟩⟩
    | succ k =>
      have hkl : k < xs.length := by omega
      have hxk : xs[k]? = some xs[k] := List.getElem?_eq_getElem hkl
      obtain ⟨b, o, rfl, hgood⟩ := hx k _ hxk
      have hcell := hxc' k _ hxk b o rfl
      have hlen : pre.length = m - (k + 1) := by
        have := congrArg List.length hp
        simpa using this
      obtain ⟨fn, tmps, assign, body, hy, hR⟩ := hY pre ⟨k, by omega⟩ wr hJ (by omega)
      have e : ((k + 1 : Nat) : Int) - 1 = (k : Int) := by omega
      rw [e]
      have hk0 : ¬ (k : Int) < 0 := by omega
      have hkm : (k : Int) < m := by omega
      gi_wp2
      refine hR.mono ?_
      have hsnoc : (pre ++ [(⟨k, by omega⟩ : Fin m)]).map Fin.val = (List.range m).reverse.take (m - k) := by
        have hlt : m - (k + 1) < ((List.range m).reverse).length := by simp; omega
        have e1 : m - k = m - (k + 1) + 1 := by omega
        rw [e1, List.take_succ_eq_append_getElem hlt, List.map_append, hp]
        congr 1
        simp
        omega
      rintro e3 W3 (⟨rfl, hJ3, hk3⟩ | ⟨rfl, hJx3⟩)
      · have hc3 : W3.cell? ⟨Bn, Bo, none⟩ = some (.slice (some ⟨b, o, none⟩) m c) := hk3 _ _ _ hB hc'
        have hx3 : ∀ (j : Nat) x, xs[j]? = some x → ∀ b' o', some (⟨b, o, none⟩ : Addr) = some ⟨b', o', none⟩ → W3.cell? ⟨b', o' + j, none⟩ = some x := by
          intro j x hj b' o' hb'
          cases hb'
          obtain ⟨b2, o2, h2, h3⟩ := hx j x hj
          cases h2
          exact hk3 _ _ _ h3 (hxc' j x hj _ _ rfl)
        gi_wp2
        go_roundw
        case rel => exact ⟨k, pre ++ [⟨k, by omega⟩], by omega, rfl, hsnoc, hJ3, hc3, hx3⟩
        case measure => simp [left]
      · gi_wp2
        refine bodyPost_ret (results_none rfl _ _ _) rfl ?_
        exact ⟨⟨_, rfl⟩, .inr ⟨pre ++ [⟨k, by omega⟩], by rw [hsnoc]; exact List.take_prefix _ _, hJx3⟩⟩

theorem backs62 : Backs Try.prog 154 (fun m => m < 4611686018427387904) := by
  intro n w Bn Bo m c ad xs Good hn hm hc hB hl hx l J Jx W hW _ _ hY h0
  have hin : ∀ {b o : Nat} {x : Value}, w.cell? ⟨b, o, none⟩ = some x → W.cell? ⟨b, o, none⟩ = some x := by
    intro b o x h
    obtain ⟨cs, e, fr, hb, _⟩ := cell_heap h
    have := hW.block b (Array.getElem?_eq_some_iff.1 hb).1
    obtain ⟨cs', e', fr', hb', hx'⟩ := cell_heap h
    rw [heap_cell (this.trans hb'), hx']
  exact back62_in n hn l Bn Bo m c ad xs Good J Jx hm hl (fun j x hj => let ⟨b, o, h1, h2, _⟩ := hx j x hj; ⟨b, o, h1, h2⟩) hY W (hin hc) hB (fun j x hj b o hb => by
    obtain ⟨b2, o2, h1, h2, h3⟩ := hx j x hj
    rw [h1] at hb; cases hb
    exact hin h3) h0

end Go.Proofs.Ytdbaddholggkbaa

/-
  Numbers' bytes, read.
-/
namespace Go.Proofs.Ytdbaddholggkbaa
set_option linter.unnecessarySimpa false
set_option maxRecDepth 100000
open Go Go.Vm
set_option linter.unusedSimpArgs false
set_option linter.unusedVariables false

attribute [local simp] evalL wantedA isCall opA evalA evalAll evalsA evalOpt ofValue ofCell plain binA_eql_pn binA_neq_pn binA_gtr binA_lss binA_geq binA_leq binA_add binA_sub binA_eql binA_neq binA_or binA_shl binA_mul binA_quo binA_rem convA_int unA_not fieldAddrA loadA partA pickA lenA builtinA storeA splice AV.cells AV.isCell sliceA boundA intA callOf indexAddrA newObjA buildA fillA zeroA ofCells

theorem backward_raw {σ : St} {sz m : Nat} {cs : List AV} {t : Tail} :
    CallsA Try.prog 151 [.sl sz cs m t] σ (fun av σ' => av = .fn 154 [.ptr σ.objs.length 0] ∧ σ' = { σ with objs := σ.objs ++ [[.sl sz cs m t]] }) := by
  refine callsA_body Try.func151 rfl rfl rfl ?_
  refine run_seq_k fun K1 hK1 => ?_
  refine run_region_k rfl fun J2 hJ2 => ?_
  try simp
  refine hJ2 _ _ ?_
  refine hK1 _ _ ?_
  refine run_seq_k fun K3 hK3 => ?_
  refine run_region_k rfl fun J4 hJ4 => ?_
  try simp
  refine hJ4 _ _ ?_
  refine hK3 _ _ ?_
  refine run_ret ?_
  try simp only [Then, InBlock, NoGoto]
  refine answer_tmp rfl (.inr rfl) ?_
  simp

theorem backward_ok {σ : St} {sz m : Nat} {cs : List AV} {t : Tail} :
    CallsA Try.prog 151 [.sl sz cs m t] σ (fun av σ' => av = .fn 154 [.ep [.sl sz cs m t]] ∧ σ = σ') :=
  callsA_freeze backward_raw (by simp) rfl

/-- What bytes are as a number: the number, and whether they may be so. -/
def numOk (p : List UInt8) : Bool := decide (p.length ≤ 32) && (p.headD 1 != 0)
def numOf (p : List UInt8) : Nat := if numOk p then be p else 0

theorem read_long {σ : St} {p : List UInt8} (h : 32 < p.length) :
    CallsA Try.prog 147 [.sl 1 (bytesA p) p.length .shut] σ (fun av σ' => av = .tup [.agg (numA 0), .v (.int .i64 4)] ∧ σ' = { σ with objs := σ.objs ++ [[.sl 1 (bytesA p) p.length .shut], numA 0] }) := by
  have h' : ¬ (p.length : Int) ≤ 32 := by omega
  have h2 : (32 : Int) < p.length := by omega
  refine callsA_body Try.func147 rfl rfl rfl ?_
  refine run_seq_k fun K1 hK1 => ?_
  refine run_region_k rfl fun J2 hJ2 => ?_
  try simp [h', h2]
  refine hJ2 _ _ ?_
  refine hK1 _ _ ?_
  refine run_seq_k fun K3 hK3 => ?_
  refine run_seq_k fun K4 hK4 => ?_
  refine run_region_k rfl fun J5 hJ5 => ?_
  try simp [h', h2]
  refine runL_no (by first | rfl | (simp [h', h2, wantedA]; done)) rfl ?_
  try simp [h', h2]
  refine runL_no (by first | rfl | (simp [h', h2, wantedA]; done)) rfl ?_
  try simp [h', h2]
  refine runL_no (by first | rfl | (simp [h', h2, wantedA]; done)) rfl ?_
  try simp [h', h2]
  refine runL_no (by first | rfl | (simp [h', h2, wantedA]; done)) rfl ?_
  try simp [h', h2]
  refine runL_no (by first | rfl | (simp [h', h2, wantedA]; done)) rfl ?_
  try simp [h', h2]
  refine runL_no (by first | rfl | (simp [h', h2, wantedA]; done)) rfl ?_
  try simp [h', h2]
  refine runL_no (by first | rfl | (simp [h', h2, wantedA]; done)) rfl ?_
  try simp [h', h2]
  refine runL_no (by first | rfl | (simp [h', h2, wantedA]; done)) rfl ?_
  try simp [h', h2]
  refine runL_no (by first | rfl | (simp [h', h2, wantedA]; done)) rfl ?_
  try simp [h', h2]
  refine hJ5 _ _ ?_
  refine hK4 _ _ ?_
  refine run_cond_true (by first | rfl | (simp [h', h2, evalA]; done)) ?_
  refine run_seq_k fun K6 hK6 => ?_
  refine run_region_k rfl fun J7 hJ7 => ?_
  try simp [h', h2]
  refine hJ7 _ _ ?_
  refine hK6 _ _ ?_
  refine run_ret ?_
  try simp only [Then, InBlock, NoGoto]
  refine answer_cell_tmp rfl (.inr rfl) ?_
  simp [numA_zero]

theorem read_zero {σ : St} {p : List UInt8} (h : p.length ≤ 32) (hp : 0 < p.length) (h0 : p[0] = 0) :
    CallsA Try.prog 147 [.sl 1 (bytesA p) p.length .shut] σ (fun av σ' => av = .tup [.agg (numA 0), .v (.int .i64 4)] ∧ σ' = { σ with objs := σ.objs ++ [[.sl 1 (bytesA p) p.length .shut], numA 0] }) := by
  have h1 : (p.length : Int) ≤ 32 := by omega
  have h2 : ¬ (32 : Int) < p.length := by omega
  have h3 : (0 : Int) < p.length := by omega
  have h4 : p ≠ [] := by intro e; simp [e] at hp
  refine callsA_body Try.func147 rfl rfl rfl ?_
  refine run_seq_k fun K1 hK1 => ?_
  refine run_region_k rfl fun J2 hJ2 => ?_
  try simp [h1, h2, h3, h0, hp, h4]
  refine hJ2 _ _ ?_
  refine hK1 _ _ ?_
  refine run_seq_k fun K3 hK3 => ?_
  refine run_seq_k fun K4 hK4 => ?_
  refine run_region_k rfl fun J5 hJ5 => ?_
  try simp [h1, h2, h3, h0, hp, h4]
  refine runL_go (by first | rfl | (simp [h1, h2, h3, h0, hp, h4, wantedA]; done)) rfl ?_
  try simp [h1, h2, h3, h0, hp, h4]
  refine runL_go (by first | rfl | (simp [h1, h2, h3, h0, hp, h4, wantedA]; done)) rfl ?_
  try simp [h1, h2, h3, h0, hp, h4]
  refine runL_go (by first | rfl | (simp [h1, h2, h3, h0, hp, h4, wantedA]; done)) rfl ?_
  try simp [h1, h2, h3, h0, hp, h4]
  refine runL_go (by first | rfl | (simp [h1, h2, h3, h0, hp, h4, wantedA]; done)) rfl ?_
  try simp [h1, h2, h3, h0, hp, h4]
  refine runL_go (by first | rfl | (simp [h1, h2, h3, h0, hp, h4, wantedA]; done)) rfl ?_
  try simp [h1, h2, h3, h0, hp, h4]
  refine runL_go (by first | rfl | (simp [h1, h2, h3, h0, hp, h4, wantedA]; done)) rfl ?_
  try simp [h1, h2, h3, h0, hp, h4]
  refine runL_go (by first | rfl | (simp [h1, h2, h3, h0, hp, h4, wantedA]; done)) rfl ?_
  try simp [h1, h2, h3, h0, hp, h4]
  refine runL_go (by first | rfl | (simp [h1, h2, h3, h0, hp, h4, wantedA]; done)) rfl ?_
  try simp [h1, h2, h3, h0, hp, h4]
  refine runL_go (by first | rfl | (simp [h1, h2, h3, h0, hp, h4, wantedA]; done)) rfl ?_
  try simp [h1, h2, h3, h0, hp, h4]
  refine hJ5 _ _ ?_
  refine hK4 _ _ ?_
  refine run_cond_true (by first | rfl | (simp [h1, h2, h3, h0, hp, h4, evalA]; done)) ?_
  refine run_seq_k fun K6 hK6 => ?_
  refine run_region_k rfl fun J7 hJ7 => ?_
  try simp [h1, h2, h3, h0, hp, h4]
  refine hJ7 _ _ ?_
  refine hK6 _ _ ?_
  refine run_ret ?_
  try simp only [Then, InBlock, NoGoto]
  refine answer_cell_tmp rfl (.inr rfl) ?_
  simp [numA_zero]

theorem read_nil {σ : St} :
    CallsA Try.prog 147 [.sl 1 [] 0 .shut] σ (fun av σ' => av = .tup [.agg (numA 0), .v (.int .i64 0)] ∧ σ' = { σ with objs := σ.objs ++ [[.sl 1 [] 0 .shut], numA 0, numA 0] }) := by
  refine callsA_body Try.func147 rfl rfl rfl ?_
  refine run_seq_k fun K1 hK1 => ?_
  refine run_region_k rfl fun J2 hJ2 => ?_
  try simp
  refine hJ2 _ _ ?_
  refine hK1 _ _ ?_
  refine run_seq_k fun K3 hK3 => ?_
  refine run_seq_k fun K4 hK4 => ?_
  refine run_region_k rfl fun J5 hJ5 => ?_
  try simp
  refine runL_go (by first | rfl | (simp [wantedA]; done)) rfl ?_
  try simp
  refine runL_go (by first | rfl | (simp [wantedA]; done)) rfl ?_
  try simp
  refine runL_go (by first | rfl | (simp [wantedA]; done)) rfl ?_
  try simp
  refine runL_go (by first | rfl | (simp [wantedA]; done)) rfl ?_
  try simp
  refine runL_no (by first | rfl | (simp [wantedA]; done)) rfl ?_
  try simp
  refine runL_no (by first | rfl | (simp [wantedA]; done)) rfl ?_
  try simp
  refine runL_no (by first | rfl | (simp [wantedA]; done)) rfl ?_
  try simp
  refine runL_no (by first | rfl | (simp [wantedA]; done)) rfl ?_
  try simp
  refine runL_go (by first | rfl | (simp [wantedA]; done)) rfl ?_
  try simp
  refine hJ5 _ _ ?_
  refine hK4 _ _ ?_
  refine run_cond_false (by first | rfl | (simp [evalA]; done)) ?_
  refine run_skip ?_
  refine hK3 _ _ ?_
  refine run_seq_k fun K6 hK6 => ?_
  refine run_region_k rfl fun J7 hJ7 => ?_
  try simp
  refine hJ7 _ _ ?_
  refine hK6 _ _ ?_
  refine run_seq_k fun K8 hK8 => ?_
  refine run_seq_k fun K9 hK9 => ?_
  refine run_region_k rfl fun J10 hJ10 => ?_
  try simp
  refine runL_call' (b := true) (by first | rfl | (simp [wantedA]; done)) rfl rfl (by first | rfl | (simp [callOf]; done)) (by simp) (backward_ok) ?_
  rintro _ _ ⟨rfl, rfl⟩
  try simp
  refine hJ10 _ _ ?_
  refine hK9 _ _ ?_
  refine run_block_k ?_
  refine run_backward backs62 ?rm1 (by first | rfl | (simp; done)) rfl rfl rfl rfl rfl rfl rfl rfl (by first | rfl | (simp; done)) (fun pre σ1 => σ1 = { σ with objs := σ.objs ++ [[.sl 1 [] 0 .shut], numA 0, numA 0] }) (fun _ _ _ => False) ?rs1 ?rr1 ?rd1 ?rx1
  case rm1 =>
    show _ < _
    omega
  case rs1 =>
    simp [numA_zero]
  case rr1 =>
    exact fun _ _ _ _ _ hi => absurd hi (Nat.not_lt_zero _)
  case rd1 =>
    rintro σ1 rfl
    refine hK8 _ _ ?_
    refine run_seq_k fun K11 hK11 => ?_
    refine run_region_k rfl fun J12 hJ12 => ?_
    try simp
    refine hJ12 _ _ ?_
    refine hK11 _ _ ?_
    refine run_ret ?_
    try simp only [Then, InBlock, NoGoto]
    refine answer_cell_tmp rfl (.inr rfl) ?_
    simp [numA]
  case rx1 =>
    exact fun _ _ _ _ h => h.elim

theorem read_ok {σ : St} {p : List UInt8} (h : p.length ≤ 32) (hp : 0 < p.length) (h0 : ¬ p[0] = 0) :
    CallsA Try.prog 147 [.sl 1 (bytesA p) p.length .shut] σ (fun av σ' => av = .tup [.agg (numA (be p)), .v (.int .i64 0)] ∧ σ' = { σ with objs := σ.objs ++ [[.sl 1 (bytesA p) p.length .shut], numA (be p), numA (be p)] }) := by
  have h1 : (p.length : Int) ≤ 32 := by omega
  have h2 : ¬ (32 : Int) < p.length := by omega
  have h3 : (0 : Int) < p.length := by omega
  have h5 : p ≠ [] := by intro e; simp [e] at hp
  have h6 : ¬ p[0].toNat = 0 := fun e => h0 (UInt8.toNat_inj.1 (by simpa using e))
  have h4 := orAll_all p
  refine callsA_body Try.func147 rfl rfl rfl ?_
  refine run_seq_k fun K1 hK1 => ?_
  refine run_region_k rfl fun J2 hJ2 => ?_
  try simp [h1, h2, h3, hp, h5, h6]
  refine hJ2 _ _ ?_
  refine hK1 _ _ ?_
  refine run_seq_k fun K3 hK3 => ?_
  refine run_seq_k fun K4 hK4 => ?_
  refine run_region_k rfl fun J5 hJ5 => ?_
  try simp [h1, h2, h3, hp, h5, h6]
  refine runL_go (by first | rfl | (simp [h1, h2, h3, hp, h5, h6, wantedA]; done)) rfl ?_
  try simp [h1, h2, h3, hp, h5, h6]
  refine runL_go (by first | rfl | (simp [h1, h2, h3, hp, h5, h6, wantedA]; done)) rfl ?_
  try simp [h1, h2, h3, hp, h5, h6]
  refine runL_go (by first | rfl | (simp [h1, h2, h3, hp, h5, h6, wantedA]; done)) rfl ?_
  try simp [h1, h2, h3, hp, h5, h6]
  refine runL_go (by first | rfl | (simp [h1, h2, h3, hp, h5, h6, wantedA]; done)) rfl ?_
  try simp [h1, h2, h3, hp, h5, h6]
  refine runL_go (by first | rfl | (simp [h1, h2, h3, hp, h5, h6, wantedA]; done)) rfl ?_
  try simp [h1, h2, h3, hp, h5, h6]
  refine runL_go (by first | rfl | (simp [h1, h2, h3, hp, h5, h6, wantedA]; done)) rfl ?_
  try simp [h1, h2, h3, hp, h5, h6]
  refine runL_go (by first | rfl | (simp [h1, h2, h3, hp, h5, h6, wantedA]; done)) rfl ?_
  try simp [h1, h2, h3, hp, h5, h6]
  refine runL_go (by first | rfl | (simp [h1, h2, h3, hp, h5, h6, wantedA]; done)) rfl ?_
  try simp [h1, h2, h3, hp, h5, h6]
  refine runL_go (by first | rfl | (simp [h1, h2, h3, hp, h5, h6, wantedA]; done)) rfl ?_
  try simp [h1, h2, h3, hp, h5, h6]
  refine hJ5 _ _ ?_
  refine hK4 _ _ ?_
  refine run_cond_false (by first | rfl | (simp [h1, h2, h3, hp, h5, h6, evalA]; done)) ?_
  refine run_skip ?_
  refine hK3 _ _ ?_
  refine run_seq_k fun K6 hK6 => ?_
  refine run_region_k rfl fun J7 hJ7 => ?_
  try simp [h1, h2, h3, hp, h5, h6]
  refine hJ7 _ _ ?_
  refine hK6 _ _ ?_
  refine run_seq_k fun K8 hK8 => ?_
  refine run_seq_k fun K9 hK9 => ?_
  refine run_region_k rfl fun J10 hJ10 => ?_
  try simp [h1, h2, h3, hp, h5, h6]
  refine runL_call' (b := true) (by first | rfl | (simp [h1, h2, h3, hp, h5, h6, wantedA]; done)) rfl rfl (by first | rfl | (simp [h1, h2, h3, hp, h5, h6, callOf]; done)) (by simp) (backward_ok) ?_
  rintro _ _ ⟨rfl, rfl⟩
  try simp [h1, h2, h3, hp, h5, h6]
  refine hJ10 _ _ ?_
  refine hK9 _ _ ?_
  refine run_block_k ?_
  refine run_backward backs62 ?rm1 (by first | rfl | (simp; done)) rfl rfl rfl rfl rfl rfl rfl rfl (by first | rfl | (simp [h1, h2, h3, hp, h5, h6]; done)) (fun pre σ1 => σ1 = { σ with objs := σ.objs ++ [[.sl 1 (bytesA p) p.length .shut], numA 0, numA (orAll p pre)] }) (fun _ _ _ => False) ?rs1 ?rr1 ?rd1 ?rx1
  case rm1 =>
    show _ < _
    omega
  case rs1 =>
    simp [orAll_nil, numA_zero]
  case rr1 =>
    rintro z pre i x σ1 hi hx rfl
    rw [bytesA_get hi] at hx
    cases hx
    obtain ⟨k, hk⟩ : ∃ k, k = p.length - 1 - i := ⟨_, rfl⟩
    have hk2 : k < 32 := by omega
    have hw : IntKind.i64.wrap (IntKind.i64.wrap ((p.length : Int) - 1) - i) = (k : Int) := by rw [wrap_i64 ((p.length : Int) - 1) (by omega) (by omega), wrap_i64 _ (by omega) (by omega)]; omega
    obtain ⟨q, hq⟩ : ∃ q, q = k / 8 := ⟨_, rfl⟩
    obtain ⟨r, hr⟩ : ∃ r, r = k % 8 := ⟨_, rfl⟩
    have hqr : 8 * q + r = k := by omega
    have hq4 : q < 4 := by omega
    have hr8 : r < 8 := by omega
    have hb := p[i].toNat_lt
    have hqq : IntKind.i64.wrap ((k : Int).tdiv 8) = (q : Int) := by rw [Int.tdiv_eq_ediv_of_nonneg (by omega), wrap_i64 _ (by omega) (by omega)]; omega
    have hrr : (k : Int).tmod 8 = (r : Int) := by rw [Int.tmod_eq_emod_of_nonneg (by omega)]; omega
    have hm8 : IntKind.i64.wrap (8 * (r : Int)) = 8 * (r : Int) := wrap_i64 _ (by omega) (by omega)
    have hq2 : IntKind.i64.wrap ((k : Int) / 8) = (q : Int) := by rw [wrap_i64 _ (by omega) (by omega)]; omega
    have hr2 : (k : Int) % 8 = (r : Int) := by omega
    have hnn : ¬ 8 * (r : Int) < 0 := by omega
    obtain ⟨s, hs⟩ : ∃ s, s = p[i].toNat <<< (8 * r) := ⟨_, rfl⟩
    have hs64 : s < 18446744073709551616 := by rw [hs]; exact shl_byte hb hr8
    have hsh : IntKind.u64.wrap ((p[i].toNat : Int) * 2 ^ (min (8 * (r : Int)).toNat 64)) = (s : Int) := by rw [show min (8 * (r : Int)).toNat 64 = 8 * r by omega]; rw [show ((p[i].toNat : Int) * 2 ^ (8 * r)) = ((p[i].toNat * 2 ^ (8 * r) : Nat) : Int) by simp, wrap_u64, ← Nat.shiftLeft_eq, ← hs, Nat.mod_eq_of_lt hs64]
    obtain ⟨t, ht⟩ : ∃ t, t = limb (orAll p pre) q ||| s := ⟨_, rfl⟩
    have hor := or_u64 (limb_lt (orAll p pre) q) hs64
    rw [← ht] at hor
    have hput := numA_put (x := orAll p pre) hb hq4 hr8 hqr
    rw [← hs, ← ht] at hput
    have hsn := orAll_snoc p pre i
    rw [← hk, show (p.getD i 0) = p[i] by simp [List.getD, hi]] at hsn
    have hget := numA_get (orAll p pre) hq4
    have hq5 : (q : Int) < 4 := by omega
    have hq6 : q + 1 ≤ 4 := hq4
    refine run_block_k ?_
    refine run_seq_k fun K11 hK11 => ?_
    refine run_region_k rfl fun J12 hJ12 => ?_
    try simp [h1, h2, h3, hp, h5, h6, hw, hqq, hrr, hq2, hr2, hm8, hnn, hsh, hor, hget, hq4, hq5, hq6]
    refine hJ12 _ _ ?_
    refine hK11 _ _ ?_
    refine run_draw (by kernel_rfl) fun J13 hJ13 => ?_
    refine runD_pure' 0 (by kernel_rfl) rfl rfl (by kernel_rfl) (by kernel_rfl) (by kernel_rfl) (by kernel_rfl) ?_
    try simp [h1, h2, h3, hp, h5, h6, hw, hqq, hrr, hq2, hr2, hm8, hnn, hsh, hor, hget, hq4, hq5, hq6]
    refine runD_pure' 1 (by kernel_rfl) rfl rfl (by kernel_rfl) (by kernel_rfl) (by kernel_rfl) (by kernel_rfl) ?_
    try simp [h1, h2, h3, hp, h5, h6, hw, hqq, hrr, hq2, hr2, hm8, hnn, hsh, hor, hget, hq4, hq5, hq6]
    refine runD_pure' 2 (by kernel_rfl) rfl rfl (by kernel_rfl) (by kernel_rfl) (by kernel_rfl) (by kernel_rfl) ?_
    try simp [h1, h2, h3, hp, h5, h6, hw, hqq, hrr, hq2, hr2, hm8, hnn, hsh, hor, hget, hq4, hq5, hq6]
    refine runD_pure' 3 (by kernel_rfl) rfl rfl (by kernel_rfl) (by kernel_rfl) (by kernel_rfl) (by kernel_rfl) ?_
    try simp [h1, h2, h3, hp, h5, h6, hw, hqq, hrr, hq2, hr2, hm8, hnn, hsh, hor, hget, hq4, hq5, hq6]
    refine runD_pure' 4 (by kernel_rfl) rfl rfl (by kernel_rfl) (by kernel_rfl) (by kernel_rfl) (by kernel_rfl) ?_
    try simp [h1, h2, h3, hp, h5, h6, hw, hqq, hrr, hq2, hr2, hm8, hnn, hsh, hor, hget, hq4, hq5, hq6]
    refine runD_pure' 5 (by kernel_rfl) rfl rfl (by kernel_rfl) (by kernel_rfl) (by kernel_rfl) (by kernel_rfl) ?_
    try simp [h1, h2, h3, hp, h5, h6, hw, hqq, hrr, hq2, hr2, hm8, hnn, hsh, hor, hget, hq4, hq5, hq6]
    refine runD_pure' 6 (by kernel_rfl) rfl rfl (by kernel_rfl) (by kernel_rfl) (by kernel_rfl) (by kernel_rfl) ?_
    try simp [h1, h2, h3, hp, h5, h6, hw, hqq, hrr, hq2, hr2, hm8, hnn, hsh, hor, hget, hq4, hq5, hq6]
    refine runD_pure' 7 (by kernel_rfl) rfl rfl (by kernel_rfl) (by kernel_rfl) (by kernel_rfl) (by kernel_rfl) ?_
    try simp [h1, h2, h3, hp, h5, h6, hw, hqq, hrr, hq2, hr2, hm8, hnn, hsh, hor, hget, hq4, hq5, hq6]
    refine runD_pure' 8 (by kernel_rfl) rfl rfl (by kernel_rfl) (by kernel_rfl) (by kernel_rfl) (by kernel_rfl) ?_
    try simp [h1, h2, h3, hp, h5, h6, hw, hqq, hrr, hq2, hr2, hm8, hnn, hsh, hor, hget, hq4, hq5, hq6]
    refine runD_pure' 9 (by kernel_rfl) rfl rfl (by kernel_rfl) (by kernel_rfl) (by kernel_rfl) (by kernel_rfl) ?_
    try simp [h1, h2, h3, hp, h5, h6, hw, hqq, hrr, hq2, hr2, hm8, hnn, hsh, hor, hget, hq4, hq5, hq6]
    refine runD_pure' 10 (by kernel_rfl) rfl rfl (by kernel_rfl) (by kernel_rfl) (by kernel_rfl) (by kernel_rfl) ?_
    try simp [h1, h2, h3, hp, h5, h6, hw, hqq, hrr, hq2, hr2, hm8, hnn, hsh, hor, hget, hq4, hq5, hq6]
    refine runD_pure' 11 (by kernel_rfl) rfl rfl (by kernel_rfl) (by kernel_rfl) (by kernel_rfl) (by kernel_rfl) ?_
    try simp [h1, h2, h3, hp, h5, h6, hw, hqq, hrr, hq2, hr2, hm8, hnn, hsh, hor, hget, hq4, hq5, hq6]
    refine runD_op' 12 (by kernel_rfl) (by kernel_rfl) (by kernel_rfl) rfl (by kernel_rfl) (by kernel_rfl) (by kernel_rfl) ?_
    try simp [h1, h2, h3, hp, h5, h6, hw, hqq, hrr, hq2, hr2, hm8, hnn, hsh, hor, hget, hq4, hq5, hq6]
    refine ⟨later_nil (by kernel_rfl), ?_⟩
    refine runD_done (by kernel_rfl) (by kernel_rfl) (by kernel_rfl) ?_
    refine hJ13 _ _ ?_
    show St.mk _ _ _ _ = _
    rw [hsn, ← hput]
    simp
    exact hor
  case rd1 =>
    rintro σ1 rfl
    rw [h4]
    refine hK8 _ _ ?_
    refine run_seq_k fun K14 hK14 => ?_
    refine run_region_k rfl fun J15 hJ15 => ?_
    try simp [h1, h2, h3, hp, h5, h6]
    refine hJ15 _ _ ?_
    refine hK14 _ _ ?_
    refine run_ret ?_
    try simp only [Then, InBlock, NoGoto]
    refine answer_cell_tmp rfl (.inr rfl) ?_
    simp [numA]
  case rx1 =>
    exact fun _ _ _ _ h => h.elim

theorem read_num {σ : St} {p : List UInt8} :
    CallsA Try.prog 147 [.sl 1 (bytesA p) p.length .shut] σ (fun av σ' => av = .tup [.agg (numA (numOf p)), .v (.int .i64 (if numOk p then 0 else 4))] ∧ σ = σ') := by
  by_cases h : p.length ≤ 32
  · cases p with
    | nil => exact callsA_gc_new read_nil rfl
    | cons b l =>
      by_cases hb : b = 0
      · have e : numOk (b :: l) = false := by simp [numOk, hb]
        simp only [numOf, e]
        exact callsA_gc_new (read_zero h (by simp) hb) rfl
      · have e : numOk (b :: l) = true := by simp [numOk, hb]; simpa using h
        simp only [numOf, e]
        exact callsA_gc_new (read_ok h (by simp) hb) rfl
  · have e : numOk p = false := by simp [numOk]; intro h2; omega
    simp only [numOf, e]
    exact callsA_gc_new (read_long (by omega)) rfl

end Go.Proofs.Ytdbaddholggkbaa

/-
  The codec's reader: what is read.
-/
namespace Go.Proofs.Ytdbaddholggkbaa
set_option linter.unnecessarySimpa false
set_option maxRecDepth 100000
open Go Go.Vm
set_option linter.unusedSimpArgs false
set_option linter.unusedVariables false

attribute [local simp] evalL wantedA isCall opA evalA evalAll evalsA evalOpt ofValue ofCell plain binA_eql_pn binA_neq_pn binA_gtr binA_lss binA_geq binA_leq binA_add binA_sub binA_eql binA_neq binA_or binA_shl binA_mul binA_quo binA_rem convA_int unA_not fieldAddrA loadA partA pickA lenA builtinA storeA splice AV.cells AV.isCell sliceA boundA intA callOf indexAddrA newObjA buildA fillA zeroA ofCells

theorem takeB_len (n : Nat) (s : Option (List UInt8)) : (takeB n s).length ≤ n := by
  cases s with
  | none => simp [takeB]
  | some p => simp only [takeB]; split <;> simp <;> omega

theorem be_lt1 {l : List UInt8} (h : l.length ≤ 1) : be l < 256 := by
  have h1 := be_lt l
  have h2 : 256 ^ l.length ≤ 256 ^ 1 := Nat.pow_le_pow_right (by omega) h
  omega
theorem byte_ok {σ : St} {id : Nat} {s : Option (List UInt8)} (h : σ.objs[id]? = some (rd s)) :
    CallsA Try.prog 81 [.ptr id 0] σ (fun av σ' => av = .v (.int .u8 (be (takeB 1 s) : Nat)) ∧ σ' = { σ with objs := σ.objs.set id (rd (takeS 1 s)) }) := by
  have hw : IntKind.u8.wrap ((be (takeB 1 s) : Nat) : Int) = (be (takeB 1 s) : Nat) := by rw [wrap_u8, Nat.mod_eq_of_lt (be_lt1 (takeB_len 1 s))]
  refine callsA_body Try.func81 rfl rfl rfl ?_
  refine run_seq_k fun K1 hK1 => ?_
  refine run_region_k rfl fun J2 hJ2 => ?_
  try simp [hw]
  refine hJ2 _ _ ?_
  refine hK1 _ _ ?_
  refine run_seq_k fun K3 hK3 => ?_
  refine run_region_k rfl fun J4 hJ4 => ?_
  try simp [hw]
  refine runL_call' (b := true) (by first | rfl | (simp [hw, wantedA]; done)) rfl rfl (by first | rfl | (simp [hw, callOf]; done)) (by simp) (number_ok (n := 1) h (by omega)) ?_
  rintro _ _ ⟨rfl, rfl⟩
  try simp [hw]
  refine hJ4 _ _ ?_
  refine hK3 _ _ ?_
  refine run_ret ?_
  try simp only [Then, InBlock, NoGoto]
  refine answer_tmp rfl (.inr rfl) ?_
  simp [hw]

theorem long_ok {σ : St} {id : Nat} {s : Option (List UInt8)} (h : σ.objs[id]? = some (rd s)) :
    CallsA Try.prog 46 [.ptr id 0] σ (fun av σ' => av = .v (.int .u64 (be (takeB 8 s) : Nat)) ∧ σ' = { σ with objs := σ.objs.set id (rd (takeS 8 s)) }) := by
  refine callsA_body Try.func46 rfl rfl rfl ?_
  refine run_seq_k fun K1 hK1 => ?_
  refine run_region_k rfl fun J2 hJ2 => ?_
  try simp
  refine hJ2 _ _ ?_
  refine hK1 _ _ ?_
  refine run_seq_k fun K3 hK3 => ?_
  refine run_region_k rfl fun J4 hJ4 => ?_
  try simp
  refine runL_call' (b := true) (by first | rfl | (simp [wantedA]; done)) rfl rfl (by first | rfl | (simp [callOf]; done)) (by simp) (number_ok (n := 8) h (by omega)) ?_
  rintro _ _ ⟨rfl, rfl⟩
  try simp
  refine hJ4 _ _ ?_
  refine hK3 _ _ ?_
  refine run_ret ?_
  try simp only [Then, InBlock, NoGoto]
  refine answer_tmp rfl (.inr rfl) ?_
  simp

def endB (s : Option (List UInt8)) : Bool := s == some []

theorem end_some {σ : St} {id : Nat} {p : List UInt8} (h : σ.objs[id]? = some (rd (some p))) :
    CallsA Try.prog 48 [.ptr id 0] σ (fun av σ' => av = .v (.bool (p.length == 0)) ∧ σ = σ') := by
  refine callsA_body Try.func48 rfl rfl rfl ?_
  refine run_seq_k fun K1 hK1 => ?_
  refine run_region_k rfl fun J2 hJ2 => ?_
  try simp [h, rd]
  refine hJ2 _ _ ?_
  refine hK1 _ _ ?_
  refine run_seq_k fun K3 hK3 => ?_
  refine run_region_k rfl fun J4 hJ4 => ?_
  try simp [h, rd]
  refine runL_call' (b := true) (by first | rfl | (simp [h, rd, wantedA]; done)) rfl rfl (by first | rfl | (simp [h, rd, callOf]; done)) (by simp) (bad_some h) ?_
  rintro _ _ ⟨rfl, rfl⟩
  try simp [h, rd]
  refine runL_go (by first | rfl | (simp [h, rd, wantedA]; done)) rfl ?_
  try simp [h, rd]
  refine runL_go (by first | rfl | (simp [h, rd, wantedA]; done)) rfl ?_
  try simp [h, rd]
  refine runL_go (by first | rfl | (simp [h, rd, wantedA]; done)) rfl ?_
  try simp [h, rd]
  refine runL_go (by first | rfl | (simp [h, rd, wantedA]; done)) rfl ?_
  try simp [h, rd]
  refine runL_go (by first | rfl | (simp [h, rd, wantedA]; done)) rfl ?_
  try simp [h, rd]
  refine runL_go (by first | rfl | (simp [h, rd, wantedA]; done)) rfl ?_
  try simp [h, rd]
  refine hJ4 _ _ ?_
  refine hK3 _ _ ?_
  refine run_ret ?_
  try simp only [Then, InBlock, NoGoto]
  refine answer_tmp rfl (.inr rfl) ?_
  simp [h, rd]
  rw [Bool.eq_iff_iff]; simp

theorem end_none {σ : St} {id : Nat} (h : σ.objs[id]? = some (rd none)) :
    CallsA Try.prog 48 [.ptr id 0] σ (fun av σ' => av = .v (.bool false) ∧ σ = σ') := by
  refine callsA_body Try.func48 rfl rfl rfl ?_
  refine run_seq_k fun K1 hK1 => ?_
  refine run_region_k rfl fun J2 hJ2 => ?_
  try simp [h, rd]
  refine hJ2 _ _ ?_
  refine hK1 _ _ ?_
  refine run_seq_k fun K3 hK3 => ?_
  refine run_region_k rfl fun J4 hJ4 => ?_
  try simp [h, rd]
  refine runL_call' (b := true) (by first | rfl | (simp [h, rd, wantedA]; done)) rfl rfl (by first | rfl | (simp [h, rd, callOf]; done)) (by simp) (bad_none h) ?_
  rintro _ _ ⟨rfl, rfl⟩
  try simp [h, rd]
  refine runL_no (by first | rfl | (simp [h, rd, wantedA]; done)) rfl ?_
  try simp [h, rd]
  refine runL_no (by first | rfl | (simp [h, rd, wantedA]; done)) rfl ?_
  try simp [h, rd]
  refine runL_no (by first | rfl | (simp [h, rd, wantedA]; done)) rfl ?_
  try simp [h, rd]
  refine runL_no (by first | rfl | (simp [h, rd, wantedA]; done)) rfl ?_
  try simp [h, rd]
  refine runL_no (by first | rfl | (simp [h, rd, wantedA]; done)) rfl ?_
  try simp [h, rd]
  refine runL_no (by first | rfl | (simp [h, rd, wantedA]; done)) rfl ?_
  try simp [h, rd]
  refine hJ4 _ _ ?_
  refine hK3 _ _ ?_
  refine run_ret ?_
  try simp only [Then, InBlock, NoGoto]
  refine answer_tmp rfl (.inr rfl) ?_
  simp [h, rd]
  rfl

theorem end_ok {σ : St} {id : Nat} {s : Option (List UInt8)} (h : σ.objs[id]? = some (rd s)) :
    CallsA Try.prog 48 [.ptr id 0] σ (fun av σ' => av = .v (.bool (endB s)) ∧ σ = σ') := by
  cases s with
  | none => exact end_none h
  | some p =>
    have e : endB (some p) = (p.length == 0) := by cases p <;> rfl
    rw [e]; exact end_some h

def numB (s : Option (List UInt8)) : List UInt8 := takeB (be (takeB 1 s)) (takeS 1 s)
def numS (s : Option (List UInt8)) : Option (List UInt8) := if numOk (numB s) then takeS (be (takeB 1 s)) (takeS 1 s) else none

theorem num_raw {σ : St} {id : Nat} {s : Option (List UInt8)} (h : σ.objs[id]? = some (rd s)) :
    CallsA Try.prog 128 [.ptr id 0] σ (fun av σ' => av = .agg (numA (numOf (numB s))) ∧ σ' = { σ with objs := σ.objs.set id (rd (numS s)) ++ [numA (numOf (numB s)), numA (numOf (numB s))] }) := by
  have hlt := lt_of_get h
  have hw : IntKind.i64.wrap ((be (takeB 1 s) : Nat) : Int) = (be (takeB 1 s) : Nat) := wrap_i64 _ (by omega) (by have := be_lt1 (takeB_len 1 s); omega)
  have h1 : ∀ r : List AV, (σ.objs ++ [r])[id]? = some (rd s) := fun r => by rw [List.getElem?_append_left hlt]; exact h
  have h2 : ∀ (x r : List AV), (σ.objs.set id x ++ [r])[id]? = some x := fun x r => by rw [List.getElem?_append_left (by simpa using hlt)]; exact set_self_of h x
  have h3 : ∀ (x r r2 : List AV), (σ.objs.set id x ++ [r, r2])[id]? = some x := fun x r r2 => by rw [List.getElem?_append_left (by simpa using hlt)]; exact set_self_of h x
  have ha : ∀ (x r : List AV), (σ.objs ++ [r]).set id x = σ.objs.set id x ++ [r] := fun x r => List.set_append_left _ _ hlt
  have hb : ∀ (x y r : List AV), (σ.objs.set id y ++ [r]).set id x = σ.objs.set id x ++ [r] := fun x y r => by rw [List.set_append_left _ _ (by simpa using hlt), List.set_set]
  have hc : ∀ (x y r r2 : List AV), (σ.objs.set id y ++ [r, r2]).set id x = σ.objs.set id x ++ [r, r2] := fun x y r r2 => by rw [List.set_append_left _ _ (by simpa using hlt), List.set_set]
  cases hn : numOk (numB s) with
  | true =>
    have hS : numS s = takeS (be (takeB 1 s)) (takeS 1 s) := by simp [numS, hn]
    have hn' : numOk (takeB (be (takeB 1 s)) (takeS 1 s)) = true := hn
    rw [hS]
    show CallsA _ _ _ _ (fun av σ' => av = .agg (numA (numOf (takeB (be (takeB 1 s)) (takeS 1 s)))) ∧ _)
    refine callsA_body Try.func128 rfl rfl rfl ?_
    refine run_seq_k fun K1 hK1 => ?_
    refine run_region_k rfl fun J2 hJ2 => ?_
    try simp [hw, ha, hb, hc, hn']
    refine hJ2 _ _ ?_
    refine hK1 _ _ ?_
    refine run_seq_k fun K3 hK3 => ?_
    refine run_region_k rfl fun J4 hJ4 => ?_
    try simp [hw, ha, hb, hc, hn']
    refine runL_call' (b := true) (by first | rfl | (simp [hw, ha, hb, hc, hn', wantedA]; done)) rfl rfl (by first | rfl | (simp [hw, ha, hb, hc, hn', callOf]; done)) (by simp) (byte_ok (h1 _)) ?_
    rintro _ _ ⟨rfl, rfl⟩
    try simp [hw, ha, hb, hc, hn']
    refine runL_call' (b := true) (by first | rfl | (simp [hw, ha, hb, hc, hn', wantedA]; done)) rfl rfl (by first | rfl | (simp [hw, ha, hb, hc, hn', callOf]; done)) (by simp) (take_ok (h2 _ _)) ?_
    rintro _ _ ⟨rfl, rfl⟩
    try simp [hw, ha, hb, hc, hn']
    refine runL_call' (b := true) (by first | rfl | (simp [hw, ha, hb, hc, hn', wantedA]; done)) rfl rfl (by first | rfl | (simp [hw, ha, hb, hc, hn', callOf]; done)) (by simp) (read_num) ?_
    rintro _ _ ⟨rfl, rfl⟩
    try simp [hw, ha, hb, hc, hn']
    refine hJ4 _ _ ?_
    refine hK3 _ _ ?_
    refine run_seq_k fun K5 hK5 => ?_
    refine run_seq_k fun K6 hK6 => ?_
    refine run_region_k rfl fun J7 hJ7 => ?_
    try simp [hw, ha, hb, hc, hn']
    refine hJ7 _ _ ?_
    refine hK6 _ _ ?_
    refine run_cond_false (by first | rfl | (simp [hw, ha, hb, hc, hn', evalA]; done)) ?_
    refine run_skip ?_
    refine hK5 _ _ ?_
    refine run_seq_k fun K8 hK8 => ?_
    refine run_region_k rfl fun J9 hJ9 => ?_
    try simp [hw, ha, hb, hc, hn']
    refine hJ9 _ _ ?_
    refine hK8 _ _ ?_
    refine run_ret ?_
    try simp only [Then, InBlock, NoGoto]
    refine answer_cell rfl (.inr rfl) ?_
    simp [hw, ha, hb, hc, hn']
    rfl
  | false =>
    have hS : numS s = none := by simp [numS, hn]
    have hn' : numOk (takeB (be (takeB 1 s)) (takeS 1 s)) = false := hn
    rw [hS]
    show CallsA _ _ _ _ (fun av σ' => av = .agg (numA (numOf (takeB (be (takeB 1 s)) (takeS 1 s)))) ∧ _)
    refine callsA_body Try.func128 rfl rfl rfl ?_
    refine run_seq_k fun K1 hK1 => ?_
    refine run_region_k rfl fun J2 hJ2 => ?_
    try simp [hw, ha, hb, hc, hn']
    refine hJ2 _ _ ?_
    refine hK1 _ _ ?_
    refine run_seq_k fun K3 hK3 => ?_
    refine run_region_k rfl fun J4 hJ4 => ?_
    try simp [hw, ha, hb, hc, hn']
    refine runL_call' (b := true) (by first | rfl | (simp [hw, ha, hb, hc, hn', wantedA]; done)) rfl rfl (by first | rfl | (simp [hw, ha, hb, hc, hn', callOf]; done)) (by simp) (byte_ok (h1 _)) ?_
    rintro _ _ ⟨rfl, rfl⟩
    try simp [hw, ha, hb, hc, hn']
    refine runL_call' (b := true) (by first | rfl | (simp [hw, ha, hb, hc, hn', wantedA]; done)) rfl rfl (by first | rfl | (simp [hw, ha, hb, hc, hn', callOf]; done)) (by simp) (take_ok (h2 _ _)) ?_
    rintro _ _ ⟨rfl, rfl⟩
    try simp [hw, ha, hb, hc, hn']
    refine runL_call' (b := true) (by first | rfl | (simp [hw, ha, hb, hc, hn', wantedA]; done)) rfl rfl (by first | rfl | (simp [hw, ha, hb, hc, hn', callOf]; done)) (by simp) (read_num) ?_
    rintro _ _ ⟨rfl, rfl⟩
    try simp [hw, ha, hb, hc, hn']
    refine hJ4 _ _ ?_
    refine hK3 _ _ ?_
    refine run_seq_k fun K5 hK5 => ?_
    refine run_seq_k fun K6 hK6 => ?_
    refine run_region_k rfl fun J7 hJ7 => ?_
    try simp [hw, ha, hb, hc, hn']
    refine hJ7 _ _ ?_
    refine hK6 _ _ ?_
    refine run_cond_true (by first | rfl | (simp [hw, ha, hb, hc, hn', evalA]; done)) ?_
    refine run_region_k rfl fun J8 hJ8 => ?_
    try simp [hw, ha, hb, hc, hn']
    refine runL_call' (b := true) (by first | rfl | (simp [hw, ha, hb, hc, hn', wantedA]; done)) rfl rfl (by first | rfl | (simp [hw, ha, hb, hc, hn', callOf]; done)) (by simp) (fail_ok (h3 _ _ _)) ?_
    rintro _ _ ⟨rfl, rfl⟩
    try simp [hw, ha, hb, hc, hn']
    refine hJ8 _ _ ?_
    refine hK5 _ _ ?_
    refine run_seq_k fun K9 hK9 => ?_
    refine run_region_k rfl fun J10 hJ10 => ?_
    try simp [hw, ha, hb, hc, hn']
    refine hJ10 _ _ ?_
    refine hK9 _ _ ?_
    refine run_ret ?_
    try simp only [Then, InBlock, NoGoto]
    refine answer_cell rfl (.inr rfl) ?_
    simp [hw, ha, hb, hc, hn']
    rfl

theorem rd_under (B : Bd) (s : Option (List UInt8)) : underL B (rd s) = true := by
  cases s with
  | none => rfl
  | some p => simp [rd, underL, AV.under, under_bytes]

theorem num_ok {σ : St} {id : Nat} {s : Option (List UInt8)} (h : σ.objs[id]? = some (rd s)) :
    CallsA Try.prog 128 [.ptr id 0] σ (fun av σ' => av = .agg (numA (numOf (numB s))) ∧ σ' = { σ with objs := σ.objs.set id (rd (numS s)) }) :=
  callsA_gc_set (num_raw h) rfl (rd_under _ _)

end Go.Proofs.Ytdbaddholggkbaa

/-
  The codec's writer, and the constructor of a reader.
-/
namespace Go.Proofs.Ytdbaddholggkbaa
set_option linter.unnecessarySimpa false
set_option maxRecDepth 100000
open Go Go.Vm
set_option linter.unusedSimpArgs false
set_option linter.unusedVariables false

attribute [local simp] evalL wantedA isCall opA evalA evalAll evalsA evalOpt ofValue ofCell plain binA_eql_pn binA_neq_pn binA_gtr binA_lss binA_geq binA_leq binA_add binA_sub binA_eql binA_neq binA_or binA_shl binA_shr binA_mul binA_quo binA_rem convA_int unA_not fieldAddrA loadA partA pickA lenA builtinA storeA splice AV.cells AV.isCell sliceA boundA intA callOf indexAddrA newObjA buildA fillA zeroA ofCells buildSliceA appendA roomA maxLen

theorem clone_raw {σ : St} {p : List UInt8} {tl : Tail} (hp : p.length ≤ 1000000) :
    CallsA Try.prog 80 [.sl 1 (bytesA p) p.length tl] σ (fun av σ' => (p = [] ∧ av = .sl 0 [] 0 .full ∧ σ' = σ) ∨ (av = .sl 1 (bytesA p) p.length (.own σ.toks.length) ∧ σ' = { σ with toks := σ.toks ++ [p.length] })) := by
  have h1 : p.length ≤ 140737488355328 := by omega
  have h2 : p.length ≤ 9223372036854775807 := by omega
  refine callsA_body Try.func80 rfl rfl rfl ?_
  refine run_seq_k fun K1 hK1 => ?_
  refine run_region_k rfl fun J2 hJ2 => ?_
  try simp [h1, h2]
  refine hJ2 _ _ ?_
  refine hK1 _ _ ?_
  refine run_seq_k fun K3 hK3 => ?_
  refine run_seq_k fun K4 hK4 => ?_
  refine run_region_k rfl fun J5 hJ5 => ?_
  try simp [h1, h2]
  refine runL_slnil (by first | rfl | (simp [h1, h2, wantedA]; done)) rfl rfl rfl (by first | rfl | (simp [h1, h2]; done)) (fun b4 hb4 => ?_)
  try simp [h1, h2]
  refine hJ5 _ _ ?_
  refine hK4 _ _ ?_
  refine run_cond_split rfl (fun c4 => ?_) (fun c4 => ?_)
  · try (exfalso; revert c4; simp [h1, h2]; done)
    all_goals
      (try simp [h1, h2] at c4)
      all_goals
        refine run_seq_k fun K7 hK7 => ?_
        refine run_region_k rfl fun J8 hJ8 => ?_
        try simp [h1, h2, c4]
        refine hJ8 _ _ ?_
        refine hK7 _ _ ?_
        refine run_ret ?_
        try simp only [Then, InBlock, NoGoto]
        refine answer_tmp rfl (.inr rfl) ?_
        exact .inl ⟨by cases p with | nil => rfl | cons x l => (simp_all), by simp, rfl⟩
  · try (exfalso; revert c4; simp [h1, h2]; done)
    all_goals
      (try simp [h1, h2] at c4)
      all_goals
        refine run_skip ?_
        refine hK3 _ _ ?_
        refine run_seq_k fun K9 hK9 => ?_
        refine run_region_k rfl fun J10 hJ10 => ?_
        try simp [h1, h2, c4]
        refine hJ10 _ _ ?_
        refine hK9 _ _ ?_
        refine run_ret ?_
        try simp only [Then, InBlock, NoGoto]
        refine answer_tmp rfl (.inr rfl) ?_
        exact .inr ⟨by simp, rfl⟩

theorem clone_ok {σ : St} {p : List UInt8} {tl : Tail} (hp : p.length ≤ 1000000) :
    CallsA Try.prog 80 [.sl 1 (bytesA p) p.length tl] σ (fun av σ' => av = .sl 1 (bytesA p) p.length .shut ∧ σ = σ') :=
  callsA_mono (callsA_gc_to (τ := σ) (A := .sl 1 (bytesA p) p.length .shut) (clone_raw hp) (fun av σ' h => by
    rcases h with ⟨rfl, rfl, rfl⟩ | ⟨rfl, rfl⟩
    · exact ⟨[], [], [], Wk.nil 0 1 .full, by simp⟩
    · exact ⟨[], [p.length], [], Wk.shut _ _ _ _, by simp⟩) (by simp [AV.under, under_bytes]) rfl rfl rfl rfl (fun _ _ h => .inl h) (fun _ r h => .inl ⟨r, h, rfl⟩)) (fun av σ' h => ⟨h.1, h.2.symm⟩)

theorem new_ok {σ : St} {p : List UInt8} {tl : Tail} (hp : p.length ≤ 1000000) :
    CallsA Try.prog 33 [.sl 1 (bytesA p) p.length tl] σ (fun av σ' => av = .ptr σ.objs.length 0 ∧ σ' = { σ with objs := σ.objs ++ [rd (some p)] }) := by
  refine callsA_body Try.func33 rfl rfl rfl ?_
  refine run_seq_k fun K1 hK1 => ?_
  refine run_region_k rfl fun J2 hJ2 => ?_
  try simp
  refine hJ2 _ _ ?_
  refine hK1 _ _ ?_
  refine run_seq_k fun K3 hK3 => ?_
  refine run_region_k rfl fun J4 hJ4 => ?_
  try simp
  refine runL_call' (b := true) (by first | rfl | (simp [wantedA]; done)) rfl rfl (by first | rfl | (simp [callOf]; done)) (by simp) (clone_ok hp) ?_
  rintro _ _ ⟨rfl, rfl⟩
  try simp
  refine hJ4 _ _ ?_
  refine hK3 _ _ ?_
  refine run_ret ?_
  try simp only [Then, InBlock, NoGoto]
  refine answer_tmp rfl (.inr rfl) ?_
  simp [rd]

/-- A number's bytes, none of them nought ahead. -/
def natBytes (x : Nat) : List UInt8 := if h : x = 0 then [] else natBytes (x / 256) ++ [UInt8.ofNat (x % 256)]
termination_by x
decreasing_by omega

theorem natBytes_zero : natBytes 0 = [] := by unfold natBytes; simp
theorem natBytes_pos {x : Nat} (h : 0 < x) : natBytes x = natBytes (x / 256) ++ [UInt8.ofNat (x % 256)] := by
  conv => lhs; unfold natBytes
  rw [dif_neg (by omega)]
theorem natBytes_nil {x : Nat} : natBytes x = [] ↔ x = 0 := by
  constructor
  · intro h
    apply Classical.byContradiction
    intro h0
    rw [natBytes_pos (by omega)] at h
    simp at h
  · rintro rfl; exact natBytes_zero

theorem limb_byte {x i : Nat} (hi : i < 32) : limb x (i / 8) / 2 ^ (8 * (i % 8)) % 256 = x / 256 ^ i % 256 := by
  have e : (256 : Nat) ^ i = 2 ^ (8 * i) := by rw [Nat.pow_mul]
  rw [e]
  apply Nat.eq_of_testBit_eq
  intro j
  rw [show (256 : Nat) = 2 ^ 8 by rfl]
  simp only [Nat.testBit_mod_two_pow, Nat.testBit_div_two_pow, limb_bit]
  by_cases hj : j < 8
  · have h1 : 8 * (i % 8) + j < 64 := by omega
    have h2 : 64 * (i / 8) + (j + 8 * (i % 8)) = j + 8 * i := by omega
    simp [hj, h2]
    omega
  · simp [hj]

end Go.Proofs.Ytdbaddholggkbaa

/-
  Numbers' bytes, laid.
-/
namespace Go.Proofs.Ytdbaddholggkbaa
set_option linter.unnecessarySimpa false
set_option maxRecDepth 100000
open Go Go.Vm
set_option linter.unusedSimpArgs false
set_option linter.unusedVariables false

attribute [local simp] evalL wantedA isCall opA evalA evalAll evalsA evalOpt ofValue ofCell plain binA_eql_pn binA_neq_pn binA_gtr binA_lss binA_geq binA_leq binA_add binA_sub binA_eql binA_neq binA_or binA_shl binA_shr binA_mul binA_quo binA_rem convA_int unA_not fieldAddrA loadA partA pickA lenA_sl builtinA storeA splice AV.cells AV.isCell sliceA boundA intA callOf indexAddrA newObjA buildA fillA zeroA ofCells buildSliceA

/-- Bytes of one's own that grow: nothing at first. -/
def mineS (σ : St) (l : List UInt8) : AV := if l = [] then .sl 0 [] 0 .full else .sl 1 (bytesA l) l.length (.own σ.toks.length)
def mineT (σ : St) (l : List UInt8) : St := if l = [] then σ else { σ with toks := σ.toks ++ [l.length] }

theorem mineS_nil (σ : St) : mineS σ [] = .sl 0 [] 0 .full := rfl
theorem mineT_nil (σ : St) : mineT σ [] = σ := rfl
@[local simp] theorem mineT_objs (σ : St) (l : List UInt8) : (mineT σ l).objs = σ.objs := by unfold mineT; split <;> rfl
theorem len_mine (σ : St) (l : List UInt8) : lenA Try.prog 47 (mineS σ l) = some (.v (.int .i64 (l.length : Nat))) := by
  unfold mineS
  split
  · rename_i h; subst h; simp [lenA]
  · simp
theorem app_mine (σ : St) (l q : List UInt8) (tl : Tail) (hl : l.length ≤ 1000000) (hq : q.length ≤ 1000000) (hq0 : q ≠ []) : appendA Try.prog 47 (mineS σ l) (.sl 1 (bytesA q) q.length tl) (mineT σ l) = some (mineS σ (l ++ q), mineT σ (l ++ q)) := by
  have h1 : q.length ≤ 140737488355328 := by omega
  have h2 : q.length ≤ 9223372036854775807 := by omega
  have h3 : l.length + q.length ≤ 140737488355328 := by omega
  have h4 : l.length + q.length ≤ 9223372036854775807 := by omega
  by_cases h : l = []
  · subst h
    simp [mineS, mineT, appendA, roomA, maxLen, h1, h2, hq0] ; rfl
  · simp [mineS, mineT, appendA, roomA, maxLen, h, h3, h4, hq0, bytesA_append] ; rfl

theorem toNat_ofNat {y : Nat} (h : y < 256) : (UInt8.ofNat y).toNat = y := by simp; omega

theorem nb_eq (x i : Nat) : x / 256 ^ i / 256 = x / 256 ^ (i + 1) := by rw [Nat.div_div_eq_div_mul, Nat.pow_succ]
theorem nb1 {x i : Nat} (h : ¬ x / 256 ^ i % 256 = 0 ∨ 0 < (natBytes (x / 256 ^ (i + 1))).length) : natBytes (x / 256 ^ i) = natBytes (x / 256 ^ (i + 1)) ++ [UInt8.ofNat (x / 256 ^ i % 256)] := by
  have h0 : 0 < x / 256 ^ i := by
    apply Nat.pos_of_ne_zero
    intro e
    rcases h with h | h
    · rw [e] at h; simp at h
    · rw [← nb_eq, e, Nat.zero_div, natBytes_zero] at h; simp at h
  rw [natBytes_pos h0, nb_eq]
theorem nb2 {x i : Nat} (h : x / 256 ^ i % 256 = 0) (h2 : ¬ 0 < (natBytes (x / 256 ^ (i + 1))).length) : natBytes (x / 256 ^ i) = natBytes (x / 256 ^ (i + 1)) := by
  have h3 : natBytes (x / 256 ^ (i + 1)) = [] := List.eq_nil_of_length_eq_zero (by omega)
  have h4 := natBytes_nil.1 h3
  rw [← nb_eq] at h4
  have h5 : x / 256 ^ i = 0 := by omega
  rw [h3, h5, natBytes_zero]

theorem bytes_raw {σ : St} {x : Nat} (hx : x < 2 ^ 256) :
    CallsA Try.prog 133 [.agg (numA x)] σ (fun av σ' => av = mineS { σ with objs := σ.objs ++ [numA x] } (natBytes x) ∧ σ' = mineT { σ with objs := σ.objs ++ [numA x] } (natBytes x)) := by
  obtain ⟨B, hB⟩ : ∃ B : St, B = { σ with objs := σ.objs ++ [numA x] } := ⟨_, rfl⟩
  rw [← hB]
  have hBo : B.objs = σ.objs ++ [numA x] := by rw [hB]
  refine callsA_body Try.func133 rfl rfl rfl ?_
  refine run_seq_k fun K1 hK1 => ?_
  refine run_region_k rfl fun J2 hJ2 => ?_
  try simp [hBo]
  refine hJ2 _ _ ?_
  refine hK1 _ _ ?_
  refine run_seq_k fun K3 hK3 => ?_
  refine run_region_k rfl fun J4 hJ4 => ?_
  try simp [hBo]
  refine hJ4 _ _ ?_
  refine hK3 _ _ ?_
  refine run_seq_k fun K5 hK5 => ?_
  refine run_seq_k fun K6 hK6 => ?_
  refine run_region_k rfl fun J7 hJ7 => ?_
  try simp [hBo]
  refine hJ7 _ _ ?_
  refine hK6 _ _ ?_
  refine run_block_k ?_
  refine run_loop (X := Nat) (fun k ρ σ1 => k ≤ 32 ∧ ρ 1 = .ptr σ.objs.length 0 ∧ ρ 3 = mineS B (natBytes (x / 256 ^ k)) ∧ ρ 4 = .v (.int .i64 ((k : Int) - 1)) ∧ (natBytes (x / 256 ^ k)).length ≤ 32 - k ∧ σ1 = mineT B (natBytes (x / 256 ^ k))) (fun k => k) (32) ?start ?round
  case start =>
    have h0 : x / 256 ^ 32 = 0 := Nat.div_eq_of_lt (by simpa using hx)
    rw [h0, natBytes_zero]
    simp [mineS_nil, mineT_nil, hB]
  case round =>
    rintro k ρ σ1 ⟨hk, h1, h3, h4, hl, rfl⟩
    refine run_seq_k fun K8 hK8 => ?_
    refine run_seq_k fun K9 hK9 => ?_
    refine run_region_k rfl fun J10 hJ10 => ?_
    try simp [hBo, h1, h3, h4]
    refine hJ10 _ _ ?_
    refine hK9 _ _ ?_
    refine run_cond_split rfl (fun c7 => ?_) (fun c7 => ?_)
    · try (exfalso; revert c7; simp [hBo, h1, h3, h4]; done)
      all_goals
        (try simp [hBo, h1, h3, h4] at c7)
        all_goals
          refine run_skip ?_
          refine hK8 _ _ ?_
          refine run_seq_k fun K12 hK12 => ?_
          refine run_block_k ?_
          refine run_seq_k fun K13 hK13 => ?_
          obtain ⟨i, hik⟩ : ∃ i, k = i + 1 := ⟨k - 1, by omega⟩
          have hki : (k : Int) - 1 = (i : Int) := by omega
          obtain ⟨q, hq⟩ : ∃ q, q = i / 8 := ⟨_, rfl⟩
          obtain ⟨r, hr⟩ : ∃ r, r = i % 8 := ⟨_, rfl⟩
          have hq4 : q < 4 := by omega
          have hq5 : (q : Int) < 4 := by omega
          have hr8 : r < 8 := by omega
          have hqq : IntKind.i64.wrap ((i : Int).tdiv 8) = (q : Int) := by rw [Int.tdiv_eq_ediv_of_nonneg (by omega), wrap_i64 _ (by omega) (by omega)]; omega
          have hrr : (i : Int).tmod 8 = (r : Int) := by rw [Int.tmod_eq_emod_of_nonneg (by omega)]; omega
          have hq2 : IntKind.i64.wrap ((i : Int) / 8) = (q : Int) := by rw [wrap_i64 _ (by omega) (by omega)]; omega
          have hr2 : (i : Int) % 8 = (r : Int) := by omega
          have hm8 : IntKind.i64.wrap (8 * (r : Int)) = 8 * (r : Int) := wrap_i64 _ (by omega) (by omega)
          have hnn : ¬ 8 * (r : Int) < 0 := by omega
          obtain ⟨y, hy⟩ : ∃ y, y = x / 256 ^ i % 256 := ⟨_, rfl⟩
          have hy256 : y < 256 := by omega
          obtain ⟨c, hc⟩ : ∃ c, c = UInt8.ofNat y := ⟨_, rfl⟩
          have hcn : c.toNat = y := by rw [hc]; exact toNat_ofNat hy256
          obtain ⟨m, hm⟩ : ∃ m, m = limb x q / 2 ^ (8 * r) := ⟨_, rfl⟩
          have hmy : m % 256 = y := by rw [hm, hq, hr, hy]; exact limb_byte (by omega)
          have hsh : Int.fdiv ((limb x q : Nat) : Int) (2 ^ (min (8 * (r : Int)).toNat 64)) = (m : Int) := by rw [show min (8 * (r : Int)).toNat 64 = 8 * r by omega, Int.fdiv_eq_ediv_of_nonneg _ (by exact Int.le_of_lt (Int.pow_pos (by omega))), hm]; simp
          have hcv : IntKind.u8.wrap (m : Int) = (c.toNat : Int) := by rw [wrap_u8, hmy, hcn]
          have hget := numA_get x hq4
          have hlen := len_mine B (natBytes (x / 256 ^ k))
          have happ := app_mine B (natBytes (x / 256 ^ k)) [c] .full (by omega) (by simp) (by simp)
          have happ2 : appendA Try.prog 47 (mineS B (natBytes (x / 256 ^ k))) (.sl 1 [.v (.int .u8 c.toNat)] 1 .full) (mineT B (natBytes (x / 256 ^ k))) = some (mineS B (natBytes (x / 256 ^ k) ++ [c]), mineT B (natBytes (x / 256 ^ k) ++ [c])) := happ
          have happ3 : c.toNat = 0 → appendA Try.prog 47 (mineS B (natBytes (x / 256 ^ k))) (.sl 1 [.v (.int .u8 0)] 1 .full) (mineT B (natBytes (x / 256 ^ k))) = some (mineS B (natBytes (x / 256 ^ k) ++ [c]), mineT B (natBytes (x / 256 ^ k) ++ [c])) := fun h => by rw [h] at happ2; exact happ2
          have hwi : IntKind.i64.wrap ((i : Int) - 1) = (i : Int) - 1 := wrap_i64 _ (by omega) (by omega)
          refine run_region_k rfl fun J14 hJ14 => ?_
          try simp [hBo, h1, h3, h4, c7, hki, hwi, hqq, hrr, hq2, hr2, hq4, hq5, hm8, hnn, hsh, hcv, hget, hlen, happ2, happ3]
          refine hJ14 _ _ ?_
          refine hK13 _ _ ?_
          refine run_seq_k fun K15 hK15 => ?_
          refine run_region_k rfl fun J16 hJ16 => ?_
          try simp [hBo, h1, h3, h4, c7, hki, hwi, hqq, hrr, hq2, hr2, hq4, hq5, hm8, hnn, hsh, hcv, hget, hlen, happ2, happ3]
          refine runL_split rfl (fun g6_2 => ?_) (fun g6_2 => ?_)
          · try (exfalso; revert g6_2; simp [hBo, h1, h3, h4, c7, hki, hwi, hqq, hrr, hq2, hr2, hq4, hq5, hm8, hnn, hsh, hcv, hget, hlen, happ2, happ3, g6_2]; done)
            all_goals
              (try simp [hBo, h1, h3, h4, c7, hki, hwi, hqq, hrr, hq2, hr2, hq4, hq5, hm8, hnn, hsh, hcv, hget, hlen, happ2, happ3] at g6_2)
              all_goals
                refine runL_go (by first | rfl | (simp [hBo, h1, h3, h4, c7, hki, hwi, hqq, hrr, hq2, hr2, hq4, hq5, hm8, hnn, hsh, hcv, hget, hlen, happ2, happ3, g6_2, wantedA]; done)) rfl ?_
                try simp [hBo, h1, h3, h4, c7, hki, hwi, hqq, hrr, hq2, hr2, hq4, hq5, hm8, hnn, hsh, hcv, hget, hlen, happ2, happ3, g6_2]
                refine runL_go (by first | rfl | (simp [hBo, h1, h3, h4, c7, hki, hwi, hqq, hrr, hq2, hr2, hq4, hq5, hm8, hnn, hsh, hcv, hget, hlen, happ2, happ3, g6_2, wantedA]; done)) rfl ?_
                try simp [hBo, h1, h3, h4, c7, hki, hwi, hqq, hrr, hq2, hr2, hq4, hq5, hm8, hnn, hsh, hcv, hget, hlen, happ2, happ3, g6_2]
                refine runL_go (by first | rfl | (simp [hBo, h1, h3, h4, c7, hki, hwi, hqq, hrr, hq2, hr2, hq4, hq5, hm8, hnn, hsh, hcv, hget, hlen, happ2, happ3, g6_2, wantedA]; done)) rfl ?_
                try simp [hBo, h1, h3, h4, c7, hki, hwi, hqq, hrr, hq2, hr2, hq4, hq5, hm8, hnn, hsh, hcv, hget, hlen, happ2, happ3, g6_2]
                refine hJ16 _ _ ?_
                refine hK15 _ _ ?_
                refine run_cond_split rfl (fun c25 => ?_) (fun c25 => ?_)
                · try (exfalso; revert c25; simp [hBo, h1, h3, h4, c7, hki, hwi, hqq, hrr, hq2, hr2, hq4, hq5, hm8, hnn, hsh, hcv, hget, hlen, happ2, happ3, g6_2]; done)
                  all_goals
                    (try simp [hBo, h1, h3, h4, c7, hki, hwi, hqq, hrr, hq2, hr2, hq4, hq5, hm8, hnn, hsh, hcv, hget, hlen, happ2, happ3, g6_2] at c25)
                    all_goals
                      refine run_region_k rfl fun J18 hJ18 => ?_
                      try simp [hBo, h1, h3, h4, c7, hki, hwi, hqq, hrr, hq2, hr2, hq4, hq5, hm8, hnn, hsh, hcv, hget, hlen, happ2, happ3, g6_2, c25]
                      refine hJ18 _ _ ?_
                      refine hK12 _ _ ?_
                      refine run_region_k rfl fun J19 hJ19 => ?_
                      try simp [hBo, h1, h3, h4, c7, hki, hwi, hqq, hrr, hq2, hr2, hq4, hq5, hm8, hnn, hsh, hcv, hget, hlen, happ2, happ3, g6_2, c25]
                      refine hJ19 _ _ ?_
                      first | (have e : natBytes (x / 256 ^ i) = natBytes (x / 256 ^ k) ++ [c] := (by rw [hik, hc, hy]; exact nb1 (by first | (right; rw [← hik]; exact c25) | (left; omega))); exact ⟨i, ⟨by omega, by simp [h1], by rw [e]; simp, by simp, by rw [e]; simp; omega, by rw [e]⟩, by omega⟩) | (have e : natBytes (x / 256 ^ i) = natBytes (x / 256 ^ k) := (by rw [hik]; exact nb2 (by omega) (by rw [← hik, c25]; simp)); exact ⟨i, ⟨by omega, by simp [h1], by rw [e]; simp [h3], by simp, by rw [e]; omega, by rw [e, c25]⟩, by omega⟩)
                · try (exfalso; revert c25; simp [hBo, h1, h3, h4, c7, hki, hwi, hqq, hrr, hq2, hr2, hq4, hq5, hm8, hnn, hsh, hcv, hget, hlen, happ2, happ3, g6_2]; done)
                  all_goals
                    (try simp [hBo, h1, h3, h4, c7, hki, hwi, hqq, hrr, hq2, hr2, hq4, hq5, hm8, hnn, hsh, hcv, hget, hlen, happ2, happ3, g6_2] at c25)
                    all_goals
                      refine run_skip ?_
                      refine hK12 _ _ ?_
                      refine run_region_k rfl fun J20 hJ20 => ?_
                      try simp [hBo, h1, h3, h4, c7, hki, hwi, hqq, hrr, hq2, hr2, hq4, hq5, hm8, hnn, hsh, hcv, hget, hlen, happ2, happ3, g6_2, c25]
                      refine hJ20 _ _ ?_
                      first | (have e : natBytes (x / 256 ^ i) = natBytes (x / 256 ^ k) ++ [c] := (by rw [hik, hc, hy]; exact nb1 (by first | (right; rw [← hik]; exact c25) | (left; omega))); exact ⟨i, ⟨by omega, by simp [h1], by rw [e]; simp, by simp, by rw [e]; simp; omega, by rw [e]⟩, by omega⟩) | (have e : natBytes (x / 256 ^ i) = natBytes (x / 256 ^ k) := (by rw [hik]; exact nb2 (by omega) (by rw [← hik, c25]; simp)); exact ⟨i, ⟨by omega, by simp [h1], by rw [e]; simp [h3], by simp, by rw [e]; omega, by rw [e, c25]⟩, by omega⟩)
          · try (exfalso; revert g6_2; simp [hBo, h1, h3, h4, c7, hki, hwi, hqq, hrr, hq2, hr2, hq4, hq5, hm8, hnn, hsh, hcv, hget, hlen, happ2, happ3, g6_2]; done)
            all_goals
              (try simp [hBo, h1, h3, h4, c7, hki, hwi, hqq, hrr, hq2, hr2, hq4, hq5, hm8, hnn, hsh, hcv, hget, hlen, happ2, happ3] at g6_2)
              all_goals
                refine runL_no (by first | rfl | (simp [hBo, h1, h3, h4, c7, hki, hwi, hqq, hrr, hq2, hr2, hq4, hq5, hm8, hnn, hsh, hcv, hget, hlen, happ2, happ3, g6_2, wantedA]; done)) rfl ?_
                try simp [hBo, h1, h3, h4, c7, hki, hwi, hqq, hrr, hq2, hr2, hq4, hq5, hm8, hnn, hsh, hcv, hget, hlen, happ2, happ3, g6_2]
                refine runL_no (by first | rfl | (simp [hBo, h1, h3, h4, c7, hki, hwi, hqq, hrr, hq2, hr2, hq4, hq5, hm8, hnn, hsh, hcv, hget, hlen, happ2, happ3, g6_2, wantedA]; done)) rfl ?_
                try simp [hBo, h1, h3, h4, c7, hki, hwi, hqq, hrr, hq2, hr2, hq4, hq5, hm8, hnn, hsh, hcv, hget, hlen, happ2, happ3, g6_2]
                refine runL_no (by first | rfl | (simp [hBo, h1, h3, h4, c7, hki, hwi, hqq, hrr, hq2, hr2, hq4, hq5, hm8, hnn, hsh, hcv, hget, hlen, happ2, happ3, g6_2, wantedA]; done)) rfl ?_
                try simp [hBo, h1, h3, h4, c7, hki, hwi, hqq, hrr, hq2, hr2, hq4, hq5, hm8, hnn, hsh, hcv, hget, hlen, happ2, happ3, g6_2]
                refine hJ16 _ _ ?_
                refine hK15 _ _ ?_
                refine run_cond_split rfl (fun c25 => ?_) (fun c25 => ?_)
                · try (exfalso; revert c25; simp [hBo, h1, h3, h4, c7, hki, hwi, hqq, hrr, hq2, hr2, hq4, hq5, hm8, hnn, hsh, hcv, hget, hlen, happ2, happ3, g6_2]; done)
                  all_goals
                    (try simp [hBo, h1, h3, h4, c7, hki, hwi, hqq, hrr, hq2, hr2, hq4, hq5, hm8, hnn, hsh, hcv, hget, hlen, happ2, happ3, g6_2] at c25)
                    all_goals
                      refine run_region_k rfl fun J22 hJ22 => ?_
                      try simp [hBo, h1, h3, h4, c7, hki, hwi, hqq, hrr, hq2, hr2, hq4, hq5, hm8, hnn, hsh, hcv, hget, hlen, happ2, happ3, g6_2, c25]
                      refine hJ22 _ _ ?_
                      refine hK12 _ _ ?_
                      refine run_region_k rfl fun J23 hJ23 => ?_
                      try simp [hBo, h1, h3, h4, c7, hki, hwi, hqq, hrr, hq2, hr2, hq4, hq5, hm8, hnn, hsh, hcv, hget, hlen, happ2, happ3, g6_2, c25]
                      refine hJ23 _ _ ?_
                      first | (have e : natBytes (x / 256 ^ i) = natBytes (x / 256 ^ k) ++ [c] := (by rw [hik, hc, hy]; exact nb1 (by first | (right; rw [← hik]; exact c25) | (left; omega))); exact ⟨i, ⟨by omega, by simp [h1], by rw [e]; simp, by simp, by rw [e]; simp; omega, by rw [e]⟩, by omega⟩) | (have e : natBytes (x / 256 ^ i) = natBytes (x / 256 ^ k) := (by rw [hik]; exact nb2 (by omega) (by rw [← hik, c25]; simp)); exact ⟨i, ⟨by omega, by simp [h1], by rw [e]; simp [h3], by simp, by rw [e]; omega, by rw [e, c25]⟩, by omega⟩)
                · try (exfalso; revert c25; simp [hBo, h1, h3, h4, c7, hki, hwi, hqq, hrr, hq2, hr2, hq4, hq5, hm8, hnn, hsh, hcv, hget, hlen, happ2, happ3, g6_2]; done)
                  all_goals
                    (try simp [hBo, h1, h3, h4, c7, hki, hwi, hqq, hrr, hq2, hr2, hq4, hq5, hm8, hnn, hsh, hcv, hget, hlen, happ2, happ3, g6_2] at c25)
                    all_goals
                      refine run_skip ?_
                      refine hK12 _ _ ?_
                      refine run_region_k rfl fun J24 hJ24 => ?_
                      try simp [hBo, h1, h3, h4, c7, hki, hwi, hqq, hrr, hq2, hr2, hq4, hq5, hm8, hnn, hsh, hcv, hget, hlen, happ2, happ3, g6_2, c25]
                      refine hJ24 _ _ ?_
                      first | (have e : natBytes (x / 256 ^ i) = natBytes (x / 256 ^ k) ++ [c] := (by rw [hik, hc, hy]; exact nb1 (by first | (right; rw [← hik]; exact c25) | (left; omega))); exact ⟨i, ⟨by omega, by simp [h1], by rw [e]; simp, by simp, by rw [e]; simp; omega, by rw [e]⟩, by omega⟩) | (have e : natBytes (x / 256 ^ i) = natBytes (x / 256 ^ k) := (by rw [hik]; exact nb2 (by omega) (by rw [← hik, c25]; simp)); exact ⟨i, ⟨by omega, by simp [h1], by rw [e]; simp [h3], by simp, by rw [e]; omega, by rw [e, c25]⟩, by omega⟩)
    · try (exfalso; revert c7; simp [hBo, h1, h3, h4]; done)
      all_goals
        (try simp [hBo, h1, h3, h4] at c7)
        all_goals
          refine run_exit ?_
          refine hK5 _ _ ?_
          refine run_seq_k fun K25 hK25 => ?_
          refine run_region_k rfl fun J26 hJ26 => ?_
          try simp [hBo, h1, h3, h4, c7]
          refine hJ26 _ _ ?_
          refine hK25 _ _ ?_
          refine run_ret ?_
          try simp only [Then, InBlock, NoGoto]
          refine answer_tmp rfl (.inr rfl) ?_
          have hk0 : k = 0 := by omega
          subst hk0
          simp

theorem mineS_wk (σ : St) (l : List UInt8) : Wk (mineS σ l) (.sl 1 (bytesA l) l.length .shut) := by
  unfold mineS
  split
  · rename_i h; subst h; exact Wk.nil 0 1 .full
  · exact Wk.shut _ _ _ _

theorem bytes_ok {σ : St} {x : Nat} (hx : x < 2 ^ 256) :
    CallsA Try.prog 133 [.agg (numA x)] σ (fun av σ' => av = .sl 1 (bytesA (natBytes x)) (natBytes x).length .shut ∧ σ = σ') :=
  callsA_gc_same (bytes_raw hx) (fun av σ' ⟨h1, h2⟩ => ⟨h1 ▸ mineS_wk _ _, by
    rw [h2]
    unfold mineT
    split
    · exact ⟨[numA x], [], [], by simp⟩
    · exact ⟨[numA x], [(natBytes x).length], [], by simp⟩⟩) (by simp [AV.under, under_bytes])

end Go.Proofs.Ytdbaddholggkbaa

/-
  The codec's writer; the layer's example.
-/
namespace Go.Proofs.Ytdbaddholggkbaa
set_option linter.unnecessarySimpa false
set_option maxRecDepth 100000
open Go Go.Vm
set_option linter.unusedSimpArgs false
set_option linter.unusedVariables false

attribute [local simp] evalL wantedA isCall opA evalA evalAll evalsA evalOpt ofValue ofCell plain binA_eql_pn binA_neq_pn binA_gtr binA_lss binA_geq binA_leq binA_add binA_sub binA_eql binA_neq binA_or binA_shl binA_shr binA_mul binA_quo binA_rem convA_int unA_not fieldAddrA loadA partA pickA lenA builtinA storeA splice AV.cells AV.isCell sliceA boundA intA callOf indexAddrA newObjA buildA fillA zeroA ofCells buildSliceA appendA roomA maxLen

theorem lay_new {σ : St} {id : Nat} {q : List UInt8} {tq : Tail} (h : σ.objs[id]? = some [.sl 0 [] 0 .full]) (hq : q.length ≤ 1000000) :
    CallsA Try.prog 129 [.ptr id 0, .sl 1 (bytesA q) q.length tq] σ (fun av σ' => av = .ptr id 0 ∧ σ' = { σ with objs := σ.objs.set id [.sl 1 (bytesA q) q.length (.own σ.toks.length)], toks := σ.toks ++ [q.length] }) := by
  have hs := set_self_of h
  have h1 : q.length ≤ 140737488355328 := by omega
  have h2 : q.length ≤ 9223372036854775807 := by omega
  have hv : (Value.int IntKind.u8 0).cells.size = 1 := rfl
  refine callsA_body Try.func129 rfl rfl rfl ?_
  refine run_seq_k fun K1 hK1 => ?_
  refine run_region_k rfl fun J2 hJ2 => ?_
  try simp [h, hs, h1, h2, hv]
  refine hJ2 _ _ ?_
  refine hK1 _ _ ?_
  refine run_seq_k fun K3 hK3 => ?_
  refine run_seq_k fun K4 hK4 => ?_
  refine run_region_k rfl fun J5 hJ5 => ?_
  try simp [h, hs, h1, h2, hv]
  refine hJ5 _ _ ?_
  refine hK4 _ _ ?_
  refine run_cond_true (by first | rfl | (simp [h, hs, h1, h2, hv, evalA]; done)) ?_
  refine run_region_k rfl fun J6 hJ6 => ?_
  try simp [h, hs, h1, h2, hv]
  refine hJ6 _ _ ?_
  refine hK3 _ _ ?_
  refine run_seq_k fun K7 hK7 => ?_
  refine run_region_k rfl fun J8 hJ8 => ?_
  try simp [h, hs, h1, h2, hv]
  refine hJ8 _ _ ?_
  refine hK7 _ _ ?_
  refine run_ret ?_
  try simp only [Then, InBlock, NoGoto]
  refine answer_tmp rfl (.inr rfl) ?_
  simp [h, hs, h1, h2, hv]

theorem lay_more {σ : St} {id k : Nat} {l q : List UInt8} {tq : Tail} (h : σ.objs[id]? = some [.sl 1 (bytesA l) l.length (.own k)]) (hk : σ.toks[k]? = some l.length) (hl : l.length ≤ 1000000) (hq : q.length ≤ 1000000) :
    CallsA Try.prog 129 [.ptr id 0, .sl 1 (bytesA q) q.length tq] σ (fun av σ' => av = .ptr id 0 ∧ σ' = { σ with objs := σ.objs.set id [.sl 1 (bytesA (l ++ q)) (l ++ q).length (.own k)], toks := σ.toks.set k (l ++ q).length }) := by
  have hs := set_self_of h
  have h1 : l.length + q.length ≤ 140737488355328 := by omega
  have h2 : l.length + q.length ≤ 9223372036854775807 := by omega
  have hv : (Value.int IntKind.u8 0).cells.size = 1 := rfl
  refine callsA_body Try.func129 rfl rfl rfl ?_
  refine run_seq_k fun K1 hK1 => ?_
  refine run_region_k rfl fun J2 hJ2 => ?_
  try simp [h, hs, h1, h2, hv, hk, bytesA_append]
  refine hJ2 _ _ ?_
  refine hK1 _ _ ?_
  refine run_seq_k fun K3 hK3 => ?_
  refine run_seq_k fun K4 hK4 => ?_
  refine run_region_k rfl fun J5 hJ5 => ?_
  try simp [h, hs, h1, h2, hv, hk, bytesA_append]
  refine hJ5 _ _ ?_
  refine hK4 _ _ ?_
  refine run_cond_true (by first | rfl | (simp [h, hs, h1, h2, hv, hk, bytesA_append, evalA]; done)) ?_
  refine run_region_k rfl fun J6 hJ6 => ?_
  try simp [h, hs, h1, h2, hv, hk, bytesA_append]
  refine hJ6 _ _ ?_
  refine hK3 _ _ ?_
  refine run_seq_k fun K7 hK7 => ?_
  refine run_region_k rfl fun J8 hJ8 => ?_
  try simp [h, hs, h1, h2, hv, hk, bytesA_append]
  refine hJ8 _ _ ?_
  refine hK7 _ _ ?_
  refine run_ret ?_
  try simp only [Then, InBlock, NoGoto]
  refine answer_tmp rfl (.inr rfl) ?_
  simp [h, hs, h1, h2, hv, hk, bytesA_append]

theorem same_ok {σ : St} {p q : List UInt8} {t1 t2 : Tail} (hp : p.length ≤ 1000000) :
    CallsA Try.prog 42 [.sl 1 (bytesA p) p.length t1, .sl 1 (bytesA q) q.length t2] σ (fun av σ' => av = .v (.bool (p == q)) ∧ σ = σ') := by
  by_cases hl : p.length = q.length
  · have hi : ((p.length : Int) != q.length) = false := by simp; omega
    refine callsA_body Try.func42 rfl rfl rfl ?_
    refine run_seq_k fun K1 hK1 => ?_
    refine run_region_k rfl fun J2 hJ2 => ?_
    try simp
    refine hJ2 _ _ ?_
    refine hK1 _ _ ?_
    refine run_seq_k fun K3 hK3 => ?_
    refine run_seq_k fun K4 hK4 => ?_
    refine run_region_k rfl fun J5 hJ5 => ?_
    try simp
    refine hJ5 _ _ ?_
    refine hK4 _ _ ?_
    refine run_cond_false (by first | rfl | (simp [evalA, hl]; done)) ?_
    refine run_skip ?_
    refine hK3 _ _ ?_
    refine run_seq_k fun K6 hK6 => ?_
    refine run_seq_k fun K7 hK7 => ?_
    refine run_region_k rfl fun J8 hJ8 => ?_
    try simp
    refine hJ8 _ _ ?_
    refine hK7 _ _ ?_
    refine run_block_k ?_
    refine run_loop (X := Nat) (fun k ρ σ1 => k ≤ p.length ∧ p.take k = q.take k ∧ ρ 0 = .sl 1 (bytesA p) p.length t1 ∧ ρ 1 = .sl 1 (bytesA q) q.length t2 ∧ ρ 5 = .v (.int .i64 k) ∧ σ1 = σ) (fun k => p.length - k) (0) ?start ?round
    case start =>
      simp
    case round =>
      rintro k ρ σ1 ⟨hk, ht, h0, h1, h5, rfl⟩
      refine run_seq_k fun K9 hK9 => ?_
      refine run_seq_k fun K10 hK10 => ?_
      refine run_region_k rfl fun J11 hJ11 => ?_
      try simp [h0, h1, h5]
      refine hJ11 _ _ ?_
      refine hK10 _ _ ?_
      refine run_cond_split rfl (fun c14 => ?_) (fun c14 => ?_)
      · try (exfalso; revert c14; simp [h0, h1, h5]; done)
        all_goals
          (try simp [h0, h1, h5] at c14)
          all_goals
            refine run_skip ?_
            refine hK9 _ _ ?_
            refine run_seq_k fun K13 hK13 => ?_
            refine run_block_k ?_
            refine run_seq_k fun K14 hK14 => ?_
            have hq : k < q.length := by omega
            have hqi : (k : Int) < q.length := by omega
            have hwk : IntKind.i64.wrap ((k : Int) + 1) = (k : Int) + 1 := wrap_i64 _ (by omega) (by omega)
            refine run_draw (by kernel_rfl) fun J15 hJ15 => ?_
            refine runD_pure' 0 (by kernel_rfl) rfl rfl (by kernel_rfl) (by kernel_rfl) (by kernel_rfl) (by kernel_rfl) ?_
            try simp [h0, h1, h5, c14, hq, hqi, hwk]
            refine runD_pure' 1 (by kernel_rfl) rfl rfl (by kernel_rfl) (by kernel_rfl) (by kernel_rfl) (by kernel_rfl) ?_
            try simp [h0, h1, h5, c14, hq, hqi, hwk]
            refine runD_pure' 2 (by kernel_rfl) rfl rfl (by kernel_rfl) (by kernel_rfl) (by kernel_rfl) (by kernel_rfl) ?_
            try simp [h0, h1, h5, c14, hq, hqi, hwk]
            refine runD_pure' 3 (by kernel_rfl) rfl rfl (by kernel_rfl) (by kernel_rfl) (by kernel_rfl) (by kernel_rfl) ?_
            try simp [h0, h1, h5, c14, hq, hqi, hwk]
            refine runD_pure' 4 (by kernel_rfl) rfl rfl (by kernel_rfl) (by kernel_rfl) (by kernel_rfl) (by kernel_rfl) ?_
            try simp [h0, h1, h5, c14, hq, hqi, hwk]
            refine runD_pure' 5 (by kernel_rfl) rfl rfl (by kernel_rfl) (by kernel_rfl) (by kernel_rfl) (by kernel_rfl) ?_
            try simp [h0, h1, h5, c14, hq, hqi, hwk]
            refine runD_pure' 6 (by kernel_rfl) rfl rfl (by kernel_rfl) (by kernel_rfl) (by kernel_rfl) (by kernel_rfl) ?_
            try simp [h0, h1, h5, c14, hq, hqi, hwk]
            refine runD_pure' 7 (by kernel_rfl) rfl rfl (by kernel_rfl) (by kernel_rfl) (by kernel_rfl) (by kernel_rfl) ?_
            try simp [h0, h1, h5, c14, hq, hqi, hwk]
            refine runD_pure' 8 (by kernel_rfl) rfl rfl (by kernel_rfl) (by kernel_rfl) (by kernel_rfl) (by kernel_rfl) ?_
            try simp [h0, h1, h5, c14, hq, hqi, hwk]
            refine runD_done (by kernel_rfl) (by kernel_rfl) (by kernel_rfl) ?_
            refine hJ15 _ _ ?_
            refine hK14 _ _ ?_
            refine run_cond_split rfl (fun c25 => ?_) (fun c25 => ?_)
            · try (exfalso; revert c25; simp [h0, h1, h5, c14, hq, hqi, hwk]; done)
              all_goals
                (try simp [h0, h1, h5, c14, hq, hqi, hwk] at c25)
                all_goals
                  refine run_seq_k fun K17 hK17 => ?_
                  refine run_region_k rfl fun J18 hJ18 => ?_
                  try simp [h0, h1, h5, c14, hq, hqi, hwk, c25]
                  refine hJ18 _ _ ?_
                  refine hK17 _ _ ?_
                  refine run_ret ?_
                  try simp only [Then, InBlock, NoGoto]
                  refine answer_tmp rfl (.inr rfl) ?_
                  have hne : (p == q) = false := by simp; intro e; subst e; exact c25 rfl
                  simp [hne]
            · try (exfalso; revert c25; simp [h0, h1, h5, c14, hq, hqi, hwk]; done)
              all_goals
                (try simp [h0, h1, h5, c14, hq, hqi, hwk] at c25)
                all_goals
                  refine run_skip ?_
                  refine hK13 _ _ ?_
                  refine run_region_k rfl fun J19 hJ19 => ?_
                  try simp [h0, h1, h5, c14, hq, hqi, hwk, c25]
                  refine hJ19 _ _ ?_
                  refine ⟨k + 1, ⟨by omega, ?_, by simp [h0], by simp [h1], by simp, rfl⟩, by omega⟩
                  have e : p[k] = q[k] := UInt8.toNat_inj.1 (by omega)
                  rw [take_succ (by omega), take_succ hq, ht, e]
      · try (exfalso; revert c14; simp [h0, h1, h5]; done)
        all_goals
          (try simp [h0, h1, h5] at c14)
          all_goals
            refine run_exit ?_
            refine hK6 _ _ ?_
            refine run_seq_k fun K20 hK20 => ?_
            refine run_region_k rfl fun J21 hJ21 => ?_
            try simp [h0, h1, h5, c14]
            refine hJ21 _ _ ?_
            refine hK20 _ _ ?_
            refine run_ret ?_
            try simp only [Then, InBlock, NoGoto]
            refine answer_tmp rfl (.inr rfl) ?_
            have he : p = q := by rw [← List.take_of_length_le (l := p) (i := k) (by omega), ← List.take_of_length_le (l := q) (i := k) (by omega), ht]
            simp [he]
  · have hi : ((p.length : Int) != q.length) = true := by simp; omega
    have hne : (p == q) = false := by simp; intro e; exact hl (by rw [e])
    have hl' : ¬ (p.length : Int) = q.length := by omega
    refine callsA_body Try.func42 rfl rfl rfl ?_
    refine run_seq_k fun K1 hK1 => ?_
    refine run_region_k rfl fun J2 hJ2 => ?_
    try simp
    refine hJ2 _ _ ?_
    refine hK1 _ _ ?_
    refine run_seq_k fun K3 hK3 => ?_
    refine run_seq_k fun K4 hK4 => ?_
    refine run_region_k rfl fun J5 hJ5 => ?_
    try simp
    refine hJ5 _ _ ?_
    refine hK4 _ _ ?_
    refine run_cond_true (by first | rfl | (simp [evalA]; omega; done)) ?_
    refine run_seq_k fun K6 hK6 => ?_
    refine run_region_k rfl fun J7 hJ7 => ?_
    try simp
    refine hJ7 _ _ ?_
    refine hK6 _ _ ?_
    refine run_ret ?_
    try simp only [Then, InBlock, NoGoto]
    refine answer_tmp rfl (.inr rfl) ?_
    simp [hne]

theorem done_ok {σ : St} {id : Nat} {p : List UInt8} {tl : Tail} (h : σ.objs[id]? = some [.sl 1 (bytesA p) p.length tl]) (hp : p.length ≤ 1000000) :
    CallsA Try.prog 41 [.ptr id 0] σ (fun av σ' => av = .sl 1 (bytesA p) p.length .shut ∧ σ = σ') := by
  refine callsA_body Try.func41 rfl rfl rfl ?_
  refine run_seq_k fun K1 hK1 => ?_
  refine run_region_k rfl fun J2 hJ2 => ?_
  try simp [h]
  refine hJ2 _ _ ?_
  refine hK1 _ _ ?_
  refine run_seq_k fun K3 hK3 => ?_
  refine run_seq_k fun K4 hK4 => ?_
  refine run_region_k rfl fun J5 hJ5 => ?_
  try simp [h]
  refine hJ5 _ _ ?_
  refine hK4 _ _ ?_
  refine run_cond_false (by first | rfl | (simp [h, evalA]; done)) ?_
  refine run_skip ?_
  refine hK3 _ _ ?_
  refine run_seq_k fun K6 hK6 => ?_
  refine run_region_k rfl fun J7 hJ7 => ?_
  try simp [h]
  refine runL_call' (b := true) (by first | rfl | (simp [h, wantedA]; done)) rfl rfl (by first | rfl | (simp [h, callOf]; done)) (by simp) (clone_ok hp) ?_
  rintro _ _ ⟨rfl, rfl⟩
  try simp [h]
  refine hJ7 _ _ ?_
  refine hK6 _ _ ?_
  refine run_ret ?_
  try simp only [Then, InBlock, NoGoto]
  refine answer_tmp rfl (.inr rfl) ?_
  simp [h]

theorem natBytes_len (x k : Nat) (h : x < 256 ^ k) : (natBytes x).length ≤ k := by
  induction k generalizing x with
  | zero =>
    have : x = 0 := by simpa using h
    subst this; simp [natBytes_zero]
  | succ k ih =>
    by_cases h0 : x = 0
    · subst h0; simp [natBytes_zero]
    · rw [natBytes_pos (by omega)]
      have : x / 256 < 256 ^ k := by rw [Nat.div_lt_iff_lt_mul (by omega)]; rwa [Nat.pow_succ] at h
      have := ih _ this
      simp; omega

end Go.Proofs.Ytdbaddholggkbaa

/-
  Behind a fault: nothing is read any more.
-/
namespace Go.Proofs.Ytdbaddholggkbaa
set_option linter.unnecessarySimpa false
set_option maxRecDepth 100000
open Go Go.Vm
set_option linter.unusedSimpArgs false
set_option linter.unusedVariables false

attribute [local simp] evalL wantedA isCall opA evalA evalAll evalsA evalOpt ofValue ofCell plain binA_eql_pn binA_neq_pn binA_gtr binA_lss binA_geq binA_leq binA_add binA_sub binA_eql binA_neq binA_or binA_shl binA_shr binA_mul binA_quo binA_rem convA_int unA_not fieldAddrA loadA partA pickA_true pickA_false pickA_bb lenA builtinA storeA splice AV.cells AV.isCell sliceA boundA intA callOf indexAddrA newObjA buildA fillA zeroA ofCells buildSliceA

theorem right_nil {σ : St} : CallsA Try.prog 97 [.sl 0 [] 0 .full] σ (fun av σ' => av = .v (.bool true) ∧ σ = σ') := by
  refine callsA_body Try.func97 rfl rfl rfl ?_
  refine run_seq_k fun K1 hK1 => ?_
  refine run_region_k rfl fun J2 hJ2 => ?_
  try simp
  refine hJ2 _ _ ?_
  refine hK1 _ _ ?_
  refine run_seq_k fun K3 hK3 => ?_
  refine run_seq_k fun K4 hK4 => ?_
  refine run_region_k rfl fun J5 hJ5 => ?_
  try simp
  refine hJ5 _ _ ?_
  refine hK4 _ _ ?_
  refine run_block_k ?_
  refine run_loop (X := Unit) (fun _ ρ σ1 => ρ 6 = .v (.int .i64 0) ∧ ρ 7 = .v (.int .i64 0) ∧ σ1 = σ) (fun _ => 0) (()) ?start ?round
  case start =>
    simp
  case round =>
    rintro _ ρ σ1 ⟨h6, h7, rfl⟩
    refine run_seq_k fun K6 hK6 => ?_
    refine run_region_k rfl fun J7 hJ7 => ?_
    try simp [h6, h7]
    refine hJ7 _ _ ?_
    refine hK6 _ _ ?_
    refine run_seq_k fun K8 hK8 => ?_
    refine run_cond_false (by first | rfl | (simp [h6, h7, evalA]; done)) ?_
    refine run_exit ?_
    refine hK3 _ _ ?_
    refine run_seq_k fun K9 hK9 => ?_
    refine run_region_k rfl fun J10 hJ10 => ?_
    try simp [h6, h7]
    refine hJ10 _ _ ?_
    refine hK9 _ _ ?_
    refine run_ret ?_
    try simp only [Then, InBlock, NoGoto]
    refine answer_tmp rfl (.inr rfl) ?_
    simp [h6, h7]

end Go.Proofs.Ytdbaddholggkbaa

/-
  Lists of coins: may they be? are they alike?
-/
namespace Go.Proofs.Ytdbaddholggkbaa
set_option linter.unnecessarySimpa false
set_option maxRecDepth 100000
open Go Go.Vm
set_option linter.unusedSimpArgs false
set_option linter.unusedVariables false

attribute [local simp] evalL wantedA isCall opA evalA evalAll evalsA evalOpt ofValue ofCell plain binA_eql_pn binA_neq_pn binA_gtr binA_lss binA_geq binA_leq binA_add binA_sub binA_eql binA_neq binA_or binA_shl binA_shr binA_mul binA_quo binA_rem binA_agg_eql binA_agg_neq convA_int unA_not fieldAddrA loadA partA pickA_true pickA_false pickA_bb lenA builtinA storeA splice AV.cells AV.isCell sliceA boundA intA callOf indexAddrA newObjA buildA fillA zeroA ofCells buildSliceA indexA fieldA coinsC_at coinC List.getElem?_cons_zero List.getElem?_cons_succ

set_option maxHeartbeats 1600000 in
attribute [local simp] undefA List.getElem?_cons_zero List.getElem?_cons_succ numA in
theorem zero_ok {σ : St} {x : Num} : CallsA Try.prog 79 [.agg (numA x.v)] σ (fun av σ' => av = .v (.bool (decide (x.v = 0))) ∧ σ = σ') := by
  have hz : decide (x.v = 0) = (((limb x.v 0 : Int) == 0) && ((limb x.v 1 : Int) == 0) && ((limb x.v 2 : Int) == 0) && ((limb x.v 3 : Int) == 0)) := by
    rw [← cellsEq_num0]
    simp [numA, cellsEqA, Bool.and_assoc]
  rw [hz]
  refine callsA_gcS ?_ rfl
  have F := True.intro
  refine callsA_body Try.func79 rfl rfl rfl ?_
  refine sq fun K1 hK1 => ?_
  refine rg' (h := fun J2 hJ2 => ?_)
  refine hJ2 _ _ ?_
  refine hK1 _ _ ?_
  refine sq fun K3 hK3 => ?_
  refine rg' (h := fun J4 hJ4 => ?_)
  refine gs 6 (fun g1_3 => ?_) (fun g1_3 => ?_)
  · try exact nope g1_3
    all_goals have g1_3p := g1_3
    all_goals try simp [F] at g1_3p
    all_goals
     replace F := And.intro g1_3 F
     try replace F := And.intro g1_3p F
     refine go2 (k := ?_)
     refine go2 (k := ?_)
     refine go2 (k := ?_)
     refine gs 11 (fun g1_8 => ?_) (fun g1_8 => ?_)
     · try exact nope g1_8
       all_goals have g1_8p := g1_8
       all_goals try simp [F] at g1_8p
       all_goals
        replace F := And.intro g1_8 F
        try replace F := And.intro g1_8p F
        refine go2 (k := ?_)
        refine go2 (k := ?_)
        refine go2 (k := ?_)
        refine gs 16 (fun g1_13 => ?_) (fun g1_13 => ?_)
        · try exact nope g1_13
          all_goals have g1_13p := g1_13
          all_goals try simp [F] at g1_13p
          all_goals
           replace F := And.intro g1_13 F
           try replace F := And.intro g1_13p F
           refine go2 (k := ?_)
           refine go2 (k := ?_)
           refine go2 (k := ?_)
           refine hJ4 _ _ ?_
           refine hK3 _ _ ?_
           refine run_ret ?_
           try simp only [Then, InBlock, NoGoto]
           refine answer_tmp rfl (.inr rfl) ?_
           exact gcr
        try exact nope g1_13
        all_goals have g1_13p := g1_13
        all_goals try simp [F] at g1_13p
        all_goals
         replace F := And.intro g1_13 F
         try replace F := And.intro g1_13p F
         refine no2 (k := ?_)
         refine no2 (k := ?_)
         refine no2 (k := ?_)
         refine hJ4 _ _ ?_
         refine hK3 _ _ ?_
         refine run_ret ?_
         try simp only [Then, InBlock, NoGoto]
         refine answer_tmp rfl (.inr rfl) ?_
         exact gcr
     try exact nope g1_8
     all_goals have g1_8p := g1_8
     all_goals try simp [F] at g1_8p
     all_goals
      replace F := And.intro g1_8 F
      try replace F := And.intro g1_8p F
      refine no2 (k := ?_)
      refine no2 (k := ?_)
      refine no2 (k := ?_)
      refine no2 (k := ?_)
      refine no2 (k := ?_)
      refine no2 (k := ?_)
      refine hJ4 _ _ ?_
      refine hK3 _ _ ?_
      refine run_ret ?_
      try simp only [Then, InBlock, NoGoto]
      refine answer_tmp rfl (.inr rfl) ?_
      exact gcr
  try exact nope g1_3
  all_goals have g1_3p := g1_3
  all_goals try simp [F] at g1_3p
  all_goals
   replace F := And.intro g1_3 F
   try replace F := And.intro g1_3p F
   refine no2 (k := ?_)
   refine no2 (k := ?_)
   refine no2 (k := ?_)
   refine no2 (k := ?_)
   refine no2 (k := ?_)
   refine no2 (k := ?_)
   refine no2 (k := ?_)
   refine no2 (k := ?_)
   refine no2 (k := ?_)
   refine hJ4 _ _ ?_
   refine hK3 _ _ ?_
   refine run_ret ?_
   try simp only [Then, InBlock, NoGoto]
   refine answer_tmp rfl (.inr rfl) ?_
   exact gcr

theorem right_no {l : List Coin} {k : Nat} (h : k < l.length) (hn : 8 ≤ l[k].d.toNat ∨ l[k].n.v = 0 ∨ ∃ j, ∃ e : k = j + 1, l[k].d.toNat ≤ (l[j]'(by omega)).d.toNat) : ¬ Right l := by
  intro hr
  have h1 := hr.1 l[k] (List.getElem_mem h)
  rcases hn with hn | hn | ⟨j, rfl, hn⟩
  · omega
  · exact h1.2 hn
  · have := List.pairwise_iff_getElem.1 hr.2 j (j + 1) (by omega) h (by omega)
    omega
theorem right_next {l : List Coin} {j : Nat} (h : j + 1 < l.length) (h1 : l[j + 1].d.toNat < 8) (h2 : ¬ l[j + 1].n.v = 0) (h3 : (l[j]'(by omega)).d.toNat < l[j + 1].d.toNat) (hR : Right (l.take (j + 1))) : Right (l.take (j + 1 + 1)) := by
  rw [take_snoc h, right_snoc]
  refine ⟨hR, ⟨h1, h2⟩, right_last hR ?_ h3⟩
  rw [take_snoc (by omega : j < l.length), List.getLast?_append]; rfl
theorem right_first {l : List Coin} (h : 0 < l.length) (h1 : l[0].d.toNat < 8) (h2 : ¬ l[0].n.v = 0) : Right (l.take 1) := by
  have := take_snoc h
  rw [Nat.zero_add] at this
  rw [this, right_snoc]
  exact ⟨by simpa using Go.Vm.right_nil, ⟨h1, h2⟩, by simp⟩

set_option maxHeartbeats 1600000 in
attribute [local simp] undefA List.getElem?_cons_zero List.getElem?_cons_succ in
theorem right_ok {σ : St} {l : List Coin} {tl : Tail} (hl : l.length ≤ 9223372036854775807) : CallsA Try.prog 97 [.sl 5 (coinsC l) l.length tl] σ (fun av σ' => av = .v (.bool (decide (Right l))) ∧ σ = σ') := by
  refine callsA_gcS ?_ rfl
  have F := True.intro
  refine callsA_body Try.func97 rfl rfl rfl ?_
  refine sq fun K1 hK1 => ?_
  refine rg' (h := fun J2 hJ2 => ?_)
  refine hJ2 _ _ ?_
  refine hK1 _ _ ?_
  refine sq fun K3 hK3 => ?_
  refine sq fun K4 hK4 => ?_
  refine rg' (h := fun J5 hJ5 => ?_)
  refine hJ5 _ _ ?_
  refine hK4 _ _ ?_
  refine run_block_k ?_
  refine run_loopG (X := Nat) [0, 5, 6] (fun k ρ σ1 => (k ≤ l.length) ∧ (Right (l.take k)) ∧ (ρ 7 = .v (.int .i64 k)) ∧ (σ1 = σ)) (fun k => l.length - k) (0) ?st1 ?rd1
  case st1 =>
   refine ⟨lp, ?_, lp, lp⟩
   · simpa using Go.Vm.right_nil
  case rd1 =>
   rintro k ρ1 σ1 hF1 ⟨hk, hR, h7, hs⟩
   obtain rfl := hs.symm
   have f1 := keepL hF1
   try simp [KeepL, F] at f1
   replace F := And.intro h7 F
   try replace F := And.intro f1 F
   refine sq fun K6 hK6 => ?_
   refine rg' (h := fun J7 hJ7 => ?_)
   refine hJ7 _ _ ?_
   refine hK6 _ _ ?_
   refine sq fun K8 hK8 => ?_
   refine cs (fun c8 => ?_) (fun c8 => ?_)
   · try exact nope c8
     all_goals have c8p := c8
     all_goals try simp [F] at c8p
     all_goals
      replace F := And.intro c8 F
      try replace F := And.intro c8p F
      refine run_skip ?_
      refine hK8 _ _ ?_
      refine sq fun K9 hK9 => ?_
      refine run_block_k ?_
      refine sq fun K10 hK10 => ?_
      refine rg' (h := fun J11 hJ11 => ?_)
      refine hJ11 _ _ ?_
      refine hK10 _ _ ?_
      refine sq fun K12 hK12 => ?_
      refine run_draw (by kernel_rfl) fun J13 hJ13 => ?_
      refine rp2 0 (k := ?_)
      refine rp2 1 (k := ?_)
      refine rp2 2 (k := ?_)
      refine rp2 3 (k := ?_)
      refine gd 15 (fun g4_3 => ?_) (fun g4_3 => ?_)
      · try exact nope g4_3
        all_goals have g4_3p := g4_3
        all_goals try simp [F] at g4_3p
        all_goals
         replace F := And.intro g4_3 F
         try replace F := And.intro g4_3p F
         refine rp2 4 (k := ?_)
         refine rp2 5 (k := ?_)
         refine rp2 6 (k := ?_)
         refine rp2 7 (k := ?_)
         refine rp2 8 (k := ?_)
         refine rp2 9 (k := ?_)
         refine rp2 10 (k := ?_)
         refine rp2 11 (k := ?_)
         refine rp2 12 (k := ?_)
         refine rp2 13 (k := ?_)
         refine rp2 14 (k := ?_)
         refine rp2 15 (k := ?_)
         refine rp2 16 (k := ?_)
         refine rp2 17 (k := ?_)
         refine rp2 18 (k := ?_)
         refine rp2 19 (k := ?_)
         refine rp2 20 (k := ?_)
         refine rp2 21 (k := ?_)
         refine rp2 22 (k := ?_)
         refine rp2 23 (k := ?_)
         refine dd ?_
         refine hJ13 _ _ ?_
         refine hK12 _ _ ?_
         refine ct ?_
         refine sq fun K14 hK14 => ?_
         refine rg' (h := fun J15 hJ15 => ?_)
         refine hJ15 _ _ ?_
         refine hK14 _ _ ?_
         refine run_ret ?_
         try simp only [Then, InBlock, NoGoto]
         refine answer_tmp rfl (.inr rfl) ?_
         have hn : ¬ Right l := right_no c8p (.inl (by omega))
         exact gcr
      try exact nope g4_3
      all_goals have g4_3p := g4_3
      all_goals try simp [F] at g4_3p
      all_goals
       replace F := And.intro g4_3 F
       try replace F := And.intro g4_3p F
       refine rp2 4 (k := ?_)
       refine rp2 5 (k := ?_)
       refine rp2 6 (k := ?_)
       refine rp2 7 (k := ?_)
       refine rp2 8 (k := ?_)
       refine rp2 9 (k := ?_)
       refine gd 21 (fun g4_9 => ?_) (fun g4_9 => ?_)
       · try exact nope g4_9
         all_goals have g4_9p := g4_9
         all_goals try simp [F] at g4_9p
         all_goals
          replace F := And.intro g4_9 F
          try replace F := And.intro g4_9p F
          refine rp2 10 (k := ?_)
          refine rp2 11 (k := ?_)
          refine rp2 12 (k := ?_)
          refine rp2 13 (k := ?_)
          refine rp2 14 (k := ?_)
          refine rp2 15 (k := ?_)
          refine rp2 16 (k := ?_)
          refine rp2 17 (k := ?_)
          refine rp2 18 (k := ?_)
          refine rp2 19 (k := ?_)
          refine rp2 20 (k := ?_)
          refine rp2 21 (k := ?_)
          refine rp2 22 (k := ?_)
          refine rp2 23 (k := ?_)
          refine dd ?_
          refine hJ13 _ _ ?_
          refine hK12 _ _ ?_
          refine ct ?_
          refine sq fun K16 hK16 => ?_
          refine rg' (h := fun J17 hJ17 => ?_)
          refine hJ17 _ _ ?_
          refine hK16 _ _ ?_
          refine run_ret ?_
          try simp only [Then, InBlock, NoGoto]
          refine answer_tmp rfl (.inr rfl) ?_
          have hn : ¬ Right l := right_no c8p (.inr (.inl g4_9p))
          exact gcr
       try exact nope g4_9
       all_goals have g4_9p := g4_9
       all_goals try simp [F] at g4_9p
       all_goals
        replace F := And.intro g4_9 F
        try replace F := And.intro g4_9p F
        refine rp2 10 (k := ?_)
        refine rp2 11 (k := ?_)
        refine rp2 12 (k := ?_)
        refine gd 24 (fun g4_12 => ?_) (fun g4_12 => ?_)
        · try exact nope g4_12
          all_goals have g4_12p := g4_12
          all_goals try simp [F] at g4_12p
          all_goals
           replace F := And.intro g4_12 F
           try replace F := And.intro g4_12p F
           obtain ⟨j, rfl⟩ : ∃ j, k = j + 1 := ⟨k - 1, by omega⟩
           refine rp2 13 (k := ?_)
           refine rp2 14 (k := ?_)
           refine rp2 15 (k := ?_)
           refine rp2 16 (k := ?_)
           refine rp2 17 (k := ?_)
           refine rp2 18 (k := ?_)
           refine rp2 19 (k := ?_)
           refine rp2 20 (k := ?_)
           refine rp2 21 (k := ?_)
           refine rp2 22 (k := ?_)
           refine rp2 23 (k := ?_)
           refine dd ?_
           refine hJ13 _ _ ?_
           refine hK12 _ _ ?_
           refine cs (fun c35 => ?_) (fun c35 => ?_)
           · try exact nope c35
             all_goals have c35p := c35
             all_goals try simp [F] at c35p
             all_goals
              replace F := And.intro c35 F
              try replace F := And.intro c35p F
              refine sq fun K18 hK18 => ?_
              refine rg' (h := fun J19 hJ19 => ?_)
              refine hJ19 _ _ ?_
              refine hK18 _ _ ?_
              refine run_ret ?_
              try simp only [Then, InBlock, NoGoto]
              refine answer_tmp rfl (.inr rfl) ?_
              have hn : ¬ Right l := right_no c8p (.inr (.inr ⟨j, rfl, c35p⟩))
              exact gcr
           try exact nope c35
           all_goals have c35p := c35
           all_goals try simp [F] at c35p
           all_goals
            replace F := And.intro c35 F
            try replace F := And.intro c35p F
            refine run_skip ?_
            refine hK9 _ _ ?_
            refine rg' (h := fun J20 hJ20 => ?_)
            refine hJ20 _ _ ?_
            refine ⟨gk, (j + 1 + 1), ⟨kpG, lpG, ?_, lpG, lpG⟩, lpG⟩
            · exact right_next c8p (by omega) g4_9p c35p hR
        try exact nope g4_12
        all_goals have g4_12p := g4_12
        all_goals try simp [F] at g4_12p
        all_goals
         replace F := And.intro g4_12 F
         try replace F := And.intro g4_12p F
         obtain rfl : k = 0 := by omega
         refine rp2 13 (k := ?_)
         refine rp2 14 (k := ?_)
         refine rp2 15 (k := ?_)
         refine rp2 16 (k := ?_)
         refine rp2 17 (k := ?_)
         refine rp2 18 (k := ?_)
         refine rp2 19 (k := ?_)
         refine rp2 20 (k := ?_)
         refine rp2 21 (k := ?_)
         refine rp2 22 (k := ?_)
         refine rp2 23 (k := ?_)
         refine dd ?_
         refine hJ13 _ _ ?_
         refine hK12 _ _ ?_
         refine cf ?_
         refine run_skip ?_
         refine hK9 _ _ ?_
         refine rg' (h := fun J21 hJ21 => ?_)
         refine hJ21 _ _ ?_
         refine ⟨gk, (1), ⟨kpG, lpG, ?_, lpG, lpG⟩, lpG⟩
         · exact right_first c8p (by omega) g4_9p
   try exact nope c8
   all_goals have c8p := c8
   all_goals try simp [F] at c8p
   all_goals
    replace F := And.intro c8 F
    try replace F := And.intro c8p F
    refine run_exit ?_
    refine hK3 _ _ ?_
    refine sq fun K22 hK22 => ?_
    refine rg' (h := fun J23 hJ23 => ?_)
    refine hJ23 _ _ ?_
    refine hK22 _ _ ?_
    refine run_ret ?_
    try simp only [Then, InBlock, NoGoto]
    refine answer_tmp rfl (.inr rfl) ?_
    have hn : Right l := by rw [List.take_of_length_le c8p] at hR; exact hR
    exact gcr

set_option maxHeartbeats 1600000 in
attribute [local simp] undefA List.getElem?_cons_zero List.getElem?_cons_succ in
theorem rsame_ok {σ : St} {l m : List Coin} {t1 t2 : Tail} (hl : l.length ≤ 9223372036854775807) (hm : m.length ≤ 9223372036854775807) : CallsA Try.prog 22 [.sl 5 (coinsC l) l.length t1, .sl 5 (coinsC m) m.length t2] σ (fun av σ' => av = .v (.bool (decide (l = m))) ∧ σ = σ') := by
  have F := True.intro
  refine callsA_body Try.func22 rfl rfl rfl ?_
  refine sq fun K1 hK1 => ?_
  refine rg' (h := fun J2 hJ2 => ?_)
  refine hJ2 _ _ ?_
  refine hK1 _ _ ?_
  refine sq fun K3 hK3 => ?_
  refine sq fun K4 hK4 => ?_
  refine rg' (h := fun J5 hJ5 => ?_)
  refine hJ5 _ _ ?_
  refine hK4 _ _ ?_
  refine cs (fun c10 => ?_) (fun c10 => ?_)
  · try exact nope c10
    all_goals have c10p := c10
    all_goals try simp [F] at c10p
    all_goals
     replace F := And.intro c10 F
     try replace F := And.intro c10p F
     refine sq fun K6 hK6 => ?_
     refine rg' (h := fun J7 hJ7 => ?_)
     refine hJ7 _ _ ?_
     refine hK6 _ _ ?_
     refine run_ret ?_
     try simp only [Then, InBlock, NoGoto]
     refine answer_tmp rfl (.inr rfl) ?_
     have hn : ¬ l = m := by rintro rfl; omega
     exact rt
  try exact nope c10
  all_goals have c10p := c10
  all_goals try simp [F] at c10p
  all_goals
   replace F := And.intro c10 F
   try replace F := And.intro c10p F
   refine run_skip ?_
   refine hK3 _ _ ?_
   refine sq fun K8 hK8 => ?_
   refine sq fun K9 hK9 => ?_
   refine rg' (h := fun J10 hJ10 => ?_)
   refine hJ10 _ _ ?_
   refine hK9 _ _ ?_
   refine run_block_k ?_
   refine run_loopF (X := Nat) [0, 1] (fun i ρ σ1 => (i ≤ l.length) ∧ (l.take i = m.take i) ∧ (ρ 5 = .v (.int .i64 i)) ∧ (σ1 = σ)) (fun i => l.length - i) (0) ?st1 ?rd1
   case st1 =>
    refine ⟨lp, lp, lp, lp⟩
   case rd1 =>
    rintro i ρ1 σ1 hF1 ⟨hi, hE, h5, hs⟩
    obtain rfl := hs.symm
    have f1 := keepL hF1
    try simp [KeepL, F] at f1
    replace F := And.intro h5 F
    try replace F := And.intro f1 F
    refine sq fun K11 hK11 => ?_
    refine sq fun K12 hK12 => ?_
    refine rg' (h := fun J13 hJ13 => ?_)
    refine hJ13 _ _ ?_
    refine hK12 _ _ ?_
    refine cs (fun c14 => ?_) (fun c14 => ?_)
    · try exact nope c14
      all_goals have c14p := c14
      all_goals try simp [F] at c14p
      all_goals
       replace F := And.intro c14 F
       try replace F := And.intro c14p F
       refine run_skip ?_
       refine hK11 _ _ ?_
       refine sq fun K14 hK14 => ?_
       refine run_block_k ?_
       refine sq fun K15 hK15 => ?_
       refine run_draw (by kernel_rfl) fun J16 hJ16 => ?_
       refine rp2 0 (k := ?_)
       refine rp2 1 (k := ?_)
       refine rp2 2 (k := ?_)
       refine rp2 3 (k := ?_)
       refine rp2 4 (k := ?_)
       refine rp2 5 (k := ?_)
       refine rp2 6 (k := ?_)
       refine rp2 7 (k := ?_)
       refine rp2 8 (k := ?_)
       refine dd ?_
       refine hJ16 _ _ ?_
       refine hK15 _ _ ?_
       refine cs (fun c25 => ?_) (fun c25 => ?_)
       · try exact nope c25
         all_goals have c25p := c25
         all_goals try simp [F] at c25p
         all_goals
          replace F := And.intro c25 F
          try replace F := And.intro c25p F
          refine sq fun K17 hK17 => ?_
          refine rg' (h := fun J18 hJ18 => ?_)
          refine hJ18 _ _ ?_
          refine hK17 _ _ ?_
          refine run_ret ?_
          try simp only [Then, InBlock, NoGoto]
          refine answer_tmp rfl (.inr rfl) ?_
          have hn : ¬ l = m := by rintro rfl; simp at c25p
          exact rt
       try exact nope c25
       all_goals have c25p := c25
       all_goals try simp [F] at c25p
       all_goals
        replace F := And.intro c25 F
        try replace F := And.intro c25p F
        refine run_skip ?_
        refine hK14 _ _ ?_
        refine rg' (h := fun J19 hJ19 => ?_)
        refine hJ19 _ _ ?_
        refine ⟨(i + 1), ⟨kp, lp, ?_, lp, lp⟩, lp⟩
        · rw [take_snoc (by omega : i < l.length), take_snoc (by omega : i < m.length), hE, c25p]
    try exact nope c14
    all_goals have c14p := c14
    all_goals try simp [F] at c14p
    all_goals
     replace F := And.intro c14 F
     try replace F := And.intro c14p F
     refine run_exit ?_
     refine hK8 _ _ ?_
     refine sq fun K20 hK20 => ?_
     refine rg' (h := fun J21 hJ21 => ?_)
     refine hJ21 _ _ ?_
     refine hK20 _ _ ?_
     refine run_ret ?_
     try simp only [Then, InBlock, NoGoto]
     refine answer_tmp rfl (.inr rfl) ?_
     have hn : l = m := by rw [← List.take_of_length_le (l := l) (i := i) (by omega), ← List.take_of_length_le (l := m) (i := i) (by omega), hE]
     exact rt

end Go.Proofs.Ytdbaddholggkbaa

/-
  Digits: lists of numbers below a base, the lowest first, and the numbers that they are.
-/
namespace Go.Vm
set_option linter.unnecessarySimpa false
set_option linter.unusedSimpArgs false
set_option linter.unusedVariables false
open Go

theorem set_appN {α : Type} (l r : List α) (n : Nat) (x : α) : (l ++ r).set (l.length + n) x = l ++ r.set n x := by
  rw [List.set_append_right _ _ (by omega), Nat.add_sub_cancel_left]
theorem get_appN {α : Type} (l r : List α) (n : Nat) : (l ++ r)[l.length + n]? = r[n]? := by
  rw [List.getElem?_append_right (by omega), Nat.add_sub_cancel_left]

/-- Bits, word by word. -/
def andI (k : IntKind) (a b : Int) : Int := k.wrap (BitVec.ofInt k.bits a &&& BitVec.ofInt k.bits b).toNat
def orI (k : IntKind) (a b : Int) : Int := k.wrap (BitVec.ofInt k.bits a ||| BitVec.ofInt k.bits b).toNat
theorem binA_andI {P : Program} {t : TypeId} {xo yo : Operand} {k : IntKind} {a b : Int} : binA P .and t xo yo (.v (.int k a)) (.v (.int k b)) = some (.v (.int k (andI k a b))) := binA_and t xo yo k a b
theorem binA_orI {P : Program} {t : TypeId} {xo yo : Operand} {k : IntKind} {a b : Int} : binA P .or t xo yo (.v (.int k a)) (.v (.int k b)) = some (.v (.int k (orI k a b))) := binA_or t xo yo k a b
theorem take_appN {α : Type} (l r : List α) (n : Nat) : (l ++ r).take (l.length + n) = l ++ r.take n := by
  rw [List.take_append, List.take_of_length_le (by omega), Nat.add_sub_cancel_left]

def valD (b : Nat) : List Nat → Nat
  | [] => 0
  | d :: l => d + b * valD b l

@[simp] theorem valD_nil (b : Nat) : valD b [] = 0 := rfl

theorem valD_append (b : Nat) : ∀ l m : List Nat, valD b (l ++ m) = valD b l + b ^ l.length * valD b m
  | [], m => by simp
  | d :: l, m => by
    simp only [List.cons_append, valD, valD_append b l m, List.length_cons, Nat.pow_succ, Nat.mul_add]
    rw [← Nat.add_assoc, ← Nat.mul_assoc, Nat.mul_comm b (b ^ l.length)]

theorem valD_snoc (b : Nat) (l : List Nat) (d : Nat) : valD b (l ++ [d]) = valD b l + b ^ l.length * d := by
  rw [valD_append]; simp [valD]

theorem valD_lt {b : Nat} : ∀ {l : List Nat}, (∀ d ∈ l, d < b) → valD b l < b ^ l.length
  | [], _ => by simp
  | d :: l, h => by
    have h1 : d < b := h d (by simp)
    have h2 := valD_lt (l := l) (fun x hx => h x (by simp [hx]))
    simp only [valD, List.length_cons, Nat.pow_succ]
    have h3 : b * (valD b l + 1) ≤ b * b ^ l.length := Nat.mul_le_mul_left _ h2
    rw [Nat.mul_add] at h3
    rw [Nat.mul_comm (b ^ l.length) b]
    omega

theorem valD_zero (b n : Nat) : valD b (List.replicate n 0) = 0 := by
  induction n with
  | zero => rfl
  | succ n ih => simp [List.replicate_succ, valD, ih]

/-- A number's first digits. -/
def digs (b n x : Nat) : List Nat := (List.range n).map fun i => x / b ^ i % b

@[simp] theorem digs_len (b n x : Nat) : (digs b n x).length = n := by simp [digs]
theorem digs_get {b n x i : Nat} (h : i < n) : (digs b n x)[i]'(by simpa using h) = x / b ^ i % b := by simp [digs]
theorem digs_get? {b n x i : Nat} (h : i < n) : (digs b n x)[i]? = some (x / b ^ i % b) := by simp [digs, h]
theorem digs_lt {b n x : Nat} (hb : 0 < b) : ∀ d ∈ digs b n x, d < b := by
  intro d hd
  simp only [digs, List.mem_map, List.mem_range] at hd
  obtain ⟨i, _, rfl⟩ := hd
  exact Nat.mod_lt _ hb
theorem digs_snoc (b n x : Nat) : digs b (n + 1) x = digs b n x ++ [x / b ^ n % b] := by simp [digs, List.range_succ]
theorem valD_digs (b x : Nat) : ∀ n, valD b (digs b n x) = x % b ^ n
  | 0 => by simp [digs, Nat.mod_one]
  | n + 1 => by
    rw [digs_snoc, valD_snoc, valD_digs b x n, digs_len, Nat.mod_pow_succ]

theorem digs_valD {b : Nat} (hb : 0 < b) : ∀ {l : List Nat}, (∀ d ∈ l, d < b) → digs b l.length (valD b l) = l := by
  intro l h
  apply List.ext_getElem
  · simp
  · intro i h1 h2
    rw [digs_get (by simpa using h1)]
    have hl : i < l.length := h2
    have hi : l = l.take i ++ l[i] :: l.drop (i + 1) := by rw [List.getElem_cons_drop, List.take_append_drop]
    have h3 : valD b l = valD b (l.take i) + b ^ i * (l[i] + b * valD b (l.drop (i + 1))) := by
      conv => lhs; rw [hi, valD_append]
      simp [valD, Nat.min_eq_left (Nat.le_of_lt hl)]
    have h4 : valD b (l.take i) < b ^ i := by
      have := valD_lt (l := l.take i) (fun d hd => h d (List.mem_of_mem_take hd))
      simpa [Nat.min_eq_left (Nat.le_of_lt hl)] using this
    rw [h3, Nat.add_mul_div_left _ _ (Nat.pow_pos hb), Nat.div_eq_of_lt h4, Nat.zero_add, Nat.add_mul_mod_self_left, Nat.mod_eq_of_lt (h _ (List.getElem_mem hl))]

theorem digs_of {b n x : Nat} {l : List Nat} (hb : 0 < b) (h : ∀ d ∈ l, d < b) (hl : l.length = n) (hx : valD b l = x) : l = digs b n x := by
  subst hl; subst hx; exact (digs_valD hb h).symm

/-- A digit that is put. -/
theorem valD_set {b : Nat} {l : List Nat} {i : Nat} (h : i < l.length) (d : Nat) : valD b (l.set i d) + b ^ i * l[i] = valD b l + b ^ i * d := by
  have hi : l = l.take i ++ l[i] :: l.drop (i + 1) := by rw [List.getElem_cons_drop, List.take_append_drop]
  have e1 : l.set i d = l.take i ++ d :: l.drop (i + 1) := List.set_eq_take_append_cons_drop.trans (if_pos h)
  have hlen : (l.take i).length = i := by simp [Nat.min_eq_left (Nat.le_of_lt h)]
  have h3 : valD b l = valD b (l.take i) + b ^ i * (l[i] + b * valD b (l.drop (i + 1))) := by
    conv => lhs; rw [hi, valD_append]
    rw [hlen]; rfl
  have h4 : valD b (l.set i d) = valD b (l.take i) + b ^ i * (d + b * valD b (l.drop (i + 1))) := by
    rw [e1, valD_append, hlen]; rfl
  rw [h3, h4]
  simp only [Nat.mul_add]
  omega

/-- The first digits, and one more. -/
theorem mod_digit (b x i : Nat) : x % b ^ (i + 1) = x % b ^ i + b ^ i * (x / b ^ i % b) := Nat.mod_pow_succ

/-- Numbers as cells of 64 bits. -/
def u64s (l : List Nat) : List AV := l.map fun (n : Nat) => .v (.int .u64 (n : Int))
@[simp] theorem u64s_length (l : List Nat) : (u64s l).length = l.length := by simp [u64s]
theorem u64s_append (l m : List Nat) : u64s l ++ u64s m = u64s (l ++ m) := by simp [u64s]
theorem u64s_snoc (l : List Nat) (n : Nat) : u64s l ++ [.v (.int .u64 n)] = u64s (l ++ [n]) := by simp [u64s]
theorem u64s_set (l : List Nat) (i n : Nat) (h : i < l.length) : (u64s l).take i ++ .v (.int .u64 n) :: (u64s l).drop (i + 1) = u64s (l.set i n) := by
  rw [show l.set i n = l.take i ++ n :: l.drop (i + 1) from List.set_eq_take_append_cons_drop.trans (if_pos h)]
  simp [u64s]
theorem u64s_under (B : Bd) : ∀ l : List Nat, underL B (u64s l) = true
  | [] => rfl
  | n :: l => by show underL B (.v (.int .u64 n) :: u64s l) = true; simp [underL, AV.under, u64s_under B l]
theorem u64s_noObj (n : Nat) : ∀ l : List Nat, noObjL n (u64s l) = true
  | [] => rfl
  | x :: l => by show noObjL n (.v (.int .u64 x) :: u64s l) = true; simp [noObjL, AV.noObj, u64s_noObj n l]

theorem limb_dig (x j : Nat) : limb x j = x / 18446744073709551616 ^ j % 18446744073709551616 := by rw [limb, show (18446744073709551616 : Nat) = 2 ^ 64 from rfl, ← Nat.pow_mul]
theorem numA_digs (x : Nat) : numA x = u64s (digs 18446744073709551616 4 x) := by
  simp only [numA, u64s, digs, limb_dig]; rfl
theorem numA_len4 (x : Nat) : (numA x).length = 4 := rfl
theorem numA_take4 (x : Nat) : (numA x).take 4 = numA x := rfl
theorem numA_drop4 (x : Nat) : (numA x).drop 4 = [] := rfl
theorem numA_zero4 : numA 0 = [.v (.int .u64 0), .v (.int .u64 0), .v (.int .u64 0), .v (.int .u64 0)] := rfl
theorem numA_small {n : Nat} (h : n < 2 ^ 64) : numA n = [.v (.int .u64 n), .v (.int .u64 0), .v (.int .u64 0), .v (.int .u64 0)] := by
  have e : ∀ j, 0 < j → limb n j = 0 := fun j hj => by
    unfold limb
    rw [Nat.div_eq_of_lt (Nat.lt_of_lt_of_le h (Nat.pow_le_pow_right (by omega) (by omega)))]
  simp only [numA, e 1 (by omega), e 2 (by omega), e 3 (by omega)]
  have : limb n 0 = n := by unfold limb; rw [Nat.mul_zero, Nat.pow_zero, Nat.div_one, Nat.mod_eq_of_lt h]
  rw [this]; rfl
end Go.Vm

/-
  Digits of sums and differences; what is carried.
-/
namespace Go.Vm
set_option linter.unnecessarySimpa false
set_option linter.unusedSimpArgs false
set_option linter.unusedVariables false
set_option exponentiation.threshold 600
open Go

/-- What is carried into a digit of a sum. -/
def addc (b x y i : Nat) : Nat := (x % b ^ i + y % b ^ i) / b ^ i

theorem addc_zero (b x y : Nat) : addc b x y 0 = 0 := by simp [addc, Nat.mod_one]
theorem addc_le {b x y i : Nat} (hb : 0 < b) : addc b x y i ≤ 1 := by
  have hB : 0 < b ^ i := Nat.pow_pos hb
  have h1 := Nat.mod_lt x hB
  have h2 := Nat.mod_lt y hB
  unfold addc
  rw [← Nat.lt_succ_iff, Nat.div_lt_iff_lt_mul hB]
  omega

theorem add_div' {B q1 q2 r1 r2 : Nat} (hB : 0 < B) : (B * q1 + r1 + (B * q2 + r2)) / B = q1 + q2 + (r1 + r2) / B := by
  rw [show B * q1 + r1 + (B * q2 + r2) = r1 + r2 + B * (q1 + q2) by rw [Nat.mul_add]; omega, Nat.add_mul_div_left _ _ hB]
  omega

theorem add_div_c {b x y i : Nat} (hb : 0 < b) : (x + y) / b ^ i = x / b ^ i + y / b ^ i + addc b x y i := by
  have hB : 0 < b ^ i := Nat.pow_pos hb
  conv => lhs; rw [← Nat.div_add_mod x (b ^ i), ← Nat.div_add_mod y (b ^ i)]
  exact add_div' hB

theorem addc_dig {b x y i : Nat} (hb : 0 < b) : (x / b ^ i % b + y / b ^ i % b + addc b x y i) % b = (x + y) / b ^ i % b := by
  rw [add_div_c hb]
  simp [Nat.add_mod, Nat.mod_mod]

theorem addc_next {b x y i : Nat} (hb : 0 < b) : (x / b ^ i % b + y / b ^ i % b + addc b x y i) / b = addc b x y (i + 1) := by
  have hB : 0 < b ^ i := Nat.pow_pos hb
  unfold addc
  rw [mod_digit b x i, mod_digit b y i, Nat.pow_succ, ← Nat.div_div_eq_div_mul]
  congr 1
  rw [show x % b ^ i + b ^ i * (x / b ^ i % b) + (y % b ^ i + b ^ i * (y / b ^ i % b)) = b ^ i * (x / b ^ i % b) + x % b ^ i + (b ^ i * (y / b ^ i % b) + y % b ^ i) by omega, add_div' hB]

theorem addc_last {b x y n : Nat} (hx : x < b ^ n) (hy : y < b ^ n) : addc b x y n = (x + y) / b ^ n := by
  unfold addc; rw [Nat.mod_eq_of_lt hx, Nat.mod_eq_of_lt hy]

/-- The first digits of a number, and the others of another one. -/
def mix (b n i s x : Nat) : List Nat := digs b i s ++ (digs b n x).drop i
theorem mix_zero (b n s x : Nat) : mix b n 0 s x = digs b n x := by simp [mix, digs]
theorem mix_all (b n s x : Nat) : mix b n n s x = digs b n s := by simp [mix]
theorem mix_len {b n i s x : Nat} (h : i ≤ n) : (mix b n i s x).length = n := by simp [mix]; omega
theorem mix_get {b n i s x : Nat} (h : i < n) : (mix b n i s x)[i]? = some (x / b ^ i % b) := by
  unfold mix
  rw [List.getElem?_append_right (by simp)]
  simp [digs_get h, h]
theorem mix_set {b n i s x : Nat} (h : i < n) : (mix b n i s x).set i (s / b ^ i % b) = mix b n (i + 1) s x := by
  unfold mix
  rw [List.set_append_right _ _ (by simp), digs_snoc]
  have e : (digs b n x).drop i = (digs b n x)[i]'(by simpa using h) :: (digs b n x).drop (i + 1) := List.drop_eq_getElem_cons (by simpa using h)
  simp only [digs_len, Nat.sub_self]
  rw [e, List.set_cons_zero]
  simp

theorem mixU_get {b n i s x : Nat} (h : i < n) : (u64s (mix b n i s x))[i]? = some (.v (.int .u64 (x / b ^ i % b : Nat))) := by
  simp [u64s, mix_get h]
theorem digU_get {b n i x : Nat} (h : i < n) : (u64s (digs b n x))[i]? = some (.v (.int .u64 (x / b ^ i % b : Nat))) := by
  simp [u64s, digs_get? h]
theorem mixU_set {b n i s x : Nat} (h : i < n) : (u64s (mix b n i s x)).take i ++ .v (.int .u64 (s / b ^ i % b : Nat)) :: (u64s (mix b n i s x)).drop (i + 1) = u64s (mix b n (i + 1) s x) := by
  rw [u64s_set _ _ _ (by rw [mix_len (by omega)]; exact h), mix_set h]

/-- What is borrowed from a digit of a difference. -/
def subb (b x y i : Nat) : Nat := if x % b ^ i < y % b ^ i then 1 else 0
theorem subb_zero (b x y : Nat) : subb b x y 0 = 0 := by simp [subb, Nat.mod_one]
theorem subb_le (b x y i : Nat) : subb b x y i ≤ 1 := by unfold subb; split <;> omega

theorem subb_next {b x y i : Nat} (hb : 0 < b) : (if x / b ^ i % b < y / b ^ i % b + subb b x y i then 1 else 0) = subb b x y (i + 1) := by
  have hB : 0 < b ^ i := Nat.pow_pos hb
  unfold subb
  rw [mod_digit b x i, mod_digit b y i]
  generalize hp : x / b ^ i % b = p
  generalize hq : y / b ^ i % b = q
  have h1 := Nat.mod_lt x hB
  have h2 := Nat.mod_lt y hB
  generalize x % b ^ i = r1 at *
  generalize y % b ^ i = r2 at *
  generalize b ^ i = B at *
  have key : (p < q → B * p + B ≤ B * q) ∧ (q < p → B * q + B ≤ B * p) ∧ (p = q → B * p = B * q) :=
    ⟨fun h => by rw [← Nat.mul_succ]; exact Nat.mul_le_mul_left _ h, fun h => by rw [← Nat.mul_succ]; exact Nat.mul_le_mul_left _ h, fun h => by rw [h]⟩
  rcases Nat.lt_trichotomy p q with h | h | h
  · have := key.1 h
    rw [if_pos (by omega), if_pos (by omega)]
  · have := key.2.2 h
    by_cases h3 : r1 < r2
    · rw [if_pos (by simp [h3]; omega), if_pos (by omega)]
    · rw [if_neg (by simp [h3]; omega), if_neg (by omega)]
  · have := key.2.1 h
    rw [if_neg (by split <;> omega), if_neg (by omega)]

theorem subb_last {b x y n : Nat} (hx : x < b ^ n) (hy : y < b ^ n) : subb b x y n = if x < y then 1 else 0 := by
  unfold subb; rw [Nat.mod_eq_of_lt hx, Nat.mod_eq_of_lt hy]

theorem subb_dig {b x y i n : Nat} (hb : 0 < b) (hi : i < n) (hx : x < b ^ n) (hy : y < b ^ n) :
    (x / b ^ i % b + b - y / b ^ i % b - subb b x y i) % b = (x + b ^ n - y) / b ^ i % b := by
  have hB : 0 < b ^ i := Nat.pow_pos hb
  obtain ⟨k, rfl⟩ : ∃ k, n = i + (k + 1) := ⟨n - i - 1, by omega⟩
  rw [Nat.pow_add] at hx hy ⊢
  have h1 := Nat.mod_lt x hB
  have h2 := Nat.mod_lt y hB
  have ex := Nat.div_add_mod x (b ^ i)
  have ey := Nat.div_add_mod y (b ^ i)
  have hqx : x / b ^ i < b ^ (k + 1) := Nat.div_lt_of_lt_mul hx
  have hqy : y / b ^ i < b ^ (k + 1) := Nat.div_lt_of_lt_mul hy
  unfold subb
  generalize x / b ^ i = q1 at *
  generalize y / b ^ i = q2 at *
  generalize x % b ^ i = r1 at *
  generalize y % b ^ i = r2 at *
  have hM : b ^ (k + 1) = b * b ^ k := by rw [Nat.pow_succ, Nat.mul_comm]
  have hd : (x + b ^ i * b ^ (k + 1) - y) / b ^ i = q1 + b ^ (k + 1) - q2 - (if r1 < r2 then 1 else 0) := by
    subst ex ey
    have e0 : b ^ i * q2 + b ^ i ≤ b ^ i * b ^ (k + 1) := by rw [← Nat.mul_succ]; exact Nat.mul_le_mul_left _ hqy
    have e1 : b ^ i * (q1 + b ^ (k + 1) - q2) = b ^ i * q1 + b ^ i * b ^ (k + 1) - b ^ i * q2 := by rw [Nat.mul_sub, Nat.mul_add]
    by_cases h : r1 < r2
    · rw [if_pos h]
      have e2 : b ^ i * (q1 + b ^ (k + 1) - q2 - 1) = b ^ i * (q1 + b ^ (k + 1) - q2) - b ^ i := by rw [Nat.mul_sub, Nat.mul_one]
      have : b ^ i * q1 + r1 + b ^ i * b ^ (k + 1) - (b ^ i * q2 + r2) = (b ^ i + r1 - r2) + b ^ i * (q1 + b ^ (k + 1) - q2 - 1) := by rw [e2, e1]; omega
      rw [this, Nat.add_mul_div_left _ _ hB, Nat.div_eq_of_lt (by omega), Nat.zero_add]
    · rw [if_neg h]
      have : b ^ i * q1 + r1 + b ^ i * b ^ (k + 1) - (b ^ i * q2 + r2) = (r1 - r2) + b ^ i * (q1 + b ^ (k + 1) - q2) := by rw [e1]; omega
      rw [this, Nat.add_mul_div_left _ _ hB, Nat.div_eq_of_lt (by omega), Nat.zero_add]; omega
  rw [hd]
  have hm1 := Nat.mod_lt q1 hb
  have hm2 := Nat.mod_lt q2 hb
  have e1 := Nat.div_add_mod q1 b
  have e2 := Nat.div_add_mod q2 b
  have hk : 0 < b ^ k := Nat.pow_pos hb
  have hle : q2 / b < b ^ k := Nat.div_lt_of_lt_mul (by rw [← hM]; exact hqy)
  generalize q1 / b = u at *
  generalize q2 / b = v at *
  generalize q1 % b = p at *
  generalize q2 % b = q at *
  generalize hc : (if r1 < r2 then 1 else 0) = c
  have hc1 : c ≤ 1 := by rw [← hc]; split <;> omega
  rw [hM]
  subst e1 e2
  have e3 : b * (u + b ^ k - v - 1) = b * u + b * b ^ k - b * v - b := by rw [Nat.mul_sub, Nat.mul_sub, Nat.mul_add, Nat.mul_one]
  have e4 : b * v + b ≤ b * b ^ k := by rw [← Nat.mul_succ]; exact Nat.mul_le_mul_left _ hle
  have : b * u + p + b * b ^ k - (b * v + q) - c = (p + b - q - c) + b * (u + b ^ k - v - 1) := by rw [e3]; omega
  rw [this, Nat.add_mul_mod_self_left]

/-- A word's lower half, and its upper one. -/
theorem and_low32 (n : Nat) : (BitVec.ofInt 64 (n : Int) &&& 4294967295#64).toNat = n % 4294967296 := by
  rw [BitVec.toNat_and]
  have e : (BitVec.ofInt 64 (n : Int)).toNat = n % 2 ^ 64 := by simp
  rw [e]
  show n % 2 ^ 64 &&& (2 ^ 32 - 1) = _
  rw [Nat.and_two_pow_sub_one_eq_mod]
  omega
theorem and_low32' (n : Nat) : (BitVec.ofNat 64 n &&& 4294967295#64).toNat = n % 4294967296 := by
  have := and_low32 n
  simpa using this
theorem fdiv_nat (n m : Nat) : (n : Int).fdiv (m : Int) = ((n / m : Nat) : Int) := by
  rw [Int.fdiv_eq_ediv_of_nonneg _ (by omega)]; rfl
theorem fdiv_32 (n : Nat) : (n : Int).fdiv 4294967296 = ((n / 4294967296 : Nat) : Int) := fdiv_nat n 4294967296
theorem wrapN {n : Nat} (h : n < 18446744073709551616) : IntKind.u64.wrap (n : Int) = (n : Int) := wrap_u64c ⟨by omega, by omega⟩
theorem mul64_hi {x y : Nat} (hx : x < 18446744073709551616) (hy : y < 18446744073709551616) :
    IntKind.u64.wrap (IntKind.u64.wrap (IntKind.u64.wrap ((x : Int).fdiv 4294967296 * (y : Int).fdiv 4294967296) + (IntKind.u64.wrap (IntKind.u64.wrap ((x : Int).fdiv 4294967296 * ((BitVec.ofNat 64 y &&& 4294967295#64).toNat : Int)) +
      (IntKind.u64.wrap (((BitVec.ofNat 64 x &&& 4294967295#64).toNat : Int) * ((BitVec.ofNat 64 y &&& 4294967295#64).toNat : Int))).fdiv 4294967296)).fdiv 4294967296) +
      (IntKind.u64.wrap (((BitVec.ofInt 64 (IntKind.u64.wrap (IntKind.u64.wrap ((x : Int).fdiv 4294967296 * ((BitVec.ofNat 64 y &&& 4294967295#64).toNat : Int)) +
        (IntKind.u64.wrap (((BitVec.ofNat 64 x &&& 4294967295#64).toNat : Int) * ((BitVec.ofNat 64 y &&& 4294967295#64).toNat : Int))).fdiv 4294967296)) &&& 4294967295#64).toNat : Int) + IntKind.u64.wrap (((BitVec.ofNat 64 x &&& 4294967295#64).toNat : Int) * (y : Int).fdiv 4294967296))).fdiv 4294967296) = ((x * y / 18446744073709551616 : Nat) : Int) := by
  rw [and_low32', and_low32', fdiv_32, fdiv_32]
  have hm : ∀ a b : Nat, (a : Int) * (b : Int) = ((a * b : Nat) : Int) := fun a b => by push_cast; rfl
  simp only [hm]
  have hx1 : x / 4294967296 ≤ 4294967295 := by omega
  have hy1 : y / 4294967296 ≤ 4294967295 := by omega
  have hx0 : x % 4294967296 ≤ 4294967295 := by omega
  have hy0 : y % 4294967296 ≤ 4294967295 := by omega
  have e : x * y = (x / 4294967296 * (y / 4294967296)) * 18446744073709551616 + (x / 4294967296 * (y % 4294967296) + x % 4294967296 * (y / 4294967296)) * 4294967296 + x % 4294967296 * (y % 4294967296) := by
    conv => lhs; rw [← Nat.div_add_mod x 4294967296, ← Nat.div_add_mod y 4294967296]
    generalize x / 4294967296 = a
    generalize y / 4294967296 = b
    generalize x % 4294967296 = c
    generalize y % 4294967296 = d
    grind
  rw [e]
  have h11 := Nat.mul_le_mul hx1 hy1
  have h10 := Nat.mul_le_mul hx1 hy0
  have h01 := Nat.mul_le_mul hx0 hy1
  have h00 := Nat.mul_le_mul hx0 hy0
  generalize x / 4294967296 * (y / 4294967296) = p11 at *
  generalize x / 4294967296 * (y % 4294967296) = p10 at *
  generalize x % 4294967296 * (y / 4294967296) = p01 at *
  generalize x % 4294967296 * (y % 4294967296) = p00 at *
  rw [wrapN (n := p11) (by omega), wrapN (n := p10) (by omega), wrapN (n := p01) (by omega), wrapN (n := p00) (by omega)]
  have ha : ∀ a b : Nat, (a : Int) + (b : Int) = ((a + b : Nat) : Int) := fun a b => by push_cast; rfl
  simp only [fdiv_32, ha]
  rw [wrapN (n := p10 + p00 / 4294967296) (by omega)]
  simp only [fdiv_32, ha, and_low32]
  rw [wrapN (n := p11 + (p10 + p00 / 4294967296) / 4294967296) (by omega), wrapN (n := (p10 + p00 / 4294967296) % 4294967296 + p01) (by omega)]
  simp only [fdiv_32, ha]
  rw [wrapN (by omega)]
  congr 1
  omega
theorem wrapM (x y : Nat) : IntKind.u64.wrap ((x : Int) * (y : Int)) = ((x * y % 18446744073709551616 : Nat) : Int) := by
  rw [show (x : Int) * (y : Int) = ((x * y : Nat) : Int) by push_cast; rfl, wrap_u64]

/-- A product's eight limbs. -/
def prodA (n : Nat) : List AV := u64s (digs 18446744073709551616 8 n)
theorem digs_app (b n m x : Nat) : digs b (n + m) x = digs b n x ++ digs b m (x / b ^ n) := by
  unfold digs
  rw [List.range_add, List.map_append, List.map_map]
  congr 1
  apply List.map_congr_left
  intro i _
  simp only [Function.comp]
  rw [Nat.div_div_eq_div_mul, ← Nat.pow_add]
theorem prodA_split (n : Nat) : prodA n = numA n ++ numA (n / 2 ^ 256) := by
  unfold prodA
  rw [show (8 : Nat) = 4 + 4 from rfl, digs_app, ← u64s_append, numA_digs, numA_digs]
theorem prodA_len (n : Nat) : (prodA n).length = 8 := by simp [prodA]
theorem prodA_take (n : Nat) : (prodA n).take 4 = numA n := by rw [prodA_split]; rfl
theorem prodA_take8 (n : Nat) : (prodA n).take 8 = prodA n := List.take_of_length_le (by simp [prodA])
theorem prodA_drop8 (n : Nat) : (prodA n).drop 8 = [] := List.drop_of_length_le (by simp [prodA])
theorem prodA_drop (n : Nat) : (prodA n).drop 4 = numA (n / 2 ^ 256) := by rw [prodA_split]; rfl
theorem prodA_zero : prodA 0 = [.v (.int .u64 0), .v (.int .u64 0), .v (.int .u64 0), .v (.int .u64 0), .v (.int .u64 0), .v (.int .u64 0), .v (.int .u64 0), .v (.int .u64 0)] := rfl

/-- A limb of a product is put. -/
theorem times_step {P : List Nat} {m X Y c : Nat} (hP : ∀ d ∈ P, d < 18446744073709551616) (hm : m < P.length) (hc : c < 18446744073709551616) (hX : X < 18446744073709551616) (hY : Y < 18446744073709551616) :
    (∀ d ∈ P.set m ((X * Y + P[m] + c) % 18446744073709551616), d < 18446744073709551616) ∧ (X * Y + P[m] + c) / 18446744073709551616 < 18446744073709551616 ∧
    valD 18446744073709551616 (P.set m ((X * Y + P[m] + c) % 18446744073709551616)) + 18446744073709551616 ^ (m + 1) * ((X * Y + P[m] + c) / 18446744073709551616) = valD 18446744073709551616 P + 18446744073709551616 ^ m * (X * Y + c) := by
  have hp := hP _ (List.getElem_mem hm)
  refine ⟨fun d hd => ?_, ?_, ?_⟩
  · rcases List.mem_or_eq_of_mem_set hd with h | h
    · exact hP d h
    · rw [h]; exact Nat.mod_lt _ (by decide)
  · have h1 : X ≤ 18446744073709551615 := by omega
    have h2 : Y ≤ 18446744073709551615 := by omega
    have := Nat.mul_le_mul h1 h2
    omega
  · have h1 := valD_set (b := 18446744073709551616) hm ((X * Y + P[m] + c) % 18446744073709551616)
    generalize valD 18446744073709551616 (P.set m ((X * Y + P[m] + c) % 18446744073709551616)) = v at *
    generalize valD 18446744073709551616 P = v0 at *
    rw [Nat.pow_succ, Nat.mul_assoc]
    have h2 := Nat.div_add_mod (X * Y + P[m] + c) 18446744073709551616
    generalize (X * Y + P[m] + c) / 18446744073709551616 = q at *
    generalize (X * Y + P[m] + c) % 18446744073709551616 = r at *
    generalize 18446744073709551616 ^ m = B at *
    have h3 : B * (18446744073709551616 * q) + B * r = B * (X * Y + c) + B * P[m] := by rw [← Nat.mul_add, h2, ← Nat.mul_add]; congr 1; omega
    omega

/-- What goes over when a number is doubled. -/
def shc (b x e i : Nat) : Nat := (2 * (x % b ^ i) + e) / b ^ i
theorem shc_zero (b x e : Nat) : shc b x e 0 = e := by simp [shc, Nat.mod_one]
theorem shc_le {b x e i : Nat} (hb : 0 < b) (he : e ≤ 1) : shc b x e i ≤ 1 := by
  have hB : 0 < b ^ i := Nat.pow_pos hb
  have h1 := Nat.mod_lt x hB
  unfold shc
  rw [← Nat.lt_succ_iff, Nat.div_lt_iff_lt_mul hB]
  omega
theorem shc_dig {b x e i : Nat} (hb : 0 < b) : (2 * (x / b ^ i % b) + shc b x e i) % b = (2 * x + e) / b ^ i % b := by
  have hB : 0 < b ^ i := Nat.pow_pos hb
  have h : (2 * x + e) / b ^ i = 2 * (x / b ^ i) + shc b x e i := by
    unfold shc
    conv => lhs; rw [← Nat.div_add_mod x (b ^ i)]
    generalize x / b ^ i = q
    generalize x % b ^ i = r
    rw [show 2 * (b ^ i * q + r) + e = (2 * r + e) + b ^ i * (2 * q) by grind, Nat.add_mul_div_left _ _ hB, Nat.add_comm]
  rw [h]
  generalize x / b ^ i = q
  rw [Nat.add_mod, Nat.mul_mod, Nat.mod_mod, ← Nat.mul_mod, ← Nat.add_mod]
theorem shc_next {b x e i : Nat} (hb : 0 < b) : (2 * (x / b ^ i % b) + shc b x e i) / b = shc b x e (i + 1) := by
  have hB : 0 < b ^ i := Nat.pow_pos hb
  unfold shc
  rw [mod_digit b x i, Nat.pow_succ, ← Nat.div_div_eq_div_mul]
  congr 1
  generalize x / b ^ i % b = q
  generalize x % b ^ i = r
  rw [show 2 * (r + b ^ i * q) + e = (2 * r + e) + b ^ i * (2 * q) by grind, Nat.add_mul_div_left _ _ hB, Nat.add_comm]
theorem shc_last {b x e n : Nat} (hx : x < b ^ n) : shc b x e n = (2 * x + e) / b ^ n := by unfold shc; rw [Nat.mod_eq_of_lt hx]

/-- A bit that is laid where there is none. -/
theorem or_bit {n b : Nat} (h : n / 2 ^ b % 2 = 0) : n ||| 2 ^ b = n + 2 ^ b := by
  apply Nat.eq_of_testBit_eq
  intro j
  have e := Nat.div_add_mod n (2 ^ b)
  have h1 : n + 2 ^ b = 2 ^ b * (n / 2 ^ b + 1) + n % 2 ^ b := by rw [Nat.mul_add, Nat.mul_one]; omega
  have hlt := Nat.mod_lt n (Nat.two_pow_pos b)
  rw [Nat.testBit_or, Nat.testBit_two_pow, h1, Nat.testBit_two_pow_mul_add _ hlt]
  conv => lhs; rw [← e, Nat.testBit_two_pow_mul_add _ hlt]
  split
  · rename_i hj
    simp; omega
  · rename_i hj
    generalize n / 2 ^ b = q at *
    by_cases hb : b = j
    · subst hb
      simp [Nat.testBit_zero]; omega
    · have h3 : j - b = (j - b - 1) + 1 := by omega
      rw [h3, Nat.testBit_succ, Nat.testBit_succ]
      have : (q + 1) / 2 = q / 2 := by omega
      rw [this]; simp [hb]
theorem or_nat (a b : Nat) (ha : a < 18446744073709551616) (hb : b < 18446744073709551616) : (BitVec.ofInt 64 (a : Int) ||| BitVec.ofInt 64 (b : Int)).toNat = a ||| b := by
  rw [BitVec.toNat_or]
  simp
  rw [Nat.mod_eq_of_lt ha, Nat.mod_eq_of_lt hb]

theorem or_shift {X c : Nat} (hX : X < 18446744073709551616) (hc : c ≤ 1) : (BitVec.ofInt 64 (IntKind.u64.wrap ((X : Int) * 2)) ||| BitVec.ofNat 64 c).toNat = (2 * X + c) % 18446744073709551616 := by
  have e1 : IntKind.u64.wrap ((X : Int) * 2) = ((2 * X % 18446744073709551616 : Nat) : Int) := by
    rw [show (X : Int) * 2 = ((2 * X : Nat) : Int) by push_cast <;> omega, wrap_u64]
  have e2 : BitVec.ofNat 64 c = BitVec.ofInt 64 ((c : Nat) : Int) := by simp
  rw [e1, e2, or_nat _ _ (by omega) (by omega)]
  have : c = 0 ∨ c = 1 := by omega
  rcases this with rfl | rfl
  · simp
  · have := or_bit (n := 2 * X % 18446744073709551616) (b := 0) (by simp)
    rw [Nat.pow_zero] at this
    rw [this]; omega

/-- Digits that are held against one another, the highest first. -/
theorem high_eq {b n x y i : Nat} (hb : 0 < b) (hx : x < b ^ n) (hy : y < b ^ n) (h : ∀ j, i ≤ j → j < n → x / b ^ j % b = y / b ^ j % b) : ∀ k, i + k ≤ n → x / b ^ (n - k) = y / b ^ (n - k)
  | 0, _ => by rw [Nat.sub_zero, Nat.div_eq_of_lt hx, Nat.div_eq_of_lt hy]
  | k + 1, hk => by
    have ih := high_eq hb hx hy h k (by omega)
    have e : n - k = n - (k + 1) + 1 := by omega
    rw [e, Nat.pow_succ, ← Nat.div_div_eq_div_mul, ← Nat.div_div_eq_div_mul] at ih
    have hd := h (n - (k + 1)) (by omega) (by omega)
    rw [← Nat.div_add_mod (x / b ^ (n - (k + 1))) b, ← Nat.div_add_mod (y / b ^ (n - (k + 1))) b, ih, hd]
theorem high_eq' {b n x y i : Nat} (hb : 0 < b) (hx : x < b ^ n) (hy : y < b ^ n) (hi : i ≤ n) (h : ∀ j, i ≤ j → j < n → x / b ^ j % b = y / b ^ j % b) : x / b ^ i = y / b ^ i := by
  have := high_eq hb hx hy h (n - i) (by omega)
  rwa [show n - (n - i) = i by omega] at this
theorem cmp_lt {b n x y i : Nat} (hb : 0 < b) (hx : x < b ^ n) (hy : y < b ^ n) (hi : i < n) (h : ∀ j, i < j → j < n → x / b ^ j % b = y / b ^ j % b) (hl : x / b ^ i % b < y / b ^ i % b) : x < y := by
  have h1 := high_eq' hb hx hy (i := i + 1) (by omega) (fun j h1 h2 => h j (by omega) h2)
  rw [Nat.pow_succ, ← Nat.div_div_eq_div_mul, ← Nat.div_div_eq_div_mul] at h1
  have h2 : x / b ^ i < y / b ^ i := by
    rw [← Nat.div_add_mod (x / b ^ i) b, ← Nat.div_add_mod (y / b ^ i) b, h1]; omega
  apply Nat.lt_of_not_le
  intro hle
  exact absurd (Nat.div_le_div_right (c := b ^ i) hle) (by omega)
theorem pre_rev {n i : Nat} {pre : List Nat} (h : pre ++ [i] <+: (List.range n).reverse) : i < n ∧ ∀ j, i < j → j < n → j ∈ pre := by
  obtain ⟨t, ht⟩ := h
  have hl : pre.length < n := by have := congrArg List.length ht; simp at this; omega
  have hi : i = n - 1 - pre.length := by
    have := congrArg (fun l => l[pre.length]?) ht
    simp at this
    rw [List.getElem?_eq_getElem (by simp; omega)] at this
    simp at this
    omega
  refine ⟨by omega, fun j h1 h2 => ?_⟩
  have h3 := congrArg (fun l => l[n - 1 - j]?) ht
  simp only [List.append_assoc] at h3
  rw [List.getElem?_append_left (by omega), List.getElem?_eq_getElem (by omega), List.getElem?_eq_getElem (by simp; omega)] at h3
  simp at h3
  have : n - 1 - (n - 1 - j) = j := by omega
  rw [this] at h3
  rw [← h3]; exact List.getElem_mem _
def u64v (l : List Nat) : List Value := l.map fun (n : Nat) => .int .u64 (n : Int)
theorem u64v_map (l : List Nat) : (u64v l).map AV.v = u64s l := by simp [u64v, u64s]
theorem u64v_get {l : List Nat} {i : Nat} {x : Value} (h : (u64v l)[i]? = some x) : ∃ k : Nat, l[i]? = some k ∧ x = .int .u64 (k : Int) := by
  simp only [u64v, List.getElem?_map] at h
  cases h2 : l[i]? with
  | none => rw [h2] at h; simp at h
  | some a =>
    rw [h2] at h; simp at h
    exact ⟨a, rfl, h.symm⟩
theorem u64v_plain (l : List Nat) : (u64v l).all (fun x => plain x && x.oneCell') = true := by
  simp [u64v, plain, Value.oneCell']

/-- Where a row of a product stands. -/
def TimesInv (x y i X k : Nat) (P : List Nat) (c : Nat) : Prop :=
  P.length = 8 ∧ (∀ d ∈ P, d < 18446744073709551616) ∧ c < 18446744073709551616 ∧
    valD 18446744073709551616 P + 18446744073709551616 ^ (i + k) * c = (x % 18446744073709551616 ^ i) * y + 18446744073709551616 ^ i * (X * (y % 18446744073709551616 ^ k)) ∧
    ∀ j, i + k ≤ j → P[j]? = (digs 18446744073709551616 8 ((x % 18446744073709551616 ^ i) * y))[j]?

theorem part_lt {x y i n m : Nat} {b : Nat} (hb : 0 < b) (hy : y < b ^ m) (h : i + m ≤ n) : (x % b ^ i) * y < b ^ n := by
  have h1 := Nat.mod_lt x (Nat.pow_pos (n := i) hb)
  have h2 : (x % b ^ i) * y < b ^ i * b ^ m := Nat.mul_lt_mul'' h1 hy
  rw [← Nat.pow_add] at h2
  exact Nat.lt_of_lt_of_le h2 (Nat.pow_le_pow_right hb h)

theorem times_first {x y i X : Nat} (hi : i ≤ 4) (hy : y < 18446744073709551616 ^ 4) : TimesInv x y i X 0 (digs 18446744073709551616 8 ((x % 18446744073709551616 ^ i) * y)) 0 := by
  refine ⟨by simp, digs_lt (by decide), by decide, ?_, fun j _ => rfl⟩
  rw [valD_digs, Nat.mod_eq_of_lt (part_lt (by decide) hy (by omega))]
  simp [Nat.mod_one]

theorem times_next {x y i X k p c s c' : Nat} {P : List Nat} (h : TimesInv x y i X k P c) (hi : i < 4) (hk : k < 4) (hX : X < 18446744073709551616) (hp : P[i + k]? = some p) {Y : Nat} (hY : y / 18446744073709551616 ^ k % 18446744073709551616 = Y)
    (hs : s = (X * Y + p + c) % 18446744073709551616) (hc : c' = (X * Y + p + c) / 18446744073709551616) : TimesInv x y i X (k + 1) (P.set (i + k) s) c' := by
  obtain ⟨h1, h2, h3, h4, h5⟩ := h
  obtain ⟨hl, rfl⟩ := List.getElem?_eq_some_iff.1 hp
  have hY2 : Y < 18446744073709551616 := by rw [← hY]; exact Nat.mod_lt _ (by decide)
  obtain ⟨e1, e2, e3⟩ := times_step h2 hl h3 hX hY2
  subst hs hc
  refine ⟨by simp [h1], e1, e2, ?_, fun j hj => ?_⟩
  · rw [← Nat.add_assoc, e3, mod_digit, hY, Nat.mul_add (18446744073709551616 ^ (i + k)), Nat.add_comm (18446744073709551616 ^ (i + k) * (X * Y)), ← Nat.add_assoc, h4, Nat.pow_add]
    generalize 18446744073709551616 ^ i = A
    generalize 18446744073709551616 ^ k = B
    generalize y % B = z
    grind
  · rw [List.getElem?_set_ne (by omega)]
    exact h5 j (by omega)

theorem times_last {x y i X c : Nat} {P : List Nat} (h : TimesInv x y i X 4 P c) (hi : i < 4) (hX : x / 18446744073709551616 ^ i % 18446744073709551616 = X) (hy : y < 18446744073709551616 ^ 4) :
    P.set (i + 4) c = digs 18446744073709551616 8 ((x % 18446744073709551616 ^ (i + 1)) * y) := by
  obtain ⟨h1, h2, h3, h4, h5⟩ := h
  have hl : i + 4 < P.length := by omega
  have h0 : P[i + 4] = 0 := by
    have := h5 (i + 4) (Nat.le_refl _)
    rw [List.getElem?_eq_getElem hl, digs_get? (by omega), Nat.div_eq_of_lt (part_lt (by decide) hy (Nat.le_refl _))] at this
    simpa using this
  refine digs_of (by decide) (fun d hd => ?_) (by simp [h1]) ?_
  · rcases List.mem_or_eq_of_mem_set hd with h | h
    · exact h2 d h
    · rw [h]; exact h3
  · have e := valD_set (b := 18446744073709551616) hl c
    rw [h0, Nat.mul_zero, Nat.add_zero] at e
    rw [e, h4, Nat.mod_eq_of_lt hy, mod_digit _ x i, hX]
    generalize 18446744073709551616 ^ i = A
    grind

/-- A bit of a limb. -/
theorem limb_bit2 {x L q r j : Nat} (hL : L = x / 18446744073709551616 ^ q % 18446744073709551616) (hr : r < 64) (hj : j = 64 * q + r) : L / 2 ^ r % 2 = x / 2 ^ j % 2 := by
  have h1 := limb_bit x q r
  rw [limb_dig, ← hL, ← hj] at h1
  simp only [hr, decide_true, Bool.true_and, Nat.testBit_eq_decide_div_mod_eq] at h1
  have h2 : (L / 2 ^ r % 2 = 1) ↔ (x / 2 ^ j % 2 = 1) := by simpa using h1
  omega
theorem pow2_cast (r : Nat) : ((2 : Int) ^ r) = ((2 ^ r : Nat) : Int) := by push_cast; rfl
theorem bit_of {x L q r j : Nat} (hL : L = x / 18446744073709551616 ^ q % 18446744073709551616) (hr : r < 64) (hj : j = 64 * q + r) :
    (BitVec.ofInt 64 ((L : Int).fdiv (2 ^ min r 64)) &&& 1#64).toNat = x / 2 ^ j % 2 := by
  rw [Nat.min_eq_left (by omega), pow2_cast, fdiv_nat, BitVec.toNat_and]
  have hl : L / 2 ^ r < 2 ^ 64 := Nat.lt_of_le_of_lt (Nat.div_le_self _ _) (by omega)
  have e : (BitVec.ofInt 64 ((L / 2 ^ r : Nat) : Int)).toNat = L / 2 ^ r := by
    rw [BitVec.toNat_ofInt]
    generalize L / 2 ^ r = M at hl
    have : ((M : Nat) : Int) % ((2 ^ 64 : Nat) : Int) = ((M : Nat) : Int) := Int.emod_eq_of_lt (by omega) (by omega)
    rw [this]; rfl
  rw [e]
  show L / 2 ^ r &&& 1 = _
  rw [Nat.and_one_is_mod]
  exact limb_bit2 hL hr hj

theorem div_round {x c j : Nat} (hc : 0 < c) :
    (2 * (x / 2 ^ (j + 1) % c) + x / 2 ^ j % 2 < c → x / 2 ^ j / c = 2 * (x / 2 ^ (j + 1) / c) ∧ x / 2 ^ j % c = 2 * (x / 2 ^ (j + 1) % c) + x / 2 ^ j % 2) ∧
    (c ≤ 2 * (x / 2 ^ (j + 1) % c) + x / 2 ^ j % 2 → x / 2 ^ j / c = 2 * (x / 2 ^ (j + 1) / c) + 1 ∧ x / 2 ^ j % c = 2 * (x / 2 ^ (j + 1) % c) + x / 2 ^ j % 2 - c) ∧
    2 * (x / 2 ^ (j + 1) % c) + x / 2 ^ j % 2 < 2 * c := by
  have e0 : x / 2 ^ (j + 1) = x / 2 ^ j / 2 := by rw [Nat.pow_succ, Nat.div_div_eq_div_mul]
  rw [e0]
  generalize x / 2 ^ j = y
  have e1 := Nat.div_add_mod y 2
  have e2 := Nat.div_add_mod (y / 2) c
  have e3 := Nat.mod_lt (y / 2) hc
  have e4 := Nat.mod_lt y (show 0 < 2 by omega)
  generalize y / 2 / c = u at *
  generalize y / 2 % c = v at *
  generalize y % 2 = b at *
  have hy : y = c * (2 * u) + (2 * v + b) := by rw [← e1, ← e2]; grind
  refine ⟨fun h => ?_, fun h => ?_, by omega⟩
  · subst hy
    exact ⟨by rw [Nat.mul_add_div hc, Nat.div_eq_of_lt h, Nat.add_zero], by rw [Nat.mul_add_mod, Nat.mod_eq_of_lt h]⟩
  · have hy2 : y = c * (2 * u + 1) + (2 * v + b - c) := by rw [hy, Nat.mul_add, Nat.mul_one]; omega
    have h2 : 2 * v + b - c < c := by omega
    rw [hy2]
    exact ⟨by rw [Nat.mul_add_div hc, Nat.div_eq_of_lt h2, Nat.add_zero], by rw [Nat.mul_add_mod, Nat.mod_eq_of_lt h2]⟩

/-- A quotient's bit is laid. -/
theorem digs_bit {Q j q r M : Nat} (hM : M = Q / 18446744073709551616 ^ q % 18446744073709551616) (hr : r < 64) (hj : j = 64 * q + r) (hq : q < 8) (hb : Q / 2 ^ j % 2 = 0) (hl : Q + 2 ^ j < 2 ^ 512) :
    M + 2 ^ r < 18446744073709551616 ∧ M ||| 2 ^ r = M + 2 ^ r ∧ (digs 18446744073709551616 8 Q).set q (M + 2 ^ r) = digs 18446744073709551616 8 (Q + 2 ^ j) := by
  have hm2 : M / 2 ^ r % 2 = 0 := by rw [limb_bit2 hM hr hj]; exact hb
  have hMl : M < 18446744073709551616 := by rw [hM]; exact Nat.mod_lt _ (by decide)
  have hlt : M + 2 ^ r < 18446744073709551616 := by
    have e := Nat.div_add_mod M (2 ^ r)
    have hp := Nat.two_pow_pos r
    have e2 := Nat.mod_lt M hp
    obtain ⟨s, hs⟩ : ∃ s, 64 = r + (s + 1) := ⟨63 - r, by omega⟩
    have hW : 18446744073709551616 = 2 ^ r * (2 * 2 ^ s) := by
      rw [show (18446744073709551616 : Nat) = 2 ^ 64 from rfl]; conv => lhs; rw [hs, Nat.pow_add, Nat.pow_succ, Nat.mul_comm (2 ^ s)]
    have h3 : M / 2 ^ r < 2 * 2 ^ s := Nat.div_lt_of_lt_mul (by rw [← hW]; exact hMl)
    have h4 : M / 2 ^ r + 2 ≤ 2 * 2 ^ s := by omega
    have h5 := Nat.mul_le_mul_left (2 ^ r) h4
    rw [Nat.mul_add] at h5
    rw [hW]; omega
  refine ⟨hlt, or_bit hm2, ?_⟩
  have hl1 : q < (digs 18446744073709551616 8 Q).length := by simpa using hq
  refine digs_of (by decide) (fun d hd => ?_) (by simp) ?_
  · rcases List.mem_or_eq_of_mem_set hd with h | h
    · exact digs_lt (by decide) d h
    · rw [h]; exact hlt
  · have e := valD_set (b := 18446744073709551616) hl1 (M + 2 ^ r)
    have hQ : Q < 18446744073709551616 ^ 8 := by
      have h8 : (18446744073709551616 : Nat) ^ 8 = 2 ^ 512 := by rw [show (18446744073709551616 : Nat) = 2 ^ 64 from rfl, ← Nat.pow_mul]
      rw [h8]; exact Nat.lt_of_le_of_lt (Nat.le_add_right _ _) hl
    rw [digs_get hq, ← hM, valD_digs, Nat.mod_eq_of_lt hQ] at e
    have e2 : 18446744073709551616 ^ q * 2 ^ r = 2 ^ j := by rw [show (18446744073709551616 : Nat) = 2 ^ 64 from rfl, ← Nat.pow_mul, ← Nat.pow_add, hj]
    rw [Nat.mul_add, e2] at e
    omega
theorem numA_mod (x : Nat) : numA (x % 2 ^ 256) = numA x := by
  rw [numA_digs, numA_digs]
  congr 1
  refine (digs_of (by decide) (digs_lt (by decide)) (by simp) ?_).symm
  rw [valD_digs]

theorem andI_bit {x L q r j : Nat} (hL : L = x / 18446744073709551616 ^ q % 18446744073709551616) (hr : r < 64) (hj : j = 64 * q + r) : andI .u64 ((L : Int).fdiv (2 ^ min r 64)) 1 = ((x / 2 ^ j % 2 : Nat) : Int) := by
  have h := bit_of hL hr hj
  unfold andI
  have e : (BitVec.ofInt IntKind.u64.bits ((L : Int).fdiv (2 ^ min r 64)) &&& BitVec.ofInt IntKind.u64.bits 1).toNat = x / 2 ^ j % 2 := h
  rw [e]; exact wrapN (by omega)
theorem orI_nat {a b : Nat} (ha : a < 18446744073709551616) (hb : b < 18446744073709551616) : orI .u64 (a : Int) (b : Int) = ((a ||| b : Nat) : Int) := by
  unfold orI
  have e : (BitVec.ofInt IntKind.u64.bits (a : Int) ||| BitVec.ofInt IntKind.u64.bits (b : Int)).toNat = a ||| b := or_nat a b ha hb
  rw [e]; exact wrapN (Nat.or_lt_two_pow (n := 64) ha hb)
theorem shl_bit {r : Nat} (hr : r < 64) : IntKind.u64.wrap (1 * 2 ^ min r 64) = ((2 ^ r : Nat) : Int) := by
  rw [Nat.min_eq_left (by omega), Int.one_mul, pow2_cast]
  exact wrapN (Nat.pow_lt_pow_right (by omega) hr)
theorem shl_bit' {r : Nat} (hr : r < 64) : IntKind.u64.wrap (2 ^ min r 64) = ((2 ^ r : Nat) : Int) := by
  have := shl_bit hr; rwa [Int.one_mul] at this

end Go.Vm
