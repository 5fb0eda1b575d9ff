import Derived.Test.YtdbaddholggkbaaZ8
import Derived.Test.YtdbaddholggkbaaZ7
import Derived.Test.YtdbaddholggkbaaZ9
import Derived.RangeFuncKeeps
import Derived.RangeFuncLeaves
import Derived.Shelf.Abstract
import Derived.WalkKit
import Derived.OwnWalkIn
import Derived.TacticsInMore
import Derived.LoopNIn
import Derived.LoopIn
/-
  The library's iterator over a slice, the last one first.
-/
namespace Go.Proofs.Ytdbaddholggkbaa
set_option linter.unnecessarySimpa false
set_option maxRecDepth 100000
open Go Go.Vm Go.RowKit Go.Shelf
attribute [local go_sem] Oper.semAt_some

def left : Value → Nat
  | .int _ n => (n + 1).toNat
  | _ => 0

set_option maxRecDepth 100000 in
set_option maxHeartbeats 2000000 in
theorem back62_in (n : Nat) (hn : 1 ≤ n) (l Bn Bo m c : Nat) (ad : Option Addr) (xs : List Value) (Good : Nat → Nat → Prop) (J Jx : List (Fin m) → World → Prop) (hm : m < 4611686018427387904) (hl : xs.length = m)
    (hx : ∀ (j : Nat) x, xs[j]? = some x → ∃ b o, ad = some ⟨b, o, none⟩ ∧ Good b (o + j))
    (hY : ∀ pre (i : Fin m) W, J pre W → pre.length < m → YieldAt Fence.wide (n - 1) Try.prog l #[.int .i64 i.val, xs[i.val]'(by omega)] W fun e W' =>
      (e = .returned (.bool true) ∧ J (pre ++ [i]) W' ∧ KeepsAt Good W W') ∨ (e = .returned (.bool false) ∧ Jx (pre ++ [i]) W'))
    (W : World) (hc : W.cell? ⟨Bn, Bo, none⟩ = some (.slice ad m c)) (hB : Good Bn Bo) (hxc : ∀ (j : Nat) x, xs[j]? = some x → ∀ b o, ad = some ⟨b, o, none⟩ → W.cell? ⟨b, o + j, none⟩ = some x) (h0 : J [] W) :
    CallsIn Fence.wide n Try.prog 154 #[.func (.yield l) #[] #[], .pointer (some ⟨Bn, Bo, none⟩)] W fun e W' => (∃ v, e = .returned v) ∧
      ((∃ ys : List (Fin m), ys.map Fin.val = (List.range m).reverse ∧ J ys W') ∨ (∃ pre : List (Fin m), pre.map Fin.val <+: (List.range m).reverse ∧ Jx pre W')) := by
  have hw1 : ∀ k : Nat, k ≤ m → IntKind.i64.wrap ((k : Int) - 1) = (k : Int) - 1 := fun k hk => wrap_i64 _ (by omega) (by omega)
  refine callsIn_of_wp Try.func154 rfl trivial ?_ rfl; simp only [Try.ntmps154, List.size_toArray, List.length_cons, List.length_nil, Nat.reduceAdd, Nat.reduceSub, Array.replicate_succ, Array.replicate_zero, List.push_toArray, List.append_toArray, List.nil_append, List.cons_append]
  gi_wp2
  gi_loopw [3] (fun v wr => ∃ (k : Nat) (pre : List (Fin m)), k ≤ m ∧ v = .int .i64 ((k : Int) - 1) ∧ pre.map Fin.val = (List.range m).reverse.take (m - k) ∧ J pre wr ∧ wr.cell? ⟨Bn, Bo, none⟩ = some (.slice ad m c) ∧ (∀ (j : Nat) x, xs[j]? = some x → ∀ b o, ad = some ⟨b, o, none⟩ → wr.cell? ⟨b, o + j, none⟩ = some x))
    (fun v wr => left v)
  case atStart =>
    exact ⟨m, [], Nat.le_refl _, rfl, by simp, h0, hc, hxc⟩
  case round =>
    obtain ⟨k, pre, hk, rfl, hp, hJ, hc', hxc'⟩ := hrel
    cases k with
    | zero =>
      have e : ((0 : Nat) : Int) - 1 = -1 := by omega
      rw [e]
      gi_wp2
      go_end0
      exact ⟨⟨_, rfl⟩, .inl ⟨pre, by rw [hp]; exact List.take_of_length_le (by simp), hJ⟩⟩
    | succ k =>
      have hkl : k < xs.length := by omega
      have hxk : xs[k]? = some xs[k] := List.getElem?_eq_getElem hkl
      obtain ⟨b, o, rfl, hgood⟩ := hx k _ hxk
      have hcell := hxc' k _ hxk b o rfl
      have hlen : pre.length = m - (k + 1) := by
        have := congrArg List.length hp
        simpa using this
      obtain ⟨fn, tmps, assign, body, hy, hR⟩ := hY pre ⟨k, by omega⟩ wr hJ (by omega)
      have e : ((k + 1 : Nat) : Int) - 1 = (k : Int) := by omega
      rw [e]
      have hk0 : ¬ (k : Int) < 0 := by omega
      have hkm : (k : Int) < m := by omega
      gi_wp2
      refine hR.mono ?_
      have hsnoc : (pre ++ [(⟨k, by omega⟩ : Fin m)]).map Fin.val = (List.range m).reverse.take (m - k) := by
        have hlt : m - (k + 1) < ((List.range m).reverse).length := by simp; omega
        have e1 : m - k = m - (k + 1) + 1 := by omega
        rw [e1, List.take_succ_eq_append_getElem hlt, List.map_append, hp]
        congr 1
        simp
        omega
      rintro e3 W3 (⟨rfl, hJ3, hk3⟩ | ⟨rfl, hJx3⟩)
      · have hc3 : W3.cell? ⟨Bn, Bo, none⟩ = some (.slice (some ⟨b, o, none⟩) m c) := hk3 _ _ _ hB hc'
        have hx3 : ∀ (j : Nat) x, xs[j]? = some x → ∀ b' o', some (⟨b, o, none⟩ : Addr) = some ⟨b', o', none⟩ → W3.cell? ⟨b', o' + j, none⟩ = some x := by
          intro j x hj b' o' hb'
          cases hb'
          obtain ⟨b2, o2, h2, h3⟩ := hx j x hj
          cases h2
          exact hk3 _ _ _ h3 (hxc' j x hj _ _ rfl)
        gi_wp2
        go_roundw
        case rel => exact ⟨k, pre ++ [⟨k, by omega⟩], by omega, rfl, hsnoc, hJ3, hc3, hx3⟩
        case measure => simp [left]
      · gi_wp2
        refine bodyPost_ret (results_none rfl _ _ _) rfl ?_; exact ⟨⟨_, rfl⟩, .inr ⟨pre ++ [⟨k, by omega⟩], by rw [hsnoc]; exact List.take_prefix _ _, hJx3⟩⟩

theorem backs62 : Backs Try.prog 154 (fun m => m < 4611686018427387904) := by
  intro n w Bn Bo m c ad xs Good hn hm hc hB hl hx l J Jx W hW _ _ hY h0
  have hin : ∀ {b o : Nat} {x : Value}, w.cell? ⟨b, o, none⟩ = some x → W.cell? ⟨b, o, none⟩ = some x := by
    intro b o x h
    obtain ⟨cs, e, fr, hb, _⟩ := cell_heap h
    have := hW.block b (Array.getElem?_eq_some_iff.1 hb).1
    obtain ⟨cs', e', fr', hb', hx'⟩ := cell_heap h
    rw [heap_cell (this.trans hb'), hx']
  exact back62_in n hn l Bn Bo m c ad xs Good J Jx hm hl (fun j x hj => let ⟨b, o, h1, h2, _⟩ := hx j x hj; ⟨b, o, h1, h2⟩) hY W (hin hc) hB (fun j x hj b o hb => by
    obtain ⟨b2, o2, h1, h2, h3⟩ := hx j x hj
    rw [h1] at hb; cases hb
    exact hin h3) h0

end Go.Proofs.Ytdbaddholggkbaa

/-
  Numbers' bytes, read.
-/
namespace Go.Proofs.Ytdbaddholggkbaa
set_option linter.unnecessarySimpa false
set_option maxRecDepth 100000
open Go Go.Vm
set_option linter.unusedSimpArgs false
set_option linter.unusedVariables false
attribute [local simp] evalL wantedA isCall opA evalA evalAll evalsA evalOpt ofValue ofCell plain binA_eql_pn binA_neq_pn binA_gtr binA_lss binA_geq binA_leq binA_add binA_sub binA_eql binA_neq binA_or binA_shl binA_mul binA_quo binA_rem convA_int unA_not fieldAddrA loadA partA pickA lenA builtinA storeA splice AV.cells AV.isCell sliceA boundA intA callOf indexAddrA newObjA buildA fillA zeroA ofCells

theorem backward_raw {σ : St} {sz m : Nat} {cs : List AV} {t : Tail} :
    CallsA Try.prog 151 [.sl sz cs m t] σ (fun av σ' => av = .fn 154 [.ptr σ.objs.length 0] ∧ σ' = { σ with objs := σ.objs ++ [[.sl sz cs m t]] }) := by
  refine callsA_body Try.func151 rfl rfl rfl ?_; refine run_seq_k fun K1 hK1 => ?_; refine run_region_k rfl fun J2 hJ2 => ?_; (try simp); refine hJ2 _ _ ?_; refine hK1 _ _ ?_; refine run_seq_k fun K3 hK3 => ?_; refine run_region_k rfl fun J4 hJ4 => ?_; (try simp); refine hJ4 _ _ ?_; refine hK3 _ _ ?_; refine ra ?_; simp

theorem backward_ok {σ : St} {sz m : Nat} {cs : List AV} {t : Tail} :
    CallsA Try.prog 151 [.sl sz cs m t] σ (fun av σ' => av = .fn 154 [.ep [.sl sz cs m t]] ∧ σ = σ') :=
  callsA_freeze backward_raw (by simp) rfl

def numOk (p : List UInt8) : Bool := decide (p.length ≤ 32) && (p.headD 1 != 0)
def numOf (p : List UInt8) : Nat := if numOk p then be p else 0

theorem read_long {σ : St} {p : List UInt8} (h : 32 < p.length) :
    CallsA Try.prog 147 [.sl 1 (bytesA p) p.length .shut] σ (fun av σ' => av = .tup [.agg (numA 0), .v (.int .i64 4)] ∧ σ' = { σ with objs := σ.objs ++ [[.sl 1 (bytesA p) p.length .shut], numA 0] }) := by
  have h' : ¬ (p.length : Int) ≤ 32 := by omega
  have h2 : (32 : Int) < p.length := by omega
  refine callsA_body Try.func147 rfl rfl rfl ?_; refine run_seq_k fun K1 hK1 => ?_; refine run_region_k rfl fun J2 hJ2 => ?_; (try simp [h', h2]); refine hJ2 _ _ ?_; refine hK1 _ _ ?_; refine run_seq_k fun K3 hK3 => ?_; refine run_seq_k fun K4 hK4 => ?_; refine run_region_k rfl fun J5 hJ5 => ?_; try simp [h', h2]
  refine runL_no (by first | rfl | (simp [h', h2, wantedA]; done)) rfl ?_
  try simp [h', h2]
  refine runL_no (by first | rfl | (simp [h', h2, wantedA]; done)) rfl ?_
  try simp [h', h2]
  refine runL_no (by first | rfl | (simp [h', h2, wantedA]; done)) rfl ?_
  try simp [h', h2]
  refine runL_no (by first | rfl | (simp [h', h2, wantedA]; done)) rfl ?_
  try simp [h', h2]
  refine runL_no (by first | rfl | (simp [h', h2, wantedA]; done)) rfl ?_
  try simp [h', h2]
  refine runL_no (by first | rfl | (simp [h', h2, wantedA]; done)) rfl ?_
  try simp [h', h2]
  refine runL_no (by first | rfl | (simp [h', h2, wantedA]; done)) rfl ?_
  try simp [h', h2]
  refine runL_no (by first | rfl | (simp [h', h2, wantedA]; done)) rfl ?_
  try simp [h', h2]
  refine runL_no (by first | rfl | (simp [h', h2, wantedA]; done)) rfl ?_
  (try simp [h', h2]); refine hJ5 _ _ ?_; refine hK4 _ _ ?_
  refine run_cond_true (by first | rfl | (simp [h', h2, evalA]; done)) ?_
  refine run_seq_k fun K6 hK6 => ?_; refine run_region_k rfl fun J7 hJ7 => ?_; (try simp [h', h2]); refine hJ7 _ _ ?_; refine hK6 _ _ ?_; refine run_ret ?_; (try simp only [Then, InBlock, NoGoto]); refine answer_cell_tmp rfl (.inr rfl) ?_; simp [numA_zero]

theorem read_zero {σ : St} {p : List UInt8} (h : p.length ≤ 32) (hp : 0 < p.length) (h0 : p[0] = 0) :
    CallsA Try.prog 147 [.sl 1 (bytesA p) p.length .shut] σ (fun av σ' => av = .tup [.agg (numA 0), .v (.int .i64 4)] ∧ σ' = { σ with objs := σ.objs ++ [[.sl 1 (bytesA p) p.length .shut], numA 0] }) := by
  have h1 : (p.length : Int) ≤ 32 := by omega
  have h2 : ¬ (32 : Int) < p.length := by omega
  have h3 : (0 : Int) < p.length := by omega
  have h4 : p ≠ [] := by intro e; simp [e] at hp
  refine callsA_body Try.func147 rfl rfl rfl ?_; refine run_seq_k fun K1 hK1 => ?_; refine run_region_k rfl fun J2 hJ2 => ?_; (try simp [h1, h2, h3, h0, hp, h4]); refine hJ2 _ _ ?_; refine hK1 _ _ ?_; refine run_seq_k fun K3 hK3 => ?_; refine run_seq_k fun K4 hK4 => ?_; refine run_region_k rfl fun J5 hJ5 => ?_; try simp [h1, h2, h3, h0, hp, h4]
  refine runL_go (by first | rfl | (simp [h1, h2, h3, h0, hp, h4, wantedA]; done)) rfl ?_
  try simp [h1, h2, h3, h0, hp, h4]
  refine runL_go (by first | rfl | (simp [h1, h2, h3, h0, hp, h4, wantedA]; done)) rfl ?_
  try simp [h1, h2, h3, h0, hp, h4]
  refine runL_go (by first | rfl | (simp [h1, h2, h3, h0, hp, h4, wantedA]; done)) rfl ?_
  try simp [h1, h2, h3, h0, hp, h4]
  refine runL_go (by first | rfl | (simp [h1, h2, h3, h0, hp, h4, wantedA]; done)) rfl ?_
  try simp [h1, h2, h3, h0, hp, h4]
  refine runL_go (by first | rfl | (simp [h1, h2, h3, h0, hp, h4, wantedA]; done)) rfl ?_
  try simp [h1, h2, h3, h0, hp, h4]
  refine runL_go (by first | rfl | (simp [h1, h2, h3, h0, hp, h4, wantedA]; done)) rfl ?_
  try simp [h1, h2, h3, h0, hp, h4]
  refine runL_go (by first | rfl | (simp [h1, h2, h3, h0, hp, h4, wantedA]; done)) rfl ?_
  try simp [h1, h2, h3, h0, hp, h4]
  refine runL_go (by first | rfl | (simp [h1, h2, h3, h0, hp, h4, wantedA]; done)) rfl ?_
  try simp [h1, h2, h3, h0, hp, h4]
  refine runL_go (by first | rfl | (simp [h1, h2, h3, h0, hp, h4, wantedA]; done)) rfl ?_
  (try simp [h1, h2, h3, h0, hp, h4]); refine hJ5 _ _ ?_; refine hK4 _ _ ?_
  refine run_cond_true (by first | rfl | (simp [h1, h2, h3, h0, hp, h4, evalA]; done)) ?_
  refine run_seq_k fun K6 hK6 => ?_; refine run_region_k rfl fun J7 hJ7 => ?_; (try simp [h1, h2, h3, h0, hp, h4]); refine hJ7 _ _ ?_; refine hK6 _ _ ?_; refine run_ret ?_; (try simp only [Then, InBlock, NoGoto]); refine answer_cell_tmp rfl (.inr rfl) ?_; simp [numA_zero]

theorem read_nil {σ : St} :
    CallsA Try.prog 147 [.sl 1 [] 0 .shut] σ (fun av σ' => av = .tup [.agg (numA 0), .v (.int .i64 0)] ∧ σ' = { σ with objs := σ.objs ++ [[.sl 1 [] 0 .shut], numA 0, numA 0] }) := by
  refine callsA_body Try.func147 rfl rfl rfl ?_; refine run_seq_k fun K1 hK1 => ?_; refine run_region_k rfl fun J2 hJ2 => ?_; (try simp); refine hJ2 _ _ ?_; refine hK1 _ _ ?_; refine run_seq_k fun K3 hK3 => ?_; refine run_seq_k fun K4 hK4 => ?_; refine run_region_k rfl fun J5 hJ5 => ?_; try simp
  refine runL_go (by first | rfl | (simp [wantedA]; done)) rfl ?_
  try simp
  refine runL_go (by first | rfl | (simp [wantedA]; done)) rfl ?_
  try simp
  refine runL_go (by first | rfl | (simp [wantedA]; done)) rfl ?_
  try simp
  refine runL_go (by first | rfl | (simp [wantedA]; done)) rfl ?_
  try simp
  refine runL_no (by first | rfl | (simp [wantedA]; done)) rfl ?_
  try simp
  refine runL_no (by first | rfl | (simp [wantedA]; done)) rfl ?_
  try simp
  refine runL_no (by first | rfl | (simp [wantedA]; done)) rfl ?_
  try simp
  refine runL_no (by first | rfl | (simp [wantedA]; done)) rfl ?_
  try simp
  refine runL_go (by first | rfl | (simp [wantedA]; done)) rfl ?_
  (try simp); refine hJ5 _ _ ?_; refine hK4 _ _ ?_
  refine run_cond_false (by first | rfl | (simp [evalA]; done)) ?_
  refine run_skip ?_; refine hK3 _ _ ?_; refine run_seq_k fun K6 hK6 => ?_; refine run_region_k rfl fun J7 hJ7 => ?_; (try simp); refine hJ7 _ _ ?_; refine hK6 _ _ ?_; refine run_seq_k fun K8 hK8 => ?_; refine run_seq_k fun K9 hK9 => ?_; refine run_region_k rfl fun J10 hJ10 => ?_; try simp
  refine runL_call' (b := true) (by first | rfl | (simp [wantedA]; done)) rfl rfl (by first | rfl | (simp [callOf]; done)) (by simp) (backward_ok) ?_
  rintro _ _ ⟨rfl, rfl⟩; (try simp); refine hJ10 _ _ ?_; refine hK9 _ _ ?_; refine run_block_k ?_
  refine run_backward backs62 ?rm1 (by first | rfl | (simp; done)) rfl rfl rfl rfl rfl rfl rfl rfl (by first | rfl | (simp; done)) (fun pre σ1 => σ1 = { σ with objs := σ.objs ++ [[.sl 1 [] 0 .shut], numA 0, numA 0] }) (fun _ _ _ => False) ?rs1 ?rr1 ?rd1 ?rx1
  case rm1 =>
    show _ < _
    omega
  case rs1 =>
    simp [numA_zero]
  case rr1 =>
    exact fun _ _ _ _ _ hi => absurd hi (Nat.not_lt_zero _)
  case rd1 =>
    rintro σ1 rfl; refine hK8 _ _ ?_; refine run_seq_k fun K11 hK11 => ?_; refine run_region_k rfl fun J12 hJ12 => ?_; (try simp); refine hJ12 _ _ ?_; refine hK11 _ _ ?_; refine run_ret ?_; (try simp only [Then, InBlock, NoGoto]); refine answer_cell_tmp rfl (.inr rfl) ?_; simp [numA]
  case rx1 =>
    exact fun _ _ _ _ h => h.elim

theorem read_ok {σ : St} {p : List UInt8} (h : p.length ≤ 32) (hp : 0 < p.length) (h0 : ¬ p[0] = 0) :
    CallsA Try.prog 147 [.sl 1 (bytesA p) p.length .shut] σ (fun av σ' => av = .tup [.agg (numA (be p)), .v (.int .i64 0)] ∧ σ' = { σ with objs := σ.objs ++ [[.sl 1 (bytesA p) p.length .shut], numA (be p), numA (be p)] }) := by
  have h1 : (p.length : Int) ≤ 32 := by omega
  have h2 : ¬ (32 : Int) < p.length := by omega
  have h3 : (0 : Int) < p.length := by omega
  have h5 : p ≠ [] := by intro e; simp [e] at hp
  have h6 : ¬ p[0].toNat = 0 := fun e => h0 (UInt8.toNat_inj.1 (by simpa using e))
  have h4 := orAll_all p
  refine callsA_body Try.func147 rfl rfl rfl ?_; refine run_seq_k fun K1 hK1 => ?_; refine run_region_k rfl fun J2 hJ2 => ?_; (try simp [h1, h2, h3, hp, h5, h6]); refine hJ2 _ _ ?_; refine hK1 _ _ ?_; refine run_seq_k fun K3 hK3 => ?_; refine run_seq_k fun K4 hK4 => ?_; refine run_region_k rfl fun J5 hJ5 => ?_; try simp [h1, h2, h3, hp, h5, h6]
  refine runL_go (by first | rfl | (simp [h1, h2, h3, hp, h5, h6, wantedA]; done)) rfl ?_
  try simp [h1, h2, h3, hp, h5, h6]
  refine runL_go (by first | rfl | (simp [h1, h2, h3, hp, h5, h6, wantedA]; done)) rfl ?_
  try simp [h1, h2, h3, hp, h5, h6]
  refine runL_go (by first | rfl | (simp [h1, h2, h3, hp, h5, h6, wantedA]; done)) rfl ?_
  try simp [h1, h2, h3, hp, h5, h6]
  refine runL_go (by first | rfl | (simp [h1, h2, h3, hp, h5, h6, wantedA]; done)) rfl ?_
  try simp [h1, h2, h3, hp, h5, h6]
  refine runL_go (by first | rfl | (simp [h1, h2, h3, hp, h5, h6, wantedA]; done)) rfl ?_
  try simp [h1, h2, h3, hp, h5, h6]
  refine runL_go (by first | rfl | (simp [h1, h2, h3, hp, h5, h6, wantedA]; done)) rfl ?_
  try simp [h1, h2, h3, hp, h5, h6]
  refine runL_go (by first | rfl | (simp [h1, h2, h3, hp, h5, h6, wantedA]; done)) rfl ?_
  try simp [h1, h2, h3, hp, h5, h6]
  refine runL_go (by first | rfl | (simp [h1, h2, h3, hp, h5, h6, wantedA]; done)) rfl ?_
  try simp [h1, h2, h3, hp, h5, h6]
  refine runL_go (by first | rfl | (simp [h1, h2, h3, hp, h5, h6, wantedA]; done)) rfl ?_
  (try simp [h1, h2, h3, hp, h5, h6]); refine hJ5 _ _ ?_; refine hK4 _ _ ?_
  refine run_cond_false (by first | rfl | (simp [h1, h2, h3, hp, h5, h6, evalA]; done)) ?_
  refine run_skip ?_; refine hK3 _ _ ?_; refine run_seq_k fun K6 hK6 => ?_; refine run_region_k rfl fun J7 hJ7 => ?_; (try simp [h1, h2, h3, hp, h5, h6]); refine hJ7 _ _ ?_; refine hK6 _ _ ?_; refine run_seq_k fun K8 hK8 => ?_; refine run_seq_k fun K9 hK9 => ?_; refine run_region_k rfl fun J10 hJ10 => ?_; try simp [h1, h2, h3, hp, h5, h6]
  refine runL_call' (b := true) (by first | rfl | (simp [h1, h2, h3, hp, h5, h6, wantedA]; done)) rfl rfl (by first | rfl | (simp [h1, h2, h3, hp, h5, h6, callOf]; done)) (by simp) (backward_ok) ?_
  rintro _ _ ⟨rfl, rfl⟩; (try simp [h1, h2, h3, hp, h5, h6]); refine hJ10 _ _ ?_; refine hK9 _ _ ?_; refine run_block_k ?_
  refine run_backward backs62 ?rm1 (by first | rfl | (simp; done)) rfl rfl rfl rfl rfl rfl rfl rfl (by first | rfl | (simp [h1, h2, h3, hp, h5, h6]; done)) (fun pre σ1 => σ1 = { σ with objs := σ.objs ++ [[.sl 1 (bytesA p) p.length .shut], numA 0, numA (orAll p pre)] }) (fun _ _ _ => False) ?rs1 ?rr1 ?rd1 ?rx1
  case rm1 =>
    show _ < _
    omega
  case rs1 =>
    simp [orAll_nil, numA_zero]
  case rr1 =>
    rintro z pre i x σ1 hi hx rfl
    rw [bytesA_get hi] at hx
    cases hx
    obtain ⟨k, hk⟩ : ∃ k, k = p.length - 1 - i := ⟨_, rfl⟩
    have hk2 : k < 32 := by omega
    have hw : IntKind.i64.wrap (IntKind.i64.wrap ((p.length : Int) - 1) - i) = (k : Int) := by rw [wrap_i64 ((p.length : Int) - 1) (by omega) (by omega), wrap_i64 _ (by omega) (by omega)]; omega
    obtain ⟨q, hq⟩ : ∃ q, q = k / 8 := ⟨_, rfl⟩
    obtain ⟨r, hr⟩ : ∃ r, r = k % 8 := ⟨_, rfl⟩
    have hqr : 8 * q + r = k := by omega
    have hq4 : q < 4 := by omega
    have hr8 : r < 8 := by omega
    have hb := p[i].toNat_lt
    have hqq : IntKind.i64.wrap ((k : Int).tdiv 8) = (q : Int) := by rw [Int.tdiv_eq_ediv_of_nonneg (by omega), wrap_i64 _ (by omega) (by omega)]; omega
    have hrr : (k : Int).tmod 8 = (r : Int) := by rw [Int.tmod_eq_emod_of_nonneg (by omega)]; omega
    have hm8 : IntKind.i64.wrap (8 * (r : Int)) = 8 * (r : Int) := wrap_i64 _ (by omega) (by omega)
    have hq2 : IntKind.i64.wrap ((k : Int) / 8) = (q : Int) := by rw [wrap_i64 _ (by omega) (by omega)]; omega
    have hr2 : (k : Int) % 8 = (r : Int) := by omega
    have hnn : ¬ 8 * (r : Int) < 0 := by omega
    obtain ⟨s, hs⟩ : ∃ s, s = p[i].toNat <<< (8 * r) := ⟨_, rfl⟩
    have hs64 : s < 18446744073709551616 := by rw [hs]; exact shl_byte hb hr8
    have hsh : IntKind.u64.wrap ((p[i].toNat : Int) * 2 ^ (min (8 * (r : Int)).toNat 64)) = (s : Int) := by rw [show min (8 * (r : Int)).toNat 64 = 8 * r by omega]; rw [show ((p[i].toNat : Int) * 2 ^ (8 * r)) = ((p[i].toNat * 2 ^ (8 * r) : Nat) : Int) by simp, wrap_u64, ← Nat.shiftLeft_eq, ← hs, Nat.mod_eq_of_lt hs64]
    obtain ⟨t, ht⟩ : ∃ t, t = limb (orAll p pre) q ||| s := ⟨_, rfl⟩
    have hor := or_u64 (limb_lt (orAll p pre) q) hs64
    rw [← ht] at hor
    have hput := numA_put (x := orAll p pre) hb hq4 hr8 hqr
    rw [← hs, ← ht] at hput
    have hsn := orAll_snoc p pre i
    rw [← hk, show (p.getD i 0) = p[i] by simp [List.getD, hi]] at hsn
    have hget := numA_get (orAll p pre) hq4
    have hq5 : (q : Int) < 4 := by omega
    have hq6 : q + 1 ≤ 4 := hq4
    refine run_block_k ?_; refine run_seq_k fun K11 hK11 => ?_; refine run_region_k rfl fun J12 hJ12 => ?_; (try simp [h1, h2, h3, hp, h5, h6, hw, hqq, hrr, hq2, hr2, hm8, hnn, hsh, hor, hget, hq4, hq5, hq6]); refine hJ12 _ _ ?_; refine hK11 _ _ ?_
    refine run_draw (by kernel_rfl) fun J13 hJ13 => ?_
    refine rq 0 ?_; (try simp [h1, h2, h3, hp, h5, h6, hw, hqq, hrr, hq2, hr2, hm8, hnn, hsh, hor, hget, hq4, hq5, hq6]); refine rq 1 ?_; (try simp [h1, h2, h3, hp, h5, h6, hw, hqq, hrr, hq2, hr2, hm8, hnn, hsh, hor, hget, hq4, hq5, hq6]); refine rq 2 ?_; (try simp [h1, h2, h3, hp, h5, h6, hw, hqq, hrr, hq2, hr2, hm8, hnn, hsh, hor, hget, hq4, hq5, hq6]); refine rq 3 ?_; (try simp [h1, h2, h3, hp, h5, h6, hw, hqq, hrr, hq2, hr2, hm8, hnn, hsh, hor, hget, hq4, hq5, hq6]); refine rq 4 ?_; (try simp [h1, h2, h3, hp, h5, h6, hw, hqq, hrr, hq2, hr2, hm8, hnn, hsh, hor, hget, hq4, hq5, hq6]); refine rq 5 ?_; (try simp [h1, h2, h3, hp, h5, h6, hw, hqq, hrr, hq2, hr2, hm8, hnn, hsh, hor, hget, hq4, hq5, hq6]); refine rq 6 ?_; (try simp [h1, h2, h3, hp, h5, h6, hw, hqq, hrr, hq2, hr2, hm8, hnn, hsh, hor, hget, hq4, hq5, hq6]); refine rq 7 ?_; (try simp [h1, h2, h3, hp, h5, h6, hw, hqq, hrr, hq2, hr2, hm8, hnn, hsh, hor, hget, hq4, hq5, hq6]); refine rq 8 ?_; (try simp [h1, h2, h3, hp, h5, h6, hw, hqq, hrr, hq2, hr2, hm8, hnn, hsh, hor, hget, hq4, hq5, hq6]); refine rq 9 ?_; (try simp [h1, h2, h3, hp, h5, h6, hw, hqq, hrr, hq2, hr2, hm8, hnn, hsh, hor, hget, hq4, hq5, hq6]); refine rq 10 ?_; (try simp [h1, h2, h3, hp, h5, h6, hw, hqq, hrr, hq2, hr2, hm8, hnn, hsh, hor, hget, hq4, hq5, hq6]); refine rq 11 ?_; try simp [h1, h2, h3, hp, h5, h6, hw, hqq, hrr, hq2, hr2, hm8, hnn, hsh, hor, hget, hq4, hq5, hq6]
    refine runD_op' 12 (by kernel_rfl) (by kernel_rfl) (by kernel_rfl) rfl (by kernel_rfl) (by kernel_rfl) (by kernel_rfl) ?_
    try simp [h1, h2, h3, hp, h5, h6, hw, hqq, hrr, hq2, hr2, hm8, hnn, hsh, hor, hget, hq4, hq5, hq6]
    refine ⟨later_nil (by kernel_rfl), ?_⟩
    refine runD_done (by kernel_rfl) (by kernel_rfl) (by kernel_rfl) ?_
    refine hJ13 _ _ ?_
    show St.mk _ _ _ _ = _
    rw [hsn, ← hput]
    simp
    exact hor
  case rd1 =>
    rintro σ1 rfl
    rw [h4]
    refine hK8 _ _ ?_; refine run_seq_k fun K14 hK14 => ?_; refine run_region_k rfl fun J15 hJ15 => ?_; (try simp [h1, h2, h3, hp, h5, h6]); refine hJ15 _ _ ?_; refine hK14 _ _ ?_; refine run_ret ?_; (try simp only [Then, InBlock, NoGoto]); refine answer_cell_tmp rfl (.inr rfl) ?_; simp [numA]
  case rx1 =>
    exact fun _ _ _ _ h => h.elim

theorem read_num {σ : St} {p : List UInt8} :
    CallsA Try.prog 147 [.sl 1 (bytesA p) p.length .shut] σ (fun av σ' => av = .tup [.agg (numA (numOf p)), .v (.int .i64 (if numOk p then 0 else 4))] ∧ σ = σ') := by
  by_cases h : p.length ≤ 32
  · cases p with
    | nil => exact callsA_gc_new read_nil rfl
    | cons b l =>
      by_cases hb : b = 0
      · have e : numOk (b :: l) = false := by simp [numOk, hb]
        simp only [numOf, e]
        exact callsA_gc_new (read_zero h (by simp) hb) rfl
      · have e : numOk (b :: l) = true := by simp [numOk, hb]; simpa using h
        simp only [numOf, e]
        exact callsA_gc_new (read_ok h (by simp) hb) rfl
  · have e : numOk p = false := by simp [numOk]; intro h2; omega
    simp only [numOf, e]
    exact callsA_gc_new (read_long (by omega)) rfl

theorem takeB_len (n : Nat) (s : Option (List UInt8)) : (takeB n s).length ≤ n := by
  cases s with
  | none => simp [takeB]
  | some p => simp only [takeB]; split <;> simp <;> omega

theorem be_lt1 {l : List UInt8} (h : l.length ≤ 1) : be l < 256 := by
  have h1 := be_lt l
  have h2 : 256 ^ l.length ≤ 256 ^ 1 := Nat.pow_le_pow_right (by omega) h
  omega
theorem be_lt2 {l : List UInt8} (h : l.length ≤ 2) : be l < 65536 := by
  have h1 := be_lt l
  have h2 : 256 ^ l.length ≤ 256 ^ 2 := Nat.pow_le_pow_right (by omega) h
  omega

theorem byte_ok {σ : St} {id : Nat} {s : Option (List UInt8)} (h : σ.objs[id]? = some (rd s)) :
    CallsA Try.prog 81 [.ptr id 0] σ (fun av σ' => av = .v (.int .u8 (be (takeB 1 s) : Nat)) ∧ σ' = { σ with objs := σ.objs.set id (rd (takeS 1 s)) }) := by
  have hw : IntKind.u8.wrap ((be (takeB 1 s) : Nat) : Int) = (be (takeB 1 s) : Nat) := by rw [wrap_u8, Nat.mod_eq_of_lt (be_lt1 (takeB_len 1 s))]
  refine callsA_body Try.func81 rfl rfl rfl ?_; refine run_seq_k fun K1 hK1 => ?_; refine run_region_k rfl fun J2 hJ2 => ?_; (try simp [hw]); refine hJ2 _ _ ?_; refine hK1 _ _ ?_; refine run_seq_k fun K3 hK3 => ?_; refine run_region_k rfl fun J4 hJ4 => ?_; try simp [hw]
  refine runL_call' (b := true) (by first | rfl | (simp [hw, wantedA]; done)) rfl rfl (by first | rfl | (simp [hw, callOf]; done)) (by simp) (number_ok (n := 1) h (by omega)) ?_
  rintro _ _ ⟨rfl, rfl⟩; (try simp [hw]); refine hJ4 _ _ ?_; refine hK3 _ _ ?_; refine ra ?_; simp [hw]

theorem short_ok {σ : St} {id : Nat} {s : Option (List UInt8)} (h : σ.objs[id]? = some (rd s)) :
    CallsA Try.prog 134 [.ptr id 0] σ (fun av σ' => av = .v (.int .u16 (be (takeB 2 s) : Nat)) ∧ σ' = { σ with objs := σ.objs.set id (rd (takeS 2 s)) }) := by
  have hw : IntKind.u16.wrap ((be (takeB 2 s) : Nat) : Int) = (be (takeB 2 s) : Nat) := by rw [wrap_u16, Nat.mod_eq_of_lt (be_lt2 (takeB_len 2 s))]
  refine callsA_body Try.func134 rfl rfl rfl ?_; refine run_seq_k fun K1 hK1 => ?_; refine run_region_k rfl fun J2 hJ2 => ?_; (try simp [hw]); refine hJ2 _ _ ?_; refine hK1 _ _ ?_; refine run_seq_k fun K3 hK3 => ?_; refine run_region_k rfl fun J4 hJ4 => ?_; try simp [hw]
  refine runL_call' (b := true) (by first | rfl | (simp [hw, wantedA]; done)) rfl rfl (by first | rfl | (simp [hw, callOf]; done)) (by simp) (number_ok (n := 2) h (by omega)) ?_
  rintro _ _ ⟨rfl, rfl⟩; (try simp [hw]); refine hJ4 _ _ ?_; refine hK3 _ _ ?_; refine ra ?_; simp [hw]

theorem long_ok {σ : St} {id : Nat} {s : Option (List UInt8)} (h : σ.objs[id]? = some (rd s)) :
    CallsA Try.prog 46 [.ptr id 0] σ (fun av σ' => av = .v (.int .u64 (be (takeB 8 s) : Nat)) ∧ σ' = { σ with objs := σ.objs.set id (rd (takeS 8 s)) }) := by
  refine callsA_body Try.func46 rfl rfl rfl ?_; refine run_seq_k fun K1 hK1 => ?_; refine run_region_k rfl fun J2 hJ2 => ?_; (try simp); refine hJ2 _ _ ?_; refine hK1 _ _ ?_; refine run_seq_k fun K3 hK3 => ?_; refine run_region_k rfl fun J4 hJ4 => ?_; try simp
  refine runL_call' (b := true) (by first | rfl | (simp [wantedA]; done)) rfl rfl (by first | rfl | (simp [callOf]; done)) (by simp) (number_ok (n := 8) h (by omega)) ?_
  rintro _ _ ⟨rfl, rfl⟩; (try simp); refine hJ4 _ _ ?_; refine hK3 _ _ ?_; refine ra ?_; simp

def flagS (s : Option (List UInt8)) : Option (List UInt8) := if 1 < be (takeB 1 s) then none else takeS 1 s

theorem flag_ok {σ : St} {id : Nat} {s : Option (List UInt8)} (h : σ.objs[id]? = some (rd s)) :
    CallsA Try.prog 135 [.ptr id 0] σ (fun av σ' => av = .v (.bool (be (takeB 1 s) == 1)) ∧ σ' = { σ with objs := σ.objs.set id (rd (flagS s)) }) := by
  have hs := set_self_of h
  by_cases hb : 1 < be (takeB 1 s)
  · have hi : (1 : Int) < (be (takeB 1 s) : Nat) := by omega
    have hn : ¬ be (takeB 1 s) = 1 := by omega
    have hf : flagS s = none := if_pos hb
    refine callsA_body Try.func135 rfl rfl rfl ?_; refine run_seq_k fun K1 hK1 => ?_; refine run_region_k rfl fun J2 hJ2 => ?_; (try simp [hi, hn, hf]); refine hJ2 _ _ ?_; refine hK1 _ _ ?_; refine run_seq_k fun K3 hK3 => ?_; refine run_region_k rfl fun J4 hJ4 => ?_; try simp [hi, hn, hf]
    refine runL_call' (b := true) (by first | rfl | (simp [hi, hn, hf, wantedA]; done)) rfl rfl (by first | rfl | (simp [hi, hn, hf, callOf]; done)) (by simp) (byte_ok h) ?_
    rintro _ _ ⟨rfl, rfl⟩; (try simp [hi, hn, hf]); refine hJ4 _ _ ?_; refine hK3 _ _ ?_; refine run_seq_k fun K5 hK5 => ?_; refine run_seq_k fun K6 hK6 => ?_; refine run_region_k rfl fun J7 hJ7 => ?_; (try simp [hi, hn, hf]); refine hJ7 _ _ ?_; refine hK6 _ _ ?_
    refine run_cond_true (by first | rfl | (simp [hi, hn, hf, evalA]; done)) ?_
    refine run_seq_k fun K8 hK8 => ?_; refine run_region_k rfl fun J9 hJ9 => ?_; try simp [hi, hn, hf]
    refine runL_call' (b := true) (by first | rfl | (simp [hi, hn, hf, wantedA]; done)) rfl rfl (by first | rfl | (simp [hi, hn, hf, callOf]; done)) (by simp) (fail_ok (hs _)) ?_
    rintro _ _ ⟨rfl, rfl⟩; (try simp [hi, hn, hf]); refine hJ9 _ _ ?_; refine hK8 _ _ ?_; refine run_seq_k fun K10 hK10 => ?_; refine run_region_k rfl fun J11 hJ11 => ?_; (try simp [hi, hn, hf]); refine hJ11 _ _ ?_; refine hK10 _ _ ?_; refine ra ?_; simp [hi, hn, hf]
  · have hi : ¬ (1 : Int) < (be (takeB 1 s) : Nat) := by omega
    have hf : flagS s = takeS 1 s := if_neg hb
    have he : ((be (takeB 1 s) : Nat) : Int) == 1 ↔ be (takeB 1 s) == 1 := by simp; omega
    refine callsA_body Try.func135 rfl rfl rfl ?_; refine run_seq_k fun K1 hK1 => ?_; refine run_region_k rfl fun J2 hJ2 => ?_; (try simp [hi, hf]); refine hJ2 _ _ ?_; refine hK1 _ _ ?_; refine run_seq_k fun K3 hK3 => ?_; refine run_region_k rfl fun J4 hJ4 => ?_; try simp [hi, hf]
    refine runL_call' (b := true) (by first | rfl | (simp [hi, hf, wantedA]; done)) rfl rfl (by first | rfl | (simp [hi, hf, callOf]; done)) (by simp) (byte_ok h) ?_
    rintro _ _ ⟨rfl, rfl⟩; (try simp [hi, hf]); refine hJ4 _ _ ?_; refine hK3 _ _ ?_; refine run_seq_k fun K5 hK5 => ?_; refine run_seq_k fun K6 hK6 => ?_; refine run_region_k rfl fun J7 hJ7 => ?_; (try simp [hi, hf]); refine hJ7 _ _ ?_; refine hK6 _ _ ?_
    refine run_cond_false (by first | rfl | (simp [hi, hf, evalA]; done)) ?_
    refine run_skip ?_; refine hK5 _ _ ?_; refine run_seq_k fun K8 hK8 => ?_; refine run_region_k rfl fun J9 hJ9 => ?_; (try simp [hi, hf]); refine hJ9 _ _ ?_; refine hK8 _ _ ?_; refine ra ?_; simp [hi, hf]
    rw [Bool.eq_iff_iff]; exact he

def endB (s : Option (List UInt8)) : Bool := s == some []

theorem end_some {σ : St} {id : Nat} {p : List UInt8} (h : σ.objs[id]? = some (rd (some p))) :
    CallsA Try.prog 48 [.ptr id 0] σ (fun av σ' => av = .v (.bool (p.length == 0)) ∧ σ = σ') := by
  refine callsA_body Try.func48 rfl rfl rfl ?_; refine run_seq_k fun K1 hK1 => ?_; refine run_region_k rfl fun J2 hJ2 => ?_; (try simp [h, rd]); refine hJ2 _ _ ?_; refine hK1 _ _ ?_; refine run_seq_k fun K3 hK3 => ?_; refine run_region_k rfl fun J4 hJ4 => ?_; try simp [h, rd]
  refine runL_call' (b := true) (by first | rfl | (simp [h, rd, wantedA]; done)) rfl rfl (by first | rfl | (simp [h, rd, callOf]; done)) (by simp) (bad_some h) ?_
  rintro _ _ ⟨rfl, rfl⟩; try simp [h, rd]
  refine runL_go (by first | rfl | (simp [h, rd, wantedA]; done)) rfl ?_
  try simp [h, rd]
  refine runL_go (by first | rfl | (simp [h, rd, wantedA]; done)) rfl ?_
  try simp [h, rd]
  refine runL_go (by first | rfl | (simp [h, rd, wantedA]; done)) rfl ?_
  try simp [h, rd]
  refine runL_go (by first | rfl | (simp [h, rd, wantedA]; done)) rfl ?_
  try simp [h, rd]
  refine runL_go (by first | rfl | (simp [h, rd, wantedA]; done)) rfl ?_
  try simp [h, rd]
  refine runL_go (by first | rfl | (simp [h, rd, wantedA]; done)) rfl ?_
  (try simp [h, rd]); refine hJ4 _ _ ?_; refine hK3 _ _ ?_; refine ra ?_; simp [h, rd]
  rw [Bool.eq_iff_iff]; simp

theorem end_none {σ : St} {id : Nat} (h : σ.objs[id]? = some (rd none)) :
    CallsA Try.prog 48 [.ptr id 0] σ (fun av σ' => av = .v (.bool false) ∧ σ = σ') := by
  refine callsA_body Try.func48 rfl rfl rfl ?_; refine run_seq_k fun K1 hK1 => ?_; refine run_region_k rfl fun J2 hJ2 => ?_; (try simp [h, rd]); refine hJ2 _ _ ?_; refine hK1 _ _ ?_; refine run_seq_k fun K3 hK3 => ?_; refine run_region_k rfl fun J4 hJ4 => ?_; try simp [h, rd]
  refine runL_call' (b := true) (by first | rfl | (simp [h, rd, wantedA]; done)) rfl rfl (by first | rfl | (simp [h, rd, callOf]; done)) (by simp) (bad_none h) ?_
  rintro _ _ ⟨rfl, rfl⟩; try simp [h, rd]
  refine runL_no (by first | rfl | (simp [h, rd, wantedA]; done)) rfl ?_
  try simp [h, rd]
  refine runL_no (by first | rfl | (simp [h, rd, wantedA]; done)) rfl ?_
  try simp [h, rd]
  refine runL_no (by first | rfl | (simp [h, rd, wantedA]; done)) rfl ?_
  try simp [h, rd]
  refine runL_no (by first | rfl | (simp [h, rd, wantedA]; done)) rfl ?_
  try simp [h, rd]
  refine runL_no (by first | rfl | (simp [h, rd, wantedA]; done)) rfl ?_
  try simp [h, rd]
  refine runL_no (by first | rfl | (simp [h, rd, wantedA]; done)) rfl ?_
  (try simp [h, rd]); refine hJ4 _ _ ?_; refine hK3 _ _ ?_; refine ra ?_; simp [h, rd]
  rfl

theorem end_ok {σ : St} {id : Nat} {s : Option (List UInt8)} (h : σ.objs[id]? = some (rd s)) :
    CallsA Try.prog 48 [.ptr id 0] σ (fun av σ' => av = .v (.bool (endB s)) ∧ σ = σ') := by
  cases s with
  | none => exact end_none h
  | some p =>
    have e : endB (some p) = (p.length == 0) := by cases p <;> rfl
    rw [e]; exact end_some h

def numB (s : Option (List UInt8)) : List UInt8 := takeB (be (takeB 1 s)) (takeS 1 s)
def numS (s : Option (List UInt8)) : Option (List UInt8) := if numOk (numB s) then takeS (be (takeB 1 s)) (takeS 1 s) else none

theorem num_raw {σ : St} {id : Nat} {s : Option (List UInt8)} (h : σ.objs[id]? = some (rd s)) :
    CallsA Try.prog 128 [.ptr id 0] σ (fun av σ' => av = .agg (numA (numOf (numB s))) ∧ σ' = { σ with objs := σ.objs.set id (rd (numS s)) ++ [numA (numOf (numB s)), numA (numOf (numB s))] }) := by
  have hlt := lt_of_get h
  have hw : IntKind.i64.wrap ((be (takeB 1 s) : Nat) : Int) = (be (takeB 1 s) : Nat) := wrap_i64 _ (by omega) (by have := be_lt1 (takeB_len 1 s); omega)
  have h1 : ∀ r : List AV, (σ.objs ++ [r])[id]? = some (rd s) := fun r => by rw [List.getElem?_append_left hlt]; exact h
  have h2 : ∀ (x r : List AV), (σ.objs.set id x ++ [r])[id]? = some x := fun x r => by rw [List.getElem?_append_left (by simpa using hlt)]; exact set_self_of h x
  have h3 : ∀ (x r r2 : List AV), (σ.objs.set id x ++ [r, r2])[id]? = some x := fun x r r2 => by rw [List.getElem?_append_left (by simpa using hlt)]; exact set_self_of h x
  have ha : ∀ (x r : List AV), (σ.objs ++ [r]).set id x = σ.objs.set id x ++ [r] := fun x r => List.set_append_left _ _ hlt
  have hb : ∀ (x y r : List AV), (σ.objs.set id y ++ [r]).set id x = σ.objs.set id x ++ [r] := fun x y r => by rw [List.set_append_left _ _ (by simpa using hlt), List.set_set]
  have hc : ∀ (x y r r2 : List AV), (σ.objs.set id y ++ [r, r2]).set id x = σ.objs.set id x ++ [r, r2] := fun x y r r2 => by rw [List.set_append_left _ _ (by simpa using hlt), List.set_set]
  cases hn : numOk (numB s) with
  | true =>
    have hS : numS s = takeS (be (takeB 1 s)) (takeS 1 s) := by simp [numS, hn]
    have hn' : numOk (takeB (be (takeB 1 s)) (takeS 1 s)) = true := hn
    rw [hS]
    show CallsA _ _ _ _ (fun av σ' => av = .agg (numA (numOf (takeB (be (takeB 1 s)) (takeS 1 s)))) ∧ _)
    refine callsA_body Try.func128 rfl rfl rfl ?_; refine run_seq_k fun K1 hK1 => ?_; refine run_region_k rfl fun J2 hJ2 => ?_; (try simp [hw, ha, hb, hc, hn']); refine hJ2 _ _ ?_; refine hK1 _ _ ?_; refine run_seq_k fun K3 hK3 => ?_; refine run_region_k rfl fun J4 hJ4 => ?_; try simp [hw, ha, hb, hc, hn']
    refine runL_call' (b := true) (by first | rfl | (simp [hw, ha, hb, hc, hn', wantedA]; done)) rfl rfl (by first | rfl | (simp [hw, ha, hb, hc, hn', callOf]; done)) (by simp) (byte_ok (h1 _)) ?_
    rintro _ _ ⟨rfl, rfl⟩; try simp [hw, ha, hb, hc, hn']
    refine runL_call' (b := true) (by first | rfl | (simp [hw, ha, hb, hc, hn', wantedA]; done)) rfl rfl (by first | rfl | (simp [hw, ha, hb, hc, hn', callOf]; done)) (by simp) (take_ok (h2 _ _)) ?_
    rintro _ _ ⟨rfl, rfl⟩; try simp [hw, ha, hb, hc, hn']
    refine runL_call' (b := true) (by first | rfl | (simp [hw, ha, hb, hc, hn', wantedA]; done)) rfl rfl (by first | rfl | (simp [hw, ha, hb, hc, hn', callOf]; done)) (by simp) (read_num) ?_
    rintro _ _ ⟨rfl, rfl⟩; (try simp [hw, ha, hb, hc, hn']); refine hJ4 _ _ ?_; refine hK3 _ _ ?_; refine run_seq_k fun K5 hK5 => ?_; refine run_seq_k fun K6 hK6 => ?_; refine run_region_k rfl fun J7 hJ7 => ?_; (try simp [hw, ha, hb, hc, hn']); refine hJ7 _ _ ?_; refine hK6 _ _ ?_
    refine run_cond_false (by first | rfl | (simp [hw, ha, hb, hc, hn', evalA]; done)) ?_
    refine run_skip ?_; refine hK5 _ _ ?_; refine run_seq_k fun K8 hK8 => ?_; refine run_region_k rfl fun J9 hJ9 => ?_; (try simp [hw, ha, hb, hc, hn']); refine hJ9 _ _ ?_; refine hK8 _ _ ?_; refine run_ret ?_; (try simp only [Then, InBlock, NoGoto]); refine answer_cell rfl (.inr rfl) ?_; simp [hw, ha, hb, hc, hn']
    rfl
  | false =>
    have hS : numS s = none := by simp [numS, hn]
    have hn' : numOk (takeB (be (takeB 1 s)) (takeS 1 s)) = false := hn
    rw [hS]
    show CallsA _ _ _ _ (fun av σ' => av = .agg (numA (numOf (takeB (be (takeB 1 s)) (takeS 1 s)))) ∧ _)
    refine callsA_body Try.func128 rfl rfl rfl ?_; refine run_seq_k fun K1 hK1 => ?_; refine run_region_k rfl fun J2 hJ2 => ?_; (try simp [hw, ha, hb, hc, hn']); refine hJ2 _ _ ?_; refine hK1 _ _ ?_; refine run_seq_k fun K3 hK3 => ?_; refine run_region_k rfl fun J4 hJ4 => ?_; try simp [hw, ha, hb, hc, hn']
    refine runL_call' (b := true) (by first | rfl | (simp [hw, ha, hb, hc, hn', wantedA]; done)) rfl rfl (by first | rfl | (simp [hw, ha, hb, hc, hn', callOf]; done)) (by simp) (byte_ok (h1 _)) ?_
    rintro _ _ ⟨rfl, rfl⟩; try simp [hw, ha, hb, hc, hn']
    refine runL_call' (b := true) (by first | rfl | (simp [hw, ha, hb, hc, hn', wantedA]; done)) rfl rfl (by first | rfl | (simp [hw, ha, hb, hc, hn', callOf]; done)) (by simp) (take_ok (h2 _ _)) ?_
    rintro _ _ ⟨rfl, rfl⟩; try simp [hw, ha, hb, hc, hn']
    refine runL_call' (b := true) (by first | rfl | (simp [hw, ha, hb, hc, hn', wantedA]; done)) rfl rfl (by first | rfl | (simp [hw, ha, hb, hc, hn', callOf]; done)) (by simp) (read_num) ?_
    rintro _ _ ⟨rfl, rfl⟩; (try simp [hw, ha, hb, hc, hn']); refine hJ4 _ _ ?_; refine hK3 _ _ ?_; refine run_seq_k fun K5 hK5 => ?_; refine run_seq_k fun K6 hK6 => ?_; refine run_region_k rfl fun J7 hJ7 => ?_; (try simp [hw, ha, hb, hc, hn']); refine hJ7 _ _ ?_; refine hK6 _ _ ?_
    refine run_cond_true (by first | rfl | (simp [hw, ha, hb, hc, hn', evalA]; done)) ?_
    refine run_region_k rfl fun J8 hJ8 => ?_; try simp [hw, ha, hb, hc, hn']
    refine runL_call' (b := true) (by first | rfl | (simp [hw, ha, hb, hc, hn', wantedA]; done)) rfl rfl (by first | rfl | (simp [hw, ha, hb, hc, hn', callOf]; done)) (by simp) (fail_ok (h3 _ _ _)) ?_
    rintro _ _ ⟨rfl, rfl⟩; (try simp [hw, ha, hb, hc, hn']); refine hJ8 _ _ ?_; refine hK5 _ _ ?_; refine run_seq_k fun K9 hK9 => ?_; refine run_region_k rfl fun J10 hJ10 => ?_; (try simp [hw, ha, hb, hc, hn']); refine hJ10 _ _ ?_; refine hK9 _ _ ?_; refine run_ret ?_; (try simp only [Then, InBlock, NoGoto]); refine answer_cell rfl (.inr rfl) ?_; simp [hw, ha, hb, hc, hn']
    rfl

theorem rd_under (B : Bd) (s : Option (List UInt8)) : underL B (rd s) = true := by
  cases s with
  | none => rfl
  | some p => simp [rd, underL, AV.under, under_bytes]

theorem num_ok {σ : St} {id : Nat} {s : Option (List UInt8)} (h : σ.objs[id]? = some (rd s)) :
    CallsA Try.prog 128 [.ptr id 0] σ (fun av σ' => av = .agg (numA (numOf (numB s))) ∧ σ' = { σ with objs := σ.objs.set id (rd (numS s)) }) :=
  callsA_gc_set (num_raw h) rfl (rd_under _ _)
end Go.Proofs.Ytdbaddholggkbaa

/-
  The codec's writer, and the constructor of a reader.
-/
namespace Go.Proofs.Ytdbaddholggkbaa
set_option linter.unnecessarySimpa false
set_option maxRecDepth 100000
open Go Go.Vm
set_option linter.unusedSimpArgs false
set_option linter.unusedVariables false
attribute [local simp] evalL wantedA isCall opA evalA evalAll evalsA evalOpt ofValue ofCell plain binA_eql_pn binA_neq_pn binA_gtr binA_lss binA_geq binA_leq binA_add binA_sub binA_eql binA_neq binA_or binA_shl binA_shr binA_mul binA_quo binA_rem convA_int unA_not fieldAddrA loadA partA pickA lenA builtinA storeA splice AV.cells AV.isCell sliceA boundA intA callOf indexAddrA newObjA buildA fillA zeroA ofCells buildSliceA appendA roomA maxLen

theorem clone_raw {σ : St} {p : List UInt8} {tl : Tail} (hp : p.length ≤ 1000000) :
    CallsA Try.prog 80 [.sl 1 (bytesA p) p.length tl] σ (fun av σ' => (p = [] ∧ av = .sl 0 [] 0 .full ∧ σ' = σ) ∨ (av = .sl 1 (bytesA p) p.length (.own σ.toks.length) ∧ σ' = { σ with toks := σ.toks ++ [p.length] })) := by
  have h1 : p.length ≤ 140737488355328 := by omega
  have h2 : p.length ≤ 9223372036854775807 := by omega
  refine callsA_body Try.func80 rfl rfl rfl ?_; refine run_seq_k fun K1 hK1 => ?_; refine run_region_k rfl fun J2 hJ2 => ?_; (try simp [h1, h2]); refine hJ2 _ _ ?_; refine hK1 _ _ ?_; refine run_seq_k fun K3 hK3 => ?_; refine run_seq_k fun K4 hK4 => ?_; refine run_region_k rfl fun J5 hJ5 => ?_; try simp [h1, h2]
  refine runL_slnil (by first | rfl | (simp [h1, h2, wantedA]; done)) rfl rfl rfl (by first | rfl | (simp [h1, h2]; done)) (fun b4 hb4 => ?_)
  (try simp [h1, h2]); refine hJ5 _ _ ?_; refine hK4 _ _ ?_; refine run_cond_split rfl (fun c4 => ?_) (fun c4 => ?_)
  · try (exfalso; revert c4; simp [h1, h2]; done)
    all_goals
      (try simp [h1, h2] at c4)
      all_goals
        refine run_seq_k fun K7 hK7 => ?_; refine run_region_k rfl fun J8 hJ8 => ?_; (try simp [h1, h2, c4]); refine hJ8 _ _ ?_; refine hK7 _ _ ?_; refine ra ?_; exact .inl ⟨by cases p with | nil => rfl | cons x l => (simp_all), by simp, rfl⟩
  · try (exfalso; revert c4; simp [h1, h2]; done)
    all_goals
      (try simp [h1, h2] at c4)
      all_goals
        refine run_skip ?_; refine hK3 _ _ ?_; refine run_seq_k fun K9 hK9 => ?_; refine run_region_k rfl fun J10 hJ10 => ?_; (try simp [h1, h2, c4]); refine hJ10 _ _ ?_; refine hK9 _ _ ?_; refine ra ?_; exact .inr ⟨by simp, rfl⟩

theorem clone_ok {σ : St} {p : List UInt8} {tl : Tail} (hp : p.length ≤ 1000000) :
    CallsA Try.prog 80 [.sl 1 (bytesA p) p.length tl] σ (fun av σ' => av = .sl 1 (bytesA p) p.length .shut ∧ σ = σ') :=
  callsA_mono (callsA_gc_to (τ := σ) (A := .sl 1 (bytesA p) p.length .shut) (clone_raw hp) (fun av σ' h => by
    rcases h with ⟨rfl, rfl, rfl⟩ | ⟨rfl, rfl⟩
    · exact ⟨[], [], [], Wk.nil 0 1 .full, by simp⟩
    · exact ⟨[], [p.length], [], Wk.shut _ _ _ _, by simp⟩) (by simp [AV.under, under_bytes]) rfl rfl rfl rfl (fun _ _ h => .inl h) (fun _ r h => .inl ⟨r, h, rfl⟩)) (fun av σ' h => ⟨h.1, h.2.symm⟩)

theorem new_ok {σ : St} {p : List UInt8} {tl : Tail} (hp : p.length ≤ 1000000) :
    CallsA Try.prog 33 [.sl 1 (bytesA p) p.length tl] σ (fun av σ' => av = .ptr σ.objs.length 0 ∧ σ' = { σ with objs := σ.objs ++ [rd (some p)] }) := by
  refine callsA_body Try.func33 rfl rfl rfl ?_; refine run_seq_k fun K1 hK1 => ?_; refine run_region_k rfl fun J2 hJ2 => ?_; (try simp); refine hJ2 _ _ ?_; refine hK1 _ _ ?_; refine run_seq_k fun K3 hK3 => ?_; refine run_region_k rfl fun J4 hJ4 => ?_; try simp
  refine runL_call' (b := true) (by first | rfl | (simp [wantedA]; done)) rfl rfl (by first | rfl | (simp [callOf]; done)) (by simp) (clone_ok hp) ?_
  rintro _ _ ⟨rfl, rfl⟩; (try simp); refine hJ4 _ _ ?_; refine hK3 _ _ ?_; refine ra ?_; simp [rd]

def natBytes (x : Nat) : List UInt8 := if h : x = 0 then [] else natBytes (x / 256) ++ [UInt8.ofNat (x % 256)]
termination_by x
decreasing_by omega

theorem natBytes_zero : natBytes 0 = [] := by unfold natBytes; simp
theorem natBytes_pos {x : Nat} (h : 0 < x) : natBytes x = natBytes (x / 256) ++ [UInt8.ofNat (x % 256)] := by
  conv => lhs; unfold natBytes
  rw [dif_neg (by omega)]
theorem natBytes_nil {x : Nat} : natBytes x = [] ↔ x = 0 := by
  constructor
  · intro h
    apply Classical.byContradiction
    intro h0
    rw [natBytes_pos (by omega)] at h
    simp at h
  · rintro rfl; exact natBytes_zero

theorem limb_byte {x i : Nat} (hi : i < 32) : limb x (i / 8) / 2 ^ (8 * (i % 8)) % 256 = x / 256 ^ i % 256 := by
  have e : (256 : Nat) ^ i = 2 ^ (8 * i) := by rw [Nat.pow_mul]
  rw [e]
  apply Nat.eq_of_testBit_eq
  intro j
  rw [show (256 : Nat) = 2 ^ 8 by rfl]
  simp only [Nat.testBit_mod_two_pow, Nat.testBit_div_two_pow, limb_bit]
  by_cases hj : j < 8
  · have h1 : 8 * (i % 8) + j < 64 := by omega
    have h2 : 64 * (i / 8) + (j + 8 * (i % 8)) = j + 8 * i := by omega
    simp [hj, h2]
    omega
  · simp [hj]

end Go.Proofs.Ytdbaddholggkbaa

/-
  Numbers' bytes, laid.
-/
namespace Go.Proofs.Ytdbaddholggkbaa
set_option linter.unnecessarySimpa false
set_option maxRecDepth 100000
open Go Go.Vm
set_option linter.unusedSimpArgs false
set_option linter.unusedVariables false
attribute [local simp] evalL wantedA isCall opA evalA evalAll evalsA evalOpt ofValue ofCell plain binA_eql_pn binA_neq_pn binA_gtr binA_lss binA_geq binA_leq binA_add binA_sub binA_eql binA_neq binA_or binA_shl binA_shr binA_mul binA_quo binA_rem convA_int unA_not fieldAddrA loadA partA pickA lenA_sl builtinA storeA splice AV.cells AV.isCell sliceA boundA intA callOf indexAddrA newObjA buildA fillA zeroA ofCells buildSliceA

def mineS (σ : St) (l : List UInt8) : AV := if l = [] then .sl 0 [] 0 .full else .sl 1 (bytesA l) l.length (.own σ.toks.length)
def mineT (σ : St) (l : List UInt8) : St := if l = [] then σ else { σ with toks := σ.toks ++ [l.length] }

theorem mineS_nil (σ : St) : mineS σ [] = .sl 0 [] 0 .full := rfl
theorem mineT_nil (σ : St) : mineT σ [] = σ := rfl
@[local simp] theorem mineT_objs (σ : St) (l : List UInt8) : (mineT σ l).objs = σ.objs := by unfold mineT; split <;> rfl
theorem len_mine (σ : St) (l : List UInt8) : lenA Try.prog 47 (mineS σ l) = some (.v (.int .i64 (l.length : Nat))) := by
  unfold mineS
  split
  · rename_i h; subst h; simp [lenA]
  · simp
theorem app_mine (σ : St) (l q : List UInt8) (tl : Tail) (hl : l.length ≤ 1000000) (hq : q.length ≤ 1000000) (hq0 : q ≠ []) : appendA Try.prog 47 (mineS σ l) (.sl 1 (bytesA q) q.length tl) (mineT σ l) = some (mineS σ (l ++ q), mineT σ (l ++ q)) := by
  have h1 : q.length ≤ 140737488355328 := by omega
  have h2 : q.length ≤ 9223372036854775807 := by omega
  have h3 : l.length + q.length ≤ 140737488355328 := by omega
  have h4 : l.length + q.length ≤ 9223372036854775807 := by omega
  by_cases h : l = []
  · subst h
    simp [mineS, mineT, appendA, roomA, maxLen, h1, h2, hq0] ; rfl
  · simp [mineS, mineT, appendA, roomA, maxLen, h, h3, h4, hq0, bytesA_append] ; rfl

theorem toNat_ofNat {y : Nat} (h : y < 256) : (UInt8.ofNat y).toNat = y := by simp; omega

theorem nb_eq (x i : Nat) : x / 256 ^ i / 256 = x / 256 ^ (i + 1) := by rw [Nat.div_div_eq_div_mul, Nat.pow_succ]
theorem nb1 {x i : Nat} (h : ¬ x / 256 ^ i % 256 = 0 ∨ 0 < (natBytes (x / 256 ^ (i + 1))).length) : natBytes (x / 256 ^ i) = natBytes (x / 256 ^ (i + 1)) ++ [UInt8.ofNat (x / 256 ^ i % 256)] := by
  have h0 : 0 < x / 256 ^ i := by
    apply Nat.pos_of_ne_zero
    intro e
    rcases h with h | h
    · rw [e] at h; simp at h
    · rw [← nb_eq, e, Nat.zero_div, natBytes_zero] at h; simp at h
  rw [natBytes_pos h0, nb_eq]
theorem nb2 {x i : Nat} (h : x / 256 ^ i % 256 = 0) (h2 : ¬ 0 < (natBytes (x / 256 ^ (i + 1))).length) : natBytes (x / 256 ^ i) = natBytes (x / 256 ^ (i + 1)) := by
  have h3 : natBytes (x / 256 ^ (i + 1)) = [] := List.eq_nil_of_length_eq_zero (by omega)
  have h4 := natBytes_nil.1 h3
  rw [← nb_eq] at h4
  have h5 : x / 256 ^ i = 0 := by omega
  rw [h3, h5, natBytes_zero]

theorem bytes_raw {σ : St} {x : Nat} (hx : x < 2 ^ 256) :
    CallsA Try.prog 133 [.agg (numA x)] σ (fun av σ' => av = mineS { σ with objs := σ.objs ++ [numA x] } (natBytes x) ∧ σ' = mineT { σ with objs := σ.objs ++ [numA x] } (natBytes x)) := by
  obtain ⟨B, hB⟩ : ∃ B : St, B = { σ with objs := σ.objs ++ [numA x] } := ⟨_, rfl⟩
  rw [← hB]
  have hBo : B.objs = σ.objs ++ [numA x] := by rw [hB]
  refine callsA_body Try.func133 rfl rfl rfl ?_; refine run_seq_k fun K1 hK1 => ?_; refine run_region_k rfl fun J2 hJ2 => ?_; (try simp [hBo]); refine hJ2 _ _ ?_; refine hK1 _ _ ?_; refine run_seq_k fun K3 hK3 => ?_; refine run_region_k rfl fun J4 hJ4 => ?_; (try simp [hBo]); refine hJ4 _ _ ?_; refine hK3 _ _ ?_; refine run_seq_k fun K5 hK5 => ?_; refine run_seq_k fun K6 hK6 => ?_; refine run_region_k rfl fun J7 hJ7 => ?_; (try simp [hBo]); refine hJ7 _ _ ?_; refine hK6 _ _ ?_; refine run_block_k ?_; refine run_loop (X := Nat) (fun k ρ σ1 => k ≤ 32 ∧ ρ 1 = .ptr σ.objs.length 0 ∧ ρ 3 = mineS B (natBytes (x / 256 ^ k)) ∧ ρ 4 = .v (.int .i64 ((k : Int) - 1)) ∧ (natBytes (x / 256 ^ k)).length ≤ 32 - k ∧ σ1 = mineT B (natBytes (x / 256 ^ k))) (fun k => k) (32) ?start ?round
  case start =>
    have h0 : x / 256 ^ 32 = 0 := Nat.div_eq_of_lt (by simpa using hx)
    rw [h0, natBytes_zero]
    simp [mineS_nil, mineT_nil, hB]
  case round =>
    rintro k ρ σ1 ⟨hk, h1, h3, h4, hl, rfl⟩; refine run_seq_k fun K8 hK8 => ?_; refine run_seq_k fun K9 hK9 => ?_; refine run_region_k rfl fun J10 hJ10 => ?_; (try simp [hBo, h1, h3, h4]); refine hJ10 _ _ ?_; refine hK9 _ _ ?_; refine run_cond_split rfl (fun c7 => ?_) (fun c7 => ?_)
    · try (exfalso; revert c7; simp [hBo, h1, h3, h4]; done)
      all_goals
        (try simp [hBo, h1, h3, h4] at c7)
        all_goals
          refine run_skip ?_; refine hK8 _ _ ?_; refine run_seq_k fun K12 hK12 => ?_; refine run_block_k ?_; refine run_seq_k fun K13 hK13 => ?_
          obtain ⟨i, hik⟩ : ∃ i, k = i + 1 := ⟨k - 1, by omega⟩
          have hki : (k : Int) - 1 = (i : Int) := by omega
          obtain ⟨q, hq⟩ : ∃ q, q = i / 8 := ⟨_, rfl⟩
          obtain ⟨r, hr⟩ : ∃ r, r = i % 8 := ⟨_, rfl⟩
          have hq4 : q < 4 := by omega
          have hq5 : (q : Int) < 4 := by omega
          have hr8 : r < 8 := by omega
          have hqq : IntKind.i64.wrap ((i : Int).tdiv 8) = (q : Int) := by rw [Int.tdiv_eq_ediv_of_nonneg (by omega), wrap_i64 _ (by omega) (by omega)]; omega
          have hrr : (i : Int).tmod 8 = (r : Int) := by rw [Int.tmod_eq_emod_of_nonneg (by omega)]; omega
          have hq2 : IntKind.i64.wrap ((i : Int) / 8) = (q : Int) := by rw [wrap_i64 _ (by omega) (by omega)]; omega
          have hr2 : (i : Int) % 8 = (r : Int) := by omega
          have hm8 : IntKind.i64.wrap (8 * (r : Int)) = 8 * (r : Int) := wrap_i64 _ (by omega) (by omega)
          have hnn : ¬ 8 * (r : Int) < 0 := by omega
          obtain ⟨y, hy⟩ : ∃ y, y = x / 256 ^ i % 256 := ⟨_, rfl⟩
          have hy256 : y < 256 := by omega
          obtain ⟨c, hc⟩ : ∃ c, c = UInt8.ofNat y := ⟨_, rfl⟩
          have hcn : c.toNat = y := by rw [hc]; exact toNat_ofNat hy256
          obtain ⟨m, hm⟩ : ∃ m, m = limb x q / 2 ^ (8 * r) := ⟨_, rfl⟩
          have hmy : m % 256 = y := by rw [hm, hq, hr, hy]; exact limb_byte (by omega)
          have hsh : Int.fdiv ((limb x q : Nat) : Int) (2 ^ (min (8 * (r : Int)).toNat 64)) = (m : Int) := by rw [show min (8 * (r : Int)).toNat 64 = 8 * r by omega, Int.fdiv_eq_ediv_of_nonneg _ (by exact Int.le_of_lt (Int.pow_pos (by omega))), hm]; simp
          have hcv : IntKind.u8.wrap (m : Int) = (c.toNat : Int) := by rw [wrap_u8, hmy, hcn]
          have hget := numA_get x hq4
          have hlen := len_mine B (natBytes (x / 256 ^ k))
          have happ := app_mine B (natBytes (x / 256 ^ k)) [c] .full (by omega) (by simp) (by simp)
          have happ2 : appendA Try.prog 47 (mineS B (natBytes (x / 256 ^ k))) (.sl 1 [.v (.int .u8 c.toNat)] 1 .full) (mineT B (natBytes (x / 256 ^ k))) = some (mineS B (natBytes (x / 256 ^ k) ++ [c]), mineT B (natBytes (x / 256 ^ k) ++ [c])) := happ
          have happ3 : c.toNat = 0 → appendA Try.prog 47 (mineS B (natBytes (x / 256 ^ k))) (.sl 1 [.v (.int .u8 0)] 1 .full) (mineT B (natBytes (x / 256 ^ k))) = some (mineS B (natBytes (x / 256 ^ k) ++ [c]), mineT B (natBytes (x / 256 ^ k) ++ [c])) := fun h => by rw [h] at happ2; exact happ2
          have hwi : IntKind.i64.wrap ((i : Int) - 1) = (i : Int) - 1 := wrap_i64 _ (by omega) (by omega)
          refine run_region_k rfl fun J14 hJ14 => ?_; (try simp [hBo, h1, h3, h4, c7, hki, hwi, hqq, hrr, hq2, hr2, hq4, hq5, hm8, hnn, hsh, hcv, hget, hlen, happ2, happ3]); refine hJ14 _ _ ?_; refine hK13 _ _ ?_; refine run_seq_k fun K15 hK15 => ?_; refine run_region_k rfl fun J16 hJ16 => ?_; (try simp [hBo, h1, h3, h4, c7, hki, hwi, hqq, hrr, hq2, hr2, hq4, hq5, hm8, hnn, hsh, hcv, hget, hlen, happ2, happ3]); refine runL_split rfl (fun g6_2 => ?_) (fun g6_2 => ?_)
          · try (exfalso; revert g6_2; simp [hBo, h1, h3, h4, c7, hki, hwi, hqq, hrr, hq2, hr2, hq4, hq5, hm8, hnn, hsh, hcv, hget, hlen, happ2, happ3, g6_2]; done)
            all_goals
              (try simp [hBo, h1, h3, h4, c7, hki, hwi, hqq, hrr, hq2, hr2, hq4, hq5, hm8, hnn, hsh, hcv, hget, hlen, happ2, happ3] at g6_2)
              all_goals
                refine runL_go (by first | rfl | (simp [hBo, h1, h3, h4, c7, hki, hwi, hqq, hrr, hq2, hr2, hq4, hq5, hm8, hnn, hsh, hcv, hget, hlen, happ2, happ3, g6_2, wantedA]; done)) rfl ?_
                try simp [hBo, h1, h3, h4, c7, hki, hwi, hqq, hrr, hq2, hr2, hq4, hq5, hm8, hnn, hsh, hcv, hget, hlen, happ2, happ3, g6_2]
                refine runL_go (by first | rfl | (simp [hBo, h1, h3, h4, c7, hki, hwi, hqq, hrr, hq2, hr2, hq4, hq5, hm8, hnn, hsh, hcv, hget, hlen, happ2, happ3, g6_2, wantedA]; done)) rfl ?_
                try simp [hBo, h1, h3, h4, c7, hki, hwi, hqq, hrr, hq2, hr2, hq4, hq5, hm8, hnn, hsh, hcv, hget, hlen, happ2, happ3, g6_2]
                refine runL_go (by first | rfl | (simp [hBo, h1, h3, h4, c7, hki, hwi, hqq, hrr, hq2, hr2, hq4, hq5, hm8, hnn, hsh, hcv, hget, hlen, happ2, happ3, g6_2, wantedA]; done)) rfl ?_
                (try simp [hBo, h1, h3, h4, c7, hki, hwi, hqq, hrr, hq2, hr2, hq4, hq5, hm8, hnn, hsh, hcv, hget, hlen, happ2, happ3, g6_2]); refine hJ16 _ _ ?_; refine hK15 _ _ ?_; refine run_cond_split rfl (fun c25 => ?_) (fun c25 => ?_)
                · try (exfalso; revert c25; simp [hBo, h1, h3, h4, c7, hki, hwi, hqq, hrr, hq2, hr2, hq4, hq5, hm8, hnn, hsh, hcv, hget, hlen, happ2, happ3, g6_2]; done)
                  all_goals
                    (try simp [hBo, h1, h3, h4, c7, hki, hwi, hqq, hrr, hq2, hr2, hq4, hq5, hm8, hnn, hsh, hcv, hget, hlen, happ2, happ3, g6_2] at c25)
                    all_goals
                      refine run_region_k rfl fun J18 hJ18 => ?_; (try simp [hBo, h1, h3, h4, c7, hki, hwi, hqq, hrr, hq2, hr2, hq4, hq5, hm8, hnn, hsh, hcv, hget, hlen, happ2, happ3, g6_2, c25]); refine hJ18 _ _ ?_; refine hK12 _ _ ?_; refine run_region_k rfl fun J19 hJ19 => ?_; (try simp [hBo, h1, h3, h4, c7, hki, hwi, hqq, hrr, hq2, hr2, hq4, hq5, hm8, hnn, hsh, hcv, hget, hlen, happ2, happ3, g6_2, c25]); refine hJ19 _ _ ?_
                      first | (have e : natBytes (x / 256 ^ i) = natBytes (x / 256 ^ k) ++ [c] := (by rw [hik, hc, hy]; exact nb1 (by first | (right; rw [← hik]; exact c25) | (left; omega))); exact ⟨i, ⟨by omega, by simp [h1], by rw [e]; simp, by simp, by rw [e]; simp; omega, by rw [e]⟩, by omega⟩) | (have e : natBytes (x / 256 ^ i) = natBytes (x / 256 ^ k) := (by rw [hik]; exact nb2 (by omega) (by rw [← hik, c25]; simp)); exact ⟨i, ⟨by omega, by simp [h1], by rw [e]; simp [h3], by simp, by rw [e]; omega, by rw [e, c25]⟩, by omega⟩)
                · try (exfalso; revert c25; simp [hBo, h1, h3, h4, c7, hki, hwi, hqq, hrr, hq2, hr2, hq4, hq5, hm8, hnn, hsh, hcv, hget, hlen, happ2, happ3, g6_2]; done)
                  all_goals
                    (try simp [hBo, h1, h3, h4, c7, hki, hwi, hqq, hrr, hq2, hr2, hq4, hq5, hm8, hnn, hsh, hcv, hget, hlen, happ2, happ3, g6_2] at c25)
                    all_goals
                      refine run_skip ?_; refine hK12 _ _ ?_; refine run_region_k rfl fun J20 hJ20 => ?_; (try simp [hBo, h1, h3, h4, c7, hki, hwi, hqq, hrr, hq2, hr2, hq4, hq5, hm8, hnn, hsh, hcv, hget, hlen, happ2, happ3, g6_2, c25]); refine hJ20 _ _ ?_
                      first | (have e : natBytes (x / 256 ^ i) = natBytes (x / 256 ^ k) ++ [c] := (by rw [hik, hc, hy]; exact nb1 (by first | (right; rw [← hik]; exact c25) | (left; omega))); exact ⟨i, ⟨by omega, by simp [h1], by rw [e]; simp, by simp, by rw [e]; simp; omega, by rw [e]⟩, by omega⟩) | (have e : natBytes (x / 256 ^ i) = natBytes (x / 256 ^ k) := (by rw [hik]; exact nb2 (by omega) (by rw [← hik, c25]; simp)); exact ⟨i, ⟨by omega, by simp [h1], by rw [e]; simp [h3], by simp, by rw [e]; omega, by rw [e, c25]⟩, by omega⟩)
          · try (exfalso; revert g6_2; simp [hBo, h1, h3, h4, c7, hki, hwi, hqq, hrr, hq2, hr2, hq4, hq5, hm8, hnn, hsh, hcv, hget, hlen, happ2, happ3, g6_2]; done)
            all_goals
              (try simp [hBo, h1, h3, h4, c7, hki, hwi, hqq, hrr, hq2, hr2, hq4, hq5, hm8, hnn, hsh, hcv, hget, hlen, happ2, happ3] at g6_2)
              all_goals
                refine runL_no (by first | rfl | (simp [hBo, h1, h3, h4, c7, hki, hwi, hqq, hrr, hq2, hr2, hq4, hq5, hm8, hnn, hsh, hcv, hget, hlen, happ2, happ3, g6_2, wantedA]; done)) rfl ?_
                try simp [hBo, h1, h3, h4, c7, hki, hwi, hqq, hrr, hq2, hr2, hq4, hq5, hm8, hnn, hsh, hcv, hget, hlen, happ2, happ3, g6_2]
                refine runL_no (by first | rfl | (simp [hBo, h1, h3, h4, c7, hki, hwi, hqq, hrr, hq2, hr2, hq4, hq5, hm8, hnn, hsh, hcv, hget, hlen, happ2, happ3, g6_2, wantedA]; done)) rfl ?_
                try simp [hBo, h1, h3, h4, c7, hki, hwi, hqq, hrr, hq2, hr2, hq4, hq5, hm8, hnn, hsh, hcv, hget, hlen, happ2, happ3, g6_2]
                refine runL_no (by first | rfl | (simp [hBo, h1, h3, h4, c7, hki, hwi, hqq, hrr, hq2, hr2, hq4, hq5, hm8, hnn, hsh, hcv, hget, hlen, happ2, happ3, g6_2, wantedA]; done)) rfl ?_
                (try simp [hBo, h1, h3, h4, c7, hki, hwi, hqq, hrr, hq2, hr2, hq4, hq5, hm8, hnn, hsh, hcv, hget, hlen, happ2, happ3, g6_2]); refine hJ16 _ _ ?_; refine hK15 _ _ ?_; refine run_cond_split rfl (fun c25 => ?_) (fun c25 => ?_)
                · try (exfalso; revert c25; simp [hBo, h1, h3, h4, c7, hki, hwi, hqq, hrr, hq2, hr2, hq4, hq5, hm8, hnn, hsh, hcv, hget, hlen, happ2, happ3, g6_2]; done)
                  all_goals
                    (try simp [hBo, h1, h3, h4, c7, hki, hwi, hqq, hrr, hq2, hr2, hq4, hq5, hm8, hnn, hsh, hcv, hget, hlen, happ2, happ3, g6_2] at c25)
                    all_goals
                      refine run_region_k rfl fun J22 hJ22 => ?_; (try simp [hBo, h1, h3, h4, c7, hki, hwi, hqq, hrr, hq2, hr2, hq4, hq5, hm8, hnn, hsh, hcv, hget, hlen, happ2, happ3, g6_2, c25]); refine hJ22 _ _ ?_; refine hK12 _ _ ?_; refine run_region_k rfl fun J23 hJ23 => ?_; (try simp [hBo, h1, h3, h4, c7, hki, hwi, hqq, hrr, hq2, hr2, hq4, hq5, hm8, hnn, hsh, hcv, hget, hlen, happ2, happ3, g6_2, c25]); refine hJ23 _ _ ?_
                      first | (have e : natBytes (x / 256 ^ i) = natBytes (x / 256 ^ k) ++ [c] := (by rw [hik, hc, hy]; exact nb1 (by first | (right; rw [← hik]; exact c25) | (left; omega))); exact ⟨i, ⟨by omega, by simp [h1], by rw [e]; simp, by simp, by rw [e]; simp; omega, by rw [e]⟩, by omega⟩) | (have e : natBytes (x / 256 ^ i) = natBytes (x / 256 ^ k) := (by rw [hik]; exact nb2 (by omega) (by rw [← hik, c25]; simp)); exact ⟨i, ⟨by omega, by simp [h1], by rw [e]; simp [h3], by simp, by rw [e]; omega, by rw [e, c25]⟩, by omega⟩)
                · try (exfalso; revert c25; simp [hBo, h1, h3, h4, c7, hki, hwi, hqq, hrr, hq2, hr2, hq4, hq5, hm8, hnn, hsh, hcv, hget, hlen, happ2, happ3, g6_2]; done)
                  all_goals
                    (try simp [hBo, h1, h3, h4, c7, hki, hwi, hqq, hrr, hq2, hr2, hq4, hq5, hm8, hnn, hsh, hcv, hget, hlen, happ2, happ3, g6_2] at c25)
                    all_goals
                      refine run_skip ?_; refine hK12 _ _ ?_; refine run_region_k rfl fun J24 hJ24 => ?_; (try simp [hBo, h1, h3, h4, c7, hki, hwi, hqq, hrr, hq2, hr2, hq4, hq5, hm8, hnn, hsh, hcv, hget, hlen, happ2, happ3, g6_2, c25]); refine hJ24 _ _ ?_
                      first | (have e : natBytes (x / 256 ^ i) = natBytes (x / 256 ^ k) ++ [c] := (by rw [hik, hc, hy]; exact nb1 (by first | (right; rw [← hik]; exact c25) | (left; omega))); exact ⟨i, ⟨by omega, by simp [h1], by rw [e]; simp, by simp, by rw [e]; simp; omega, by rw [e]⟩, by omega⟩) | (have e : natBytes (x / 256 ^ i) = natBytes (x / 256 ^ k) := (by rw [hik]; exact nb2 (by omega) (by rw [← hik, c25]; simp)); exact ⟨i, ⟨by omega, by simp [h1], by rw [e]; simp [h3], by simp, by rw [e]; omega, by rw [e, c25]⟩, by omega⟩)
    · try (exfalso; revert c7; simp [hBo, h1, h3, h4]; done)
      all_goals
        (try simp [hBo, h1, h3, h4] at c7)
        all_goals
          refine run_exit ?_; refine hK5 _ _ ?_; refine run_seq_k fun K25 hK25 => ?_; refine run_region_k rfl fun J26 hJ26 => ?_; (try simp [hBo, h1, h3, h4, c7]); refine hJ26 _ _ ?_; refine hK25 _ _ ?_; refine ra ?_
          have hk0 : k = 0 := by omega
          subst hk0
          simp

theorem mineS_wk (σ : St) (l : List UInt8) : Wk (mineS σ l) (.sl 1 (bytesA l) l.length .shut) := by
  unfold mineS
  split
  · rename_i h; subst h; exact Wk.nil 0 1 .full
  · exact Wk.shut _ _ _ _

theorem bytes_ok {σ : St} {x : Nat} (hx : x < 2 ^ 256) :
    CallsA Try.prog 133 [.agg (numA x)] σ (fun av σ' => av = .sl 1 (bytesA (natBytes x)) (natBytes x).length .shut ∧ σ = σ') :=
  callsA_gc_same (bytes_raw hx) (fun av σ' ⟨h1, h2⟩ => ⟨h1 ▸ mineS_wk _ _, by
    rw [h2]
    unfold mineT
    split
    · exact ⟨[numA x], [], [], by simp⟩
    · exact ⟨[numA x], [(natBytes x).length], [], by simp⟩⟩) (by simp [AV.under, under_bytes])

end Go.Proofs.Ytdbaddholggkbaa

/-
  The codec's writer; the layer's example.
-/
namespace Go.Proofs.Ytdbaddholggkbaa
set_option linter.unnecessarySimpa false
set_option maxRecDepth 100000
open Go Go.Vm
set_option linter.unusedSimpArgs false
set_option linter.unusedVariables false
attribute [local simp] evalL wantedA isCall opA evalA evalAll evalsA evalOpt ofValue ofCell plain binA_eql_pn binA_neq_pn binA_gtr binA_lss binA_geq binA_leq binA_add binA_sub binA_eql binA_neq binA_or binA_shl binA_shr binA_mul binA_quo binA_rem convA_int unA_not fieldAddrA loadA partA pickA lenA builtinA storeA splice AV.cells AV.isCell sliceA boundA intA callOf indexAddrA newObjA buildA fillA zeroA ofCells buildSliceA appendA roomA maxLen

theorem lay_new {σ : St} {id : Nat} {q : List UInt8} {tq : Tail} (h : σ.objs[id]? = some [.sl 0 [] 0 .full]) (hq : q.length ≤ 1000000) :
    CallsA Try.prog 129 [.ptr id 0, .sl 1 (bytesA q) q.length tq] σ (fun av σ' => av = .ptr id 0 ∧ σ' = { σ with objs := σ.objs.set id [.sl 1 (bytesA q) q.length (.own σ.toks.length)], toks := σ.toks ++ [q.length] }) := by
  have hs := set_self_of h
  have h1 : q.length ≤ 140737488355328 := by omega
  have h2 : q.length ≤ 9223372036854775807 := by omega
  have hv : (Value.int IntKind.u8 0).cells.size = 1 := rfl
  refine callsA_body Try.func129 rfl rfl rfl ?_; refine run_seq_k fun K1 hK1 => ?_; refine run_region_k rfl fun J2 hJ2 => ?_; (try simp [h, hs, h1, h2, hv]); refine hJ2 _ _ ?_; refine hK1 _ _ ?_; refine run_seq_k fun K3 hK3 => ?_; refine run_seq_k fun K4 hK4 => ?_; refine run_region_k rfl fun J5 hJ5 => ?_; (try simp [h, hs, h1, h2, hv]); refine hJ5 _ _ ?_; refine hK4 _ _ ?_
  refine run_cond_true (by first | rfl | (simp [h, hs, h1, h2, hv, evalA]; done)) ?_
  refine run_region_k rfl fun J6 hJ6 => ?_; (try simp [h, hs, h1, h2, hv]); refine hJ6 _ _ ?_; refine hK3 _ _ ?_; refine run_seq_k fun K7 hK7 => ?_; refine run_region_k rfl fun J8 hJ8 => ?_; (try simp [h, hs, h1, h2, hv]); refine hJ8 _ _ ?_; refine hK7 _ _ ?_; refine ra ?_; simp [h, hs, h1, h2, hv]

theorem lay_more {σ : St} {id k : Nat} {l q : List UInt8} {tq : Tail} (h : σ.objs[id]? = some [.sl 1 (bytesA l) l.length (.own k)]) (hk : σ.toks[k]? = some l.length) (hl : l.length ≤ 1000000) (hq : q.length ≤ 1000000) :
    CallsA Try.prog 129 [.ptr id 0, .sl 1 (bytesA q) q.length tq] σ (fun av σ' => av = .ptr id 0 ∧ σ' = { σ with objs := σ.objs.set id [.sl 1 (bytesA (l ++ q)) (l ++ q).length (.own k)], toks := σ.toks.set k (l ++ q).length }) := by
  have hs := set_self_of h
  have h1 : l.length + q.length ≤ 140737488355328 := by omega
  have h2 : l.length + q.length ≤ 9223372036854775807 := by omega
  have hv : (Value.int IntKind.u8 0).cells.size = 1 := rfl
  refine callsA_body Try.func129 rfl rfl rfl ?_; refine run_seq_k fun K1 hK1 => ?_; refine run_region_k rfl fun J2 hJ2 => ?_; (try simp [h, hs, h1, h2, hv, hk, bytesA_append]); refine hJ2 _ _ ?_; refine hK1 _ _ ?_; refine run_seq_k fun K3 hK3 => ?_; refine run_seq_k fun K4 hK4 => ?_; refine run_region_k rfl fun J5 hJ5 => ?_; (try simp [h, hs, h1, h2, hv, hk, bytesA_append]); refine hJ5 _ _ ?_; refine hK4 _ _ ?_
  refine run_cond_true (by first | rfl | (simp [h, hs, h1, h2, hv, hk, bytesA_append, evalA]; done)) ?_
  refine run_region_k rfl fun J6 hJ6 => ?_; (try simp [h, hs, h1, h2, hv, hk, bytesA_append]); refine hJ6 _ _ ?_; refine hK3 _ _ ?_; refine run_seq_k fun K7 hK7 => ?_; refine run_region_k rfl fun J8 hJ8 => ?_; (try simp [h, hs, h1, h2, hv, hk, bytesA_append]); refine hJ8 _ _ ?_; refine hK7 _ _ ?_; refine ra ?_; simp [h, hs, h1, h2, hv, hk, bytesA_append]

theorem done_ok {σ : St} {id : Nat} {p : List UInt8} {tl : Tail} (h : σ.objs[id]? = some [.sl 1 (bytesA p) p.length tl]) (hp : p.length ≤ 1000000) :
    CallsA Try.prog 41 [.ptr id 0] σ (fun av σ' => av = .sl 1 (bytesA p) p.length .shut ∧ σ = σ') := by
  refine callsA_body Try.func41 rfl rfl rfl ?_; refine run_seq_k fun K1 hK1 => ?_; refine run_region_k rfl fun J2 hJ2 => ?_; (try simp [h]); refine hJ2 _ _ ?_; refine hK1 _ _ ?_; refine run_seq_k fun K3 hK3 => ?_; refine run_seq_k fun K4 hK4 => ?_; refine run_region_k rfl fun J5 hJ5 => ?_; (try simp [h]); refine hJ5 _ _ ?_; refine hK4 _ _ ?_
  refine run_cond_false (by first | rfl | (simp [h, evalA]; done)) ?_
  refine run_skip ?_; refine hK3 _ _ ?_; refine run_seq_k fun K6 hK6 => ?_; refine run_region_k rfl fun J7 hJ7 => ?_; try simp [h]
  refine runL_call' (b := true) (by first | rfl | (simp [h, wantedA]; done)) rfl rfl (by first | rfl | (simp [h, callOf]; done)) (by simp) (clone_ok hp) ?_
  rintro _ _ ⟨rfl, rfl⟩; (try simp [h]); refine hJ7 _ _ ?_; refine hK6 _ _ ?_; refine ra ?_; simp [h]

theorem natBytes_len (x k : Nat) (h : x < 256 ^ k) : (natBytes x).length ≤ k := by
  induction k generalizing x with
  | zero =>
    have : x = 0 := by simpa using h
    subst this; simp [natBytes_zero]
  | succ k ih =>
    by_cases h0 : x = 0
    · subst h0; simp [natBytes_zero]
    · rw [natBytes_pos (by omega)]
      have : x / 256 < 256 ^ k := by rw [Nat.div_lt_iff_lt_mul (by omega)]; rwa [Nat.pow_succ] at h
      have := ih _ this
      simp; omega

end Go.Proofs.Ytdbaddholggkbaa

/-
  Behind a fault: nothing is read any more.
-/
namespace Go.Proofs.Ytdbaddholggkbaa
set_option linter.unnecessarySimpa false
set_option maxRecDepth 100000
open Go Go.Vm
set_option linter.unusedSimpArgs false
set_option linter.unusedVariables false
attribute [local simp] evalL wantedA isCall opA evalA evalAll evalsA evalOpt ofValue ofCell plain binA_eql_pn binA_neq_pn binA_gtr binA_lss binA_geq binA_leq binA_add binA_sub binA_eql binA_neq binA_or binA_shl binA_shr binA_mul binA_quo binA_rem convA_int unA_not fieldAddrA loadA partA pickA_true pickA_false pickA_bb lenA builtinA storeA splice AV.cells AV.isCell sliceA boundA intA callOf indexAddrA newObjA buildA fillA zeroA ofCells buildSliceA

theorem right_nil {σ : St} : CallsA Try.prog 97 [.sl 0 [] 0 .full] σ (fun av σ' => av = .v (.bool true) ∧ σ = σ') := by
  refine callsA_body Try.func97 rfl rfl rfl ?_; refine run_seq_k fun K1 hK1 => ?_; refine run_region_k rfl fun J2 hJ2 => ?_; (try simp); refine hJ2 _ _ ?_; refine hK1 _ _ ?_; refine run_seq_k fun K3 hK3 => ?_; refine run_seq_k fun K4 hK4 => ?_; refine run_region_k rfl fun J5 hJ5 => ?_; (try simp); refine hJ5 _ _ ?_; refine hK4 _ _ ?_; refine run_block_k ?_; refine run_loop (X := Unit) (fun _ ρ σ1 => ρ 6 = .v (.int .i64 0) ∧ ρ 7 = .v (.int .i64 0) ∧ σ1 = σ) (fun _ => 0) (()) ?start ?round
  case start =>
    simp
  case round =>
    rintro _ ρ σ1 ⟨h6, h7, rfl⟩; refine run_seq_k fun K6 hK6 => ?_; refine run_region_k rfl fun J7 hJ7 => ?_; (try simp [h6, h7]); refine hJ7 _ _ ?_; refine hK6 _ _ ?_; refine run_seq_k fun K8 hK8 => ?_
    refine run_cond_false (by first | rfl | (simp [h6, h7, evalA]; done)) ?_
    refine run_exit ?_; refine hK3 _ _ ?_; refine run_seq_k fun K9 hK9 => ?_; refine run_region_k rfl fun J10 hJ10 => ?_; (try simp [h6, h7]); refine hJ10 _ _ ?_; refine hK9 _ _ ?_; refine ra ?_; simp [h6, h7]

def inBad (x y : AV) : List AV := [x, y, .v (.bool true)]

theorem inByte_bad {σ : St} {id : Nat} {x y : AV} (h : σ.objs[id]? = some (inBad x y)) : CallsA Try.prog 84 [.ptr id 0] σ (fun av σ' => av = .v (.int .u8 0) ∧ σ = σ') := by
  have hs := set_same h
  unfold inBad at h hs
  refine callsA_body Try.func84 rfl rfl rfl ?_; refine run_seq_k fun K1 hK1 => ?_; refine run_region_k rfl fun J2 hJ2 => ?_; (try simp [h, hs]); refine hJ2 _ _ ?_; refine hK1 _ _ ?_; refine run_seq_k fun K3 hK3 => ?_; refine run_seq_k fun K4 hK4 => ?_
  refine run_draw (by kernel_rfl) fun J5 hJ5 => ?_
  refine rq 0 ?_; (try simp [h, hs]); refine rq 1 ?_; (try simp [h, hs]); refine rq 2 ?_; (try simp [h, hs]); refine rq 3 ?_; (try simp [h, hs]); refine rq 4 ?_; (try simp [h, hs]); refine rq 5 ?_; (try simp [h, hs]); refine rq 6 ?_; (try simp [h, hs]); refine rq 7 ?_; (try simp [h, hs]); refine rq 8 ?_; (try simp [h, hs]); refine rq 9 ?_; (try simp [h, hs]); refine rq 10 ?_; (try simp [h, hs]); refine rq 11 ?_; (try simp [h, hs]); refine rq 12 ?_; (try simp [h, hs]); refine rq 13 ?_; (try simp [h, hs]); refine rq 14 ?_; (try simp [h, hs]); refine rq 15 ?_; try simp [h, hs]
  refine runD_done (by kernel_rfl) (by kernel_rfl) (by kernel_rfl) ?_
  refine hJ5 _ _ ?_; refine hK4 _ _ ?_
  refine run_cond_true (by first | rfl | (simp [h, hs, evalA]; done)) ?_
  refine run_seq_k fun K6 hK6 => ?_; refine run_region_k rfl fun J7 hJ7 => ?_; (try simp [h, hs]); refine hJ7 _ _ ?_; refine hK6 _ _ ?_; refine run_seq_k fun K8 hK8 => ?_; refine run_region_k rfl fun J9 hJ9 => ?_; (try simp [h, hs]); refine hJ9 _ _ ?_; refine hK8 _ _ ?_; refine ra ?_; simp [h, hs]

theorem inLong_bad {σ : St} {id n : Nat} {x y : AV} (h : σ.objs[id]? = some (inBad x y)) : CallsA Try.prog 85 [.ptr id 0, .v (.int .i64 n)] σ (fun av σ' => av = .v (.int .u64 0) ∧ σ = σ') := by
  have h' := h
  have hs := set_same h
  unfold inBad at h hs
  refine callsA_body Try.func85 rfl rfl rfl ?_; refine run_seq_k fun K1 hK1 => ?_; refine run_region_k rfl fun J2 hJ2 => ?_; (try simp [h, hs]); refine hJ2 _ _ ?_; refine hK1 _ _ ?_; refine run_seq_k fun K3 hK3 => ?_; refine run_seq_k fun K4 hK4 => ?_
  refine run_draw (by kernel_rfl) fun J5 hJ5 => ?_
  refine rq 0 ?_; (try simp [h, hs]); refine rq 1 ?_; (try simp [h, hs]); refine rq 2 ?_; (try simp [h, hs]); refine rq 3 ?_; (try simp [h, hs]); refine rq 4 ?_; (try simp [h, hs]); refine rq 5 ?_; (try simp [h, hs]); refine rq 6 ?_; (try simp [h, hs]); refine rq 7 ?_; (try simp [h, hs]); refine rq 8 ?_; (try simp [h, hs]); refine rq 9 ?_; (try simp [h, hs]); refine rq 10 ?_; (try simp [h, hs]); refine rq 11 ?_; (try simp [h, hs]); refine rq 12 ?_; (try simp [h, hs]); refine rq 13 ?_; (try simp [h, hs]); refine rq 14 ?_; (try simp [h, hs]); refine rq 15 ?_; (try simp [h, hs]); refine rq 16 ?_; (try simp [h, hs]); refine rq 17 ?_; try simp [h, hs]
  refine runD_done (by kernel_rfl) (by kernel_rfl) (by kernel_rfl) ?_
  refine hJ5 _ _ ?_; refine hK4 _ _ ?_
  refine run_cond_true (by first | rfl | (simp [h, hs, evalA]; done)) ?_
  refine run_seq_k fun K6 hK6 => ?_; refine run_region_k rfl fun J7 hJ7 => ?_; (try simp [h, hs]); refine hJ7 _ _ ?_; refine hK6 _ _ ?_; refine run_seq_k fun K8 hK8 => ?_; refine run_region_k rfl fun J9 hJ9 => ?_; (try simp [h, hs]); refine hJ9 _ _ ?_; refine hK8 _ _ ?_; refine ra ?_; simp [h, hs]

theorem inEnd_bad {σ : St} {id : Nat} {x y : AV} (h : σ.objs[id]? = some (inBad x y)) : CallsA Try.prog 113 [.ptr id 0] σ (fun av σ' => av = .v (.bool false) ∧ σ = σ') := by
  unfold inBad at h
  refine callsA_body Try.func113 rfl rfl rfl ?_; refine run_seq_k fun K1 hK1 => ?_; refine run_region_k rfl fun J2 hJ2 => ?_; (try simp [h]); refine hJ2 _ _ ?_; refine hK1 _ _ ?_; refine run_seq_k fun K3 hK3 => ?_
  refine run_draw (by kernel_rfl) fun J4 hJ4 => ?_
  refine rq 0 ?_; (try simp [h]); refine rq 1 ?_; (try simp [h]); refine rq 2 ?_; (try simp [h]); refine rq 3 ?_; (try simp [h]); refine rq 4 ?_; (try simp [h]); refine rq 5 ?_; (try simp [h]); refine rq 6 ?_; (try simp [h]); refine rq 7 ?_; (try simp [h]); refine rq 8 ?_; (try simp [h]); refine rq 9 ?_; (try simp [h]); refine rq 10 ?_; (try simp [h]); refine rq 11 ?_; (try simp [h]); refine rq 12 ?_; (try simp [h]); refine rq 13 ?_; (try simp [h]); refine rq 14 ?_; (try simp [h]); refine rq 15 ?_; (try simp [h]); refine rq 16 ?_; (try simp [h]); refine rq 17 ?_; try simp [h]
  refine runD_done (by kernel_rfl) (by kernel_rfl) (by kernel_rfl) ?_
  refine hJ4 _ _ ?_; refine hK3 _ _ ?_; refine ra ?_; simp [h]
  try rfl

end Go.Proofs.Ytdbaddholggkbaa

/-
  Lists of coins: may they be? are they alike?
-/
namespace Go.Proofs.Ytdbaddholggkbaa
set_option linter.unnecessarySimpa false
set_option maxRecDepth 100000
open Go Go.Vm
set_option linter.unusedSimpArgs false
set_option linter.unusedVariables false
attribute [local simp] evalL wantedA isCall opA evalA evalAll evalsA evalOpt ofValue ofCell plain binA_eql_pn binA_neq_pn binA_gtr binA_lss binA_geq binA_leq binA_add binA_sub binA_eql binA_neq binA_or binA_shl binA_shr binA_mul binA_quo binA_rem binA_agg_eql binA_agg_neq convA_int unA_not fieldAddrA loadA partA pickA_true pickA_false pickA_bb lenA builtinA storeA splice AV.cells AV.isCell sliceA boundA intA callOf indexAddrA newObjA buildA fillA zeroA ofCells buildSliceA indexA fieldA coinsC_at coinC List.getElem?_cons_zero List.getElem?_cons_succ

set_option maxHeartbeats 1600000 in
attribute [local simp] undefA List.getElem?_cons_zero List.getElem?_cons_succ numA in
theorem zero_ok {σ : St} {x : Num} : CallsA Try.prog 79 [.agg (numA x.v)] σ (fun av σ' => av = .v (.bool (decide (x.v = 0))) ∧ σ = σ') := by
  have hz : decide (x.v = 0) = (((limb x.v 0 : Int) == 0) && ((limb x.v 1 : Int) == 0) && ((limb x.v 2 : Int) == 0) && ((limb x.v 3 : Int) == 0)) := by
    rw [← cellsEq_num0]
    simp [numA, cellsEqA, Bool.and_assoc]
  rw [hz]
  refine callsA_gcS ?_ rfl
  have F := True.intro
  refine callsA_body Try.func79 rfl rfl rfl ?_; refine sr fun _ hJ2 => ?_; refine hJ2 _ _ ?_; refine sr fun _ hJ4 => ?_; refine gs 6 (fun g1_3 => ?_) (fun g1_3 => ?_)
  · try exact nope g1_3
    all_goals
     replace F := wf F g1_3; (iterate 3 refine go2 (k := ?_)); refine gs 11 (fun g1_8 => ?_) (fun g1_8 => ?_)
     · try exact nope g1_8
       all_goals
        replace F := wf F g1_8; (iterate 3 refine go2 (k := ?_)); refine gs 16 (fun g1_13 => ?_) (fun g1_13 => ?_)
        · try exact nope g1_13
          all_goals
           replace F := wf F g1_13; (iterate 3 refine go2 (k := ?_)); refine hJ4 _ _ ?_; refine ra ?_; exact gcr
        try exact nope g1_13
        all_goals
         replace F := wf F g1_13; (iterate 3 refine no2 (k := ?_)); refine hJ4 _ _ ?_; refine ra ?_; exact gcr
     try exact nope g1_8
     all_goals
      replace F := wf F g1_8; (iterate 6 refine no2 (k := ?_)); refine hJ4 _ _ ?_; refine ra ?_; exact gcr
  try exact nope g1_3
  all_goals
   replace F := wf F g1_3; (iterate 9 refine no2 (k := ?_)); refine hJ4 _ _ ?_; refine ra ?_; exact gcr

theorem right_no {l : List Coin} {k : Nat} (h : k < l.length) (hn : 8 ≤ l[k].d.toNat ∨ l[k].n.v = 0 ∨ ∃ j, ∃ e : k = j + 1, l[k].d.toNat ≤ (l[j]'(by omega)).d.toNat) : ¬ Right l := by
  intro hr
  have h1 := hr.1 l[k] (List.getElem_mem h)
  rcases hn with hn | hn | ⟨j, rfl, hn⟩
  · omega
  · exact h1.2 hn
  · have := List.pairwise_iff_getElem.1 hr.2 j (j + 1) (by omega) h (by omega)
    omega
theorem right_next {l : List Coin} {j : Nat} (h : j + 1 < l.length) (h1 : l[j + 1].d.toNat < 8) (h2 : ¬ l[j + 1].n.v = 0) (h3 : (l[j]'(by omega)).d.toNat < l[j + 1].d.toNat) (hR : Right (l.take (j + 1))) : Right (l.take (j + 1 + 1)) := by
  rw [take_snoc h, right_snoc]
  refine ⟨hR, ⟨h1, h2⟩, right_last hR ?_ h3⟩
  rw [take_snoc (by omega : j < l.length), List.getLast?_append]; rfl
theorem right_first {l : List Coin} (h : 0 < l.length) (h1 : l[0].d.toNat < 8) (h2 : ¬ l[0].n.v = 0) : Right (l.take 1) := by
  have := take_snoc h
  rw [Nat.zero_add] at this
  rw [this, right_snoc]
  exact ⟨by simpa using Go.Vm.right_nil, ⟨h1, h2⟩, by simp⟩

set_option maxHeartbeats 1600000 in
attribute [local simp] undefA List.getElem?_cons_zero List.getElem?_cons_succ in
theorem right_ok {σ : St} {l : List Coin} {tl : Tail} (hl : l.length ≤ 9223372036854775807) : CallsA Try.prog 97 [.sl 5 (coinsC l) l.length tl] σ (fun av σ' => av = .v (.bool (decide (Right l))) ∧ σ = σ') := by
  refine callsA_gcS ?_ rfl
  have F := True.intro
  refine callsA_body Try.func97 rfl rfl rfl ?_; refine sr fun _ hJ2 => ?_; refine hJ2 _ _ ?_; refine sq fun K3 hK3 => ?_; refine sr fun _ hJ5 => ?_; refine hJ5 _ _ ?_; refine run_block_k ?_; refine run_loopG (X := Nat) [0, 5, 6] (fun k ρ σ1 => (k ≤ l.length) ∧ (Right (l.take k)) ∧ (ρ 7 = .v (.int .i64 k)) ∧ (σ1 = σ)) (fun k => l.length - k) (0) ?st1 ?rd1
  case st1 =>
   refine ⟨lp, ?_, lp, lp⟩
   · simpa using Go.Vm.right_nil
  case rd1 =>
   rintro k ρ1 σ1 hF1 ⟨hk, hR, h7, hs⟩; obtain rfl := hs.symm
   have f1 := keepL hF1
   (try simp [KeepL, F] at f1); replace F := aF h7 F; (try replace F := aF f1 F); refine sr fun _ hJ7 => ?_; refine hJ7 _ _ ?_; refine sq fun K8 hK8 => ?_; refine cs (fun c8 => ?_) (fun c8 => ?_)
   · (try exact nope c8); all_goals have c8p := c8; try simp [F] at c8p
     all_goals
      replace F := aF c8 F; (try replace F := aF c8p F); refine run_skip ?_; refine hK8 _ _ ?_; refine sq fun K9 hK9 => ?_; refine run_block_k ?_; refine sr fun _ hJ11 => ?_; refine hJ11 _ _ ?_; refine sq fun K12 hK12 => ?_
      refine run_draw (by kernel_rfl) fun J13 hJ13 => ?_
      refine rp2 0 (k := ?_); refine rp2 1 (k := ?_); refine rp2 2 (k := ?_); refine rp2 3 (k := ?_); refine gd 15 (fun g4_3 => ?_) (fun g4_3 => ?_)
      · try exact nope g4_3
        all_goals
         replace F := wf F g4_3; refine rp2 4 (k := ?_); refine rp2 5 (k := ?_); refine rp2 6 (k := ?_); refine rp2 7 (k := ?_); refine rp2 8 (k := ?_); refine rp2 9 (k := ?_); refine rp2 10 (k := ?_); refine rp2 11 (k := ?_); refine rp2 12 (k := ?_); refine rp2 13 (k := ?_); refine rp2 14 (k := ?_); refine rp2 15 (k := ?_); refine rp2 16 (k := ?_); refine rp2 17 (k := ?_); refine rp2 18 (k := ?_); refine rp2 19 (k := ?_); refine rp2 20 (k := ?_); refine rp2 21 (k := ?_); refine rp2 22 (k := ?_); refine rp2 23 (k := ?_); refine dd ?_; refine hJ13 _ _ ?_; refine hK12 _ _ ?_; refine ct ?_; refine sr fun _ hJ15 => ?_; refine hJ15 _ _ ?_; refine ra ?_
         have hn : ¬ Right l := right_no c8p (.inl (by omega))
         exact gcr
      try exact nope g4_3
      all_goals
       replace F := wf F g4_3; refine rp2 4 (k := ?_); refine rp2 5 (k := ?_); refine rp2 6 (k := ?_); refine rp2 7 (k := ?_); refine rp2 8 (k := ?_); refine rp2 9 (k := ?_); refine gd 21 (fun g4_9 => ?_) (fun g4_9 => ?_)
       · (try exact nope g4_9); all_goals have g4_9p := g4_9; try simp [F] at g4_9p
         all_goals
          replace F := aF g4_9 F; (try replace F := aF g4_9p F); refine rp2 10 (k := ?_); refine rp2 11 (k := ?_); refine rp2 12 (k := ?_); refine rp2 13 (k := ?_); refine rp2 14 (k := ?_); refine rp2 15 (k := ?_); refine rp2 16 (k := ?_); refine rp2 17 (k := ?_); refine rp2 18 (k := ?_); refine rp2 19 (k := ?_); refine rp2 20 (k := ?_); refine rp2 21 (k := ?_); refine rp2 22 (k := ?_); refine rp2 23 (k := ?_); refine dd ?_; refine hJ13 _ _ ?_; refine hK12 _ _ ?_; refine ct ?_; refine sr fun _ hJ17 => ?_; refine hJ17 _ _ ?_; refine ra ?_
          have hn : ¬ Right l := right_no c8p (.inr (.inl g4_9p))
          exact gcr
       (try exact nope g4_9); all_goals have g4_9p := g4_9; try simp [F] at g4_9p
       all_goals
        replace F := aF g4_9 F; (try replace F := aF g4_9p F); refine rp2 10 (k := ?_); refine rp2 11 (k := ?_); refine rp2 12 (k := ?_); refine gd 24 (fun g4_12 => ?_) (fun g4_12 => ?_)
        · try exact nope g4_12
          all_goals
           replace F := wf F g4_12
           obtain ⟨j, rfl⟩ : ∃ j, k = j + 1 := ⟨k - 1, by omega⟩
           refine rp2 13 (k := ?_); refine rp2 14 (k := ?_); refine rp2 15 (k := ?_); refine rp2 16 (k := ?_); refine rp2 17 (k := ?_); refine rp2 18 (k := ?_); refine rp2 19 (k := ?_); refine rp2 20 (k := ?_); refine rp2 21 (k := ?_); refine rp2 22 (k := ?_); refine rp2 23 (k := ?_); refine dd ?_; refine hJ13 _ _ ?_; refine hK12 _ _ ?_; refine cs (fun c35 => ?_) (fun c35 => ?_)
           · (try exact nope c35); all_goals have c35p := c35; try simp [F] at c35p
             all_goals
              replace F := aF c35 F; (try replace F := aF c35p F); refine sr fun _ hJ19 => ?_; refine hJ19 _ _ ?_; refine ra ?_
              have hn : ¬ Right l := right_no c8p (.inr (.inr ⟨j, rfl, c35p⟩))
              exact gcr
           (try exact nope c35); all_goals have c35p := c35; try simp [F] at c35p
           all_goals
            replace F := aF c35 F; (try replace F := aF c35p F); refine run_skip ?_; refine hK9 _ _ ?_; refine rg' (h := fun J20 hJ20 => ?_); refine hJ20 _ _ ?_; refine ⟨gk, (j + 1 + 1), ⟨kpG, lpG, ?_, lpG, lpG⟩, lpG⟩
            · exact right_next c8p (by omega) g4_9p c35p hR
        try exact nope g4_12
        all_goals
         replace F := wf F g4_12
         obtain rfl : k = 0 := by omega
         refine rp2 13 (k := ?_); refine rp2 14 (k := ?_); refine rp2 15 (k := ?_); refine rp2 16 (k := ?_); refine rp2 17 (k := ?_); refine rp2 18 (k := ?_); refine rp2 19 (k := ?_); refine rp2 20 (k := ?_); refine rp2 21 (k := ?_); refine rp2 22 (k := ?_); refine rp2 23 (k := ?_); refine dd ?_; refine hJ13 _ _ ?_; refine hK12 _ _ ?_; refine cf ?_; refine run_skip ?_; refine hK9 _ _ ?_; refine rg' (h := fun J21 hJ21 => ?_); refine hJ21 _ _ ?_; refine ⟨gk, (1), ⟨kpG, lpG, ?_, lpG, lpG⟩, lpG⟩
         · exact right_first c8p (by omega) g4_9p
   (try exact nope c8); all_goals have c8p := c8; try simp [F] at c8p
   all_goals
    replace F := aF c8 F; (try replace F := aF c8p F); refine run_exit ?_; refine hK3 _ _ ?_; refine sr fun _ hJ23 => ?_; refine hJ23 _ _ ?_; refine ra ?_
    have hn : Right l := by rw [List.take_of_length_le c8p] at hR; exact hR
    exact gcr

set_option maxHeartbeats 1600000 in
attribute [local simp] undefA List.getElem?_cons_zero List.getElem?_cons_succ in
theorem rright_ok {σ : St} {l : List Coin} {tl : Tail} (hl : l.length ≤ 9223372036854775807) : CallsA Try.prog 29 [.sl 5 (coinsC l) l.length tl] σ (fun av σ' => av = .v (.bool (decide (Right l))) ∧ σ = σ') := by
  have F := True.intro
  refine callsA_body Try.func29 rfl rfl rfl ?_; refine sr fun _ hJ2 => ?_; refine hJ2 _ _ ?_; refine sq fun K3 hK3 => ?_; refine sr fun _ hJ5 => ?_; refine hJ5 _ _ ?_; refine run_block_k ?_; refine run_loopF (X := Nat) [0] (fun i ρ σ1 => (i ≤ l.length) ∧ (Right (l.take i)) ∧ (ρ 3 = .v (.int .i64 i)) ∧ (σ1 = σ)) (fun i => l.length - i) (0) ?st1 ?rd1
  case st1 =>
   refine ⟨lp, ?_, lp, lp⟩
   · simpa using Go.Vm.right_nil
  case rd1 =>
   rintro i ρ1 σ1 hF1 ⟨hi, hR, h3, hs⟩; obtain rfl := hs.symm
   have f1 := keepL hF1
   (try simp [KeepL, F] at f1); replace F := aF h3 F; (try replace F := aF f1 F); refine sq fun K6 hK6 => ?_; refine sr fun _ hJ8 => ?_; refine hJ8 _ _ ?_; refine cs (fun c8 => ?_) (fun c8 => ?_)
   · (try exact nope c8); all_goals have c8p := c8; try simp [F] at c8p
     all_goals
      replace F := aF c8 F; (try replace F := aF c8p F); refine run_skip ?_; refine hK6 _ _ ?_; refine sq fun K9 hK9 => ?_; refine run_block_k ?_; refine sq fun K10 hK10 => ?_; refine sr fun _ hJ12 => ?_; refine gs 17 (fun g4_6 => ?_) (fun g4_6 => ?_)
      · try exact nope g4_6
        all_goals
         replace F := wf F g4_6; (iterate 6 refine no2 (k := ?_)); refine hJ12 _ _ ?_; refine ct ?_; refine sr fun _ hJ14 => ?_; refine hJ14 _ _ ?_; refine ra ?_
         have hn : ¬ Right l := right_no c8p (.inl (by omega))
         exact rt
      try exact nope g4_6
      all_goals
       replace F := wf F g4_6; (iterate 5 refine go2 (k := ?_)); refine cb (c := zero_ok) (k := ?_); refine hJ12 _ _ ?_; refine cs (fun c24 => ?_) (fun c24 => ?_)
       · (try exact nope c24); all_goals have c24p := c24; try simp [F] at c24p
         all_goals
          replace F := aF c24 F; (try replace F := aF c24p F); refine sr fun _ hJ16 => ?_; refine hJ16 _ _ ?_; refine ra ?_
          have hn : ¬ Right l := right_no c8p (.inr (.inl c24p))
          exact rt
       (try exact nope c24); all_goals have c24p := c24; try simp [F] at c24p
       all_goals
        replace F := aF c24 F; (try replace F := aF c24p F); refine run_skip ?_; refine hK10 _ _ ?_; refine sr fun _ hJ18 => ?_; refine hJ18 _ _ ?_; refine run_block_k ?_; refine run_loopF (X := Nat) [0, 3, 5, 6, 7, 8, 11, 12, 13, 14, 15, 16, 17, 18, 19, 20, 21, 22, 23, 24] (fun k ρ σ1 => (k ≤ i) ∧ (∀ b ∈ l.take k, b.d.toNat < l[i].d.toNat) ∧ (ρ 4 = .v (.int .i64 k)) ∧ (σ1 = σ)) (fun k => i - k) (0) ?st2 ?rd2
        case st2 =>
         refine ⟨lp, lp, lp, lp⟩
        case rd2 =>
         rintro k ρ2 σ1 hF2 ⟨hk, hB, h4, hs⟩; obtain rfl := hs.symm
         have f2 := keepL hF2
         (try simp [KeepL, F] at f2); replace F := aF h4 F; (try replace F := aF f2 F); refine sq fun K19 hK19 => ?_; refine sr fun _ hJ21 => ?_; refine hJ21 _ _ ?_; refine cs (fun c27 => ?_) (fun c27 => ?_)
         · (try exact nope c27); all_goals have c27p := c27; try simp [F] at c27p
           all_goals
            replace F := aF c27 F; (try replace F := aF c27p F); refine run_skip ?_; refine hK19 _ _ ?_; refine sq fun K22 hK22 => ?_; refine run_block_k ?_; refine sq fun K23 hK23 => ?_
            refine run_draw (by kernel_rfl) fun J24 hJ24 => ?_
            refine rp2 0 (k := ?_); refine rp2 1 (k := ?_); refine rp2 2 (k := ?_); refine rp2 3 (k := ?_); refine rp2 4 (k := ?_); refine rp2 5 (k := ?_); refine rp2 6 (k := ?_); refine rp2 7 (k := ?_); refine rp2 8 (k := ?_); refine rp2 9 (k := ?_); refine rp2 10 (k := ?_); refine dd ?_; refine hJ24 _ _ ?_; refine hK23 _ _ ?_; refine cs (fun c40 => ?_) (fun c40 => ?_)
            · (try exact nope c40); all_goals have c40p := c40; try simp [F] at c40p
              all_goals
               replace F := aF c40 F; (try replace F := aF c40p F); refine sr fun _ hJ26 => ?_; refine hJ26 _ _ ?_; refine ra ?_
               have hn : ¬ Right l := fun hr => by have := List.pairwise_iff_getElem.1 hr.2 k i (by omega) c8p c27p; omega
               exact rt
            (try exact nope c40); all_goals have c40p := c40; try simp [F] at c40p
            all_goals
             replace F := aF c40 F; (try replace F := aF c40p F); refine run_skip ?_; refine hK22 _ _ ?_; refine rg' (h := fun J27 hJ27 => ?_); refine hJ27 _ _ ?_; refine ⟨(k + 1), ⟨kp, lp, ?_, lp, lp⟩, lp⟩
             · rw [take_snoc (by omega : k < l.length)]
               intro b hb
               rcases List.mem_append.1 hb with h | h
               · exact hB b h
               · simp at h; subst h; exact c40p
         (try exact nope c27); all_goals have c27p := c27; try simp [F] at c27p
         all_goals
          replace F := aF c27 F; (try replace F := aF c27p F); refine run_exit ?_; refine hK9 _ _ ?_; refine rg' (h := fun J28 hJ28 => ?_); refine hJ28 _ _ ?_; refine ⟨(i + 1), ⟨kp, lp, ?_, lp, lp⟩, lp⟩
          · rw [take_snoc c8p, right_snoc]
            exact ⟨hR, ⟨by omega, c24p⟩, by rwa [show k = i by omega] at hB⟩
   (try exact nope c8); all_goals have c8p := c8; try simp [F] at c8p
   all_goals
    replace F := aF c8 F; (try replace F := aF c8p F); refine run_exit ?_; refine hK3 _ _ ?_; refine sr fun _ hJ30 => ?_; refine hJ30 _ _ ?_; refine ra ?_
    have hn : Right l := by rw [List.take_of_length_le c8p] at hR; exact hR
    exact rt

set_option maxHeartbeats 1600000 in
attribute [local simp] undefA List.getElem?_cons_zero List.getElem?_cons_succ in
theorem rsame_ok {σ : St} {l m : List Coin} {t1 t2 : Tail} (hl : l.length ≤ 9223372036854775807) (hm : m.length ≤ 9223372036854775807) : CallsA Try.prog 22 [.sl 5 (coinsC l) l.length t1, .sl 5 (coinsC m) m.length t2] σ (fun av σ' => av = .v (.bool (decide (l = m))) ∧ σ = σ') := by
  have F := True.intro
  refine callsA_body Try.func22 rfl rfl rfl ?_; refine sr fun _ hJ2 => ?_; refine hJ2 _ _ ?_; refine sq fun K3 hK3 => ?_; refine sr fun _ hJ5 => ?_; refine hJ5 _ _ ?_; refine cs (fun c10 => ?_) (fun c10 => ?_)
  · try exact nope c10
    all_goals
     replace F := wf F c10; refine sr fun _ hJ7 => ?_; refine hJ7 _ _ ?_; refine ra ?_
     have hn : ¬ l = m := by rintro rfl; omega
     exact rt
  try exact nope c10
  all_goals
   replace F := wf F c10; refine run_skip ?_; refine hK3 _ _ ?_; refine sq fun K8 hK8 => ?_; refine sr fun _ hJ10 => ?_; refine hJ10 _ _ ?_; refine run_block_k ?_; refine run_loopF (X := Nat) [0, 1] (fun i ρ σ1 => (i ≤ l.length) ∧ (l.take i = m.take i) ∧ (ρ 5 = .v (.int .i64 i)) ∧ (σ1 = σ)) (fun i => l.length - i) (0) ?st1 ?rd1
   case st1 =>
    refine ⟨lp, lp, lp, lp⟩
   case rd1 =>
    rintro i ρ1 σ1 hF1 ⟨hi, hE, h5, hs⟩; obtain rfl := hs.symm
    have f1 := keepL hF1
    (try simp [KeepL, F] at f1); replace F := aF h5 F; (try replace F := aF f1 F); refine sq fun K11 hK11 => ?_; refine sr fun _ hJ13 => ?_; refine hJ13 _ _ ?_; refine cs (fun c14 => ?_) (fun c14 => ?_)
    · try exact nope c14
      all_goals
       replace F := wf F c14; refine run_skip ?_; refine hK11 _ _ ?_; refine sq fun K14 hK14 => ?_; refine run_block_k ?_; refine sq fun K15 hK15 => ?_
       refine run_draw (by kernel_rfl) fun J16 hJ16 => ?_
       refine rp2 0 (k := ?_); refine rp2 1 (k := ?_); refine rp2 2 (k := ?_); refine rp2 3 (k := ?_); refine rp2 4 (k := ?_); refine rp2 5 (k := ?_); refine rp2 6 (k := ?_); refine rp2 7 (k := ?_); refine rp2 8 (k := ?_); refine dd ?_; refine hJ16 _ _ ?_; refine hK15 _ _ ?_; refine cs (fun c25 => ?_) (fun c25 => ?_)
       · (try exact nope c25); all_goals have c25p := c25; try simp [F] at c25p
         all_goals
          replace F := aF c25 F; (try replace F := aF c25p F); refine sr fun _ hJ18 => ?_; refine hJ18 _ _ ?_; refine ra ?_
          have hn : ¬ l = m := by rintro rfl; simp at c25p
          exact rt
       (try exact nope c25); all_goals have c25p := c25; try simp [F] at c25p
       all_goals
        replace F := aF c25 F; (try replace F := aF c25p F); refine run_skip ?_; refine hK14 _ _ ?_; refine rg' (h := fun J19 hJ19 => ?_); refine hJ19 _ _ ?_; refine ⟨(i + 1), ⟨kp, lp, ?_, lp, lp⟩, lp⟩
        · rw [take_snoc (by omega : i < l.length), take_snoc (by omega : i < m.length), hE, c25p]
    try exact nope c14
    all_goals
     replace F := wf F c14; refine run_exit ?_; refine hK8 _ _ ?_; refine sr fun _ hJ21 => ?_; refine hJ21 _ _ ?_; refine ra ?_
     have hn : l = m := by rw [← List.take_of_length_le (l := l) (i := i) (by omega), ← List.take_of_length_le (l := m) (i := i) (by omega), hE]
     exact rt

end Go.Proofs.Ytdbaddholggkbaa

/-
  Digits: lists of numbers below a base, the lowest first, and the numbers that they are.
-/
namespace Go.Vm
set_option linter.unnecessarySimpa false
set_option linter.unusedSimpArgs false
set_option linter.unusedVariables false
open Go

theorem set_appN {α : Type} (l r : List α) (n : Nat) (x : α) : (l ++ r).set (l.length + n) x = l ++ r.set n x := by
  rw [List.set_append_right _ _ (by omega), Nat.add_sub_cancel_left]
theorem get_appN {α : Type} (l r : List α) (n : Nat) : (l ++ r)[l.length + n]? = r[n]? := by
  rw [List.getElem?_append_right (by omega), Nat.add_sub_cancel_left]

def andI (k : IntKind) (a b : Int) : Int := k.wrap (BitVec.ofInt k.bits a &&& BitVec.ofInt k.bits b).toNat
def orI (k : IntKind) (a b : Int) : Int := k.wrap (BitVec.ofInt k.bits a ||| BitVec.ofInt k.bits b).toNat
def xorI (k : IntKind) (a b : Int) : Int := k.wrap (BitVec.ofInt k.bits a ^^^ BitVec.ofInt k.bits b).toNat
theorem binA_andI {P : Program} {t : TypeId} {xo yo : Operand} {k : IntKind} {a b : Int} : binA P .and t xo yo (.v (.int k a)) (.v (.int k b)) = some (.v (.int k (andI k a b))) := binA_and t xo yo k a b
theorem binA_orI {P : Program} {t : TypeId} {xo yo : Operand} {k : IntKind} {a b : Int} : binA P .or t xo yo (.v (.int k a)) (.v (.int k b)) = some (.v (.int k (orI k a b))) := binA_or t xo yo k a b
theorem binA_xorI {P : Program} {t : TypeId} {xo yo : Operand} {k : IntKind} {a b : Int} : binA P .xor t xo yo (.v (.int k a)) (.v (.int k b)) = some (.v (.int k (xorI k a b))) := binA_xor t xo yo k a b

theorem take_appN {α : Type} (l r : List α) (n : Nat) : (l ++ r).take (l.length + n) = l ++ r.take n := by
  rw [List.take_append, List.take_of_length_le (by omega), Nat.add_sub_cancel_left]

def valD (b : Nat) : List Nat → Nat
  | [] => 0
  | d :: l => d + b * valD b l

@[simp] theorem valD_nil (b : Nat) : valD b [] = 0 := rfl

theorem valD_append (b : Nat) : ∀ l m : List Nat, valD b (l ++ m) = valD b l + b ^ l.length * valD b m
  | [], m => by simp
  | d :: l, m => by
    simp only [List.cons_append, valD, valD_append b l m, List.length_cons, Nat.pow_succ, Nat.mul_add]
    rw [← Nat.add_assoc, ← Nat.mul_assoc, Nat.mul_comm b (b ^ l.length)]

theorem valD_snoc (b : Nat) (l : List Nat) (d : Nat) : valD b (l ++ [d]) = valD b l + b ^ l.length * d := by
  rw [valD_append]; simp [valD]

theorem valD_lt {b : Nat} : ∀ {l : List Nat}, (∀ d ∈ l, d < b) → valD b l < b ^ l.length
  | [], _ => by simp
  | d :: l, h => by
    have h1 : d < b := h d (by simp)
    have h2 := valD_lt (l := l) (fun x hx => h x (by simp [hx]))
    simp only [valD, List.length_cons, Nat.pow_succ]
    have h3 : b * (valD b l + 1) ≤ b * b ^ l.length := Nat.mul_le_mul_left _ h2
    rw [Nat.mul_add] at h3
    rw [Nat.mul_comm (b ^ l.length) b]
    omega

theorem valD_zero (b n : Nat) : valD b (List.replicate n 0) = 0 := by
  induction n with
  | zero => rfl
  | succ n ih => simp [List.replicate_succ, valD, ih]

def digs (b n x : Nat) : List Nat := (List.range n).map fun i => x / b ^ i % b

@[simp] theorem digs_len (b n x : Nat) : (digs b n x).length = n := by simp [digs]
theorem digs_get {b n x i : Nat} (h : i < n) : (digs b n x)[i]'(by simpa using h) = x / b ^ i % b := by simp [digs]
theorem digs_get? {b n x i : Nat} (h : i < n) : (digs b n x)[i]? = some (x / b ^ i % b) := by simp [digs, h]
theorem digs_lt {b n x : Nat} (hb : 0 < b) : ∀ d ∈ digs b n x, d < b := by
  intro d hd
  simp only [digs, List.mem_map, List.mem_range] at hd
  obtain ⟨i, _, rfl⟩ := hd
  exact Nat.mod_lt _ hb
theorem digs_snoc (b n x : Nat) : digs b (n + 1) x = digs b n x ++ [x / b ^ n % b] := by simp [digs, List.range_succ]
theorem valD_digs (b x : Nat) : ∀ n, valD b (digs b n x) = x % b ^ n
  | 0 => by simp [digs, Nat.mod_one]
  | n + 1 => by
    rw [digs_snoc, valD_snoc, valD_digs b x n, digs_len, Nat.mod_pow_succ]

theorem digs_valD {b : Nat} (hb : 0 < b) : ∀ {l : List Nat}, (∀ d ∈ l, d < b) → digs b l.length (valD b l) = l := by
  intro l h
  apply List.ext_getElem
  · simp
  · intro i h1 h2
    rw [digs_get (by simpa using h1)]
    have hl : i < l.length := h2
    have hi : l = l.take i ++ l[i] :: l.drop (i + 1) := by rw [List.getElem_cons_drop, List.take_append_drop]
    have h3 : valD b l = valD b (l.take i) + b ^ i * (l[i] + b * valD b (l.drop (i + 1))) := by
      conv => lhs; rw [hi, valD_append]
      simp [valD, Nat.min_eq_left (Nat.le_of_lt hl)]
    have h4 : valD b (l.take i) < b ^ i := by
      have := valD_lt (l := l.take i) (fun d hd => h d (List.mem_of_mem_take hd))
      simpa [Nat.min_eq_left (Nat.le_of_lt hl)] using this
    rw [h3, Nat.add_mul_div_left _ _ (Nat.pow_pos hb), Nat.div_eq_of_lt h4, Nat.zero_add, Nat.add_mul_mod_self_left, Nat.mod_eq_of_lt (h _ (List.getElem_mem hl))]

theorem digs_of {b n x : Nat} {l : List Nat} (hb : 0 < b) (h : ∀ d ∈ l, d < b) (hl : l.length = n) (hx : valD b l = x) : l = digs b n x := by
  subst hl; subst hx; exact (digs_valD hb h).symm

theorem valD_set {b : Nat} {l : List Nat} {i : Nat} (h : i < l.length) (d : Nat) : valD b (l.set i d) + b ^ i * l[i] = valD b l + b ^ i * d := by
  have hi : l = l.take i ++ l[i] :: l.drop (i + 1) := by rw [List.getElem_cons_drop, List.take_append_drop]
  have e1 : l.set i d = l.take i ++ d :: l.drop (i + 1) := List.set_eq_take_append_cons_drop.trans (if_pos h)
  have hlen : (l.take i).length = i := by simp [Nat.min_eq_left (Nat.le_of_lt h)]
  have h3 : valD b l = valD b (l.take i) + b ^ i * (l[i] + b * valD b (l.drop (i + 1))) := by
    conv => lhs; rw [hi, valD_append]
    rw [hlen]; rfl
  have h4 : valD b (l.set i d) = valD b (l.take i) + b ^ i * (d + b * valD b (l.drop (i + 1))) := by
    rw [e1, valD_append, hlen]; rfl
  rw [h3, h4]
  simp only [Nat.mul_add]
  omega

theorem mod_digit (b x i : Nat) : x % b ^ (i + 1) = x % b ^ i + b ^ i * (x / b ^ i % b) := Nat.mod_pow_succ

def u64s (l : List Nat) : List AV := l.map fun (n : Nat) => .v (.int .u64 (n : Int))
@[simp] theorem u64s_length (l : List Nat) : (u64s l).length = l.length := by simp [u64s]
theorem u64s_snoc (l : List Nat) (n : Nat) : u64s l ++ [.v (.int .u64 n)] = u64s (l ++ [n]) := by simp [u64s]
theorem u64s_set (l : List Nat) (i n : Nat) (h : i < l.length) : (u64s l).take i ++ .v (.int .u64 n) :: (u64s l).drop (i + 1) = u64s (l.set i n) := by
  rw [show l.set i n = l.take i ++ n :: l.drop (i + 1) from List.set_eq_take_append_cons_drop.trans (if_pos h)]
  simp [u64s]
theorem u64s_under (B : Bd) : ∀ l : List Nat, underL B (u64s l) = true
  | [] => rfl
  | n :: l => by show underL B (.v (.int .u64 n) :: u64s l) = true; simp [underL, AV.under, u64s_under B l]
theorem u64s_noObj (n : Nat) : ∀ l : List Nat, noObjL n (u64s l) = true
  | [] => rfl
  | x :: l => by show noObjL n (.v (.int .u64 x) :: u64s l) = true; simp [noObjL, AV.noObj, u64s_noObj n l]

theorem limb_dig (x j : Nat) : limb x j = x / 18446744073709551616 ^ j % 18446744073709551616 := by rw [limb, show (18446744073709551616 : Nat) = 2 ^ 64 from rfl, ← Nat.pow_mul]
theorem numA_digs (x : Nat) : numA x = u64s (digs 18446744073709551616 4 x) := by
  simp only [numA, u64s, digs, limb_dig]; rfl
theorem numA_len4 (x : Nat) : (numA x).length = 4 := rfl
theorem numA_take4 (x : Nat) : (numA x).take 4 = numA x := rfl
theorem numA_drop4 (x : Nat) : (numA x).drop 4 = [] := rfl
theorem numA_zero4 : numA 0 = [.v (.int .u64 0), .v (.int .u64 0), .v (.int .u64 0), .v (.int .u64 0)] := rfl
end Go.Vm

/-
  Digits of sums and differences; what is carried.
-/
namespace Go.Vm
set_option linter.unnecessarySimpa false
set_option linter.unusedSimpArgs false
set_option linter.unusedVariables false
set_option exponentiation.threshold 600
open Go

def addc (b x y i : Nat) : Nat := (x % b ^ i + y % b ^ i) / b ^ i

theorem addc_zero (b x y : Nat) : addc b x y 0 = 0 := by simp [addc, Nat.mod_one]
theorem addc_le {b x y i : Nat} (hb : 0 < b) : addc b x y i ≤ 1 := by
  have hB : 0 < b ^ i := Nat.pow_pos hb
  have h1 := Nat.mod_lt x hB
  have h2 := Nat.mod_lt y hB
  unfold addc
  rw [← Nat.lt_succ_iff, Nat.div_lt_iff_lt_mul hB]
  omega

theorem add_div' {B q1 q2 r1 r2 : Nat} (hB : 0 < B) : (B * q1 + r1 + (B * q2 + r2)) / B = q1 + q2 + (r1 + r2) / B := by
  rw [show B * q1 + r1 + (B * q2 + r2) = r1 + r2 + B * (q1 + q2) by rw [Nat.mul_add]; omega, Nat.add_mul_div_left _ _ hB]
  omega

theorem add_div_c {b x y i : Nat} (hb : 0 < b) : (x + y) / b ^ i = x / b ^ i + y / b ^ i + addc b x y i := by
  have hB : 0 < b ^ i := Nat.pow_pos hb
  conv => lhs; rw [← Nat.div_add_mod x (b ^ i), ← Nat.div_add_mod y (b ^ i)]
  exact add_div' hB

theorem addc_dig {b x y i : Nat} (hb : 0 < b) : (x / b ^ i % b + y / b ^ i % b + addc b x y i) % b = (x + y) / b ^ i % b := by
  rw [add_div_c hb]
  simp [Nat.add_mod, Nat.mod_mod]

theorem addc_next {b x y i : Nat} (hb : 0 < b) : (x / b ^ i % b + y / b ^ i % b + addc b x y i) / b = addc b x y (i + 1) := by
  have hB : 0 < b ^ i := Nat.pow_pos hb
  unfold addc
  rw [mod_digit b x i, mod_digit b y i, Nat.pow_succ, ← Nat.div_div_eq_div_mul]
  congr 1
  rw [show x % b ^ i + b ^ i * (x / b ^ i % b) + (y % b ^ i + b ^ i * (y / b ^ i % b)) = b ^ i * (x / b ^ i % b) + x % b ^ i + (b ^ i * (y / b ^ i % b) + y % b ^ i) by omega, add_div' hB]

theorem addc_last {b x y n : Nat} (hx : x < b ^ n) (hy : y < b ^ n) : addc b x y n = (x + y) / b ^ n := by
  unfold addc; rw [Nat.mod_eq_of_lt hx, Nat.mod_eq_of_lt hy]

def mix (b n i s x : Nat) : List Nat := digs b i s ++ (digs b n x).drop i
theorem mix_zero (b n s x : Nat) : mix b n 0 s x = digs b n x := by simp [mix, digs]
theorem mix_all (b n s x : Nat) : mix b n n s x = digs b n s := by simp [mix]
theorem mix_len {b n i s x : Nat} (h : i ≤ n) : (mix b n i s x).length = n := by simp [mix]; omega
theorem mix_get {b n i s x : Nat} (h : i < n) : (mix b n i s x)[i]? = some (x / b ^ i % b) := by
  unfold mix
  rw [List.getElem?_append_right (by simp)]
  simp [digs_get h, h]
theorem mix_set {b n i s x : Nat} (h : i < n) : (mix b n i s x).set i (s / b ^ i % b) = mix b n (i + 1) s x := by
  unfold mix
  rw [List.set_append_right _ _ (by simp), digs_snoc]
  have e : (digs b n x).drop i = (digs b n x)[i]'(by simpa using h) :: (digs b n x).drop (i + 1) := List.drop_eq_getElem_cons (by simpa using h)
  simp only [digs_len, Nat.sub_self]
  rw [e, List.set_cons_zero]
  simp

theorem mixU_get {b n i s x : Nat} (h : i < n) : (u64s (mix b n i s x))[i]? = some (.v (.int .u64 (x / b ^ i % b : Nat))) := by
  simp [u64s, mix_get h]
theorem digU_get {b n i x : Nat} (h : i < n) : (u64s (digs b n x))[i]? = some (.v (.int .u64 (x / b ^ i % b : Nat))) := by
  simp [u64s, digs_get? h]
theorem mixU_set {b n i s x : Nat} (h : i < n) : (u64s (mix b n i s x)).take i ++ .v (.int .u64 (s / b ^ i % b : Nat)) :: (u64s (mix b n i s x)).drop (i + 1) = u64s (mix b n (i + 1) s x) := by
  rw [u64s_set _ _ _ (by rw [mix_len (by omega)]; exact h), mix_set h]

theorem fdiv_nat (n m : Nat) : (n : Int).fdiv (m : Int) = ((n / m : Nat) : Int) := by
  rw [Int.fdiv_eq_ediv_of_nonneg _ (by omega)]; rfl
theorem wrapN {n : Nat} (h : n < 18446744073709551616) : IntKind.u64.wrap (n : Int) = (n : Int) := wrap_u64c ⟨by omega, by omega⟩
theorem pow2_cast (r : Nat) : ((2 : Int) ^ r) = ((2 ^ r : Nat) : Int) := by push_cast; rfl
end Go.Vm
