import Derived.Test.YtmponlabfccjaaaZ8
import Derived.Test.YtmponlabfccjaaaZ7
import Derived.Test.YtmponlabfccjaaaZ9
import Derived.RangeFuncKeeps
import Derived.RangeFuncLeaves
import Derived.Shelf.Abstract
import Derived.WalkKit
import Derived.OwnWalkIn
import Derived.TacticsInMore
import Derived.LoopNIn
import Derived.LoopIn
/-
  The library's iterator over a slice, the last one first.
-/
namespace Go.Proofs.Ytmponlabfccjaaa
set_option linter.unnecessarySimpa false
set_option maxRecDepth 100000
open Go Go.Vm Go.RowKit Go.Shelf
attribute [local go_sem] Oper.semAt_some

def left : Value → Nat
  | .int _ n => (n + 1).toNat
  | _ => 0

set_option maxRecDepth 100000 in
set_option maxHeartbeats 2000000 in
theorem back62_in (n : Nat) (hn : 1 ≤ n) (l Bn Bo m c : Nat) (ad : Option Addr) (xs : List Value) (Good : Nat → Nat → Prop) (J Jx : List (Fin m) → World → Prop) (hm : m < 4611686018427387904) (hl : xs.length = m)
    (hx : ∀ (j : Nat) x, xs[j]? = some x → ∃ b o, ad = some ⟨b, o, none⟩ ∧ Good b (o + j))
    (hY : ∀ pre (i : Fin m) W, J pre W → pre.length < m → YieldAt Fence.wide (n - 1) Try.prog l #[.int .i64 i.val, xs[i.val]'(by omega)] W fun e W' =>
      (e = .returned (.bool true) ∧ J (pre ++ [i]) W' ∧ KeepsAt Good W W') ∨ (e = .returned (.bool false) ∧ Jx (pre ++ [i]) W'))
    (W : World) (hc : W.cell? ⟨Bn, Bo, none⟩ = some (.slice ad m c)) (hB : Good Bn Bo) (hxc : ∀ (j : Nat) x, xs[j]? = some x → ∀ b o, ad = some ⟨b, o, none⟩ → W.cell? ⟨b, o + j, none⟩ = some x) (h0 : J [] W) :
    CallsIn Fence.wide n Try.prog 125 #[.func (.yield l) #[] #[], .pointer (some ⟨Bn, Bo, none⟩)] W fun e W' => (∃ v, e = .returned v) ∧
      ((∃ ys : List (Fin m), ys.map Fin.val = (List.range m).reverse ∧ J ys W') ∨ (∃ pre : List (Fin m), pre.map Fin.val <+: (List.range m).reverse ∧ Jx pre W')) := by
  have hw1 : ∀ k : Nat, k ≤ m → IntKind.i64.wrap ((k : Int) - 1) = (k : Int) - 1 := fun k hk => wrap_i64 _ (by omega) (by omega)
  refine callsIn_of_wp Try.func125 rfl trivial ?_ rfl; simp only [Try.ntmps125, List.size_toArray, List.length_cons, List.length_nil, Nat.reduceAdd, Nat.reduceSub, Array.replicate_succ, Array.replicate_zero, List.push_toArray, List.append_toArray, List.nil_append, List.cons_append]
  gi_wp2
  gi_loopw [3] (fun v wr => ∃ (k : Nat) (pre : List (Fin m)), k ≤ m ∧ v = .int .i64 ((k : Int) - 1) ∧ pre.map Fin.val = (List.range m).reverse.take (m - k) ∧ J pre wr ∧ wr.cell? ⟨Bn, Bo, none⟩ = some (.slice ad m c) ∧ (∀ (j : Nat) x, xs[j]? = some x → ∀ b o, ad = some ⟨b, o, none⟩ → wr.cell? ⟨b, o + j, none⟩ = some x))
    (fun v wr => left v)
  case atStart =>
    exact ⟨m, [], Nat.le_refl _, rfl, by simp, h0, hc, hxc⟩
  case round =>
    obtain ⟨k, pre, hk, rfl, hp, hJ, hc', hxc'⟩ := hrel
    cases k with
    | zero =>
      have e : ((0 : Nat) : Int) - 1 = -1 := by omega
      rw [e]
      gi_wp2
      go_end0
      exact ⟨⟨_, rfl⟩, .inl ⟨pre, by rw [hp]; exact List.take_of_length_le (by simp), hJ⟩⟩
    | succ k =>
      have hkl : k < xs.length := by omega
      have hxk : xs[k]? = some xs[k] := List.getElem?_eq_getElem hkl
      obtain ⟨b, o, rfl, hgood⟩ := hx k _ hxk
      have hcell := hxc' k _ hxk b o rfl
      have hlen : pre.length = m - (k + 1) := by
        have := congrArg List.length hp
        simpa using this
      obtain ⟨fn, tmps, assign, body, hy, hR⟩ := hY pre ⟨k, by omega⟩ wr hJ (by omega)
      have e : ((k + 1 : Nat) : Int) - 1 = (k : Int) := by omega
      rw [e]
      have hk0 : ¬ (k : Int) < 0 := by omega
      have hkm : (k : Int) < m := by omega
      gi_wp2
      refine hR.mono ?_
      have hsnoc : (pre ++ [(⟨k, by omega⟩ : Fin m)]).map Fin.val = (List.range m).reverse.take (m - k) := by
        have hlt : m - (k + 1) < ((List.range m).reverse).length := by simp; omega
        have e1 : m - k = m - (k + 1) + 1 := by omega
        rw [e1, List.take_succ_eq_append_getElem hlt, List.map_append, hp]
        congr 1
        simp
        omega
      rintro e3 W3 (⟨rfl, hJ3, hk3⟩ | ⟨rfl, hJx3⟩)
      · have hc3 : W3.cell? ⟨Bn, Bo, none⟩ = some (.slice (some ⟨b, o, none⟩) m c) := hk3 _ _ _ hB hc'
        have hx3 : ∀ (j : Nat) x, xs[j]? = some x → ∀ b' o', some (⟨b, o, none⟩ : Addr) = some ⟨b', o', none⟩ → W3.cell? ⟨b', o' + j, none⟩ = some x := by
          intro j x hj b' o' hb'
          cases hb'
          obtain ⟨b2, o2, h2, h3⟩ := hx j x hj
          cases h2
          exact hk3 _ _ _ h3 (hxc' j x hj _ _ rfl)
        gi_wp2
        go_roundw
        case rel => exact ⟨k, pre ++ [⟨k, by omega⟩], by omega, rfl, hsnoc, hJ3, hc3, hx3⟩
        case measure => simp [left]
      · gi_wp2
        refine bodyPost_ret (results_none rfl _ _ _) rfl ?_; exact ⟨⟨_, rfl⟩, .inr ⟨pre ++ [⟨k, by omega⟩], by rw [hsnoc]; exact List.take_prefix _ _, hJx3⟩⟩

theorem backs62 : Backs Try.prog 125 (fun m => m < 4611686018427387904) := by
  intro n w Bn Bo m c ad xs Good hn hm hc hB hl hx l J Jx W hW _ _ hY h0
  have hin : ∀ {b o : Nat} {x : Value}, w.cell? ⟨b, o, none⟩ = some x → W.cell? ⟨b, o, none⟩ = some x := by
    intro b o x h
    obtain ⟨cs, e, fr, hb, _⟩ := cell_heap h
    have := hW.block b (Array.getElem?_eq_some_iff.1 hb).1
    obtain ⟨cs', e', fr', hb', hx'⟩ := cell_heap h
    rw [heap_cell (this.trans hb'), hx']
  exact back62_in n hn l Bn Bo m c ad xs Good J Jx hm hl (fun j x hj => let ⟨b, o, h1, h2, _⟩ := hx j x hj; ⟨b, o, h1, h2⟩) hY W (hin hc) hB (fun j x hj b o hb => by
    obtain ⟨b2, o2, h1, h2, h3⟩ := hx j x hj
    rw [h1] at hb; cases hb
    exact hin h3) h0

end Go.Proofs.Ytmponlabfccjaaa

/-
  Numbers' bytes, read.
-/
namespace Go.Proofs.Ytmponlabfccjaaa
set_option linter.unnecessarySimpa false
set_option maxRecDepth 100000
open Go Go.Vm
set_option linter.unusedSimpArgs false
set_option linter.unusedVariables false
attribute [local simp] evalL wantedA isCall opA evalA evalAll evalsA evalOpt ofValue ofCell plain binA_eql_pn binA_neq_pn binA_gtr binA_lss binA_geq binA_leq binA_add binA_sub binA_eql binA_neq binA_or binA_shl binA_mul binA_quo binA_rem convA_int unA_not fieldAddrA loadA partA pickA lenA builtinA storeA splice AV.cells AV.isCell sliceA boundA intA callOf indexAddrA newObjA buildA fillA zeroA ofCells

theorem backward_raw {σ : St} {sz m : Nat} {cs : List AV} {t : Tail} :
    CallsA Try.prog 112 [.sl sz cs m t] σ (fun av σ' => av = .fn 125 [.ptr σ.objs.length 0] ∧ σ' = { σ with objs := σ.objs ++ [[.sl sz cs m t]] }) := by
  refine callsA_body Try.func112 rfl rfl rfl ?_; refine run_seq_k fun K1 hK1 => ?_; refine run_region_k rfl fun J2 hJ2 => ?_; (try simp); refine hJ2 _ _ ?_; refine hK1 _ _ ?_; refine run_seq_k fun K3 hK3 => ?_; refine run_region_k rfl fun J4 hJ4 => ?_; (try simp); refine hJ4 _ _ ?_; refine hK3 _ _ ?_; refine ra ?_; simp

theorem backward_ok {σ : St} {sz m : Nat} {cs : List AV} {t : Tail} :
    CallsA Try.prog 112 [.sl sz cs m t] σ (fun av σ' => av = .fn 125 [.ep [.sl sz cs m t]] ∧ σ = σ') :=
  callsA_freeze backward_raw (by simp) rfl

def numOk (p : List UInt8) : Bool := decide (p.length ≤ 32) && (p.headD 1 != 0)
def numOf (p : List UInt8) : Nat := if numOk p then be p else 0

theorem read_long {σ : St} {p : List UInt8} (h : 32 < p.length) :
    CallsA Try.prog 86 [.sl 1 (bytesA p) p.length .shut] σ (fun av σ' => av = .tup [.agg (numA 0), .v (.int .i64 4)] ∧ σ' = { σ with objs := σ.objs ++ [[.sl 1 (bytesA p) p.length .shut], numA 0] }) := by
  have h' : ¬ (p.length : Int) ≤ 32 := by omega
  have h2 : (32 : Int) < p.length := by omega
  refine callsA_body Try.func86 rfl rfl rfl ?_; refine run_seq_k fun K1 hK1 => ?_; refine run_region_k rfl fun J2 hJ2 => ?_; (try simp [h', h2]); refine hJ2 _ _ ?_; refine hK1 _ _ ?_; refine run_seq_k fun K3 hK3 => ?_; refine run_seq_k fun K4 hK4 => ?_; refine run_region_k rfl fun J5 hJ5 => ?_; try simp [h', h2]
  refine runL_no (by first | rfl | (simp [h', h2, wantedA]; done)) rfl ?_
  try simp [h', h2]
  refine runL_no (by first | rfl | (simp [h', h2, wantedA]; done)) rfl ?_
  try simp [h', h2]
  refine runL_no (by first | rfl | (simp [h', h2, wantedA]; done)) rfl ?_
  try simp [h', h2]
  refine runL_no (by first | rfl | (simp [h', h2, wantedA]; done)) rfl ?_
  try simp [h', h2]
  refine runL_no (by first | rfl | (simp [h', h2, wantedA]; done)) rfl ?_
  try simp [h', h2]
  refine runL_no (by first | rfl | (simp [h', h2, wantedA]; done)) rfl ?_
  try simp [h', h2]
  refine runL_no (by first | rfl | (simp [h', h2, wantedA]; done)) rfl ?_
  try simp [h', h2]
  refine runL_no (by first | rfl | (simp [h', h2, wantedA]; done)) rfl ?_
  try simp [h', h2]
  refine runL_no (by first | rfl | (simp [h', h2, wantedA]; done)) rfl ?_
  (try simp [h', h2]); refine hJ5 _ _ ?_; refine hK4 _ _ ?_
  refine run_cond_true (by first | rfl | (simp [h', h2, evalA]; done)) ?_
  refine run_seq_k fun K6 hK6 => ?_; refine run_region_k rfl fun J7 hJ7 => ?_; (try simp [h', h2]); refine hJ7 _ _ ?_; refine hK6 _ _ ?_; refine run_ret ?_; (try simp only [Then, InBlock, NoGoto]); refine answer_cell_tmp rfl (.inr rfl) ?_; simp [numA_zero]

theorem read_zero {σ : St} {p : List UInt8} (h : p.length ≤ 32) (hp : 0 < p.length) (h0 : p[0] = 0) :
    CallsA Try.prog 86 [.sl 1 (bytesA p) p.length .shut] σ (fun av σ' => av = .tup [.agg (numA 0), .v (.int .i64 4)] ∧ σ' = { σ with objs := σ.objs ++ [[.sl 1 (bytesA p) p.length .shut], numA 0] }) := by
  have h1 : (p.length : Int) ≤ 32 := by omega
  have h2 : ¬ (32 : Int) < p.length := by omega
  have h3 : (0 : Int) < p.length := by omega
  have h4 : p ≠ [] := by intro e; simp [e] at hp
  refine callsA_body Try.func86 rfl rfl rfl ?_; refine run_seq_k fun K1 hK1 => ?_; refine run_region_k rfl fun J2 hJ2 => ?_; (try simp [h1, h2, h3, h0, hp, h4]); refine hJ2 _ _ ?_; refine hK1 _ _ ?_; refine run_seq_k fun K3 hK3 => ?_; refine run_seq_k fun K4 hK4 => ?_; refine run_region_k rfl fun J5 hJ5 => ?_; try simp [h1, h2, h3, h0, hp, h4]
  refine runL_go (by first | rfl | (simp [h1, h2, h3, h0, hp, h4, wantedA]; done)) rfl ?_
  try simp [h1, h2, h3, h0, hp, h4]
  refine runL_go (by first | rfl | (simp [h1, h2, h3, h0, hp, h4, wantedA]; done)) rfl ?_
  try simp [h1, h2, h3, h0, hp, h4]
  refine runL_go (by first | rfl | (simp [h1, h2, h3, h0, hp, h4, wantedA]; done)) rfl ?_
  try simp [h1, h2, h3, h0, hp, h4]
  refine runL_go (by first | rfl | (simp [h1, h2, h3, h0, hp, h4, wantedA]; done)) rfl ?_
  try simp [h1, h2, h3, h0, hp, h4]
  refine runL_go (by first | rfl | (simp [h1, h2, h3, h0, hp, h4, wantedA]; done)) rfl ?_
  try simp [h1, h2, h3, h0, hp, h4]
  refine runL_go (by first | rfl | (simp [h1, h2, h3, h0, hp, h4, wantedA]; done)) rfl ?_
  try simp [h1, h2, h3, h0, hp, h4]
  refine runL_go (by first | rfl | (simp [h1, h2, h3, h0, hp, h4, wantedA]; done)) rfl ?_
  try simp [h1, h2, h3, h0, hp, h4]
  refine runL_go (by first | rfl | (simp [h1, h2, h3, h0, hp, h4, wantedA]; done)) rfl ?_
  try simp [h1, h2, h3, h0, hp, h4]
  refine runL_go (by first | rfl | (simp [h1, h2, h3, h0, hp, h4, wantedA]; done)) rfl ?_
  (try simp [h1, h2, h3, h0, hp, h4]); refine hJ5 _ _ ?_; refine hK4 _ _ ?_
  refine run_cond_true (by first | rfl | (simp [h1, h2, h3, h0, hp, h4, evalA]; done)) ?_
  refine run_seq_k fun K6 hK6 => ?_; refine run_region_k rfl fun J7 hJ7 => ?_; (try simp [h1, h2, h3, h0, hp, h4]); refine hJ7 _ _ ?_; refine hK6 _ _ ?_; refine run_ret ?_; (try simp only [Then, InBlock, NoGoto]); refine answer_cell_tmp rfl (.inr rfl) ?_; simp [numA_zero]

theorem read_nil {σ : St} :
    CallsA Try.prog 86 [.sl 1 [] 0 .shut] σ (fun av σ' => av = .tup [.agg (numA 0), .v (.int .i64 0)] ∧ σ' = { σ with objs := σ.objs ++ [[.sl 1 [] 0 .shut], numA 0, numA 0] }) := by
  refine callsA_body Try.func86 rfl rfl rfl ?_; refine run_seq_k fun K1 hK1 => ?_; refine run_region_k rfl fun J2 hJ2 => ?_; (try simp); refine hJ2 _ _ ?_; refine hK1 _ _ ?_; refine run_seq_k fun K3 hK3 => ?_; refine run_seq_k fun K4 hK4 => ?_; refine run_region_k rfl fun J5 hJ5 => ?_; try simp
  refine runL_go (by first | rfl | (simp [wantedA]; done)) rfl ?_
  try simp
  refine runL_go (by first | rfl | (simp [wantedA]; done)) rfl ?_
  try simp
  refine runL_go (by first | rfl | (simp [wantedA]; done)) rfl ?_
  try simp
  refine runL_go (by first | rfl | (simp [wantedA]; done)) rfl ?_
  try simp
  refine runL_no (by first | rfl | (simp [wantedA]; done)) rfl ?_
  try simp
  refine runL_no (by first | rfl | (simp [wantedA]; done)) rfl ?_
  try simp
  refine runL_no (by first | rfl | (simp [wantedA]; done)) rfl ?_
  try simp
  refine runL_no (by first | rfl | (simp [wantedA]; done)) rfl ?_
  try simp
  refine runL_go (by first | rfl | (simp [wantedA]; done)) rfl ?_
  (try simp); refine hJ5 _ _ ?_; refine hK4 _ _ ?_
  refine run_cond_false (by first | rfl | (simp [evalA]; done)) ?_
  refine run_skip ?_; refine hK3 _ _ ?_; refine run_seq_k fun K6 hK6 => ?_; refine run_region_k rfl fun J7 hJ7 => ?_; (try simp); refine hJ7 _ _ ?_; refine hK6 _ _ ?_; refine run_seq_k fun K8 hK8 => ?_; refine run_seq_k fun K9 hK9 => ?_; refine run_region_k rfl fun J10 hJ10 => ?_; try simp
  refine runL_call' (b := true) (by first | rfl | (simp [wantedA]; done)) rfl rfl (by first | rfl | (simp [callOf]; done)) (by simp) (backward_ok) ?_
  rintro _ _ ⟨rfl, rfl⟩; (try simp); refine hJ10 _ _ ?_; refine hK9 _ _ ?_; refine run_block_k ?_
  refine run_backward backs62 ?rm1 (by first | rfl | (simp; done)) rfl rfl rfl rfl rfl rfl rfl rfl (by first | rfl | (simp; done)) (fun pre σ1 => σ1 = { σ with objs := σ.objs ++ [[.sl 1 [] 0 .shut], numA 0, numA 0] }) (fun _ _ _ => False) ?rs1 ?rr1 ?rd1 ?rx1
  case rm1 =>
    show _ < _
    omega
  case rs1 =>
    simp [numA_zero]
  case rr1 =>
    exact fun _ _ _ _ _ hi => absurd hi (Nat.not_lt_zero _)
  case rd1 =>
    rintro σ1 rfl; refine hK8 _ _ ?_; refine run_seq_k fun K11 hK11 => ?_; refine run_region_k rfl fun J12 hJ12 => ?_; (try simp); refine hJ12 _ _ ?_; refine hK11 _ _ ?_; refine run_ret ?_; (try simp only [Then, InBlock, NoGoto]); refine answer_cell_tmp rfl (.inr rfl) ?_; simp [numA]
  case rx1 =>
    exact fun _ _ _ _ h => h.elim

theorem read_ok {σ : St} {p : List UInt8} (h : p.length ≤ 32) (hp : 0 < p.length) (h0 : ¬ p[0] = 0) :
    CallsA Try.prog 86 [.sl 1 (bytesA p) p.length .shut] σ (fun av σ' => av = .tup [.agg (numA (be p)), .v (.int .i64 0)] ∧ σ' = { σ with objs := σ.objs ++ [[.sl 1 (bytesA p) p.length .shut], numA (be p), numA (be p)] }) := by
  have h1 : (p.length : Int) ≤ 32 := by omega
  have h2 : ¬ (32 : Int) < p.length := by omega
  have h3 : (0 : Int) < p.length := by omega
  have h5 : p ≠ [] := by intro e; simp [e] at hp
  have h6 : ¬ p[0].toNat = 0 := fun e => h0 (UInt8.toNat_inj.1 (by simpa using e))
  have h4 := orAll_all p
  refine callsA_body Try.func86 rfl rfl rfl ?_; refine run_seq_k fun K1 hK1 => ?_; refine run_region_k rfl fun J2 hJ2 => ?_; (try simp [h1, h2, h3, hp, h5, h6]); refine hJ2 _ _ ?_; refine hK1 _ _ ?_; refine run_seq_k fun K3 hK3 => ?_; refine run_seq_k fun K4 hK4 => ?_; refine run_region_k rfl fun J5 hJ5 => ?_; try simp [h1, h2, h3, hp, h5, h6]
  refine runL_go (by first | rfl | (simp [h1, h2, h3, hp, h5, h6, wantedA]; done)) rfl ?_
  try simp [h1, h2, h3, hp, h5, h6]
  refine runL_go (by first | rfl | (simp [h1, h2, h3, hp, h5, h6, wantedA]; done)) rfl ?_
  try simp [h1, h2, h3, hp, h5, h6]
  refine runL_go (by first | rfl | (simp [h1, h2, h3, hp, h5, h6, wantedA]; done)) rfl ?_
  try simp [h1, h2, h3, hp, h5, h6]
  refine runL_go (by first | rfl | (simp [h1, h2, h3, hp, h5, h6, wantedA]; done)) rfl ?_
  try simp [h1, h2, h3, hp, h5, h6]
  refine runL_go (by first | rfl | (simp [h1, h2, h3, hp, h5, h6, wantedA]; done)) rfl ?_
  try simp [h1, h2, h3, hp, h5, h6]
  refine runL_go (by first | rfl | (simp [h1, h2, h3, hp, h5, h6, wantedA]; done)) rfl ?_
  try simp [h1, h2, h3, hp, h5, h6]
  refine runL_go (by first | rfl | (simp [h1, h2, h3, hp, h5, h6, wantedA]; done)) rfl ?_
  try simp [h1, h2, h3, hp, h5, h6]
  refine runL_go (by first | rfl | (simp [h1, h2, h3, hp, h5, h6, wantedA]; done)) rfl ?_
  try simp [h1, h2, h3, hp, h5, h6]
  refine runL_go (by first | rfl | (simp [h1, h2, h3, hp, h5, h6, wantedA]; done)) rfl ?_
  (try simp [h1, h2, h3, hp, h5, h6]); refine hJ5 _ _ ?_; refine hK4 _ _ ?_
  refine run_cond_false (by first | rfl | (simp [h1, h2, h3, hp, h5, h6, evalA]; done)) ?_
  refine run_skip ?_; refine hK3 _ _ ?_; refine run_seq_k fun K6 hK6 => ?_; refine run_region_k rfl fun J7 hJ7 => ?_; (try simp [h1, h2, h3, hp, h5, h6]); refine hJ7 _ _ ?_; refine hK6 _ _ ?_; refine run_seq_k fun K8 hK8 => ?_; refine run_seq_k fun K9 hK9 => ?_; refine run_region_k rfl fun J10 hJ10 => ?_; try simp [h1, h2, h3, hp, h5, h6]
  refine runL_call' (b := true) (by first | rfl | (simp [h1, h2, h3, hp, h5, h6, wantedA]; done)) rfl rfl (by first | rfl | (simp [h1, h2, h3, hp, h5, h6, callOf]; done)) (by simp) (backward_ok) ?_
  rintro _ _ ⟨rfl, rfl⟩; (try simp [h1, h2, h3, hp, h5, h6]); refine hJ10 _ _ ?_; refine hK9 _ _ ?_; refine run_block_k ?_
  refine run_backward backs62 ?rm1 (by first | rfl | (simp; done)) rfl rfl rfl rfl rfl rfl rfl rfl (by first | rfl | (simp [h1, h2, h3, hp, h5, h6]; done)) (fun pre σ1 => σ1 = { σ with objs := σ.objs ++ [[.sl 1 (bytesA p) p.length .shut], numA 0, numA (orAll p pre)] }) (fun _ _ _ => False) ?rs1 ?rr1 ?rd1 ?rx1
  case rm1 =>
    show _ < _
    omega
  case rs1 =>
    simp [orAll_nil, numA_zero]
  case rr1 =>
    rintro z pre i x σ1 hi hx rfl
    rw [bytesA_get hi] at hx
    cases hx
    obtain ⟨k, hk⟩ : ∃ k, k = p.length - 1 - i := ⟨_, rfl⟩
    have hk2 : k < 32 := by omega
    have hw : IntKind.i64.wrap (IntKind.i64.wrap ((p.length : Int) - 1) - i) = (k : Int) := by rw [wrap_i64 ((p.length : Int) - 1) (by omega) (by omega), wrap_i64 _ (by omega) (by omega)]; omega
    obtain ⟨q, hq⟩ : ∃ q, q = k / 8 := ⟨_, rfl⟩
    obtain ⟨r, hr⟩ : ∃ r, r = k % 8 := ⟨_, rfl⟩
    have hqr : 8 * q + r = k := by omega
    have hq4 : q < 4 := by omega
    have hr8 : r < 8 := by omega
    have hb := p[i].toNat_lt
    have hqq : IntKind.i64.wrap ((k : Int).tdiv 8) = (q : Int) := by rw [Int.tdiv_eq_ediv_of_nonneg (by omega), wrap_i64 _ (by omega) (by omega)]; omega
    have hrr : (k : Int).tmod 8 = (r : Int) := by rw [Int.tmod_eq_emod_of_nonneg (by omega)]; omega
    have hm8 : IntKind.i64.wrap (8 * (r : Int)) = 8 * (r : Int) := wrap_i64 _ (by omega) (by omega)
    have hq2 : IntKind.i64.wrap ((k : Int) / 8) = (q : Int) := by rw [wrap_i64 _ (by omega) (by omega)]; omega
    have hr2 : (k : Int) % 8 = (r : Int) := by omega
    have hnn : ¬ 8 * (r : Int) < 0 := by omega
    obtain ⟨s, hs⟩ : ∃ s, s = p[i].toNat <<< (8 * r) := ⟨_, rfl⟩
    have hs64 : s < 18446744073709551616 := by rw [hs]; exact shl_byte hb hr8
    have hsh : IntKind.u64.wrap ((p[i].toNat : Int) * 2 ^ (min (8 * (r : Int)).toNat 64)) = (s : Int) := by rw [show min (8 * (r : Int)).toNat 64 = 8 * r by omega]; rw [show ((p[i].toNat : Int) * 2 ^ (8 * r)) = ((p[i].toNat * 2 ^ (8 * r) : Nat) : Int) by simp, wrap_u64, ← Nat.shiftLeft_eq, ← hs, Nat.mod_eq_of_lt hs64]
    obtain ⟨t, ht⟩ : ∃ t, t = limb (orAll p pre) q ||| s := ⟨_, rfl⟩
    have hor := or_u64 (limb_lt (orAll p pre) q) hs64
    rw [← ht] at hor
    have hput := numA_put (x := orAll p pre) hb hq4 hr8 hqr
    rw [← hs, ← ht] at hput
    have hsn := orAll_snoc p pre i
    rw [← hk, show (p.getD i 0) = p[i] by simp [List.getD, hi]] at hsn
    have hget := numA_get (orAll p pre) hq4
    have hq5 : (q : Int) < 4 := by omega
    have hq6 : q + 1 ≤ 4 := hq4
    refine run_block_k ?_; refine run_seq_k fun K11 hK11 => ?_; refine run_region_k rfl fun J12 hJ12 => ?_; (try simp [h1, h2, h3, hp, h5, h6, hw, hqq, hrr, hq2, hr2, hm8, hnn, hsh, hor, hget, hq4, hq5, hq6]); refine hJ12 _ _ ?_; refine hK11 _ _ ?_
    refine run_draw (by kernel_rfl) fun J13 hJ13 => ?_
    refine runD_pure' 0 (by kernel_rfl) rfl rfl (by kernel_rfl) (by kernel_rfl) (by kernel_rfl) (by kernel_rfl) ?_
    try simp [h1, h2, h3, hp, h5, h6, hw, hqq, hrr, hq2, hr2, hm8, hnn, hsh, hor, hget, hq4, hq5, hq6]
    refine runD_pure' 1 (by kernel_rfl) rfl rfl (by kernel_rfl) (by kernel_rfl) (by kernel_rfl) (by kernel_rfl) ?_
    try simp [h1, h2, h3, hp, h5, h6, hw, hqq, hrr, hq2, hr2, hm8, hnn, hsh, hor, hget, hq4, hq5, hq6]
    refine runD_pure' 2 (by kernel_rfl) rfl rfl (by kernel_rfl) (by kernel_rfl) (by kernel_rfl) (by kernel_rfl) ?_
    try simp [h1, h2, h3, hp, h5, h6, hw, hqq, hrr, hq2, hr2, hm8, hnn, hsh, hor, hget, hq4, hq5, hq6]
    refine runD_pure' 3 (by kernel_rfl) rfl rfl (by kernel_rfl) (by kernel_rfl) (by kernel_rfl) (by kernel_rfl) ?_
    try simp [h1, h2, h3, hp, h5, h6, hw, hqq, hrr, hq2, hr2, hm8, hnn, hsh, hor, hget, hq4, hq5, hq6]
    refine runD_pure' 4 (by kernel_rfl) rfl rfl (by kernel_rfl) (by kernel_rfl) (by kernel_rfl) (by kernel_rfl) ?_
    try simp [h1, h2, h3, hp, h5, h6, hw, hqq, hrr, hq2, hr2, hm8, hnn, hsh, hor, hget, hq4, hq5, hq6]
    refine runD_pure' 5 (by kernel_rfl) rfl rfl (by kernel_rfl) (by kernel_rfl) (by kernel_rfl) (by kernel_rfl) ?_
    try simp [h1, h2, h3, hp, h5, h6, hw, hqq, hrr, hq2, hr2, hm8, hnn, hsh, hor, hget, hq4, hq5, hq6]
    refine runD_pure' 6 (by kernel_rfl) rfl rfl (by kernel_rfl) (by kernel_rfl) (by kernel_rfl) (by kernel_rfl) ?_
    try simp [h1, h2, h3, hp, h5, h6, hw, hqq, hrr, hq2, hr2, hm8, hnn, hsh, hor, hget, hq4, hq5, hq6]
    refine runD_pure' 7 (by kernel_rfl) rfl rfl (by kernel_rfl) (by kernel_rfl) (by kernel_rfl) (by kernel_rfl) ?_
    try simp [h1, h2, h3, hp, h5, h6, hw, hqq, hrr, hq2, hr2, hm8, hnn, hsh, hor, hget, hq4, hq5, hq6]
    refine runD_pure' 8 (by kernel_rfl) rfl rfl (by kernel_rfl) (by kernel_rfl) (by kernel_rfl) (by kernel_rfl) ?_
    try simp [h1, h2, h3, hp, h5, h6, hw, hqq, hrr, hq2, hr2, hm8, hnn, hsh, hor, hget, hq4, hq5, hq6]
    refine runD_pure' 9 (by kernel_rfl) rfl rfl (by kernel_rfl) (by kernel_rfl) (by kernel_rfl) (by kernel_rfl) ?_
    try simp [h1, h2, h3, hp, h5, h6, hw, hqq, hrr, hq2, hr2, hm8, hnn, hsh, hor, hget, hq4, hq5, hq6]
    refine runD_pure' 10 (by kernel_rfl) rfl rfl (by kernel_rfl) (by kernel_rfl) (by kernel_rfl) (by kernel_rfl) ?_
    try simp [h1, h2, h3, hp, h5, h6, hw, hqq, hrr, hq2, hr2, hm8, hnn, hsh, hor, hget, hq4, hq5, hq6]
    refine runD_pure' 11 (by kernel_rfl) rfl rfl (by kernel_rfl) (by kernel_rfl) (by kernel_rfl) (by kernel_rfl) ?_
    try simp [h1, h2, h3, hp, h5, h6, hw, hqq, hrr, hq2, hr2, hm8, hnn, hsh, hor, hget, hq4, hq5, hq6]
    refine runD_op' 12 (by kernel_rfl) (by kernel_rfl) (by kernel_rfl) rfl (by kernel_rfl) (by kernel_rfl) (by kernel_rfl) ?_
    try simp [h1, h2, h3, hp, h5, h6, hw, hqq, hrr, hq2, hr2, hm8, hnn, hsh, hor, hget, hq4, hq5, hq6]
    refine ⟨later_nil (by kernel_rfl), ?_⟩
    refine runD_done (by kernel_rfl) (by kernel_rfl) (by kernel_rfl) ?_
    refine hJ13 _ _ ?_
    show St.mk _ _ _ _ = _
    rw [hsn, ← hput]
    simp
    exact hor
  case rd1 =>
    rintro σ1 rfl
    rw [h4]
    refine hK8 _ _ ?_; refine run_seq_k fun K14 hK14 => ?_; refine run_region_k rfl fun J15 hJ15 => ?_; (try simp [h1, h2, h3, hp, h5, h6]); refine hJ15 _ _ ?_; refine hK14 _ _ ?_; refine run_ret ?_; (try simp only [Then, InBlock, NoGoto]); refine answer_cell_tmp rfl (.inr rfl) ?_; simp [numA]
  case rx1 =>
    exact fun _ _ _ _ h => h.elim

theorem read_num {σ : St} {p : List UInt8} :
    CallsA Try.prog 86 [.sl 1 (bytesA p) p.length .shut] σ (fun av σ' => av = .tup [.agg (numA (numOf p)), .v (.int .i64 (if numOk p then 0 else 4))] ∧ σ = σ') := by
  by_cases h : p.length ≤ 32
  · cases p with
    | nil => exact callsA_gc_new read_nil rfl
    | cons b l =>
      by_cases hb : b = 0
      · have e : numOk (b :: l) = false := by simp [numOk, hb]
        simp only [numOf, e]
        exact callsA_gc_new (read_zero h (by simp) hb) rfl
      · have e : numOk (b :: l) = true := by simp [numOk, hb]; simpa using h
        simp only [numOf, e]
        exact callsA_gc_new (read_ok h (by simp) hb) rfl
  · have e : numOk p = false := by simp [numOk]; intro h2; omega
    simp only [numOf, e]
    exact callsA_gc_new (read_long (by omega)) rfl

end Go.Proofs.Ytmponlabfccjaaa

/-
  The codec's writer, and the constructor of a reader.
-/
namespace Go.Proofs.Ytmponlabfccjaaa
set_option linter.unnecessarySimpa false
set_option maxRecDepth 100000
open Go Go.Vm
set_option linter.unusedSimpArgs false
set_option linter.unusedVariables false
attribute [local simp] evalL wantedA isCall opA evalA evalAll evalsA evalOpt ofValue ofCell plain binA_eql_pn binA_neq_pn binA_gtr binA_lss binA_geq binA_leq binA_add binA_sub binA_eql binA_neq binA_or binA_shl binA_shr binA_mul binA_quo binA_rem convA_int unA_not fieldAddrA loadA partA pickA lenA builtinA storeA splice AV.cells AV.isCell sliceA boundA intA callOf indexAddrA newObjA buildA fillA zeroA ofCells buildSliceA appendA roomA maxLen

theorem clone_raw {σ : St} {p : List UInt8} {tl : Tail} (hp : p.length ≤ 1000000) :
    CallsA Try.prog 89 [.sl 1 (bytesA p) p.length tl] σ (fun av σ' => (p = [] ∧ av = .sl 0 [] 0 .full ∧ σ' = σ) ∨ (av = .sl 1 (bytesA p) p.length (.own σ.toks.length) ∧ σ' = { σ with toks := σ.toks ++ [p.length] })) := by
  have h1 : p.length ≤ 140737488355328 := by omega
  have h2 : p.length ≤ 9223372036854775807 := by omega
  refine callsA_body Try.func89 rfl rfl rfl ?_; refine run_seq_k fun K1 hK1 => ?_; refine run_region_k rfl fun J2 hJ2 => ?_; (try simp [h1, h2]); refine hJ2 _ _ ?_; refine hK1 _ _ ?_; refine run_seq_k fun K3 hK3 => ?_; refine run_seq_k fun K4 hK4 => ?_; refine run_region_k rfl fun J5 hJ5 => ?_; try simp [h1, h2]
  refine runL_slnil (by first | rfl | (simp [h1, h2, wantedA]; done)) rfl rfl rfl (by first | rfl | (simp [h1, h2]; done)) (fun b4 hb4 => ?_)
  (try simp [h1, h2]); refine hJ5 _ _ ?_; refine hK4 _ _ ?_; refine run_cond_split rfl (fun c4 => ?_) (fun c4 => ?_)
  · try (exfalso; revert c4; simp [h1, h2]; done)
    all_goals
      (try simp [h1, h2] at c4)
      all_goals
        refine run_seq_k fun K7 hK7 => ?_; refine run_region_k rfl fun J8 hJ8 => ?_; (try simp [h1, h2, c4]); refine hJ8 _ _ ?_; refine hK7 _ _ ?_; refine ra ?_; exact .inl ⟨by cases p with | nil => rfl | cons x l => (simp_all), by simp, rfl⟩
  · try (exfalso; revert c4; simp [h1, h2]; done)
    all_goals
      (try simp [h1, h2] at c4)
      all_goals
        refine run_skip ?_; refine hK3 _ _ ?_; refine run_seq_k fun K9 hK9 => ?_; refine run_region_k rfl fun J10 hJ10 => ?_; (try simp [h1, h2, c4]); refine hJ10 _ _ ?_; refine hK9 _ _ ?_; refine ra ?_; exact .inr ⟨by simp, rfl⟩

theorem clone_ok {σ : St} {p : List UInt8} {tl : Tail} (hp : p.length ≤ 1000000) :
    CallsA Try.prog 89 [.sl 1 (bytesA p) p.length tl] σ (fun av σ' => av = .sl 1 (bytesA p) p.length .shut ∧ σ = σ') :=
  callsA_mono (callsA_gc_to (τ := σ) (A := .sl 1 (bytesA p) p.length .shut) (clone_raw hp) (fun av σ' h => by
    rcases h with ⟨rfl, rfl, rfl⟩ | ⟨rfl, rfl⟩
    · exact ⟨[], [], [], Wk.nil 0 1 .full, by simp⟩
    · exact ⟨[], [p.length], [], Wk.shut _ _ _ _, by simp⟩) (by simp [AV.under, under_bytes]) rfl rfl rfl rfl (fun _ _ h => .inl h) (fun _ r h => .inl ⟨r, h, rfl⟩)) (fun av σ' h => ⟨h.1, h.2.symm⟩)

def natBytes (x : Nat) : List UInt8 := if h : x = 0 then [] else natBytes (x / 256) ++ [UInt8.ofNat (x % 256)]
termination_by x
decreasing_by omega

theorem natBytes_zero : natBytes 0 = [] := by unfold natBytes; simp
theorem natBytes_pos {x : Nat} (h : 0 < x) : natBytes x = natBytes (x / 256) ++ [UInt8.ofNat (x % 256)] := by
  conv => lhs; unfold natBytes
  rw [dif_neg (by omega)]
theorem natBytes_nil {x : Nat} : natBytes x = [] ↔ x = 0 := by
  constructor
  · intro h
    apply Classical.byContradiction
    intro h0
    rw [natBytes_pos (by omega)] at h
    simp at h
  · rintro rfl; exact natBytes_zero

theorem limb_byte {x i : Nat} (hi : i < 32) : limb x (i / 8) / 2 ^ (8 * (i % 8)) % 256 = x / 256 ^ i % 256 := by
  have e : (256 : Nat) ^ i = 2 ^ (8 * i) := by rw [Nat.pow_mul]
  rw [e]
  apply Nat.eq_of_testBit_eq
  intro j
  rw [show (256 : Nat) = 2 ^ 8 by rfl]
  simp only [Nat.testBit_mod_two_pow, Nat.testBit_div_two_pow, limb_bit]
  by_cases hj : j < 8
  · have h1 : 8 * (i % 8) + j < 64 := by omega
    have h2 : 64 * (i / 8) + (j + 8 * (i % 8)) = j + 8 * i := by omega
    simp [hj, h2]
    omega
  · simp [hj]

end Go.Proofs.Ytmponlabfccjaaa

/-
  Numbers' bytes, laid.
-/
namespace Go.Proofs.Ytmponlabfccjaaa
set_option linter.unnecessarySimpa false
set_option maxRecDepth 100000
open Go Go.Vm
set_option linter.unusedSimpArgs false
set_option linter.unusedVariables false
attribute [local simp] evalL wantedA isCall opA evalA evalAll evalsA evalOpt ofValue ofCell plain binA_eql_pn binA_neq_pn binA_gtr binA_lss binA_geq binA_leq binA_add binA_sub binA_eql binA_neq binA_or binA_shl binA_shr binA_mul binA_quo binA_rem convA_int unA_not fieldAddrA loadA partA pickA lenA_sl builtinA storeA splice AV.cells AV.isCell sliceA boundA intA callOf indexAddrA newObjA buildA fillA zeroA ofCells buildSliceA

def mineS (σ : St) (l : List UInt8) : AV := if l = [] then .sl 0 [] 0 .full else .sl 1 (bytesA l) l.length (.own σ.toks.length)
def mineT (σ : St) (l : List UInt8) : St := if l = [] then σ else { σ with toks := σ.toks ++ [l.length] }

theorem mineS_nil (σ : St) : mineS σ [] = .sl 0 [] 0 .full := rfl
theorem mineT_nil (σ : St) : mineT σ [] = σ := rfl
@[local simp] theorem mineT_objs (σ : St) (l : List UInt8) : (mineT σ l).objs = σ.objs := by unfold mineT; split <;> rfl
theorem len_mine (σ : St) (l : List UInt8) : lenA Try.prog 109 (mineS σ l) = some (.v (.int .i64 (l.length : Nat))) := by
  unfold mineS
  split
  · rename_i h; subst h; simp [lenA]
  · simp
theorem app_mine (σ : St) (l q : List UInt8) (tl : Tail) (hl : l.length ≤ 1000000) (hq : q.length ≤ 1000000) (hq0 : q ≠ []) : appendA Try.prog 109 (mineS σ l) (.sl 1 (bytesA q) q.length tl) (mineT σ l) = some (mineS σ (l ++ q), mineT σ (l ++ q)) := by
  have h1 : q.length ≤ 140737488355328 := by omega
  have h2 : q.length ≤ 9223372036854775807 := by omega
  have h3 : l.length + q.length ≤ 140737488355328 := by omega
  have h4 : l.length + q.length ≤ 9223372036854775807 := by omega
  by_cases h : l = []
  · subst h
    simp [mineS, mineT, appendA, roomA, maxLen, h1, h2, hq0] ; rfl
  · simp [mineS, mineT, appendA, roomA, maxLen, h, h3, h4, hq0, bytesA_append] ; rfl

theorem toNat_ofNat {y : Nat} (h : y < 256) : (UInt8.ofNat y).toNat = y := by simp; omega

theorem nb_eq (x i : Nat) : x / 256 ^ i / 256 = x / 256 ^ (i + 1) := by rw [Nat.div_div_eq_div_mul, Nat.pow_succ]
theorem nb1 {x i : Nat} (h : ¬ x / 256 ^ i % 256 = 0 ∨ 0 < (natBytes (x / 256 ^ (i + 1))).length) : natBytes (x / 256 ^ i) = natBytes (x / 256 ^ (i + 1)) ++ [UInt8.ofNat (x / 256 ^ i % 256)] := by
  have h0 : 0 < x / 256 ^ i := by
    apply Nat.pos_of_ne_zero
    intro e
    rcases h with h | h
    · rw [e] at h; simp at h
    · rw [← nb_eq, e, Nat.zero_div, natBytes_zero] at h; simp at h
  rw [natBytes_pos h0, nb_eq]
theorem nb2 {x i : Nat} (h : x / 256 ^ i % 256 = 0) (h2 : ¬ 0 < (natBytes (x / 256 ^ (i + 1))).length) : natBytes (x / 256 ^ i) = natBytes (x / 256 ^ (i + 1)) := by
  have h3 : natBytes (x / 256 ^ (i + 1)) = [] := List.eq_nil_of_length_eq_zero (by omega)
  have h4 := natBytes_nil.1 h3
  rw [← nb_eq] at h4
  have h5 : x / 256 ^ i = 0 := by omega
  rw [h3, h5, natBytes_zero]

theorem bytes_raw {σ : St} {x : Nat} (hx : x < 2 ^ 256) :
    CallsA Try.prog 102 [.agg (numA x)] σ (fun av σ' => av = mineS { σ with objs := σ.objs ++ [numA x] } (natBytes x) ∧ σ' = mineT { σ with objs := σ.objs ++ [numA x] } (natBytes x)) := by
  obtain ⟨B, hB⟩ : ∃ B : St, B = { σ with objs := σ.objs ++ [numA x] } := ⟨_, rfl⟩
  rw [← hB]
  have hBo : B.objs = σ.objs ++ [numA x] := by rw [hB]
  refine callsA_body Try.func102 rfl rfl rfl ?_; refine run_seq_k fun K1 hK1 => ?_; refine run_region_k rfl fun J2 hJ2 => ?_; (try simp [hBo]); refine hJ2 _ _ ?_; refine hK1 _ _ ?_; refine run_seq_k fun K3 hK3 => ?_; refine run_region_k rfl fun J4 hJ4 => ?_; (try simp [hBo]); refine hJ4 _ _ ?_; refine hK3 _ _ ?_; refine run_seq_k fun K5 hK5 => ?_; refine run_seq_k fun K6 hK6 => ?_; refine run_region_k rfl fun J7 hJ7 => ?_; (try simp [hBo]); refine hJ7 _ _ ?_; refine hK6 _ _ ?_; refine run_block_k ?_; refine run_loop (X := Nat) (fun k ρ σ1 => k ≤ 32 ∧ ρ 1 = .ptr σ.objs.length 0 ∧ ρ 3 = mineS B (natBytes (x / 256 ^ k)) ∧ ρ 4 = .v (.int .i64 ((k : Int) - 1)) ∧ (natBytes (x / 256 ^ k)).length ≤ 32 - k ∧ σ1 = mineT B (natBytes (x / 256 ^ k))) (fun k => k) (32) ?start ?round
  case start =>
    have h0 : x / 256 ^ 32 = 0 := Nat.div_eq_of_lt (by simpa using hx)
    rw [h0, natBytes_zero]
    simp [mineS_nil, mineT_nil, hB]
  case round =>
    rintro k ρ σ1 ⟨hk, h1, h3, h4, hl, rfl⟩; refine run_seq_k fun K8 hK8 => ?_; refine run_seq_k fun K9 hK9 => ?_; refine run_region_k rfl fun J10 hJ10 => ?_; (try simp [hBo, h1, h3, h4]); refine hJ10 _ _ ?_; refine hK9 _ _ ?_; refine run_cond_split rfl (fun c7 => ?_) (fun c7 => ?_)
    · try (exfalso; revert c7; simp [hBo, h1, h3, h4]; done)
      all_goals
        (try simp [hBo, h1, h3, h4] at c7)
        all_goals
          refine run_skip ?_; refine hK8 _ _ ?_; refine run_seq_k fun K12 hK12 => ?_; refine run_block_k ?_; refine run_seq_k fun K13 hK13 => ?_
          obtain ⟨i, hik⟩ : ∃ i, k = i + 1 := ⟨k - 1, by omega⟩
          have hki : (k : Int) - 1 = (i : Int) := by omega
          obtain ⟨q, hq⟩ : ∃ q, q = i / 8 := ⟨_, rfl⟩
          obtain ⟨r, hr⟩ : ∃ r, r = i % 8 := ⟨_, rfl⟩
          have hq4 : q < 4 := by omega
          have hq5 : (q : Int) < 4 := by omega
          have hr8 : r < 8 := by omega
          have hqq : IntKind.i64.wrap ((i : Int).tdiv 8) = (q : Int) := by rw [Int.tdiv_eq_ediv_of_nonneg (by omega), wrap_i64 _ (by omega) (by omega)]; omega
          have hrr : (i : Int).tmod 8 = (r : Int) := by rw [Int.tmod_eq_emod_of_nonneg (by omega)]; omega
          have hq2 : IntKind.i64.wrap ((i : Int) / 8) = (q : Int) := by rw [wrap_i64 _ (by omega) (by omega)]; omega
          have hr2 : (i : Int) % 8 = (r : Int) := by omega
          have hm8 : IntKind.i64.wrap (8 * (r : Int)) = 8 * (r : Int) := wrap_i64 _ (by omega) (by omega)
          have hnn : ¬ 8 * (r : Int) < 0 := by omega
          obtain ⟨y, hy⟩ : ∃ y, y = x / 256 ^ i % 256 := ⟨_, rfl⟩
          have hy256 : y < 256 := by omega
          obtain ⟨c, hc⟩ : ∃ c, c = UInt8.ofNat y := ⟨_, rfl⟩
          have hcn : c.toNat = y := by rw [hc]; exact toNat_ofNat hy256
          obtain ⟨m, hm⟩ : ∃ m, m = limb x q / 2 ^ (8 * r) := ⟨_, rfl⟩
          have hmy : m % 256 = y := by rw [hm, hq, hr, hy]; exact limb_byte (by omega)
          have hsh : Int.fdiv ((limb x q : Nat) : Int) (2 ^ (min (8 * (r : Int)).toNat 64)) = (m : Int) := by rw [show min (8 * (r : Int)).toNat 64 = 8 * r by omega, Int.fdiv_eq_ediv_of_nonneg _ (by exact Int.le_of_lt (Int.pow_pos (by omega))), hm]; simp
          have hcv : IntKind.u8.wrap (m : Int) = (c.toNat : Int) := by rw [wrap_u8, hmy, hcn]
          have hget := numA_get x hq4
          have hlen := len_mine B (natBytes (x / 256 ^ k))
          have happ := app_mine B (natBytes (x / 256 ^ k)) [c] .full (by omega) (by simp) (by simp)
          have happ2 : appendA Try.prog 109 (mineS B (natBytes (x / 256 ^ k))) (.sl 1 [.v (.int .u8 c.toNat)] 1 .full) (mineT B (natBytes (x / 256 ^ k))) = some (mineS B (natBytes (x / 256 ^ k) ++ [c]), mineT B (natBytes (x / 256 ^ k) ++ [c])) := happ
          have happ3 : c.toNat = 0 → appendA Try.prog 109 (mineS B (natBytes (x / 256 ^ k))) (.sl 1 [.v (.int .u8 0)] 1 .full) (mineT B (natBytes (x / 256 ^ k))) = some (mineS B (natBytes (x / 256 ^ k) ++ [c]), mineT B (natBytes (x / 256 ^ k) ++ [c])) := fun h => by rw [h] at happ2; exact happ2
          have hwi : IntKind.i64.wrap ((i : Int) - 1) = (i : Int) - 1 := wrap_i64 _ (by omega) (by omega)
          refine run_region_k rfl fun J14 hJ14 => ?_; (try simp [hBo, h1, h3, h4, c7, hki, hwi, hqq, hrr, hq2, hr2, hq4, hq5, hm8, hnn, hsh, hcv, hget, hlen, happ2, happ3]); refine hJ14 _ _ ?_; refine hK13 _ _ ?_; refine run_seq_k fun K15 hK15 => ?_; refine run_region_k rfl fun J16 hJ16 => ?_; (try simp [hBo, h1, h3, h4, c7, hki, hwi, hqq, hrr, hq2, hr2, hq4, hq5, hm8, hnn, hsh, hcv, hget, hlen, happ2, happ3]); refine runL_split rfl (fun g6_2 => ?_) (fun g6_2 => ?_)
          · try (exfalso; revert g6_2; simp [hBo, h1, h3, h4, c7, hki, hwi, hqq, hrr, hq2, hr2, hq4, hq5, hm8, hnn, hsh, hcv, hget, hlen, happ2, happ3, g6_2]; done)
            all_goals
              (try simp [hBo, h1, h3, h4, c7, hki, hwi, hqq, hrr, hq2, hr2, hq4, hq5, hm8, hnn, hsh, hcv, hget, hlen, happ2, happ3] at g6_2)
              all_goals
                refine runL_go (by first | rfl | (simp [hBo, h1, h3, h4, c7, hki, hwi, hqq, hrr, hq2, hr2, hq4, hq5, hm8, hnn, hsh, hcv, hget, hlen, happ2, happ3, g6_2, wantedA]; done)) rfl ?_
                try simp [hBo, h1, h3, h4, c7, hki, hwi, hqq, hrr, hq2, hr2, hq4, hq5, hm8, hnn, hsh, hcv, hget, hlen, happ2, happ3, g6_2]
                refine runL_go (by first | rfl | (simp [hBo, h1, h3, h4, c7, hki, hwi, hqq, hrr, hq2, hr2, hq4, hq5, hm8, hnn, hsh, hcv, hget, hlen, happ2, happ3, g6_2, wantedA]; done)) rfl ?_
                try simp [hBo, h1, h3, h4, c7, hki, hwi, hqq, hrr, hq2, hr2, hq4, hq5, hm8, hnn, hsh, hcv, hget, hlen, happ2, happ3, g6_2]
                refine runL_go (by first | rfl | (simp [hBo, h1, h3, h4, c7, hki, hwi, hqq, hrr, hq2, hr2, hq4, hq5, hm8, hnn, hsh, hcv, hget, hlen, happ2, happ3, g6_2, wantedA]; done)) rfl ?_
                (try simp [hBo, h1, h3, h4, c7, hki, hwi, hqq, hrr, hq2, hr2, hq4, hq5, hm8, hnn, hsh, hcv, hget, hlen, happ2, happ3, g6_2]); refine hJ16 _ _ ?_; refine hK15 _ _ ?_; refine run_cond_split rfl (fun c25 => ?_) (fun c25 => ?_)
                · try (exfalso; revert c25; simp [hBo, h1, h3, h4, c7, hki, hwi, hqq, hrr, hq2, hr2, hq4, hq5, hm8, hnn, hsh, hcv, hget, hlen, happ2, happ3, g6_2]; done)
                  all_goals
                    (try simp [hBo, h1, h3, h4, c7, hki, hwi, hqq, hrr, hq2, hr2, hq4, hq5, hm8, hnn, hsh, hcv, hget, hlen, happ2, happ3, g6_2] at c25)
                    all_goals
                      refine run_region_k rfl fun J18 hJ18 => ?_; (try simp [hBo, h1, h3, h4, c7, hki, hwi, hqq, hrr, hq2, hr2, hq4, hq5, hm8, hnn, hsh, hcv, hget, hlen, happ2, happ3, g6_2, c25]); refine hJ18 _ _ ?_; refine hK12 _ _ ?_; refine run_region_k rfl fun J19 hJ19 => ?_; (try simp [hBo, h1, h3, h4, c7, hki, hwi, hqq, hrr, hq2, hr2, hq4, hq5, hm8, hnn, hsh, hcv, hget, hlen, happ2, happ3, g6_2, c25]); refine hJ19 _ _ ?_
                      first | (have e : natBytes (x / 256 ^ i) = natBytes (x / 256 ^ k) ++ [c] := (by rw [hik, hc, hy]; exact nb1 (by first | (right; rw [← hik]; exact c25) | (left; omega))); exact ⟨i, ⟨by omega, by simp [h1], by rw [e]; simp, by simp, by rw [e]; simp; omega, by rw [e]⟩, by omega⟩) | (have e : natBytes (x / 256 ^ i) = natBytes (x / 256 ^ k) := (by rw [hik]; exact nb2 (by omega) (by rw [← hik, c25]; simp)); exact ⟨i, ⟨by omega, by simp [h1], by rw [e]; simp [h3], by simp, by rw [e]; omega, by rw [e, c25]⟩, by omega⟩)
                · try (exfalso; revert c25; simp [hBo, h1, h3, h4, c7, hki, hwi, hqq, hrr, hq2, hr2, hq4, hq5, hm8, hnn, hsh, hcv, hget, hlen, happ2, happ3, g6_2]; done)
                  all_goals
                    (try simp [hBo, h1, h3, h4, c7, hki, hwi, hqq, hrr, hq2, hr2, hq4, hq5, hm8, hnn, hsh, hcv, hget, hlen, happ2, happ3, g6_2] at c25)
                    all_goals
                      refine run_skip ?_; refine hK12 _ _ ?_; refine run_region_k rfl fun J20 hJ20 => ?_; (try simp [hBo, h1, h3, h4, c7, hki, hwi, hqq, hrr, hq2, hr2, hq4, hq5, hm8, hnn, hsh, hcv, hget, hlen, happ2, happ3, g6_2, c25]); refine hJ20 _ _ ?_
                      first | (have e : natBytes (x / 256 ^ i) = natBytes (x / 256 ^ k) ++ [c] := (by rw [hik, hc, hy]; exact nb1 (by first | (right; rw [← hik]; exact c25) | (left; omega))); exact ⟨i, ⟨by omega, by simp [h1], by rw [e]; simp, by simp, by rw [e]; simp; omega, by rw [e]⟩, by omega⟩) | (have e : natBytes (x / 256 ^ i) = natBytes (x / 256 ^ k) := (by rw [hik]; exact nb2 (by omega) (by rw [← hik, c25]; simp)); exact ⟨i, ⟨by omega, by simp [h1], by rw [e]; simp [h3], by simp, by rw [e]; omega, by rw [e, c25]⟩, by omega⟩)
          · try (exfalso; revert g6_2; simp [hBo, h1, h3, h4, c7, hki, hwi, hqq, hrr, hq2, hr2, hq4, hq5, hm8, hnn, hsh, hcv, hget, hlen, happ2, happ3, g6_2]; done)
            all_goals
              (try simp [hBo, h1, h3, h4, c7, hki, hwi, hqq, hrr, hq2, hr2, hq4, hq5, hm8, hnn, hsh, hcv, hget, hlen, happ2, happ3] at g6_2)
              all_goals
                refine runL_no (by first | rfl | (simp [hBo, h1, h3, h4, c7, hki, hwi, hqq, hrr, hq2, hr2, hq4, hq5, hm8, hnn, hsh, hcv, hget, hlen, happ2, happ3, g6_2, wantedA]; done)) rfl ?_
                try simp [hBo, h1, h3, h4, c7, hki, hwi, hqq, hrr, hq2, hr2, hq4, hq5, hm8, hnn, hsh, hcv, hget, hlen, happ2, happ3, g6_2]
                refine runL_no (by first | rfl | (simp [hBo, h1, h3, h4, c7, hki, hwi, hqq, hrr, hq2, hr2, hq4, hq5, hm8, hnn, hsh, hcv, hget, hlen, happ2, happ3, g6_2, wantedA]; done)) rfl ?_
                try simp [hBo, h1, h3, h4, c7, hki, hwi, hqq, hrr, hq2, hr2, hq4, hq5, hm8, hnn, hsh, hcv, hget, hlen, happ2, happ3, g6_2]
                refine runL_no (by first | rfl | (simp [hBo, h1, h3, h4, c7, hki, hwi, hqq, hrr, hq2, hr2, hq4, hq5, hm8, hnn, hsh, hcv, hget, hlen, happ2, happ3, g6_2, wantedA]; done)) rfl ?_
                (try simp [hBo, h1, h3, h4, c7, hki, hwi, hqq, hrr, hq2, hr2, hq4, hq5, hm8, hnn, hsh, hcv, hget, hlen, happ2, happ3, g6_2]); refine hJ16 _ _ ?_; refine hK15 _ _ ?_; refine run_cond_split rfl (fun c25 => ?_) (fun c25 => ?_)
                · try (exfalso; revert c25; simp [hBo, h1, h3, h4, c7, hki, hwi, hqq, hrr, hq2, hr2, hq4, hq5, hm8, hnn, hsh, hcv, hget, hlen, happ2, happ3, g6_2]; done)
                  all_goals
                    (try simp [hBo, h1, h3, h4, c7, hki, hwi, hqq, hrr, hq2, hr2, hq4, hq5, hm8, hnn, hsh, hcv, hget, hlen, happ2, happ3, g6_2] at c25)
                    all_goals
                      refine run_region_k rfl fun J22 hJ22 => ?_; (try simp [hBo, h1, h3, h4, c7, hki, hwi, hqq, hrr, hq2, hr2, hq4, hq5, hm8, hnn, hsh, hcv, hget, hlen, happ2, happ3, g6_2, c25]); refine hJ22 _ _ ?_; refine hK12 _ _ ?_; refine run_region_k rfl fun J23 hJ23 => ?_; (try simp [hBo, h1, h3, h4, c7, hki, hwi, hqq, hrr, hq2, hr2, hq4, hq5, hm8, hnn, hsh, hcv, hget, hlen, happ2, happ3, g6_2, c25]); refine hJ23 _ _ ?_
                      first | (have e : natBytes (x / 256 ^ i) = natBytes (x / 256 ^ k) ++ [c] := (by rw [hik, hc, hy]; exact nb1 (by first | (right; rw [← hik]; exact c25) | (left; omega))); exact ⟨i, ⟨by omega, by simp [h1], by rw [e]; simp, by simp, by rw [e]; simp; omega, by rw [e]⟩, by omega⟩) | (have e : natBytes (x / 256 ^ i) = natBytes (x / 256 ^ k) := (by rw [hik]; exact nb2 (by omega) (by rw [← hik, c25]; simp)); exact ⟨i, ⟨by omega, by simp [h1], by rw [e]; simp [h3], by simp, by rw [e]; omega, by rw [e, c25]⟩, by omega⟩)
                · try (exfalso; revert c25; simp [hBo, h1, h3, h4, c7, hki, hwi, hqq, hrr, hq2, hr2, hq4, hq5, hm8, hnn, hsh, hcv, hget, hlen, happ2, happ3, g6_2]; done)
                  all_goals
                    (try simp [hBo, h1, h3, h4, c7, hki, hwi, hqq, hrr, hq2, hr2, hq4, hq5, hm8, hnn, hsh, hcv, hget, hlen, happ2, happ3, g6_2] at c25)
                    all_goals
                      refine run_skip ?_; refine hK12 _ _ ?_; refine run_region_k rfl fun J24 hJ24 => ?_; (try simp [hBo, h1, h3, h4, c7, hki, hwi, hqq, hrr, hq2, hr2, hq4, hq5, hm8, hnn, hsh, hcv, hget, hlen, happ2, happ3, g6_2, c25]); refine hJ24 _ _ ?_
                      first | (have e : natBytes (x / 256 ^ i) = natBytes (x / 256 ^ k) ++ [c] := (by rw [hik, hc, hy]; exact nb1 (by first | (right; rw [← hik]; exact c25) | (left; omega))); exact ⟨i, ⟨by omega, by simp [h1], by rw [e]; simp, by simp, by rw [e]; simp; omega, by rw [e]⟩, by omega⟩) | (have e : natBytes (x / 256 ^ i) = natBytes (x / 256 ^ k) := (by rw [hik]; exact nb2 (by omega) (by rw [← hik, c25]; simp)); exact ⟨i, ⟨by omega, by simp [h1], by rw [e]; simp [h3], by simp, by rw [e]; omega, by rw [e, c25]⟩, by omega⟩)
    · try (exfalso; revert c7; simp [hBo, h1, h3, h4]; done)
      all_goals
        (try simp [hBo, h1, h3, h4] at c7)
        all_goals
          refine run_exit ?_; refine hK5 _ _ ?_; refine run_seq_k fun K25 hK25 => ?_; refine run_region_k rfl fun J26 hJ26 => ?_; (try simp [hBo, h1, h3, h4, c7]); refine hJ26 _ _ ?_; refine hK25 _ _ ?_; refine ra ?_
          have hk0 : k = 0 := by omega
          subst hk0
          simp

theorem mineS_wk (σ : St) (l : List UInt8) : Wk (mineS σ l) (.sl 1 (bytesA l) l.length .shut) := by
  unfold mineS
  split
  · rename_i h; subst h; exact Wk.nil 0 1 .full
  · exact Wk.shut _ _ _ _

theorem bytes_ok {σ : St} {x : Nat} (hx : x < 2 ^ 256) :
    CallsA Try.prog 102 [.agg (numA x)] σ (fun av σ' => av = .sl 1 (bytesA (natBytes x)) (natBytes x).length .shut ∧ σ = σ') :=
  callsA_gc_same (bytes_raw hx) (fun av σ' ⟨h1, h2⟩ => ⟨h1 ▸ mineS_wk _ _, by
    rw [h2]
    unfold mineT
    split
    · exact ⟨[numA x], [], [], by simp⟩
    · exact ⟨[numA x], [(natBytes x).length], [], by simp⟩⟩) (by simp [AV.under, under_bytes])

end Go.Proofs.Ytmponlabfccjaaa

/-
  The codec's writer; the layer's example.
-/
namespace Go.Proofs.Ytmponlabfccjaaa
set_option linter.unnecessarySimpa false
set_option maxRecDepth 100000
open Go Go.Vm
set_option linter.unusedSimpArgs false
set_option linter.unusedVariables false
attribute [local simp] evalL wantedA isCall opA evalA evalAll evalsA evalOpt ofValue ofCell plain binA_eql_pn binA_neq_pn binA_gtr binA_lss binA_geq binA_leq binA_add binA_sub binA_eql binA_neq binA_or binA_shl binA_shr binA_mul binA_quo binA_rem convA_int unA_not fieldAddrA loadA partA pickA lenA builtinA storeA splice AV.cells AV.isCell sliceA boundA intA callOf indexAddrA newObjA buildA fillA zeroA ofCells buildSliceA appendA roomA maxLen

theorem natBytes_len (x k : Nat) (h : x < 256 ^ k) : (natBytes x).length ≤ k := by
  induction k generalizing x with
  | zero =>
    have : x = 0 := by simpa using h
    subst this; simp [natBytes_zero]
  | succ k ih =>
    by_cases h0 : x = 0
    · subst h0; simp [natBytes_zero]
    · rw [natBytes_pos (by omega)]
      have : x / 256 < 256 ^ k := by rw [Nat.div_lt_iff_lt_mul (by omega)]; rwa [Nat.pow_succ] at h
      have := ih _ this
      simp; omega

end Go.Proofs.Ytmponlabfccjaaa

/-
  Digits: lists of numbers below a base, the lowest first, and the numbers that they are.
-/
namespace Go.Vm
set_option linter.unnecessarySimpa false
set_option linter.unusedSimpArgs false
set_option linter.unusedVariables false
open Go

theorem set_appN {α : Type} (l r : List α) (n : Nat) (x : α) : (l ++ r).set (l.length + n) x = l ++ r.set n x := by
  rw [List.set_append_right _ _ (by omega), Nat.add_sub_cancel_left]
theorem get_appN {α : Type} (l r : List α) (n : Nat) : (l ++ r)[l.length + n]? = r[n]? := by
  rw [List.getElem?_append_right (by omega), Nat.add_sub_cancel_left]

def andI (k : IntKind) (a b : Int) : Int := k.wrap (BitVec.ofInt k.bits a &&& BitVec.ofInt k.bits b).toNat
def orI (k : IntKind) (a b : Int) : Int := k.wrap (BitVec.ofInt k.bits a ||| BitVec.ofInt k.bits b).toNat
theorem binA_andI {P : Program} {t : TypeId} {xo yo : Operand} {k : IntKind} {a b : Int} : binA P .and t xo yo (.v (.int k a)) (.v (.int k b)) = some (.v (.int k (andI k a b))) := binA_and t xo yo k a b
theorem binA_orI {P : Program} {t : TypeId} {xo yo : Operand} {k : IntKind} {a b : Int} : binA P .or t xo yo (.v (.int k a)) (.v (.int k b)) = some (.v (.int k (orI k a b))) := binA_or t xo yo k a b
theorem take_appN {α : Type} (l r : List α) (n : Nat) : (l ++ r).take (l.length + n) = l ++ r.take n := by
  rw [List.take_append, List.take_of_length_le (by omega), Nat.add_sub_cancel_left]

def valD (b : Nat) : List Nat → Nat
  | [] => 0
  | d :: l => d + b * valD b l

@[simp] theorem valD_nil (b : Nat) : valD b [] = 0 := rfl

theorem valD_append (b : Nat) : ∀ l m : List Nat, valD b (l ++ m) = valD b l + b ^ l.length * valD b m
  | [], m => by simp
  | d :: l, m => by
    simp only [List.cons_append, valD, valD_append b l m, List.length_cons, Nat.pow_succ, Nat.mul_add]
    rw [← Nat.add_assoc, ← Nat.mul_assoc, Nat.mul_comm b (b ^ l.length)]

theorem valD_snoc (b : Nat) (l : List Nat) (d : Nat) : valD b (l ++ [d]) = valD b l + b ^ l.length * d := by
  rw [valD_append]; simp [valD]

theorem valD_lt {b : Nat} : ∀ {l : List Nat}, (∀ d ∈ l, d < b) → valD b l < b ^ l.length
  | [], _ => by simp
  | d :: l, h => by
    have h1 : d < b := h d (by simp)
    have h2 := valD_lt (l := l) (fun x hx => h x (by simp [hx]))
    simp only [valD, List.length_cons, Nat.pow_succ]
    have h3 : b * (valD b l + 1) ≤ b * b ^ l.length := Nat.mul_le_mul_left _ h2
    rw [Nat.mul_add] at h3
    rw [Nat.mul_comm (b ^ l.length) b]
    omega

theorem valD_zero (b n : Nat) : valD b (List.replicate n 0) = 0 := by
  induction n with
  | zero => rfl
  | succ n ih => simp [List.replicate_succ, valD, ih]

def digs (b n x : Nat) : List Nat := (List.range n).map fun i => x / b ^ i % b

@[simp] theorem digs_len (b n x : Nat) : (digs b n x).length = n := by simp [digs]
theorem digs_get {b n x i : Nat} (h : i < n) : (digs b n x)[i]'(by simpa using h) = x / b ^ i % b := by simp [digs]
theorem digs_get? {b n x i : Nat} (h : i < n) : (digs b n x)[i]? = some (x / b ^ i % b) := by simp [digs, h]
theorem digs_lt {b n x : Nat} (hb : 0 < b) : ∀ d ∈ digs b n x, d < b := by
  intro d hd
  simp only [digs, List.mem_map, List.mem_range] at hd
  obtain ⟨i, _, rfl⟩ := hd
  exact Nat.mod_lt _ hb
theorem digs_snoc (b n x : Nat) : digs b (n + 1) x = digs b n x ++ [x / b ^ n % b] := by simp [digs, List.range_succ]
theorem valD_digs (b x : Nat) : ∀ n, valD b (digs b n x) = x % b ^ n
  | 0 => by simp [digs, Nat.mod_one]
  | n + 1 => by
    rw [digs_snoc, valD_snoc, valD_digs b x n, digs_len, Nat.mod_pow_succ]

theorem digs_valD {b : Nat} (hb : 0 < b) : ∀ {l : List Nat}, (∀ d ∈ l, d < b) → digs b l.length (valD b l) = l := by
  intro l h
  apply List.ext_getElem
  · simp
  · intro i h1 h2
    rw [digs_get (by simpa using h1)]
    have hl : i < l.length := h2
    have hi : l = l.take i ++ l[i] :: l.drop (i + 1) := by rw [List.getElem_cons_drop, List.take_append_drop]
    have h3 : valD b l = valD b (l.take i) + b ^ i * (l[i] + b * valD b (l.drop (i + 1))) := by
      conv => lhs; rw [hi, valD_append]
      simp [valD, Nat.min_eq_left (Nat.le_of_lt hl)]
    have h4 : valD b (l.take i) < b ^ i := by
      have := valD_lt (l := l.take i) (fun d hd => h d (List.mem_of_mem_take hd))
      simpa [Nat.min_eq_left (Nat.le_of_lt hl)] using this
    rw [h3, Nat.add_mul_div_left _ _ (Nat.pow_pos hb), Nat.div_eq_of_lt h4, Nat.zero_add, Nat.add_mul_mod_self_left, Nat.mod_eq_of_lt (h _ (List.getElem_mem hl))]

theorem digs_of {b n x : Nat} {l : List Nat} (hb : 0 < b) (h : ∀ d ∈ l, d < b) (hl : l.length = n) (hx : valD b l = x) : l = digs b n x := by
  subst hl; subst hx; exact (digs_valD hb h).symm

theorem valD_set {b : Nat} {l : List Nat} {i : Nat} (h : i < l.length) (d : Nat) : valD b (l.set i d) + b ^ i * l[i] = valD b l + b ^ i * d := by
  have hi : l = l.take i ++ l[i] :: l.drop (i + 1) := by rw [List.getElem_cons_drop, List.take_append_drop]
  have e1 : l.set i d = l.take i ++ d :: l.drop (i + 1) := List.set_eq_take_append_cons_drop.trans (if_pos h)
  have hlen : (l.take i).length = i := by simp [Nat.min_eq_left (Nat.le_of_lt h)]
  have h3 : valD b l = valD b (l.take i) + b ^ i * (l[i] + b * valD b (l.drop (i + 1))) := by
    conv => lhs; rw [hi, valD_append]
    rw [hlen]; rfl
  have h4 : valD b (l.set i d) = valD b (l.take i) + b ^ i * (d + b * valD b (l.drop (i + 1))) := by
    rw [e1, valD_append, hlen]; rfl
  rw [h3, h4]
  simp only [Nat.mul_add]
  omega

theorem mod_digit (b x i : Nat) : x % b ^ (i + 1) = x % b ^ i + b ^ i * (x / b ^ i % b) := Nat.mod_pow_succ

def u64s (l : List Nat) : List AV := l.map fun (n : Nat) => .v (.int .u64 (n : Int))
@[simp] theorem u64s_length (l : List Nat) : (u64s l).length = l.length := by simp [u64s]
theorem u64s_snoc (l : List Nat) (n : Nat) : u64s l ++ [.v (.int .u64 n)] = u64s (l ++ [n]) := by simp [u64s]
theorem u64s_set (l : List Nat) (i n : Nat) (h : i < l.length) : (u64s l).take i ++ .v (.int .u64 n) :: (u64s l).drop (i + 1) = u64s (l.set i n) := by
  rw [show l.set i n = l.take i ++ n :: l.drop (i + 1) from List.set_eq_take_append_cons_drop.trans (if_pos h)]
  simp [u64s]
theorem u64s_under (B : Bd) : ∀ l : List Nat, underL B (u64s l) = true
  | [] => rfl
  | n :: l => by show underL B (.v (.int .u64 n) :: u64s l) = true; simp [underL, AV.under, u64s_under B l]
theorem u64s_noObj (n : Nat) : ∀ l : List Nat, noObjL n (u64s l) = true
  | [] => rfl
  | x :: l => by show noObjL n (.v (.int .u64 x) :: u64s l) = true; simp [noObjL, AV.noObj, u64s_noObj n l]

theorem limb_dig (x j : Nat) : limb x j = x / 18446744073709551616 ^ j % 18446744073709551616 := by rw [limb, show (18446744073709551616 : Nat) = 2 ^ 64 from rfl, ← Nat.pow_mul]
theorem numA_digs (x : Nat) : numA x = u64s (digs 18446744073709551616 4 x) := by
  simp only [numA, u64s, digs, limb_dig]; rfl
theorem numA_len4 (x : Nat) : (numA x).length = 4 := rfl
theorem numA_take4 (x : Nat) : (numA x).take 4 = numA x := rfl
theorem numA_drop4 (x : Nat) : (numA x).drop 4 = [] := rfl
theorem numA_zero4 : numA 0 = [.v (.int .u64 0), .v (.int .u64 0), .v (.int .u64 0), .v (.int .u64 0)] := rfl
end Go.Vm

/-
  Digits of sums and differences; what is carried.
-/
namespace Go.Vm
set_option linter.unnecessarySimpa false
set_option linter.unusedSimpArgs false
set_option linter.unusedVariables false
set_option exponentiation.threshold 600
open Go

def addc (b x y i : Nat) : Nat := (x % b ^ i + y % b ^ i) / b ^ i

theorem addc_zero (b x y : Nat) : addc b x y 0 = 0 := by simp [addc, Nat.mod_one]
theorem addc_le {b x y i : Nat} (hb : 0 < b) : addc b x y i ≤ 1 := by
  have hB : 0 < b ^ i := Nat.pow_pos hb
  have h1 := Nat.mod_lt x hB
  have h2 := Nat.mod_lt y hB
  unfold addc
  rw [← Nat.lt_succ_iff, Nat.div_lt_iff_lt_mul hB]
  omega

theorem add_div' {B q1 q2 r1 r2 : Nat} (hB : 0 < B) : (B * q1 + r1 + (B * q2 + r2)) / B = q1 + q2 + (r1 + r2) / B := by
  rw [show B * q1 + r1 + (B * q2 + r2) = r1 + r2 + B * (q1 + q2) by rw [Nat.mul_add]; omega, Nat.add_mul_div_left _ _ hB]
  omega

theorem add_div_c {b x y i : Nat} (hb : 0 < b) : (x + y) / b ^ i = x / b ^ i + y / b ^ i + addc b x y i := by
  have hB : 0 < b ^ i := Nat.pow_pos hb
  conv => lhs; rw [← Nat.div_add_mod x (b ^ i), ← Nat.div_add_mod y (b ^ i)]
  exact add_div' hB

theorem addc_dig {b x y i : Nat} (hb : 0 < b) : (x / b ^ i % b + y / b ^ i % b + addc b x y i) % b = (x + y) / b ^ i % b := by
  rw [add_div_c hb]
  simp [Nat.add_mod, Nat.mod_mod]

theorem addc_next {b x y i : Nat} (hb : 0 < b) : (x / b ^ i % b + y / b ^ i % b + addc b x y i) / b = addc b x y (i + 1) := by
  have hB : 0 < b ^ i := Nat.pow_pos hb
  unfold addc
  rw [mod_digit b x i, mod_digit b y i, Nat.pow_succ, ← Nat.div_div_eq_div_mul]
  congr 1
  rw [show x % b ^ i + b ^ i * (x / b ^ i % b) + (y % b ^ i + b ^ i * (y / b ^ i % b)) = b ^ i * (x / b ^ i % b) + x % b ^ i + (b ^ i * (y / b ^ i % b) + y % b ^ i) by omega, add_div' hB]

theorem addc_last {b x y n : Nat} (hx : x < b ^ n) (hy : y < b ^ n) : addc b x y n = (x + y) / b ^ n := by
  unfold addc; rw [Nat.mod_eq_of_lt hx, Nat.mod_eq_of_lt hy]

def mix (b n i s x : Nat) : List Nat := digs b i s ++ (digs b n x).drop i
theorem mix_zero (b n s x : Nat) : mix b n 0 s x = digs b n x := by simp [mix, digs]
theorem mix_all (b n s x : Nat) : mix b n n s x = digs b n s := by simp [mix]
theorem mix_len {b n i s x : Nat} (h : i ≤ n) : (mix b n i s x).length = n := by simp [mix]; omega
theorem mix_get {b n i s x : Nat} (h : i < n) : (mix b n i s x)[i]? = some (x / b ^ i % b) := by
  unfold mix
  rw [List.getElem?_append_right (by simp)]
  simp [digs_get h, h]
theorem mix_set {b n i s x : Nat} (h : i < n) : (mix b n i s x).set i (s / b ^ i % b) = mix b n (i + 1) s x := by
  unfold mix
  rw [List.set_append_right _ _ (by simp), digs_snoc]
  have e : (digs b n x).drop i = (digs b n x)[i]'(by simpa using h) :: (digs b n x).drop (i + 1) := List.drop_eq_getElem_cons (by simpa using h)
  simp only [digs_len, Nat.sub_self]
  rw [e, List.set_cons_zero]
  simp

theorem mixU_get {b n i s x : Nat} (h : i < n) : (u64s (mix b n i s x))[i]? = some (.v (.int .u64 (x / b ^ i % b : Nat))) := by
  simp [u64s, mix_get h]
theorem digU_get {b n i x : Nat} (h : i < n) : (u64s (digs b n x))[i]? = some (.v (.int .u64 (x / b ^ i % b : Nat))) := by
  simp [u64s, digs_get? h]
theorem mixU_set {b n i s x : Nat} (h : i < n) : (u64s (mix b n i s x)).take i ++ .v (.int .u64 (s / b ^ i % b : Nat)) :: (u64s (mix b n i s x)).drop (i + 1) = u64s (mix b n (i + 1) s x) := by
  rw [u64s_set _ _ _ (by rw [mix_len (by omega)]; exact h), mix_set h]

def subb (b x y i : Nat) : Nat := if x % b ^ i < y % b ^ i then 1 else 0
theorem subb_zero (b x y : Nat) : subb b x y 0 = 0 := by simp [subb, Nat.mod_one]
theorem subb_le (b x y i : Nat) : subb b x y i ≤ 1 := by unfold subb; split <;> omega

theorem subb_next {b x y i : Nat} (hb : 0 < b) : (if x / b ^ i % b < y / b ^ i % b + subb b x y i then 1 else 0) = subb b x y (i + 1) := by
  have hB : 0 < b ^ i := Nat.pow_pos hb
  unfold subb
  rw [mod_digit b x i, mod_digit b y i]
  generalize hp : x / b ^ i % b = p
  generalize hq : y / b ^ i % b = q
  have h1 := Nat.mod_lt x hB
  have h2 := Nat.mod_lt y hB
  generalize x % b ^ i = r1 at *
  generalize y % b ^ i = r2 at *
  generalize b ^ i = B at *
  have key : (p < q → B * p + B ≤ B * q) ∧ (q < p → B * q + B ≤ B * p) ∧ (p = q → B * p = B * q) :=
    ⟨fun h => by rw [← Nat.mul_succ]; exact Nat.mul_le_mul_left _ h, fun h => by rw [← Nat.mul_succ]; exact Nat.mul_le_mul_left _ h, fun h => by rw [h]⟩
  rcases Nat.lt_trichotomy p q with h | h | h
  · have := key.1 h
    rw [if_pos (by omega), if_pos (by omega)]
  · have := key.2.2 h
    by_cases h3 : r1 < r2
    · rw [if_pos (by simp [h3]; omega), if_pos (by omega)]
    · rw [if_neg (by simp [h3]; omega), if_neg (by omega)]
  · have := key.2.1 h
    rw [if_neg (by split <;> omega), if_neg (by omega)]

theorem subb_last {b x y n : Nat} (hx : x < b ^ n) (hy : y < b ^ n) : subb b x y n = if x < y then 1 else 0 := by
  unfold subb; rw [Nat.mod_eq_of_lt hx, Nat.mod_eq_of_lt hy]

theorem subb_dig {b x y i n : Nat} (hb : 0 < b) (hi : i < n) (hx : x < b ^ n) (hy : y < b ^ n) :
    (x / b ^ i % b + b - y / b ^ i % b - subb b x y i) % b = (x + b ^ n - y) / b ^ i % b := by
  have hB : 0 < b ^ i := Nat.pow_pos hb
  obtain ⟨k, rfl⟩ : ∃ k, n = i + (k + 1) := ⟨n - i - 1, by omega⟩
  rw [Nat.pow_add] at hx hy ⊢
  have h1 := Nat.mod_lt x hB
  have h2 := Nat.mod_lt y hB
  have ex := Nat.div_add_mod x (b ^ i)
  have ey := Nat.div_add_mod y (b ^ i)
  have hqx : x / b ^ i < b ^ (k + 1) := Nat.div_lt_of_lt_mul hx
  have hqy : y / b ^ i < b ^ (k + 1) := Nat.div_lt_of_lt_mul hy
  unfold subb
  generalize x / b ^ i = q1 at *
  generalize y / b ^ i = q2 at *
  generalize x % b ^ i = r1 at *
  generalize y % b ^ i = r2 at *
  have hM : b ^ (k + 1) = b * b ^ k := by rw [Nat.pow_succ, Nat.mul_comm]
  have hd : (x + b ^ i * b ^ (k + 1) - y) / b ^ i = q1 + b ^ (k + 1) - q2 - (if r1 < r2 then 1 else 0) := by
    subst ex ey
    have e0 : b ^ i * q2 + b ^ i ≤ b ^ i * b ^ (k + 1) := by rw [← Nat.mul_succ]; exact Nat.mul_le_mul_left _ hqy
    have e1 : b ^ i * (q1 + b ^ (k + 1) - q2) = b ^ i * q1 + b ^ i * b ^ (k + 1) - b ^ i * q2 := by rw [Nat.mul_sub, Nat.mul_add]
    by_cases h : r1 < r2
    · rw [if_pos h]
      have e2 : b ^ i * (q1 + b ^ (k + 1) - q2 - 1) = b ^ i * (q1 + b ^ (k + 1) - q2) - b ^ i := by rw [Nat.mul_sub, Nat.mul_one]
      have : b ^ i * q1 + r1 + b ^ i * b ^ (k + 1) - (b ^ i * q2 + r2) = (b ^ i + r1 - r2) + b ^ i * (q1 + b ^ (k + 1) - q2 - 1) := by rw [e2, e1]; omega
      rw [this, Nat.add_mul_div_left _ _ hB, Nat.div_eq_of_lt (by omega), Nat.zero_add]
    · rw [if_neg h]
      have : b ^ i * q1 + r1 + b ^ i * b ^ (k + 1) - (b ^ i * q2 + r2) = (r1 - r2) + b ^ i * (q1 + b ^ (k + 1) - q2) := by rw [e1]; omega
      rw [this, Nat.add_mul_div_left _ _ hB, Nat.div_eq_of_lt (by omega), Nat.zero_add]; omega
  rw [hd]
  have hm1 := Nat.mod_lt q1 hb
  have hm2 := Nat.mod_lt q2 hb
  have e1 := Nat.div_add_mod q1 b
  have e2 := Nat.div_add_mod q2 b
  have hk : 0 < b ^ k := Nat.pow_pos hb
  have hle : q2 / b < b ^ k := Nat.div_lt_of_lt_mul (by rw [← hM]; exact hqy)
  generalize q1 / b = u at *
  generalize q2 / b = v at *
  generalize q1 % b = p at *
  generalize q2 % b = q at *
  generalize hc : (if r1 < r2 then 1 else 0) = c
  have hc1 : c ≤ 1 := by rw [← hc]; split <;> omega
  rw [hM]
  subst e1 e2
  have e3 : b * (u + b ^ k - v - 1) = b * u + b * b ^ k - b * v - b := by rw [Nat.mul_sub, Nat.mul_sub, Nat.mul_add, Nat.mul_one]
  have e4 : b * v + b ≤ b * b ^ k := by rw [← Nat.mul_succ]; exact Nat.mul_le_mul_left _ hle
  have : b * u + p + b * b ^ k - (b * v + q) - c = (p + b - q - c) + b * (u + b ^ k - v - 1) := by rw [e3]; omega
  rw [this, Nat.add_mul_mod_self_left]

theorem fdiv_nat (n m : Nat) : (n : Int).fdiv (m : Int) = ((n / m : Nat) : Int) := by
  rw [Int.fdiv_eq_ediv_of_nonneg _ (by omega)]; rfl
theorem wrapN {n : Nat} (h : n < 18446744073709551616) : IntKind.u64.wrap (n : Int) = (n : Int) := wrap_u64c ⟨by omega, by omega⟩
theorem high_eq {b n x y i : Nat} (hb : 0 < b) (hx : x < b ^ n) (hy : y < b ^ n) (h : ∀ j, i ≤ j → j < n → x / b ^ j % b = y / b ^ j % b) : ∀ k, i + k ≤ n → x / b ^ (n - k) = y / b ^ (n - k)
  | 0, _ => by rw [Nat.sub_zero, Nat.div_eq_of_lt hx, Nat.div_eq_of_lt hy]
  | k + 1, hk => by
    have ih := high_eq hb hx hy h k (by omega)
    have e : n - k = n - (k + 1) + 1 := by omega
    rw [e, Nat.pow_succ, ← Nat.div_div_eq_div_mul, ← Nat.div_div_eq_div_mul] at ih
    have hd := h (n - (k + 1)) (by omega) (by omega)
    rw [← Nat.div_add_mod (x / b ^ (n - (k + 1))) b, ← Nat.div_add_mod (y / b ^ (n - (k + 1))) b, ih, hd]
theorem high_eq' {b n x y i : Nat} (hb : 0 < b) (hx : x < b ^ n) (hy : y < b ^ n) (hi : i ≤ n) (h : ∀ j, i ≤ j → j < n → x / b ^ j % b = y / b ^ j % b) : x / b ^ i = y / b ^ i := by
  have := high_eq hb hx hy h (n - i) (by omega)
  rwa [show n - (n - i) = i by omega] at this
theorem cmp_lt {b n x y i : Nat} (hb : 0 < b) (hx : x < b ^ n) (hy : y < b ^ n) (hi : i < n) (h : ∀ j, i < j → j < n → x / b ^ j % b = y / b ^ j % b) (hl : x / b ^ i % b < y / b ^ i % b) : x < y := by
  have h1 := high_eq' hb hx hy (i := i + 1) (by omega) (fun j h1 h2 => h j (by omega) h2)
  rw [Nat.pow_succ, ← Nat.div_div_eq_div_mul, ← Nat.div_div_eq_div_mul] at h1
  have h2 : x / b ^ i < y / b ^ i := by
    rw [← Nat.div_add_mod (x / b ^ i) b, ← Nat.div_add_mod (y / b ^ i) b, h1]; omega
  apply Nat.lt_of_not_le
  intro hle
  exact absurd (Nat.div_le_div_right (c := b ^ i) hle) (by omega)
theorem pow2_cast (r : Nat) : ((2 : Int) ^ r) = ((2 ^ r : Nat) : Int) := by push_cast; rfl
end Go.Vm

/-
  Lists of coins as9 amounts by denominations.
-/
namespace Go.Vm
set_option linter.unnecessarySimpa false
set_option linter.unusedSimpArgs false
set_option linter.unusedVariables false
open Go

def amt : List Coin → Nat → Nat
  | [], _ => 0
  | c :: l, d => if c.d.toNat = d then c.n.v else amt l d

theorem amt_lt : ∀ (l : List Coin) (d : Nat), amt l d < 2 ^ 256
  | [], _ => Nat.two_pow_pos 256
  | c :: l, d => by
    unfold amt; split
    · exact c.n.h
    · exact amt_lt l d

def Num.of (x : Nat) : Num := ⟨x % 2 ^ 256, Nat.mod_lt _ (by decide)⟩
@[simp] theorem Num.of_v {x : Nat} (h : x < 2 ^ 256) : (Num.of x).v = x := Nat.mod_eq_of_lt h
def lstF (f : Nat → Nat) : Nat → List Coin
  | 0 => []
  | d + 1 => lstF f d ++ (if f d = 0 then [] else [⟨UInt8.ofNat d, Num.of (f d)⟩])

theorem lstF_len (f : Nat → Nat) : ∀ d, (lstF f d).length ≤ d
  | 0 => by simp [lstF]
  | d + 1 => by
    have := lstF_len f d
    simp only [lstF, List.length_append]
    split <;> simp <;> omega
theorem lstF_congr {f g : Nat → Nat} : ∀ {d : Nat}, (∀ i, i < d → f i = g i) → lstF f d = lstF g d
  | 0, _ => rfl
  | d + 1, h => by
    simp only [lstF, h d (by omega)]
    rw [lstF_congr (fun i hi => h i (by omega))]
theorem toNat_u8 {d : Nat} (h : d < 256) : (UInt8.ofNat d).toNat = d := by simp; omega

theorem lstF_mem {f : Nat → Nat} : ∀ {d : Nat} {c : Coin}, d ≤ 256 → c ∈ lstF f d → c.d.toNat < d ∧ f c.d.toNat ≠ 0 ∧ c.n = Num.of (f c.d.toNat)
  | 0, c, _, h => by simp [lstF] at h
  | d + 1, c, hd, h => by
    simp only [lstF, List.mem_append] at h
    rcases h with h | h
    · obtain ⟨h1, h2⟩ := lstF_mem (by omega) h
      exact ⟨by omega, h2⟩
    · split at h
      · simp at h
      · simp at h; subst h
        rename_i h0
        have e : (UInt8.ofNat d).toNat = d := toNat_u8 (by omega)
        simp only [e]
        refine ⟨by omega, h0, by first | rfl | trivial⟩

theorem right_lstF {f : Nat → Nat} (hf : ∀ d, d < 8 → f d < 2 ^ 256) : ∀ d, d ≤ 8 → Right (lstF f d)
  | 0, _ => by simp [lstF, Right]
  | d + 1, h => by
    have ih := right_lstF hf d (by omega)
    simp only [lstF]
    split
    · simpa using ih
    · rename_i h0
      rw [right_snoc]
      have e : (UInt8.ofNat d).toNat = d := toNat_u8 (by omega)
      refine ⟨ih, ⟨by simp only [e]; omega, by rw [Num.of_v (hf d (by omega))]; exact h0⟩, fun b hb => ?_⟩
      have := (lstF_mem (by omega) hb).1
      simp only [e]; exact this

theorem amt_append (l m : List Coin) (d : Nat) : amt (l ++ m) d = if (∃ c ∈ l, c.d.toNat = d) then amt l d else amt m d := by
  induction l with
  | nil => simp
  | cons c l ih =>
    simp only [List.cons_append, amt]
    by_cases h : c.d.toNat = d
    · simp [h]
    · simp [h, ih]

theorem amt_none {l : List Coin} {d : Nat} (h : ∀ c ∈ l, c.d.toNat ≠ d) : amt l d = 0 := by
  induction l with
  | nil => rfl
  | cons c l ih =>
    unfold amt
    rw [if_neg (h c (by simp)), ih (fun c hc => h c (by simp [hc]))]

theorem amt_mem {l : List Coin} (hl : l.Pairwise (fun a b => a.d.toNat < b.d.toNat)) {c : Coin} (h : c ∈ l) : amt l c.d.toNat = c.n.v := by
  induction l with
  | nil => simp at h
  | cons b l ih =>
    unfold amt
    rw [List.pairwise_cons] at hl
    rcases List.mem_cons.1 h with rfl | h
    · simp
    · have := hl.1 c h
      rw [if_neg (by omega), ih hl.2 h]

theorem amt_lstF {f : Nat → Nat} (hf : ∀ d, d < 8 → f d < 2 ^ 256) {n d : Nat} (hn : n ≤ 8) (hd : d < n) : amt (lstF f n) d = f d := by
  have hR := right_lstF hf n hn
  by_cases h0 : f d = 0
  · rw [h0]
    apply amt_none
    intro c hc e
    have := (lstF_mem (by omega) hc).2.1
    rw [e] at this; exact this h0
  · have hm : ∀ n, d < n → (⟨UInt8.ofNat d, Num.of (f d)⟩ : Coin) ∈ lstF f n := by
      intro n
      induction n with
      | zero => intro h; omega
      | succ n ih =>
        intro h
        simp only [lstF, List.mem_append]
        by_cases e : d = n
        · subst e; right; simp [h0]
        · left; exact ih (by omega)
    have := amt_mem hR.2 (hm n hd)
    have e : (UInt8.ofNat d).toNat = d := toNat_u8 (by omega)
    simp only [e] at this
    rw [this, Num.of_v (hf d (by omega))]

theorem right_ext {l m : List Coin} (hl : Right l) (hm : Right m) (h : ∀ d, d < 8 → amt l d = amt m d) : l = m := by
  have key : ∀ (l m : List Coin), Right l → Right m → (∀ d, d < 8 → amt l d = amt m d) → ∀ c ∈ l, c ∈ m := by
    intro l m hl hm h c hc
    have h1 := h c.d.toNat (hl.1 c hc).1
    rw [amt_mem hl.2 hc] at h1
    by_cases hx : ∃ b ∈ m, b.d.toNat = c.d.toNat
    · obtain ⟨b, hb, e⟩ := hx
      rw [← e, amt_mem hm.2 hb] at h1
      have : b = c := Coin.ext (UInt8.toNat_inj.1 e) (Num.ext h1.symm)
      rwa [← this]
    · rw [amt_none (fun b hb e => hx ⟨b, hb, e⟩)] at h1
      exact absurd h1 (hl.1 c hc).2
  have nd : ∀ {l : List Coin}, Right l → l.Pairwise (fun a b => a ≠ b) := fun hl => hl.2.imp (fun h e => by subst e; omega)
  have hp : l.Perm m := (List.perm_ext_iff_of_nodup (nd hl) (nd hm)).2 (fun c => ⟨key l m hl hm h c, key m l hm hl (fun d hd => (h d hd).symm) c⟩)
  exact hp.eq_of_pairwise (le := fun a b => a.d.toNat < b.d.toNat) (fun a b _ _ h1 h2 => by omega) hl.2 hm.2

theorem lstF_amt {l : List Coin} (h : Right l) : lstF (amt l) 8 = l :=
  right_ext (right_lstF (fun d _ => amt_lt l d) 8 (by omega)) h (fun d hd => amt_lstF (fun d _ => amt_lt l d) (by omega) hd)

def posB (d : Nat) : Bool := decide (0 < d)
@[simp] theorem posB_zero : posB 0 = false := rfl
@[simp] theorem posB_succ (d : Nat) : posB (d + 1) = true := by simp [posB]
theorem posB_no {d : Nat} (h : posB d = false) : d = 0 := by simpa [posB] using h
def oneL (d : UInt8) (n : Num) : List Coin := if d.toNat < 8 ∧ n.v ≠ 0 then [⟨d, n⟩] else []
theorem lstF_one {f : Nat → Nat} {D : UInt8} (h : D.toNat < 8) (hf : f D.toNat < 2 ^ 256) : lstF f (D.toNat + 1) = lstF f D.toNat ++ oneL D (Num.of (f D.toNat)) := by
  simp only [lstF, oneL, Num.of_v hf]
  congr 1
  by_cases h0 : f D.toNat = 0
  · simp [h0]
  · rw [if_neg h0, if_pos ⟨h, h0⟩]
    have : UInt8.ofNat D.toNat = D := by simp
    rw [this]

def grA (k sz : Nat) (b : Bool) (cs : List AV) (n : Nat) : AV := bif b then .sl sz cs n (.own k) else .sl 0 [] 0 .full
def grT (b : Bool) (n : Nat) : List Nat := bif b then [n] else []
@[simp] theorem grA_no (k sz : Nat) (cs : List AV) (n : Nat) : grA k sz false cs n = .sl 0 [] 0 .full := rfl
@[simp] theorem grA_yes (k sz : Nat) (cs : List AV) (n : Nat) : grA k sz true cs n = .sl sz cs n (.own k) := rfl
@[simp] theorem grT_no (n : Nat) : grT false n = [] := rfl
@[simp] theorem grT_yes (n : Nat) : grT true n = [n] := rfl
theorem wk_grA {k sz : Nat} {b : Bool} {cs : List AV} {n : Nat} (h : b = false → cs = [] ∧ n = 0) : Wk (grA k sz b cs n) (.sl sz cs n .shut) := by
  cases b with
  | false => obtain ⟨rfl, rfl⟩ := h rfl; exact Wk.nil _ _ _
  | true => exact Wk.shut _ _ _ _
theorem append_gr {P : Program} {t e : TypeId} {i : TI} {b : Bool} {cs ys : List AV} {n m sz' : Nat} {tl : Tail} {objs : List (List AV)} {tk : List Nat} {gl : Nat → Option (List AV)} {rows : List RowSt}
    (ht : elemT P t = some e) (hi : ti P e = some i) (h0 : 0 < i.size) (hz : i.zero.cells.size = i.size) (hb : b = false → cs = [] ∧ n = 0) (hs : sz' = i.size ∨ m = 0) (hr : (n + m) * i.bytes ≤ roomA) (hm : n + m ≤ maxLen) :
    appendA P t (grA tk.length i.size b cs n) (.sl sz' ys m tl) ⟨objs, tk ++ grT b n, gl, rows⟩ = some (grA tk.length i.size true (cs ++ ys) (n + m), ⟨objs, tk ++ grT true (n + m), gl, rows⟩) := by
  cases b with
  | false =>
    obtain ⟨rfl, rfl⟩ := hb rfl
    simp [grA, grT, appendA, readA, ht, hi, h0, hz, hs] at hr hm ⊢
    exact ⟨hr, hm⟩
  | true =>
    simp [grA, grT, appendA, readA, ht, hi, h0, hz, hs, hr, hm]

def purA (P : List Nat) : List AV := P.flatMap numA
theorem purA_len (P : List Nat) : (purA P).length = P.length * 4 := flat_length numA 4 (fun _ => rfl) P
theorem purA_at {P : List Nat} {d : Nat} (h : d < P.length) : (purA P).drop (d * 4) = numA P[d] ++ restC numA P d := flat_at numA 4 (fun _ => rfl) P d h
theorem purA_set {P : List Nat} {d : Nat} (h : d < P.length) (n : Nat) : (purA P).take (d * 4) ++ (numA n ++ (purA P).drop (d * 4 + 4)) = purA (P.set d n) := by
  have := flat_set numA 4 (fun _ => rfl) P d h n
  unfold splice at this
  rw [List.append_assoc] at this
  exact this
theorem purA_under (B : Bd) : ∀ P : List Nat, underL B (purA P) = true := underL_flat (fun _ => rfl)
theorem purA_noObj (n : Nat) : ∀ P : List Nat, noObjL n (purA P) = true := noObjL_flat (fun _ => rfl)
theorem purA_isCell (P : List Nat) : (purA P).all AV.isCell = true := by
  induction P with
  | nil => rfl
  | cons x P ih => simp only [purA, List.flatMap_cons, List.all_append, Bool.and_eq_true] at ih ⊢; exact ⟨rfl, ih⟩
def purF (f : Nat → Nat) : List Nat := (List.range 8).map f
@[simp] theorem purF_len (f : Nat → Nat) : (purF f).length = 8 := by simp [purF]
theorem purF_get {f : Nat → Nat} {d : Nat} (h : d < 8) : (purF f)[d]'(by simpa using h) = f d := by simp [purF]
theorem purF_congr {f g : Nat → Nat} (h : ∀ d, d < 8 → f d = g d) : purF f = purF g := List.map_congr_left (fun d hd => h d (by simpa using hd))
theorem purF_set {f : Nat → Nat} {d n : Nat} : (purF f).set d n = purF (fun j => if j = d then n else f j) := by
  apply List.ext_getElem
  · simp
  · intro i h1 h2
    rw [List.getElem_set]
    simp [purF]
    split
    · rename_i h; simp [h]
    · rename_i h; rw [if_neg (fun e => h e.symm)]
theorem purA_zero : purA (purF fun _ => 0) = [.v (.int .u64 0), .v (.int .u64 0), .v (.int .u64 0), .v (.int .u64 0), .v (.int .u64 0), .v (.int .u64 0), .v (.int .u64 0), .v (.int .u64 0), .v (.int .u64 0), .v (.int .u64 0), .v (.int .u64 0), .v (.int .u64 0), .v (.int .u64 0), .v (.int .u64 0), .v (.int .u64 0), .v (.int .u64 0), .v (.int .u64 0), .v (.int .u64 0), .v (.int .u64 0), .v (.int .u64 0), .v (.int .u64 0), .v (.int .u64 0), .v (.int .u64 0), .v (.int .u64 0), .v (.int .u64 0), .v (.int .u64 0), .v (.int .u64 0), .v (.int .u64 0), .v (.int .u64 0), .v (.int .u64 0), .v (.int .u64 0), .v (.int .u64 0)] := rfl

theorem amt_snoc {l : List Coin} {c : Coin} (h : Right (l ++ [c])) (d : Nat) : amt (l ++ [c]) d = if d = c.d.toNat then c.n.v else amt l d := by
  rw [amt_append]
  have h3 := (right_snoc.1 h).2.2
  by_cases hd : d = c.d.toNat
  · subst hd
    rw [if_pos rfl, if_neg]
    · simp [amt]
    · rintro ⟨b, hb, e⟩
      have := h3 b hb; omega
  · rw [if_neg hd]
    split
    · rfl
    · rename_i hn
      have h0 : amt l d = 0 := amt_none (fun c hc e => hn ⟨c, hc, e⟩)
      rw [h0]
      simp [amt]
      intro e; exact absurd e.symm hd

def neB : List Coin → Bool
  | [] => false
  | _ :: _ => true
@[simp] theorem neB_nil : neB [] = false := rfl
@[simp] theorem neB_snoc (l : List Coin) (c : Coin) : neB (l ++ [c]) = true := by cases l <;> rfl
theorem neB_no {l : List Coin} (h : neB l = false) : l = [] := by cases l <;> simp [neB] at h ⊢

def eachE (F : Nat → Nat → Nat × Nat) (a b : List Coin) : Nat → Nat
  | 0 => 0
  | d + 1 => if eachE F a b d ≠ 0 then eachE F a b d else (F (amt a d) (amt b d)).2
def eachL (F : Nat → Nat → Nat × Nat) (a b : List Coin) : List Coin := if eachE F a b 8 = 0 then lstF (fun d => (F (amt a d) (amt b d)).1) 8 else []
theorem eachE_stop {F : Nat → Nat → Nat × Nat} {a b : List Coin} {d : Nat} (h : eachE F a b d ≠ 0) : ∀ k, eachE F a b (d + k) = eachE F a b d
  | 0 => rfl
  | k + 1 => by
    have := eachE_stop h k
    rw [← Nat.add_assoc]
    show (if eachE F a b (d + k) ≠ 0 then eachE F a b (d + k) else _) = _
    rw [this, if_pos h]
theorem eachE_iff {F : Nat → Nat → Nat × Nat} {a b : List Coin} : ∀ n, eachE F a b n = 0 ↔ ∀ d, d < n → (F (amt a d) (amt b d)).2 = 0
  | 0 => by simp [eachE]
  | n + 1 => by
    have ih := eachE_iff (F := F) (a := a) (b := b) n
    constructor
    · intro h d hd
      unfold eachE at h
      split at h
      · contradiction
      · rename_i h0
        by_cases e : d = n
        · subst e; exact h
        · exact ih.1 (by simpa using h0) d (by omega)
    · intro h
      unfold eachE
      rw [if_neg (by simpa using ih.2 (fun d hd => h d (by omega)))]
      exact h n (by omega)
def addN (x y : Nat) : Nat := if x + y < 2 ^ 256 then x + y else 0
def addE (x y : Nat) : Nat := if x + y < 2 ^ 256 then 0 else 2
theorem addN_lt (x y : Nat) : addN x y < 2 ^ 256 := by unfold addN; split <;> first | assumption | decide
def cAddE (a b : List Coin) : Nat := eachE (fun x y => (addN x y, addE x y)) a b 8
def cAddL (a b : List Coin) : List Coin := eachL (fun x y => (addN x y, addE x y)) a b
def cRest (a b : List Coin) : List Coin := eachL (fun x y => (x - y, 0)) a b
theorem cAddE_zero {a b : List Coin} : cAddE a b = 0 ↔ ∀ d, d < 8 → amt a d + amt b d < 2 ^ 256 := by
  unfold cAddE
  rw [eachE_iff]
  constructor
  · intro h d hd
    have := h d hd
    simp only [addE] at this
    split at this
    · assumption
    · omega
  · intro h d hd
    simp only [addE, if_pos (h d hd)]
theorem cAddL_yes {a b : List Coin} (h : cAddE a b = 0) : cAddL a b = lstF (fun d => amt a d + amt b d) 8 := by
  have h' : eachE (fun x y => (addN x y, addE x y)) a b 8 = 0 := h
  unfold cAddL eachL
  rw [if_pos h']
  exact lstF_congr (fun d hd => by simp only [addN, if_pos (cAddE_zero.1 h d hd)])
theorem cAddL_no {a b : List Coin} (h : ¬ cAddE a b = 0) : cAddL a b = [] := by
  have h' : ¬ eachE (fun x y => (addN x y, addE x y)) a b 8 = 0 := h
  unfold cAddL eachL; rw [if_neg h']
theorem cRest_eq (a b : List Coin) : cRest a b = lstF (fun d => amt a d - amt b d) 8 := by
  unfold cRest eachL
  rw [if_pos ((eachE_iff 8).2 (fun _ _ => rfl))]
theorem cAddE_val (a b : List Coin) : cAddE a b = 0 ∨ cAddE a b = 2 := by
  unfold cAddE
  have : ∀ n, eachE (fun x y => (addN x y, addE x y)) a b n = 0 ∨ eachE (fun x y => (addN x y, addE x y)) a b n = 2 := by
    intro n
    induction n with
    | zero => exact .inl rfl
    | succ n ih =>
      unfold eachE
      split
      · exact ih
      · simp only [addE]; split
        · exact .inl rfl
        · exact .inr rfl
  exact this 8
theorem right_cAdd (a b : List Coin) : Right (cAddL a b) := by
  by_cases h : cAddE a b = 0
  · rw [cAddL_yes h]; exact right_lstF (cAddE_zero.1 h) 8 (by omega)
  · rw [cAddL_no h]; exact right_nil
theorem right_cRest (a b : List Coin) : Right (cRest a b) := by
  rw [cRest_eq]; exact right_lstF (fun d _ => Nat.lt_of_le_of_lt (Nat.sub_le _ _) (amt_lt a d)) 8 (by omega)
theorem amt_cRest (a b : List Coin) {d : Nat} (hd : d < 8) : amt (cRest a b) d = amt a d - amt b d := by
  rw [cRest_eq]; exact amt_lstF (fun d _ => Nat.lt_of_le_of_lt (Nat.sub_le _ _) (amt_lt a d)) (by omega) hd
theorem right_len {l : List Coin} (h : Right l) : l.length ≤ 8 := by
  rw [← lstF_amt h]; exact lstF_len _ _

theorem nilrow_sound {G : Gh} {w : World} {σ : St} (hS : RelS G w σ) : ∃ G', Ext G w G' w ∧ RelS G' w { σ with rows := σ.rows ++ [⟨0, [], none⟩] } ∧ G'.rw σ.rows.length = some (0, 0, 0, 0) := by
  let G' : Gh := { G with rw := fun i' => if i' = σ.rows.length then some (0, 0, 0, 0) else G.rw i' }
  have hE : Ext G w G' w := by
    refine ⟨rfl, rfl, rfl, rfl, Nat.le_refl _, fun _ c _ _ h => ⟨c, h, rfl, fun _ _ => rfl⟩, fun _ _ h _ => h, fun _ _ h => h, fun _ _ _ h => h, fun _ _ h => h, fun _ m r h => ⟨m, r, h, Nat.le_refl _, fun _ => rfl⟩, fun q m r hq => ⟨m, r, ?_, Nat.le_refl _, fun _ => rfl⟩⟩
    show (if q = _ then _ else _) = _
    rw [if_neg (fun e => by subst e; exact rw_fresh hS _ hq)]; exact hq
  refine ⟨G', hE, ⟨?_, hS.inj, hS.tok, hS.fresh, fun g cs2 hg => (hS.gl g cs2 hg).mono hE, hS.tot, hS.totk, ?_, ?_⟩, if_pos rfl⟩
  · intro id b hp
    obtain ⟨c2, e2, cs2, h1, h2, h3, h4, h5⟩ := hS.obj id b hp
    exact ⟨c2, e2, cs2, h1, h2, h3, h4, fun j x a hx ha => (h5 j x a hx ha).mono hE⟩
  · intro q gc b o C hq
    have hq' : (if q = σ.rows.length then some (0, 0, 0, 0) else G.rw q) = some (gc, b, o, C) := hq
    by_cases hql : q = σ.rows.length
    · subst hql
      rw [if_pos rfl] at hq'
      cases hq'
      exact ⟨⟨0, [], none⟩, by simp, rfl, by simp, ⟨fun s e => (by cases e), fun h => (by omega)⟩⟩
    · rw [if_neg hql] at hq'
      obtain ⟨r, h1, h2, h3, h4, h5⟩ := hS.row q gc b o C hq'
      refine ⟨r, by show (σ.rows ++ _)[q]? = _; rw [List.getElem?_append_left (List.getElem?_eq_some_iff.1 h1).1]; exact h1, h2, h3, h4, fun hC => ?_⟩
      obtain ⟨c2, e2, g1, g2, g3, g4, g5⟩ := h5 hC
      exact ⟨c2, e2, g1, g2, g3, g4, fun j x a hx ha => (g5 j x a hx ha).mono hE⟩
  · intro q hq
    show ∃ p, (if q = σ.rows.length then some (0, 0, 0, 0) else G.rw q) = some p
    by_cases hql : q = σ.rows.length
    · rw [if_pos hql]; exact ⟨_, rfl⟩
    · rw [if_neg hql]; exact hS.totr q (by simp at hq; omega)

section
variable {z : Zone} {P : Program} {N : Nat} {ρ : Nat → AV} {σ : St}

theorem Rel.turn {G : Gh} {w : World} {a : Act} (hR : Rel N G w ρ σ a) {G' : Gh} {σ' : St} {ρ' : Nat → AV} (hE : Ext G w G' w) (hS : RelS G' w σ') (he : ∀ i, AVR G' w (a.tmps.getD i undef) (ρ' i)) : Rel N G' w ρ' σ' a :=
  ⟨hS, ⟨hR.defers.1.mono hE, hR.defers.2.1, by rw [hE.base]; exact hR.defers.2.2⟩, hR.size, he⟩

theorem nilrow_rel {G : Gh} {w : World} {a : Act} (hR : Rel N G w ρ σ a) (d sz : Nat) {s : Nat} (h : ρ d = .sl s [] 0 .full) :
    ∃ G', Ext G w G' w ∧ Rel N G' w (putA ρ (some d) (.row σ.rows.length 0 0 sz 0)) { σ with rows := σ.rows ++ [⟨0, [], none⟩] } a := by
  obtain ⟨G', hE, hS, hrw⟩ := nilrow_sound hR.s
  refine ⟨G', hE, hR.turn hE hS (fun i => ?_)⟩
  by_cases hi : i = d
  · subst hi
    have hx := hR.env i
    rw [h] at hx
    obtain ⟨ad, c, e1, e2⟩ := sl_empty_full hx
    subst e2
    rw [e1]
    show AVR G' w _ (if i = i then _ else _)
    rw [if_pos rfl]
    exact .row hrw (Nat.le_refl _) (Nat.le_refl _) (fun h => (h rfl).elim) (fun _ => ⟨by simp, fun h => (h rfl).elim⟩)
  · show AVR G' w _ (if i = d then _ else _)
    rw [if_neg hi]
    exact (hR.env i).mono hE

theorem run_nilrow {c : Code} {Q : Exit → (Nat → AV) → St → Prop} (d sz : Nat) {s : Nat} (h : ρ d = .sl s [] 0 .full := by first | rfl | (simp [F]; done))
    (k : Run z P N c (putA ρ (some d) (.row σ.rows.length 0 0 sz 0)) { σ with rows := σ.rows ++ [⟨0, [], none⟩] } Q) : Run z P N c ρ σ Q := fun G w a R hR hK => by
  obtain ⟨G', hE, hR'⟩ := nilrow_rel hR d sz h
  exact k G' w a R hR' (fun e ρ' σ' G2 a' w' hq hE2 hR2 => hK e ρ' σ' G2 a' w' hq (hE.trans hE2) hR2)
theorem freeze_rel {G : Gh} {w : World} {a : Act} (hR : Rel N G w ρ σ a) (d : Nat) {k g off sz n : Nat} {cells : List AV} {sp : Option Nat} (h : ρ d = .row k g off sz n) (hr : σ.rows[k]? = some ⟨g, cells, sp⟩) (hl : off + n * sz ≤ cells.length) :
    ∃ G', Ext G w G' w ∧ Rel N G' w (putA ρ (some d) (.sl sz ((cells.drop off).take (n * sz)) n .shut)) { σ with rows := σ.rows.set k ⟨g + 1, [], none⟩ } a := by
  obtain ⟨G1, e1, e2, e3⟩ := fr_sound hR.s hr
  refine ⟨G1, e1, hR.turn e1 (e3 σ.objs rfl (fun id cs ds h1 h2 => by rw [h1] at h2; cases h2; exact FrL.refl _)) (fun i => ?_)⟩
  by_cases hi : i = d
  · subst hi
    have hx := hR.env i
    rw [h] at hx
    show AVR G1 w _ (if i = i then _ else _)
    rw [if_pos rfl]
    exact e2 _ _ _ hx (.row hl)
  · show AVR G1 w _ (if i = d then _ else _)
    rw [if_neg hi]
    exact (hR.env i).mono e1

theorem run_freeze {c : Code} {Q : Exit → (Nat → AV) → St → Prop} (d : Nat) {k g off sz n : Nat} {cells : List AV} {sp : Option Nat} (h : ρ d = .row k g off sz n := by first | rfl | (simp [F]; done) | (simp [F]; exact ⟨rfl, rfl, rfl⟩) | (simp [F]; exact ⟨rfl, rfl, rfl, rfl, rfl⟩)) (hr : σ.rows[k]? = some ⟨g, cells, sp⟩ := by first | rfl | (simp [F]; done) | (simp [F]; rfl) | (simp [F]; exact ⟨rfl, rfl⟩) | (simp [F]; exact ⟨rfl, rfl, rfl⟩)) (hl : off + n * sz ≤ cells.length := by first | (simp [F]; done) | omega | (simp [F]; omega))
    (kk : Run z P N c (putA ρ (some d) (.sl sz ((cells.drop off).take (n * sz)) n .shut)) { σ with rows := σ.rows.set k ⟨g + 1, [], none⟩ } Q) : Run z P N c ρ σ Q := fun G w a R hR hK => by
  obtain ⟨G', hE, hR'⟩ := freeze_rel hR d h hr hl
  exact kk G' w a R hR' (fun e ρ' σ' G2 a' w' hq hE2 hR2 => hK e ρ' σ' G2 a' w' hq (hE.trans hE2) hR2)
theorem runL_freeze {ops : Array Oper} {l : List Oper} {K : (Nat → AV) → St → Prop} (d : Nat) {k g off sz n : Nat} {cells : List AV} {sp : Option Nat} (h : ρ d = .row k g off sz n := by first | rfl | (simp [F]; done) | (simp [F]; exact ⟨rfl, rfl, rfl⟩) | (simp [F]; exact ⟨rfl, rfl, rfl, rfl, rfl⟩)) (hr : σ.rows[k]? = some ⟨g, cells, sp⟩ := by first | rfl | (simp [F]; done) | (simp [F]; rfl) | (simp [F]; exact ⟨rfl, rfl⟩) | (simp [F]; exact ⟨rfl, rfl, rfl⟩)) (hl : off + n * sz ≤ cells.length := by first | (simp [F]; done) | omega | (simp [F]; omega))
    (kk : RunL z P N ops l (putA ρ (some d) (.sl sz ((cells.drop off).take (n * sz)) n .shut)) { σ with rows := σ.rows.set k ⟨g + 1, [], none⟩ } K) : RunL z P N ops l ρ σ K := fun G w a R hR hK => by
  obtain ⟨G', hE, hR'⟩ := freeze_rel hR d h hr hl
  exact kk G' w a R hR' (fun ρ' σ' G2 a' w' hq hE2 hR2 => hK ρ' σ' G2 a' w' hq (hE.trans hE2) hR2)

theorem run_fz {c : Code} {Q : Exit → (Nat → AV) → St → Prop} (d sz : Nat) {q g n : Nat} {cells : List AV} {sp : Option Nat} (h : ρ d = .row q g 0 sz n := by first | rfl | (simp [F]; done) | (simp [F]; exact ⟨rfl, rfl, rfl⟩) | (simp [F]; exact ⟨rfl, rfl, rfl, rfl, rfl⟩)) (hr : σ.rows[q]? = some ⟨g, cells, sp⟩ := by first | rfl | (simp [F]; done) | (simp [F]; rfl) | (simp [F]; exact ⟨rfl, rfl⟩) | (simp [F]; exact ⟨rfl, rfl, rfl⟩)) (hl : cells.length = n * sz := by first | (simp [F]; done) | omega | (simp [F]; omega))
    (k : Run z P N c (putA ρ (some d) (.sl sz cells n .shut)) { σ with rows := σ.rows.set q ⟨g + 1, [], none⟩ } Q) : Run z P N c ρ σ Q :=
  run_freeze d h hr (by omega) (by rw [List.drop_zero, List.take_of_length_le (by omega)]; exact k)
theorem runL_fz {ops : Array Oper} {l : List Oper} {K : (Nat → AV) → St → Prop} (d sz : Nat) {q g n : Nat} {cells : List AV} {sp : Option Nat} (h : ρ d = .row q g 0 sz n := by first | rfl | (simp [F]; done) | (simp [F]; exact ⟨rfl, rfl, rfl⟩) | (simp [F]; exact ⟨rfl, rfl, rfl, rfl, rfl⟩)) (hr : σ.rows[q]? = some ⟨g, cells, sp⟩ := by first | rfl | (simp [F]; done) | (simp [F]; rfl) | (simp [F]; exact ⟨rfl, rfl⟩) | (simp [F]; exact ⟨rfl, rfl, rfl⟩)) (hl : cells.length = n * sz := by first | (simp [F]; done) | omega | (simp [F]; omega))
    (k : RunL z P N ops l (putA ρ (some d) (.sl sz cells n .shut)) { σ with rows := σ.rows.set q ⟨g + 1, [], none⟩ } K) : RunL z P N ops l ρ σ K :=
  runL_freeze d h hr (by omega) (by rw [List.drop_zero, List.take_of_length_le (by omega)]; exact k)

theorem callsA_gcO {f : FuncId} {args : List AV} {A : AV} {τ : St} (k : CallsA P f args σ (fun av σ' => av = A ∧ GoneO σ σ' ∧ σ.trimO σ' = τ)) (hA : A.noObj σ.objs.length = true) : CallsA P f args σ (fun av σ' => av = A ∧ σ' = τ) := by
  intro G w vs R hS hl hr hK
  refine k G w vs R hS hl hr (fun v av σ0 G' w' hq hE hS' hv => ?_)
  obtain ⟨rfl, hg, rfl⟩ := hq
  obtain ⟨h1, h2⟩ := hS.trimO hS' hE hg
  exact hK v _ _ _ w' ⟨rfl, rfl⟩ h1 h2 (hv.forgetO hE hS.tot hA)
end

theorem gco {av A : AV} {σ σ' τ : St} (hA : av = A := by first | rfl | (simp [F]; done)) (hg : GoneO σ σ' := by exact gk) (ht : σ.trimO σ' = τ := by first | rfl | (simp [F, St.trimO]; done)) : av = A ∧ GoneO σ σ' ∧ σ.trimO σ' = τ := ⟨hA, hg, ht⟩
end Go.Vm

/-
  A list that is built of parts, and that is a row from then on.
-/
namespace Go.Vm
set_option linter.unnecessarySimpa false
set_option linter.unusedSimpArgs false
set_option linter.unusedVariables false
open Go
section
variable {P : Program} {G : Gh} {w : World} {σ : St}

theorem buildSlice_run {t : TypeId} {len sz n : Nat} {cs : List AV} {tl : Tail} {vs : List (Nat × Value)} {ps : List (Nat × AV)} (hv : Fa2 (fun (p : Nat × Value) (q : Nat × AV) => p.1 = q.1 ∧ AVR G w p.2 q.2) vs ps) (h : buildSliceA P t len ps = some (.sl sz cs n tl)) :
    ∃ c e, (Instr.buildSlice t len vs.toArray).run P w = .ok (.slice (some ⟨w.heap.size, 0, none⟩) n n) (w.alloc (.cells c e)) ∧ elemT P t = some e ∧ c.size = cs.length ∧ cs.length = n * sz ∧ (∀ (q : Nat) x, c[q]? = some x → x.oneCell' = true) ∧ (∀ (q : Nat) x b, c[q]? = some x → cs[q]? = some b → AVR G w x b) := by
  unfold buildSliceA at h
  split at h
  case h_2 => cases h
  rename_i e he
  split at h
  case h_2 => cases h
  rename_i i z hi hz
  split at h
  case isFalse => cases h
  rename_i hcond
  obtain ⟨hpos, hzl, hlim⟩ := hcond
  split at h
  case h_2 => cases h
  rename_i cs hf
  split at h
  case isFalse => cases h
  rename_i hall
  cases h
  obtain ⟨zv, hzr, hzv⟩ := zeroA_sound (G := G) (w := w) hz
  obtain ⟨d, j, hd, hj, hzj, hag, hsz, hby⟩ := ti_some hi
  obtain ⟨hce, hcr⟩ := hzv.cells_eq
  have ht := elemT_some he
  have hlim' : ¬ (len * j.size > 2 ^ 24) := by rw [← hsz]; omega
  let z0 : Array Value := if len * j.size = 0 then #[] else zv.cells
  let cur : Array Value := (Array.range (len * j.size)).map (fun x => z0[x % z0.size]!)
  have hcur : cur.size = len * j.size := by simp [cur]
  have hcr2 : ∀ (k : Nat) x b, cur[k]? = some x → ((List.range (len * i.size)).map fun k => z.cells.getD (k % i.size) undefA)[k]? = some b → AVR G w x b := by
    intro k x b hx hb
    have hk : k < len * j.size := by have := (Array.getElem?_eq_some_iff.1 hx).1; omega
    have hk' : k < len * i.size := by rw [hsz]; exact hk
    have hne : ¬ (len * j.size = 0) := by omega
    have hz0e : z0 = zv.cells := by simp [z0, hne]
    have hmod : k % zv.cells.size < zv.cells.size := Nat.mod_lt _ (by rw [hce, hzl]; exact hpos)
    simp [cur, hk, hz0e] at hx
    simp [hk'] at hb
    subst hx
    have hcs : zv.cells.size = i.size := by rw [hce, hzl]
    rw [getElem!_pos zv.cells (k % zv.cells.size) hmod]
    refine hcr (k % zv.cells.size) _ _ (Array.getElem?_eq_getElem hmod) ?_
    rw [hcs]
    have := getD_mod z.cells k i.size hzl hpos
    rw [this, ← hb]
    simp [List.getD]
  obtain ⟨c, hc, hcl, hcr3⟩ := fill_sound (fun i' => some (i' * j.size, j.size)) _ (fun q x h => by
    simp only [List.getElem?_map] at h
    by_cases hq : q < len
    · simp [hq] at h; rw [← h, hsz]
    · simp [hq] at h) vs ps cur _ cs hv (by simp [hcur, hsz]) hcr2 hf
  have hcsz : c.size = len * i.size := by
    have : ∀ (zs : List (Nat × AV)) (x y : List AV), fillA ((List.range len).map fun k => (k * i.size, i.size)) x zs = some y → y.length = x.length := by
      intro zs
      induction zs with
      | nil => intro x y h; simp [fillA] at h; rw [h]
      | cons p zs ih =>
        intro x y h
        unfold fillA at h
        split at h
        · split at h
          · rename_i hc
            rw [ih _ _ h, splice_length _ _ _ (by rw [hc.1]; exact hc.2)]
          · cases h
        · cases h
    have := this ps _ _ hf
    simp at this
    omega
  have hrun : (Instr.buildSlice t len vs.toArray).run P w = .ok (.slice (some ⟨w.heap.size, 0, none⟩) len len) (w.alloc (.cells c e)) := by
    unfold Instr.buildSlice
    simp only [Sem.run_bind, run_underlying ht, Result.andThen_ok, run_sizeOf w hj, if_neg hlim']
    by_cases h0 : len * j.size = 0
    · have hz0e : z0 = #[] := by simp [z0, h0]
      have hc' := hc
      simp only [cur, hz0e] at hc'
      rw [if_pos h0]
      simp only [Sem.run_bind, Sem.run_pure, Result.andThen_ok]
      rw [hc']
      simp [newRow]
    · have hz0e : z0 = zv.cells := by simp [z0, h0]
      have hc' := hc
      simp only [cur, hz0e] at hc'
      rw [if_neg h0]
      simp only [Sem.run_bind, Sem.run_pure, Result.andThen_ok, hzr]
      rw [hc']
      simp [newRow]
  have hone : ∀ (q : Nat) x, c[q]? = some x → x.oneCell' = true := fun q x hq => by
    have hlt : q < cs.length := by have := (Array.getElem?_eq_some_iff.1 hq).1; omega
    exact (hcr3 q x _ hq (List.getElem?_eq_getElem hlt)).oneCell (List.all_eq_true.1 hall _ (List.getElem_mem hlt))
  exact ⟨c, e, hrun, he, by omega, by omega, hone, hcr3⟩

theorem buildRow_sound (hS : RelS G w σ) {t : TypeId} {len sz n : Nat} {cs : List AV} {tl : Tail} {vs : List (Nat × Value)} {ps : List (Nat × AV)} (hv : Fa2 (fun (p : Nat × Value) (q : Nat × AV) => p.1 = q.1 ∧ AVR G w p.2 q.2) vs ps) (h : buildSliceA P t len ps = some (.sl sz cs n tl)) :
    ∃ y w' G', (Instr.buildSlice t len vs.toArray).run P w = .ok y w' ∧ Ext G w G' w' ∧ RelS G' w' { σ with rows := σ.rows ++ [⟨0, cs, none⟩] } ∧ AVR G' w' y (.row σ.rows.length 0 0 sz n) := by
  obtain ⟨c, e, hrun, _, hl, hn, hone, hcr3⟩ := buildSlice_run (P := P) hv h
  obtain ⟨G', f1, f2, f3⟩ := row_push hS e c cs none (by omega) (fun s e => by cases e) hone hcr3
  exact ⟨_, _, G', hrun, f1, f2, .row f3 (Nat.le_refl _) (Nat.le_refl _) (fun _ => ⟨_, _, rfl⟩) (fun _ => ⟨by omega, fun _ => rfl⟩)⟩
end

section
variable {z : Zone} {P : Program} {N : Nat} {ρ : Nat → AV} {σ : St}

end

section
variable {z : Zone} {P : Program} {N : Nat} {ρ : Nat → AV} {σ : St} {Q : Exit → (Nat → AV) → St → Prop} {ops : Array Oper} {rest : List Oper} {o : Oper} {K : (Nat → AV) → St → Prop}

end

end Go.Vm
