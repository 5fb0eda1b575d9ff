import Derived.Test.YtdbaddholggkbaaTab
import Derived.Test.YtdbaddholggkbaaVmN
import Derived.Test.YtdbaddholggkbaaVmY
import Derived.RangeFuncKeeps
import Derived.RangeFuncLeaves
import Derived.Shelf.Abstract
import Derived.WalkKit
import Derived.OwnWalkIn
import Derived.TacticsInMore
import Derived.LoopNIn
import Derived.LoopIn
/-
  The library's iterator over a slice, the last one first.
-/
namespace Go.Proofs.Ytdbaddholggkbaa
set_option linter.unnecessarySimpa false
set_option maxRecDepth 100000
open Go Go.Vm Go.RowKit Go.Shelf

attribute [local go_sem] Oper.semAt_some

def left : Value → Nat
  | .int _ n => (n + 1).toNat
  | _ => 0

set_option maxRecDepth 100000 in
set_option maxHeartbeats 2000000 in
theorem back62_in (n : Nat) (hn : 1 ≤ n) (l Bn Bo m c : Nat) (ad : Option Addr) (xs : List Value) (Good : Nat → Nat → Prop) (J Jx : List (Fin m) → World → Prop) (hm : m < 4611686018427387904) (hl : xs.length = m)
    (hx : ∀ (j : Nat) x, xs[j]? = some x → ∃ b o, ad = some ⟨b, o, none⟩ ∧ Good b (o + j))
    (hY : ∀ pre (i : Fin m) W, J pre W → pre.length < m → YieldAt Fence.wide (n - 1) Try.prog l #[.int .i64 i.val, xs[i.val]'(by omega)] W fun e W' =>
      (e = .returned (.bool true) ∧ J (pre ++ [i]) W' ∧ KeepsAt Good W W') ∨ (e = .returned (.bool false) ∧ Jx (pre ++ [i]) W'))
    (W : World) (hc : W.cell? ⟨Bn, Bo, none⟩ = some (.slice ad m c)) (hB : Good Bn Bo) (hxc : ∀ (j : Nat) x, xs[j]? = some x → ∀ b o, ad = some ⟨b, o, none⟩ → W.cell? ⟨b, o + j, none⟩ = some x) (h0 : J [] W) :
    CallsIn Fence.wide n Try.prog 154 #[.func (.yield l) #[] #[], .pointer (some ⟨Bn, Bo, none⟩)] W fun e W' => (∃ v, e = .returned v) ∧
      ((∃ ys : List (Fin m), ys.map Fin.val = (List.range m).reverse ∧ J ys W') ∨ (∃ pre : List (Fin m), pre.map Fin.val <+: (List.range m).reverse ∧ Jx pre W')) := by
  have hw1 : ∀ k : Nat, k ≤ m → IntKind.i64.wrap ((k : Int) - 1) = (k : Int) - 1 := fun k hk => wrap_i64 _ (by omega) (by omega)
  refine callsIn_of_wp Try.func154 rfl trivial ?_ rfl
  simp only [Try.ntmps154, List.size_toArray, List.length_cons, List.length_nil, Nat.reduceAdd, Nat.reduceSub, Array.replicate_succ, Array.replicate_zero, List.push_toArray, List.append_toArray, List.nil_append, List.cons_append]
  gi_wp2
  gi_loopw [3] (fun v wr => ∃ (k : Nat) (pre : List (Fin m)), k ≤ m ∧ v = .int .i64 ((k : Int) - 1) ∧ pre.map Fin.val = (List.range m).reverse.take (m - k) ∧ J pre wr ∧ wr.cell? ⟨Bn, Bo, none⟩ = some (.slice ad m c) ∧ (∀ (j : Nat) x, xs[j]? = some x → ∀ b o, ad = some ⟨b, o, none⟩ → wr.cell? ⟨b, o + j, none⟩ = some x))
    (fun v wr => left v)
  case atStart =>
    exact ⟨m, [], Nat.le_refl _, rfl, by simp, h0, hc, hxc⟩
  case round =>
    obtain ⟨k, pre, hk, rfl, hp, hJ, hc', hxc'⟩ := hrel
    cases k with
    | zero =>
      have e : ((0 : Nat) : Int) - 1 = -1 := by omega
      rw [e]
      gi_wp2
      go_end0
      exact ⟨⟨_, rfl⟩, .inl ⟨pre, by rw [hp]; exact List.take_of_length_le (by simp), hJ⟩⟩
    | succ k =>
      have hkl : k < xs.length := by omega
      have hxk : xs[k]? = some xs[k] := List.getElem?_eq_getElem hkl
      obtain ⟨b, o, rfl, hgood⟩ := hx k _ hxk
      have hcell := hxc' k _ hxk b o rfl
      have hlen : pre.length = m - (k + 1) := by
        have := congrArg List.length hp
        simpa using this
      obtain ⟨fn, tmps, assign, body, hy, hR⟩ := hY pre ⟨k, by omega⟩ wr hJ (by omega)
      have e : ((k + 1 : Nat) : Int) - 1 = (k : Int) := by omega
      rw [e]
      have hk0 : ¬ (k : Int) < 0 := by omega
      have hkm : (k : Int) < m := by omega
      gi_wp2
      refine hR.mono ?_
      have hsnoc : (pre ++ [(⟨k, by omega⟩ : Fin m)]).map Fin.val = (List.range m).reverse.take (m - k) := by
        have hlt : m - (k + 1) < ((List.range m).reverse).length := by simp; omega
        have e1 : m - k = m - (k + 1) + 1 := by omega
        rw [e1, List.take_succ_eq_append_getElem hlt, List.map_append, hp]
        congr 1
        simp
        omega
      rintro e3 W3 (⟨rfl, hJ3, hk3⟩ | ⟨rfl, hJx3⟩)
      · have hc3 : W3.cell? ⟨Bn, Bo, none⟩ = some (.slice (some ⟨b, o, none⟩) m c) := hk3 _ _ _ hB hc'
        have hx3 : ∀ (j : Nat) x, xs[j]? = some x → ∀ b' o', some (⟨b, o, none⟩ : Addr) = some ⟨b', o', none⟩ → W3.cell? ⟨b', o' + j, none⟩ = some x := by
          intro j x hj b' o' hb'
          cases hb'
          obtain ⟨b2, o2, h2, h3⟩ := hx j x hj
          cases h2
          exact hk3 _ _ _ h3 (hxc' j x hj _ _ rfl)
        gi_wp2
        go_roundw
        case rel => exact ⟨k, pre ++ [⟨k, by omega⟩], by omega, rfl, hsnoc, hJ3, hc3, hx3⟩
        case measure => simp [left]
      · gi_wp2
        refine bodyPost_ret (results_none rfl _ _ _) rfl ?_
        exact ⟨⟨_, rfl⟩, .inr ⟨pre ++ [⟨k, by omega⟩], by rw [hsnoc]; exact List.take_prefix _ _, hJx3⟩⟩

theorem backs62 : Backs Try.prog 154 (fun m => m < 4611686018427387904) := by
  intro n w Bn Bo m c ad xs Good hn hm hc hB hl hx l J Jx W hW _ _ hY h0
  have hin : ∀ {b o : Nat} {x : Value}, w.cell? ⟨b, o, none⟩ = some x → W.cell? ⟨b, o, none⟩ = some x := by
    intro b o x h
    obtain ⟨cs, e, fr, hb, _⟩ := cell_heap h
    have := hW.block b (Array.getElem?_eq_some_iff.1 hb).1
    obtain ⟨cs', e', fr', hb', hx'⟩ := cell_heap h
    rw [heap_cell (this.trans hb'), hx']
  exact back62_in n hn l Bn Bo m c ad xs Good J Jx hm hl (fun j x hj => let ⟨b, o, h1, h2, _⟩ := hx j x hj; ⟨b, o, h1, h2⟩) hY W (hin hc) hB (fun j x hj b o hb => by
    obtain ⟨b2, o2, h1, h2, h3⟩ := hx j x hj
    rw [h1] at hb; cases hb
    exact hin h3) h0

end Go.Proofs.Ytdbaddholggkbaa
