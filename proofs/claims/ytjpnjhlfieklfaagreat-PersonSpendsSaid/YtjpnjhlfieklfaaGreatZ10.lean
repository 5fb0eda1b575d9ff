import Derived.Test.YtjpnjhlfieklfaaGreatZ8
import Derived.Test.YtjpnjhlfieklfaaGreatZ7
import Derived.Test.YtjpnjhlfieklfaaGreatZ9
import Derived.RangeFuncKeeps
import Derived.RangeFuncLeaves
import Derived.Shelf.Abstract
import Derived.WalkKit
import Derived.OwnWalkIn
import Derived.TacticsInMore
import Derived.LoopNIn
import Derived.LoopIn
set_option linter.unnecessarySimpa false
set_option maxRecDepth 100000
set_option linter.unusedSimpArgs false
set_option linter.unusedVariables false
namespace Go.Proofs.YtjpnjhlfieklfaaGreat
open Go Go.Vm Go.RowKit Go.Shelf
attribute [local go_sem] Oper.semAt_some
def left : Value → Nat
 | .int _ n => (n + 1).toNat
 | _ => 0
set_option maxRecDepth 100000 in
set_option maxHeartbeats 2000000 in
theorem Gg (n : Nat) (hn : 1 ≤ n) (l Bn Bo m c : Nat) (ad : Option Addr) (xs : List Value) (Good : Nat → Nat → Prop) (J Jx : List (Fin m) → World → Prop) (hm : m < 4611686018427387904) (hl : xs.length = m)
  (hx : ∀ (j : Nat) x, xs[j]? = some x → ∃ b o, ad = some ⟨b, o, none⟩ ∧ Good b (o + j))
  (hY : ∀ pre (i : Fin m) W, J pre W → pre.length < m → YieldAt Fence.wide (n - 1) Tryz.prog l #[.int .i64 i.val, xs[i.val]'(by omega)] W fun e W' =>
   (e = .returned (.bool true) ∧ J (pre ++ [i]) W' ∧ pU Good W W') ∨ (e = .returned (.bool false) ∧ Jx (pre ++ [i]) W'))
  (W : World) (hc : W.cell? ⟨Bn, Bo, none⟩ = some (.slice ad m c)) (hB : Good Bn Bo) (hxc : ∀ (j : Nat) x, xs[j]? = some x → ∀ b o, ad = some ⟨b, o, none⟩ → W.cell? ⟨b, o + j, none⟩ = some x) (h0 : J [] W) :
  CallsIn Fence.wide n Tryz.prog 137 #[.func (.yield l) #[] #[], .pointer (some ⟨Bn, Bo, none⟩)] W fun e W' => (∃ v, e = .returned v) ∧
   ((∃ ys : List (Fin m), ys.map Fin.val = (List.range m).reverse ∧ J ys W') ∨ (∃ pre : List (Fin m), pre.map Fin.val <+: (List.range m).reverse ∧ Jx pre W')) := by
 have hw1 : ∀ k : Nat, k ≤ m → IntKind.i64.wrap ((k : Int) - 1) = (k : Int) - 1 := fun k hk => wrap_i64 _ (by omega) (by omega)
 refine callsIn_of_wp Tryz.func137 rfl trivial ?_ rfl; simp only [Tryz.ntmps137, List.size_toArray, List.length_cons, List.length_nil, Nat.reduceAdd, Nat.reduceSub, Array.replicate_succ, Array.replicate_zero, List.push_toArray, List.append_toArray, List.nil_append, List.cons_append]
 gi_wp2
 gi_loopw [3] (fun v wr => ∃ (k : Nat) (pre : List (Fin m)), k ≤ m ∧ v = .int .i64 ((k : Int) - 1) ∧ pre.map Fin.val = (List.range m).reverse.take (m - k) ∧ J pre wr ∧ wr.cell? ⟨Bn, Bo, none⟩ = some (.slice ad m c) ∧ (∀ (j : Nat) x, xs[j]? = some x → ∀ b o, ad = some ⟨b, o, none⟩ → wr.cell? ⟨b, o + j, none⟩ = some x))
  (fun v wr => left v)
 case atStart =>
  exact ⟨m, [], Nat.le_refl _, rfl, by simp, h0, hc, hxc⟩
 case round =>
  obtain ⟨k, pre, hk, rfl, hp, hJ, hc', hxc'⟩ := hrel
  cases k with
  | zero =>
    have e : ((0 : Nat) : Int) - 1 = -1 := by omega
    rw [e]
    gi_wp2
    go_end0
    exact ⟨⟨_, rfl⟩, .inl ⟨pre, by rw [hp]; exact List.take_of_length_le (by simp), hJ⟩⟩
  | succ k =>
    have hkl : k < xs.length := by omega
    have hxk : xs[k]? = some xs[k] := List.getElem?_eq_getElem hkl
    obtain ⟨b, o, rfl, hgood⟩ := hx k _ hxk
    have hcell := hxc' k _ hxk b o rfl
    have hlen : pre.length = m - (k + 1) := by
     have := congrArg List.length hp
     simpa using this
    obtain ⟨fn, tmps, assign, body, hy, hR⟩ := hY pre ⟨k, by omega⟩ wr hJ (by omega)
    have e : ((k + 1 : Nat) : Int) - 1 = (k : Int) := by omega
    rw [e]
    have hk0 : ¬ (k : Int) < 0 := by omega
    have hkm : (k : Int) < m := by omega
    gi_wp2
    refine hR.mono ?_
    have hsnoc : (pre ++ [(⟨k, by omega⟩ : Fin m)]).map Fin.val = (List.range m).reverse.take (m - k) := by
     have hlt : m - (k + 1) < ((List.range m).reverse).length := by simp; omega
     have e1 : m - k = m - (k + 1) + 1 := by omega
     rw [e1, List.take_succ_eq_append_getElem hlt, List.map_append, hp]
     congr 1
     simp
     omega
    rintro e3 W3 (⟨rfl, hJ3, hk3⟩ | ⟨rfl, hJx3⟩)
    · have hc3 : W3.cell? ⟨Bn, Bo, none⟩ = some (.slice (some ⟨b, o, none⟩) m c) := hk3 _ _ _ hB hc'
      have hx3 : ∀ (j : Nat) x, xs[j]? = some x → ∀ b' o', some (⟨b, o, none⟩ : Addr) = some ⟨b', o', none⟩ → W3.cell? ⟨b', o' + j, none⟩ = some x := by
       intro j x hj b' o' hb'
       cases hb'
       obtain ⟨b2, o2, h2, h3⟩ := hx j x hj
       cases h2
       exact hk3 _ _ _ h3 (hxc' j x hj _ _ rfl)
      gi_wp2
      go_roundw
      case rel => exact ⟨k, pre ++ [⟨k, by omega⟩], by omega, rfl, hsnoc, hJ3, hc3, hx3⟩
      case measure => simp [left]
    · gi_wp2
      refine bodyPost_ret (results_none rfl _ _ _) rfl ?_; exact ⟨⟨_, rfl⟩, .inr ⟨pre ++ [⟨k, by omega⟩], by rw [hsnoc]; exact List.take_prefix _ _, hJx3⟩⟩
theorem Fb : E7 Tryz.prog 137 (fun m => m < 4611686018427387904) := by
 intro n w Bn Bo m c ad xs Good hn hm hc hB hl hx l J Jx W hW _ _ hY h0
 have hin : ∀ {b o : Nat} {x : Value}, w.cell? ⟨b, o, none⟩ = some x → W.cell? ⟨b, o, none⟩ = some x := by
  intro b o x h
  obtain ⟨cs, e, fr, hb, _⟩ := mP h
  have := hW.block b (Array.getElem?_eq_some_iff.1 hb).1
  obtain ⟨cs', e', fr', hb', hx'⟩ := mP h
  rw [gL (this.trans hb'), hx']
 exact Gg n hn l Bn Bo m c ad xs Good J Jx hm hl (fun j x hj => let ⟨b, o, h1, h2, _⟩ := hx j x hj; ⟨b, o, h1, h2⟩) hY W (hin hc) hB (fun j x hj b o hb => by
  obtain ⟨b2, o2, h1, h2, h3⟩ := hx j x hj
  rw [h1] at hb; cases hb
  exact hin h3) h0
end Go.Proofs.YtjpnjhlfieklfaaGreat
namespace Go.Proofs.YtjpnjhlfieklfaaGreat
open Go Go.Vm
attribute [local simp] dM aI dJ opA bH bN cM bP ofValue dC plain aQ aR cA b8 cC cB bY b7 b9 bZ kC bW cD b6 bU bO cU aW dQ dR pZ gA bS dE cF AV.cells AV.bL dF cO eZ bF aV cQ dI dS dV cN
theorem BS {σ : St} {sz m : Nat} {cs : List AV} {t : eO} :
  aE Tryz.prog 120 [.sl sz cs m t] σ (fun av σ' => av = .fn 137 [.ptr σ.objs.length 0] ∧ σ' = { σ with objs := σ.objs ++ [[.sl sz cs m t]] }) := by
 refine aB Tryz.func120 rfl rfl rfl ?_; refine aJ fun K1 hK1 => ?_; refine aG rfl fun J2 hJ2 => ?_; (try simp); apply hJ2; apply hK1; refine aJ fun K3 hK3 => ?_; refine aG rfl fun J4 hJ4 => ?_; (try simp); apply hJ4; apply hK3; refine ra ?_; simp
theorem wP {σ : St} {sz m : Nat} {cs : List AV} {t : eO} :
  aE Tryz.prog 120 [.sl sz cs m t] σ (fun av σ' => av = .fn 137 [.ep [.sl sz cs m t]] ∧ σ = σ') :=
 nZ BS (by simp) rfl
def m8 (p : List UInt8) : Bool := decide (p.length ≤ 32) && (p.headD 1 != 0)
def numOf (p : List UInt8) : Nat := if m8 p then be p else 0
theorem Fq {σ : St} {p : List UInt8} (h : 32 < p.length) :
  aE Tryz.prog 87 [.sl 1 (aY p) p.length .shut] σ (fun av σ' => av = .tup [.agg (aM 0), .v (.int .i64 4)] ∧ σ' = { σ with objs := σ.objs ++ [[.sl 1 (aY p) p.length .shut], aM 0] }) := by
 have h' : ¬ (p.length : Int) ≤ 32 := by omega
 have h2 : (32 : Int) < p.length := by omega
 refine aB Tryz.func87 rfl rfl rfl ?_; refine aJ fun K1 hK1 => ?_; refine aG rfl fun J2 hJ2 => ?_; (try simp [h', h2]); apply hJ2; apply hK1; refine aJ fun K3 hK3 => ?_; refine aJ fun K4 hK4 => ?_; refine aG rfl fun J5 hJ5 => ?_; try simp [h', h2]
 refine iR (by first | rfl | (simp [h', h2, aI]; done)) rfl ?_
 try simp [h', h2]
 refine iR (by first | rfl | (simp [h', h2, aI]; done)) rfl ?_
 try simp [h', h2]
 refine iR (by first | rfl | (simp [h', h2, aI]; done)) rfl ?_
 try simp [h', h2]
 refine iR (by first | rfl | (simp [h', h2, aI]; done)) rfl ?_
 try simp [h', h2]
 refine iR (by first | rfl | (simp [h', h2, aI]; done)) rfl ?_
 try simp [h', h2]
 refine iR (by first | rfl | (simp [h', h2, aI]; done)) rfl ?_
 try simp [h', h2]
 refine iR (by first | rfl | (simp [h', h2, aI]; done)) rfl ?_
 try simp [h', h2]
 refine iR (by first | rfl | (simp [h', h2, aI]; done)) rfl ?_
 try simp [h', h2]
 refine iR (by first | rfl | (simp [h', h2, aI]; done)) rfl ?_
 (try simp [h', h2]); apply hJ5; apply hK4
 refine eP (by first | rfl | (simp [h', h2, bH]; done)) ?_
 refine aJ fun K6 hK6 => ?_; refine aG rfl fun J7 hJ7 => ?_; (try simp [h', h2]); apply hJ7; apply hK6; refine bQ ?_; (try simp only [eD, bG, bV]); refine jL rfl (.inr rfl) ?_; simp [rT]
theorem Gz {σ : St} {p : List UInt8} (h : p.length ≤ 32) (hp : 0 < p.length) (h0 : p[0] = 0) :
  aE Tryz.prog 87 [.sl 1 (aY p) p.length .shut] σ (fun av σ' => av = .tup [.agg (aM 0), .v (.int .i64 4)] ∧ σ' = { σ with objs := σ.objs ++ [[.sl 1 (aY p) p.length .shut], aM 0] }) := by
 have h1 : (p.length : Int) ≤ 32 := by omega
 have h2 : ¬ (32 : Int) < p.length := by omega
 have h3 : (0 : Int) < p.length := by omega
 have h4 : p ≠ [] := by intro e; simp [e] at hp
 refine aB Tryz.func87 rfl rfl rfl ?_; refine aJ fun K1 hK1 => ?_; refine aG rfl fun J2 hJ2 => ?_; (try simp [h1, h2, h3, h0, hp, h4]); apply hJ2; apply hK1; refine aJ fun K3 hK3 => ?_; refine aJ fun K4 hK4 => ?_; refine aG rfl fun J5 hJ5 => ?_; try simp [h1, h2, h3, h0, hp, h4]
 refine dY (by first | rfl | (simp [h1, h2, h3, h0, hp, h4, aI]; done)) rfl ?_
 try simp [h1, h2, h3, h0, hp, h4]
 refine dY (by first | rfl | (simp [h1, h2, h3, h0, hp, h4, aI]; done)) rfl ?_
 try simp [h1, h2, h3, h0, hp, h4]
 refine dY (by first | rfl | (simp [h1, h2, h3, h0, hp, h4, aI]; done)) rfl ?_
 try simp [h1, h2, h3, h0, hp, h4]
 refine dY (by first | rfl | (simp [h1, h2, h3, h0, hp, h4, aI]; done)) rfl ?_
 try simp [h1, h2, h3, h0, hp, h4]
 refine dY (by first | rfl | (simp [h1, h2, h3, h0, hp, h4, aI]; done)) rfl ?_
 try simp [h1, h2, h3, h0, hp, h4]
 refine dY (by first | rfl | (simp [h1, h2, h3, h0, hp, h4, aI]; done)) rfl ?_
 try simp [h1, h2, h3, h0, hp, h4]
 refine dY (by first | rfl | (simp [h1, h2, h3, h0, hp, h4, aI]; done)) rfl ?_
 try simp [h1, h2, h3, h0, hp, h4]
 refine dY (by first | rfl | (simp [h1, h2, h3, h0, hp, h4, aI]; done)) rfl ?_
 try simp [h1, h2, h3, h0, hp, h4]
 refine dY (by first | rfl | (simp [h1, h2, h3, h0, hp, h4, aI]; done)) rfl ?_
 (try simp [h1, h2, h3, h0, hp, h4]); apply hJ5; apply hK4
 refine eP (by first | rfl | (simp [h1, h2, h3, h0, hp, h4, bH]; done)) ?_
 refine aJ fun K6 hK6 => ?_; refine aG rfl fun J7 hJ7 => ?_; (try simp [h1, h2, h3, h0, hp, h4]); apply hJ7; apply hK6; refine bQ ?_; (try simp only [eD, bG, bV]); refine jL rfl (.inr rfl) ?_; simp [rT]
theorem HP {σ : St} :
  aE Tryz.prog 87 [.sl 1 [] 0 .shut] σ (fun av σ' => av = .tup [.agg (aM 0), .v (.int .i64 0)] ∧ σ' = { σ with objs := σ.objs ++ [[.sl 1 [] 0 .shut], aM 0, aM 0] }) := by
 refine aB Tryz.func87 rfl rfl rfl ?_; refine aJ fun K1 hK1 => ?_; refine aG rfl fun J2 hJ2 => ?_; (try simp); apply hJ2; apply hK1; refine aJ fun K3 hK3 => ?_; refine aJ fun K4 hK4 => ?_; refine aG rfl fun J5 hJ5 => ?_; try simp
 refine dY (by first | rfl | (simp [aI]; done)) rfl ?_
 try simp
 refine dY (by first | rfl | (simp [aI]; done)) rfl ?_
 try simp
 refine dY (by first | rfl | (simp [aI]; done)) rfl ?_
 try simp
 refine dY (by first | rfl | (simp [aI]; done)) rfl ?_
 try simp
 refine iR (by first | rfl | (simp [aI]; done)) rfl ?_
 try simp
 refine iR (by first | rfl | (simp [aI]; done)) rfl ?_
 try simp
 refine iR (by first | rfl | (simp [aI]; done)) rfl ?_
 try simp
 refine iR (by first | rfl | (simp [aI]; done)) rfl ?_
 try simp
 refine dY (by first | rfl | (simp [aI]; done)) rfl ?_
 (try simp); apply hJ5; apply hK4
 refine fO (by first | rfl | (simp [bH]; done)) ?_
 refine aA ?_; apply hK3; refine aJ fun K6 hK6 => ?_; refine aG rfl fun J7 hJ7 => ?_; (try simp); apply hJ7; apply hK6; refine aJ fun K8 hK8 => ?_; refine aJ fun K9 hK9 => ?_; refine aG rfl fun J10 hJ10 => ?_; try simp
 refine dK (b := true) (by first | rfl | (simp [aI]; done)) rfl rfl (by first | rfl | (simp [bF]; done)) (by simp) (wP) ?_
 rintro _ _ ⟨rfl, rfl⟩; (try simp); apply hJ10; apply hK9; refine aD ?_
 refine tA Fb ?rm1 (by first | rfl | (simp; done)) rfl rfl rfl rfl rfl rfl rfl rfl (by first | rfl | (simp; done)) (fun pre σ1 => σ1 = { σ with objs := σ.objs ++ [[.sl 1 [] 0 .shut], aM 0, aM 0] }) (fun _ _ _ => False) ?rs1 ?rr1 ?rd1 ?rx1
 case rm1 =>
  show _ < _
  omega
 case rs1 =>
  simp [rT]
 case rr1 =>
  exact fun _ _ _ _ _ hi => absurd hi (Nat.not_lt_zero _)
 case rd1 =>
  rintro σ1 rfl; apply hK8; refine aJ fun K11 hK11 => ?_; refine aG rfl fun J12 hJ12 => ?_; (try simp); apply hJ12; apply hK11; refine bQ ?_; (try simp only [eD, bG, bV]); refine jL rfl (.inr rfl) ?_; simp [aM]
 case rx1 =>
  exact fun _ _ _ _ h => h.elim
theorem JX {σ : St} {p : List UInt8} (h : p.length ≤ 32) (hp : 0 < p.length) (h0 : ¬ p[0] = 0) :
  aE Tryz.prog 87 [.sl 1 (aY p) p.length .shut] σ (fun av σ' => av = .tup [.agg (aM (be p)), .v (.int .i64 0)] ∧ σ' = { σ with objs := σ.objs ++ [[.sl 1 (aY p) p.length .shut], aM (be p), aM (be p)] }) := by
 have h1 : (p.length : Int) ≤ 32 := by omega
 have h2 : ¬ (32 : Int) < p.length := by omega
 have h3 : (0 : Int) < p.length := by omega
 have h5 : p ≠ [] := by intro e; simp [e] at hp
 have h6 : ¬ p[0].toNat = 0 := fun e => h0 (UInt8.toNat_inj.1 (by simpa using e))
 have h4 := GF p
 refine aB Tryz.func87 rfl rfl rfl ?_; refine aJ fun K1 hK1 => ?_; refine aG rfl fun J2 hJ2 => ?_; (try simp [h1, h2, h3, hp, h5, h6]); apply hJ2; apply hK1; refine aJ fun K3 hK3 => ?_; refine aJ fun K4 hK4 => ?_; refine aG rfl fun J5 hJ5 => ?_; try simp [h1, h2, h3, hp, h5, h6]
 refine dY (by first | rfl | (simp [h1, h2, h3, hp, h5, h6, aI]; done)) rfl ?_
 try simp [h1, h2, h3, hp, h5, h6]
 refine dY (by first | rfl | (simp [h1, h2, h3, hp, h5, h6, aI]; done)) rfl ?_
 try simp [h1, h2, h3, hp, h5, h6]
 refine dY (by first | rfl | (simp [h1, h2, h3, hp, h5, h6, aI]; done)) rfl ?_
 try simp [h1, h2, h3, hp, h5, h6]
 refine dY (by first | rfl | (simp [h1, h2, h3, hp, h5, h6, aI]; done)) rfl ?_
 try simp [h1, h2, h3, hp, h5, h6]
 refine dY (by first | rfl | (simp [h1, h2, h3, hp, h5, h6, aI]; done)) rfl ?_
 try simp [h1, h2, h3, hp, h5, h6]
 refine dY (by first | rfl | (simp [h1, h2, h3, hp, h5, h6, aI]; done)) rfl ?_
 try simp [h1, h2, h3, hp, h5, h6]
 refine dY (by first | rfl | (simp [h1, h2, h3, hp, h5, h6, aI]; done)) rfl ?_
 try simp [h1, h2, h3, hp, h5, h6]
 refine dY (by first | rfl | (simp [h1, h2, h3, hp, h5, h6, aI]; done)) rfl ?_
 try simp [h1, h2, h3, hp, h5, h6]
 refine dY (by first | rfl | (simp [h1, h2, h3, hp, h5, h6, aI]; done)) rfl ?_
 (try simp [h1, h2, h3, hp, h5, h6]); apply hJ5; apply hK4
 refine fO (by first | rfl | (simp [h1, h2, h3, hp, h5, h6, bH]; done)) ?_
 refine aA ?_; apply hK3; refine aJ fun K6 hK6 => ?_; refine aG rfl fun J7 hJ7 => ?_; (try simp [h1, h2, h3, hp, h5, h6]); apply hJ7; apply hK6; refine aJ fun K8 hK8 => ?_; refine aJ fun K9 hK9 => ?_; refine aG rfl fun J10 hJ10 => ?_; try simp [h1, h2, h3, hp, h5, h6]
 refine dK (b := true) (by first | rfl | (simp [h1, h2, h3, hp, h5, h6, aI]; done)) rfl rfl (by first | rfl | (simp [h1, h2, h3, hp, h5, h6, bF]; done)) (by simp) (wP) ?_
 rintro _ _ ⟨rfl, rfl⟩; (try simp [h1, h2, h3, hp, h5, h6]); apply hJ10; apply hK9; refine aD ?_
 refine tA Fb ?rm1 (by first | rfl | (simp; done)) rfl rfl rfl rfl rfl rfl rfl rfl (by first | rfl | (simp [h1, h2, h3, hp, h5, h6]; done)) (fun pre σ1 => σ1 = { σ with objs := σ.objs ++ [[.sl 1 (aY p) p.length .shut], aM 0, aM (pY p pre)] }) (fun _ _ _ => False) ?rs1 ?rr1 ?rd1 ?rx1
 case rm1 =>
  show _ < _
  omega
 case rs1 =>
  simp [FJ, rT]
 case rr1 =>
  rintro z pre i x σ1 hi hx rfl
  rw [EE hi] at hx
  cases hx
  obtain ⟨k, hk⟩ : ∃ k, k = p.length - 1 - i := ⟨_, rfl⟩
  have hk2 : k < 32 := by omega
  have hw : IntKind.i64.wrap (IntKind.i64.wrap ((p.length : Int) - 1) - i) = (k : Int) := by rw [wrap_i64 ((p.length : Int) - 1) (by omega) (by omega), wrap_i64 _ (by omega) (by omega)]; omega
  obtain ⟨q, hq⟩ : ∃ q, q = k / 8 := ⟨_, rfl⟩
  obtain ⟨r, hr⟩ : ∃ r, r = k % 8 := ⟨_, rfl⟩
  have hqr : 8 * q + r = k := by omega
  have hq4 : q < 4 := by omega
  have hr8 : r < 8 := by omega
  have hb := p[i].toNat_lt
  have hqq : IntKind.i64.wrap ((k : Int).tdiv 8) = (q : Int) := by rw [Int.tdiv_eq_ediv_of_nonneg (by omega), wrap_i64 _ (by omega) (by omega)]; omega
  have hrr : (k : Int).tmod 8 = (r : Int) := by rw [Int.tmod_eq_emod_of_nonneg (by omega)]; omega
  have hm8 : IntKind.i64.wrap (8 * (r : Int)) = 8 * (r : Int) := wrap_i64 _ (by omega) (by omega)
  have hq2 : IntKind.i64.wrap ((k : Int) / 8) = (q : Int) := by rw [wrap_i64 _ (by omega) (by omega)]; omega
  have hr2 : (k : Int) % 8 = (r : Int) := by omega
  have hnn : ¬ 8 * (r : Int) < 0 := by omega
  obtain ⟨s, hs⟩ : ∃ s, s = p[i].toNat <<< (8 * r) := ⟨_, rfl⟩
  have hs64 : s < 18446744073709551616 := by rw [hs]; exact H4 hb hr8
  have hsh : IntKind.u64.wrap ((p[i].toNat : Int) * 2 ^ (min (8 * (r : Int)).toNat 64)) = (s : Int) := by rw [show min (8 * (r : Int)).toNat 64 = 8 * r by omega]; rw [show ((p[i].toNat : Int) * 2 ^ (8 * r)) = ((p[i].toNat * 2 ^ (8 * r) : Nat) : Int) by simp, wrap_u64, ← Nat.shiftLeft_eq, ← hs, Nat.mod_eq_of_lt hs64]
  obtain ⟨t, ht⟩ : ∃ t, t = eN (pY p pre) q ||| s := ⟨_, rfl⟩
  have hor := LW (Kb (pY p pre) q) hs64
  rw [← ht] at hor
  have hput := H9 (x := pY p pre) hb hq4 hr8 hqr
  rw [← hs, ← ht] at hput
  have hsn := zR p pre i
  rw [← hk, show (p.getD i 0) = p[i] by simp [List.getD, hi]] at hsn
  have hget := CY (pY p pre) hq4
  have hq5 : (q : Int) < 4 := by omega
  have hq6 : q + 1 ≤ 4 := hq4
  refine aD ?_; refine aJ fun K11 hK11 => ?_; refine aG rfl fun J12 hJ12 => ?_; (try simp [h1, h2, h3, hp, h5, h6, hw, hqq, hrr, hq2, hr2, hm8, hnn, hsh, hor, hget, hq4, hq5, hq6]); apply hJ12; apply hK11
  refine bI (by kernel_rfl) fun J13 hJ13 => ?_
  refine gO 0 (by kernel_rfl) rfl rfl (by kernel_rfl) (by kernel_rfl) (by kernel_rfl) (by kernel_rfl) ?_
  try simp [h1, h2, h3, hp, h5, h6, hw, hqq, hrr, hq2, hr2, hm8, hnn, hsh, hor, hget, hq4, hq5, hq6]
  refine gO 1 (by kernel_rfl) rfl rfl (by kernel_rfl) (by kernel_rfl) (by kernel_rfl) (by kernel_rfl) ?_
  try simp [h1, h2, h3, hp, h5, h6, hw, hqq, hrr, hq2, hr2, hm8, hnn, hsh, hor, hget, hq4, hq5, hq6]
  refine gO 2 (by kernel_rfl) rfl rfl (by kernel_rfl) (by kernel_rfl) (by kernel_rfl) (by kernel_rfl) ?_
  try simp [h1, h2, h3, hp, h5, h6, hw, hqq, hrr, hq2, hr2, hm8, hnn, hsh, hor, hget, hq4, hq5, hq6]
  refine gO 3 (by kernel_rfl) rfl rfl (by kernel_rfl) (by kernel_rfl) (by kernel_rfl) (by kernel_rfl) ?_
  try simp [h1, h2, h3, hp, h5, h6, hw, hqq, hrr, hq2, hr2, hm8, hnn, hsh, hor, hget, hq4, hq5, hq6]
  refine gO 4 (by kernel_rfl) rfl rfl (by kernel_rfl) (by kernel_rfl) (by kernel_rfl) (by kernel_rfl) ?_
  try simp [h1, h2, h3, hp, h5, h6, hw, hqq, hrr, hq2, hr2, hm8, hnn, hsh, hor, hget, hq4, hq5, hq6]
  refine gO 5 (by kernel_rfl) rfl rfl (by kernel_rfl) (by kernel_rfl) (by kernel_rfl) (by kernel_rfl) ?_
  try simp [h1, h2, h3, hp, h5, h6, hw, hqq, hrr, hq2, hr2, hm8, hnn, hsh, hor, hget, hq4, hq5, hq6]
  refine gO 6 (by kernel_rfl) rfl rfl (by kernel_rfl) (by kernel_rfl) (by kernel_rfl) (by kernel_rfl) ?_
  try simp [h1, h2, h3, hp, h5, h6, hw, hqq, hrr, hq2, hr2, hm8, hnn, hsh, hor, hget, hq4, hq5, hq6]
  refine gO 7 (by kernel_rfl) rfl rfl (by kernel_rfl) (by kernel_rfl) (by kernel_rfl) (by kernel_rfl) ?_
  try simp [h1, h2, h3, hp, h5, h6, hw, hqq, hrr, hq2, hr2, hm8, hnn, hsh, hor, hget, hq4, hq5, hq6]
  refine gO 8 (by kernel_rfl) rfl rfl (by kernel_rfl) (by kernel_rfl) (by kernel_rfl) (by kernel_rfl) ?_
  try simp [h1, h2, h3, hp, h5, h6, hw, hqq, hrr, hq2, hr2, hm8, hnn, hsh, hor, hget, hq4, hq5, hq6]
  refine gO 9 (by kernel_rfl) rfl rfl (by kernel_rfl) (by kernel_rfl) (by kernel_rfl) (by kernel_rfl) ?_
  try simp [h1, h2, h3, hp, h5, h6, hw, hqq, hrr, hq2, hr2, hm8, hnn, hsh, hor, hget, hq4, hq5, hq6]
  refine gO 10 (by kernel_rfl) rfl rfl (by kernel_rfl) (by kernel_rfl) (by kernel_rfl) (by kernel_rfl) ?_
  try simp [h1, h2, h3, hp, h5, h6, hw, hqq, hrr, hq2, hr2, hm8, hnn, hsh, hor, hget, hq4, hq5, hq6]
  refine gO 11 (by kernel_rfl) rfl rfl (by kernel_rfl) (by kernel_rfl) (by kernel_rfl) (by kernel_rfl) ?_
  try simp [h1, h2, h3, hp, h5, h6, hw, hqq, hrr, hq2, hr2, hm8, hnn, hsh, hor, hget, hq4, hq5, hq6]
  refine CD 12 (by kernel_rfl) (by kernel_rfl) (by kernel_rfl) rfl (by kernel_rfl) (by kernel_rfl) (by kernel_rfl) ?_
  try simp [h1, h2, h3, hp, h5, h6, hw, hqq, hrr, hq2, hr2, hm8, hnn, hsh, hor, hget, hq4, hq5, hq6]
  refine ⟨AD (by kernel_rfl), ?_⟩
  refine AK (by kernel_rfl) (by kernel_rfl) (by kernel_rfl) ?_
  apply hJ13
  show St.mk _ _ _ _ = _
  rw [hsn, ← hput]
  simp
  exact hor
 case rd1 =>
  rintro σ1 rfl
  rw [h4]
  apply hK8; refine aJ fun K14 hK14 => ?_; refine aG rfl fun J15 hJ15 => ?_; (try simp [h1, h2, h3, hp, h5, h6]); apply hJ15; apply hK14; refine bQ ?_; (try simp only [eD, bG, bV]); refine jL rfl (.inr rfl) ?_; simp [aM]
 case rx1 =>
  exact fun _ _ _ _ h => h.elim
theorem yF {σ : St} {p : List UInt8} :
  aE Tryz.prog 87 [.sl 1 (aY p) p.length .shut] σ (fun av σ' => av = .tup [.agg (aM (numOf p)), .v (.int .i64 (if m8 p then 0 else 4))] ∧ σ = σ') := by
 by_cases h : p.length ≤ 32
 · cases p with
   | nil => exact lS HP rfl
   | cons b l =>
     by_cases hb : b = 0
     · have e : m8 (b :: l) = false := by simp [m8, hb]
       simp only [numOf, e]
       exact lS (Gz h (by simp) hb) rfl
     · have e : m8 (b :: l) = true := by simp [m8, hb]; simpa using h
       simp only [numOf, e]
       exact lS (JX h (by simp) hb) rfl
 · have e : m8 p = false := by simp [m8]; intro h2; omega
   simp only [numOf, e]
   exact lS (Fq (by omega)) rfl
theorem j5 (n : Nat) (s : Option (List UInt8)) : (dN n s).length ≤ n := by
 cases s with
 | none => simp [dN]
 | some p => simp only [dN]; split <;> simp <;> omega
theorem zD {l : List UInt8} (h : l.length ≤ 1) : be l < 256 := by
 have h1 := Ck l
 have h2 : 256 ^ l.length ≤ 256 ^ 1 := Nat.pow_le_pow_right (by omega) h
 omega
theorem nV {σ : St} {id : Nat} {s : Option (List UInt8)} (h : σ.objs[id]? = some (rd s)) :
  aE Tryz.prog 58 [.ptr id 0] σ (fun av σ' => av = .v (.int .u8 (be (dN 1 s) : Nat)) ∧ σ' = { σ with objs := σ.objs.set id (rd (cJ 1 s)) }) := by
 have hw : IntKind.u8.wrap ((be (dN 1 s) : Nat) : Int) = (be (dN 1 s) : Nat) := by rw [wrap_u8, Nat.mod_eq_of_lt (zD (j5 1 s))]
 refine aB Tryz.func58 rfl rfl rfl ?_; refine aJ fun K1 hK1 => ?_; refine aG rfl fun J2 hJ2 => ?_; (try simp [hw]); apply hJ2; apply hK1; refine aJ fun K3 hK3 => ?_; refine aG rfl fun J4 hJ4 => ?_; try simp [hw]
 refine dK (b := true) (by first | rfl | (simp [hw, aI]; done)) rfl rfl (by first | rfl | (simp [hw, bF]; done)) (by simp) (AY (n := 1) h (by omega)) ?_
 rintro _ _ ⟨rfl, rfl⟩; (try simp [hw]); apply hJ4; apply hK3; refine ra ?_; simp [hw]
theorem xC {σ : St} {id : Nat} {s : Option (List UInt8)} (h : σ.objs[id]? = some (rd s)) :
  aE Tryz.prog 57 [.ptr id 0] σ (fun av σ' => av = .v (.int .u64 (be (dN 8 s) : Nat)) ∧ σ' = { σ with objs := σ.objs.set id (rd (cJ 8 s)) }) := by
 refine aB Tryz.func57 rfl rfl rfl ?_; refine aJ fun K1 hK1 => ?_; refine aG rfl fun J2 hJ2 => ?_; (try simp); apply hJ2; apply hK1; refine aJ fun K3 hK3 => ?_; refine aG rfl fun J4 hJ4 => ?_; try simp
 refine dK (b := true) (by first | rfl | (simp [aI]; done)) rfl rfl (by first | rfl | (simp [bF]; done)) (by simp) (AY (n := 8) h (by omega)) ?_
 rintro _ _ ⟨rfl, rfl⟩; (try simp); apply hJ4; apply hK3; refine ra ?_; simp
def z4 (s : Option (List UInt8)) : List UInt8 := dN (be (dN 1 s)) (cJ 1 s)
def uN (s : Option (List UInt8)) : Option (List UInt8) := if m8 (z4 s) then cJ (be (dN 1 s)) (cJ 1 s) else none
theorem Js {σ : St} {id : Nat} {s : Option (List UInt8)} (h : σ.objs[id]? = some (rd s)) :
  aE Tryz.prog 59 [.ptr id 0] σ (fun av σ' => av = .agg (aM (numOf (z4 s))) ∧ σ' = { σ with objs := σ.objs.set id (rd (uN s)) ++ [aM (numOf (z4 s)), aM (numOf (z4 s))] }) := by
 have hlt := cZ h
 have hw : IntKind.i64.wrap ((be (dN 1 s) : Nat) : Int) = (be (dN 1 s) : Nat) := wrap_i64 _ (by omega) (by have := zD (j5 1 s); omega)
 have h1 : ∀ r : List AV, (σ.objs ++ [r])[id]? = some (rd s) := fun r => by rw [List.getElem?_append_left hlt]; exact h
 have h2 : ∀ (x r : List AV), (σ.objs.set id x ++ [r])[id]? = some x := fun x r => by rw [List.getElem?_append_left (by simpa using hlt)]; exact cY h x
 have h3 : ∀ (x r r2 : List AV), (σ.objs.set id x ++ [r, r2])[id]? = some x := fun x r r2 => by rw [List.getElem?_append_left (by simpa using hlt)]; exact cY h x
 have ha : ∀ (x r : List AV), (σ.objs ++ [r]).set id x = σ.objs.set id x ++ [r] := fun x r => List.set_append_left _ _ hlt
 have hb : ∀ (x y r : List AV), (σ.objs.set id y ++ [r]).set id x = σ.objs.set id x ++ [r] := fun x y r => by rw [List.set_append_left _ _ (by simpa using hlt), List.set_set]
 have hc : ∀ (x y r r2 : List AV), (σ.objs.set id y ++ [r, r2]).set id x = σ.objs.set id x ++ [r, r2] := fun x y r r2 => by rw [List.set_append_left _ _ (by simpa using hlt), List.set_set]
 cases hn : m8 (z4 s) with
 | true =>
   have hS : uN s = cJ (be (dN 1 s)) (cJ 1 s) := by simp [uN, hn]
   have hn' : m8 (dN (be (dN 1 s)) (cJ 1 s)) = true := hn
   rw [hS]
   show aE _ _ _ _ (fun av σ' => av = .agg (aM (numOf (dN (be (dN 1 s)) (cJ 1 s)))) ∧ _)
   refine aB Tryz.func59 rfl rfl rfl ?_; refine aJ fun K1 hK1 => ?_; refine aG rfl fun J2 hJ2 => ?_; (try simp [hw, ha, hb, hc, hn']); apply hJ2; apply hK1; refine aJ fun K3 hK3 => ?_; refine aG rfl fun J4 hJ4 => ?_; try simp [hw, ha, hb, hc, hn']
   refine dK (b := true) (by first | rfl | (simp [hw, ha, hb, hc, hn', aI]; done)) rfl rfl (by first | rfl | (simp [hw, ha, hb, hc, hn', bF]; done)) (by simp) (nV (h1 _)) ?_
   rintro _ _ ⟨rfl, rfl⟩; try simp [hw, ha, hb, hc, hn']
   refine dK (b := true) (by first | rfl | (simp [hw, ha, hb, hc, hn', aI]; done)) rfl rfl (by first | rfl | (simp [hw, ha, hb, hc, hn', bF]; done)) (by simp) (Bm (h2 _ _)) ?_
   rintro _ _ ⟨rfl, rfl⟩; try simp [hw, ha, hb, hc, hn']
   refine dK (b := true) (by first | rfl | (simp [hw, ha, hb, hc, hn', aI]; done)) rfl rfl (by first | rfl | (simp [hw, ha, hb, hc, hn', bF]; done)) (by simp) (yF) ?_
   rintro _ _ ⟨rfl, rfl⟩; (try simp [hw, ha, hb, hc, hn']); apply hJ4; apply hK3; refine aJ fun K5 hK5 => ?_; refine aJ fun K6 hK6 => ?_; refine aG rfl fun J7 hJ7 => ?_; (try simp [hw, ha, hb, hc, hn']); apply hJ7; apply hK6
   refine fO (by first | rfl | (simp [hw, ha, hb, hc, hn', bH]; done)) ?_
   refine aA ?_; apply hK5; refine aJ fun K8 hK8 => ?_; refine aG rfl fun J9 hJ9 => ?_; (try simp [hw, ha, hb, hc, hn']); apply hJ9; apply hK8; refine bQ ?_; (try simp only [eD, bG, bV]); refine qI rfl (.inr rfl) ?_; simp [hw, ha, hb, hc, hn']
   rfl
 | false =>
   have hS : uN s = none := by simp [uN, hn]
   have hn' : m8 (dN (be (dN 1 s)) (cJ 1 s)) = false := hn
   rw [hS]
   show aE _ _ _ _ (fun av σ' => av = .agg (aM (numOf (dN (be (dN 1 s)) (cJ 1 s)))) ∧ _)
   refine aB Tryz.func59 rfl rfl rfl ?_; refine aJ fun K1 hK1 => ?_; refine aG rfl fun J2 hJ2 => ?_; (try simp [hw, ha, hb, hc, hn']); apply hJ2; apply hK1; refine aJ fun K3 hK3 => ?_; refine aG rfl fun J4 hJ4 => ?_; try simp [hw, ha, hb, hc, hn']
   refine dK (b := true) (by first | rfl | (simp [hw, ha, hb, hc, hn', aI]; done)) rfl rfl (by first | rfl | (simp [hw, ha, hb, hc, hn', bF]; done)) (by simp) (nV (h1 _)) ?_
   rintro _ _ ⟨rfl, rfl⟩; try simp [hw, ha, hb, hc, hn']
   refine dK (b := true) (by first | rfl | (simp [hw, ha, hb, hc, hn', aI]; done)) rfl rfl (by first | rfl | (simp [hw, ha, hb, hc, hn', bF]; done)) (by simp) (Bm (h2 _ _)) ?_
   rintro _ _ ⟨rfl, rfl⟩; try simp [hw, ha, hb, hc, hn']
   refine dK (b := true) (by first | rfl | (simp [hw, ha, hb, hc, hn', aI]; done)) rfl rfl (by first | rfl | (simp [hw, ha, hb, hc, hn', bF]; done)) (by simp) (yF) ?_
   rintro _ _ ⟨rfl, rfl⟩; (try simp [hw, ha, hb, hc, hn']); apply hJ4; apply hK3; refine aJ fun K5 hK5 => ?_; refine aJ fun K6 hK6 => ?_; refine aG rfl fun J7 hJ7 => ?_; (try simp [hw, ha, hb, hc, hn']); apply hJ7; apply hK6
   refine eP (by first | rfl | (simp [hw, ha, hb, hc, hn', bH]; done)) ?_
   refine aG rfl fun J8 hJ8 => ?_; try simp [hw, ha, hb, hc, hn']
   refine dK (b := true) (by first | rfl | (simp [hw, ha, hb, hc, hn', aI]; done)) rfl rfl (by first | rfl | (simp [hw, ha, hb, hc, hn', bF]; done)) (by simp) (nW (h3 _ _ _)) ?_
   rintro _ _ ⟨rfl, rfl⟩; (try simp [hw, ha, hb, hc, hn']); apply hJ8; apply hK5; refine aJ fun K9 hK9 => ?_; refine aG rfl fun J10 hJ10 => ?_; (try simp [hw, ha, hb, hc, hn']); apply hJ10; apply hK9; refine bQ ?_; (try simp only [eD, bG, bV]); refine qI rfl (.inr rfl) ?_; simp [hw, ha, hb, hc, hn']
   rfl
theorem xN (B : Bd) (s : Option (List UInt8)) : bB B (rd s) = true := by
 cases s with
 | none => rfl
 | some p => simp [rd, bB, AV.under, kQ]
theorem Em {σ : St} {id : Nat} {s : Option (List UInt8)} (h : σ.objs[id]? = some (rd s)) :
  aE Tryz.prog 59 [.ptr id 0] σ (fun av σ' => av = .agg (aM (numOf (z4 s))) ∧ σ' = { σ with objs := σ.objs.set id (rd (uN s)) }) :=
 z5 (Js h) rfl (xN _ _)
end Go.Proofs.YtjpnjhlfieklfaaGreat
namespace Go.Proofs.YtjpnjhlfieklfaaGreat
open Go Go.Vm
attribute [local simp] dM aI dJ opA bH bN cM bP ofValue dC plain aQ aR cA b8 cC cB bY b7 b9 bZ kC bW cG cD b6 bU bO cU aW dQ dR pZ gA bS dE cF AV.cells AV.bL dF cO eZ bF aV cQ dI dS dV cN aN dG gH maxLen
theorem GL {σ : St} {p : List UInt8} {tl : eO} (hp : p.length ≤ 1000000) :
  aE Tryz.prog 85 [.sl 1 (aY p) p.length tl] σ (fun av σ' => (p = [] ∧ av = .sl 0 [] 0 .full ∧ σ' = σ) ∨ (av = .sl 1 (aY p) p.length (.own σ.toks.length) ∧ σ' = { σ with toks := σ.toks ++ [p.length] })) := by
 have h1 : p.length ≤ 140737488355328 := by omega
 have h2 : p.length ≤ 9223372036854775807 := by omega
 refine aB Tryz.func85 rfl rfl rfl ?_; refine aJ fun K1 hK1 => ?_; refine aG rfl fun J2 hJ2 => ?_; (try simp [h1, h2]); apply hJ2; apply hK1; refine aJ fun K3 hK3 => ?_; refine aJ fun K4 hK4 => ?_; refine aG rfl fun J5 hJ5 => ?_; try simp [h1, h2]
 refine zO (by first | rfl | (simp [h1, h2, aI]; done)) rfl rfl rfl (by first | rfl | (simp [h1, h2]; done)) (fun b4 hb4 => ?_)
 (try simp [h1, h2]); apply hJ5; apply hK4; refine jC rfl (fun c4 => ?_) (fun c4 => ?_)
 · try (exfalso; revert c4; simp [h1, h2]; done)
   all_goals
    (try simp [h1, h2] at c4)
    all_goals
     refine aJ fun K7 hK7 => ?_; refine aG rfl fun J8 hJ8 => ?_; (try simp [h1, h2, c4]); apply hJ8; apply hK7; refine ra ?_; exact .inl ⟨by cases p with | nil => rfl | cons x l => (simp_all), by simp, rfl⟩
 · try (exfalso; revert c4; simp [h1, h2]; done)
   all_goals
    (try simp [h1, h2] at c4)
    all_goals
     refine aA ?_; apply hK3; refine aJ fun K9 hK9 => ?_; refine aG rfl fun J10 hJ10 => ?_; (try simp [h1, h2, c4]); apply hJ10; apply hK9; refine ra ?_; exact .inr ⟨by simp, rfl⟩
theorem nB {σ : St} {p : List UInt8} {tl : eO} (hp : p.length ≤ 1000000) :
  aE Tryz.prog 85 [.sl 1 (aY p) p.length tl] σ (fun av σ' => av = .sl 1 (aY p) p.length .shut ∧ σ = σ') :=
 cS (k9 (τ := σ) (A := .sl 1 (aY p) p.length .shut) (GL hp) (fun av σ' h => by
  rcases h with ⟨rfl, rfl, rfl⟩ | ⟨rfl, rfl⟩
  · exact ⟨[], [], [], Wk.nil 0 1 .full, by simp⟩
  · exact ⟨[], [p.length], [], Wk.shut _ _ _ _, by simp⟩) (by simp [AV.under, kQ]) rfl rfl rfl rfl (fun _ _ h => .inl h) (fun _ r h => .inl ⟨r, h, rfl⟩)) (fun av σ' h => ⟨h.1, h.2.symm⟩)
theorem L0 {σ : St} {p : List UInt8} {tl : eO} (hp : p.length ≤ 1000000) :
  aE Tryz.prog 56 [.sl 1 (aY p) p.length tl] σ (fun av σ' => av = .ptr σ.objs.length 0 ∧ σ' = { σ with objs := σ.objs ++ [rd (some p)] }) := by
 refine aB Tryz.func56 rfl rfl rfl ?_; refine aJ fun K1 hK1 => ?_; refine aG rfl fun J2 hJ2 => ?_; (try simp); apply hJ2; apply hK1; refine aJ fun K3 hK3 => ?_; refine aG rfl fun J4 hJ4 => ?_; try simp
 refine dK (b := true) (by first | rfl | (simp [aI]; done)) rfl rfl (by first | rfl | (simp [bF]; done)) (by simp) (nB hp) ?_
 rintro _ _ ⟨rfl, rfl⟩; (try simp); apply hJ4; apply hK3; refine ra ?_; simp [rd]
def aO (x : Nat) : List UInt8 := if h : x = 0 then [] else aO (x / 256) ++ [UInt8.ofNat (x % 256)]
termination_by x
decreasing_by omega
theorem gP : aO 0 = [] := by unfold aO; simp
theorem lC {x : Nat} (h : 0 < x) : aO x = aO (x / 256) ++ [UInt8.ofNat (x % 256)] := by
 conv => lhs; unfold aO
 rw [dif_neg (by omega)]
theorem uP {x : Nat} : aO x = [] ↔ x = 0 := by
 constructor
 · intro h
   apply Classical.byContradiction
   intro h0
   rw [lC (by omega)] at h
   simp at h
 · rintro rfl; exact gP
theorem FW {x i : Nat} (hi : i < 32) : eN x (i / 8) / 2 ^ (8 * (i % 8)) % 256 = x / 256 ^ i % 256 := by
 have e : (256 : Nat) ^ i = 2 ^ (8 * i) := by rw [Nat.pow_mul]
 rw [e]
 apply Nat.eq_of_testBit_eq
 intro j
 rw [show (256 : Nat) = 2 ^ 8 by rfl]
 simp only [Nat.testBit_mod_two_pow, Nat.testBit_div_two_pow, rC]
 by_cases hj : j < 8
 · have h1 : 8 * (i % 8) + j < 64 := by omega
   have h2 : 64 * (i / 8) + (j + 8 * (i % 8)) = j + 8 * i := by omega
   simp [hj, h2]
   omega
 · simp [hj]
end Go.Proofs.YtjpnjhlfieklfaaGreat
namespace Go.Proofs.YtjpnjhlfieklfaaGreat
open Go Go.Vm
attribute [local simp] dM aI dJ opA bH bN cM bP ofValue dC plain aQ aR cA b8 cC cB bY b7 b9 bZ kC bW cG cD b6 bU bO cU aW dQ dR pZ JZ bS dE cF AV.cells AV.bL dF cO eZ bF aV cQ dI dS dV cN aN
def m4 (σ : St) (l : List UInt8) : AV := if l = [] then .sl 0 [] 0 .full else .sl 1 (aY l) l.length (.own σ.toks.length)
def nJ (σ : St) (l : List UInt8) : St := if l = [] then σ else { σ with toks := σ.toks ++ [l.length] }
theorem GV (σ : St) : m4 σ [] = .sl 0 [] 0 .full := rfl
theorem FI (σ : St) : nJ σ [] = σ := rfl
@[local simp] theorem KX (σ : St) (l : List UInt8) : (nJ σ l).objs = σ.objs := by unfold nJ; split <;> rfl
theorem IT (σ : St) (l : List UInt8) : gA Tryz.prog 102 (m4 σ l) = some (.v (.int .i64 (l.length : Nat))) := by
 unfold m4
 split
 · rename_i h; subst h; simp [gA]
 · simp
theorem HN (σ : St) (l q : List UInt8) (tl : eO) (hl : l.length ≤ 1000000) (hq : q.length ≤ 1000000) (hq0 : q ≠ []) : dG Tryz.prog 102 (m4 σ l) (.sl 1 (aY q) q.length tl) (nJ σ l) = some (m4 σ (l ++ q), nJ σ (l ++ q)) := by
 have h1 : q.length ≤ 140737488355328 := by omega
 have h2 : q.length ≤ 9223372036854775807 := by omega
 have h3 : l.length + q.length ≤ 140737488355328 := by omega
 have h4 : l.length + q.length ≤ 9223372036854775807 := by omega
 by_cases h : l = []
 · subst h
   simp [m4, nJ, dG, gH, maxLen, h1, h2, hq0] ; rfl
 · simp [m4, nJ, dG, gH, maxLen, h, h3, h4, hq0, iU] ; rfl
theorem toNat_ofNat {y : Nat} (h : y < 256) : (UInt8.ofNat y).toNat = y := by simp; omega
theorem HR (x i : Nat) : x / 256 ^ i / 256 = x / 256 ^ (i + 1) := by rw [Nat.div_div_eq_div_mul, Nat.pow_succ]
theorem nb1 {x i : Nat} (h : ¬ x / 256 ^ i % 256 = 0 ∨ 0 < (aO (x / 256 ^ (i + 1))).length) : aO (x / 256 ^ i) = aO (x / 256 ^ (i + 1)) ++ [UInt8.ofNat (x / 256 ^ i % 256)] := by
 have h0 : 0 < x / 256 ^ i := by
  apply Nat.pos_of_ne_zero
  intro e
  rcases h with h | h
  · rw [e] at h; simp at h
  · rw [← HR, e, Nat.zero_div, gP] at h; simp at h
 rw [lC h0, HR]
theorem nb2 {x i : Nat} (h : x / 256 ^ i % 256 = 0) (h2 : ¬ 0 < (aO (x / 256 ^ (i + 1))).length) : aO (x / 256 ^ i) = aO (x / 256 ^ (i + 1)) := by
 have h3 : aO (x / 256 ^ (i + 1)) = [] := List.eq_nil_of_length_eq_zero (by omega)
 have h4 := uP.1 h3
 rw [← HR] at h4
 have h5 : x / 256 ^ i = 0 := by omega
 rw [h3, h5, gP]
theorem FH {σ : St} {x : Nat} (hx : x < 2 ^ 256) :
  aE Tryz.prog 104 [.agg (aM x)] σ (fun av σ' => av = m4 { σ with objs := σ.objs ++ [aM x] } (aO x) ∧ σ' = nJ { σ with objs := σ.objs ++ [aM x] } (aO x)) := by
 obtain ⟨B, hB⟩ : ∃ B : St, B = { σ with objs := σ.objs ++ [aM x] } := ⟨_, rfl⟩
 rw [← hB]
 have hBo : B.objs = σ.objs ++ [aM x] := by rw [hB]
 refine aB Tryz.func104 rfl rfl rfl ?_; refine aJ fun K1 hK1 => ?_; refine aG rfl fun J2 hJ2 => ?_; (try simp [hBo]); apply hJ2; apply hK1; refine aJ fun K3 hK3 => ?_; refine aG rfl fun J4 hJ4 => ?_; (try simp [hBo]); apply hJ4; apply hK3; refine aJ fun K5 hK5 => ?_; refine aJ fun K6 hK6 => ?_; refine aG rfl fun J7 hJ7 => ?_; (try simp [hBo]); apply hJ7; apply hK6; refine aD ?_; refine tP (X := Nat) (fun k ρ σ1 => k ≤ 32 ∧ ρ 1 = .ptr σ.objs.length 0 ∧ ρ 3 = m4 B (aO (x / 256 ^ k)) ∧ ρ 4 = .v (.int .i64 ((k : Int) - 1)) ∧ (aO (x / 256 ^ k)).length ≤ 32 - k ∧ σ1 = nJ B (aO (x / 256 ^ k))) (fun k => k) (32) ?start ?round
 case start =>
  have h0 : x / 256 ^ 32 = 0 := Nat.div_eq_of_lt (by simpa using hx)
  rw [h0, gP]
  simp [GV, FI, hB]
 case round =>
  rintro k ρ σ1 ⟨hk, h1, h3, h4, hl, rfl⟩; refine aJ fun K8 hK8 => ?_; refine aJ fun K9 hK9 => ?_; refine aG rfl fun J10 hJ10 => ?_; (try simp [hBo, h1, h3, h4]); apply hJ10; apply hK9; refine jC rfl (fun c7 => ?_) (fun c7 => ?_)
  · try (exfalso; revert c7; simp [hBo, h1, h3, h4]; done)
    all_goals
     (try simp [hBo, h1, h3, h4] at c7)
     all_goals
      refine aA ?_; apply hK8; refine aJ fun K12 hK12 => ?_; refine aD ?_; refine aJ fun K13 hK13 => ?_
      obtain ⟨i, hik⟩ : ∃ i, k = i + 1 := ⟨k - 1, by omega⟩
      have hki : (k : Int) - 1 = (i : Int) := by omega
      obtain ⟨q, hq⟩ : ∃ q, q = i / 8 := ⟨_, rfl⟩
      obtain ⟨r, hr⟩ : ∃ r, r = i % 8 := ⟨_, rfl⟩
      have hq4 : q < 4 := by omega
      have hq5 : (q : Int) < 4 := by omega
      have hr8 : r < 8 := by omega
      have hqq : IntKind.i64.wrap ((i : Int).tdiv 8) = (q : Int) := by rw [Int.tdiv_eq_ediv_of_nonneg (by omega), wrap_i64 _ (by omega) (by omega)]; omega
      have hrr : (i : Int).tmod 8 = (r : Int) := by rw [Int.tmod_eq_emod_of_nonneg (by omega)]; omega
      have hq2 : IntKind.i64.wrap ((i : Int) / 8) = (q : Int) := by rw [wrap_i64 _ (by omega) (by omega)]; omega
      have hr2 : (i : Int) % 8 = (r : Int) := by omega
      have hm8 : IntKind.i64.wrap (8 * (r : Int)) = 8 * (r : Int) := wrap_i64 _ (by omega) (by omega)
      have hnn : ¬ 8 * (r : Int) < 0 := by omega
      obtain ⟨y, hy⟩ : ∃ y, y = x / 256 ^ i % 256 := ⟨_, rfl⟩
      have hy256 : y < 256 := by omega
      obtain ⟨c, hc⟩ : ∃ c, c = UInt8.ofNat y := ⟨_, rfl⟩
      have hcn : c.toNat = y := by rw [hc]; exact toNat_ofNat hy256
      obtain ⟨m, hm⟩ : ∃ m, m = eN x q / 2 ^ (8 * r) := ⟨_, rfl⟩
      have hmy : m % 256 = y := by rw [hm, hq, hr, hy]; exact FW (by omega)
      have hsh : Int.fdiv ((eN x q : Nat) : Int) (2 ^ (min (8 * (r : Int)).toNat 64)) = (m : Int) := by rw [show min (8 * (r : Int)).toNat 64 = 8 * r by omega, Int.fdiv_eq_ediv_of_nonneg _ (by exact Int.le_of_lt (Int.pow_pos (by omega))), hm]; simp
      have hcv : IntKind.u8.wrap (m : Int) = (c.toNat : Int) := by rw [wrap_u8, hmy, hcn]
      have hget := CY x hq4
      have hlen := IT B (aO (x / 256 ^ k))
      have happ := HN B (aO (x / 256 ^ k)) [c] .full (by omega) (by simp) (by simp)
      have happ2 : dG Tryz.prog 102 (m4 B (aO (x / 256 ^ k))) (.sl 1 [.v (.int .u8 c.toNat)] 1 .full) (nJ B (aO (x / 256 ^ k))) = some (m4 B (aO (x / 256 ^ k) ++ [c]), nJ B (aO (x / 256 ^ k) ++ [c])) := happ
      have happ3 : c.toNat = 0 → dG Tryz.prog 102 (m4 B (aO (x / 256 ^ k))) (.sl 1 [.v (.int .u8 0)] 1 .full) (nJ B (aO (x / 256 ^ k))) = some (m4 B (aO (x / 256 ^ k) ++ [c]), nJ B (aO (x / 256 ^ k) ++ [c])) := fun h => by rw [h] at happ2; exact happ2
      have hwi : IntKind.i64.wrap ((i : Int) - 1) = (i : Int) - 1 := wrap_i64 _ (by omega) (by omega)
      refine aG rfl fun J14 hJ14 => ?_; (try simp [hBo, h1, h3, h4, c7, hki, hwi, hqq, hrr, hq2, hr2, hq4, hq5, hm8, hnn, hsh, hcv, hget, hlen, happ2, happ3]); apply hJ14; apply hK13; refine aJ fun K15 hK15 => ?_; refine aG rfl fun J16 hJ16 => ?_; (try simp [hBo, h1, h3, h4, c7, hki, hwi, hqq, hrr, hq2, hr2, hq4, hq5, hm8, hnn, hsh, hcv, hget, hlen, happ2, happ3]); refine DR rfl (fun g6_2 => ?_) (fun g6_2 => ?_)
      · try (exfalso; revert g6_2; simp [hBo, h1, h3, h4, c7, hki, hwi, hqq, hrr, hq2, hr2, hq4, hq5, hm8, hnn, hsh, hcv, hget, hlen, happ2, happ3, g6_2]; done)
        all_goals
         (try simp [hBo, h1, h3, h4, c7, hki, hwi, hqq, hrr, hq2, hr2, hq4, hq5, hm8, hnn, hsh, hcv, hget, hlen, happ2, happ3] at g6_2)
         all_goals
          refine dY (by first | rfl | (simp [hBo, h1, h3, h4, c7, hki, hwi, hqq, hrr, hq2, hr2, hq4, hq5, hm8, hnn, hsh, hcv, hget, hlen, happ2, happ3, g6_2, aI]; done)) rfl ?_
          try simp [hBo, h1, h3, h4, c7, hki, hwi, hqq, hrr, hq2, hr2, hq4, hq5, hm8, hnn, hsh, hcv, hget, hlen, happ2, happ3, g6_2]
          refine dY (by first | rfl | (simp [hBo, h1, h3, h4, c7, hki, hwi, hqq, hrr, hq2, hr2, hq4, hq5, hm8, hnn, hsh, hcv, hget, hlen, happ2, happ3, g6_2, aI]; done)) rfl ?_
          try simp [hBo, h1, h3, h4, c7, hki, hwi, hqq, hrr, hq2, hr2, hq4, hq5, hm8, hnn, hsh, hcv, hget, hlen, happ2, happ3, g6_2]
          refine dY (by first | rfl | (simp [hBo, h1, h3, h4, c7, hki, hwi, hqq, hrr, hq2, hr2, hq4, hq5, hm8, hnn, hsh, hcv, hget, hlen, happ2, happ3, g6_2, aI]; done)) rfl ?_
          (try simp [hBo, h1, h3, h4, c7, hki, hwi, hqq, hrr, hq2, hr2, hq4, hq5, hm8, hnn, hsh, hcv, hget, hlen, happ2, happ3, g6_2]); apply hJ16; apply hK15; refine jC rfl (fun c25 => ?_) (fun c25 => ?_)
          · try (exfalso; revert c25; simp [hBo, h1, h3, h4, c7, hki, hwi, hqq, hrr, hq2, hr2, hq4, hq5, hm8, hnn, hsh, hcv, hget, hlen, happ2, happ3, g6_2]; done)
            all_goals
             (try simp [hBo, h1, h3, h4, c7, hki, hwi, hqq, hrr, hq2, hr2, hq4, hq5, hm8, hnn, hsh, hcv, hget, hlen, happ2, happ3, g6_2] at c25)
             all_goals
              refine aG rfl fun J18 hJ18 => ?_; (try simp [hBo, h1, h3, h4, c7, hki, hwi, hqq, hrr, hq2, hr2, hq4, hq5, hm8, hnn, hsh, hcv, hget, hlen, happ2, happ3, g6_2, c25]); apply hJ18; apply hK12; refine aG rfl fun J19 hJ19 => ?_; (try simp [hBo, h1, h3, h4, c7, hki, hwi, hqq, hrr, hq2, hr2, hq4, hq5, hm8, hnn, hsh, hcv, hget, hlen, happ2, happ3, g6_2, c25]); apply hJ19
              first | (have e : aO (x / 256 ^ i) = aO (x / 256 ^ k) ++ [c] := (by rw [hik, hc, hy]; exact nb1 (by first | (right; rw [← hik]; exact c25) | (left; omega))); exact ⟨i, ⟨by omega, by simp [h1], by rw [e]; simp, by simp, by rw [e]; simp; omega, by rw [e]⟩, by omega⟩) | (have e : aO (x / 256 ^ i) = aO (x / 256 ^ k) := (by rw [hik]; exact nb2 (by omega) (by rw [← hik, c25]; simp)); exact ⟨i, ⟨by omega, by simp [h1], by rw [e]; simp [h3], by simp, by rw [e]; omega, by rw [e, c25]⟩, by omega⟩)
          · try (exfalso; revert c25; simp [hBo, h1, h3, h4, c7, hki, hwi, hqq, hrr, hq2, hr2, hq4, hq5, hm8, hnn, hsh, hcv, hget, hlen, happ2, happ3, g6_2]; done)
            all_goals
             (try simp [hBo, h1, h3, h4, c7, hki, hwi, hqq, hrr, hq2, hr2, hq4, hq5, hm8, hnn, hsh, hcv, hget, hlen, happ2, happ3, g6_2] at c25)
             all_goals
              refine aA ?_; apply hK12; refine aG rfl fun J20 hJ20 => ?_; (try simp [hBo, h1, h3, h4, c7, hki, hwi, hqq, hrr, hq2, hr2, hq4, hq5, hm8, hnn, hsh, hcv, hget, hlen, happ2, happ3, g6_2, c25]); apply hJ20
              first | (have e : aO (x / 256 ^ i) = aO (x / 256 ^ k) ++ [c] := (by rw [hik, hc, hy]; exact nb1 (by first | (right; rw [← hik]; exact c25) | (left; omega))); exact ⟨i, ⟨by omega, by simp [h1], by rw [e]; simp, by simp, by rw [e]; simp; omega, by rw [e]⟩, by omega⟩) | (have e : aO (x / 256 ^ i) = aO (x / 256 ^ k) := (by rw [hik]; exact nb2 (by omega) (by rw [← hik, c25]; simp)); exact ⟨i, ⟨by omega, by simp [h1], by rw [e]; simp [h3], by simp, by rw [e]; omega, by rw [e, c25]⟩, by omega⟩)
      · try (exfalso; revert g6_2; simp [hBo, h1, h3, h4, c7, hki, hwi, hqq, hrr, hq2, hr2, hq4, hq5, hm8, hnn, hsh, hcv, hget, hlen, happ2, happ3, g6_2]; done)
        all_goals
         (try simp [hBo, h1, h3, h4, c7, hki, hwi, hqq, hrr, hq2, hr2, hq4, hq5, hm8, hnn, hsh, hcv, hget, hlen, happ2, happ3] at g6_2)
         all_goals
          refine iR (by first | rfl | (simp [hBo, h1, h3, h4, c7, hki, hwi, hqq, hrr, hq2, hr2, hq4, hq5, hm8, hnn, hsh, hcv, hget, hlen, happ2, happ3, g6_2, aI]; done)) rfl ?_
          try simp [hBo, h1, h3, h4, c7, hki, hwi, hqq, hrr, hq2, hr2, hq4, hq5, hm8, hnn, hsh, hcv, hget, hlen, happ2, happ3, g6_2]
          refine iR (by first | rfl | (simp [hBo, h1, h3, h4, c7, hki, hwi, hqq, hrr, hq2, hr2, hq4, hq5, hm8, hnn, hsh, hcv, hget, hlen, happ2, happ3, g6_2, aI]; done)) rfl ?_
          try simp [hBo, h1, h3, h4, c7, hki, hwi, hqq, hrr, hq2, hr2, hq4, hq5, hm8, hnn, hsh, hcv, hget, hlen, happ2, happ3, g6_2]
          refine iR (by first | rfl | (simp [hBo, h1, h3, h4, c7, hki, hwi, hqq, hrr, hq2, hr2, hq4, hq5, hm8, hnn, hsh, hcv, hget, hlen, happ2, happ3, g6_2, aI]; done)) rfl ?_
          (try simp [hBo, h1, h3, h4, c7, hki, hwi, hqq, hrr, hq2, hr2, hq4, hq5, hm8, hnn, hsh, hcv, hget, hlen, happ2, happ3, g6_2]); apply hJ16; apply hK15; refine jC rfl (fun c25 => ?_) (fun c25 => ?_)
          · try (exfalso; revert c25; simp [hBo, h1, h3, h4, c7, hki, hwi, hqq, hrr, hq2, hr2, hq4, hq5, hm8, hnn, hsh, hcv, hget, hlen, happ2, happ3, g6_2]; done)
            all_goals
             (try simp [hBo, h1, h3, h4, c7, hki, hwi, hqq, hrr, hq2, hr2, hq4, hq5, hm8, hnn, hsh, hcv, hget, hlen, happ2, happ3, g6_2] at c25)
             all_goals
              refine aG rfl fun J22 hJ22 => ?_; (try simp [hBo, h1, h3, h4, c7, hki, hwi, hqq, hrr, hq2, hr2, hq4, hq5, hm8, hnn, hsh, hcv, hget, hlen, happ2, happ3, g6_2, c25]); apply hJ22; apply hK12; refine aG rfl fun J23 hJ23 => ?_; (try simp [hBo, h1, h3, h4, c7, hki, hwi, hqq, hrr, hq2, hr2, hq4, hq5, hm8, hnn, hsh, hcv, hget, hlen, happ2, happ3, g6_2, c25]); apply hJ23
              first | (have e : aO (x / 256 ^ i) = aO (x / 256 ^ k) ++ [c] := (by rw [hik, hc, hy]; exact nb1 (by first | (right; rw [← hik]; exact c25) | (left; omega))); exact ⟨i, ⟨by omega, by simp [h1], by rw [e]; simp, by simp, by rw [e]; simp; omega, by rw [e]⟩, by omega⟩) | (have e : aO (x / 256 ^ i) = aO (x / 256 ^ k) := (by rw [hik]; exact nb2 (by omega) (by rw [← hik, c25]; simp)); exact ⟨i, ⟨by omega, by simp [h1], by rw [e]; simp [h3], by simp, by rw [e]; omega, by rw [e, c25]⟩, by omega⟩)
          · try (exfalso; revert c25; simp [hBo, h1, h3, h4, c7, hki, hwi, hqq, hrr, hq2, hr2, hq4, hq5, hm8, hnn, hsh, hcv, hget, hlen, happ2, happ3, g6_2]; done)
            all_goals
             (try simp [hBo, h1, h3, h4, c7, hki, hwi, hqq, hrr, hq2, hr2, hq4, hq5, hm8, hnn, hsh, hcv, hget, hlen, happ2, happ3, g6_2] at c25)
             all_goals
              refine aA ?_; apply hK12; refine aG rfl fun J24 hJ24 => ?_; (try simp [hBo, h1, h3, h4, c7, hki, hwi, hqq, hrr, hq2, hr2, hq4, hq5, hm8, hnn, hsh, hcv, hget, hlen, happ2, happ3, g6_2, c25]); apply hJ24
              first | (have e : aO (x / 256 ^ i) = aO (x / 256 ^ k) ++ [c] := (by rw [hik, hc, hy]; exact nb1 (by first | (right; rw [← hik]; exact c25) | (left; omega))); exact ⟨i, ⟨by omega, by simp [h1], by rw [e]; simp, by simp, by rw [e]; simp; omega, by rw [e]⟩, by omega⟩) | (have e : aO (x / 256 ^ i) = aO (x / 256 ^ k) := (by rw [hik]; exact nb2 (by omega) (by rw [← hik, c25]; simp)); exact ⟨i, ⟨by omega, by simp [h1], by rw [e]; simp [h3], by simp, by rw [e]; omega, by rw [e, c25]⟩, by omega⟩)
  · try (exfalso; revert c7; simp [hBo, h1, h3, h4]; done)
    all_goals
     (try simp [hBo, h1, h3, h4] at c7)
     all_goals
      refine bJ ?_; apply hK5; refine aJ fun K25 hK25 => ?_; refine aG rfl fun J26 hJ26 => ?_; (try simp [hBo, h1, h3, h4, c7]); apply hJ26; apply hK25; refine ra ?_
      have hk0 : k = 0 := by omega
      subst hk0
      simp
theorem Iw (σ : St) (l : List UInt8) : Wk (m4 σ l) (.sl 1 (aY l) l.length .shut) := by
 unfold m4
 split
 · rename_i h; subst h; exact Wk.nil 0 1 .full
 · exact Wk.shut _ _ _ _
theorem Cr {σ : St} {x : Nat} (hx : x < 2 ^ 256) :
  aE Tryz.prog 104 [.agg (aM x)] σ (fun av σ' => av = .sl 1 (aY (aO x)) (aO x).length .shut ∧ σ = σ') :=
 qV (FH hx) (fun av σ' ⟨h1, h2⟩ => ⟨h1 ▸ Iw _ _, by
  rw [h2]
  unfold nJ
  split
  · exact ⟨[aM x], [], [], by simp⟩
  · exact ⟨[aM x], [(aO x).length], [], by simp⟩⟩) (by simp [AV.under, kQ])
end Go.Proofs.YtjpnjhlfieklfaaGreat
namespace Go.Proofs.YtjpnjhlfieklfaaGreat
open Go Go.Vm
attribute [local simp] dM aI dJ opA bH bN cM bP ofValue dC plain aQ aR cA b8 cC cB bY b7 b9 bZ kC bW cG cD b6 bU bO cU aW dQ dR pZ gA bS dE cF AV.cells AV.bL dF cO eZ bF aV cQ dI dS dV cN aN dG gH maxLen
theorem Kj {σ : St} {id : Nat} {q : List UInt8} {tq : eO} (h : σ.objs[id]? = some [.sl 0 [] 0 .full]) (hq : q.length ≤ 1000000) :
  aE Tryz.prog 124 [.ptr id 0, .sl 1 (aY q) q.length tq] σ (fun av σ' => av = .ptr id 0 ∧ σ' = { σ with objs := σ.objs.set id [.sl 1 (aY q) q.length (.own σ.toks.length)], toks := σ.toks ++ [q.length] }) := by
 have hs := cY h
 have h1 : q.length ≤ 140737488355328 := by omega
 have h2 : q.length ≤ 9223372036854775807 := by omega
 have hv : (Value.int IntKind.u8 0).cells.size = 1 := rfl
 refine aB Tryz.func124 rfl rfl rfl ?_; refine aJ fun K1 hK1 => ?_; refine aG rfl fun J2 hJ2 => ?_; (try simp [h, hs, h1, h2, hv]); apply hJ2; apply hK1; refine aJ fun K3 hK3 => ?_; refine aJ fun K4 hK4 => ?_; refine aG rfl fun J5 hJ5 => ?_; (try simp [h, hs, h1, h2, hv]); apply hJ5; apply hK4
 refine eP (by first | rfl | (simp [h, hs, h1, h2, hv, bH]; done)) ?_
 refine aG rfl fun J6 hJ6 => ?_; (try simp [h, hs, h1, h2, hv]); apply hJ6; apply hK3; refine aJ fun K7 hK7 => ?_; refine aG rfl fun J8 hJ8 => ?_; (try simp [h, hs, h1, h2, hv]); apply hJ8; apply hK7; refine ra ?_; simp [h, hs, h1, h2, hv]
theorem G7 {σ : St} {id k : Nat} {l q : List UInt8} {tq : eO} (h : σ.objs[id]? = some [.sl 1 (aY l) l.length (.own k)]) (hk : σ.toks[k]? = some l.length) (hl : l.length ≤ 1000000) (hq : q.length ≤ 1000000) :
  aE Tryz.prog 124 [.ptr id 0, .sl 1 (aY q) q.length tq] σ (fun av σ' => av = .ptr id 0 ∧ σ' = { σ with objs := σ.objs.set id [.sl 1 (aY (l ++ q)) (l ++ q).length (.own k)], toks := σ.toks.set k (l ++ q).length }) := by
 have hs := cY h
 have h1 : l.length + q.length ≤ 140737488355328 := by omega
 have h2 : l.length + q.length ≤ 9223372036854775807 := by omega
 have hv : (Value.int IntKind.u8 0).cells.size = 1 := rfl
 refine aB Tryz.func124 rfl rfl rfl ?_; refine aJ fun K1 hK1 => ?_; refine aG rfl fun J2 hJ2 => ?_; (try simp [h, hs, h1, h2, hv, hk, iU]); apply hJ2; apply hK1; refine aJ fun K3 hK3 => ?_; refine aJ fun K4 hK4 => ?_; refine aG rfl fun J5 hJ5 => ?_; (try simp [h, hs, h1, h2, hv, hk, iU]); apply hJ5; apply hK4
 refine eP (by first | rfl | (simp [h, hs, h1, h2, hv, hk, iU, bH]; done)) ?_
 refine aG rfl fun J6 hJ6 => ?_; (try simp [h, hs, h1, h2, hv, hk, iU]); apply hJ6; apply hK3; refine aJ fun K7 hK7 => ?_; refine aG rfl fun J8 hJ8 => ?_; (try simp [h, hs, h1, h2, hv, hk, iU]); apply hJ8; apply hK7; refine ra ?_; simp [h, hs, h1, h2, hv, hk, iU]
theorem Jm {σ : St} {id : Nat} {p : List UInt8} {tl : eO} (h : σ.objs[id]? = some [.sl 1 (aY p) p.length tl]) (hp : p.length ≤ 1000000) :
  aE Tryz.prog 101 [.ptr id 0] σ (fun av σ' => av = .sl 1 (aY p) p.length .shut ∧ σ = σ') := by
 refine aB Tryz.func101 rfl rfl rfl ?_; refine aJ fun K1 hK1 => ?_; refine aG rfl fun J2 hJ2 => ?_; (try simp [h]); apply hJ2; apply hK1; refine aJ fun K3 hK3 => ?_; refine aJ fun K4 hK4 => ?_; refine aG rfl fun J5 hJ5 => ?_; (try simp [h]); apply hJ5; apply hK4
 refine fO (by first | rfl | (simp [h, bH]; done)) ?_
 refine aA ?_; apply hK3; refine aJ fun K6 hK6 => ?_; refine aG rfl fun J7 hJ7 => ?_; try simp [h]
 refine dK (b := true) (by first | rfl | (simp [h, aI]; done)) rfl rfl (by first | rfl | (simp [h, bF]; done)) (by simp) (nB hp) ?_
 rintro _ _ ⟨rfl, rfl⟩; (try simp [h]); apply hJ7; apply hK6; refine ra ?_; simp [h]
theorem pW (x k : Nat) (h : x < 256 ^ k) : (aO x).length ≤ k := by
 induction k generalizing x with
 | zero =>
   have : x = 0 := by simpa using h
   subst this; simp [gP]
 | succ k ih =>
   by_cases h0 : x = 0
   · subst h0; simp [gP]
   · rw [lC (by omega)]
     have : x / 256 < 256 ^ k := by rw [Nat.div_lt_iff_lt_mul (by omega)]; rwa [Nat.pow_succ] at h
     have := ih _ this
     simp; omega
end Go.Proofs.YtjpnjhlfieklfaaGreat
namespace Go.Proofs.YtjpnjhlfieklfaaGreat
open Go Go.Vm
attribute [local simp] dM aI dJ opA bH bN cM bP ofValue dC plain aQ aR cA b8 cC cB bY b7 b9 bZ kC bW cG cD b6 bU bO cU aW dQ dR bK aZ cL gA bS dE cF AV.cells AV.bL dF cO eZ bF aV cQ dI dS dV cN aN
theorem fC {σ : St} : aE Tryz.prog 70 [.sl 0 [] 0 .full] σ (fun av σ' => av = .v (.bool true) ∧ σ = σ') := by
 refine aB Tryz.func70 rfl rfl rfl ?_; refine aJ fun K1 hK1 => ?_; refine aG rfl fun J2 hJ2 => ?_; (try simp); apply hJ2; apply hK1; refine aJ fun K3 hK3 => ?_; refine aJ fun K4 hK4 => ?_; refine aG rfl fun J5 hJ5 => ?_; (try simp); apply hJ5; apply hK4; refine aD ?_; refine tP (X := Unit) (fun _ ρ σ1 => ρ 6 = .v (.int .i64 0) ∧ ρ 7 = .v (.int .i64 0) ∧ σ1 = σ) (fun _ => 0) (()) ?start ?round
 case start =>
  simp
 case round =>
  rintro _ ρ σ1 ⟨h6, h7, rfl⟩; refine aJ fun K6 hK6 => ?_; refine aG rfl fun J7 hJ7 => ?_; (try simp [h6, h7]); apply hJ7; apply hK6; refine aJ fun K8 hK8 => ?_
  refine fO (by first | rfl | (simp [h6, h7, bH]; done)) ?_
  refine bJ ?_; apply hK3; refine aJ fun K9 hK9 => ?_; refine aG rfl fun J10 hJ10 => ?_; (try simp [h6, h7]); apply hJ10; apply hK9; refine ra ?_; simp [h6, h7]
end Go.Proofs.YtjpnjhlfieklfaaGreat
namespace Go.Proofs.YtjpnjhlfieklfaaGreat
set_option maxHeartbeats 1600000
open Go Go.Vm
attribute [local simp] dM aI dJ opA bH bN cM bP ofValue dC plain aQ aR cA b8 cC cB bY b7 b9 bZ kC bW cG cD b6 bU aT aS bO cU aW dQ dR bK aZ cL gA bS dE cF AV.cells AV.bL dF cO eZ bF aV cQ dI dS dV cN aN dP dO gG dX List.getElem?_cons_zero List.getElem?_cons_succ dA
attribute [local simp] aM in
theorem BA {σ : St} {x : Num} : aE Tryz.prog 40 [.agg (aM x.v)] σ (fun av σ' => av = .v (.bool (decide (x.v = 0))) ∧ σ = σ') := by
 have hz : decide (x.v = 0) = (((eN x.v 0 : Int) == 0) && ((eN x.v 1 : Int) == 0) && ((eN x.v 2 : Int) == 0) && ((eN x.v 3 : Int) == 0)) := by
  rw [← k8]
  simp [aM, gC, Bool.and_assoc]
 rw [hz]
 refine aU ?_ rfl
 have F := True.intro
 refine aB Tryz.func40 rfl rfl rfl ?_; refine sr fun _ hJ2 => ?_; apply hJ2; refine sr fun _ hJ4 => ?_; refine gs 6 (fun g1_3 => ?_) (fun g1_3 => ?_)
 · try exact aK g1_3
   all_goals
    replace F := aF g1_3 F; (iterate 3 refine go2 (k := ?_)); refine gs 11 (fun g1_8 => ?_) (fun g1_8 => ?_)
    · try exact aK g1_8
      all_goals
       replace F := aF g1_8 F; (iterate 3 refine go2 (k := ?_)); refine gs 16 (fun g1_13 => ?_) (fun g1_13 => ?_)
       · try exact aK g1_13
         all_goals
          replace F := aF g1_13 F; (iterate 3 refine go2 (k := ?_)); apply hJ4; refine ra ?_; exact gcr
       try exact aK g1_13
       all_goals
        replace F := aF g1_13 F; (iterate 3 refine no2 (k := ?_)); apply hJ4; refine ra ?_; exact gcr
    try exact aK g1_8
    all_goals
     replace F := aF g1_8 F; (iterate 6 refine no2 (k := ?_)); apply hJ4; refine ra ?_; exact gcr
 try exact aK g1_3
 all_goals
  replace F := aF g1_3 F; (iterate 9 refine no2 (k := ?_)); apply hJ4; refine ra ?_; exact gcr
theorem q7 {l : List bD} {k : Nat} (h : k < l.length) (hn : 8 ≤ l[k].d.toNat ∨ l[k].n.v = 0 ∨ ∃ j, ∃ e : k = j + 1, l[k].d.toNat ≤ (l[j]'(by omega)).d.toNat) : ¬ bA l := by
 intro hr
 have h1 := hr.1 l[k] (List.getElem_mem h)
 rcases hn with hn | hn | ⟨j, rfl, hn⟩
 · omega
 · exact h1.2 hn
 · have := List.pairwise_iff_getElem.1 hr.2 j (j + 1) (by omega) h (by omega)
   omega
theorem DU {l : List bD} {j : Nat} (h : j + 1 < l.length) (h1 : l[j + 1].d.toNat < 8) (h2 : ¬ l[j + 1].n.v = 0) (h3 : (l[j]'(by omega)).d.toNat < l[j + 1].d.toNat) (hR : bA (l.take (j + 1))) : bA (l.take (j + 1 + 1)) := by
 rw [jD h, gX]
 refine ⟨hR, ⟨h1, h2⟩, DO hR ?_ h3⟩
 rw [jD (by omega : j < l.length), List.getLast?_append]; rfl
theorem CL {l : List bD} (h : 0 < l.length) (h1 : l[0].d.toNat < 8) (h2 : ¬ l[0].n.v = 0) : bA (l.take 1) := by
 have := jD h
 rw [Nat.zero_add] at this
 rw [this, gX]
 exact ⟨by simpa using Go.Vm.fC, ⟨h1, h2⟩, by simp⟩
theorem tC {σ : St} {l : List bD} {tl : eO} (hl : l.length ≤ 9223372036854775807) : aE Tryz.prog 70 [.sl 5 (aL l) l.length tl] σ (fun av σ' => av = .v (.bool (decide (bA l))) ∧ σ = σ') := by
 refine aU ?_ rfl
 have F := True.intro
 refine aB Tryz.func70 rfl rfl rfl ?_; refine sr fun _ hJ2 => ?_; apply hJ2; refine sq fun K3 hK3 => ?_; refine sr fun _ hJ5 => ?_; apply hJ5; refine aD ?_; refine fA (X := Nat) [0, 5, 6] (fun k ρ σ1 => (k ≤ l.length) ∧ (bA (l.take k)) ∧ (ρ 7 = .v (.int .i64 k)) ∧ (σ1 = σ)) (fun k => l.length - k) (0) ?st1 ?rd1
 case st1 =>
  refine ⟨lp, ?_, lp, lp⟩
  · simpa using Go.Vm.fC
 case rd1 =>
  rintro k ρ1 σ1 hF1 ⟨hk, hR, h7, hs⟩; obtain rfl := hs.symm
  have f1 := dU hF1
  (try simp [dT, F] at f1); replace F := aF h7 F; (try replace F := aF f1 F); refine sr fun _ hJ7 => ?_; apply hJ7; refine sq fun K8 hK8 => ?_; refine cs (fun c8 => ?_) (fun c8 => ?_)
  · (try exact aK c8); all_goals have c8p := c8; try simp [F] at c8p
    all_goals
     replace F := aF c8 F; (try replace F := aF c8p F); refine aA ?_; apply hK8; refine sq fun K9 hK9 => ?_; refine aD ?_; refine sr fun _ hJ11 => ?_; apply hJ11; refine sq fun K12 hK12 => ?_
     refine bI (by kernel_rfl) fun J13 hJ13 => ?_
     refine q2 0 ?_; refine q2 1 ?_; refine q2 2 ?_; refine q2 3 ?_; refine gd 15 (fun g4_3 => ?_) (fun g4_3 => ?_)
     · (try exact aK g4_3); all_goals have g4_3p := g4_3; try simp [F] at g4_3p
       all_goals
        replace F := aF g4_3 F; (try replace F := aF g4_3p F); refine q2 4 ?_; refine q2 5 ?_; refine q2 6 ?_; refine q2 7 ?_; refine q2 8 ?_; refine q2 9 ?_; refine q2 10 ?_; refine q2 11 ?_; refine q2 12 ?_; refine q2 13 ?_; refine q2 14 ?_; refine q2 15 ?_; refine q2 16 ?_; refine q2 17 ?_; refine q2 18 ?_; refine q2 19 ?_; refine q2 20 ?_; refine q2 21 ?_; refine q2 22 ?_; refine q2 23 ?_; refine dd ?_; apply hJ13; apply hK12; refine ct ?_; refine sr fun _ hJ15 => ?_; apply hJ15; refine ra ?_
        have hn : ¬ bA l := q7 c8p (.inl (by omega))
        exact gcr
     (try exact aK g4_3); all_goals have g4_3p := g4_3; try simp [F] at g4_3p
     all_goals
      replace F := aF g4_3 F; (try replace F := aF g4_3p F); refine q2 4 ?_; refine q2 5 ?_; refine q2 6 ?_; refine q2 7 ?_; refine q2 8 ?_; refine q2 9 ?_; refine gd 21 (fun g4_9 => ?_) (fun g4_9 => ?_)
      · (try exact aK g4_9); all_goals have g4_9p := g4_9; try simp [F] at g4_9p
        all_goals
         replace F := aF g4_9 F; (try replace F := aF g4_9p F); refine q2 10 ?_; refine q2 11 ?_; refine q2 12 ?_; refine q2 13 ?_; refine q2 14 ?_; refine q2 15 ?_; refine q2 16 ?_; refine q2 17 ?_; refine q2 18 ?_; refine q2 19 ?_; refine q2 20 ?_; refine q2 21 ?_; refine q2 22 ?_; refine q2 23 ?_; refine dd ?_; apply hJ13; apply hK12; refine ct ?_; refine sr fun _ hJ17 => ?_; apply hJ17; refine ra ?_
         have hn : ¬ bA l := q7 c8p (.inr (.inl g4_9p))
         exact gcr
      (try exact aK g4_9); all_goals have g4_9p := g4_9; try simp [F] at g4_9p
      all_goals
       replace F := aF g4_9 F; (try replace F := aF g4_9p F); refine q2 10 ?_; refine q2 11 ?_; refine q2 12 ?_; refine gd 24 (fun g4_12 => ?_) (fun g4_12 => ?_)
       · (try exact aK g4_12); all_goals have g4_12p := g4_12; try simp [F] at g4_12p
         all_goals
          replace F := aF g4_12 F; try replace F := aF g4_12p F
          obtain ⟨j, rfl⟩ : ∃ j, k = j + 1 := ⟨k - 1, by omega⟩
          refine q2 13 ?_; refine q2 14 ?_; refine q2 15 ?_; refine q2 16 ?_; refine q2 17 ?_; refine q2 18 ?_; refine q2 19 ?_; refine q2 20 ?_; refine q2 21 ?_; refine q2 22 ?_; refine q2 23 ?_; refine dd ?_; apply hJ13; apply hK12; refine cs (fun c35 => ?_) (fun c35 => ?_)
          · (try exact aK c35); all_goals have c35p := c35; try simp [F] at c35p
            all_goals
             replace F := aF c35 F; (try replace F := aF c35p F); refine sr fun _ hJ19 => ?_; apply hJ19; refine ra ?_
             have hn : ¬ bA l := q7 c8p (.inr (.inr ⟨j, rfl, c35p⟩))
             exact gcr
          (try exact aK c35); all_goals have c35p := c35; try simp [F] at c35p
          all_goals
           replace F := aF c35 F; (try replace F := aF c35p F); refine aA ?_; apply hK9; refine rg' (h := fun J20 hJ20 => ?_); apply hJ20; refine ⟨gk, (j + 1 + 1), ⟨kpG, lpG, ?_, lpG, lpG⟩, lpG⟩
           · exact DU c8p (by omega) g4_9p c35p hR
       (try exact aK g4_12); all_goals have g4_12p := g4_12; try simp [F] at g4_12p
       all_goals
        replace F := aF g4_12 F; try replace F := aF g4_12p F
        obtain rfl : k = 0 := by omega
        refine q2 13 ?_; refine q2 14 ?_; refine q2 15 ?_; refine q2 16 ?_; refine q2 17 ?_; refine q2 18 ?_; refine q2 19 ?_; refine q2 20 ?_; refine q2 21 ?_; refine q2 22 ?_; refine q2 23 ?_; refine dd ?_; apply hJ13; apply hK12; refine cf ?_; refine aA ?_; apply hK9; refine rg' (h := fun J21 hJ21 => ?_); apply hJ21; refine ⟨gk, (1), ⟨kpG, lpG, ?_, lpG, lpG⟩, lpG⟩
        · exact CL c8p (by omega) g4_9p
  (try exact aK c8); all_goals have c8p := c8; try simp [F] at c8p
  all_goals
   replace F := aF c8 F; (try replace F := aF c8p F); refine bJ ?_; apply hK3; refine sr fun _ hJ23 => ?_; apply hJ23; refine ra ?_
   have hn : bA l := by rw [List.take_of_length_le c8p] at hR; exact hR
   exact gcr
theorem rO {σ : St} {l : List bD} {tl : eO} (hl : l.length ≤ 9223372036854775807) : aE Tryz.prog 67 [.sl 5 (aL l) l.length tl] σ (fun av σ' => av = .v (.bool (decide (bA l))) ∧ σ = σ') := by
 have F := True.intro
 refine aB Tryz.func67 rfl rfl rfl ?_; refine sr fun _ hJ2 => ?_; apply hJ2; refine sq fun K3 hK3 => ?_; refine sr fun _ hJ5 => ?_; apply hJ5; refine aD ?_; refine cK (X := Nat) [0] (fun i ρ σ1 => (i ≤ l.length) ∧ (bA (l.take i)) ∧ (ρ 3 = .v (.int .i64 i)) ∧ (σ1 = σ)) (fun i => l.length - i) (0) ?st1 ?rd1
 case st1 =>
  refine ⟨lp, ?_, lp, lp⟩
  · simpa using Go.Vm.fC
 case rd1 =>
  rintro i ρ1 σ1 hF1 ⟨hi, hR, h3, hs⟩; obtain rfl := hs.symm
  have f1 := dU hF1
  (try simp [dT, F] at f1); replace F := aF h3 F; (try replace F := aF f1 F); refine sq fun K6 hK6 => ?_; refine sr fun _ hJ8 => ?_; apply hJ8; refine cs (fun c8 => ?_) (fun c8 => ?_)
  · (try exact aK c8); all_goals have c8p := c8; try simp [F] at c8p
    all_goals
     replace F := aF c8 F; (try replace F := aF c8p F); refine aA ?_; apply hK6; refine sq fun K9 hK9 => ?_; refine aD ?_; refine sq fun K10 hK10 => ?_; refine sr fun _ hJ12 => ?_; refine gs 17 (fun g4_6 => ?_) (fun g4_6 => ?_)
     · (try exact aK g4_6); all_goals have g4_6p := g4_6; try simp [F] at g4_6p
       all_goals
        replace F := aF g4_6 F; (try replace F := aF g4_6p F); (iterate 6 refine no2 (k := ?_)); apply hJ12; refine ct ?_; refine sr fun _ hJ14 => ?_; apply hJ14; refine ra ?_
        have hn : ¬ bA l := q7 c8p (.inl (by omega))
        exact rt
     (try exact aK g4_6); all_goals have g4_6p := g4_6; try simp [F] at g4_6p
     all_goals
      replace F := aF g4_6 F; (try replace F := aF g4_6p F); (iterate 5 refine go2 (k := ?_)); refine ca (c := BA) (k := ?_); rintro _ _ ⟨rfl, rfl⟩; (try simp [F]); apply hJ12; refine cs (fun c24 => ?_) (fun c24 => ?_)
      · (try exact aK c24); all_goals have c24p := c24; try simp [F] at c24p
        all_goals
         replace F := aF c24 F; (try replace F := aF c24p F); refine sr fun _ hJ16 => ?_; apply hJ16; refine ra ?_
         have hn : ¬ bA l := q7 c8p (.inr (.inl c24p))
         exact rt
      (try exact aK c24); all_goals have c24p := c24; try simp [F] at c24p
      all_goals
       replace F := aF c24 F; (try replace F := aF c24p F); refine aA ?_; apply hK10; refine sr fun _ hJ18 => ?_; apply hJ18; refine aD ?_; refine cK (X := Nat) [0, 3, 5, 6, 7, 8, 11, 12, 13, 14, 15, 16, 17, 18, 19, 20, 21, 22, 23, 24] (fun k ρ σ1 => (k ≤ i) ∧ (∀ b ∈ l.take k, b.d.toNat < l[i].d.toNat) ∧ (ρ 4 = .v (.int .i64 k)) ∧ (σ1 = σ)) (fun k => i - k) (0) ?st2 ?rd2
       case st2 =>
        refine ⟨lp, lp, lp, lp⟩
       case rd2 =>
        rintro k ρ2 σ1 hF2 ⟨hk, hB, h4, hs⟩; obtain rfl := hs.symm
        have f2 := dU hF2
        (try simp [dT, F] at f2); replace F := aF h4 F; (try replace F := aF f2 F); refine sq fun K19 hK19 => ?_; refine sr fun _ hJ21 => ?_; apply hJ21; refine cs (fun c27 => ?_) (fun c27 => ?_)
        · (try exact aK c27); all_goals have c27p := c27; try simp [F] at c27p
          all_goals
           replace F := aF c27 F; (try replace F := aF c27p F); refine aA ?_; apply hK19; refine sq fun K22 hK22 => ?_; refine aD ?_; refine sq fun K23 hK23 => ?_
           refine bI (by kernel_rfl) fun J24 hJ24 => ?_
           refine q2 0 ?_; refine q2 1 ?_; refine q2 2 ?_; refine q2 3 ?_; refine q2 4 ?_; refine q2 5 ?_; refine q2 6 ?_; refine q2 7 ?_; refine q2 8 ?_; refine q2 9 ?_; refine q2 10 ?_; refine dd ?_; apply hJ24; apply hK23; refine cs (fun c40 => ?_) (fun c40 => ?_)
           · (try exact aK c40); all_goals have c40p := c40; try simp [F] at c40p
             all_goals
              replace F := aF c40 F; (try replace F := aF c40p F); refine sr fun _ hJ26 => ?_; apply hJ26; refine ra ?_
              have hn : ¬ bA l := fun hr => by have := List.pairwise_iff_getElem.1 hr.2 k i (by omega) c8p c27p; omega
              exact rt
           (try exact aK c40); all_goals have c40p := c40; try simp [F] at c40p
           all_goals
            replace F := aF c40 F; (try replace F := aF c40p F); refine aA ?_; apply hK22; refine rg' (h := fun J27 hJ27 => ?_); apply hJ27; refine ⟨(k + 1), ⟨kp, lp, ?_, lp, lp⟩, lp⟩
            · rw [jD (by omega : k < l.length)]
              intro b hb
              rcases List.mem_append.1 hb with h | h
              · exact hB b h
              · simp at h; subst h; exact c40p
        (try exact aK c27); all_goals have c27p := c27; try simp [F] at c27p
        all_goals
         replace F := aF c27 F; (try replace F := aF c27p F); refine bJ ?_; apply hK9; refine rg' (h := fun J28 hJ28 => ?_); apply hJ28; refine ⟨(i + 1), ⟨kp, lp, ?_, lp, lp⟩, lp⟩
         · rw [jD c8p, gX]
           exact ⟨hR, ⟨by omega, c24p⟩, by rwa [show k = i by omega] at hB⟩
  (try exact aK c8); all_goals have c8p := c8; try simp [F] at c8p
  all_goals
   replace F := aF c8 F; (try replace F := aF c8p F); refine bJ ?_; apply hK3; refine sr fun _ hJ30 => ?_; apply hJ30; refine ra ?_
   have hn : bA l := by rw [List.take_of_length_le c8p] at hR; exact hR
   exact rt
theorem xX {σ : St} {l m : List bD} {t1 t2 : eO} (hl : l.length ≤ 9223372036854775807) (hm : m.length ≤ 9223372036854775807) : aE Tryz.prog 20 [.sl 5 (aL l) l.length t1, .sl 5 (aL m) m.length t2] σ (fun av σ' => av = .v (.bool (decide (l = m))) ∧ σ = σ') := by
 have F := True.intro
 refine aB Tryz.func20 rfl rfl rfl ?_; refine sr fun _ hJ2 => ?_; apply hJ2; refine sq fun K3 hK3 => ?_; refine sr fun _ hJ5 => ?_; apply hJ5; refine cs (fun c10 => ?_) (fun c10 => ?_)
 · (try exact aK c10); all_goals have c10p := c10; try simp [F] at c10p
   all_goals
    replace F := aF c10 F; (try replace F := aF c10p F); refine sr fun _ hJ7 => ?_; apply hJ7; refine ra ?_
    have hn : ¬ l = m := by rintro rfl; omega
    exact rt
 (try exact aK c10); all_goals have c10p := c10; try simp [F] at c10p
 all_goals
  replace F := aF c10 F; (try replace F := aF c10p F); refine aA ?_; apply hK3; refine sq fun K8 hK8 => ?_; refine sr fun _ hJ10 => ?_; apply hJ10; refine aD ?_; refine cK (X := Nat) [0, 1] (fun i ρ σ1 => (i ≤ l.length) ∧ (l.take i = m.take i) ∧ (ρ 5 = .v (.int .i64 i)) ∧ (σ1 = σ)) (fun i => l.length - i) (0) ?st1 ?rd1
  case st1 =>
   refine ⟨lp, lp, lp, lp⟩
  case rd1 =>
   rintro i ρ1 σ1 hF1 ⟨hi, hE, h5, hs⟩; obtain rfl := hs.symm
   have f1 := dU hF1
   (try simp [dT, F] at f1); replace F := aF h5 F; (try replace F := aF f1 F); refine sq fun K11 hK11 => ?_; refine sr fun _ hJ13 => ?_; apply hJ13; refine cs (fun c14 => ?_) (fun c14 => ?_)
   · (try exact aK c14); all_goals have c14p := c14; try simp [F] at c14p
     all_goals
      replace F := aF c14 F; (try replace F := aF c14p F); refine aA ?_; apply hK11; refine sq fun K14 hK14 => ?_; refine aD ?_; refine sq fun K15 hK15 => ?_
      refine bI (by kernel_rfl) fun J16 hJ16 => ?_
      refine q2 0 ?_; refine q2 1 ?_; refine q2 2 ?_; refine q2 3 ?_; refine q2 4 ?_; refine q2 5 ?_; refine q2 6 ?_; refine q2 7 ?_; refine q2 8 ?_; refine dd ?_; apply hJ16; apply hK15; refine cs (fun c25 => ?_) (fun c25 => ?_)
      · (try exact aK c25); all_goals have c25p := c25; try simp [F] at c25p
        all_goals
         replace F := aF c25 F; (try replace F := aF c25p F); refine sr fun _ hJ18 => ?_; apply hJ18; refine ra ?_
         have hn : ¬ l = m := by rintro rfl; simp at c25p
         exact rt
      (try exact aK c25); all_goals have c25p := c25; try simp [F] at c25p
      all_goals
       replace F := aF c25 F; (try replace F := aF c25p F); refine aA ?_; apply hK14; refine rg' (h := fun J19 hJ19 => ?_); apply hJ19; refine ⟨(i + 1), ⟨kp, lp, ?_, lp, lp⟩, lp⟩
       · rw [jD (by omega : i < l.length), jD (by omega : i < m.length), hE, c25p]
   (try exact aK c14); all_goals have c14p := c14; try simp [F] at c14p
   all_goals
    replace F := aF c14 F; (try replace F := aF c14p F); refine bJ ?_; apply hK8; refine sr fun _ hJ21 => ?_; apply hJ21; refine ra ?_
    have hn : l = m := by rw [← List.take_of_length_le (l := l) (i := i) (by omega), ← List.take_of_length_le (l := m) (i := i) (by omega), hE]
    exact rt
end Go.Proofs.YtjpnjhlfieklfaaGreat
namespace Go.Vm
set_option exponentiation.threshold 600
open Go
theorem cW {α : Type} (l r : List α) (n : Nat) (x : α) : (l ++ r).set (l.length + n) x = l ++ r.set n x := by
 rw [List.set_append_right _ _ (by omega), Nat.add_sub_cancel_left]
theorem cT {α : Type} (l r : List α) (n : Nat) : (l ++ r)[l.length + n]? = r[n]? := by
 rw [List.getElem?_append_right (by omega), Nat.add_sub_cancel_left]
def Lb (k : IntKind) (a b : Int) : Int := k.wrap (BitVec.ofInt k.bits a &&& BitVec.ofInt k.bits b).toNat
def orI (k : IntKind) (a b : Int) : Int := k.wrap (BitVec.ofInt k.bits a ||| BitVec.ofInt k.bits b).toNat
theorem gN {P : Program} {t : TypeId} {xo yo : Operand} {k : IntKind} {a b : Int} : iM P .and t xo yo (.v (.int k a)) (.v (.int k b)) = some (.v (.int k (Lb k a b))) := yQ t xo yo k a b
theorem cV {P : Program} {t : TypeId} {xo yo : Operand} {k : IntKind} {a b : Int} : iM P .or t xo yo (.v (.int k a)) (.v (.int k b)) = some (.v (.int k (orI k a b))) := kC t xo yo k a b
theorem cI {α : Type} (l r : List α) (n : Nat) : (l ++ r).take (l.length + n) = l ++ r.take n := by
 rw [List.take_append, List.take_of_length_le (by omega), Nat.add_sub_cancel_left]
def eA (b : Nat) : List Nat → Nat
 | [] => 0
 | d :: l => d + b * eA b l
@[simp] theorem MV (b : Nat) : eA b [] = 0 := rfl
theorem jW (b : Nat) : ∀ l m : List Nat, eA b (l ++ m) = eA b l + b ^ l.length * eA b m
 | [], m => by simp
 | d :: l, m => by
   simp only [List.cons_append, eA, jW b l m, List.length_cons, Nat.pow_succ, Nat.mul_add]
   rw [← Nat.add_assoc, ← Nat.mul_assoc, Nat.mul_comm b (b ^ l.length)]
theorem vM (b : Nat) (l : List Nat) (d : Nat) : eA b (l ++ [d]) = eA b l + b ^ l.length * d := by
 rw [jW]; simp [eA]
theorem tE {b : Nat} : ∀ {l : List Nat}, (∀ d ∈ l, d < b) → eA b l < b ^ l.length
 | [], _ => by simp
 | d :: l, h => by
   have h1 : d < b := h d (by simp)
   have h2 := tE (l := l) (fun x hx => h x (by simp [hx]))
   simp only [eA, List.length_cons, Nat.pow_succ]
   have h3 : b * (eA b l + 1) ≤ b * b ^ l.length := Nat.mul_le_mul_left _ h2
   rw [Nat.mul_add] at h3
   rw [Nat.mul_comm (b ^ l.length) b]
   omega
theorem AU (b n : Nat) : eA b (List.replicate n 0) = 0 := by
 induction n with
 | zero => rfl
 | succ n ih => simp [List.replicate_succ, eA, ih]
def cR (b n x : Nat) : List Nat := (List.range n).map fun i => x / b ^ i % b
@[simp] theorem oJ (b n x : Nat) : (cR b n x).length = n := by simp [cR]
theorem nD {b n x i : Nat} (h : i < n) : (cR b n x)[i]'(by simpa using h) = x / b ^ i % b := by simp [cR]
theorem oU {b n x i : Nat} (h : i < n) : (cR b n x)[i]? = some (x / b ^ i % b) := by simp [cR, h]
theorem iT {b n x : Nat} (hb : 0 < b) : ∀ d ∈ cR b n x, d < b := by
 intro d hd
 simp only [cR, List.mem_map, List.mem_range] at hd
 obtain ⟨i, _, rfl⟩ := hd
 exact Nat.mod_lt _ hb
theorem oT (b n x : Nat) : cR b (n + 1) x = cR b n x ++ [x / b ^ n % b] := by simp [cR, List.range_succ]
theorem AZ (b n : Nat) : cR b n 0 = List.replicate n 0 := by
 simp [cR, List.map_const']
theorem e9 (b x : Nat) : ∀ n, eA b (cR b n x) = x % b ^ n
 | 0 => by simp [cR, Nat.mod_one]
 | n + 1 => by
   rw [oT, vM, e9 b x n, oJ, Nat.mod_pow_succ]
theorem uZ {b : Nat} (hb : 0 < b) : ∀ {l : List Nat}, (∀ d ∈ l, d < b) → cR b l.length (eA b l) = l := by
 intro l h
 apply List.ext_getElem
 · simp
 · intro i h1 h2
   rw [nD (by simpa using h1)]
   have hl : i < l.length := h2
   have hi : l = l.take i ++ l[i] :: l.drop (i + 1) := by rw [List.getElem_cons_drop, List.take_append_drop]
   have h3 : eA b l = eA b (l.take i) + b ^ i * (l[i] + b * eA b (l.drop (i + 1))) := by
    conv => lhs; rw [hi, jW]
    simp [eA, Nat.min_eq_left (Nat.le_of_lt hl)]
   have h4 : eA b (l.take i) < b ^ i := by
    have := tE (l := l.take i) (fun d hd => h d (List.mem_of_mem_take hd))
    simpa [Nat.min_eq_left (Nat.le_of_lt hl)] using this
   rw [h3, Nat.add_mul_div_left _ _ (Nat.pow_pos hb), Nat.div_eq_of_lt h4, Nat.zero_add, Nat.add_mul_mod_self_left, Nat.mod_eq_of_lt (h _ (List.getElem_mem hl))]
theorem pG {b n x : Nat} {l : List Nat} (hb : 0 < b) (h : ∀ d ∈ l, d < b) (hl : l.length = n) (hx : eA b l = x) : l = cR b n x := by
 subst hl; subst hx; exact (uZ hb h).symm
theorem l9 {b : Nat} {l : List Nat} {i : Nat} (h : i < l.length) (d : Nat) : eA b (l.set i d) + b ^ i * l[i] = eA b l + b ^ i * d := by
 have hi : l = l.take i ++ l[i] :: l.drop (i + 1) := by rw [List.getElem_cons_drop, List.take_append_drop]
 have e1 : l.set i d = l.take i ++ d :: l.drop (i + 1) := List.set_eq_take_append_cons_drop.trans (if_pos h)
 have hlen : (l.take i).length = i := by simp [Nat.min_eq_left (Nat.le_of_lt h)]
 have h3 : eA b l = eA b (l.take i) + b ^ i * (l[i] + b * eA b (l.drop (i + 1))) := by
  conv => lhs; rw [hi, jW]
  rw [hlen]; rfl
 have h4 : eA b (l.set i d) = eA b (l.take i) + b ^ i * (d + b * eA b (l.drop (i + 1))) := by
  rw [e1, jW, hlen]; rfl
 rw [h3, h4]
 simp only [Nat.mul_add]
 omega
theorem j6 (b x i : Nat) : x % b ^ (i + 1) = x % b ^ i + b ^ i * (x / b ^ i % b) := Nat.mod_pow_succ
def dH (l : List Nat) : List AV := l.map fun (n : Nat) => .v (.int .u64 (n : Int))
@[simp] theorem KI (l : List Nat) : (dH l).length = l.length := by simp [dH]
theorem Cu (l m : List Nat) : dH l ++ dH m = dH (l ++ m) := by simp [dH]
theorem vS (l : List Nat) (n : Nat) : dH l ++ [.v (.int .u64 n)] = dH (l ++ [n]) := by simp [dH]
theorem jB (l : List Nat) (i n : Nat) (h : i < l.length) : (dH l).take i ++ .v (.int .u64 n) :: (dH l).drop (i + 1) = dH (l.set i n) := by
 rw [show l.set i n = l.take i ++ n :: l.drop (i + 1) from List.set_eq_take_append_cons_drop.trans (if_pos h)]
 simp [dH]
theorem m7 (B : Bd) : ∀ l : List Nat, bB B (dH l) = true
 | [] => rfl
 | n :: l => by show bB B (.v (.int .u64 n) :: dH l) = true; simp [bB, AV.under, m7 B l]
theorem lJ (n : Nat) : ∀ l : List Nat, bM n (dH l) = true
 | [] => rfl
 | x :: l => by show bM n (.v (.int .u64 x) :: dH l) = true; simp [bM, AV.eM, lJ n l]
theorem Cn (x j : Nat) : eN x j = x / 18446744073709551616 ^ j % 18446744073709551616 := by rw [eN, show (18446744073709551616 : Nat) = 2 ^ 64 from rfl, ← Nat.pow_mul]
theorem eH (x : Nat) : aM x = dH (cR 18446744073709551616 4 x) := by
 simp only [aM, dH, cR, Cn]; rfl
theorem fX (x : Nat) : (aM x).length = 4 := rfl
theorem eY (x : Nat) : (aM x).take 4 = aM x := rfl
theorem eV (x : Nat) : (aM x).drop 4 = [] := rfl
theorem fS : aM 0 = [.v (.int .u64 0), .v (.int .u64 0), .v (.int .u64 0), .v (.int .u64 0)] := rfl
theorem yR {n : Nat} (h : n < 2 ^ 64) : aM n = [.v (.int .u64 n), .v (.int .u64 0), .v (.int .u64 0), .v (.int .u64 0)] := by
 have e : ∀ j, 0 < j → eN n j = 0 := fun j hj => by
  unfold eN
  rw [Nat.div_eq_of_lt (Nat.lt_of_lt_of_le h (Nat.pow_le_pow_right (by omega) (by omega)))]
 simp only [aM, e 1 (by omega), e 2 (by omega), e 3 (by omega)]
 have : eN n 0 = n := by unfold eN; rw [Nat.mul_zero, Nat.pow_zero, Nat.div_one, Nat.mod_eq_of_lt h]
 rw [this]; rfl
def uW (b x y i : Nat) : Nat := (x % b ^ i + y % b ^ i) / b ^ i
theorem F9 (b x y : Nat) : uW b x y 0 = 0 := by simp [uW, Nat.mod_one]
theorem Ju {b x y i : Nat} (hb : 0 < b) : uW b x y i ≤ 1 := by
 have hB : 0 < b ^ i := Nat.pow_pos hb
 have h1 := Nat.mod_lt x hB
 have h2 := Nat.mod_lt y hB
 unfold uW
 rw [← Nat.lt_succ_iff, Nat.div_lt_iff_lt_mul hB]
 omega
theorem Cv {B q1 q2 r1 r2 : Nat} (hB : 0 < B) : (B * q1 + r1 + (B * q2 + r2)) / B = q1 + q2 + (r1 + r2) / B := by
 rw [show B * q1 + r1 + (B * q2 + r2) = r1 + r2 + B * (q1 + q2) by rw [Nat.mul_add]; omega, Nat.add_mul_div_left _ _ hB]
 omega
theorem F2 {b x y i : Nat} (hb : 0 < b) : (x + y) / b ^ i = x / b ^ i + y / b ^ i + uW b x y i := by
 have hB : 0 < b ^ i := Nat.pow_pos hb
 conv => lhs; rw [← Nat.div_add_mod x (b ^ i), ← Nat.div_add_mod y (b ^ i)]
 exact Cv hB
theorem IJ {b x y i : Nat} (hb : 0 < b) : (x / b ^ i % b + y / b ^ i % b + uW b x y i) % b = (x + y) / b ^ i % b := by
 rw [F2 hb]
 simp [Nat.add_mod, Nat.mod_mod]
theorem Ft {b x y i : Nat} (hb : 0 < b) : (x / b ^ i % b + y / b ^ i % b + uW b x y i) / b = uW b x y (i + 1) := by
 have hB : 0 < b ^ i := Nat.pow_pos hb
 unfold uW
 rw [j6 b x i, j6 b y i, Nat.pow_succ, ← Nat.div_div_eq_div_mul]
 congr 1
 rw [show x % b ^ i + b ^ i * (x / b ^ i % b) + (y % b ^ i + b ^ i * (y / b ^ i % b)) = b ^ i * (x / b ^ i % b) + x % b ^ i + (b ^ i * (y / b ^ i % b) + y % b ^ i) by omega, Cv hB]
theorem GX {b x y n : Nat} (hx : x < b ^ n) (hy : y < b ^ n) : uW b x y n = (x + y) / b ^ n := by
 unfold uW; rw [Nat.mod_eq_of_lt hx, Nat.mod_eq_of_lt hy]
def mix (b n i s x : Nat) : List Nat := cR b i s ++ (cR b n x).drop i
theorem o8 (b n s x : Nat) : mix b n 0 s x = cR b n x := by simp [mix, cR]
theorem rS (b n s x : Nat) : mix b n n s x = cR b n s := by simp [mix]
theorem pP {b n i s x : Nat} (h : i ≤ n) : (mix b n i s x).length = n := by simp [mix]; omega
theorem Jv {b n i s x : Nat} (h : i < n) : (mix b n i s x)[i]? = some (x / b ^ i % b) := by
 unfold mix
 rw [List.getElem?_append_right (by simp)]
 simp [nD h, h]
theorem Jq {b n i s x : Nat} (h : i < n) : (mix b n i s x).set i (s / b ^ i % b) = mix b n (i + 1) s x := by
 unfold mix
 rw [List.set_append_right _ _ (by simp), oT]
 have e : (cR b n x).drop i = (cR b n x)[i]'(by simpa using h) :: (cR b n x).drop (i + 1) := List.drop_eq_getElem_cons (by simpa using h)
 simp only [oJ, Nat.sub_self]
 rw [e, List.set_cons_zero]
 simp
theorem oZ {b n i s x : Nat} (h : i < n) : (dH (mix b n i s x))[i]? = some (.v (.int .u64 (x / b ^ i % b : Nat))) := by
 simp [dH, Jv h]
theorem eU {b n i x : Nat} (h : i < n) : (dH (cR b n x))[i]? = some (.v (.int .u64 (x / b ^ i % b : Nat))) := by
 simp [dH, oU h]
theorem oF {b n i s x : Nat} (h : i < n) : (dH (mix b n i s x)).take i ++ .v (.int .u64 (s / b ^ i % b : Nat)) :: (dH (mix b n i s x)).drop (i + 1) = dH (mix b n (i + 1) s x) := by
 rw [jB _ _ _ (by rw [pP (by omega)]; exact h), Jq h]
def o9 (b x y i : Nat) : Nat := if x % b ^ i < y % b ^ i then 1 else 0
theorem vG (b x y : Nat) : o9 b x y 0 = 0 := by simp [o9, Nat.mod_one]
theorem Bs (b x y i : Nat) : o9 b x y i ≤ 1 := by unfold o9; split <;> omega
theorem vO {b x y i : Nat} (hb : 0 < b) : (if x / b ^ i % b < y / b ^ i % b + o9 b x y i then 1 else 0) = o9 b x y (i + 1) := by
 have hB : 0 < b ^ i := Nat.pow_pos hb
 unfold o9
 rw [j6 b x i, j6 b y i]
 generalize hp : x / b ^ i % b = p
 generalize hq : y / b ^ i % b = q
 have h1 := Nat.mod_lt x hB
 have h2 := Nat.mod_lt y hB
 generalize x % b ^ i = r1 at *
 generalize y % b ^ i = r2 at *
 generalize b ^ i = B at *
 have key : (p < q → B * p + B ≤ B * q) ∧ (q < p → B * q + B ≤ B * p) ∧ (p = q → B * p = B * q) :=
  ⟨fun h => by rw [← Nat.mul_succ]; exact Nat.mul_le_mul_left _ h, fun h => by rw [← Nat.mul_succ]; exact Nat.mul_le_mul_left _ h, fun h => by rw [h]⟩
 rcases Nat.lt_trichotomy p q with h | h | h
 · have := key.1 h
   rw [if_pos (by omega), if_pos (by omega)]
 · have := key.2.2 h
   by_cases h3 : r1 < r2
   · rw [if_pos (by simp [h3]; omega), if_pos (by omega)]
   · rw [if_neg (by simp [h3]; omega), if_neg (by omega)]
 · have := key.2.1 h
   rw [if_neg (by split <;> omega), if_neg (by omega)]
theorem GM {b x y n : Nat} (hx : x < b ^ n) (hy : y < b ^ n) : o9 b x y n = if x < y then 1 else 0 := by
 unfold o9; rw [Nat.mod_eq_of_lt hx, Nat.mod_eq_of_lt hy]
theorem zX {b x y i n : Nat} (hb : 0 < b) (hi : i < n) (hx : x < b ^ n) (hy : y < b ^ n) :
  (x / b ^ i % b + b - y / b ^ i % b - o9 b x y i) % b = (x + b ^ n - y) / b ^ i % b := by
 have hB : 0 < b ^ i := Nat.pow_pos hb
 obtain ⟨k, rfl⟩ : ∃ k, n = i + (k + 1) := ⟨n - i - 1, by omega⟩
 rw [Nat.pow_add] at hx hy ⊢
 have h1 := Nat.mod_lt x hB
 have h2 := Nat.mod_lt y hB
 have ex := Nat.div_add_mod x (b ^ i)
 have ey := Nat.div_add_mod y (b ^ i)
 have hqx : x / b ^ i < b ^ (k + 1) := Nat.div_lt_of_lt_mul hx
 have hqy : y / b ^ i < b ^ (k + 1) := Nat.div_lt_of_lt_mul hy
 unfold o9
 generalize x / b ^ i = q1 at *
 generalize y / b ^ i = q2 at *
 generalize x % b ^ i = r1 at *
 generalize y % b ^ i = r2 at *
 have hM : b ^ (k + 1) = b * b ^ k := by rw [Nat.pow_succ, Nat.mul_comm]
 have hd : (x + b ^ i * b ^ (k + 1) - y) / b ^ i = q1 + b ^ (k + 1) - q2 - (if r1 < r2 then 1 else 0) := by
  subst ex ey
  have e0 : b ^ i * q2 + b ^ i ≤ b ^ i * b ^ (k + 1) := by rw [← Nat.mul_succ]; exact Nat.mul_le_mul_left _ hqy
  have e1 : b ^ i * (q1 + b ^ (k + 1) - q2) = b ^ i * q1 + b ^ i * b ^ (k + 1) - b ^ i * q2 := by rw [Nat.mul_sub, Nat.mul_add]
  by_cases h : r1 < r2
  · rw [if_pos h]
    have e2 : b ^ i * (q1 + b ^ (k + 1) - q2 - 1) = b ^ i * (q1 + b ^ (k + 1) - q2) - b ^ i := by rw [Nat.mul_sub, Nat.mul_one]
    have : b ^ i * q1 + r1 + b ^ i * b ^ (k + 1) - (b ^ i * q2 + r2) = (b ^ i + r1 - r2) + b ^ i * (q1 + b ^ (k + 1) - q2 - 1) := by rw [e2, e1]; omega
    rw [this, Nat.add_mul_div_left _ _ hB, Nat.div_eq_of_lt (by omega), Nat.zero_add]
  · rw [if_neg h]
    have : b ^ i * q1 + r1 + b ^ i * b ^ (k + 1) - (b ^ i * q2 + r2) = (r1 - r2) + b ^ i * (q1 + b ^ (k + 1) - q2) := by rw [e1]; omega
    rw [this, Nat.add_mul_div_left _ _ hB, Nat.div_eq_of_lt (by omega), Nat.zero_add]; omega
 rw [hd]
 have hm1 := Nat.mod_lt q1 hb
 have hm2 := Nat.mod_lt q2 hb
 have e1 := Nat.div_add_mod q1 b
 have e2 := Nat.div_add_mod q2 b
 have hk : 0 < b ^ k := Nat.pow_pos hb
 have hle : q2 / b < b ^ k := Nat.div_lt_of_lt_mul (by rw [← hM]; exact hqy)
 generalize q1 / b = u at *
 generalize q2 / b = v at *
 generalize q1 % b = p at *
 generalize q2 % b = q at *
 generalize hc : (if r1 < r2 then 1 else 0) = c
 have hc1 : c ≤ 1 := by rw [← hc]; split <;> omega
 rw [hM]
 subst e1 e2
 have e3 : b * (u + b ^ k - v - 1) = b * u + b * b ^ k - b * v - b := by rw [Nat.mul_sub, Nat.mul_sub, Nat.mul_add, Nat.mul_one]
 have e4 : b * v + b ≤ b * b ^ k := by rw [← Nat.mul_succ]; exact Nat.mul_le_mul_left _ hle
 have : b * u + p + b * b ^ k - (b * v + q) - c = (p + b - q - c) + b * (u + b ^ k - v - 1) := by rw [e3]; omega
 rw [this, Nat.add_mul_mod_self_left]
theorem and_low32 (n : Nat) : (BitVec.ofInt 64 (n : Int) &&& 4294967295#64).toNat = n % 4294967296 := by
 rw [BitVec.toNat_and]
 have e : (BitVec.ofInt 64 (n : Int)).toNat = n % 2 ^ 64 := by simp
 rw [e]
 show n % 2 ^ 64 &&& (2 ^ 32 - 1) = _
 rw [Nat.and_two_pow_sub_one_eq_mod]
 omega
theorem x9 (n : Nat) : (BitVec.ofNat 64 n &&& 4294967295#64).toNat = n % 4294967296 := by
 have := and_low32 n
 simpa using this
theorem rH (n m : Nat) : (n : Int).fdiv (m : Int) = ((n / m : Nat) : Int) := by
 rw [Int.fdiv_eq_ediv_of_nonneg _ (by omega)]; rfl
theorem tG (n : Nat) : (n : Int).fdiv 4294967296 = ((n / 4294967296 : Nat) : Int) := rH n 4294967296
theorem lF {n : Nat} (h : n < 18446744073709551616) : IntKind.u64.wrap (n : Int) = (n : Int) := eI ⟨by omega, by omega⟩
theorem IA {x y : Nat} (hx : x < 18446744073709551616) (hy : y < 18446744073709551616) :
  IntKind.u64.wrap (IntKind.u64.wrap (IntKind.u64.wrap ((x : Int).fdiv 4294967296 * (y : Int).fdiv 4294967296) + (IntKind.u64.wrap (IntKind.u64.wrap ((x : Int).fdiv 4294967296 * ((BitVec.ofNat 64 y &&& 4294967295#64).toNat : Int)) +
   (IntKind.u64.wrap (((BitVec.ofNat 64 x &&& 4294967295#64).toNat : Int) * ((BitVec.ofNat 64 y &&& 4294967295#64).toNat : Int))).fdiv 4294967296)).fdiv 4294967296) +
   (IntKind.u64.wrap (((BitVec.ofInt 64 (IntKind.u64.wrap (IntKind.u64.wrap ((x : Int).fdiv 4294967296 * ((BitVec.ofNat 64 y &&& 4294967295#64).toNat : Int)) +
    (IntKind.u64.wrap (((BitVec.ofNat 64 x &&& 4294967295#64).toNat : Int) * ((BitVec.ofNat 64 y &&& 4294967295#64).toNat : Int))).fdiv 4294967296)) &&& 4294967295#64).toNat : Int) + IntKind.u64.wrap (((BitVec.ofNat 64 x &&& 4294967295#64).toNat : Int) * (y : Int).fdiv 4294967296))).fdiv 4294967296) = ((x * y / 18446744073709551616 : Nat) : Int) := by
 rw [x9, x9, tG, tG]
 have hm : ∀ a b : Nat, (a : Int) * (b : Int) = ((a * b : Nat) : Int) := fun a b => by push_cast; rfl
 simp only [hm]
 have hx1 : x / 4294967296 ≤ 4294967295 := by omega
 have hy1 : y / 4294967296 ≤ 4294967295 := by omega
 have hx0 : x % 4294967296 ≤ 4294967295 := by omega
 have hy0 : y % 4294967296 ≤ 4294967295 := by omega
 have e : x * y = (x / 4294967296 * (y / 4294967296)) * 18446744073709551616 + (x / 4294967296 * (y % 4294967296) + x % 4294967296 * (y / 4294967296)) * 4294967296 + x % 4294967296 * (y % 4294967296) := by
  conv => lhs; rw [← Nat.div_add_mod x 4294967296, ← Nat.div_add_mod y 4294967296]
  generalize x / 4294967296 = a
  generalize y / 4294967296 = b
  generalize x % 4294967296 = c
  generalize y % 4294967296 = d
  grind
 rw [e]
 have h11 := Nat.mul_le_mul hx1 hy1
 have h10 := Nat.mul_le_mul hx1 hy0
 have h01 := Nat.mul_le_mul hx0 hy1
 have h00 := Nat.mul_le_mul hx0 hy0
 generalize x / 4294967296 * (y / 4294967296) = p11 at *
 generalize x / 4294967296 * (y % 4294967296) = p10 at *
 generalize x % 4294967296 * (y / 4294967296) = p01 at *
 generalize x % 4294967296 * (y % 4294967296) = p00 at *
 rw [lF (n := p11) (by omega), lF (n := p10) (by omega), lF (n := p01) (by omega), lF (n := p00) (by omega)]
 have ha : ∀ a b : Nat, (a : Int) + (b : Int) = ((a + b : Nat) : Int) := fun a b => by push_cast; rfl
 simp only [tG, ha]
 rw [lF (n := p10 + p00 / 4294967296) (by omega)]
 simp only [tG, ha, and_low32]
 rw [lF (n := p11 + (p10 + p00 / 4294967296) / 4294967296) (by omega), lF (n := (p10 + p00 / 4294967296) % 4294967296 + p01) (by omega)]
 simp only [tG, ha]
 rw [lF (by omega)]
 congr 1
 omega
theorem KD (x y : Nat) : IntKind.u64.wrap ((x : Int) * (y : Int)) = ((x * y % 18446744073709551616 : Nat) : Int) := by
 rw [show (x : Int) * (y : Int) = ((x * y : Nat) : Int) by push_cast; rfl, wrap_u64]
def iL (n : Nat) : List AV := dH (cR 18446744073709551616 8 n)
theorem Iu (b n m x : Nat) : cR b (n + m) x = cR b n x ++ cR b m (x / b ^ n) := by
 unfold cR
 rw [List.range_add, List.map_append, List.map_map]
 congr 1
 apply List.map_congr_left
 intro i _
 simp only [Function.comp]
 rw [Nat.div_div_eq_div_mul, ← Nat.pow_add]
theorem wU (n : Nat) : iL n = aM n ++ aM (n / 2 ^ 256) := by
 unfold iL
 rw [show (8 : Nat) = 4 + 4 from rfl, Iu, ← Cu, eH, eH]
theorem rW (n : Nat) : (iL n).length = 8 := by simp [iL]
theorem EC (n : Nat) : (iL n).take 4 = aM n := by rw [wU]; rfl
theorem qX (n : Nat) : (iL n).take 8 = iL n := List.take_of_length_le (by simp [iL])
theorem qM (n : Nat) : (iL n).drop 8 = [] := List.drop_of_length_le (by simp [iL])
theorem D0 (n : Nat) : (iL n).drop 4 = aM (n / 2 ^ 256) := by rw [wU]; rfl
theorem sO : iL 0 = [.v (.int .u64 0), .v (.int .u64 0), .v (.int .u64 0), .v (.int .u64 0), .v (.int .u64 0), .v (.int .u64 0), .v (.int .u64 0), .v (.int .u64 0)] := rfl
theorem Ex {P : List Nat} {m X Y c : Nat} (hP : ∀ d ∈ P, d < 18446744073709551616) (hm : m < P.length) (hc : c < 18446744073709551616) (hX : X < 18446744073709551616) (hY : Y < 18446744073709551616) :
  (∀ d ∈ P.set m ((X * Y + P[m] + c) % 18446744073709551616), d < 18446744073709551616) ∧ (X * Y + P[m] + c) / 18446744073709551616 < 18446744073709551616 ∧
  eA 18446744073709551616 (P.set m ((X * Y + P[m] + c) % 18446744073709551616)) + 18446744073709551616 ^ (m + 1) * ((X * Y + P[m] + c) / 18446744073709551616) = eA 18446744073709551616 P + 18446744073709551616 ^ m * (X * Y + c) := by
 have hp := hP _ (List.getElem_mem hm)
 refine ⟨fun d hd => ?_, ?_, ?_⟩
 · rcases List.mem_or_eq_of_mem_set hd with h | h
   · exact hP d h
   · rw [h]; exact Nat.mod_lt _ (by decide)
 · have h1 : X ≤ 18446744073709551615 := by omega
   have h2 : Y ≤ 18446744073709551615 := by omega
   have := Nat.mul_le_mul h1 h2
   omega
 · have h1 := l9 (b := 18446744073709551616) hm ((X * Y + P[m] + c) % 18446744073709551616)
   generalize eA 18446744073709551616 (P.set m ((X * Y + P[m] + c) % 18446744073709551616)) = v at *
   generalize eA 18446744073709551616 P = v0 at *
   rw [Nat.pow_succ, Nat.mul_assoc]
   have h2 := Nat.div_add_mod (X * Y + P[m] + c) 18446744073709551616
   generalize (X * Y + P[m] + c) / 18446744073709551616 = q at *
   generalize (X * Y + P[m] + c) % 18446744073709551616 = r at *
   generalize 18446744073709551616 ^ m = B at *
   have h3 : B * (18446744073709551616 * q) + B * r = B * (X * Y + c) + B * P[m] := by rw [← Nat.mul_add, h2, ← Nat.mul_add]; congr 1; omega
   omega
def shc (b x e i : Nat) : Nat := (2 * (x % b ^ i) + e) / b ^ i
theorem CT (b x e : Nat) : shc b x e 0 = e := by simp [shc, Nat.mod_one]
theorem HL {b x e i : Nat} (hb : 0 < b) (he : e ≤ 1) : shc b x e i ≤ 1 := by
 have hB : 0 < b ^ i := Nat.pow_pos hb
 have h1 := Nat.mod_lt x hB
 unfold shc
 rw [← Nat.lt_succ_iff, Nat.div_lt_iff_lt_mul hB]
 omega
theorem EM {b x e i : Nat} (hb : 0 < b) : (2 * (x / b ^ i % b) + shc b x e i) % b = (2 * x + e) / b ^ i % b := by
 have hB : 0 < b ^ i := Nat.pow_pos hb
 have h : (2 * x + e) / b ^ i = 2 * (x / b ^ i) + shc b x e i := by
  unfold shc
  conv => lhs; rw [← Nat.div_add_mod x (b ^ i)]
  generalize x / b ^ i = q
  generalize x % b ^ i = r
  rw [show 2 * (b ^ i * q + r) + e = (2 * r + e) + b ^ i * (2 * q) by grind, Nat.add_mul_div_left _ _ hB, Nat.add_comm]
 rw [h]
 generalize x / b ^ i = q
 rw [Nat.add_mod, Nat.mul_mod, Nat.mod_mod, ← Nat.mul_mod, ← Nat.add_mod]
theorem C6 {b x e i : Nat} (hb : 0 < b) : (2 * (x / b ^ i % b) + shc b x e i) / b = shc b x e (i + 1) := by
 have hB : 0 < b ^ i := Nat.pow_pos hb
 unfold shc
 rw [j6 b x i, Nat.pow_succ, ← Nat.div_div_eq_div_mul]
 congr 1
 generalize x / b ^ i % b = q
 generalize x % b ^ i = r
 rw [show 2 * (r + b ^ i * q) + e = (2 * r + e) + b ^ i * (2 * q) by grind, Nat.add_mul_div_left _ _ hB, Nat.add_comm]
theorem H2 {b x e n : Nat} (hx : x < b ^ n) : shc b x e n = (2 * x + e) / b ^ n := by unfold shc; rw [Nat.mod_eq_of_lt hx]
theorem Hm {n b : Nat} (h : n / 2 ^ b % 2 = 0) : n ||| 2 ^ b = n + 2 ^ b := by
 apply Nat.eq_of_testBit_eq
 intro j
 have e := Nat.div_add_mod n (2 ^ b)
 have h1 : n + 2 ^ b = 2 ^ b * (n / 2 ^ b + 1) + n % 2 ^ b := by rw [Nat.mul_add, Nat.mul_one]; omega
 have hlt := Nat.mod_lt n (Nat.two_pow_pos b)
 rw [Nat.testBit_or, Nat.testBit_two_pow, h1, Nat.testBit_two_pow_mul_add _ hlt]
 conv => lhs; rw [← e, Nat.testBit_two_pow_mul_add _ hlt]
 split
 · rename_i hj
   simp; omega
 · rename_i hj
   generalize n / 2 ^ b = q at *
   by_cases hb : b = j
   · subst hb
     simp [Nat.testBit_zero]; omega
   · have h3 : j - b = (j - b - 1) + 1 := by omega
     rw [h3, Nat.testBit_succ, Nat.testBit_succ]
     have : (q + 1) / 2 = q / 2 := by omega
     rw [this]; simp [hb]
theorem Hs (a b : Nat) (ha : a < 18446744073709551616) (hb : b < 18446744073709551616) : (BitVec.ofInt 64 (a : Int) ||| BitVec.ofInt 64 (b : Int)).toNat = a ||| b := by
 rw [BitVec.toNat_or]
 simp
 rw [Nat.mod_eq_of_lt ha, Nat.mod_eq_of_lt hb]
theorem H6 {X c : Nat} (hX : X < 18446744073709551616) (hc : c ≤ 1) : (BitVec.ofInt 64 (IntKind.u64.wrap ((X : Int) * 2)) ||| BitVec.ofNat 64 c).toNat = (2 * X + c) % 18446744073709551616 := by
 have e1 : IntKind.u64.wrap ((X : Int) * 2) = ((2 * X % 18446744073709551616 : Nat) : Int) := by
  rw [show (X : Int) * 2 = ((2 * X : Nat) : Int) by push_cast <;> omega, wrap_u64]
 have e2 : BitVec.ofNat 64 c = BitVec.ofInt 64 ((c : Nat) : Int) := by simp
 rw [e1, e2, Hs _ _ (by omega) (by omega)]
 have : c = 0 ∨ c = 1 := by omega
 rcases this with rfl | rfl
 · simp
 · have := Hm (n := 2 * X % 18446744073709551616) (b := 0) (by simp)
   rw [Nat.pow_zero] at this
   rw [this]; omega
theorem Fi {b n x y i : Nat} (hb : 0 < b) (hx : x < b ^ n) (hy : y < b ^ n) (h : ∀ j, i ≤ j → j < n → x / b ^ j % b = y / b ^ j % b) : ∀ k, i + k ≤ n → x / b ^ (n - k) = y / b ^ (n - k)
 | 0, _ => by rw [Nat.sub_zero, Nat.div_eq_of_lt hx, Nat.div_eq_of_lt hy]
 | k + 1, hk => by
   have ih := Fi hb hx hy h k (by omega)
   have e : n - k = n - (k + 1) + 1 := by omega
   rw [e, Nat.pow_succ, ← Nat.div_div_eq_div_mul, ← Nat.div_div_eq_div_mul] at ih
   have hd := h (n - (k + 1)) (by omega) (by omega)
   rw [← Nat.div_add_mod (x / b ^ (n - (k + 1))) b, ← Nat.div_add_mod (y / b ^ (n - (k + 1))) b, ih, hd]
theorem tM {b n x y i : Nat} (hb : 0 < b) (hx : x < b ^ n) (hy : y < b ^ n) (hi : i ≤ n) (h : ∀ j, i ≤ j → j < n → x / b ^ j % b = y / b ^ j % b) : x / b ^ i = y / b ^ i := by
 have := Fi hb hx hy h (n - i) (by omega)
 rwa [show n - (n - i) = i by omega] at this
theorem uY {b n x y i : Nat} (hb : 0 < b) (hx : x < b ^ n) (hy : y < b ^ n) (hi : i < n) (h : ∀ j, i < j → j < n → x / b ^ j % b = y / b ^ j % b) (hl : x / b ^ i % b < y / b ^ i % b) : x < y := by
 have h1 := tM hb hx hy (i := i + 1) (by omega) (fun j h1 h2 => h j (by omega) h2)
 rw [Nat.pow_succ, ← Nat.div_div_eq_div_mul, ← Nat.div_div_eq_div_mul] at h1
 have h2 : x / b ^ i < y / b ^ i := by
  rw [← Nat.div_add_mod (x / b ^ i) b, ← Nat.div_add_mod (y / b ^ i) b, h1]; omega
 apply Nat.lt_of_not_le
 intro hle
 exact absurd (Nat.div_le_div_right (c := b ^ i) hle) (by omega)
theorem I8 {n i : Nat} {pre : List Nat} (h : pre ++ [i] <+: (List.range n).reverse) : i < n ∧ ∀ j, i < j → j < n → j ∈ pre := by
 obtain ⟨t, ht⟩ := h
 have hl : pre.length < n := by have := congrArg List.length ht; simp at this; omega
 have hi : i = n - 1 - pre.length := by
  have := congrArg (fun l => l[pre.length]?) ht
  simp at this
  rw [List.getElem?_eq_getElem (by simp; omega)] at this
  simp at this
  omega
 refine ⟨by omega, fun j h1 h2 => ?_⟩
 have h3 := congrArg (fun l => l[n - 1 - j]?) ht
 simp only [List.append_assoc] at h3
 rw [List.getElem?_append_left (by omega), List.getElem?_eq_getElem (by omega), List.getElem?_eq_getElem (by simp; omega)] at h3
 simp at h3
 have : n - 1 - (n - 1 - j) = j := by omega
 rw [this] at h3
 rw [← h3]; exact List.getElem_mem _
def C9 (l : List Nat) : List Value := l.map fun (n : Nat) => .int .u64 (n : Int)
theorem Il (l : List Nat) : (C9 l).map AV.v = dH l := by simp [C9, dH]
theorem IF {l : List Nat} {i : Nat} {x : Value} (h : (C9 l)[i]? = some x) : ∃ k : Nat, l[i]? = some k ∧ x = .int .u64 (k : Int) := by
 simp only [C9, List.getElem?_map] at h
 cases h2 : l[i]? with
 | none => rw [h2] at h; simp at h
 | some a =>
   rw [h2] at h; simp at h
   exact ⟨a, rfl, h.symm⟩
theorem DB (l : List Nat) : (C9 l).all (fun x => plain x && x.oneCell') = true := by
 simp [C9, plain, Value.oneCell']
def q8 (x y i X k : Nat) (P : List Nat) (c : Nat) : Prop :=
 P.length = 8 ∧ (∀ d ∈ P, d < 18446744073709551616) ∧ c < 18446744073709551616 ∧
  eA 18446744073709551616 P + 18446744073709551616 ^ (i + k) * c = (x % 18446744073709551616 ^ i) * y + 18446744073709551616 ^ i * (X * (y % 18446744073709551616 ^ k)) ∧
  ∀ j, i + k ≤ j → P[j]? = (cR 18446744073709551616 8 ((x % 18446744073709551616 ^ i) * y))[j]?
theorem uD {x y i n m : Nat} {b : Nat} (hb : 0 < b) (hy : y < b ^ m) (h : i + m ≤ n) : (x % b ^ i) * y < b ^ n := by
 have h1 := Nat.mod_lt x (Nat.pow_pos (n := i) hb)
 have h2 : (x % b ^ i) * y < b ^ i * b ^ m := Nat.mul_lt_mul'' h1 hy
 rw [← Nat.pow_add] at h2
 exact Nat.lt_of_lt_of_le h2 (Nat.pow_le_pow_right hb h)
theorem CO {x y i X : Nat} (hi : i ≤ 4) (hy : y < 18446744073709551616 ^ 4) : q8 x y i X 0 (cR 18446744073709551616 8 ((x % 18446744073709551616 ^ i) * y)) 0 := by
 refine ⟨by simp, iT (by decide), by decide, ?_, fun j _ => rfl⟩
 rw [e9, Nat.mod_eq_of_lt (uD (by decide) hy (by omega))]
 simp [Nat.mod_one]
theorem Ep {x y i X k p c s c' : Nat} {P : List Nat} (h : q8 x y i X k P c) (hi : i < 4) (hk : k < 4) (hX : X < 18446744073709551616) (hp : P[i + k]? = some p) {Y : Nat} (hY : y / 18446744073709551616 ^ k % 18446744073709551616 = Y)
  (hs : s = (X * Y + p + c) % 18446744073709551616) (hc : c' = (X * Y + p + c) / 18446744073709551616) : q8 x y i X (k + 1) (P.set (i + k) s) c' := by
 obtain ⟨h1, h2, h3, h4, h5⟩ := h
 obtain ⟨hl, rfl⟩ := List.getElem?_eq_some_iff.1 hp
 have hY2 : Y < 18446744073709551616 := by rw [← hY]; exact Nat.mod_lt _ (by decide)
 obtain ⟨e1, e2, e3⟩ := Ex h2 hl h3 hX hY2
 subst hs hc
 refine ⟨by simp [h1], e1, e2, ?_, fun j hj => ?_⟩
 · rw [← Nat.add_assoc, e3, j6, hY, Nat.mul_add (18446744073709551616 ^ (i + k)), Nat.add_comm (18446744073709551616 ^ (i + k) * (X * Y)), ← Nat.add_assoc, h4, Nat.pow_add]
   generalize 18446744073709551616 ^ i = A
   generalize 18446744073709551616 ^ k = B
   generalize y % B = z
   grind
 · rw [List.getElem?_set_ne (by omega)]
   exact h5 j (by omega)
theorem Ej {x y i X c : Nat} {P : List Nat} (h : q8 x y i X 4 P c) (hi : i < 4) (hX : x / 18446744073709551616 ^ i % 18446744073709551616 = X) (hy : y < 18446744073709551616 ^ 4) :
  P.set (i + 4) c = cR 18446744073709551616 8 ((x % 18446744073709551616 ^ (i + 1)) * y) := by
 obtain ⟨h1, h2, h3, h4, h5⟩ := h
 have hl : i + 4 < P.length := by omega
 have h0 : P[i + 4] = 0 := by
  have := h5 (i + 4) (Nat.le_refl _)
  rw [List.getElem?_eq_getElem hl, oU (by omega), Nat.div_eq_of_lt (uD (by decide) hy (Nat.le_refl _))] at this
  simpa using this
 refine pG (by decide) (fun d hd => ?_) (by simp [h1]) ?_
 · rcases List.mem_or_eq_of_mem_set hd with h | h
   · exact h2 d h
   · rw [h]; exact h3
 · have e := l9 (b := 18446744073709551616) hl c
   rw [h0, Nat.mul_zero, Nat.add_zero] at e
   rw [e, h4, Nat.mod_eq_of_lt hy, j6 _ x i, hX]
   generalize 18446744073709551616 ^ i = A
   grind
theorem AH {x L q r j : Nat} (hL : L = x / 18446744073709551616 ^ q % 18446744073709551616) (hr : r < 64) (hj : j = 64 * q + r) : L / 2 ^ r % 2 = x / 2 ^ j % 2 := by
 have h1 := rC x q r
 rw [Cn, ← hL, ← hj] at h1
 simp only [hr, decide_true, Bool.true_and, Nat.testBit_eq_decide_div_mod_eq] at h1
 have h2 : (L / 2 ^ r % 2 = 1) ↔ (x / 2 ^ j % 2 = 1) := by simpa using h1
 omega
theorem lG (r : Nat) : ((2 : Int) ^ r) = ((2 ^ r : Nat) : Int) := by push_cast; rfl
theorem LZ {x L q r j : Nat} (hL : L = x / 18446744073709551616 ^ q % 18446744073709551616) (hr : r < 64) (hj : j = 64 * q + r) :
  (BitVec.ofInt 64 ((L : Int).fdiv (2 ^ min r 64)) &&& 1#64).toNat = x / 2 ^ j % 2 := by
 rw [Nat.min_eq_left (by omega), lG, rH, BitVec.toNat_and]
 have hl : L / 2 ^ r < 2 ^ 64 := Nat.lt_of_le_of_lt (Nat.div_le_self _ _) (by omega)
 have e : (BitVec.ofInt 64 ((L / 2 ^ r : Nat) : Int)).toNat = L / 2 ^ r := by
  rw [BitVec.toNat_ofInt]
  generalize L / 2 ^ r = M at hl
  have : ((M : Nat) : Int) % ((2 ^ 64 : Nat) : Int) = ((M : Nat) : Int) := Int.emod_eq_of_lt (by omega) (by omega)
  rw [this]; rfl
 rw [e]
 show L / 2 ^ r &&& 1 = _
 rw [Nat.and_one_is_mod]
 exact AH hL hr hj
theorem AR {x c j : Nat} (hc : 0 < c) :
  (2 * (x / 2 ^ (j + 1) % c) + x / 2 ^ j % 2 < c → x / 2 ^ j / c = 2 * (x / 2 ^ (j + 1) / c) ∧ x / 2 ^ j % c = 2 * (x / 2 ^ (j + 1) % c) + x / 2 ^ j % 2) ∧
  (c ≤ 2 * (x / 2 ^ (j + 1) % c) + x / 2 ^ j % 2 → x / 2 ^ j / c = 2 * (x / 2 ^ (j + 1) / c) + 1 ∧ x / 2 ^ j % c = 2 * (x / 2 ^ (j + 1) % c) + x / 2 ^ j % 2 - c) ∧
  2 * (x / 2 ^ (j + 1) % c) + x / 2 ^ j % 2 < 2 * c := by
 have e0 : x / 2 ^ (j + 1) = x / 2 ^ j / 2 := by rw [Nat.pow_succ, Nat.div_div_eq_div_mul]
 rw [e0]
 generalize x / 2 ^ j = y
 have e1 := Nat.div_add_mod y 2
 have e2 := Nat.div_add_mod (y / 2) c
 have e3 := Nat.mod_lt (y / 2) hc
 have e4 := Nat.mod_lt y (show 0 < 2 by omega)
 generalize y / 2 / c = u at *
 generalize y / 2 % c = v at *
 generalize y % 2 = b at *
 have hy : y = c * (2 * u) + (2 * v + b) := by rw [← e1, ← e2]; grind
 refine ⟨fun h => ?_, fun h => ?_, by omega⟩
 · subst hy
   exact ⟨by rw [Nat.mul_add_div hc, Nat.div_eq_of_lt h, Nat.add_zero], by rw [Nat.mul_add_mod, Nat.mod_eq_of_lt h]⟩
 · have hy2 : y = c * (2 * u + 1) + (2 * v + b - c) := by rw [hy, Nat.mul_add, Nat.mul_one]; omega
   have h2 : 2 * v + b - c < c := by omega
   rw [hy2]
   exact ⟨by rw [Nat.mul_add_div hc, Nat.div_eq_of_lt h2, Nat.add_zero], by rw [Nat.mul_add_mod, Nat.mod_eq_of_lt h2]⟩
theorem C8 {Q j q r M : Nat} (hM : M = Q / 18446744073709551616 ^ q % 18446744073709551616) (hr : r < 64) (hj : j = 64 * q + r) (hq : q < 8) (hb : Q / 2 ^ j % 2 = 0) (hl : Q + 2 ^ j < 2 ^ 512) :
  M + 2 ^ r < 18446744073709551616 ∧ M ||| 2 ^ r = M + 2 ^ r ∧ (cR 18446744073709551616 8 Q).set q (M + 2 ^ r) = cR 18446744073709551616 8 (Q + 2 ^ j) := by
 have hm2 : M / 2 ^ r % 2 = 0 := by rw [AH hM hr hj]; exact hb
 have hMl : M < 18446744073709551616 := by rw [hM]; exact Nat.mod_lt _ (by decide)
 have hlt : M + 2 ^ r < 18446744073709551616 := by
  have e := Nat.div_add_mod M (2 ^ r)
  have hp := Nat.two_pow_pos r
  have e2 := Nat.mod_lt M hp
  obtain ⟨s, hs⟩ : ∃ s, 64 = r + (s + 1) := ⟨63 - r, by omega⟩
  have hW : 18446744073709551616 = 2 ^ r * (2 * 2 ^ s) := by
   rw [show (18446744073709551616 : Nat) = 2 ^ 64 from rfl]; conv => lhs; rw [hs, Nat.pow_add, Nat.pow_succ, Nat.mul_comm (2 ^ s)]
  have h3 : M / 2 ^ r < 2 * 2 ^ s := Nat.div_lt_of_lt_mul (by rw [← hW]; exact hMl)
  have h4 : M / 2 ^ r + 2 ≤ 2 * 2 ^ s := by omega
  have h5 := Nat.mul_le_mul_left (2 ^ r) h4
  rw [Nat.mul_add] at h5
  rw [hW]; omega
 refine ⟨hlt, Hm hm2, ?_⟩
 have hl1 : q < (cR 18446744073709551616 8 Q).length := by simpa using hq
 refine pG (by decide) (fun d hd => ?_) (by simp) ?_
 · rcases List.mem_or_eq_of_mem_set hd with h | h
   · exact iT (by decide) d h
   · rw [h]; exact hlt
 · have e := l9 (b := 18446744073709551616) hl1 (M + 2 ^ r)
   have hQ : Q < 18446744073709551616 ^ 8 := by
    have h8 : (18446744073709551616 : Nat) ^ 8 = 2 ^ 512 := by rw [show (18446744073709551616 : Nat) = 2 ^ 64 from rfl, ← Nat.pow_mul]
    rw [h8]; exact Nat.lt_of_le_of_lt (Nat.le_add_right _ _) hl
   rw [nD hq, ← hM, e9, Nat.mod_eq_of_lt hQ] at e
   have e2 : 18446744073709551616 ^ q * 2 ^ r = 2 ^ j := by rw [show (18446744073709551616 : Nat) = 2 ^ 64 from rfl, ← Nat.pow_mul, ← Nat.pow_add, hj]
   rw [Nat.mul_add, e2] at e
   omega
theorem HO (x : Nat) : aM (x % 2 ^ 256) = aM x := by
 rw [eH, eH]
 congr 1
 refine (pG (by decide) (iT (by decide)) (by simp) ?_).symm
 rw [e9]
theorem Hg {x L q r j : Nat} (hL : L = x / 18446744073709551616 ^ q % 18446744073709551616) (hr : r < 64) (hj : j = 64 * q + r) : Lb .u64 ((L : Int).fdiv (2 ^ min r 64)) 1 = ((x / 2 ^ j % 2 : Nat) : Int) := by
 have h := LZ hL hr hj
 unfold Lb
 have e : (BitVec.ofInt IntKind.u64.bits ((L : Int).fdiv (2 ^ min r 64)) &&& BitVec.ofInt IntKind.u64.bits 1).toNat = x / 2 ^ j % 2 := h
 rw [e]; exact lF (by omega)
theorem ES {a b : Nat} (ha : a < 18446744073709551616) (hb : b < 18446744073709551616) : orI .u64 (a : Int) (b : Int) = ((a ||| b : Nat) : Int) := by
 unfold orI
 have e : (BitVec.ofInt IntKind.u64.bits (a : Int) ||| BitVec.ofInt IntKind.u64.bits (b : Int)).toNat = a ||| b := Hs a b ha hb
 rw [e]; exact lF (Nat.or_lt_two_pow (n := 64) ha hb)
theorem JD {r : Nat} (hr : r < 64) : IntKind.u64.wrap (1 * 2 ^ min r 64) = ((2 ^ r : Nat) : Int) := by
 rw [Nat.min_eq_left (by omega), Int.one_mul, lG]
 exact lF (Nat.pow_lt_pow_right (by omega) hr)
theorem Dx {r : Nat} (hr : r < 64) : IntKind.u64.wrap (2 ^ min r 64) = ((2 ^ r : Nat) : Int) := by
 have := JD hr; rwa [Int.one_mul] at this
end Go.Vm
