import Derived.Test.YtjpnjhlfieklfaaGreatZ8
import Derived.Test.YtjpnjhlfieklfaaGreatZ7
import Derived.Test.YtjpnjhlfieklfaaGreatZ6
set_option linter.unnecessarySimpa false
set_option maxRecDepth 100000
set_option linter.unusedSimpArgs false
set_option linter.unusedVariables false
namespace Go.Proofs.YtjpnjhlfieklfaaGreat
open Go Go.Vm
attribute [local simp] dM aI dJ opA bH bN cM bP ofValue dC plain aQ aR cA b8 cC cB bY b7 b9 bZ kC bW b6 bU bO cU aW dQ dR pZ gA bS dE cF AV.cells AV.bL dF cO eZ bF aV cQ
def rd : Option (List UInt8) → List AV
 | some p => [.sl 1 (aY p) p.length .shut, .v (.bool false)]
 | none => [.sl 1 [] 0 .shut, .v (.bool true)]
theorem oO {α : Type} {l : List α} {i : Nat} {x : α} (h : l[i]? = some x) : l.set i x = l := by
 apply List.ext_getElem?
 intro j
 by_cases hj : i = j
 · subst hj; rw [cY h x, h]
 · rw [List.getElem?_set_ne hj]
theorem St.oO {σ : St} {i : Nat} {x : List AV} (h : σ.objs[i]? = some x) : { σ with objs := σ.objs.set i x } = σ := by
 rw [YtjpnjhlfieklfaaGreat.oO h]
theorem zF {σ : St} {id : Nat} {p : List UInt8} (h : σ.objs[id]? = some (rd (some p))) : aE Tryz.prog 91 [.ptr id 0] σ (fun av σ' => av = .v (.bool false) ∧ σ = σ') := by
 refine aB Tryz.func91 rfl rfl rfl ?_; refine aJ fun K1 hK1 => ?_; refine aG rfl fun J2 hJ2 => ?_; (try simp [h, rd]); apply hJ2; apply hK1; refine aJ fun K3 hK3 => ?_; refine aG rfl fun J4 hJ4 => ?_; try simp [h, rd]
 refine dY (by first | rfl | (simp [h, rd, aI]; done)) rfl ?_
 try simp [h, rd]
 refine dY (by first | rfl | (simp [h, rd, aI]; done)) rfl ?_
 try simp [h, rd]
 refine dY (by first | rfl | (simp [h, rd, aI]; done)) rfl ?_
 try simp [h, rd]
 refine dY (by first | rfl | (simp [h, rd, aI]; done)) rfl ?_
 (try simp [h, rd]); apply hJ4; apply hK3; refine ra ?_; simp [h, rd]
theorem q6 {σ : St} {id : Nat} (h : σ.objs[id]? = some (rd none)) : aE Tryz.prog 91 [.ptr id 0] σ (fun av σ' => av = .v (.bool true) ∧ σ = σ') := by
 refine aB Tryz.func91 rfl rfl rfl ?_; refine aJ fun K1 hK1 => ?_; refine aG rfl fun J2 hJ2 => ?_; (try simp [h, rd]); apply hJ2; apply hK1; refine aJ fun K3 hK3 => ?_; refine aG rfl fun J4 hJ4 => ?_; try simp [h, rd]
 refine dY (by first | rfl | (simp [h, rd, aI]; done)) rfl ?_
 try simp [h, rd]
 refine dY (by first | rfl | (simp [h, rd, aI]; done)) rfl ?_
 try simp [h, rd]
 refine dY (by first | rfl | (simp [h, rd, aI]; done)) rfl ?_
 try simp [h, rd]
 refine dY (by first | rfl | (simp [h, rd, aI]; done)) rfl ?_
 (try simp [h, rd]); apply hJ4; apply hK3; refine ra ?_; simp [h, rd]
theorem lH {σ : St} {id : Nat} {s : Option (List UInt8)} (h : σ.objs[id]? = some (rd s)) : aE Tryz.prog 91 [.ptr id 0] σ (fun av σ' => av = .v (.bool s.isNone) ∧ σ = σ') := by
 cases s with
 | none => exact q6 h
 | some p => exact zF h
theorem AG {σ : St} {id : Nat} {p : List UInt8} (h : σ.objs[id]? = some (rd (some p))) : aE Tryz.prog 121 [.ptr id 0] σ (fun av σ' => av = .v (.int .i64 p.length) ∧ σ = σ') := by
 refine aB Tryz.func121 rfl rfl rfl ?_; refine aJ fun K1 hK1 => ?_; refine aG rfl fun J2 hJ2 => ?_; (try simp [h, rd]); apply hJ2; apply hK1; refine aJ fun K3 hK3 => ?_; refine aJ fun K4 hK4 => ?_; refine aG rfl fun J5 hJ5 => ?_; try simp [h, rd]
 refine dK (b := true) (by first | rfl | (simp [h, rd, aI]; done)) rfl rfl (by first | rfl | (simp [h, rd, bF]; done)) (by simp) (zF h) ?_
 rintro _ _ ⟨rfl, rfl⟩; (try simp [h, rd]); apply hJ5; apply hK4
 refine fO (by first | rfl | (simp [h, rd, bH]; done)) ?_
 refine aA ?_; apply hK3; refine aJ fun K6 hK6 => ?_; refine aG rfl fun J7 hJ7 => ?_; (try simp [h, rd]); apply hJ7; apply hK6; refine ra ?_; simp [h, rd]
theorem AX {σ : St} {id : Nat} (h : σ.objs[id]? = some (rd none)) : aE Tryz.prog 121 [.ptr id 0] σ (fun av σ' => av = .v (.int .i64 0) ∧ σ = σ') := by
 refine aB Tryz.func121 rfl rfl rfl ?_; refine aJ fun K1 hK1 => ?_; refine aG rfl fun J2 hJ2 => ?_; (try simp [h, rd]); apply hJ2; apply hK1; refine aJ fun K3 hK3 => ?_; refine aJ fun K4 hK4 => ?_; refine aG rfl fun J5 hJ5 => ?_; try simp [h, rd]
 refine dK (b := true) (by first | rfl | (simp [h, rd, aI]; done)) rfl rfl (by first | rfl | (simp [h, rd, bF]; done)) (by simp) (q6 h) ?_
 rintro _ _ ⟨rfl, rfl⟩; (try simp [h, rd]); apply hJ5; apply hK4
 refine eP (by first | rfl | (simp [h, rd, bH]; done)) ?_
 refine aJ fun K6 hK6 => ?_; refine aG rfl fun J7 hJ7 => ?_; (try simp [h, rd]); apply hJ7; apply hK6; refine ra ?_; simp [h, rd]
theorem Hb {σ : St} {id : Nat} {x y : AV} (h : σ.objs[id]? = some [x, y]) :
  aE Tryz.prog 89 [.ptr id 0] σ (fun av σ' => av = .tup [] ∧ σ' = { σ with objs := σ.objs.set id [.sl 0 [] 0 .full, .v (.bool true)] }) := by
 have hs := cY h
 refine aB Tryz.func89 rfl rfl rfl ?_; refine aJ fun K1 hK1 => ?_; refine aG rfl fun J2 hJ2 => ?_; (try simp [h, hs]); apply hJ2; apply hK1
 refine eP (by first | rfl | (simp [h, hs, bH]; done)) ?_
 refine aG rfl fun J3 hJ3 => ?_; (try simp [h, hs]); apply hJ3; (try simp only [eD, bG, bV]); refine gI rfl (.inl rfl) ?_; simp [h, hs]
theorem nW {σ : St} {id : Nat} {s : Option (List UInt8)} (h : σ.objs[id]? = some (rd s)) :
  aE Tryz.prog 89 [.ptr id 0] σ (fun av σ' => av = .tup [] ∧ σ' = { σ with objs := σ.objs.set id (rd none) }) := by
 have h' : ∃ x y, rd s = [x, y] := by cases s <;> exact ⟨_, _, rfl⟩
 obtain ⟨x, y, e⟩ := h'
 rw [e] at h
 exact mT (Hb h) (fun av σ0 ⟨h1, h2⟩ => ⟨av, _, .refl _, by rw [h2]; exact WkS.set (.cons (Wk.nil 0 1 .full) (WkL.refl _)), h1, rfl⟩)
def dN (n : Nat) : Option (List UInt8) → List UInt8
 | some p => if n ≤ p.length then p.take n else []
 | none => []
def cJ (n : Nat) : Option (List UInt8) → Option (List UInt8)
 | some p => if n ≤ p.length then some (p.drop n) else none
 | none => none
theorem HW {σ : St} {id n : Nat} {p : List UInt8} (h : σ.objs[id]? = some (rd (some p))) (hn : n ≤ p.length) :
  aE Tryz.prog 88 [.ptr id 0, .v (.int .i64 n)] σ (fun av σ' => av = .sl 1 ((aY p).take n) n .full ∧ σ' = { σ with objs := σ.objs.set id [.sl 1 ((aY p).drop n) (p.length - n) .shut, .v (.bool false)] }) := by
 have hs := cY h
 have hn' : ¬ (p.length : Int) < n := by omega
 have hz : (List.take (p.length - n) (List.drop n (aY p))) = List.drop n (aY p) := List.take_of_length_le (by simp)
 refine aB Tryz.func88 rfl rfl rfl ?_; refine aJ fun K1 hK1 => ?_; refine aG rfl fun J2 hJ2 => ?_; (try simp [h, rd, hs, hn, hn', hz]); apply hJ2; apply hK1; refine aJ fun K3 hK3 => ?_; refine aJ fun K4 hK4 => ?_; refine aG rfl fun J5 hJ5 => ?_; try simp [h, rd, hs, hn, hn', hz]
 refine dK (b := true) (by first | rfl | (simp [h, rd, hs, hn, hn', hz, aI]; done)) rfl rfl (by first | rfl | (simp [h, rd, hs, hn, hn', hz, bF]; done)) (by simp) (AG h) ?_
 rintro _ _ ⟨rfl, rfl⟩; (try simp [h, rd, hs, hn, hn', hz]); apply hJ5; apply hK4
 refine fO (by first | rfl | (simp [h, rd, hs, hn, hn', hz, bH]; done)) ?_
 refine aA ?_; apply hK3; refine aJ fun K6 hK6 => ?_; refine aJ fun K7 hK7 => ?_; refine aG rfl fun J8 hJ8 => ?_; try simp [h, rd, hs, hn, hn', hz]
 refine dK (b := true) (by first | rfl | (simp [h, rd, hs, hn, hn', hz, aI]; done)) rfl rfl (by first | rfl | (simp [h, rd, hs, hn, hn', hz, bF]; done)) (by simp) (zF h) ?_
 rintro _ _ ⟨rfl, rfl⟩; (try simp [h, rd, hs, hn, hn', hz]); apply hJ8; apply hK7
 refine fO (by first | rfl | (simp [h, rd, hs, hn, hn', hz, bH]; done)) ?_
 refine aA ?_; apply hK6; refine aJ fun K9 hK9 => ?_; refine aG rfl fun J10 hJ10 => ?_; (try simp [h, rd, hs, hn, hn', hz]); apply hJ10; apply hK9; refine aJ fun K11 hK11 => ?_; refine aG rfl fun J12 hJ12 => ?_; (try simp [h, rd, hs, hn, hn', hz]); apply hJ12; apply hK11; refine aJ fun K13 hK13 => ?_; refine aG rfl fun J14 hJ14 => ?_; (try simp [h, rd, hs, hn, hn', hz]); apply hJ14; apply hK13; refine ra ?_; simp [h, rd, hs, hn, hn', hz]
theorem JE {σ : St} {id n : Nat} {p : List UInt8} (h : σ.objs[id]? = some (rd (some p))) (hn : ¬ n ≤ p.length) :
  aE Tryz.prog 88 [.ptr id 0, .v (.int .i64 n)] σ (fun av σ' => av = .sl 0 [] 0 .full ∧ σ' = { σ with objs := σ.objs.set id (rd none) }) := by
 have hs := cY h
 have hn' : (p.length : Int) < n := by omega
 refine aB Tryz.func88 rfl rfl rfl ?_; refine aJ fun K1 hK1 => ?_; refine aG rfl fun J2 hJ2 => ?_; (try simp [h, rd, hs, hn']); apply hJ2; apply hK1; refine aJ fun K3 hK3 => ?_; refine aJ fun K4 hK4 => ?_; refine aG rfl fun J5 hJ5 => ?_; try simp [h, rd, hs, hn']
 refine dK (b := true) (by first | rfl | (simp [h, rd, hs, hn', aI]; done)) rfl rfl (by first | rfl | (simp [h, rd, hs, hn', bF]; done)) (by simp) (AG h) ?_
 rintro _ _ ⟨rfl, rfl⟩; (try simp [h, rd, hs, hn']); apply hJ5; apply hK4
 refine eP (by first | rfl | (simp [h, rd, hs, hn', bH]; done)) ?_
 refine aG rfl fun J6 hJ6 => ?_; try simp [h, rd, hs, hn']
 refine dK (b := true) (by first | rfl | (simp [h, rd, hs, hn', aI]; done)) rfl rfl (by first | rfl | (simp [h, rd, hs, hn', bF]; done)) (by simp) (nW h) ?_
 rintro _ _ ⟨rfl, rfl⟩; (try simp [h, rd, hs, hn']); apply hJ6; apply hK3; refine aJ fun K7 hK7 => ?_; refine aJ fun K8 hK8 => ?_; refine aG rfl fun J9 hJ9 => ?_; try simp [h, rd, hs, hn']
 refine dK (b := true) (by first | rfl | (simp [h, rd, hs, hn', aI]; done)) rfl rfl (by first | rfl | (simp [h, rd, hs, hn', bF]; done)) (by simp) (q6 (hs _)) ?_
 rintro _ _ ⟨rfl, rfl⟩; (try simp [h, rd, hs, hn']); apply hJ9; apply hK8
 refine eP (by first | rfl | (simp [h, rd, hs, hn', bH]; done)) ?_
 refine aJ fun K10 hK10 => ?_; refine aG rfl fun J11 hJ11 => ?_; (try simp [h, rd, hs, hn']); apply hJ11; apply hK10; refine ra ?_; simp [h, rd, hs, hn']
theorem EA {σ : St} {id : Nat} (h : σ.objs[id]? = some (rd none)) :
  aE Tryz.prog 88 [.ptr id 0, .v (.int .i64 (0 : Nat))] σ (fun av σ' => av = .sl 0 [] 0 .full ∧ σ' = { σ with objs := σ.objs.set id (rd none) }) := by
 have he := St.oO h
 refine aB Tryz.func88 rfl rfl rfl ?_; refine aJ fun K1 hK1 => ?_; refine aG rfl fun J2 hJ2 => ?_; (try simp [h, rd]); apply hJ2; apply hK1; refine aJ fun K3 hK3 => ?_; refine aJ fun K4 hK4 => ?_; refine aG rfl fun J5 hJ5 => ?_; try simp [h, rd]
 refine dK (b := true) (by first | rfl | (simp [h, rd, aI]; done)) rfl rfl (by first | rfl | (simp [h, rd, bF]; done)) (by simp) (AX h) ?_
 rintro _ _ ⟨rfl, rfl⟩; (try simp [h, rd]); apply hJ5; apply hK4
 refine fO (by first | rfl | (simp [h, rd, bH]; done)) ?_
 refine aA ?_; apply hK3; refine aJ fun K6 hK6 => ?_; refine aJ fun K7 hK7 => ?_; refine aG rfl fun J8 hJ8 => ?_; try simp [h, rd]
 refine dK (b := true) (by first | rfl | (simp [h, rd, aI]; done)) rfl rfl (by first | rfl | (simp [h, rd, bF]; done)) (by simp) (q6 h) ?_
 rintro _ _ ⟨rfl, rfl⟩; (try simp [h, rd]); apply hJ8; apply hK7
 refine eP (by first | rfl | (simp [h, rd, bH]; done)) ?_
 refine aJ fun K9 hK9 => ?_; refine aG rfl fun J10 hJ10 => ?_; (try simp [h, rd]); apply hJ10; apply hK9; refine ra ?_; exact ⟨by simp, he.symm⟩
theorem ED {σ : St} {id n : Nat} (h : σ.objs[id]? = some (rd none)) (hn : 0 < n) :
  aE Tryz.prog 88 [.ptr id 0, .v (.int .i64 n)] σ (fun av σ' => av = .sl 0 [] 0 .full ∧ σ' = { σ with objs := σ.objs.set id (rd none) }) := by
 have hs := cY h
 refine aB Tryz.func88 rfl rfl rfl ?_; refine aJ fun K1 hK1 => ?_; refine aG rfl fun J2 hJ2 => ?_; (try simp [h, rd, hs, hn]); apply hJ2; apply hK1; refine aJ fun K3 hK3 => ?_; refine aJ fun K4 hK4 => ?_; refine aG rfl fun J5 hJ5 => ?_; try simp [h, rd, hs, hn]
 refine dK (b := true) (by first | rfl | (simp [h, rd, hs, hn, aI]; done)) rfl rfl (by first | rfl | (simp [h, rd, hs, hn, bF]; done)) (by simp) (AX h) ?_
 rintro _ _ ⟨rfl, rfl⟩; (try simp [h, rd, hs, hn]); apply hJ5; apply hK4
 refine eP (by first | rfl | (simp [h, rd, hs, hn, bH]; done)) ?_
 refine aG rfl fun J6 hJ6 => ?_; try simp [h, rd, hs, hn]
 refine dK (b := true) (by first | rfl | (simp [h, rd, hs, hn, aI]; done)) rfl rfl (by first | rfl | (simp [h, rd, hs, hn, bF]; done)) (by simp) (nW h) ?_
 rintro _ _ ⟨rfl, rfl⟩; (try simp [h, rd, hs, hn]); apply hJ6; apply hK3; refine aJ fun K7 hK7 => ?_; refine aJ fun K8 hK8 => ?_; refine aG rfl fun J9 hJ9 => ?_; try simp [h, rd, hs, hn]
 refine dK (b := true) (by first | rfl | (simp [h, rd, hs, hn, aI]; done)) rfl rfl (by first | rfl | (simp [h, rd, hs, hn, bF]; done)) (by simp) (q6 (hs _)) ?_
 rintro _ _ ⟨rfl, rfl⟩; (try simp [h, rd, hs, hn]); apply hJ9; apply hK8
 refine eP (by first | rfl | (simp [h, rd, hs, hn, bH]; done)) ?_
 refine aJ fun K10 hK10 => ?_; refine aG rfl fun J11 hJ11 => ?_; (try simp [h, rd, hs, hn]); apply hJ11; apply hK10; refine ra ?_; simp [h, rd, hs, hn]
theorem Bm {σ : St} {id n : Nat} {s : Option (List UInt8)} (h : σ.objs[id]? = some (rd s)) :
  aE Tryz.prog 88 [.ptr id 0, .v (.int .i64 n)] σ (fun av σ' => av = .sl 1 (aY (dN n s)) (dN n s).length .shut ∧ σ' = { σ with objs := σ.objs.set id (rd (cJ n s)) }) := by
 have nil : ∀ {Q : AV → St → Prop}, aE Tryz.prog 88 [.ptr id 0, .v (.int .i64 n)] σ (fun av σ' => av = .sl 0 [] 0 .full ∧ σ' = { σ with objs := σ.objs.set id (rd none) }) →
   Q (.sl 1 [] 0 .shut) { σ with objs := σ.objs.set id (rd none) } → aE Tryz.prog 88 [.ptr id 0, .v (.int .i64 n)] σ Q := fun k hq =>
  mT k (fun av σ0 ⟨h1, h2⟩ => ⟨_, _, by rw [h1]; exact Wk.nil 0 1 .full, by rw [h2]; exact WkS.refl _, hq⟩)
 cases s with
 | none =>
   by_cases hn : n = 0
   · subst hn; exact nil (EA h) ⟨by simp [dN, aY], rfl⟩
   · exact nil (ED h (by omega)) ⟨by simp [dN, aY], rfl⟩
 | some p =>
   by_cases hn : n ≤ p.length
   · refine Aa (HW h hn) (Wk.shut _ _ _ _) (WkS.refl _) ?_; refine ⟨?_, ?_⟩
     · simp [dN, hn, wG]
     · simp [cJ, hn, rd, Cp]
   · exact nil (JE h hn) ⟨by simp [dN, hn, aY], by simp [cJ, hn]⟩
theorem AY {σ : St} {id n : Nat} {s : Option (List UInt8)} (h : σ.objs[id]? = some (rd s)) (hn : n ≤ 8) :
  aE Tryz.prog 86 [.ptr id 0, .v (.int .i64 n)] σ (fun av σ' => av = .v (.int .u64 (be (dN n s) : Nat)) ∧ σ' = { σ with objs := σ.objs.set id (rd (cJ n s)) }) := by
 have hlen : (dN n s).length ≤ 8 := by
  cases s with
  | none => simp [dN]
  | some p => simp only [dN]; split <;> simp <;> omega
 generalize hl : dN n s = l at hlen
 generalize hs' : cJ n s = s'
 have ht : aE Tryz.prog 88 [.ptr id 0, .v (.int .i64 n)] σ (fun av σ' => av = .sl 1 (aY l) l.length .shut ∧ σ' = { σ with objs := σ.objs.set id (rd s') }) := by
  subst hl hs'; exact Bm h
 refine aB Tryz.func86 rfl rfl rfl ?_; refine aJ fun K1 hK1 => ?_; refine aG rfl fun J2 hJ2 => ?_; (try simp); apply hJ2; apply hK1; refine aJ fun K3 hK3 => ?_; refine aG rfl fun J4 hJ4 => ?_; (try simp); apply hJ4; apply hK3; refine aJ fun K5 hK5 => ?_; refine aJ fun K6 hK6 => ?_; refine aG rfl fun J7 hJ7 => ?_; try simp
 refine dK (b := true) (by first | rfl | (simp [aI]; done)) rfl rfl (by first | rfl | (simp [bF]; done)) (by simp) (ht) ?_
 rintro _ _ ⟨rfl, rfl⟩; (try simp); apply hJ7; apply hK6; refine aD ?_; refine tP (X := Nat) (fun k ρ σ1 => k ≤ l.length ∧ ρ 5 = .v (.int .u64 (be (l.take k) : Nat)) ∧ ρ 10 = .sl 1 (aY l) l.length .shut ∧ ρ 11 = .v (.int .i64 l.length) ∧ ρ 12 = .v (.int .i64 k) ∧ σ1 = { σ with objs := σ.objs.set id (rd s') }) (fun k => l.length - k) (0) ?start ?round
 case start =>
  simp
 case round =>
  rintro k ρ σ1 ⟨hk, h5, h10, h11, h12, rfl⟩; refine aJ fun K8 hK8 => ?_; refine aG rfl fun J9 hJ9 => ?_; (try simp [h5, h10, h11, h12]); apply hJ9; apply hK8; refine aJ fun K10 hK10 => ?_; refine jC rfl (fun c13 => ?_) (fun c13 => ?_)
  · try (exfalso; revert c13; simp [h5, h10, h11, h12]; done)
    all_goals
     (try simp [h5, h10, h11, h12] at c13)
     all_goals
      refine aA ?_; apply hK10; refine aJ fun K12 hK12 => ?_; refine aD ?_; refine aJ fun K13 hK13 => ?_; refine aG rfl fun J14 hJ14 => ?_; (try simp [h5, h10, h11, h12, c13]); apply hJ14; apply hK13; refine aG rfl fun J15 hJ15 => ?_; (try simp [h5, h10, h11, h12, c13]); apply hJ15; apply hK12; refine aG rfl fun J16 hJ16 => ?_; (try simp [h5, h10, h11, h12, c13]); apply hJ16
      have hs := Jk (be (l.take k)) l[k].toNat (KU _ (by simp; omega)) l[k].toNat_lt
      have hw : IntKind.i64.wrap ((k : Int) + 1) = ((k + 1 : Nat) : Int) := wrap_i64 _ (by omega) (by omega)
      have ht : be (l.take (k + 1)) = be (l.take k) * 256 + l[k].toNat := by rw [take_succ c13, BN]
      refine ⟨k + 1, ⟨c13, ?_, ?_, ?_, ?_, rfl⟩, by omega⟩
      · simp [ht]
        refine hs.trans ?_
        omega
      all_goals simp [h10, h11, hw]
  · try (exfalso; revert c13; simp [h5, h10, h11, h12]; done)
    all_goals
     (try simp [h5, h10, h11, h12] at c13)
     all_goals
      refine bJ ?_; apply hK5; refine aJ fun K17 hK17 => ?_; refine aG rfl fun J18 hJ18 => ?_; (try simp [h5, h10, h11, h12, c13]); apply hJ18; apply hK17; refine ra ?_
      have := List.take_of_length_le c13
      simp [h5, h10, h11, h12, c13, this]
end Go.Proofs.YtjpnjhlfieklfaaGreat
namespace Go.Vm
open Go Go.RowKit
def pU (Good : Nat → Nat → Prop) (A B : World) : Prop := ∀ (b o : Nat) x, Good b o → A.cell? ⟨b, o, none⟩ = some x → B.cell? ⟨b, o, none⟩ = some x
def E7 (P : Program) (gf : FuncId) (ob : Nat → Prop) : Prop :=
 ∀ (n : Nat) (w : World) (Bn Bo m c : Nat) (ad : Option Addr) (xs : List Value) (Good : Nat → Nat → Prop), 1 ≤ n → ob m →
   w.cell? ⟨Bn, Bo, none⟩ = some (.slice ad m c) → Good Bn Bo → (hl : xs.length = m) → (∀ (j : Nat) x, xs[j]? = some x → ∃ b o, ad = some ⟨b, o, none⟩ ∧ Good b (o + j) ∧ w.cell? ⟨b, o + j, none⟩ = some x) →
   SeqStopsK Fence.wide n P gf #[.pointer (some ⟨Bn, Bo, none⟩)] (fun i : Fin m => #[.int .i64 i.val, xs[i.val]'(by omega)]) (pU Good) (fun ys => ys.map Fin.val = (List.range m).reverse) (fun ys => ys.map Fin.val <+: (List.range m).reverse) m w
theorem mG {F : Fence} {n : Nat} {P : Program} {id : Nat} {o : Oper} {p : Tmp} {Q : Exit → Act → World → Prop} {a : Act} {w : World} (hF : ∀ f, F.fn f) (ho : o.op = .assign (.tmp p)) (hg : o.guard = none)
  (h : Q .normal (a.put o.dst (a.eval (.tmp p))) w) : (Code.region id #[o] false).wpIn F n P Q a w := by
 refine wpIn_region_lit (l := [o]) ?_
 unfold wpListIn
 rw [if_pos (by simp [Region.wanted, hg])]
 refine ⟨fun f _ => hF f, ?_⟩
 rw [Oper.semAt_eq _ _ _ (fun c e => by rw [ho] at e; cases e)]
 have : (execOp a.eval o).run P w = .ok (.value (a.eval (.tmp p))) w := by
  unfold execOp
  rw [ho]
  simp
 rw [this]
 exact h
section
variable {P : Program} {N : Nat} {ρ : Nat → AV} {σ : St}
theorem Ext.others {G G' : Gh} {w w' : World} (h : Ext G w G' w') : KeepsOthers w w' :=
 ⟨h.size, fun k o hk ho => h.oth k o hk (fun c e fr he => by rw [he] at ho; cases ho)⟩
theorem tA {g p1 p2 q1 q2 : Tmp} {o1 o2 : Oper} {i1 i2 : Nat} {body : Code} {gf : FuncId} {ob : Nat → Prop} {cells : List AV} {m : Nat} {t : eO} {Q : Exit → (Nat → AV) → St → Prop} (hback : E7 P gf ob) (hm : ob m) (hcb : eG P gf = true)
  (hN : (decide (p1 < N) && decide (p2 < N) && decide (q1 < N) && decide (q2 < N)) = true) (ho1 : o1.op = .assign (.tmp p1)) (ho2 : o2.op = .assign (.tmp p2)) (hg1 : o1.guard = none) (hg2 : o2.guard = none) (hd1 : o1.dst = some q1) (hd2 : o2.dst = some q2)
  (hne : (p1 != p2 && p1 != q1 && p2 != q1) = true)
  (hg : ρ g = .fn gf [.ep [.sl 1 cells m t]])
  (I : List Nat → St → Prop) (Ix : Code → List Nat → St → Prop) (h0 : I [] σ)
  (round : ∀ z pre i x σ', i < m → cells[i]? = some x → I pre σ' → Run z P N body (eF (eF (eF (eF ρ (some p1) (.v (.int .i64 (i : Nat)))) (some p2) x) (some q1) (.v (.int .i64 (i : Nat)))) (some q2) x) σ' (fun e _ σ'' => match e with
   | .normal => I (pre ++ [i]) σ''
   | .ret => Ix .ret (pre ++ [i]) σ''
   | .exit j => Ix (.exit j) (pre ++ [i]) σ''
   | .goto j => Ix (.goto j) (pre ++ [i]) σ''
   | _ => False))
  (done : ∀ σ', I (List.range m).reverse σ' → Q .normal ρ σ')
  (stop : ∀ c pre σ', pre <+: (List.range m).reverse → Ix c pre σ' → Run ⟨none, 3⟩ P N c ρ σ' Q) :
  Run ⟨none, 3⟩ P N (.rangeFunc (.tmp g) #[p1, p2] (.seq (.region i1 #[o1] false) (.region i2 #[o2] false)) body) ρ σ Q := by
 intro G w a R hR hK
 simp only [Bool.and_eq_true, decide_eq_true_eq, bne_iff_ne, ne_eq] at hN hne
 obtain ⟨⟨⟨n1, n2⟩, n3⟩, n4⟩ := hN
 obtain ⟨⟨e1, e2⟩, e3⟩ := hne
 have hgv := hR.env g
 rw [hg] at hgv
 -- the iterator, and what it holds
 obtain ⟨cs, hcs, hcl, hcr⟩ : ∃ cs : Array Value, a.tmps.getD g undef = .func (.func gf) #[] cs ∧ cs.size = 1 ∧ ∀ x, cs[0]? = some x → AVR G w x (.ep [.sl 1 cells m t]) := by
  generalize a.tmps.getD g undef = v at hgv
  cases hgv with
  | fn hl h => exact ⟨_, rfl, hl, fun x hx => h 0 x _ hx rfl⟩
 obtain ⟨Bn, Bo, hcap, hBg, v, hv, hva⟩ : ∃ Bn Bo, cs = #[.pointer (some ⟨Bn, Bo, none⟩)] ∧ G.tag Bn Bo = .fixd ∧ ∃ v, w.cell? ⟨Bn, Bo, none⟩ = some v ∧ AVR G w v (.sl 1 cells m t) := by
  have h1 := hcr cs[0] (Array.getElem?_eq_getElem (by omega))
  generalize hx : cs[0] = x at h1
  cases h1 with
  | ep xs hl hs hxs h =>
    rename_i b o
    have hlt : 0 < xs.length := by rw [hl]; simp
    obtain ⟨c1, _⟩ := hxs 0 xs[0] (List.getElem?_eq_getElem hlt)
    refine ⟨b, o, ?_, by simpa using hs 0 (by simp), xs[0], by simpa using c1, h 0 _ _ (List.getElem?_eq_getElem hlt) rfl⟩
    apply Array.ext
    · simpa using hcl
    · intro i hi1 hi2
      have : i = 0 := by omega
      subst this
      simpa using hx
 obtain ⟨ad, c, xs, rfl, hxl, hcl2, hx, hxa⟩ : ∃ ad c, ∃ xs : List Value, v = .slice ad m c ∧ xs.length = m ∧ cells.length = m ∧ (∀ (j : Nat) x, xs[j]? = some x → ∃ b o, ad = some ⟨b, o, none⟩ ∧ G.tag b (o + j) = .fixd ∧ w.cell? ⟨b, o + j, none⟩ = some x) ∧ ∀ (j : Nat) x y, xs[j]? = some x → cells[j]? = some y → AVR G w x y := by
  cases hva with
  | sl0 ht => exact ⟨_, _, [], rfl, rfl, rfl, by simp, by simp⟩
  | sl xs hl hn hc hs hx h ht =>
    refine ⟨_, _, xs, rfl, by omega, by omega, fun j x hj => ⟨_, _, rfl, hs j ?_, (hx j x hj).1⟩, h⟩
    have := (List.getElem?_eq_some_iff.1 hj).1
    omega
 have hgood : ∀ (j : Nat) x, xs[j]? = some x → ∃ b o, ad = some ⟨b, o, none⟩ ∧ (fun b o => G.tag b o = .fixd) b (o + j) ∧ w.cell? ⟨b, o + j, none⟩ = some x := hx
 have hseq := hback 2 w Bn Bo m c ad xs (fun b o => G.tag b o = .fixd) (by omega) hm hv hBg hxl hgood
 have hdf : ∀ D, w.heap.size ≤ D → ({ target := .collected D, args := #[] } : Deferred) ∉ a.defers := by
  intro D hD hmem
  obtain ⟨D', h1, _, h3⟩ := hR.defers.1 _ hmem
  have : D = D' := by injection h1 with h1; injection h1
  subst this
  have := (Array.getElem?_eq_some_iff.1 h3).1
  omega
 have hRel : ∀ (D : Nat) G' W σ', w.heap.size ≤ D → Ext G w G' W → dD G' W σ' → W.heap[D]? = some (.deferred (some [])) → Rel N G' W ρ σ' { a with defers := { target := .collected D, args := #[] } :: a.defers } := by
  intro D G' W σ' hD hE hS hk
  refine ⟨hS, ⟨fun d hd => ?_, List.nodup_cons.2 ⟨hdf D hD, hR.defers.2.1⟩, by rw [hE.base]; exact Nat.le_trans hR.defers.2.2 hE.size⟩, hR.size, fun i => (hR.env i).mono hE⟩
  rcases List.mem_cons.1 hd with rfl | hd
  · refine ⟨D, rfl, ?_, hk⟩
    rw [hE.base]
    exact Nat.le_trans hR.defers.2.2 hD
  · exact (hR.defers.1.mono hE) d hd
 have hown : ∀ {β : Type} (J : β → St → Prop), OwnFrom w.heap.size (fun (s : β) W => ∃ G' σ', Ext G w G' W ∧ dD G' W σ' ∧ J s σ') := by
  rintro β J s W W' row ⟨G', σ', hE, hS, hJ⟩ hgr hrow
  have hst : Still W W' := qZ hgr (fun r e => (hrow r e).2)
  refine ⟨G', σ', hE.still hst hgr.os hgr.tape hgr.output (fun b hb => hgr.block b (Nat.lt_of_lt_of_le hb hE.size) (fun e => ?_)), hS.still hst, hJ⟩
  have := (hrow b e.symm).1
  omega
 let a0 : Fin m → Act := fun i => { tmps := ((#[p1, p2] : Array Tmp).zip #[.int .i64 i.val, xs[i.val]'(by omega)]).foldl (fun t (p, v) => t.setIfInBounds p v) a.tmps, defers := [] }
 let a1 : Fin m → Act := fun i => (a0 i).put (some q1) ((a0 i).eval (.tmp p1))
 let a2 : Fin m → Act := fun i => (a1 i).put (some q2) ((a1 i).eval (.tmp p2))
 have hF : ∀ l f, ((Fence.wide).inRound l).fn f := fun _ _ => trivial
 have post : ∀ (pre : List (Fin m)) (i : Fin m) (W : World) (e : Exit) (ρ' : Nat → AV) (σ'' : St) (G2 : Gh) (a' : Act) (W' : World) (G' : Gh), Ext G w G' W → (match e with
   | .normal => I (pre.map Fin.val ++ [i.val]) σ''
   | .ret => Ix .ret (pre.map Fin.val ++ [i.val]) σ''
   | .exit j => Ix (.exit j) (pre.map Fin.val ++ [i.val]) σ''
   | .goto j => Ix (.goto j) (pre.map Fin.val ++ [i.val]) σ''
   | _ => False) → Ext G' W G2 W' → Rel N G2 W' ρ' σ'' a' →
   ownPostK (pU fun b o => G.tag b o = .fixd) (fun (s : List (Fin m)) W => ∃ G' σ', Ext G w G' W ∧ dD G' W σ' ∧ I (s.map Fin.val) σ') (fun c (s : List (Fin m)) W => ∃ G' σ', Ext G w G' W ∧ dD G' W σ' ∧ Ix c (s.map Fin.val) σ') (pre ++ [i]) W e a' W' := by
  intro pre i W e ρ' σ'' G2 a' W' G' hE hq hE2 hR2
  have hkp : pU (fun b o => G.tag b o = .fixd) W W' := fun b o x hb hx => hE2.cell (hE.sealed b o hb) hx
  cases e with
  | normal => exact ⟨hE2.others, hkp, G2, σ'', hE.trans hE2, hR2.s, by simpa using hq⟩
  | ret => exact ⟨hE2.others, G2, σ'', hE.trans hE2, hR2.s, by simpa using hq⟩
  | exit j => exact ⟨hE2.others, G2, σ'', hE.trans hE2, hR2.s, by simpa using hq⟩
  | goto j => exact ⟨hE2.others, G2, σ'', hE.trans hE2, hR2.s, by simpa using hq⟩
  | panic ch => exact hq.elim
  | outgrown => exact hq.elim
 refine wpIn_rangeFunc_ownF (F := Fence.wide) rfl (by show 1 ≤ 3; omega) (gf := gf) (lb := #[.pointer (some ⟨Bn, Bo, none⟩)]) (by rw [← hcap]; exact hcs) trivial (fun args w => kS hcb) hseq
  (fun h k b o x hb hx => k b o x hb (h b o x hb hx)) (fun W l o o' _ hl ho _ b off x _ hx => ?keep) (Below.refl _ _) (fun _ => rfl)
  (fun s W => ∃ G' σ', Ext G w G' W ∧ dD G' W σ' ∧ I (s.map Fin.val) σ') (fun c s W => ∃ G' σ', Ext G w G' W ∧ dD G' W σ' ∧ Ix c (s.map Fin.val) σ')
  (hown _) (fun c => hown _) ⟨G, σ, .refl _ _, hR.s, h0⟩ a2 ?assign ?body ?done ?stop
 case keep => exact (vW hl ho).cell hx
 case assign =>
  intro l x W K hK'
  refine wpIn_seq ?_; refine mG (hF l) ho1 hg1 ?_
  show Code.wpIn _ _ _ _ _ _ _
  refine mG (hF l) ho2 hg2 ?_
  rw [hd1, hd2]
  exact hK'
 case body =>
  rintro l pre i W ⟨G', σ', hE, hS, hI⟩ hlt
  have hi : i.val < xs.length := by omega
  have hic : i.val < cells.length := by omega
  have hxi := hxa i.val _ _ (List.getElem?_eq_getElem hi) (List.getElem?_eq_getElem hic)
  refine round ⟨some l, 1⟩ (pre.map Fin.val) i.val cells[i.val] σ' i.isLt (List.getElem?_eq_getElem hic) hI G' W (a2 i) _ ?_ (fun e ρ' σ'' G2 a' W' hq hE2 hR2 => post pre i W e ρ' σ'' G2 a' W' G' hE hq hE2 hR2)
  have hb : a0 i = (({ a with defers := [] } : Act).put (some p1) (.int .i64 i.val)).put (some p2) (xs[i.val]'hi) := by simp [a0, Act.put]
  have r0 : Rel N G' W ρ σ' { a with defers := [] } := ⟨hS, ⟨Marks.nil _ _, List.nodup_nil, by rw [hE.base]; exact Nat.le_trans hR.defers.2.2 hE.size⟩, hR.size, fun i => (hR.env i).mono hE⟩
  have r1 := r0.put (.refl _ _) hS (d := some p1) (by simpa [inN] using n1) (v := .int .i64 i.val) (x := .v (.int .i64 i.val)) (.v rfl)
  have r2 := r1.put (.refl _ _) hS (d := some p2) (by simpa [inN] using n2) (hxi.mono hE)
  rw [← hb] at r2
  have v1 : AVR G' W ((a0 i).eval (.tmp p1)) (.v (.int .i64 i.val)) := by
   have h := r2.env p1
   have e : eF (eF ρ (some p1) (.v (.int .i64 i.val))) (some p2) cells[i.val] p1 = .v (.int .i64 i.val) := by simp [eF, e1]
   rw [e] at h
   exact h
  have r3 := r2.put (.refl _ _) hS (d := some q1) (by simpa [inN] using n3) v1
  have v2 : AVR G' W ((a1 i).eval (.tmp p2)) cells[i.val] := by
   have h := r3.env p2
   have e : eF (eF (eF ρ (some p1) (.v (.int .i64 i.val))) (some p2) cells[i.val]) (some q1) (.v (.int .i64 i.val)) p2 = cells[i.val] := by simp [eF, e3]
   rw [e] at h
   exact h
  exact r3.put (.refl _ _) hS (d := some q2) (by simpa [inN] using n4) v2
 case done =>
  rintro D ys W hD hys ⟨G', σ', hE, hS, hI⟩ hk
  rw [hys] at hI
  exact hK .normal ρ σ' G' _ W (done σ' hI) hE (hRel D G' W σ' hD hE hS hk)
 case stop =>
  rintro D c pre W hD hpre ⟨G', σ', hE, hS, hI⟩ hk; exact stop c _ σ' hpre hI G' W _ R (hRel D G' W σ' hD hE hS hk) (fun e ρ' σ2 G2 a2 w2 hq hE2 hR2 => hK e ρ' σ2 G2 a2 w2 hq (hE.trans hE2) hR2)
end
end Go.Vm
