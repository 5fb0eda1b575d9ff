import Derived.Test.YtmponlabfccjaaaZ11
import Derived.Test.YtmponlabfccjaaaZ12
import Derived.Lib.Overlaps
/-
  Externs on bytes: Compare, overlaps.
-/
namespace Go.Vm
set_option linter.unnecessarySimpa false
set_option linter.unusedSimpArgs false
set_option linter.unusedVariables false
open Go

def ltB : List UInt8 → List UInt8 → Bool
  | _, [] => false
  | [], _ :: _ => true
  | a :: l, b :: m => if a = b then ltB l m else decide (a.toNat < b.toNat)

def cmpB (a b : List UInt8) : Int := if a = b then 0 else if ltB a b then -1 else 1

theorem ba_get (l : List UInt8) (i : Nat) : (ByteArray.mk l.toArray)[i]! = l.getD i 0 := by
  by_cases h : i < l.length
  · rw [getElem!_pos (ByteArray.mk l.toArray) i (by simpa [ByteArray.size] using h)]
    simp [List.getD, h, ByteArray.getElem_eq_getElem_data]
  · rw [getElem!_neg (ByteArray.mk l.toArray) i (by simpa [ByteArray.size] using h)]
    simp [List.getD, h]
    rfl

def cmpF (a b : List UInt8) : Int :=
  match (List.range (min a.length b.length)).find? fun i => a.getD i 0 != b.getD i 0 with
  | some i => if a.getD i 0 < b.getD i 0 then -1 else 1
  | none => if a.length < b.length then -1 else if a.length > b.length then 1 else 0

theorem cmpF_eq : ∀ a b : List UInt8, cmpF a b = cmpB a b
  | [], [] => rfl
  | [], b :: m => by simp [cmpF, cmpB, ltB]
  | a :: l, [] => by simp [cmpF, cmpB, ltB]
  | a :: l, b :: m => by
    have ih := cmpF_eq l m
    unfold cmpF at ih ⊢
    have hmin : min (a :: l).length (b :: m).length = min l.length m.length + 1 := by simp only [List.length_cons]; omega
    rw [hmin, List.range_succ_eq_map, List.find?_cons]
    by_cases hab : a = b
    · subst hab
      have hf : (((List.range (min l.length m.length)).map Nat.succ).find? fun i => (a :: l).getD i 0 != (a :: m).getD i 0) = ((List.range (min l.length m.length)).find? fun i => l.getD i 0 != m.getD i 0).map Nat.succ := by
        rw [List.find?_map]
        rfl
      have h0 : ((a :: l).getD 0 0 != (a :: m).getD 0 0) = false := by simp
      rw [h0]
      simp only
      rw [hf]
      have hb : cmpB (a :: l) (a :: m) = cmpB l m := by simp [cmpB, ltB]
      rw [hb, ← ih]
      cases h : (List.range (min l.length m.length)).find? fun i => l.getD i 0 != m.getD i 0 with
      | none => simp
      | some i => simp
    · have h0 : ((a :: l).getD 0 0 != (b :: m).getD 0 0) = true := by simpa using hab
      rw [h0]
      simp only
      have hne : ¬ (a :: l = b :: m) := fun e => hab (List.cons.inj e).1
      simp [cmpB, ltB, hab, UInt8.lt_iff_toNat_lt]

theorem cmp_eq (a b : List UInt8) : Extern.BytealgCompare.cmp ⟨a.toArray⟩ ⟨b.toArray⟩ = cmpB a b := by
  rw [← cmpF_eq]
  unfold Extern.BytealgCompare.cmp cmpF
  simp only [ba_get]
  rfl

theorem run_loadBytes {P : Program} (w : World) : ∀ (l : List UInt8) (b o : Nat) (acc : ByteArray), (∀ (j : Nat) x, l[j]? = some x → w.cell? ⟨b, o + j, none⟩ = some (.int .u8 x.toNat)) →
    (Extern.Bytes.loadBytes ⟨b, o, none⟩ l.length acc).run P w = .ok ⟨acc.data ++ l.toArray⟩ w
  | [], b, o, acc, _ => by simp [Extern.Bytes.loadBytes]
  | x :: l, b, o, acc, h => by
    have h0 := h 0 x rfl
    have ih := run_loadBytes (P := P) w l b (o + 1) (acc.push x) (fun j y hy => by
      have := h (j + 1) y (by simpa using hy)
      rw [show o + 1 + j = o + (j + 1) by omega]; exact this)
    have hx : (x.toNat : Int).toNat.toUInt8 = x := by simp
    simp only [List.length_cons, Extern.Bytes.loadBytes, Sem.run_bind, run_load, Nat.add_zero] at h0 ⊢
    rw [h0]
    simp only [Result.andThen_ok]
    rw [add_at, hx, ih]
    simp [ByteArray.push]

theorem run_bytesOf {P : Program} {G : Gh} {w : World} {x : Value} {p : List UInt8} {n : Nat} {t : Tail} (h : AVR G w x (.sl 1 (bytesA p) n t)) (hn : n = p.length) : (Extern.Bytes.bytesOf x).run P w = .ok ⟨p.toArray⟩ w := by
  generalize hcs : bytesA p = cs at h
  cases h with
  | sl0 ht =>
    have hp : p = [] := by cases p with
      | nil => rfl
      | cons a l => simp [bytesA] at hcs
    subst hp
    rename_i a c
    cases a with
    | none => simp [Extern.Bytes.bytesOf]; rfl
    | some a => simp [Extern.Bytes.bytesOf, Extern.Bytes.loadBytes]; rfl
  | sl xs hl hlen hc hs hx hr ht =>
    subst hcs hn
    unfold Extern.Bytes.bytesOf
    rw [run_loadBytes (P := P) w p _ _ .empty (fun j y hy => by
      have hj : (bytesA p)[j]? = some (.v (.int .u8 y.toNat)) := by simp [bytesA, hy]
      have hlt := (List.getElem?_eq_some_iff.1 hj).1
      have hxj : xs[j]? = some xs[j] := List.getElem?_eq_getElem (by omega)
      have := hr j _ _ hxj hj
      rw [(hx j _ hxj).1, this.v_eq])]
    show Result.ok (ByteArray.mk (#[] ++ p.toArray)) w = _
    rw [Array.empty_append]

theorem args2 {G : Gh} {w : World} {vs : Array Value} {x y : AV} (hl : vs.size = 2) (h : ∀ (j : Nat) v b, vs[j]? = some v → ([x, y] : List AV)[j]? = some b → AVR G w v b) : ∃ a b, vs = #[a, b] ∧ AVR G w a x ∧ AVR G w b y := by
  have h0 : 0 < vs.size := by omega
  have h1 : 1 < vs.size := by omega
  refine ⟨vs[0], vs[1], ?_, h 0 _ _ (Array.getElem?_eq_getElem h0) rfl, h 1 _ _ (Array.getElem?_eq_getElem h1) rfl⟩
  apply Array.ext
  · simpa using hl
  · intro i g1 g2
    have : i = 0 ∨ i = 1 := by simp at g2; omega
    rcases this with rfl | rfl <;> rfl

theorem compare_ext {P : Program} {σ : St} {f : FuncId} {fn : Func} {p q : List UInt8} {s t : Tail} (hf : P.funcs[f]? = some fn) (hname : (fn.name == "runtime.NumGoroutine") = false) (hb : fn.body.isNone = true) (hn : Extern.findNext fn = none) (he : Extern.find fn = some Extern.BytealgCompare.compare) :
    ExtA P f [.sl 1 (bytesA p) p.length s, .sl 1 (bytesA q) q.length t] σ (fun av _ => av = .v (.int .i64 (cmpB p q))) := by
  intro G w vs hS hl hr
  obtain ⟨a, b, rfl, ha, hb'⟩ := args2 hl hr
  refine ⟨.int .i64 (cmpB p q), _, ?_, .v rfl, rfl⟩
  rw [run_callFunc_extern hf hname hb hn he]
  have hc : (Extern.BytealgCompare.compare #[a, b]).run P w = .ok (.int .i64 (cmpB p q)) w := by
    change (do pure (goInt (Extern.BytealgCompare.cmp (← Extern.Bytes.bytesOf a) (← Extern.Bytes.bytesOf b))) : Sem Value).run P w = _
    simp only [Sem.run_bind, run_bytesOf ha rfl, run_bytesOf hb' rfl, Result.andThen_ok, Sem.run_pure, cmp_eq]
    rfl
  rw [hc]; rfl
end Go.Vm

namespace Go.Vm
open Go
set_option linter.unnecessarySimpa false
set_option linter.unusedSimpArgs false
set_option linter.unusedVariables false

theorem shape_cells {w : World} {b : Nat} {c : Array Value} {e : TypeId} {fr : Nat × Nat} (h : w.heap[b]? = some (.cells c e fr)) : w.shape? b = some (e, c.size) := by
  simp [World.shape?, h]
theorem frozen_cells {w : World} {b o : Nat} {c : Array Value} {e : TypeId} (h : w.heap[b]? = some (.cells c e (0, 0))) : w.frozen? ⟨b, o, none⟩ = false := by
  simp [World.frozen?, h]

theorem run_overlaps_same {P : Program} (w : World) (tS tR e : TypeId) (ht : P.underlying tS = some (.slice e)) (size : Nat) (hz : (Go.sizeOf e).run P w = .ok size w)
    (b oa ob : Nat) (la ca lb cb : Nat) (h : ¬ (oa < ob + lb * size ∧ ob < oa + la * size)) :
    (Extern.SlicesOverlaps.overlaps #[tS, tS] #[tR] #[.slice (some ⟨b, oa, none⟩) la ca, .slice (some ⟨b, ob, none⟩) lb cb]).run P w = .ok (.bool false) w := by
  change Sem.run P (α := Value) (do
    let some t := (#[tS, tS] : Array TypeId)[0]? | stuck "slices.overlaps: no parameter types"
    let .slice elem ← underlying t | stuck "slices.overlaps: slice type expected"
    let size ← sizeOf elem
    match (some ⟨b, oa, none⟩ : Option Addr), (some ⟨b, ob, none⟩ : Option Addr) with
    | some a, some b =>
      if la = 0 ∨ lb = 0 ∨ size = 0 then pure (Value.bool false)
      else if a.block != b.block && (← frozen a) && (← frozen b) then unsupported .addressObserved
      else do
        if a.block != b.block then do
          noView a; noView b
          if ← mayBeOne a b then return Value.bool ((← choose (.extern "sameAddr.stringBytes" 2)) == 1)
        pure (Value.bool (a.block == b.block && a.off < b.off + lb * size && b.off < a.off + la * size))
    | _, _ => pure (Value.bool false)) w = _
  by_cases h0 : la = 0 ∨ lb = 0 ∨ size = 0
  · simp [run_underlying ht, hz, h0]
  · have h' : (decide (oa < ob + lb * size) && decide (ob < oa + la * size)) = false := by
      cases h1 : decide (oa < ob + lb * size) <;> cases h2 : decide (ob < oa + la * size) <;> simp at h1 h2 ⊢
      exact h ⟨h1, h2⟩
    simp [run_underlying ht, hz, h0, frozen, Sem.run, h']

theorem run_overlaps_none {P : Program} (w : World) (tS tR e : TypeId) (ht : P.underlying tS = some (.slice e)) (size : Nat) (hz : (Go.sizeOf e).run P w = .ok size w)
    (a b : Option Addr) (la ca lb cb : Nat) (h : la = 0 ∨ lb = 0) :
    (Extern.SlicesOverlaps.overlaps #[tS, tS] #[tR] #[.slice a la ca, .slice b lb cb]).run P w = .ok (.bool false) w := by
  change Sem.run P (α := Value) (do
    let some t := (#[tS, tS] : Array TypeId)[0]? | stuck "slices.overlaps: no parameter types"
    let .slice elem ← underlying t | stuck "slices.overlaps: slice type expected"
    let size ← sizeOf elem
    match a, b with
    | some a, some b =>
      if la = 0 ∨ lb = 0 ∨ size = 0 then pure (Value.bool false)
      else if a.block != b.block && (← frozen a) && (← frozen b) then unsupported .addressObserved
      else do
        if a.block != b.block then do
          noView a; noView b
          if ← mayBeOne a b then return Value.bool ((← choose (.extern "sameAddr.stringBytes" 2)) == 1)
        pure (Value.bool (a.block == b.block && a.off < b.off + lb * size && b.off < a.off + la * size))
    | _, _ => pure (Value.bool false)) w = _
  have h0 : la = 0 ∨ lb = 0 ∨ size = 0 := by rcases h with h | h <;> simp [h]
  cases a <;> cases b <;> simp [run_underlying ht, hz, h0]

theorem overlaps_ext {P : Program} {σ : St} {f : FuncId} {fn : Func} {tS tR e : TypeId} {i : TI} {k1 g1 o1 n1 k2 g2 o2 n2 sz : Nat} {r1 r2 : RowSt} (hf : P.funcs[f]? = some fn) (hname : (fn.name == "runtime.NumGoroutine") = false) (hb : fn.body.isNone = true) (hn : Extern.findNext fn = none)
    (he : Extern.find fn = some (Extern.SlicesOverlaps.overlaps #[tS, tS] #[tR])) (ht : P.underlying tS = some (.slice e)) (hi : ti P e = some i) (hsz : i.size = sz) (hpos : 0 < sz) (hne : k1 ≠ k2) (h1 : σ.rows[k1]? = some r1) (hg1 : r1.gen = g1) (h2 : σ.rows[k2]? = some r2) (hg2 : r2.gen = g2) :
    ExtA P f [.row k1 g1 o1 sz n1, .row k2 g2 o2 sz n2] σ (fun av _ => av = .v (.bool false)) := by
  intro G w vs hS hl hr
  obtain ⟨a, b, rfl, ha, hb'⟩ := args2 hl hr
  obtain ⟨d, j, hd, hj, hzj, hag, hsize, hby⟩ := ti_some hi
  have hz : ∀ w, (Go.sizeOf e).run P w = .ok sz w := fun w => by rw [run_sizeOf w hj, ← hsize, hsz]
  refine ⟨.bool false, _, ?_, .v rfl, rfl⟩
  rw [run_callFunc_extern hf hname hb hn he]
  obtain ⟨a1, c1, b1, p1, C1, rfl, hn1, hk1, hC1, hA1, hl1, hs1, hm1⟩ := row_look hS ha h1 hg1
  obtain ⟨a2, c2, b2, p2, C2, rfl, hn2, hk2, hC2, hA2, hl2, hs2, hm2⟩ := row_look hS hb' h2 hg2
  by_cases h0 : n1 = 0 ∨ n2 = 0
  · rw [run_overlaps_none w tS tR e ht sz (hz w) a1 a2 n1 c1 n2 c2 h0]; rfl
  · have e1 := hA1 (by omega)
    have e2 := hA2 (by omega)
    subst e1 e2
    have hm1' : n1 * sz ≤ c1 * sz := Nat.mul_le_mul_right _ hn1
    have hm2' : n2 * sz ≤ c2 * sz := Nat.mul_le_mul_right _ hn2
    have hp1 : 0 < n1 * sz := Nat.mul_pos (by omega) hpos
    have hp2 : 0 < n2 * sz := Nat.mul_pos (by omega) hpos
    obtain ⟨cu1, el1, q1, q2, q3, _⟩ := hm1 (by omega)
    obtain ⟨cu2, el2, u1, u2, u3, _⟩ := hm2 (by omega)
    by_cases hbb : b1 = b2
    · subst hbb
      rw [run_overlaps_same w tS tR e ht sz (hz w) b1 _ _ n1 c1 n2 c2 (fun ⟨x, y⟩ => by
        obtain ⟨q, hq1, hq2, hq3, hq4⟩ : ∃ q, p1 + o1 ≤ q ∧ q < p1 + o1 + n1 * sz ∧ p2 + o2 ≤ q ∧ q < p2 + o2 + n2 * sz := by
          by_cases hle : p1 + o1 ≤ p2 + o2
          · exact ⟨p2 + o2, by omega, by omega, by omega, by omega⟩
          · exact ⟨p1 + o1, by omega, by omega, by omega, by omega⟩
        have t1 := q3 (q - p1) (by omega)
        have t2 := u3 (q - p2) (by omega)
        rw [show p1 + (q - p1) = q by omega] at t1
        rw [show p2 + (q - p2) = q by omega] at t2
        rw [t1] at t2
        exact hne (Tag.row.inj t2))]; rfl
    · rw [Lib.run_overlaps_apart w tS tR e ht sz hz ⟨b1, p1 + o1, none⟩ ⟨b2, p2 + o2, none⟩ n1 c1 n2 c2 hbb el1 el2 cu1.size cu2.size (shape_cells q1) (shape_cells u1) (by omega) (frozen_cells q1) (frozen_cells q1)]; rfl

theorem ba_loop (l : List UInt8) : ∀ (n i : Nat) (r : List UInt8), l.length - i = n → ByteArray.toList.loop ⟨l.toArray⟩ i r = r.reverse ++ l.drop i
  | 0, i, r, h => by
    unfold ByteArray.toList.loop
    have hs : ¬ i < (ByteArray.mk l.toArray).size := by simp [ByteArray.size]; omega
    rw [if_neg hs, List.drop_of_length_le (by omega), List.append_nil]
  | n + 1, i, r, h => by
    unfold ByteArray.toList.loop
    have hl : i < l.length := by omega
    have hs : i < (ByteArray.mk l.toArray).size := by simpa [ByteArray.size] using hl
    rw [if_pos hs, ba_loop l n (i + 1) _ (by omega), List.drop_eq_getElem_cons hl]
    have : (ByteArray.mk l.toArray).get! i = l[i] := by simp [ByteArray.get!, hl]
    simp [this]
theorem ba_toList (l : List UInt8) : (ByteArray.mk l.toArray).toList = l := by
  unfold ByteArray.toList
  rw [ba_loop l _ 0 [] rfl]; simp
theorem binA_eql_str {P : Program} (t : TypeId) (xo yo : Operand) (a b : ByteArray) : binA P .eql t xo yo (.v (.string a)) (.v (.string b)) = some (.v (.bool (a.toList == b.toList))) := by
  have g : eqGuard .eql t xo yo (.string a) (.string b) = pure () := rfl
  simp only [binA, binOldA, plainOf, g, binOp_string_eql]
  rfl
theorem bytesOf_bytes : ∀ p : List UInt8, bytesOf (bytesA p) = some p
  | [] => rfl
  | b :: p => by
    have ih := bytesOf_bytes p
    simp only [bytesA, List.map_cons, bytesOf] at ih ⊢
    rw [ih]
    simp
theorem pureRun_bind {α β : Type} (P : Program) : ∀ (s : Sem α) (f : α → Sem β), pureRun P (s >>= f) = match pureRun P s with | some a => pureRun P (f a) | none => none
  | .pure a, f => rfl
  | .program k, f => by
    have := pureRun_bind P (k P) f
    exact this
  | .mark _ k, f => pureRun_bind P k f
  | .load .., _ | .store .., _ | .new .., _ | .shape .., _ | .freeze .., _ | .frozen .., _ | .getObj .., _ | .setObj .., _
  | .choose .., _ | .sys .., _ | .halt .., _ => rfl
theorem pureRun_under {P : Program} {t : TypeId} {d : TypeDesc} (h : P.underlying t = some d) : pureRun P (underlying t) = some d := by
  simp [underlying, pureRun_bind, pureRun, program, h]; rfl
theorem binA_eqn {P : Program} {t : TypeId} (h : isPtrT P t = true) (xo yo : Operand) : binA P .eql t xo yo (.v (.pointer none)) (.v (.pointer none)) = some (.v (.bool true)) := by
  obtain ⟨el, hd⟩ : ∃ el, P.underlying t = some (.pointer el) := by
    unfold isPtrT at h
    split at h
    · exact ⟨_, by assumption⟩
    · cases h
  have key : ∀ n, pureRun P (Op.equalIn (n + 1) t (.pointer none) (.pointer none)) = some true := fun n => by
    unfold Op.equalIn
    rw [pureRun_bind, pureRun_under hd]
    rfl
  have e1 : eqGuard .eql t xo yo (.pointer none) (.pointer none) = pure () := rfl
  have e2 : binOp .eql t (.pointer none) (.pointer none) = (do pure (.bool (← Op.equal t (.pointer none) (.pointer none)))) := rfl
  have e3 : pureRun P (Op.equal t (.pointer none) (.pointer none)) = some true := key 9999
  simp only [binA, binOldA, plainOf, e1, e2]
  rw [pureRun_bind]
  show (match (match pureRun P (do pure (.bool (← Op.equal t (.pointer none) (.pointer none)))) with | some r => if plain r = true then some (AV.v r) else none | none => none) with | x => x) = _
  rw [pureRun_bind, e3]
  rfl
end Go.Vm

/-
  Stores: pairs by their keys, in order; what was done; plain facts.
-/
namespace Go.Vm
set_option linter.unnecessarySimpa false
set_option linter.unusedSimpArgs false
set_option linter.unusedVariables false
open Go

theorem ltB_irr : ∀ a : List UInt8, ltB a a = false
  | [] => rfl
  | a :: l => by simp [ltB, ltB_irr l]
theorem ltB_nil (a : List UInt8) : ltB a [] = false := by cases a <;> rfl
theorem ltB_trans : ∀ {a b c : List UInt8}, ltB a b = true → ltB b c = true → ltB a c = true
  | _, _, [], _, h => by rw [ltB_nil] at h; cases h
  | _, [], _ :: _, h, _ => by rw [ltB_nil] at h; cases h
  | [], _ :: _, _ :: _, _, _ => rfl
  | a :: l, b :: m, c :: n, h1, h2 => by
    unfold ltB at h1 h2 ⊢
    split at h1
    · rename_i e
      subst e
      split at h2
      · rename_i e
        subst e
        rw [if_pos rfl]; exact ltB_trans h1 h2
      · rename_i hac; rw [if_neg hac]; exact h2
    · rename_i hab
      split at h2
      · rename_i e
        subst e
        rw [if_neg hab]; exact h1
      · rename_i hbc
        have h3 : a.toNat < c.toNat := Nat.lt_trans (of_decide_eq_true h1) (of_decide_eq_true h2)
        rw [if_neg (fun e => by subst e; omega)]
        exact decide_eq_true h3
theorem ltB_total : ∀ {a b : List UInt8}, a ≠ b → ltB a b = false → ltB b a = true
  | [], [], h, _ => (h rfl).elim
  | [], _ :: _, _, h => by cases h
  | _ :: _, [], _, _ => rfl
  | a :: l, b :: m, h, h1 => by
    unfold ltB at h1 ⊢
    split at h1
    · rename_i e
      subst e
      rw [if_pos rfl]
      exact ltB_total (fun e => h (by rw [e])) h1
    · rename_i hab
      rw [if_neg (Ne.symm hab)]
      have : ¬ a.toNat < b.toNat := of_decide_eq_false h1
      have hne : a.toNat ≠ b.toNat := fun e => hab (UInt8.toNat_inj.1 e)
      exact decide_eq_true (by omega)
theorem ltB_asymm {a b : List UInt8} (h : ltB a b = true) : ltB b a = false := by
  cases h2 : ltB b a with
  | false => rfl
  | true => have := ltB_trans h h2; rw [ltB_irr] at this; cases this
theorem ltB_ne {a b : List UInt8} (h : ltB a b = true) : a ≠ b := fun e => by subst e; rw [ltB_irr] at h; cases h

structure Pr where
  k : List UInt8
  v : List UInt8
  deriving DecidableEq

def byC (p : List UInt8) : AV := .sl 1 (bytesA p) p.length .shut
def prC (p : Pr) : List AV := [byC p.k, byC p.v]
def prsC (l : List Pr) : List AV := l.flatMap prC
structure Ud where
  k : List UInt8
  o : Option (List UInt8)
  deriving DecidableEq
def udC (u : Ud) : List AV := [byC u.k, byC (u.o.getD []), .v (.bool u.o.isSome)]
def udsC (l : List Ud) : List AV := l.flatMap udC
def mkC (l : List Nat) : List AV := l.map fun n : Nat => .v (.int .i64 (n : Int))
def kysC (l : List (List UInt8)) : List AV := l.map byC

def Srt (l : List Pr) : Prop := l.Pairwise fun a b => ltB a.k b.k = true

def getL : List Pr → List UInt8 → Option (List UInt8)
  | [], _ => none
  | p :: l, k => if p.k = k then some p.v else getL l k
def setL : List Pr → List UInt8 → Option (List UInt8) → List Pr
  | [], k, some v => [⟨k, v⟩]
  | [], _, none => []
  | p :: l, k, o => if p.k = k then (match o with | some v => ⟨k, v⟩ :: l | none => l)
    else if ltB k p.k then (match o with | some v => ⟨k, v⟩ :: p :: l | none => p :: l) else p :: setL l k o

theorem getL_none_lt : ∀ {l : List Pr} {k : List UInt8}, Srt l → (∀ p ∈ l, ltB k p.k = true) → getL l k = none
  | [], _, _, _ => rfl
  | p :: l, k, h, hk => by
    have h0 := hk p (by simp)
    rw [getL, if_neg (fun e => ltB_ne h0 e.symm)]
    exact getL_none_lt (List.Pairwise.of_cons h) (fun q hq => hk q (by simp [hq]))

theorem setL_mem : ∀ {l : List Pr} {k : List UInt8} {o : Option (List UInt8)} {q : Pr}, q ∈ setL l k o → q ∈ l ∨ q.k = k
  | [], k, some v, q, h => by simp [setL] at h; exact .inr (by rw [h])
  | [], _, none, q, h => by simp [setL] at h
  | p :: l, k, o, q, h => by
    unfold setL at h
    split at h
    · cases o with
      | none => exact .inl (by simp [h])
      | some v => rcases List.mem_cons.1 h with e | e
                  · exact .inr (by rw [e])
                  · exact .inl (by simp [e])
    · split at h
      · cases o with
        | none => exact .inl h
        | some v => rcases List.mem_cons.1 h with e | e
                    · exact .inr (by rw [e])
                    · exact .inl e
      · rcases List.mem_cons.1 h with e | e
        · exact .inl (by rw [e]; simp)
        · rcases setL_mem e with h1 | h1
          · exact .inl (by simp [h1])
          · exact .inr h1

theorem setL_srt : ∀ {l : List Pr} {k : List UInt8} {o : Option (List UInt8)}, Srt l → Srt (setL l k o)
  | [], k, some v, _ => by simp [setL, Srt]
  | [], _, none, _ => by simp [setL, Srt]
  | p :: l, k, o, h => by
    have h1 := List.pairwise_cons.1 h
    unfold setL
    split
    · rename_i e
      subst e
      cases o with
      | none => exact h1.2
      | some v => exact List.pairwise_cons.2 ⟨fun q hq => h1.1 q hq, h1.2⟩
    · rename_i hne
      split
      · rename_i hlt
        cases o with
        | none => exact h
        | some v => exact List.pairwise_cons.2 ⟨fun q hq => by
            rcases List.mem_cons.1 hq with e | e
            · rw [e]; exact hlt
            · exact ltB_trans hlt (h1.1 q e), h⟩
      · rename_i hlt
        refine List.pairwise_cons.2 ⟨fun q hq => ?_, setL_srt h1.2⟩
        rcases setL_mem hq with e | e
        · exact h1.1 q e
        · rw [e]; exact ltB_total (Ne.symm hne) (by simpa using hlt)

theorem getL_setL : ∀ {l : List Pr} {k : List UInt8} {o : Option (List UInt8)}, Srt l → ∀ k', getL (setL l k o) k' = if k' = k then o else getL l k'
  | [], k, some v, _, k' => by simp [setL, getL]; split <;> simp_all [eq_comm]
  | [], _, none, _, k' => by simp [setL, getL]
  | p :: l, k, o, h, k' => by
    have h1 := List.pairwise_cons.1 h
    unfold setL
    split
    · rename_i e
      subst e
      have hn : getL l p.k = none := getL_none_lt h1.2 h1.1
      cases o with
      | none =>
        by_cases hk : k' = p.k
        · subst hk; simp [hn]
        · simp [getL, hk, Ne.symm hk]
      | some v =>
        by_cases hk : k' = p.k
        · subst hk; simp [getL]
        · simp [getL, hk, Ne.symm hk]
    · rename_i hne
      split
      · rename_i hlt
        have hn : getL (p :: l) k = none := getL_none_lt h (fun q hq => by
          rcases List.mem_cons.1 hq with e | e
          · rw [e]; exact hlt
          · exact ltB_trans hlt (h1.1 q e))
        cases o with
        | none =>
          by_cases hk : k' = k
          · subst hk; simp [hn]
          · simp [hk]
        | some v =>
          by_cases hk : k' = k
          · subst hk; simp [getL]
          · simp only [hk, if_false]
            rw [getL, if_neg (Ne.symm hk)]
      · rename_i hlt
        have ih := getL_setL (k := k) (o := o) h1.2 k'
        rw [getL]
        by_cases hp : p.k = k'
        · subst hp
          simp [hne, getL]
        · rw [if_neg hp, ih]
          simp [getL, hp]

def findL (l : List Pr) (k : List UInt8) : Nat := (l.takeWhile fun p => ltB p.k k).length
def hasL (l : List Pr) (k : List UInt8) : Bool := (getL l k).isSome

theorem findL_le (l : List Pr) (k : List UInt8) : findL l k ≤ l.length := by
  unfold findL
  induction l with
  | nil => simp
  | cons p l ih => rw [List.takeWhile_cons]; split <;> simp; omega

theorem findL_of {k : List UInt8} : ∀ {l : List Pr} {r : Nat}, Srt l → r ≤ l.length → (0 < r → ∃ p, l[r - 1]? = some p ∧ ltB p.k k = true) → (∀ p, l[r]? = some p → ltB p.k k = false) → r = findL l k
  | [], r, _, hr, _, _ => by simp at hr; simp [findL, hr]
  | p :: l, 0, h, _, _, h2 => by
    have := h2 p rfl
    simp [findL, this]
  | p :: l, r + 1, h, hr, h1, h2 => by
    have l1 := List.pairwise_cons.1 h
    obtain ⟨q, hq, hlt⟩ := h1 (by omega)
    have hp : ltB p.k k = true := by
      cases r with
      | zero => simp at hq; rw [hq]; exact hlt
      | succ r =>
        simp at hq
        exact ltB_trans (l1.1 q (List.mem_of_getElem? hq)) hlt
    have ih := findL_of (r := r) l1.2 (by simpa using hr) (fun h0 => by
      refine ⟨q, ?_, hlt⟩
      rw [show r + 1 - 1 = (r - 1) + 1 by omega] at hq
      simpa using hq) (fun p hp => h2 p (by simpa using hp))
    simp only [findL, List.takeWhile_cons, hp, if_true, List.length_cons] at ih ⊢
    omega

theorem findL_get {k : List UInt8} : ∀ {l : List Pr}, Srt l → getL l k = match l[findL l k]? with | some p => if p.k = k then some p.v else none | none => none
  | [], _ => rfl
  | p :: l, h => by
    have l1 := List.pairwise_cons.1 h
    cases hp : ltB p.k k with
    | true =>
      have ih := findL_get (k := k) l1.2
      have e : findL (p :: l) k = findL l k + 1 := by simp [findL, hp]
      rw [e, getL, if_neg (ltB_ne hp), ih]
      simp
    | false =>
      have e : findL (p :: l) k = 0 := by simp [findL, hp]
      rw [e]
      simp only [List.getElem?_cons_zero, getL]
      split
      · rfl
      · rename_i hne
        have hgt := ltB_total hne hp
        exact getL_none_lt l1.2 (fun q hq => ltB_trans hgt (l1.1 q hq))

theorem setL_at {k : List UInt8} {o : Option (List UInt8)} : ∀ {l : List Pr}, Srt l → setL l k o = match getL l k, o with
    | some _, some v => l.set (findL l k) ⟨k, v⟩
    | some _, none => l.take (findL l k) ++ l.drop (findL l k + 1)
    | none, some v => l.take (findL l k) ++ ⟨k, v⟩ :: l.drop (findL l k)
    | none, none => l
  | [], _ => by cases o <;> rfl
  | p :: l, h => by
    have l1 := List.pairwise_cons.1 h
    cases hp : ltB p.k k with
    | true =>
      have ih := setL_at (k := k) (o := o) l1.2
      have e : findL (p :: l) k = findL l k + 1 := by simp [findL, hp]
      rw [setL.eq_def]; simp only; rw [if_neg (ltB_ne hp), if_neg (by rw [ltB_asymm hp]; simp), ih, getL, if_neg (ltB_ne hp), e]
      cases getL l k <;> cases o <;> simp
    | false =>
      have e : findL (p :: l) k = 0 := by simp [findL, hp]
      rw [e]
      by_cases hk : p.k = k
      · rw [setL.eq_def]; simp only; rw [if_pos hk, getL, if_pos hk]
        cases o <;> simp
      · have hgt := ltB_total hk hp
        rw [setL.eq_def]; simp only; rw [if_neg hk, if_pos hgt, getL, if_neg hk, getL_none_lt l1.2 (fun q hq => ltB_trans hgt (l1.1 q hq))]
        cases o <;> simp

theorem set_same' {α : Type} {l : List α} {i : Nat} {x : α} (h : l[i]? = some x) : l.set i x = l := by
  apply List.ext_getElem?
  intro j
  by_cases hj : i = j
  · subst hj; rw [set_self_of h x, h]
  · rw [List.getElem?_set_ne hj]

section
variable {P : Program} {σ : St}

theorem RelS.less {G : Gh} {w : World} (h : RelS G w σ) {k g n : Nat} {cells : List AV} {sp : Option Nat} (hr : σ.rows[k]? = some ⟨g, cells, sp⟩) (hn : n ≤ cells.length) : RelS G w { σ with rows := σ.rows.set k ⟨g, cells.take n, none⟩ } := by
  have h0 : WkS { σ with rows := σ.rows.set k ⟨g, cells, sp⟩ } { σ with rows := σ.rows.set k ⟨g, cells.take n, none⟩ } :=
    WkS.setRow ⟨rfl, by simp; omega, by simp only [List.length_take]; rw [Nat.min_eq_left hn]; exact WkL.refl _, fun s h => by cases h⟩
  rw [set_same' hr] at h0
  exact h.wk h0

theorem callsA_row_end {f : FuncId} {args : List AV} {k sz n : Nat} {cells : List AV} {r0 : RowSt} {Q : AV → St → Prop} (h0 : CallsA P f args σ Q) (hk : σ.rows[k]? = some r0) (hl : cells.length = n * sz) (hu : underL σ.bd cells = true)
    (h : ∀ av σ', Q av σ' → (∃ g junk sp l m r, av = .row k g 0 sz n ∧ σ' = { σ with objs := σ.objs ++ l, toks := σ.toks ++ m, rows := σ.rows.set k ⟨g, cells ++ junk, sp⟩ ++ r }) ∨
      (∃ g sp l m r1 g' r, av = .row (σ.rows.length) g' 0 sz n ∧ σ' = { σ with objs := σ.objs ++ l, toks := σ.toks ++ m, rows := σ.rows.set k r1 ++ ⟨g', cells, sp⟩ :: r } ∧ r1.gen = g)) :
    CallsA P f args σ (fun av σ' => ∃ g, av = .row k g 0 sz n ∧ σ' = { σ with rows := σ.rows.set k ⟨g, cells, none⟩ }) := by
  have hkl := (List.getElem?_eq_some_iff.1 hk).1
  have h1 : CallsA P f args σ (fun av σ' => ∃ g l m r, av = .row k g 0 sz n ∧ σ' = { σ with objs := σ.objs ++ l, toks := σ.toks ++ m, rows := σ.rows.set k ⟨g, cells, none⟩ ++ r }) := by
    refine callsA_turn h0 (fun G' w' v av σ0 hq hS hv => ?_)
    rcases h av σ0 hq with ⟨g, junk, sp, l, m, r, rfl, rfl⟩ | ⟨g, sp, l, m, r1, g', r, rfl, rfl, rfl⟩
    · have hr : ({ σ with objs := σ.objs ++ l, toks := σ.toks ++ m, rows := σ.rows.set k ⟨g, cells ++ junk, sp⟩ ++ r } : St).rows[k]? = some ⟨g, cells ++ junk, sp⟩ := by
        simp only
        rw [List.getElem?_append_left (by simpa using hkl), List.getElem?_set_self hkl]
      have := hS.less hr (n := cells.length) (by simp)
      refine ⟨G', _, _, .refl _ _, this, hv, g, l, m, r, rfl, ?_⟩; simp only [List.take_left]
      rw [List.set_append_left _ _ (by simpa using hkl), List.set_set]
    · have hr : ({ σ with objs := σ.objs ++ l, toks := σ.toks ++ m, rows := σ.rows.set k r1 ++ ⟨g', cells, sp⟩ :: r } : St).rows[k]? = some r1 := by
        simp only
        rw [List.getElem?_append_left (by simpa using hkl), List.getElem?_set_self hkl]
      have hr' : ({ σ with objs := σ.objs ++ l, toks := σ.toks ++ m, rows := σ.rows.set k r1 ++ ⟨g', cells, sp⟩ :: r } : St).rows[σ.rows.length]? = some ⟨g', cells, sp⟩ := by
        simp only
        rw [List.getElem?_append_right (by simp)]; simp
      obtain ⟨G1, e1, e2, e3⟩ := mv_sound hS hr hr' (by omega)
      have h4 := e3 (σ.objs ++ l) rfl (fun id cs ds h1 h2 => by simp only at h1; rw [h1] at h2; cases h2; exact MvL.refl _)
      have hr2 : ({ σ with objs := σ.objs ++ l, toks := σ.toks ++ m, rows := ((σ.rows.set k r1 ++ ⟨g', cells, sp⟩ :: r).set k ⟨r1.gen + 1, cells, sp⟩).set σ.rows.length ⟨g' + 1, [], none⟩ } : St).rows[k]? = some ⟨r1.gen + 1, cells, sp⟩ := by
        simp only
        rw [List.getElem?_set_ne (by omega), List.getElem?_set_self (by simp; omega)]
      have h5 := RelS.less h4 hr2 (n := cells.length) (Nat.le_refl _)
      refine ⟨G1, .row k (r1.gen + 1) 0 sz n, _, e1, h5, e2 v _ _ hv (.row 0 sz n), r1.gen + 1, l, m, ⟨g' + 1, [], none⟩ :: r, rfl, ?_⟩; simp only [List.take_length]
      rw [List.set_append_left _ _ (by simpa using hkl), List.set_set, List.set_append_right _ _ (by simp), List.set_append_left _ _ (by simpa using hkl), List.set_set]
      simp
  refine callsA_gc h1 (fun av σ0 hq => ?_)
  obtain ⟨g, l, m, r, rfl, rfl⟩ := hq
  refine ⟨.row k g 0 sz n, Wk.refl _, decide_eq_true hkl, by simp, by simp, by simp, rfl, fun id cs hid hc => .inl ?_, fun i r' hi hr => ?_, g, rfl, ?_⟩
  · rw [← hc]; exact (List.getElem?_append_left hid).symm
  · rw [List.getElem?_append_left (by simpa using hi)] at hr
    by_cases hik : k = i
    · subst hik
      rw [List.getElem?_set_self hkl] at hr; cases hr
      exact .inr hu
    · rw [List.getElem?_set_ne hik] at hr
      exact .inl ⟨r', hr, rfl⟩
  · simp [St.trim, St.bd, List.take_append_of_le_length]
end
structure Sto where
  l : List Pr
  log : List Ud
  marks : List Nat

structure Sg where
  s : Sto
  g1 : Nat
  g2 : Nat
  g3 : Nat

def stC (k : Nat) (G : Sg) : List AV := [.row k G.g1 0 2 G.s.l.length, .row (k + 1) G.g2 0 3 G.s.log.length, .row (k + 2) G.g3 0 1 G.s.marks.length]
def stR1 (G : Sg) : RowSt := ⟨G.g1, prsC G.s.l, none⟩
def stR2 (G : Sg) : RowSt := ⟨G.g2, udsC G.s.log, none⟩
def stR3 (G : Sg) : RowSt := ⟨G.g3, mkC G.s.marks, none⟩

structure HasS (σ : St) (o k : Nat) (G : Sg) : Prop where
  o : σ.objs[o]? = some (stC k G)
  r1 : σ.rows[k]? = some (stR1 G)
  r2 : σ.rows[k + 1]? = some (stR2 G)
  r3 : σ.rows[k + 2]? = some (stR3 G)
def putS (σ : St) (o k : Nat) (G : Sg) : St := { σ with objs := σ.objs.set o (stC k G), rows := ((σ.rows.set k (stR1 G)).set (k + 1) (stR2 G)).set (k + 2) (stR3 G) }

theorem HasS.put {σ : St} {o k : Nat} {G : Sg} (h : HasS σ o k G) (G' : Sg) : HasS (putS σ o k G') o k G' := by
  have h1 := lt_of_get h.o
  have h2 := lt_of_get h.r3
  refine ⟨by simp [putS, h1], ?_, ?_, ?_⟩
  · simp only [putS]
    rw [List.getElem?_set_ne (by omega), List.getElem?_set_ne (by omega), List.getElem?_set_self (by omega)]
  · simp only [putS]
    rw [List.getElem?_set_ne (by omega), List.getElem?_set_self (by simp; omega)]
  · simp only [putS]
    rw [List.getElem?_set_self (by simp; omega)]
theorem set_comm' {α : Type} (l : List α) {i j : Nat} (h : i ≠ j) (a b : α) : (l.set i a).set j b = (l.set j b).set i a := List.set_comm a b h
theorem putS_put (σ : St) (o k : Nat) (G G' : Sg) : putS (putS σ o k G) o k G' = putS σ o k G' := by
  simp only [putS, List.set_set]
  congr 1
  rw [set_comm' _ (by omega : k + 2 ≠ k), set_comm' _ (by omega : k + 1 ≠ k), List.set_set, set_comm' _ (by omega : k + 2 ≠ k + 1), List.set_set, List.set_set]
theorem putS_self {σ : St} {o k : Nat} {G : Sg} (h : HasS σ o k G) : putS σ o k G = σ := by
  simp only [putS]
  rw [set_same' h.o, set_same' h.r1, set_same' h.r2, set_same' h.r3]

structure Sto.Ok (s : Sto) (n : Nat) : Prop where
  srt : Srt s.l
  l : s.l.length ≤ n
  log : s.log.length ≤ n
  marks : s.marks.length ≤ n
  kv : ∀ p ∈ s.l, p.k.length ≤ 1000000 ∧ p.v.length ≤ 1000000
  ud : ∀ u ∈ s.log, u.k.length ≤ 1000000 ∧ (u.o.getD []).length ≤ 1000000
  mks : ∀ m ∈ s.marks, m ≤ s.log.length

theorem Sto.Ok.mono {s : Sto} {n m : Nat} (h : s.Ok n) (hn : n ≤ m) : s.Ok m := ⟨h.srt, Nat.le_trans h.l hn, Nat.le_trans h.log hn, Nat.le_trans h.marks hn, h.kv, h.ud, h.mks⟩

def doS (s : Sto) (k : List UInt8) (o : Option (List UInt8)) : Sto := { s with l := setL s.l k o, log := if s.marks = [] then s.log else s.log ++ [⟨k, getL s.l k⟩] }
theorem getL_mem : ∀ {l : List Pr} {k v : List UInt8}, getL l k = some v → ⟨k, v⟩ ∈ l
  | [], _, _, h => by cases h
  | p :: l, k, v, h => by
    unfold getL at h
    split at h
    · rename_i e; cases h; subst e; exact List.mem_cons_self ..
    · exact List.mem_cons_of_mem _ (getL_mem h)
theorem setL_len : ∀ (l : List Pr) (k : List UInt8) (o : Option (List UInt8)), (setL l k o).length ≤ l.length + 1
  | [], k, some v => by simp [setL]
  | [], _, none => by simp [setL]
  | p :: l, k, o => by
    have ih := setL_len l k o
    unfold setL
    split
    · cases o <;> simp <;> omega
    · split
      · cases o <;> simp
      · simp; omega
theorem setL_memv : ∀ {l : List Pr} {k : List UInt8} {o : Option (List UInt8)} {q : Pr}, q ∈ setL l k o → q ∈ l ∨ o = some q.v ∧ q.k = k
  | [], k, some v, q, h => by simp [setL] at h; exact .inr (by rw [h]; exact ⟨rfl, rfl⟩)
  | [], _, none, q, h => by simp [setL] at h
  | p :: l, k, o, q, h => by
    unfold setL at h
    split at h
    · cases o with
      | none => exact .inl (by simp [h])
      | some v => rcases List.mem_cons.1 h with e | e
                  · exact .inr (by rw [e]; exact ⟨rfl, rfl⟩)
                  · exact .inl (by simp [e])
    · split at h
      · cases o with
        | none => exact .inl h
        | some v => rcases List.mem_cons.1 h with e | e
                    · exact .inr (by rw [e]; exact ⟨rfl, rfl⟩)
                    · exact .inl e
      · rcases List.mem_cons.1 h with e | e
        · exact .inl (by rw [e]; simp)
        · rcases setL_memv e with h1 | h1
          · exact .inl (by simp [h1])
          · exact .inr h1

theorem doS_ok {s : Sto} {n : Nat} (h : s.Ok n) {k : List UInt8} {o : Option (List UInt8)} (hk : k.length ≤ 1000000) (ho : (o.getD []).length ≤ 1000000) : (doS s k o).Ok (n + 1) := by
  have h0 := setL_len s.l k o
  refine ⟨setL_srt h.srt, by have := h.l; simp only [doS]; omega, ?_, by have := h.marks; simp only [doS]; omega, fun p hp => ?_, fun u hu => ?_, fun m hm => ?_⟩
  · have := h.log; simp only [doS]; split
    · omega
    · simp; omega
  · rcases setL_memv hp with h1 | ⟨rfl, rfl⟩
    · exact h.kv p h1
    · exact ⟨hk, ho⟩
  · simp only [doS] at hu
    split at hu
    · exact h.ud u hu
    · rcases List.mem_append.1 hu with h1 | h1
      · exact h.ud u h1
      · simp at h1; subst h1
        refine ⟨hk, ?_⟩
        cases hg : getL s.l k with
        | none => simp
        | some v => exact (h.kv _ (getL_mem hg)).2
  · have := h.mks m hm
    simp only [doS]; split
    · exact this
    · simp; omega
end Go.Vm

/-
  In a region that draws its order: a list that is built, and that is a row from then on. A row asked whether it is nil. A call's end, where rows were written.
-/
namespace Go.Vm
set_option linter.unnecessarySimpa false
set_option linter.unusedSimpArgs false
set_option linter.unusedVariables false
open Go

section
variable {z : Zone} {P : Program} {N : Nat} {ρ : Nat → AV} {σ : St} {ops : Array Oper} {rest : List Oper} {o : Oper} {K : (Nat → AV) → St → Prop}

theorem db {S D : List Nat} {ρ0 : Nat → AV} (i : Nat) {o : Oper} {t : TypeId} {len sz n : Nat} {cs : List AV} {tl : Tail} {parts : Array (Nat × Operand)} {ps : List (Nat × AV)} (ho : ops[i]? = some o) (hop : o.op = .buildSlice t len parts)
    (hp : evalsA ρ σ parts.toList = some ps := by (try conv => lhs; simp [F]); try rfl) (h : buildSliceA P t len ps = some (.sl sz cs n tl) := by (try conv => lhs; simp [F]); try rfl)
    (k : (∀ j ∈ later D o, Fact P ops ρ σ j → Fact P ops ρ { σ with rows := σ.rows ++ [⟨0, cs, none⟩] } j) ∧ RunD z P N ops (i :: S) (later D o) ρ0 (putA ρ o.dst (.row σ.rows.length 0 0 sz n)) { σ with rows := σ.rows ++ [⟨0, cs, none⟩] } K)
    (hw : wantedA ops o ρ = some true := by first | rfl | (simp [F]; done))
    (hb : (acyclic ops && (ops.toList.all fun o => inN N o.dst) && ready ops S i && ((List.range ops.size).all fun j => j == i || !ready ops S j) && (match o.dst with | some x => fresh ops (later D o) x | none => true) && covers ops D o) = true := by kernel_rfl) : RunD z P N ops S D ρ0 ρ σ K := by
  simp only [Bool.and_eq_true] at hb
  obtain ⟨⟨⟨⟨⟨h1, h2⟩, h3⟩, h4⟩, h5⟩, h6⟩ := hb
  refine runD_core i (K := fun a s => a = .row σ.rows.length 0 0 sz n ∧ s = { σ with rows := σ.rows ++ [⟨0, cs, none⟩] }) h1 h2 h3 ho h4 h5 h6 (fun ρr hag G w a R R' hR hK => ?_) (fun a s ⟨e1, e2⟩ => by subst e1 e2; exact k)
  have hp' : evalsA ρr σ parts.toList = some ps := by
    rw [← hp]
    exact evalsA_congr (fun t ht => hag t (looksAt_op (by rw [hop]; simpa [Op.operands] using ht)))
  obtain ⟨v, w', G', hv, hE, hS, hav⟩ := buildRow_sound (P := P) hR.s (evalsA_sound hR.s hR.env hp') h
  unfold wpOpIn
  simp only [ho]
  rw [if_pos (wantedA_sound hR ((wantedA_congr hag).trans hw))]
  refine ⟨fun _ _ => trivial, ?_⟩
  rw [show Oper.semAt z.F.round a.eval o = execOp a.eval o from Oper.semAt_eq _ _ _ (fun c e => by rw [hop] at e; cases e)]
  have hrun : (execOp a.eval o).run P w = .ok (.value v) w' := by
    have hm : (parts.map fun (p : Nat × Operand) => (p.1, a.eval p.2)) = (List.map (fun p => (p.1, a.eval p.2)) parts.toList).toArray := by
      apply Array.ext'; simp
    have : (fun (x : Nat × Operand) => match x with | (i, y) => (i, a.eval y)) = fun p => (p.1, a.eval p.2) := by funext ⟨_, _⟩; rfl
    unfold execOp
    rw [hop]
    simp only [this, hm, Sem.run_bind, hv, Result.andThen_ok, Sem.run_pure]
  rw [hrun]
  exact hK _ _ G' w' v ⟨rfl, rfl⟩ hE hS hav

end
end Go.Vm

namespace Go.Vm
open Go
set_option linter.unnecessarySimpa false
set_option linter.unusedSimpArgs false
set_option linter.unusedVariables false
section
variable {z : Zone} {P : Program} {N : Nat} {ρ : Nat → AV} {σ : St}

theorem learnD_sound {G : Gh} {w : World} (hS : RelS G w σ) {x : Value} {k g off sz n : Nat} {r : RowSt} (hx : AVR G w x (.row k g off sz n)) (hr : σ.rows[k]? = some r) (hg : r.gen = g) : ∃ s q, r.cells.length + s = off + q * sz ∧ n ≤ q ∧ RelS G w { σ with rows := σ.rows.set k { r with spare := some s } } := by
  obtain ⟨a, c, b, o, C, rfl, hnc, hk, hc1, hc2, h3, h4, h5⟩ := row_look hS hx hr hg
  obtain ⟨r0, h1, h2, h3', h4', h5'⟩ := hS.row k g b o C hk
  rw [hr] at h1; cases h1
  have hrt := row_turn hS (w' := w) (r' := { r with spare := some (C - r.cells.length) }) hk (.inl ⟨rfl, rfl, rfl⟩) (Nat.le_refl _) (Nat.le_refl _) h2 h3 (fun s hs => by cases hs; simp only; omega)
    (.inl ⟨rfl, fun hC c e hb j x a hx ha => by
      obtain ⟨c0, e0, g1, g2, g3, g4, g5⟩ := h5' hC
      rw [hb] at g1; cases g1
      exact g5 j x a hx ha⟩)
  rw [turnRow_self hk] at hrt
  exact ⟨C - r.cells.length, c, by omega, hnc, hrt.2⟩

theorem run_learnD {c : Code} {Q : Exit → (Nat → AV) → St → Prop} (d : Nat) {k g off sz n : Nat} {cells : List AV} {sp : Option Nat} (h : ρ d = .row k g off sz n := by first | rfl | (simp [F]; done) | (simp [F]; exact ⟨rfl, rfl, rfl⟩) | (simp [F]; exact ⟨rfl, rfl, rfl, rfl, rfl⟩)) (hr : σ.rows[k]? = some ⟨g, cells, sp⟩ := by first | rfl | (simp [F]; done) | (simp [F]; rfl) | (simp [F]; exact ⟨rfl, rfl⟩) | (simp [F]; exact ⟨rfl, rfl, rfl⟩))
    (kk : ∀ s q, cells.length + s = off + q * sz → n ≤ q → Run z P N c ρ { σ with rows := σ.rows.set k ⟨g, cells, some s⟩ } Q) : Run z P N c ρ σ Q := fun G w a R hR hK => by
  have hx := hR.env d
  rw [h] at hx
  obtain ⟨s, q, e1, e2, hS⟩ := learnD_sound hR.s hx hr rfl
  exact kk s q e1 e2 G w a R ⟨hS, hR.defers, hR.size, hR.env⟩ hK
end
end Go.Vm

namespace Go.Vm
open Go
set_option linter.unnecessarySimpa false
set_option linter.unusedSimpArgs false
set_option linter.unusedVariables false
section
variable {α : Type} (l r : List α) (i : Nat) (x a b c d e : α)
theorem get_sa0 : (l.set i x ++ a :: r)[l.length]? = some a := by rw [List.getElem?_append_right (by simp)]; simp
theorem get_sa1 : (l.set i x ++ a :: b :: r)[l.length + 1]? = some b := by rw [List.getElem?_append_right (by simp)]; simp
theorem get_sa2 : (l.set i x ++ a :: b :: c :: r)[l.length + 2]? = some c := by rw [List.getElem?_append_right (by simp)]; simp
theorem get_sa3 : (l.set i x ++ a :: b :: c :: d :: r)[l.length + 3]? = some d := by rw [List.getElem?_append_right (by simp)]; simp
theorem set_sa0 : (l.set i x ++ a :: r).set l.length e = l.set i x ++ e :: r := by rw [List.set_append_right _ _ (by simp)]; simp
theorem set_sa1 : (l.set i x ++ a :: b :: r).set (l.length + 1) e = l.set i x ++ a :: e :: r := by rw [List.set_append_right _ _ (by simp)]; simp
theorem set_sa2 : (l.set i x ++ a :: b :: c :: r).set (l.length + 2) e = l.set i x ++ a :: b :: e :: r := by rw [List.set_append_right _ _ (by simp)]; simp
theorem set_sa3 : (l.set i x ++ a :: b :: c :: d :: r).set (l.length + 3) e = l.set i x ++ a :: b :: c :: e :: r := by rw [List.set_append_right _ _ (by simp)]; simp
end

section
variable {P : Program} {σ : St}
theorem callsA_gcX {X : Type} {A : X → AV} {τ : X → St} {f : FuncId} {args : List AV} (k : CallsA P f args σ (fun av σ' => ∃ x, Wk av (A x) ∧ ∃ l m r, σ' = { τ x with objs := (τ x).objs ++ l, toks := (τ x).toks ++ m, rows := (τ x).rows ++ r }))
    (hA : ∀ x, (A x).under σ.bd = true) (h1 : ∀ x, (τ x).objs.length = σ.objs.length) (h2 : ∀ x, (τ x).toks.length = σ.toks.length) (h3 : ∀ x, (τ x).rows.length = σ.rows.length) (h4 : ∀ x, (τ x).gl = σ.gl)
    (h5 : ∀ x (id : Nat) cs, (τ x).objs[id]? = some cs → σ.objs[id]? = some cs ∨ underL σ.bd cs = true) (h6 : ∀ x (i : Nat) r, (τ x).rows[i]? = some r → (∃ r0, σ.rows[i]? = some r0 ∧ r0.cells = r.cells) ∨ underL σ.bd r.cells = true) :
    CallsA P f args σ (fun av σ' => ∃ x, av = A x ∧ σ' = τ x) := by
  refine callsA_gc k (fun av σ0 hq => ?_)
  obtain ⟨x, hw, l, m, r, rfl⟩ := hq
  refine ⟨A x, hw, hA x, by simp [h1 x], by simp [h2 x], by simp [h3 x], h4 x, fun id cs hid hc => h5 x id cs ?_, fun i r0 hi hr => h6 x i r0 ?_, x, rfl, ?_⟩
  · rw [← hc]; exact (List.getElem?_append_left (by rw [h1 x]; exact hid)).symm
  · rw [← hr]; exact (List.getElem?_append_left (by rw [h3 x]; exact hi)).symm
  · simp [St.trim, St.bd, ← h1 x, ← h2 x, ← h3 x]
end

theorem HasS.app {σ : St} {o k : Nat} {G : Sg} (h : HasS σ o k G) (l : List (List AV)) (m : List Nat) : HasS { σ with objs := σ.objs ++ l, toks := m } o k G :=
  ⟨by simp only; rw [List.getElem?_append_left (lt_of_get h.o)]; exact h.o, h.r1, h.r2, h.r3⟩
theorem byC_under (B : Bd) (p : List UInt8) : (byC p).under B = true := by simp [byC, AV.under, under_bytes]
theorem prsC_under (B : Bd) : ∀ l : List Pr, underL B (prsC l) = true
  | [] => rfl
  | p :: l => by
    have := prsC_under B l
    simp only [prsC, List.flatMap_cons, prC, List.cons_append, List.nil_append, underL, byC_under, Bool.true_and] at this ⊢
    exact this
theorem udC_under (B : Bd) (u : Ud) : underL B (udC u) = true := by simp [udC, underL, byC_under, AV.under]
theorem udsC_under (B : Bd) : ∀ l : List Ud, underL B (udsC l) = true
  | [] => rfl
  | p :: l => by
    have := udsC_under B l
    simp only [udsC, List.flatMap_cons, underL_append, udC_under, Bool.true_and] at this ⊢
    exact this
theorem mkC_under (B : Bd) : ∀ l : List Nat, underL B (mkC l) = true
  | [] => rfl
  | p :: l => by
    have := mkC_under B l
    simp only [mkC, List.map_cons, underL, AV.under, Bool.true_and] at this ⊢
    exact this
theorem stC_under {σ : St} {o k : Nat} {G : Sg} (h : HasS σ o k G) (G' : Sg) : underL σ.bd (stC k G') = true := by
  have h1 := lt_of_get h.r1
  have h2 := lt_of_get h.r2
  have h3 := lt_of_get h.r3
  simp [stC, underL, AV.under, St.bd, h1, h2, h3]
theorem putS_len {σ : St} {o k : Nat} (G : Sg) : (putS σ o k G).objs.length = σ.objs.length ∧ (putS σ o k G).toks.length = σ.toks.length ∧ (putS σ o k G).rows.length = σ.rows.length := by simp [putS]
theorem putS_o {σ : St} {o k : Nat} {G : Sg} (h : HasS σ o k G) (G' : Sg) (id : Nat) (cs : List AV) (hc : (putS σ o k G').objs[id]? = some cs) : σ.objs[id]? = some cs ∨ underL σ.bd cs = true :=
  ku_set (ku_refl _) (stC_under h G') id cs hc
theorem putS_r {σ : St} {o k : Nat} (G' : Sg) (i : Nat) (r : RowSt) (hc : (putS σ o k G').rows[i]? = some r) : (∃ r0, σ.rows[i]? = some r0 ∧ r0.cells = r.cells) ∨ underL σ.bd r.cells = true :=
  kur_set (kur_set (kur_set (kur_refl _) (prsC_under _ _)) (udsC_under _ _)) (mkC_under _ _) i r hc

theorem callsA_gcSt {P : Program} {σ : St} {X : Type} {A : X → AV} {T : X → Sg} {f : FuncId} {args : List AV} {o k : Nat} {G : Sg} (h : HasS σ o k G) (hA : ∀ x, (A x).under σ.bd = true)
    (kk : CallsA P f args σ (fun av σ' => ∃ x, Wk av (A x) ∧ ∃ l m r, σ' = { putS σ o k (T x) with objs := (putS σ o k (T x)).objs ++ l, toks := σ.toks ++ m, rows := (putS σ o k (T x)).rows ++ r })) :
    CallsA P f args σ (fun av σ' => ∃ x, av = A x ∧ σ' = putS σ o k (T x)) :=
  callsA_gcX (τ := fun x => putS σ o k (T x)) kk hA (fun x => (putS_len _).1) (fun _ => rfl) (fun x => (putS_len _).2.2) (fun _ => rfl) (fun x => putS_o h _) (fun x => putS_r _)
theorem putS_1 {σ : St} {o k : Nat} {G : Sg} (h : HasS σ o k G) (l : List Pr) (g : Nat) : putS σ o k ⟨⟨l, G.s.log, G.s.marks⟩, g, G.g2, G.g3⟩ = { σ with objs := σ.objs.set o [.row k g 0 2 l.length, .row (k + 1) G.g2 0 3 G.s.log.length, .row (k + 2) G.g3 0 1 G.s.marks.length], rows := σ.rows.set k ⟨g, prsC l, none⟩ } := by
  simp only [putS, stC, stR1]
  congr 1
  have e2 : stR2 ⟨⟨l, G.s.log, G.s.marks⟩, g, G.g2, G.g3⟩ = stR2 G := rfl
  have e3 : stR3 ⟨⟨l, G.s.log, G.s.marks⟩, g, G.g2, G.g3⟩ = stR3 G := rfl
  rw [e2, e3]
  rw [set_same' (l := σ.rows.set k _) (i := k + 1) (by rw [List.getElem?_set_ne (by omega)]; exact h.r2), set_same' (l := σ.rows.set k _) (i := k + 2) (by rw [List.getElem?_set_ne (by omega)]; exact h.r3)]
end Go.Vm

namespace Go.Vm
open Go
set_option linter.unnecessarySimpa false
set_option linter.unusedSimpArgs false
set_option linter.unusedVariables false
theorem putS_2 {σ : St} {o k : Nat} {G : Sg} (h : HasS σ o k G) (l : List Pr) (lg : List Ud) (g g' : Nat) : putS σ o k ⟨⟨l, lg, G.s.marks⟩, g, g', G.g3⟩ = { σ with objs := σ.objs.set o [.row k g 0 2 l.length, .row (k + 1) g' 0 3 lg.length, .row (k + 2) G.g3 0 1 G.s.marks.length], rows := (σ.rows.set k ⟨g, prsC l, none⟩).set (k + 1) ⟨g', udsC lg, none⟩ } := by
  simp only [putS, stC, stR1, stR2]
  congr 1
  have e3 : stR3 ⟨⟨l, lg, G.s.marks⟩, g, g', G.g3⟩ = stR3 G := rfl
  rw [e3]
  rw [set_same' (i := k + 2) (by rw [List.getElem?_set_ne (by omega), List.getElem?_set_ne (by omega)]; exact h.r3)]
theorem udsC_app (l m : List Ud) : udsC (l ++ m) = udsC l ++ udsC m := by simp [udsC]
theorem udsC_len (l : List Ud) : (udsC l).length = l.length * 3 := by
  induction l with
  | nil => rfl
  | cons p l ih => simp only [udsC, List.flatMap_cons, List.length_append, udC, List.length_cons, List.length_nil] at ih ⊢; omega
end Go.Vm

namespace Go.Vm
theorem drop_mr {α : Type} (n : Nat) (f : Nat → α) : List.drop n (List.map f (List.range n)) = [] := List.drop_of_length_le (by simp)
end Go.Vm

namespace Go.Vm
open Go
set_option linter.unnecessarySimpa false
set_option linter.unusedSimpArgs false
set_option linter.unusedVariables false
theorem binA_neqn {P : Program} {t : TypeId} (h : isPtrT P t = true) (xo yo : Operand) : binA P .neq t xo yo (.v (.pointer none)) (.v (.pointer none)) = some (.v (.bool false)) := by
  obtain ⟨el, hd⟩ : ∃ el, P.underlying t = some (.pointer el) := by
    unfold isPtrT at h
    split at h
    · exact ⟨_, by assumption⟩
    · cases h
  have key : ∀ n, pureRun P (Op.equalIn (n + 1) t (.pointer none) (.pointer none)) = some true := fun n => by
    unfold Op.equalIn
    rw [pureRun_bind, pureRun_under hd]
    rfl
  have e1 : eqGuard .neq t xo yo (.pointer none) (.pointer none) = pure () := rfl
  have e2 : binOp .neq t (.pointer none) (.pointer none) = (do pure (.bool (!(← Op.equal t (.pointer none) (.pointer none))))) := rfl
  have e3 : pureRun P (Op.equal t (.pointer none) (.pointer none)) = some true := key 9999
  simp only [binA, binOldA, plainOf, e1, e2]
  rw [pureRun_bind]
  show (match (match pureRun P (do pure (.bool (!(← Op.equal t (.pointer none) (.pointer none))))) with | some r => if plain r = true then some (AV.v r) else none | none => none) with | x => x) = _
  rw [pureRun_bind, e3]
  rfl

def lsZ (sz n : Nat) : Nat := if n = 0 then 0 else sz
def lsL (k n : Nat) : Tail := if n = 0 then .full else .own k
@[reducible] def lsA (k sz : Nat) (cs : List AV) (n : Nat) : AV := .sl (lsZ sz n) cs n (lsL k n)
def lsT (n : Nat) : List Nat := if n = 0 then [] else [n]
theorem lsA_nil (k sz : Nat) : lsA k sz [] 0 = .sl 0 [] 0 .full := rfl
theorem lsZ_nil (sz : Nat) : lsZ sz 0 = 0 := rfl
theorem lsL_nil (k : Nat) : lsL k 0 = .full := rfl
theorem lsT_nil : lsT 0 = [] := rfl
theorem lsA_wk {k sz n : Nat} {cs : List AV} (h : n = 0 → cs = []) : Wk (lsA k sz cs n) (.sl sz cs n .shut) := by
  by_cases h0 : n = 0
  · subst h0; rw [h rfl]; exact Wk.nil _ _ _
  · rw [lsA, lsZ, lsL, if_neg h0, if_neg h0]; exact Wk.shut _ _ _ _
theorem append_ls {P : Program} {t e : TypeId} {i : TI} {cs ys : List AV} {n m sz' : Nat} {tl : Tail} {objs : List (List AV)} {tk : List Nat} {gl : Nat → Option (List AV)} {rows : List RowSt}
    (ht : elemT P t = some e) (hi : ti P e = some i) (h0 : 0 < i.size) (hz : i.zero.cells.size = i.size) (hb : n = 0 → cs = []) (hs : sz' = i.size) (hm0 : 0 < m) (hr : (n + m) * i.bytes ≤ roomA) (hm : n + m ≤ maxLen) :
    appendA P t (lsA tk.length i.size cs n) (.sl sz' ys m tl) ⟨objs, tk ++ lsT n, gl, rows⟩ = some (lsA tk.length i.size (cs ++ ys) (n + m), ⟨objs, tk ++ lsT (n + m), gl, rows⟩) := by
  have hm1 : ¬ (n + m = 0) := by omega
  have hm2 : ¬ (m = 0) := by omega
  by_cases hn : n = 0
  · subst hn
    rw [hb rfl]
    simp only [Nat.zero_add] at hr hm hm1 ⊢
    simp [lsA, lsZ, lsL, lsT, appendA, readA, ht, hi, h0, hz, hs, hr, hm, hm1]
  · simp [lsA, lsZ, lsL, lsT, hn, hm1, hm2, appendA, readA, ht, hi, h0, hz, hs, hr, hm]
theorem gcO_ls {nb k sz n : Nat} {cs : List AV} (h : noObjL nb cs = true) : AV.gcO nb (lsA k sz cs n) = lsA k sz cs n := by
  simp [AV.gcO, h]
theorem noObj_ls {nb k sz n : Nat} {cs : List AV} (h : noObjL nb cs = true) : AV.noObj nb (lsA k sz cs n) = true := by
  simp [AV.noObj, h]
theorem byC_noObj (nb : Nat) (p : List UInt8) : (byC p).noObj nb = true := by
  have : ∀ q : List UInt8, noObjL nb (bytesA q) = true := fun q => by
    induction q with
    | nil => rfl
    | cons a q ih => simp only [bytesA, List.map_cons, noObjL, AV.noObj, Bool.true_and] at ih ⊢; exact ih
  simp [byC, AV.noObj, this]
theorem bytes_noObj (nb : Nat) : ∀ q : List UInt8, noObjL nb (bytesA q) = true
  | [] => rfl
  | a :: q => by
    have ih := bytes_noObj nb q
    simp only [bytesA, List.map_cons, noObjL, AV.noObj, Bool.true_and] at ih ⊢; exact ih
theorem kysC_noObj (nb : Nat) : ∀ l : List (List UInt8), noObjL nb (kysC l) = true
  | [] => rfl
  | a :: l => by
    have ih := kysC_noObj nb l
    simp only [kysC, List.map_cons, noObjL, byC_noObj, Bool.true_and] at ih ⊢; exact ih
theorem kysC_under (B : Bd) : ∀ l : List (List UInt8), underL B (kysC l) = true
  | [] => rfl
  | a :: l => by
    have ih := kysC_under B l
    simp only [kysC, List.map_cons, underL, byC_under, Bool.true_and] at ih ⊢; exact ih
theorem kysC_app (l m : List (List UInt8)) : kysC (l ++ m) = kysC l ++ kysC m := by simp [kysC]
theorem kysC_len (l : List (List UInt8)) : (kysC l).length = l.length := by simp [kysC]
end Go.Vm

namespace Go.Vm
open Go
set_option linter.unnecessarySimpa false
set_option linter.unusedSimpArgs false
set_option linter.unusedVariables false
def newSg : Sg := ⟨⟨[], [], []⟩, 0, 0, 0⟩
theorem callsA_new_st {P : Program} {σ : St} {f : FuncId} {args : List AV} (k : CallsA P f args σ (fun av σ' => av = .ptr σ.objs.length 0 ∧ σ' = { σ with objs := σ.objs ++ [[.sl 0 [] 0 .full, .sl 0 [] 0 .full, .sl 0 [] 0 .full]] })) :
    CallsA P f args σ (fun av σ' => av = .ptr σ.objs.length 0 ∧ σ' = { σ with objs := σ.objs ++ [stC σ.rows.length newSg], rows := σ.rows ++ [stR1 newSg, stR2 newSg, stR3 newSg] }) := by
  refine callsA_turn k (fun G' w' v av σ0 hq hS hv => ?_)
  obtain ⟨rfl, rfl⟩ := hq
  have q1 : (σ.objs ++ [[AV.sl 0 [] 0 .full, .sl 0 [] 0 .full, .sl 0 [] 0 .full]])[σ.objs.length]? = some [AV.sl 0 [] 0 .full, .sl 0 [] 0 .full, .sl 0 [] 0 .full] := by simp
  have q2 := set_self_of q1
  obtain ⟨G1, e1, s1⟩ := nilcell_sound (id := σ.objs.length) (j := 0) (sz := 2) (s := 0) hS q1 rfl
  obtain ⟨G2, e2, s2⟩ := nilcell_sound (id := σ.objs.length) (j := 1) (sz := 3) (s := 0) s1 (q2 _) rfl
  obtain ⟨G3, e3, s3⟩ := nilcell_sound (id := σ.objs.length) (j := 2) (sz := 1) (s := 0) s2 (set_self_of (q2 _) _) rfl
  refine ⟨G3, _, _, e1.trans (e2.trans e3), s3, ((hv.mono e1).mono e2).mono e3, rfl, ?_⟩; simp [stC, newSg, stR1, stR2, stR3, prsC, udsC, mkC]

end Go.Vm

namespace Go.Vm
open Go
set_option linter.unnecessarySimpa false
set_option linter.unusedSimpArgs false
set_option linter.unusedVariables false
section
variable {z : Zone} {P : Program} {N : Nat} {ρ : Nat → AV} {σ : St}
end

end Go.Vm

namespace Go.Vm
open Go
set_option linter.unnecessarySimpa false
set_option linter.unusedSimpArgs false
set_option linter.unusedVariables false
theorem prsC_noObj (nb : Nat) : ∀ l : List Pr, noObjL nb (prsC l) = true
  | [] => rfl
  | p :: l => by
    have ih := prsC_noObj nb l
    simp only [prsC, List.flatMap_cons, prC, List.cons_append, List.nil_append, noObjL, byC_noObj, Bool.true_and] at ih ⊢
    exact ih
theorem udC_noObj (nb : Nat) (u : Ud) : noObjL nb (udC u) = true := by simp [udC, noObjL, byC_noObj, AV.noObj]
theorem udsC_noObj (nb : Nat) : ∀ l : List Ud, noObjL nb (udsC l) = true
  | [] => rfl
  | p :: l => by
    have ih := udsC_noObj nb l
    simp only [udsC, List.flatMap_cons, noObjL_append, udC_noObj, Bool.true_and] at ih ⊢
    exact ih
theorem mkC_noObj (nb : Nat) : ∀ l : List Nat, noObjL nb (mkC l) = true
  | [] => rfl
  | p :: l => by
    have ih := mkC_noObj nb l
    simp only [mkC, List.map_cons, noObjL, AV.noObj, Bool.true_and] at ih ⊢
    exact ih
end Go.Vm

namespace Go.Vm
open Go
set_option linter.unnecessarySimpa false
set_option linter.unusedSimpArgs false
set_option linter.unusedVariables false
section
variable {z : Zone} {P : Program} {N : Nat} {ρ : Nat → AV} {σ : St} {ops : Array Oper} {rest : List Oper} {o : Oper} {K : (Nat → AV) → St → Prop}
end
end Go.Vm

namespace Go.Vm
open Go
set_option linter.unnecessarySimpa false
set_option linter.unusedSimpArgs false
set_option linter.unusedVariables false
end Go.Vm

namespace Go.Vm
open Go
set_option linter.unnecessarySimpa false
set_option linter.unusedSimpArgs false
set_option linter.unusedVariables false
section
variable {z : Zone} {P : Program} {N : Nat} {ρ : Nat → AV} {σ : St} {ops : Array Oper} {rest : List Oper} {o o2 : Oper} {K : (Nat → AV) → St → Prop}

end
end Go.Vm

namespace Go.Vm
open Go
set_option linter.unnecessarySimpa false
set_option linter.unusedSimpArgs false
set_option linter.unusedVariables false
section
variable {z : Zone} {P : Program} {N : Nat} {ρ : Nat → AV} {σ : St}
theorem run_wkS {c : Code} {Q : Exit → (Nat → AV) → St → Prop} {σ1 : St} (h : WkS σ σ1) (k : Run z P N c ρ σ1 Q) : Run z P N c ρ σ Q := fun G w a R hR hK =>
  k G w a R ⟨hR.s.wk h, hR.defers, hR.size, hR.env⟩ hK
end
def St1 (σ : St) (G : Sg) : St := { σ with objs := σ.objs ++ [stC σ.rows.length G], rows := σ.rows ++ [stR1 G, stR2 G, stR3 G] }
theorem St1.has (σ : St) (G : Sg) : HasS (St1 σ G) σ.objs.length σ.rows.length G := ⟨by simp [St1], by simp [St1], by simp [St1], by simp [St1]⟩
theorem St1.put (σ : St) (G G' : Sg) : putS (St1 σ G) σ.objs.length σ.rows.length G' = St1 σ G' := by simp [St1, putS]
theorem newSg_ok : newSg.s.Ok 0 := ⟨by simp [newSg, Srt], by simp [newSg], by simp [newSg], by simp [newSg], by simp [newSg], by simp [newSg], by simp [newSg]⟩
end Go.Vm
