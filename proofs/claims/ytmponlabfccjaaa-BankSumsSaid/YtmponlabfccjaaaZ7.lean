import Derived.Test.YtmponlabfccjaaaZ6
import Derived.OpenShut
/-
  What comes in: any plain data, told by lists.
-/
namespace Go.Vm
set_option linter.unnecessarySimpa false
set_option linter.unusedSimpArgs false
set_option linter.unusedVariables false
open Go

def leavesF (go : TypeId → Option (List TypeId)) : List Field → List TypeId → Option (List TypeId)
  | [], acc => some acc
  | f :: fs, acc => if f.offset = acc.length then match go f.type with
      | some l => leavesF go fs (acc ++ l)
      | none => none
    else none

def leaves (P : Program) : Nat → TypeId → Option (List TypeId)
  | 0, _ => none
  | n + 1, t => match P.underlying t with
    | some .bool => some [t]
    | some (.int _) => some [t]
    | some .string => some [t]
    | some (.slice e) => match leaves P n e with
      | some l => if 0 < l.length then some [t] else none
      | none => none
    | some (.struct fs) => match leavesF (leaves P n) fs.toList [] with
      | some l => if P.cellsOf t = l.length then some l else none
      | none => none
    | some (.array k e) => match leaves P n e with
      | some l => if P.cellsOf t = k * l.length ∧ P.cellsOf e = l.length then some (List.replicate k l).flatten else none
      | none => none
    | _ => none

inductive WC (P : Program) : TypeId → AV → Prop
  | bool {t : TypeId} {b : Bool} (h : P.underlying t = some .bool) : WC P t (.v (.bool b))
  | int {t : TypeId} {k : IntKind} {n : Int} (h : P.underlying t = some (.int k)) (hw : (Lit.int k n).wf = true) : WC P t (.v (.int k n))
  | string {t : TypeId} {s : ByteArray} (h : P.underlying t = some .string) (hs : s.size ≤ maxLen) : WC P t (.v (.string s))
  | slice {t e : TypeId} {fuel : Nat} {ls : List TypeId} {cs : List AV} {n : Nat} (h : P.underlying t = some (.slice e)) (hls : leaves P fuel e = some ls) (hl : cs.length = n * ls.length) (hn : n ≤ maxLen)
      (hc : ∀ (j : Nat) a u, cs[j]? = some a → ls[j % ls.length]? = some u → WC P u a) : WC P t (.sl ls.length cs n .shut)

theorem choose_list {p : Nat → Value → AV → Prop} (n : Nat) (h : ∀ j, j < n → ∃ x a, p j x a) : ∃ (xs : List Value) (as9 : List AV), xs.length = n ∧ as9.length = n ∧ ∀ (j : Nat) x a, xs[j]? = some x → as9[j]? = some a → p j x a := by
  induction n with
  | zero => exact ⟨[], [], rfl, rfl, by simp⟩
  | succ n ih =>
    obtain ⟨xs, as9, h1, h2, h3⟩ := ih (fun j hj => h j (by omega))
    obtain ⟨x, a, hp⟩ := h n (by omega)
    refine ⟨xs ++ [x], as9 ++ [a], by simp [h1], by simp [h2], fun j y b hy hb => ?_⟩
    by_cases hj : j < n
    · rw [List.getElem?_append_left (by omega)] at hy hb
      exact h3 j y b hy hb
    · by_cases hj2 : j = n
      · subst hj2
        rw [List.getElem?_append_right (by omega)] at hy hb
        simp [h1] at hy
        simp [h2] at hb
        subst hy; subst hb; exact hp
      · rw [List.getElem?_append_right (by omega), h1] at hy
        rw [List.getElem?_eq_none (by simp; omega)] at hy; cases hy

theorem flatten_get {l : List TypeId} {k j : Nat} {u : TypeId} (h : (List.replicate k l).flatten[j]? = some u) : l[j % l.length]? = some u ∧ j < k * l.length := by
  induction k generalizing j with
  | zero => simp at h
  | succ k ih =>
    rw [List.replicate_succ, List.flatten_cons] at h
    by_cases hj : j < l.length
    · rw [List.getElem?_append_left hj] at h
      rw [Nat.mod_eq_of_lt hj]
      exact ⟨h, by rw [Nat.add_mul]; omega⟩
    · rw [List.getElem?_append_right (by omega)] at h
      obtain ⟨h1, h2⟩ := ih h
      refine ⟨?_, by rw [Nat.add_mul]; omega⟩
      rw [Nat.mod_eq_sub_mod (by omega)]; exact h1

section
variable {H : Type} {enc : TypeId × Value → H} {P : Program} {G : Gh} {W : World} {spare : Nat → Bool}

def Good (P : Program) (G : Gh) (W : World) (x : Value) (u : TypeId) : Prop := ∃ a, AVR G W x a ∧ WC P u a ∧ x.oneCell' = true

theorem leavesF_good (go : TypeId → Option (List TypeId)) (cs : List Value) : ∀ (fs : List Field) (acc out : List TypeId), leavesF go fs acc = some out →
    (∀ f ∈ fs, ∀ l, go f.type = some l → ∀ r x u, cs[f.offset + r]? = some x → l[r]? = some u → Good P G W x u) →
    (∀ (j : Nat) x u, cs[j]? = some x → acc[j]? = some u → Good P G W x u) → ∀ (j : Nat) x u, cs[j]? = some x → out[j]? = some u → Good P G W x u
  | [], acc, out, h, _, ha => by simp [leavesF] at h; subst h; exact ha
  | f :: fs, acc, out, h, hf, ha => by
    unfold leavesF at h
    split at h
    · rename_i ho
      split at h
      · rename_i l hl
        refine leavesF_good go cs fs (acc ++ l) out h (fun g hg => hf g (List.mem_cons_of_mem _ hg)) (fun j x u hx hu => ?_)
        by_cases hj : j < acc.length
        · rw [List.getElem?_append_left hj] at hu
          exact ha j x u hx hu
        · rw [List.getElem?_append_right (by omega)] at hu
          refine hf f (by simp) l hl (j - acc.length) x u ?_ hu
          rw [ho, show acc.length + (j - acc.length) = j by omega]; exact hx
      · cases h
    · cases h

theorem cells_get {a : Addr} {base n : Nat} {cs : List Value} (h : W.cells? base a n = some cs) : cs.length = n ∧ ∀ r, r < n → ∃ x, cs[r]? = some x ∧ W.cell? (a.add r) = some x := by
  unfold World.cells? at h
  split at h
  · have hl := mapM_some_length h
    refine ⟨by simpa using hl, fun r hr => ?_⟩
    have := mapM_some_get h r r (by simp [hr])
    have hlt : r < cs.length := by rw [hl]; simpa using hr
    exact ⟨cs[r], List.getElem?_eq_getElem hlt, by rw [this]; exact List.getElem?_eq_getElem hlt⟩
  · cases h

theorem open_cells (hG : ∀ b o, b < W.heap.size → G.tag b o = .fixd) : ∀ (n : Nat) (t : TypeId) (ls : List TypeId), leaves P n t = some ls → ∀ (fuel : Nat) (cs : List Value) (x : DataW H × List MemPlace), DataW.trod enc P W 0 spare true fuel t cs = some x →
    cs.length = ls.length ∧ ∀ (j : Nat) y u, cs[j]? = some y → ls[j]? = some u → Good P G W y u := by
  intro n
  induction n with
  | zero => intro t ls h; simp [leaves] at h
  | succ n ih =>
    intro t ls h fuel cs x hx
    have one : ∀ y, cs = [y] → ls = [t] → Good P G W y t → cs.length = ls.length ∧ ∀ (j : Nat) y u, cs[j]? = some y → ls[j]? = some u → Good P G W y u := by
      intro y e1 e2 hg
      subst e1; subst e2
      refine ⟨rfl, fun j z u hz hu => ?_⟩
      match j with
      | 0 => simp at hz hu; subst hz; subst hu; exact hg
      | j + 1 => simp at hz
    unfold leaves at h
    split at h
    · rename_i hu
      cases h
      obtain ⟨b, rfl, _⟩ := DataW.trod_bool hu hx
      exact one _ rfl rfl ⟨.v (.bool b), .v rfl, .bool hu, rfl⟩
    · rename_i k hu
      cases h
      obtain ⟨m, rfl, _, hw⟩ := DataW.trod_int hu hx
      exact one _ rfl rfl ⟨.v (.int k m), .v rfl, .int hu hw, rfl⟩
    · rename_i hu
      cases h
      obtain ⟨s, rfl, _, hs⟩ := DataW.trod_string hu hx
      exact one _ rfl rfl ⟨.v (.string s), .v rfl, .string hu hs, rfl⟩
    · rename_i e hu
      split at h
      case h_2 => cases h
      rename_i l hl
      split at h
      case isFalse => cases h
      rename_i hpos
      cases h
      rcases DataW.trod_slice hu hx with ⟨rfl, _⟩ | ⟨a, len, cap, elems, rest, m, _, rfl, _, _, hlc, hcm, hel, hat, _⟩
      · exact one _ rfl rfl ⟨.sl l.length [] 0 .shut, .sl0 trivial, .slice hu hl (by simp) (by simp [maxLen]) (by simp), rfl⟩
      · refine one _ rfl rfl ?_
        by_cases hlen : len = 0
        · subst hlen
          exact ⟨.sl l.length [] 0 .shut, .sl0 trivial, .slice hu hl (by simp) (by simp [maxLen]) (by simp), rfl⟩
        have hcell : ∀ i, i < len → ∃ csi, W.cells? 0 (a.add (i * P.cellsOf e)) (P.cellsOf e) = some csi ∧ csi.length = l.length ∧ ∀ (j : Nat) y u, csi[j]? = some y → l[j]? = some u → Good P G W y u := by
          intro i hi
          have h1 := hat i hi
          have hlt : i < elems.length := by omega
          rw [List.getElem?_eq_getElem hlt] at h1
          cases hc : W.cells? 0 (a.add (i * P.cellsOf e)) (P.cellsOf e) with
          | none => rw [hc] at h1; simp at h1
          | some csi =>
            rw [hc] at h1
            simp only [Option.bind_some] at h1
            obtain ⟨h2, h3⟩ := ih e l hl m csi _ h1
            exact ⟨csi, rfl, h2, h3⟩
        have hsz : P.cellsOf e = l.length := by
          obtain ⟨c0, h0, h1, _⟩ := hcell 0 (by omega)
          have := (cells_get h0).1; omega
        obtain ⟨b, o, rfl⟩ : ∃ b o, a = ⟨b, o, none⟩ := by
          obtain ⟨c0, h0, h1, _⟩ := hcell 0 (by omega)
          obtain ⟨y, _, hy⟩ := (cells_get h0).2 0 (by omega)
          rw [Nat.zero_mul] at hy
          simp only [Addr.add, if_true] at hy
          obtain ⟨b, o, sp⟩ := a
          cases sp with
          | none => exact ⟨b, o, rfl⟩
          | some s =>
            unfold World.cell? at hy
            split at hy
            · simp at hy
            · cases hy
        have hall : ∀ j, j < len * l.length → ∃ y av, W.cell? ⟨b, o + j, none⟩ = some y ∧ y.oneCell' = true ∧ AVR G W y av ∧ ∀ u, l[j % l.length]? = some u → WC P u av := by
          intro j hj
          have hdiv : j / l.length < len := by rw [Nat.div_lt_iff_lt_mul hpos]; exact hj
          obtain ⟨csi, h0, h1, h2⟩ := hcell (j / l.length) hdiv
          have hmod : j % l.length < l.length := Nat.mod_lt _ hpos
          obtain ⟨y, hy, hc⟩ := (cells_get h0).2 (j % l.length) (by rw [hsz]; exact hmod)
          rw [add_at, add_at, hsz] at hc
          have e1 : o + j / l.length * l.length + j % l.length = o + j := by
            rw [Nat.add_assoc, Nat.mul_comm, Nat.div_add_mod]
          rw [e1] at hc
          obtain ⟨av, hav, hwc, ho⟩ := h2 _ y _ hy (List.getElem?_eq_getElem hmod)
          refine ⟨y, av, hc, ho, hav, fun u hu => ?_⟩
          rw [List.getElem?_eq_getElem hmod] at hu
          cases hu; exact hwc
        obtain ⟨xs, as9, hxs, has, hp⟩ := choose_list (len * l.length) hall
        have hblk : b < W.heap.size := by
          obtain ⟨y, _, hy, _⟩ := hall 0 (Nat.mul_pos (by omega) hpos)
          exact World.block_lt_of_cell? W _ hy
        refine ⟨.sl l.length as9 len .shut, ?_, .slice hu hl has (by omega) (fun j av u ha hu => ?_), rfl⟩
        · refine .sl xs (by omega) has hlc (fun j _ => hG b _ hblk) (fun j y hy => ?_) (fun j y av hy ha => (hp j y av hy ha).2.2.1) trivial
          have hlt : j < as9.length := by have := (List.getElem?_eq_some_iff.1 hy).1; omega
          have := hp j y _ hy (List.getElem?_eq_getElem hlt)
          exact ⟨this.1, this.2.1⟩
        · have hlt : j < xs.length := by have := (List.getElem?_eq_some_iff.1 ha).1; omega
          exact (hp j _ av (List.getElem?_eq_getElem hlt) ha).2.2.2 u hu
    · rename_i fs hu
      split at h
      case h_2 => cases h
      rename_i l hl
      split at h
      case isFalse => cases h
      rename_i hsz
      cases h
      obtain ⟨xs, m, _, _, hcl, hxl, hat⟩ := DataW.trod_struct hu hx
      refine ⟨by omega, leavesF_good (leaves P n) cs fs.toList [] ls hl (fun f hf l' hl' r y u hy hu' => ?_) (fun j y u _ hu' => by simp at hu')⟩
      obtain ⟨i, hi, rfl⟩ := List.getElem_of_mem hf
      have hi' : i < fs.size := by simpa using hi
      have h1 := hat i fs[i] (by simp [hi'])
      have hlt : i < xs.length := by omega
      rw [List.getElem?_eq_getElem hlt] at h1
      have e0 : fs.toList[i] = fs[i] := by simp
      rw [e0] at hl' hy
      obtain ⟨h2, h3⟩ := ih fs[i].type l' hl' m _ _ h1
      refine h3 r y u ?_ hu'
      have hr : r < l'.length := (List.getElem?_eq_some_iff.1 hu').1
      have hr2 : r < P.cellsOf fs[i].type := by
        rw [← h2] at hr
        rw [List.length_take] at hr
        omega
      rw [List.getElem?_take, if_pos hr2, List.getElem?_drop]; exact hy
    · rename_i k e hu
      split at h
      case h_2 => cases h
      rename_i l hl
      split at h
      case isFalse => cases h
      rename_i hsz
      obtain ⟨hsz, hce⟩ := hsz
      cases h
      obtain ⟨xs, m, _, _, hcl, hxl, hat⟩ := DataW.trod_array hu hx
      refine ⟨by simp; omega, fun j y u hy hu' => ?_⟩
      obtain ⟨h1, h2⟩ := flatten_get hu'
      have hpos : 0 < l.length := by
        apply Nat.pos_of_ne_zero
        intro h0
        rw [h0] at h2; simp at h2
      have hdiv : j / l.length < k := by rw [Nat.div_lt_iff_lt_mul hpos]; exact h2
      have h3 := hat (j / l.length) hdiv
      have hlt : j / l.length < xs.length := by rw [hxl]; exact hdiv
      rw [List.getElem?_eq_getElem hlt] at h3
      obtain ⟨h4, h5⟩ := ih e l hl m _ _ h3
      have hmod : j % l.length < l.length := Nat.mod_lt _ hpos
      refine h5 (j % l.length) y u ?_ h1
      rw [List.getElem?_take, hce, if_pos hmod, List.getElem?_drop, Nat.mul_comm, Nat.div_add_mod]; exact hy
    · cases h

def atFirst (W : World) : Gh := { tag := fun b _ => if b < W.heap.size then .fixd else .no, pl := fun _ => none, tl := fun _ => none, rw := fun _ => none, base := 0 }

def noSt : St := { objs := [], toks := [], gl := fun _ => none, rows := [] }

theorem atFirst_rel (W : World) : RelS (atFirst W) W noSt :=
  ⟨fun id b h => (by cases h), fun i j b h => (by cases h), fun k m b lo hi h => (by cases h), fun b o h => by simp [atFirst]; omega, fun g cs h => (by cases h), fun id h => (by simp [noSt] at h), fun k h => (by simp [noSt] at h), fun k gc b o C h => (by cases h), fun k h => (by simp [noSt] at h)⟩

theorem open_arg {n : Nat} {t : TypeId} {ls : List TypeId} (hl : leaves P n t = some ls) {v : Value} {d : DataW H} {ps : List MemPlace} (h : DataW.Trod enc P W 0 spare true t v d ps) :
    ∃ as9 : List AV, as9.length = ls.length ∧ v.cells.size = as9.length ∧ (∀ (j : Nat) y a, v.cells[j]? = some y → as9[j]? = some a → AVR (atFirst W) W y a) ∧ ∀ (j : Nat) a u, as9[j]? = some a → ls[j]? = some u → WC P u a := by
  obtain ⟨fuel, hf⟩ := h
  obtain ⟨h1, h2⟩ := open_cells (P := P) (G := atFirst W) (W := W) (fun b o hb => by simp [atFirst, hb]) n t ls hl fuel _ _ hf
  have h3 : ∀ j, j < ls.length → ∃ x a, v.cells[j]? = some x ∧ AVR (atFirst W) W x a ∧ ∀ u, ls[j]? = some u → WC P u a := by
    intro j hj
    have hj2 : j < v.cells.size := by rw [← h1] at hj; simpa using hj
    obtain ⟨a, ha, hw, _⟩ := h2 j v.cells[j] ls[j] (by simp [hj2]) (List.getElem?_eq_getElem hj)
    exact ⟨_, a, Array.getElem?_eq_getElem hj2, ha, fun u hu => by rw [List.getElem?_eq_getElem hj] at hu; cases hu; exact hw⟩
  obtain ⟨xs, as9, hx, ha, hp⟩ := choose_list ls.length h3
  refine ⟨as9, ha, by rw [ha, ← h1]; simp, fun j y a hy haj => ?_, fun j a u haj hu => ?_⟩
  · have hlt : j < xs.length := by have := (List.getElem?_eq_some_iff.1 haj).1; omega
    have := hp j xs[j] a (List.getElem?_eq_getElem hlt) haj
    rw [hy] at this
    rw [Option.some.inj this.1]; exact this.2.1
  · have hlt : j < xs.length := by have := (List.getElem?_eq_some_iff.1 haj).1; omega
    exact (hp j xs[j] a (List.getElem?_eq_getElem hlt) haj).2.2 u hu

theorem ext_below {G' : Gh} {W' : World} (h : Ext (atFirst W) W G' W') : RowKit.Below W.heap.size W W' := by
  refine ⟨h.os, h.tape, h.output, h.size, fun k hk => ?_⟩
  have hk' : W.heap[k]? = some W.heap[k] := Array.getElem?_eq_getElem hk
  by_cases hc : ∃ c e fr, W.heap[k] = .cells c e fr
  · obtain ⟨c, e, fr, he⟩ := hc
    rw [he] at hk'
    obtain ⟨c', h1, h2, h3⟩ := h.blk k c e fr hk'
    rw [hk', h1]
    have : c' = c := by
      apply Array.ext h2
      intro i hi1 hi2
      have := h3 i (.inr (by simp [atFirst, hk]))
      rw [Array.getElem?_eq_getElem hi1, Array.getElem?_eq_getElem hi2] at this
      exact Option.some.inj this
    rw [this]
  · rw [hk']
    exact h.oth k _ hk' (fun c e fr he => hc ⟨c, e, fr, he⟩)

end
theorem bytesA_get {l : List UInt8} {k : Nat} (h : k < l.length) : (bytesA l)[k]? = some (.v (.int .u8 l[k].toNat)) := by simp [bytesA, h]

@[simp] theorem bytesA_getElem {l : List UInt8} {k : Nat} (h : k < (bytesA l).length) : (bytesA l)[k] = .v (.int .u8 (l[k]'(by simpa using h)).toNat) := by simp [bytesA]
@[simp] theorem bytesA_nil : bytesA [] = [] := rfl

theorem under_bytes (B : Bd) : ∀ p : List UInt8, underL B (bytesA p) = true
  | [] => rfl
  | b :: p => by
    have := under_bytes B p
    simp only [bytesA, List.map_cons, underL, AV.under, Bool.true_and] at this ⊢
    exact this

@[simp] theorem bits_u64 : IntKind.u64.bits = 64 := rfl
@[simp] theorem bits_u32 : IntKind.u32.bits = 32 := rfl
@[simp] theorem bits_u16 : IntKind.u16.bits = 16 := rfl
@[simp] theorem bits_u8 : IntKind.u8.bits = 8 := rfl
@[simp] theorem bits_i64 : IntKind.i64.bits = 64 := rfl

theorem bytesA_take (l : List UInt8) (k : Nat) : (bytesA l).take k = bytesA (l.take k) := by simp [bytesA]
theorem bytesA_append (l m : List UInt8) : bytesA l ++ bytesA m = bytesA (l ++ m) := by simp [bytesA]

section lists
variable {α : Type} (l r : List α) (x y z u v : α)
@[simp] theorem get_app0 : (l ++ x :: r)[l.length]? = some x := by simp
@[simp] theorem get_app1 : (l ++ x :: y :: r)[l.length + 1]? = some y := by simp
@[simp] theorem get_app2 : (l ++ x :: y :: z :: r)[l.length + 2]? = some z := by simp
@[simp] theorem get_app3 : (l ++ x :: y :: z :: u :: r)[l.length + 3]? = some u := by simp
@[simp] theorem get_app1' : (l ++ x :: y :: r)[l.length + (0 + 1)]? = some y := by simp
@[simp] theorem get_app2' : (l ++ x :: y :: z :: r)[l.length + (1 + 1)]? = some z := by simp
@[simp] theorem get_app2'' : (l ++ x :: y :: z :: r)[l.length + 1 + 1]? = some z := by simp [Nat.add_assoc]
@[simp] theorem get_app3' : (l ++ x :: y :: z :: u :: r)[l.length + (2 + 1)]? = some u := by simp
@[simp] theorem get_app3'' : (l ++ x :: y :: z :: u :: r)[l.length + 1 + 1 + 1]? = some u := by simp [Nat.add_assoc]
@[simp] theorem set_app0 : (l ++ x :: r).set l.length v = l ++ v :: r := by simp
@[simp] theorem set_app1 : (l ++ x :: y :: r).set (l.length + 1) v = l ++ x :: v :: r := by simp [List.set_append]
@[simp] theorem set_app2 : (l ++ x :: y :: z :: r).set (l.length + 2) v = l ++ x :: y :: v :: r := by simp [List.set_append]
@[simp] theorem set_app3 : (l ++ x :: y :: z :: u :: r).set (l.length + 3) v = l ++ x :: y :: z :: v :: r := by simp [List.set_append]
@[simp] theorem set_app2'' : (l ++ x :: y :: z :: r).set (l.length + 1 + 1) v = l ++ x :: y :: v :: r := by simp [List.set_append, Nat.add_assoc]
@[simp] theorem set_app3'' : (l ++ x :: y :: z :: u :: r).set (l.length + 1 + 1 + 1) v = l ++ x :: y :: z :: v :: r := by simp [List.set_append, Nat.add_assoc]
@[simp] theorem get_sapp0 (i : Nat) : (l.set i v ++ x :: r)[l.length]? = some x := by simp
@[simp] theorem get_sapp1 (i : Nat) : (l.set i v ++ x :: y :: r)[l.length + 1]? = some y := by simp
@[simp] theorem get_sapp2 (i : Nat) : (l.set i v ++ x :: y :: z :: r)[l.length + 2]? = some z := by simp
@[simp] theorem set_sapp0 (i : Nat) : (l.set i v ++ x :: r).set l.length u = l.set i v ++ u :: r := by simp [List.set_append]
@[simp] theorem set_sapp1 (i : Nat) : (l.set i v ++ x :: y :: r).set (l.length + 1) u = l.set i v ++ x :: u :: r := by simp [List.set_append]
@[simp] theorem set_sapp2 (i : Nat) : (l.set i v ++ x :: y :: z :: r).set (l.length + 2) u = l.set i v ++ x :: y :: u :: r := by simp [List.set_append]
end lists

def be (l : List UInt8) : Nat := l.foldl (fun x b => x * 256 + b.toNat) 0

@[simp] theorem be_nil : be [] = 0 := rfl
theorem be_snoc (l : List UInt8) (b : UInt8) : be (l ++ [b]) = be l * 256 + b.toNat := by simp [be]

theorem snoc_ind {α : Type} {p : List α → Prop} (h0 : p []) (hs : ∀ l a, p l → p (l ++ [a])) (l : List α) : p l := by
  have key : ∀ m : List α, p m.reverse := by
    intro m
    induction m with
    | nil => exact h0
    | cons a m ih => rw [List.reverse_cons]; exact hs _ _ ih
  have := key l.reverse
  rwa [List.reverse_reverse] at this

theorem be_lt (l : List UInt8) : be l < 256 ^ l.length := by
  induction l using snoc_ind with
  | h0 => simp [be]
  | hs l b ih =>
    rw [be_snoc, List.length_append, List.length_singleton, Nat.pow_succ]
    have := b.toNat_lt
    omega

theorem wrap_u64 (n : Nat) : IntKind.u64.wrap (n : Int) = ((n % 18446744073709551616 : Nat) : Int) := by
  show (if (false && decide ((n : Int) % 2 ^ 64 ≥ 2 ^ (64 - 1))) = true then (n : Int) % 2 ^ 64 - 2 ^ 64 else (n : Int) % 2 ^ 64) = _
  simp only [Bool.false_and, Bool.false_eq_true, if_false]
  omega

theorem wrap_u32 (n : Nat) : IntKind.u32.wrap (n : Int) = ((n % 4294967296 : Nat) : Int) := by
  show (if (false && decide ((n : Int) % 2 ^ 32 ≥ 2 ^ (32 - 1))) = true then (n : Int) % 2 ^ 32 - 2 ^ 32 else (n : Int) % 2 ^ 32) = _
  simp only [Bool.false_and, Bool.false_eq_true, if_false]
  omega

theorem wrap_u16 (n : Nat) : IntKind.u16.wrap (n : Int) = ((n % 65536 : Nat) : Int) := by
  show (if (false && decide ((n : Int) % 2 ^ 16 ≥ 2 ^ (16 - 1))) = true then (n : Int) % 2 ^ 16 - 2 ^ 16 else (n : Int) % 2 ^ 16) = _
  simp only [Bool.false_and, Bool.false_eq_true, if_false]
  omega

theorem wrap_u8 (n : Nat) : IntKind.u8.wrap (n : Int) = ((n % 256 : Nat) : Int) := by
  show (if (false && decide ((n : Int) % 2 ^ 8 ≥ 2 ^ (8 - 1))) = true then (n : Int) % 2 ^ 8 - 2 ^ 8 else (n : Int) % 2 ^ 8) = _
  simp only [Bool.false_and, Bool.false_eq_true, if_false]
  omega

theorem wrap_i64 (n : Int) (h1 : -9223372036854775808 ≤ n) (h2 : n < 9223372036854775808) : IntKind.i64.wrap n = n := by
  show (if (true && decide (n % 2 ^ 64 ≥ 2 ^ (64 - 1))) = true then n % 2 ^ 64 - 2 ^ 64 else n % 2 ^ 64) = _
  by_cases h : n % 2 ^ 64 ≥ 2 ^ (64 - 1)
  · rw [if_pos (by simpa using h)]; omega
  · rw [if_neg (by simpa using h)]; omega

theorem wrap_i64c {n : Int} (h : -9223372036854775808 ≤ n ∧ n < 9223372036854775808) : IntKind.i64.wrap n = n := wrap_i64 n h.1 h.2
theorem wrap_u64c {n : Int} (h : 0 ≤ n ∧ n < 18446744073709551616) : IntKind.u64.wrap n = n := by
  obtain ⟨m, rfl⟩ : ∃ m : Nat, n = m := ⟨n.toNat, by omega⟩
  rw [wrap_u64, Nat.mod_eq_of_lt (by omega)]
theorem wrap_u32c {n : Int} (h : 0 ≤ n ∧ n < 4294967296) : IntKind.u32.wrap n = n := by
  obtain ⟨m, rfl⟩ : ∃ m : Nat, n = m := ⟨n.toNat, by omega⟩
  rw [wrap_u32, Nat.mod_eq_of_lt (by omega)]
theorem wrap_u16c {n : Int} (h : 0 ≤ n ∧ n < 65536) : IntKind.u16.wrap n = n := by
  obtain ⟨m, rfl⟩ : ∃ m : Nat, n = m := ⟨n.toNat, by omega⟩
  rw [wrap_u16, Nat.mod_eq_of_lt (by omega)]
theorem wrap_u8c {n : Int} (h : 0 ≤ n ∧ n < 256) : IntKind.u8.wrap n = n := by
  obtain ⟨m, rfl⟩ : ∃ m : Nat, n = m := ⟨n.toNat, by omega⟩
  rw [wrap_u8, Nat.mod_eq_of_lt (by omega)]

@[simp] theorem wrap_u64_byte (b : UInt8) : IntKind.u64.wrap (b.toNat : Int) = b.toNat := by
  have := b.toNat_lt
  rw [wrap_u64, Nat.mod_eq_of_lt (by omega)]
@[simp] theorem wrap_u8_byte (b : UInt8) : IntKind.u8.wrap (b.toNat : Int) = b.toNat := by
  have := b.toNat_lt
  rw [wrap_u8, Nat.mod_eq_of_lt (by omega)]
@[simp] theorem wrap_i64_byte (b : UInt8) : IntKind.i64.wrap (b.toNat : Int) = b.toNat := by
  have := b.toNat_lt
  rw [wrap_i64 _ (by omega) (by omega)]

theorem pickA_true (x y : AV) : pickA true x y = x := by
  unfold pickA
  split <;> rfl
theorem pickA_false (x y : AV) : pickA false x y = y := by
  unfold pickA
  split <;> rfl
theorem pickA_bb (t p q : Bool) : pickA t (.v (.bool p)) (.v (.bool q)) = .v (.bool (bif t then p else q)) := rfl

theorem lenA_sl {P : Program} {t : TypeId} {sz n : Nat} {cs : List AV} {tl : Tail} : lenA P t (.sl sz cs n tl) = (elemT P t).map fun _ => .v (.int .i64 n) := rfl

/-! ### Numbers of 256 bits -/

def limb (x j : Nat) : Nat := x / 2 ^ (64 * j) % 2 ^ 64

def numA (x : Nat) : List AV := [.v (.int .u64 (limb x 0 : Nat)), .v (.int .u64 (limb x 1 : Nat)), .v (.int .u64 (limb x 2 : Nat)), .v (.int .u64 (limb x 3 : Nat))]

@[simp] theorem numA_length (x : Nat) : (numA x).length = 4 := rfl
@[simp] theorem numA_take (x : Nat) : (numA x).take 4 = numA x := rfl
theorem numA_zero : numA 0 = [.v (.int .u64 0), .v (.int .u64 0), .v (.int .u64 0), .v (.int .u64 0)] := rfl
theorem limb_lt (x j : Nat) : limb x j < 18446744073709551616 := Nat.mod_lt _ (by decide)

theorem numA_get (x : Nat) {j : Nat} (h : j < 4) : (numA x)[j]? = some (.v (.int .u64 (limb x j : Nat))) := by
  match j, h with
  | 0, _ => rfl
  | 1, _ => rfl
  | 2, _ => rfl
  | 3, _ => rfl

theorem limb_bit (x j i : Nat) : (limb x j).testBit i = (decide (i < 64) && x.testBit (64 * j + i)) := by
  simp only [limb, Nat.testBit_mod_two_pow, Nat.testBit_div_two_pow]
  rw [Nat.add_comm]

theorem limb_or {x b k : Nat} (j : Nat) (hb : b < 256) : limb (x ||| b <<< (8 * k)) j = if j = k / 8 then limb x j ||| b <<< (8 * (k % 8)) else limb x j := by
  have hbit : ∀ i, 8 ≤ i → b.testBit i = false := fun i hi => Nat.testBit_lt_two_pow (Nat.lt_of_lt_of_le hb (by
    have := Nat.pow_le_pow_right (show 0 < 2 by omega) hi
    simpa using this))
  have hk := Nat.div_add_mod k 8
  have hk8 : k % 8 < 8 := Nat.mod_lt _ (by omega)
  apply Nat.eq_of_testBit_eq
  intro i
  rw [limb_bit, Nat.testBit_or, Nat.testBit_shiftLeft]
  by_cases hj : j = k / 8
  · subst hj
    rw [if_pos rfl, Nat.testBit_or, limb_bit, Nat.testBit_shiftLeft]
    by_cases hi : i < 64
    · by_cases hge : i ≥ 8 * (k % 8)
      · have e1 : 64 * (k / 8) + i ≥ 8 * k := by omega
        have e2 : 64 * (k / 8) + i - 8 * k = i - 8 * (k % 8) := by omega
        simp [hi, hge, e1, e2]
      · have e1 : ¬ 64 * (k / 8) + i ≥ 8 * k := by omega
        simp [hi, hge, e1]
    · have hf : b.testBit (i - 8 * (k % 8)) = false := hbit _ (by omega)
      simp [hi, hf]
  · rw [if_neg hj, limb_bit]
    by_cases hi : i < 64
    · by_cases hge : 64 * j + i ≥ 8 * k
      · have hf : b.testBit (64 * j + i - 8 * k) = false := hbit _ (by omega)
        simp [hi, hf]
      · simp [hi, hge]
    · simp [hi]

theorem numA_set {x b k : Nat} (hb : b < 256) (hk : k < 32) : (numA x).set (k / 8) (.v (.int .u64 ((limb x (k / 8) ||| b <<< (8 * (k % 8)) : Nat) : Int))) = numA (x ||| b <<< (8 * k)) := by
  have h : k / 8 = 0 ∨ k / 8 = 1 ∨ k / 8 = 2 ∨ k / 8 = 3 := by omega
  simp only [numA, limb_or (x := x) (k := k) _ hb]
  rcases h with h | h | h | h <;> rw [h] <;> rfl

theorem numA_put {x b k q r : Nat} (hb : b < 256) (hq : q < 4) (hr : r < 8) (hk : 8 * q + r = k) : (numA x).take q ++ .v (.int .u64 ((limb x q ||| b <<< (8 * r) : Nat) : Int)) :: (numA x).drop (q + 1) = numA (x ||| b <<< (8 * k)) := by
  subst hk
  have h := numA_set (x := x) (k := 8 * q + r) hb (by omega)
  have e1 : (8 * q + r) / 8 = q := by omega
  have e2 : (8 * q + r) % 8 = r := by omega
  rw [e1, e2] at h
  rw [← h, List.set_eq_take_append_cons_drop, if_pos (by simpa using hq)]

theorem or_u64 {a b : Nat} (ha : a < 18446744073709551616) (hb : b < 18446744073709551616) :
    IntKind.u64.wrap (((BitVec.ofNat 64 a ||| BitVec.ofNat 64 b).toNat : Nat) : Int) = ((a ||| b : Nat) : Int) := by
  rw [BitVec.toNat_or, BitVec.toNat_ofNat, BitVec.toNat_ofNat, Nat.mod_eq_of_lt (by omega), Nat.mod_eq_of_lt (by omega), wrap_u64, Nat.mod_eq_of_lt]
  exact Nat.or_lt_two_pow (n := 64) ha hb

theorem shl_byte {b k : Nat} (hb : b < 256) (hk : k < 8) : b <<< (8 * k) < 18446744073709551616 := by
  rw [Nat.shiftLeft_eq]
  have : 2 ^ (8 * k) ≤ 2 ^ 56 := Nat.pow_le_pow_right (by omega) (by omega)
  have h2 : b * 2 ^ (8 * k) ≤ 255 * 2 ^ 56 := Nat.mul_le_mul (by omega) this
  omega

theorem be_from (l : List UInt8) : ∀ x : Nat, l.foldl (fun x b => x * 256 + b.toNat) x = x * 256 ^ l.length + be l := by
  induction l with
  | nil => intro x; simp
  | cons b l ih =>
    intro x
    have h1 := ih (x * 256 + b.toNat)
    have h2 := ih (0 * 256 + b.toNat)
    simp only [be, List.foldl_cons, List.length_cons, Nat.pow_succ] at *
    rw [h1, h2, Nat.add_mul, Nat.zero_mul, Nat.zero_add, Nat.mul_assoc, Nat.mul_comm 256]
    omega

theorem be_cons (b : UInt8) (l : List UInt8) : be (b :: l) = b.toNat * 256 ^ l.length + be l := by
  have := be_from l (0 * 256 + b.toNat)
  simpa [be] using this

def orAll (p : List UInt8) (l : List Nat) : Nat := l.foldl (fun x i => x ||| (p.getD i 0).toNat <<< (8 * (p.length - 1 - i))) 0

theorem orAll_nil (p : List UInt8) : orAll p [] = 0 := rfl
theorem orAll_snoc (p : List UInt8) (l : List Nat) (i : Nat) : orAll p (l ++ [i]) = orAll p l ||| (p.getD i 0).toNat <<< (8 * (p.length - 1 - i)) := by simp [orAll]

theorem orAll_all (p : List UInt8) : orAll p (List.range p.length).reverse = be p := by
  have key : ∀ j, j ≤ p.length → orAll p ((List.range p.length).reverse.take j) = be (p.drop (p.length - j)) := by
    intro j
    induction j with
    | zero => intro _; simp [orAll]
    | succ j ih =>
      intro hj
      have hlt : j < ((List.range p.length).reverse).length := by simp; omega
      have hg : ((List.range p.length).reverse)[j] = p.length - 1 - j := by simp
      rw [List.take_succ_eq_append_getElem hlt, hg, orAll_snoc, ih (by omega)]
      have hlt2 : p.length - (j + 1) < p.length := by omega
      rw [List.drop_eq_getElem_cons hlt2, be_cons]
      have e1 : p.length - (j + 1) + 1 = p.length - j := by omega
      have e2 : p.length - 1 - j = p.length - (j + 1) := by omega
      have e3 : p.length - 1 - (p.length - (j + 1)) = j := by omega
      have e4 : (p.drop (p.length - j)).length = j := by simp; omega
      rw [e1, e2, e3, e4]
      have hb := be_lt (p.drop (p.length - j))
      rw [e4] at hb
      have e5 : (256 : Nat) ^ j = 2 ^ (8 * j) := by rw [Nat.pow_mul]
      rw [e5] at hb ⊢
      have := Nat.shiftLeft_add_eq_or_of_lt hb (p.getD (p.length - (j + 1)) 0).toNat
      rw [Nat.or_comm, ← this, Nat.shiftLeft_eq]
      simp [List.getD, hlt2]
  have := key p.length (Nat.le_refl _)
  simpa [List.take_of_length_le] using this
end Go.Vm

/-
  Numbers and coins as9 plain data, and how they lie in cells.
-/
namespace Go.Vm
set_option linter.unnecessarySimpa false
set_option linter.unusedSimpArgs false
set_option linter.unusedVariables false
open Go
/-! ### Lists of things that take so many cells each -/
section
variable {α : Type} (f : α → List AV) (k : Nat)

def restC (l : List α) (i : Nat) : List AV := (l.drop (i + 1)).flatMap f

theorem flat_length (hf : ∀ a, (f a).length = k) (l : List α) : (l.flatMap f).length = l.length * k := by
  induction l with
  | nil => simp
  | cons a l ih => simp [ih, hf, Nat.add_mul, Nat.add_comm]

theorem flat_drop (hf : ∀ a, (f a).length = k) : ∀ (l : List α) (i : Nat), (l.flatMap f).drop (i * k) = (l.drop i).flatMap f
  | l, 0 => by simp
  | [], i + 1 => by simp
  | a :: l, i + 1 => by
    have h := hf a
    have e : (i + 1) * k = (f a).length + i * k := by rw [h, Nat.add_mul]; omega
    rw [List.flatMap_cons, e, List.drop_append, List.drop_eq_nil_of_le (by omega)]
    simp [flat_drop hf l i]

theorem flat_take (hf : ∀ a, (f a).length = k) : ∀ (l : List α) (i : Nat), (l.flatMap f).take (i * k) = (l.take i).flatMap f
  | l, 0 => by simp
  | [], i + 1 => by simp
  | a :: l, i + 1 => by
    have h := hf a
    have e : (i + 1) * k = (f a).length + i * k := by rw [h, Nat.add_mul]; omega
    rw [List.flatMap_cons, e, List.take_append, List.take_of_length_le (by omega)]
    simp [flat_take hf l i]

theorem flat_at (hf : ∀ a, (f a).length = k) (l : List α) (i : Nat) (h : i < l.length) : (l.flatMap f).drop (i * k) = f l[i] ++ restC f l i := by
  rw [flat_drop f k hf, List.drop_eq_getElem_cons h, List.flatMap_cons]
  rfl

theorem flat_set (hf : ∀ a, (f a).length = k) (l : List α) (i : Nat) (h : i < l.length) (x : α) : splice (l.flatMap f) (i * k) (f x) = (l.set i x).flatMap f := by
  unfold splice
  rw [flat_take f k hf, hf x, show i * k + k = (i + 1) * k by rw [Nat.add_mul]; omega, flat_drop f k hf, List.set_eq_take_append_cons_drop, if_pos h]
  simp
end

theorem noObjL_flat {α : Type} {f : α → List AV} {n : Nat} (h : ∀ a, noObjL n (f a) = true) : ∀ l : List α, noObjL n (l.flatMap f) = true
  | [] => rfl
  | a :: l => by rw [List.flatMap_cons, noObjL_append, h a, noObjL_flat h l]; rfl
theorem underL_flat {α : Type} {f : α → List AV} {B : Bd} (h : ∀ a, underL B (f a) = true) : ∀ l : List α, underL B (l.flatMap f) = true
  | [] => rfl
  | a :: l => by rw [List.flatMap_cons, underL_append, h a, underL_flat h l]; rfl

@[simp] theorem noObjL_bytes (n : Nat) : ∀ p : List UInt8, noObjL n (bytesA p) = true
  | [] => rfl
  | b :: p => by
    have := noObjL_bytes n p
    simp only [bytesA, List.map_cons, noObjL, AV.noObj, Bool.true_and] at this ⊢
    exact this
@[simp] theorem underL_bytes' (B : Bd) (p : List UInt8) : underL B (bytesA p) = true := under_bytes B p

/-! ### Numbers of 256 bits -/
@[ext] structure Num where
  v : Nat
  h : v < 2 ^ 256
  deriving DecidableEq

def Num.zero : Num := ⟨0, by decide⟩

theorem limb_sum {x : Nat} (h : x < 2 ^ 256) : x = limb x 0 + 2 ^ 64 * limb x 1 + 2 ^ 128 * limb x 2 + 2 ^ 192 * limb x 3 := by
  unfold limb
  simp only [Nat.mul_zero, Nat.pow_zero, Nat.div_one, Nat.mul_one, show 64 * 2 = 128 from rfl, show 64 * 3 = 192 from rfl]
  have e1 : x / 2 ^ 128 = x / 2 ^ 64 / 2 ^ 64 := by rw [Nat.div_div_eq_div_mul, ← Nat.pow_add]
  have e2 : x / 2 ^ 192 = x / 2 ^ 64 / 2 ^ 64 / 2 ^ 64 := by rw [Nat.div_div_eq_div_mul, Nat.div_div_eq_div_mul, ← Nat.pow_add, ← Nat.pow_add]
  rw [e1, e2]
  have h3 : x / 2 ^ 64 / 2 ^ 64 / 2 ^ 64 < 2 ^ 64 := by
    rw [Nat.div_div_eq_div_mul, Nat.div_div_eq_div_mul, ← Nat.pow_add, ← Nat.pow_add, Nat.div_lt_iff_lt_mul (by decide), ← Nat.pow_add]
    exact h
  omega

theorem limb_inj {x y : Nat} (hx : x < 2 ^ 256) (hy : y < 2 ^ 256) (h0 : limb x 0 = limb y 0) (h1 : limb x 1 = limb y 1) (h2 : limb x 2 = limb y 2) (h3 : limb x 3 = limb y 3) : x = y := by
  rw [limb_sum hx, limb_sum hy, h0, h1, h2, h3]

@[simp] theorem fits_num (x : Nat) : fitsK [some .u64, some .u64, some .u64, some .u64] (numA x) = true := rfl
@[simp] theorem fits_num0 : fitsK [some .u64, some .u64, some .u64, some .u64] [.v (.int .u64 0), .v (.int .u64 0), .v (.int .u64 0), .v (.int .u64 0)] = true := rfl

theorem cellsEq_numA (x y : Nat) : cellsEqA (numA x) (numA y) = decide (limb x 0 = limb y 0 ∧ limb x 1 = limb y 1 ∧ limb x 2 = limb y 2 ∧ limb x 3 = limb y 3) := by
  rw [Bool.eq_iff_iff]
  simp only [numA, cellsEqA, Bool.and_true, Bool.and_eq_true, beq_iff_eq, decide_eq_true_eq]
  omega

@[simp] theorem cellsEq_num (x y : Num) : cellsEqA (numA x.v) (numA y.v) = decide (x = y) := by
  rw [cellsEq_numA, Bool.eq_iff_iff]
  simp only [decide_eq_true_eq]
  exact ⟨fun ⟨h0, h1, h2, h3⟩ => Num.ext (limb_inj x.h y.h h0 h1 h2 h3), fun e => by subst e; simp⟩
@[simp] theorem cellsEq_num0 (x : Num) : cellsEqA (numA x.v) [.v (.int .u64 0), .v (.int .u64 0), .v (.int .u64 0), .v (.int .u64 0)] = decide (x.v = 0) := by
  have := cellsEq_num x Num.zero
  rw [show numA Num.zero.v = [.v (.int .u64 0), .v (.int .u64 0), .v (.int .u64 0), .v (.int .u64 0)] from rfl] at this
  rw [this, Bool.eq_iff_iff]
  simp only [decide_eq_true_eq]
  exact ⟨fun e => by rw [e]; rfl, fun e => Num.ext e⟩

@[simp] theorem noObjL_num (n x : Nat) : noObjL n (numA x) = true := rfl
@[simp] theorem underL_num (B : Bd) (x : Nat) : underL B (numA x) = true := rfl
@[simp] theorem gcOL_num (n x : Nat) : gcOL n (numA x) = numA x := rfl
@[simp] theorem all_num (x : Nat) : (numA x).all AV.isCell = true := rfl
@[simp] theorem numA_take_app (x : Nat) (r : List AV) : (numA x ++ r).take 4 = numA x := rfl
@[simp] theorem numA_drop_app (x : Nat) (r : List AV) : (numA x ++ r).drop 4 = r := rfl

/-! ### Coins -/
@[ext] structure Coin where
  d : UInt8
  n : Num
  deriving DecidableEq

def coinC (c : Coin) : List AV := .v (.int .u8 c.d.toNat) :: numA c.n.v
def coinsC (l : List Coin) : List AV := l.flatMap coinC

theorem coinC_len (c : Coin) : (coinC c).length = 5 := rfl
@[simp] theorem coinsC_len (l : List Coin) : (coinsC l).length = l.length * 5 := flat_length _ _ coinC_len l
@[simp] theorem coinsC_nil : coinsC [] = [] := rfl
theorem coinsC_append (l m : List Coin) : coinsC l ++ coinsC m = coinsC (l ++ m) := by simp [coinsC]
theorem coinsC_snoc (l : List Coin) (c : Coin) : coinsC l ++ coinC c = coinsC (l ++ [c]) := by simp [coinsC]
theorem coinsC_at {l : List Coin} {i : Nat} (h : i < l.length) : (coinsC l).drop (i * 5) = coinC l[i] ++ restC coinC l i := flat_at _ _ coinC_len l i h
@[simp] theorem noObjL_coins (n : Nat) (l : List Coin) : noObjL n (coinsC l) = true := noObjL_flat (fun _ => rfl) l
@[simp] theorem underL_coins (B : Bd) (l : List Coin) : underL B (coinsC l) = true := underL_flat (fun _ => rfl) l
@[simp] theorem fits_coin (c : Coin) : fitsK [some .u8, some .u64, some .u64, some .u64, some .u64] (coinC c) = true := rfl
@[simp] theorem cellsEq_coin (c d : Coin) : cellsEqA (coinC c) (coinC d) = decide (c = d) := by
  have h := cellsEq_num c.n d.n
  show ((c.d.toNat : Int) == d.d.toNat && cellsEqA (numA c.n.v) (numA d.n.v)) = _
  rw [h, Bool.eq_iff_iff]
  simp only [Bool.and_eq_true, beq_iff_eq, decide_eq_true_eq]
  constructor
  · rintro ⟨h1, h2⟩; exact Coin.ext (UInt8.toNat_inj.1 (by omega)) h2
  · rintro rfl; exact ⟨rfl, rfl⟩
def Right (l : List Coin) : Prop := (∀ c ∈ l, c.d.toNat < 8 ∧ c.n.v ≠ 0) ∧ l.Pairwise (fun a b => a.d.toNat < b.d.toNat)
instance (l : List Coin) : Decidable (Right l) := by unfold Right; infer_instance

theorem right_nil : Right [] := by simp [Right]
theorem right_snoc {l : List Coin} {c : Coin} : Right (l ++ [c]) ↔ Right l ∧ (c.d.toNat < 8 ∧ c.n.v ≠ 0) ∧ ∀ b ∈ l, b.d.toNat < c.d.toNat := by
  unfold Right
  rw [List.pairwise_append]
  simp only [List.mem_append, List.mem_singleton, List.pairwise_cons, List.Pairwise.nil]
  constructor
  · rintro ⟨h1, h2, _, h3⟩; exact ⟨⟨fun x hx => h1 x (.inl hx), h2⟩, h1 c (.inr rfl), fun b hb => h3 b hb c rfl⟩
  · rintro ⟨⟨h1, h2⟩, h3, h4⟩
    refine ⟨fun x hx => hx.elim (h1 x) (fun e => e ▸ h3), h2, by simp, fun a ha b hb => ?_⟩
    subst hb; exact h4 a ha
theorem right_take {l : List Coin} (h : Right l) (i : Nat) : Right (l.take i) :=
  ⟨fun c hc => h.1 c (List.mem_of_mem_take hc), h.2.sublist (List.take_sublist i l)⟩
theorem right_last {l : List Coin} (h : Right l) {b c : Coin} (hb : l.getLast? = some b) (hc : b.d.toNat < c.d.toNat) : ∀ a ∈ l, a.d.toNat < c.d.toNat := by
  obtain ⟨m, rfl⟩ := List.getLast?_eq_some_iff.1 hb
  have h2 := (right_snoc.1 h).2.2
  intro a ha
  rcases List.mem_append.1 ha with h1 | h1
  · exact Nat.lt_trans (h2 a h1) hc
  · simp at h1; subst h1; exact hc

theorem take_snoc {α : Type} {l : List α} {i : Nat} (h : i < l.length) : l.take (i + 1) = l.take i ++ [l[i]] := by
  rw [List.take_succ_eq_append_getElem h]

@[simp] theorem fits_coin' (d : Int) (x : Nat) : fitsK [some .u8, some .u64, some .u64, some .u64, some .u64] (.v (.int .u8 d) :: numA x) = true := rfl
@[simp] theorem cellsEq_coin' (c d : Coin) : cellsEqA (.v (.int .u8 c.d.toNat) :: numA c.n.v) (.v (.int .u8 d.d.toNat) :: numA d.n.v) = decide (c = d) := cellsEq_coin c d

theorem later_list {D : List Nat} {o : Oper} {X : Nat → Prop} (l : List Nat) (h : (later D o == l) = true) (k : ∀ j ∈ l, X j) : ∀ j, j ∈ later D o → X j := by
  rw [eq_of_beq h]; exact k
theorem fact2 {P : Program} {ops : Array Oper} {ρ : Nat → AV} {σ : St} {j x : Nat} {o : Oper} (h : ops[j]? = some o) (hd : o.dst = some x) (hb : wantedA ops o ρ = some true ∧ opA P ρ σ o.op = some (ρ x, σ)) : Fact P ops ρ σ j := ⟨o, x, h, hd, .inl hb⟩

theorem rp {z : Zone} {P : Program} {N : Nat} {σ : St} {ops : Array Oper} {S D : List Nat} {ρ0 ρ : Nat → AV} {Q : (Nat → AV) → St → Prop} (i : Nat) {o : Oper} {x : Tmp} (ho : ops[i]? = some o) (hx : o.dst = some x)
    (hb : (ready ops S i && (S.all fun j => dstOf ops j != some x) && fresh ops D x && !(o.looksAt ops).contains x && covers ops D o) = true)
    (k : match wantedA ops o ρ with
      | some b => (b = true → match opA P ρ σ o.op with
          | some (v, σ') => σ' = σ ∧ RunD z P N ops (i :: S) (i :: D) ρ0 (putA ρ (some x) v) σ Q
          | none => False) ∧ (b = false → RunD z P N ops (i :: S) (i :: D) ρ0 (putA ρ (some x) undefA) σ Q)
      | none => False) : RunD z P N ops S D ρ0 ρ σ Q := by
  simp only [Bool.and_eq_true, Bool.not_eq_true'] at hb
  obtain ⟨⟨⟨⟨h1, h2⟩, h3⟩, h4⟩, h5⟩ := hb
  exact runD_pure' i h1 ho hx h2 h3 h4 h5 k

theorem wC : (∀ {n : Int}, -9223372036854775808 ≤ n ∧ n < 9223372036854775808 → IntKind.i64.wrap n = n) ∧ (∀ {n : Int}, 0 ≤ n ∧ n < 18446744073709551616 → IntKind.u64.wrap n = n) ∧ (∀ {n : Int}, 0 ≤ n ∧ n < 4294967296 → IntKind.u32.wrap n = n) ∧
    (∀ {n : Int}, 0 ≤ n ∧ n < 65536 → IntKind.u16.wrap n = n) ∧ (∀ {n : Int}, 0 ≤ n ∧ n < 256 → IntKind.u8.wrap n = n) ∧ (∀ {l : List Coin} {i : Nat} (h : i < l.length), (coinsC l).drop (i * 5) = coinC l[i] ++ restC coinC l i) :=
  ⟨wrap_i64c, wrap_u64c, wrap_u32c, wrap_u16c, wrap_u8c, coinsC_at⟩

end Go.Vm

/-
  The rules of a walk, in short forms: what a step owes is paid by itself, out of the facts that the walk keeps under the name F.
-/
namespace Go.Vm
set_option linter.unnecessarySimpa false
set_option linter.unusedSimpArgs false
set_option linter.unusedVariables false
open Go

theorem aF {a b : Prop} (x : a) (y : b) : a ∧ b := ⟨x, y⟩

def isTmpOp : Op → Bool
  | .move (.tmp _) | .assign (.tmp _) | .extract (.tmp _) _ => true
  | _ => false

theorem opA_tmp {P : Program} {ρ : Nat → AV} {σ σ' : St} {op : Op} {v : AV} (h : isTmpOp op = true) (hv : opA P ρ σ op = some (v, σ)) : opA P ρ σ' op = some (v, σ') := by
  unfold isTmpOp at h
  split at h
  · simp [opA, evalA] at hv ⊢; exact hv
  · simp [opA, evalA] at hv ⊢; exact hv
  · rename_i x i
    simp only [opA, evalA] at hv ⊢
    cases hx : ρ x <;> simp [hx] at hv ⊢
    exact hv
  · cases h

theorem later_tmp {P : Program} {σ σ' : St} {ops : Array Oper} {D : List Nat} {o : Oper} {ρ : Nat → AV} (hp : ((later D o).all fun i => match ops[i]? with | some o => isTmpOp o.op | none => true) = true) :
    ∀ j, j ∈ later D o → Fact P ops ρ σ j → Fact P ops ρ σ' j := by
  intro j hj ⟨o', x, ho, hx, h⟩
  have hp := List.all_eq_true.1 hp j hj
  rw [ho] at hp
  exact ⟨o', x, ho, hx, h.imp (fun ⟨h1, h2⟩ => ⟨h1, opA_tmp hp h2⟩) id⟩

theorem later_more2 {P : Program} {l r1 r2 : List (List AV)} {cs : List AV} {tk : List Nat} {gl : Nat → Option (List AV)} {rs : List RowSt} {ops : Array Oper} {D : List Nat} {o : Oper} {ρ : Nat → AV} (hp : ((later D o).all fun i => match ops[i]? with | some o => !isE o.op | none => true) = true) (e : r2 = r1 ++ [cs]) :
    ∀ j, j ∈ later D o → Fact P ops ρ ⟨l ++ r1, tk, gl, rs⟩ j → Fact P ops ρ ⟨l ++ r2, tk, gl, rs⟩ j := by
  subst e
  have := later_more (P := P) (σ := ⟨l ++ r1, tk, gl, rs⟩) (ops := ops) (D := D) (o := o) (ρ := ρ) cs hp
  simpa using this

theorem st {p : Prop} (h : p := by first | assumption | rfl | (simp [F]; done) | (simp [F]; rfl) | omega | (simp; omega) | (simp [F]; omega)) : p := h
theorem nope {p q : Prop} (h : p) (n : ¬ p := by first | (simp [F]; done) | (intro gq; simp [F] at gq; first | done | omega)) : q := absurd h n
theorem lp {p : Prop} (h : p := by first | rfl | omega | assumption | ((repeat (first | simp [F] | simp (disch := omega) only [wC, if_pos, if_neg])); first | done | omega) | (simp only [putA_get]; (repeat (first | simp (disch := omega) only [wC, if_pos, if_neg] | simp [F])); done)) : p := h
theorem lpG {p : Prop} (h : p := by first | rfl | omega | assumption | ((repeat (first | simp [F, AV.gcO, gcOL, noObjL, AV.noObj, St.trimO] | simp (disch := omega) only [wC, if_pos, if_neg])); first | done | omega) | (simp only [putA_get]; (repeat (first | simp (disch := omega) only [wC, if_pos, if_neg] | simp [F, AV.gcO, gcOL, noObjL, AV.noObj, St.trimO])); done)) : p := h
theorem rt {p : Prop} (h : p := by first | exact ⟨rfl, rfl⟩ | (simp [F]; done) | (refine ⟨?_, ?_⟩ <;> first | rfl | (simp [F]; done) | (simp [*]; done) | omega)) : p := h

theorem keeps_nil {A B : Nat → AV} : ∀ r, r ∈ ([] : List Nat) → A r = B r := fun _ h => by cases h
theorem keeps_cons {A B : Nat → AV} {i : Nat} {l : List Nat} (h : A i = B i) (t : ∀ r, r ∈ l → A r = B r) : ∀ r, r ∈ i :: l → A r = B r := fun r hr => by
  rcases List.mem_cons.1 hr with rfl | hr
  · exact h
  · exact t r hr
theorem kp {l : List Nat} {A B : Nat → AV} (h : ∀ r, r ∈ l → A r = B r := by first | exact fun _ _ => rfl | (repeat (first | exact keeps_nil | refine keeps_cons (by first | rfl | (simp [F]; done)) ?_))) : ∀ r, r ∈ l → A r = B r := h
theorem kpG {l : List Nat} {A B : Nat → AV} (h : ∀ r, r ∈ l → A r = B r := by (repeat (first | exact keeps_nil | refine keeps_cons (by first | rfl | (simp [F, AV.gcO, gcOL, noObjL, AV.noObj]; done)) ?_))) : ∀ r, r ∈ l → A r = B r := h
def KeepL (A B : Nat → AV) : List Nat → Prop
  | [] => True
  | i :: l => A i = B i ∧ KeepL A B l
theorem keepL {A B : Nat → AV} : ∀ {l : List Nat}, (∀ r, r ∈ l → A r = B r) → KeepL A B l
  | [], _ => trivial
  | i :: _, h => ⟨h i (List.mem_cons_self ..), keepL fun r hr => h r (List.mem_cons_of_mem _ hr)⟩
theorem kpr_apps {n : Nat} {l m xs : List RowSt} (h : KpR n l m) (hx : ∀ r ∈ xs, noObjL n r.cells = true) : KpR n l (m ++ xs) := fun k r hr => by
  by_cases hk : k < m.length
  · rw [List.getElem?_append_left hk] at hr; exact h k r hr
  · rw [List.getElem?_append_right (by omega)] at hr
    exact .inr (hx r (List.mem_of_getElem? hr))
theorem gk {σ0 σ1 : St} (h1 : σ1.gl = σ0.gl := by rfl)
    (h2 : Kp σ0.objs.length σ0.objs σ1.objs := by repeat (first | exact kp_refl _ | exact Kp.nil _ | refine kp_app (by simp) ?_ ?_ | refine kp_more ?_ | refine kp_setset ?_ (by simp [F, noObjL, AV.noObj]) | refine kp_set ?_ (by simp [F, noObjL, AV.noObj]) | refine Kp.cons (by first | exact .inl rfl | (right; simp [F, noObjL, AV.noObj])) ?_))
    (h3 : KpR σ0.objs.length σ0.rows σ1.rows := by repeat (first | exact kpr_refl _ | refine kpr_set ?_ (by simp [F, noObjL, AV.noObj]) | refine kpr_app ?_ (by simp [F, noObjL, AV.noObj]) | refine kpr_apps ?_ (by simp [F, noObjL, AV.noObj]))) : GoneO σ0 σ1 := gone_kp h1 h2 h3
theorem gcr {av A : AV} {σ' τ : St} (hA : Wk av A := by first | exact Wk.refl _ | (simp [F]; exact Wk.refl _) | (simp [*]; exact Wk.refl _) | exact Wk.shut _ _ _ _ | exact Wk.nil _ _ _ | (simp [F]; exact Wk.shut _ _ _ _) | (simp [F]; exact Wk.nil _ _ _))
    {l : List (List AV)} {m : List Nat} {r : List RowSt} (h1 : σ'.objs = τ.objs ++ l := by first | rfl | exact (List.append_nil _).symm | (simp [F]; rfl) | (simp [F]; done))
    (h2 : σ'.toks = τ.toks ++ m := by first | rfl | exact (List.append_nil _).symm | (simp; rfl)) (h3 : σ'.rows = τ.rows ++ r := by first | rfl | exact (List.append_nil _).symm | (simp [F]; rfl)) (h4 : σ'.gl = τ.gl := by rfl) :
    Wk av A ∧ ∃ l m r, σ' = { τ with objs := τ.objs ++ l, toks := τ.toks ++ m, rows := τ.rows ++ r } := ⟨hA, l, m, r, st_app h1 h2 h3 h4⟩

section
variable {z : Zone} {P : Program} {N : Nat} {ρ : Nat → AV} {σ : St} {Q : Exit → (Nat → AV) → St → Prop} {ops : Array Oper} {rest : List Oper} {o : Oper} {K : (Nat → AV) → St → Prop}

theorem sq {x y : Code} (h : ∀ K : (Nat → AV) → St → Prop, (∀ ρ σ, Run z P N y ρ σ Q → K ρ σ) → Run z P N x ρ σ (Then K Q)) : Run z P N (.seq x y) ρ σ Q := run_seq_k h
theorem ct {c : Operand} {x y : Code} (h : Run z P N x ρ σ Q) (hc : evalA ρ σ c = some (.v (.bool true)) := by first | rfl | (simp [F, evalA]; done)) : Run z P N (.cond c x y) ρ σ Q := run_cond_true hc h
theorem cf {c : Operand} {x y : Code} (h : Run z P N y ρ σ Q) (hc : evalA ρ σ c = some (.v (.bool false)) := by first | rfl | (simp [F, evalA]; done)) : Run z P N (.cond c x y) ρ σ Q := run_cond_false hc h
theorem cs {c : Operand} {x y : Code} {t : Bool} (h1 : t = true → Run z P N x ρ σ Q) (h2 : t = false → Run z P N y ρ σ Q) (hc : evalA ρ σ c = some (.v (.bool t)) := by first | rfl | (simp [F, evalA]; done)) : Run z P N (.cond c x y) ρ σ Q := run_cond_split hc h1 h2
theorem gs {l : List Oper} (d : Nat) {b : Bool} (h1 : b = true → RunL z P N ops l ρ σ K) (h2 : b = false → RunL z P N ops l ρ σ K) (h : ρ d = .v (.bool b) := by first | rfl | (simp [F]; done)) : RunL z P N ops l ρ σ K := guard_split h1 h2
theorem gd {S D : List Nat} {ρ0 : Nat → AV} (d : Nat) {b : Bool} (h1 : b = true → RunD z P N ops S D ρ0 ρ σ K) (h2 : b = false → RunD z P N ops S D ρ0 ρ σ K) (h : ρ d = .v (.bool b) := by first | rfl | (simp [F]; done)) : RunD z P N ops S D ρ0 ρ σ K := guard_split h1 h2
theorem go1 (k : match opA P ρ σ o.op with
      | some (av, σ') => evalL z P N ops rest (putA ρ o.dst av) σ' K
      | none => False) (hw : wantedA ops o ρ = some true := by first | rfl | (simp [F, wantedA]; done)) (hN : ((o :: rest).all fun o => inN N o.dst) = true := by rfl) : RunL z P N ops (o :: rest) ρ σ K := runL_go hw hN k
theorem ca {f : FuncId} {args : List AV} {Qc : AV → St → Prop} (hw : wantedA ops o ρ = some true := by first | rfl | (simp [F, wantedA]; done))
    (ho : callOf ρ σ o.op = some (f, args) := by first | rfl | (simp [F, callOf]; done)) (c : CallsA P f args σ Qc) (k : ∀ av σ', Qc av σ' → evalL z P N ops rest (putA ρ o.dst av) σ' K) (hN : ((o :: rest).all fun o => inN N o.dst) = true := by rfl) (hcb : callable P f = true := by first | rfl | simp | assumption) : RunL z P N ops (o :: rest) ρ σ K := runL_call' hw rfl hN ho hcb c k
theorem rg' {id : Nat} {l : List Oper} {G : ((Nat → AV) → St → Prop) → Prop} (e : ∀ K, evalL z P N l.toArray l ρ σ K = G K := by intro K; (conv => lhs; (try simp [F]); (try simp (disch := omega) only [wC, if_pos, if_neg]); (try simp [F]); (try simp (disch := omega) only [wC, if_pos, if_neg]); (try simp [F])); try rfl) (h : ∀ K : (Nat → AV) → St → Prop, (∀ ρ σ, Q .normal ρ σ → K ρ σ) → G K) (hN : (l.all fun o => inN N o.dst) = true := by rfl) : Run z P N (.region id l.toArray false) ρ σ Q := run_region_k hN (fun K hK => Eq.mpr (e K) (h K hK))
theorem sr {y : Code} {id : Nat} {l : List Oper} {G : ((Nat → AV) → St → Prop) → Prop} (h : ∀ J : (Nat → AV) → St → Prop, (∀ ρ σ, Run z P N y ρ σ Q → J ρ σ) → G J) (e : ∀ K, evalL z P N l.toArray l ρ σ K = G K := by intro K; (conv => lhs; (try simp [F]); (try simp (disch := omega) only [wC, if_pos, if_neg]); (try simp [F]); (try simp (disch := omega) only [wC, if_pos, if_neg]); (try simp [F])); try rfl) (hN : (l.all fun o => inN N o.dst) = true := by rfl) : Run z P N (.seq (.region id l.toArray false) y) ρ σ Q := sq fun K hK => rg' (h := fun J hJ => h J fun a b c => hJ a b (hK a b c)) (e := e) (hN := hN)
theorem ra {fn : Func} {t : Nat} {R : AV → St → Prop} (h : R (ρ t) σ) (hq : Q .ret ρ σ = Answer P fn R .ret ρ σ := by (try conv => lhs; simp only [Then, InBlock, NoGoto]); try rfl) (hr : fn.results = #[.tmp t] := by rfl) : Run z P N .ret ρ σ Q := run_ret (Eq.mpr hq (answer_tmp hr (.inr rfl) h))
theorem go2 {G : Prop} (e : (match opA P ρ σ o.op with
      | some (av, σ') => evalL z P N ops rest (putA ρ o.dst av) σ' K
      | none => False) = G := by (conv => lhs; (try simp [F]); (try simp (disch := omega) only [wC, if_pos, if_neg]); (try simp [F]); (try simp (disch := omega) only [wC, if_pos, if_neg]); (try simp [F])); try rfl) (k : G) (hw : wantedA ops o ρ = some true := by first | rfl | (simp [F, wantedA]; done)) (hN : ((o :: rest).all fun o => inN N o.dst) = true := by rfl) : RunL z P N ops (o :: rest) ρ σ K := runL_go hw hN (Eq.mpr e k)
theorem no2 {G : Prop} (e : evalL z P N ops rest (putA ρ o.dst undefA) σ K = G := by (conv => lhs; (try simp [F]); (try simp (disch := omega) only [wC, if_pos, if_neg]); (try simp [F]); (try simp (disch := omega) only [wC, if_pos, if_neg]); (try simp [F])); try rfl) (k : G) (hw : wantedA ops o ρ = some false := by first | rfl | (simp [F, wantedA]; done)) (hN : ((o :: rest).all fun o => inN N o.dst) = true := by rfl) : RunL z P N ops (o :: rest) ρ σ K := runL_no hw hN (Eq.mpr e k)
theorem rp2 {S D : List Nat} {ρ0 : Nat → AV} (i : Nat) {o : Oper} {x : Tmp} {G : Prop} (ho : ops[i]? = some o := by rfl) (hx : o.dst = some x := by rfl)
    (hb : (ready ops S i && (S.all fun j => dstOf ops j != some x) && fresh ops D x && !(o.looksAt ops).contains x && covers ops D o) = true := by kernel_rfl)
    (e : (match wantedA ops o ρ with
      | some b => (b = true → match opA P ρ σ o.op with
          | some (v, σ') => σ' = σ ∧ RunD z P N ops (i :: S) (i :: D) ρ0 (putA ρ (some x) v) σ K
          | none => False) ∧ (b = false → RunD z P N ops (i :: S) (i :: D) ρ0 (putA ρ (some x) undefA) σ K)
      | none => False) = G := by (conv => lhs; (try simp [F]); (try simp (disch := omega) only [wC, if_pos, if_neg]); (try simp [F]); (try simp (disch := omega) only [wC, if_pos, if_neg]); (try simp [F])); try rfl) (k : G) : RunD z P N ops S D ρ0 ρ σ K := rp i ho hx hb (Eq.mpr e k)
theorem acell {fn : Func} {t : Tmp} {ty : TypeId} {R : AV → St → Prop} {e : Exit} {av : AV} (hr : fn.results = #[.cell t ty] := by rfl) (l : loadA P ty (ρ t) σ = some av := by (conv => lhs; (try simp [F]); (try simp (disch := omega) only [wC, if_pos, if_neg]); (try simp [F]); (try simp (disch := omega) only [wC, if_pos, if_neg]); (try simp [F])); try rfl) (he : e = .normal ∨ e = .ret := by first | exact .inl rfl | exact .inr rfl) (h : R av σ) : Answer P fn R e ρ σ := answer_cell hr he (by rw [l]; exact h)
theorem acell2 {fn : Func} {t u : Tmp} {ty : TypeId} {R : AV → St → Prop} {e : Exit} {av : AV} (hr : fn.results = #[.cell t ty, .tmp u] := by rfl) (l : loadA P ty (ρ t) σ = some av := by (conv => lhs; (try simp [F]); (try simp (disch := omega) only [wC, if_pos, if_neg]); (try simp [F]); (try simp (disch := omega) only [wC, if_pos, if_neg]); (try simp [F])); try rfl) (he : e = .normal ∨ e = .ret := by first | exact .inl rfl | exact .inr rfl) (h : R (.tup [av, ρ u]) σ) : Answer P fn R e ρ σ := answer_cell_tmp hr he (by rw [l]; exact h)
theorem dc {S D : List Nat} {ρ0 : Nat → AV} (i : Nat) {o : Oper} {f : FuncId} {args : List AV} {Qc : AV → St → Prop} (ho : ops[i]? = some o)
    (hw : wantedA ops o ρ = some true := by first | rfl | (simp [F]; done)) (hv : callOf ρ σ o.op = some (f, args) := by first | rfl | (simp [F]; done)) (c : CallsA P f args σ Qc)
    (k : ∀ av σ', Qc av σ' → (∀ j ∈ later D o, Fact P ops ρ σ j → Fact P ops ρ σ' j) ∧ RunD z P N ops (i :: S) (later D o) ρ0 (putA ρ o.dst av) σ' K)
    (hb : (acyclic ops && (ops.toList.all fun o => inN N o.dst) && ready ops S i && ((List.range ops.size).all fun j => j == i || !ready ops S j) && (match o.dst with | some x => fresh ops (later D o) x | none => true) && covers ops D o) = true := by kernel_rfl) (hcb : callable P f = true := by first | rfl | simp) : RunD z P N ops S D ρ0 ρ σ K := by
  simp only [Bool.and_eq_true] at hb
  obtain ⟨⟨⟨⟨⟨h1, h2⟩, h3⟩, h4⟩, h5⟩, h6⟩ := hb
  exact runD_call i h1 h2 h3 ho h4 h5 h6 hw hv hcb c k
theorem dop {S D : List Nat} {ρ0 : Nat → AV} (i : Nat) {o : Oper} (ho : ops[i]? = some o)
    (k : match wantedA ops o ρ with
      | some b => (b = true → match opA P ρ σ o.op with
          | some (v, σ') => (∀ j ∈ later D o, Fact P ops ρ σ j → Fact P ops ρ σ' j) ∧ RunD z P N ops (i :: S) (later D o) ρ0 (putA ρ o.dst v) σ' K
          | none => False) ∧ (b = false → RunD z P N ops (i :: S) (later D o) ρ0 (putA ρ o.dst undefA) σ K)
      | none => False)
    (hb : (acyclic ops && (ops.toList.all fun o => inN N o.dst) && ready ops S i && ((List.range ops.size).all fun j => j == i || !ready ops S j) && (match o.dst with | some x => fresh ops (later D o) x | none => true) && covers ops D o) = true := by kernel_rfl) : RunD z P N ops S D ρ0 ρ σ K := by
  simp only [Bool.and_eq_true] at hb
  obtain ⟨⟨⟨⟨⟨h1, h2⟩, h3⟩, h4⟩, h5⟩, h6⟩ := hb
  exact runD_op' i h1 h2 h3 ho h4 h5 h6 k
theorem d2 {S D : List Nat} {ρ0 : Nat → AV} (i j : Nat) (hi : Alt z P N ops S D ρ0 ρ σ K i) (hj : Alt z P N ops S D ρ0 ρ σ K j)
    (hb : (acyclic ops && (ops.toList.all fun o => inN N o.dst) && ((List.range ops.size).all fun q => [i, j].contains q || !ready ops S q)) = true := by kernel_rfl) : RunD z P N ops S D ρ0 ρ σ K := by
  simp only [Bool.and_eq_true] at hb
  obtain ⟨⟨h1, h2⟩, h3⟩ := hb
  exact runD_two i j h1 h2 h3 hi hj
theorem d3 {S D : List Nat} {ρ0 : Nat → AV} (i j q : Nat) (hi : Alt z P N ops S D ρ0 ρ σ K i) (hj : Alt z P N ops S D ρ0 ρ σ K j) (hq : Alt z P N ops S D ρ0 ρ σ K q)
    (hb : (acyclic ops && (ops.toList.all fun o => inN N o.dst) && ((List.range ops.size).all fun r => [i, j, q].contains r || !ready ops S r)) = true := by kernel_rfl) : RunD z P N ops S D ρ0 ρ σ K := by
  simp only [Bool.and_eq_true] at hb
  obtain ⟨⟨h1, h2⟩, h3⟩ := hb
  exact runD_alts i [j, q] h1 h2 h3 (fun r hr => by
    simp only [List.mem_cons, List.not_mem_nil, or_false] at hr
    rcases hr with rfl | rfl | rfl
    · exact hi
    · exact hj
    · exact hq)
theorem sqc {x y : Code} {X : Type} (l : List Nat) (I : X → (Nat → AV) → St → Prop) (hy : ∀ k ρ1 σ1, (∀ r, r ∈ l → ρ1 r = ρ r) → I k ρ1 σ1 → Run z P N y ρ1 σ1 Q)
    (hx : ∀ K' : (Nat → AV) → St → Prop, (∀ k ρ1 σ1, (∀ r, r ∈ l → ρ1 r = ρ r) ∧ I k ρ1 σ1 → K' ρ1 σ1) → Run z P N x ρ σ (Then K' Q)) : Run z P N (.seq x y) ρ σ Q :=
  run_seq (run_mono (hx (fun ρ1 σ1 => Run z P N y ρ1 σ1 Q) (fun k ρ1 σ1 h => hy k ρ1 σ1 h.1 h.2)) (fun e ρ' σ' hq => by cases e <;> exact hq))
theorem ac {S D : List Nat} {ρ0 : Nat → AV} (i : Nat) {o : Oper} {f : FuncId} {args : List AV} {Qc : AV → St → Prop} (ho : ops[i]? = some o)
    (hw : wantedA ops o ρ = some true := by first | rfl | (simp [F]; done)) (hv : callOf ρ σ o.op = some (f, args) := by first | rfl | (simp [F]; done)) (c : CallsA P f args σ Qc)
    (k : ∀ av σ', Qc av σ' → (∀ j ∈ later D o, Fact P ops ρ σ j → Fact P ops ρ σ' j) ∧ RunD z P N ops (i :: S) (later D o) ρ0 (putA ρ o.dst av) σ' K)
    (hb : (ready ops S i && (match o.dst with | some x => fresh ops (later D o) x | none => true) && covers ops D o) = true := by kernel_rfl) (hcb : callable P f = true := by first | rfl | simp) : Alt z P N ops S D ρ0 ρ σ K i := by
  simp only [Bool.and_eq_true] at hb
  obtain ⟨⟨h1, h2⟩, h3⟩ := hb
  exact altD_call i h1 ho h2 h3 hw hv hcb c k
theorem ao {S D : List Nat} {ρ0 : Nat → AV} (i : Nat) {o : Oper} (ho : ops[i]? = some o)
    (k : match opA P ρ σ o.op with
      | some (av, σ') => (∀ j ∈ later D o, Fact P ops ρ σ j → Fact P ops ρ σ' j) ∧ RunD z P N ops (i :: S) (later D o) ρ0 (putA ρ o.dst av) σ' K
      | none => False)
    (hb : (ready ops S i && (match o.dst with | some x => fresh ops (later D o) x | none => true) && covers ops D o) = true := by kernel_rfl)
    (hw : wantedA ops o ρ = some true := by first | rfl | (simp [F]; done)) : Alt z P N ops S D ρ0 ρ σ K i := by
  simp only [Bool.and_eq_true] at hb
  obtain ⟨⟨h1, h2⟩, h3⟩ := hb
  exact altD_op' i h1 ho h2 h3 hw k
theorem dd {S D : List Nat} {ρ0 : Nat → AV} (h : K ρ σ) (hb : (acyclic ops && (ops.toList.all fun o => inN N o.dst) && ((List.range ops.size).all fun i => S.contains i)) = true := by kernel_rfl) : RunD z P N ops S D ρ0 ρ σ K := by
  simp only [Bool.and_eq_true] at hb
  obtain ⟨⟨h1, h2⟩, h3⟩ := hb
  exact runD_done h1 h2 h3 h
theorem ln {D : List Nat} {o : Oper} {X : Nat → Prop} (h : (later D o).isEmpty = true := by kernel_rfl) : ∀ j, j ∈ later D o → X j := later_nil h
end

end Go.Vm
