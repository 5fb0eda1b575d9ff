import Derived.Test.YtdbaddholggkbaaVmX
import Derived.OpenShut
/-
  What comes in: any plain data, told by lists.
-/
namespace Go.Vm
set_option linter.unnecessarySimpa false
set_option linter.unusedSimpArgs false
set_option linter.unusedVariables false
open Go

def leavesF (go : TypeId → Option (List TypeId)) : List Field → List TypeId → Option (List TypeId)
  | [], acc => some acc
  | f :: fs, acc => if f.offset = acc.length then match go f.type with
      | some l => leavesF go fs (acc ++ l)
      | none => none
    else none

/-- The types of a value's cells. -/
def leaves (P : Program) : Nat → TypeId → Option (List TypeId)
  | 0, _ => none
  | n + 1, t => match P.underlying t with
    | some .bool => some [t]
    | some (.int _) => some [t]
    | some .string => some [t]
    | some (.slice e) => match leaves P n e with
      | some l => if 0 < l.length then some [t] else none
      | none => none
    | some (.struct fs) => match leavesF (leaves P n) fs.toList [] with
      | some l => if P.cellsOf t = l.length then some l else none
      | none => none
    | some (.array k e) => match leaves P n e with
      | some l => if P.cellsOf t = k * l.length ∧ P.cellsOf e = l.length then some (List.replicate k l).flatten else none
      | none => none
    | _ => none

/-- A cell of a type, as it is told. -/
inductive WC (P : Program) : TypeId → AV → Prop
  | bool {t : TypeId} {b : Bool} (h : P.underlying t = some .bool) : WC P t (.v (.bool b))
  | int {t : TypeId} {k : IntKind} {n : Int} (h : P.underlying t = some (.int k)) (hw : (Lit.int k n).wf = true) : WC P t (.v (.int k n))
  | string {t : TypeId} {s : ByteArray} (h : P.underlying t = some .string) (hs : s.size ≤ maxLen) : WC P t (.v (.string s))
  | slice {t e : TypeId} {fuel : Nat} {ls : List TypeId} {cs : List AV} {n : Nat} (h : P.underlying t = some (.slice e)) (hls : leaves P fuel e = some ls) (hl : cs.length = n * ls.length) (hn : n ≤ maxLen)
      (hc : ∀ (j : Nat) a u, cs[j]? = some a → ls[j % ls.length]? = some u → WC P u a) : WC P t (.sl ls.length cs n .shut)

theorem choose_list {p : Nat → Value → AV → Prop} (n : Nat) (h : ∀ j, j < n → ∃ x a, p j x a) : ∃ (xs : List Value) (as : List AV), xs.length = n ∧ as.length = n ∧ ∀ (j : Nat) x a, xs[j]? = some x → as[j]? = some a → p j x a := by
  induction n with
  | zero => exact ⟨[], [], rfl, rfl, by simp⟩
  | succ n ih =>
    obtain ⟨xs, as, h1, h2, h3⟩ := ih (fun j hj => h j (by omega))
    obtain ⟨x, a, hp⟩ := h n (by omega)
    refine ⟨xs ++ [x], as ++ [a], by simp [h1], by simp [h2], fun j y b hy hb => ?_⟩
    by_cases hj : j < n
    · rw [List.getElem?_append_left (by omega)] at hy hb
      exact h3 j y b hy hb
    · by_cases hj2 : j = n
      · subst hj2
        rw [List.getElem?_append_right (by omega)] at hy hb
        simp [h1] at hy
        simp [h2] at hb
        subst hy; subst hb; exact hp
      · rw [List.getElem?_append_right (by omega), h1] at hy
        rw [List.getElem?_eq_none (by simp; omega)] at hy; cases hy

theorem flatten_get {l : List TypeId} {k j : Nat} {u : TypeId} (h : (List.replicate k l).flatten[j]? = some u) : l[j % l.length]? = some u ∧ j < k * l.length := by
  induction k generalizing j with
  | zero => simp at h
  | succ k ih =>
    rw [List.replicate_succ, List.flatten_cons] at h
    by_cases hj : j < l.length
    · rw [List.getElem?_append_left hj] at h
      rw [Nat.mod_eq_of_lt hj]
      exact ⟨h, by rw [Nat.add_mul]; omega⟩
    · rw [List.getElem?_append_right (by omega)] at h
      obtain ⟨h1, h2⟩ := ih h
      refine ⟨?_, by rw [Nat.add_mul]; omega⟩
      rw [Nat.mod_eq_sub_mod (by omega)]; exact h1

section
variable {H : Type} {enc : TypeId × Value → H} {P : Program} {G : Gh} {W : World} {spare : Nat → Bool}

def Good (P : Program) (G : Gh) (W : World) (x : Value) (u : TypeId) : Prop := ∃ a, AVR G W x a ∧ WC P u a ∧ x.oneCell' = true

theorem leavesF_good (go : TypeId → Option (List TypeId)) (cs : List Value) : ∀ (fs : List Field) (acc out : List TypeId), leavesF go fs acc = some out →
    (∀ f ∈ fs, ∀ l, go f.type = some l → ∀ r x u, cs[f.offset + r]? = some x → l[r]? = some u → Good P G W x u) →
    (∀ (j : Nat) x u, cs[j]? = some x → acc[j]? = some u → Good P G W x u) → ∀ (j : Nat) x u, cs[j]? = some x → out[j]? = some u → Good P G W x u
  | [], acc, out, h, _, ha => by simp [leavesF] at h; subst h; exact ha
  | f :: fs, acc, out, h, hf, ha => by
    unfold leavesF at h
    split at h
    · rename_i ho
      split at h
      · rename_i l hl
        refine leavesF_good go cs fs (acc ++ l) out h (fun g hg => hf g (List.mem_cons_of_mem _ hg)) (fun j x u hx hu => ?_)
        by_cases hj : j < acc.length
        · rw [List.getElem?_append_left hj] at hu
          exact ha j x u hx hu
        · rw [List.getElem?_append_right (by omega)] at hu
          refine hf f (by simp) l hl (j - acc.length) x u ?_ hu
          rw [ho, show acc.length + (j - acc.length) = j by omega]; exact hx
      · cases h
    · cases h

theorem cells_get {a : Addr} {base n : Nat} {cs : List Value} (h : W.cells? base a n = some cs) : cs.length = n ∧ ∀ r, r < n → ∃ x, cs[r]? = some x ∧ W.cell? (a.add r) = some x := by
  unfold World.cells? at h
  split at h
  · have hl := mapM_some_length h
    refine ⟨by simpa using hl, fun r hr => ?_⟩
    have := mapM_some_get h r r (by simp [hr])
    have hlt : r < cs.length := by rw [hl]; simpa using hr
    exact ⟨cs[r], List.getElem?_eq_getElem hlt, by rw [this]; exact List.getElem?_eq_getElem hlt⟩
  · cases h

theorem open_cells (hG : ∀ b o, b < W.heap.size → G.tag b o = .fixd) : ∀ (n : Nat) (t : TypeId) (ls : List TypeId), leaves P n t = some ls → ∀ (fuel : Nat) (cs : List Value) (x : DataW H × List MemPlace), DataW.trod enc P W 0 spare true fuel t cs = some x →
    cs.length = ls.length ∧ ∀ (j : Nat) y u, cs[j]? = some y → ls[j]? = some u → Good P G W y u := by
  intro n
  induction n with
  | zero => intro t ls h; simp [leaves] at h
  | succ n ih =>
    intro t ls h fuel cs x hx
    have one : ∀ y, cs = [y] → ls = [t] → Good P G W y t → cs.length = ls.length ∧ ∀ (j : Nat) y u, cs[j]? = some y → ls[j]? = some u → Good P G W y u := by
      intro y e1 e2 hg
      subst e1; subst e2
      refine ⟨rfl, fun j z u hz hu => ?_⟩
      match j with
      | 0 => simp at hz hu; subst hz; subst hu; exact hg
      | j + 1 => simp at hz
    unfold leaves at h
    split at h
    · rename_i hu
      cases h
      obtain ⟨b, rfl, _⟩ := DataW.trod_bool hu hx
      exact one _ rfl rfl ⟨.v (.bool b), .v rfl, .bool hu, rfl⟩
    · rename_i k hu
      cases h
      obtain ⟨m, rfl, _, hw⟩ := DataW.trod_int hu hx
      exact one _ rfl rfl ⟨.v (.int k m), .v rfl, .int hu hw, rfl⟩
    · rename_i hu
      cases h
      obtain ⟨s, rfl, _, hs⟩ := DataW.trod_string hu hx
      exact one _ rfl rfl ⟨.v (.string s), .v rfl, .string hu hs, rfl⟩
    · rename_i e hu
      split at h
      case h_2 => cases h
      rename_i l hl
      split at h
      case isFalse => cases h
      rename_i hpos
      cases h
      rcases DataW.trod_slice hu hx with ⟨rfl, _⟩ | ⟨a, len, cap, elems, rest, m, _, rfl, _, _, hlc, hcm, hel, hat, _⟩
      · exact one _ rfl rfl ⟨.sl l.length [] 0 .shut, .sl0 trivial, .slice hu hl (by simp) (by simp [maxLen]) (by simp), rfl⟩
      · refine one _ rfl rfl ?_
        by_cases hlen : len = 0
        · subst hlen
          exact ⟨.sl l.length [] 0 .shut, .sl0 trivial, .slice hu hl (by simp) (by simp [maxLen]) (by simp), rfl⟩
        have hcell : ∀ i, i < len → ∃ csi, W.cells? 0 (a.add (i * P.cellsOf e)) (P.cellsOf e) = some csi ∧ csi.length = l.length ∧ ∀ (j : Nat) y u, csi[j]? = some y → l[j]? = some u → Good P G W y u := by
          intro i hi
          have h1 := hat i hi
          have hlt : i < elems.length := by omega
          rw [List.getElem?_eq_getElem hlt] at h1
          cases hc : W.cells? 0 (a.add (i * P.cellsOf e)) (P.cellsOf e) with
          | none => rw [hc] at h1; simp at h1
          | some csi =>
            rw [hc] at h1
            simp only [Option.bind_some] at h1
            obtain ⟨h2, h3⟩ := ih e l hl m csi _ h1
            exact ⟨csi, rfl, h2, h3⟩
        have hsz : P.cellsOf e = l.length := by
          obtain ⟨c0, h0, h1, _⟩ := hcell 0 (by omega)
          have := (cells_get h0).1; omega
        obtain ⟨b, o, rfl⟩ : ∃ b o, a = ⟨b, o, none⟩ := by
          obtain ⟨c0, h0, h1, _⟩ := hcell 0 (by omega)
          obtain ⟨y, _, hy⟩ := (cells_get h0).2 0 (by omega)
          rw [Nat.zero_mul] at hy
          simp only [Addr.add, if_true] at hy
          obtain ⟨b, o, sp⟩ := a
          cases sp with
          | none => exact ⟨b, o, rfl⟩
          | some s =>
            unfold World.cell? at hy
            split at hy
            · simp at hy
            · cases hy
        have hall : ∀ j, j < len * l.length → ∃ y av, W.cell? ⟨b, o + j, none⟩ = some y ∧ y.oneCell' = true ∧ AVR G W y av ∧ ∀ u, l[j % l.length]? = some u → WC P u av := by
          intro j hj
          have hdiv : j / l.length < len := by rw [Nat.div_lt_iff_lt_mul hpos]; exact hj
          obtain ⟨csi, h0, h1, h2⟩ := hcell (j / l.length) hdiv
          have hmod : j % l.length < l.length := Nat.mod_lt _ hpos
          obtain ⟨y, hy, hc⟩ := (cells_get h0).2 (j % l.length) (by rw [hsz]; exact hmod)
          rw [add_at, add_at, hsz] at hc
          have e1 : o + j / l.length * l.length + j % l.length = o + j := by
            rw [Nat.add_assoc, Nat.mul_comm, Nat.div_add_mod]
          rw [e1] at hc
          obtain ⟨av, hav, hwc, ho⟩ := h2 _ y _ hy (List.getElem?_eq_getElem hmod)
          refine ⟨y, av, hc, ho, hav, fun u hu => ?_⟩
          rw [List.getElem?_eq_getElem hmod] at hu
          cases hu; exact hwc
        obtain ⟨xs, as, hxs, has, hp⟩ := choose_list (len * l.length) hall
        have hblk : b < W.heap.size := by
          obtain ⟨y, _, hy, _⟩ := hall 0 (Nat.mul_pos (by omega) hpos)
          exact World.block_lt_of_cell? W _ hy
        refine ⟨.sl l.length as len .shut, ?_, .slice hu hl has (by omega) (fun j av u ha hu => ?_), rfl⟩
        · refine .sl xs (by omega) has hlc (fun j _ => hG b _ hblk) (fun j y hy => ?_) (fun j y av hy ha => (hp j y av hy ha).2.2.1) trivial
          have hlt : j < as.length := by have := (List.getElem?_eq_some_iff.1 hy).1; omega
          have := hp j y _ hy (List.getElem?_eq_getElem hlt)
          exact ⟨this.1, this.2.1⟩
        · have hlt : j < xs.length := by have := (List.getElem?_eq_some_iff.1 ha).1; omega
          exact (hp j _ av (List.getElem?_eq_getElem hlt) ha).2.2.2 u hu
    · rename_i fs hu
      split at h
      case h_2 => cases h
      rename_i l hl
      split at h
      case isFalse => cases h
      rename_i hsz
      cases h
      obtain ⟨xs, m, _, _, hcl, hxl, hat⟩ := DataW.trod_struct hu hx
      refine ⟨by omega, leavesF_good (leaves P n) cs fs.toList [] ls hl (fun f hf l' hl' r y u hy hu' => ?_) (fun j y u _ hu' => by simp at hu')⟩
      obtain ⟨i, hi, rfl⟩ := List.getElem_of_mem hf
      have hi' : i < fs.size := by simpa using hi
      have h1 := hat i fs[i] (by simp [hi'])
      have hlt : i < xs.length := by omega
      rw [List.getElem?_eq_getElem hlt] at h1
      have e0 : fs.toList[i] = fs[i] := by simp
      rw [e0] at hl' hy
      obtain ⟨h2, h3⟩ := ih fs[i].type l' hl' m _ _ h1
      refine h3 r y u ?_ hu'
      have hr : r < l'.length := (List.getElem?_eq_some_iff.1 hu').1
      have hr2 : r < P.cellsOf fs[i].type := by
        rw [← h2] at hr
        rw [List.length_take] at hr
        omega
      rw [List.getElem?_take, if_pos hr2, List.getElem?_drop]; exact hy
    · rename_i k e hu
      split at h
      case h_2 => cases h
      rename_i l hl
      split at h
      case isFalse => cases h
      rename_i hsz
      obtain ⟨hsz, hce⟩ := hsz
      cases h
      obtain ⟨xs, m, _, _, hcl, hxl, hat⟩ := DataW.trod_array hu hx
      refine ⟨by simp; omega, fun j y u hy hu' => ?_⟩
      obtain ⟨h1, h2⟩ := flatten_get hu'
      have hpos : 0 < l.length := by
        apply Nat.pos_of_ne_zero
        intro h0
        rw [h0] at h2; simp at h2
      have hdiv : j / l.length < k := by rw [Nat.div_lt_iff_lt_mul hpos]; exact h2
      have h3 := hat (j / l.length) hdiv
      have hlt : j / l.length < xs.length := by rw [hxl]; exact hdiv
      rw [List.getElem?_eq_getElem hlt] at h3
      obtain ⟨h4, h5⟩ := ih e l hl m _ _ h3
      have hmod : j % l.length < l.length := Nat.mod_lt _ hpos
      refine h5 (j % l.length) y u ?_ h1
      rw [List.getElem?_take, hce, if_pos hmod, List.getElem?_drop, Nat.mul_comm, Nat.div_add_mod]; exact hy
    · cases h


/-- The marks of all that lies there at first: nobody may write it. -/
def atFirst (W : World) : Gh := { tag := fun b _ => if b < W.heap.size then .fixd else .no, pl := fun _ => none, tl := fun _ => none, rw := fun _ => none, base := 0 }

def noSt : St := { objs := [], toks := [], gl := fun _ => none, rows := [] }

theorem atFirst_rel (W : World) : RelS (atFirst W) W noSt :=
  ⟨fun id b h => (by cases h), fun i j b h => (by cases h), fun k m b lo hi h => (by cases h), fun b o h => by simp [atFirst]; omega, fun g cs h => (by cases h), fun id h => (by simp [noSt] at h), fun k h => (by simp [noSt] at h), fun k gc b o C h => (by cases h), fun k h => (by simp [noSt] at h)⟩

theorem open_arg {n : Nat} {t : TypeId} {ls : List TypeId} (hl : leaves P n t = some ls) {v : Value} {d : DataW H} {ps : List MemPlace} (h : DataW.Trod enc P W 0 spare true t v d ps) :
    ∃ as : List AV, as.length = ls.length ∧ v.cells.size = as.length ∧ (∀ (j : Nat) y a, v.cells[j]? = some y → as[j]? = some a → AVR (atFirst W) W y a) ∧ ∀ (j : Nat) a u, as[j]? = some a → ls[j]? = some u → WC P u a := by
  obtain ⟨fuel, hf⟩ := h
  obtain ⟨h1, h2⟩ := open_cells (P := P) (G := atFirst W) (W := W) (fun b o hb => by simp [atFirst, hb]) n t ls hl fuel _ _ hf
  have h3 : ∀ j, j < ls.length → ∃ x a, v.cells[j]? = some x ∧ AVR (atFirst W) W x a ∧ ∀ u, ls[j]? = some u → WC P u a := by
    intro j hj
    have hj2 : j < v.cells.size := by rw [← h1] at hj; simpa using hj
    obtain ⟨a, ha, hw, _⟩ := h2 j v.cells[j] ls[j] (by simp [hj2]) (List.getElem?_eq_getElem hj)
    exact ⟨_, a, Array.getElem?_eq_getElem hj2, ha, fun u hu => by rw [List.getElem?_eq_getElem hj] at hu; cases hu; exact hw⟩
  obtain ⟨xs, as, hx, ha, hp⟩ := choose_list ls.length h3
  refine ⟨as, ha, by rw [ha, ← h1]; simp, fun j y a hy haj => ?_, fun j a u haj hu => ?_⟩
  · have hlt : j < xs.length := by have := (List.getElem?_eq_some_iff.1 haj).1; omega
    have := hp j xs[j] a (List.getElem?_eq_getElem hlt) haj
    rw [hy] at this
    rw [Option.some.inj this.1]; exact this.2.1
  · have hlt : j < xs.length := by have := (List.getElem?_eq_some_iff.1 haj).1; omega
    exact (hp j xs[j] a (List.getElem?_eq_getElem hlt) haj).2.2 u hu

/-- What is behind a call that was walked so: all that lay there at first lies as it did. -/
theorem ext_below {G' : Gh} {W' : World} (h : Ext (atFirst W) W G' W') : RowKit.Below W.heap.size W W' := by
  refine ⟨h.os, h.tape, h.output, h.size, fun k hk => ?_⟩
  have hk' : W.heap[k]? = some W.heap[k] := Array.getElem?_eq_getElem hk
  by_cases hc : ∃ c e fr, W.heap[k] = .cells c e fr
  · obtain ⟨c, e, fr, he⟩ := hc
    rw [he] at hk'
    obtain ⟨c', h1, h2, h3⟩ := h.blk k c e fr hk'
    rw [hk', h1]
    have : c' = c := by
      apply Array.ext h2
      intro i hi1 hi2
      have := h3 i (.inr (by simp [atFirst, hk]))
      rw [Array.getElem?_eq_getElem hi1, Array.getElem?_eq_getElem hi2] at this
      exact Option.some.inj this
    rw [this]
  · rw [hk']
    exact h.oth k _ hk' (fun c e fr he => hc ⟨c, e, fr, he⟩)

end
end Go.Vm
