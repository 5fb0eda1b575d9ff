import Derived.Test.YtkbhdlocdajhmaaVmB
/-
  What is written, what is new: each step keeps what is told.
-/
namespace Go.Vm
set_option linter.unnecessarySimpa false
set_option linter.unusedSimpArgs false
set_option linter.unusedVariables false
open Go

theorem AVR.cells_eq {G : Gh} {w : World} {x : Value} {a : AV} (h : AVR G w x a) : x.cells.size = a.cells.length ∧ ∀ (j : Nat) y b, x.cells[j]? = some y → a.cells[j]? = some b → AVR G w y b := by
  have one : ∀ (x : Value) (a : AV), AVR G w x a → x.cells = #[x] → a.cells = [a] → x.cells.size = a.cells.length ∧ ∀ (j : Nat) y b, x.cells[j]? = some y → a.cells[j]? = some b → AVR G w y b := by
    intro x a h e1 e2
    rw [e1, e2]
    refine ⟨rfl, fun j y b hj hb => ?_⟩
    match j with
    | 0 => simp at hj hb; subst hj; subst hb; exact h
    | j + 1 => simp at hb
  cases h with
  | agg hl h => exact ⟨hl, h⟩
  | v h =>
    refine one _ _ (.v h) ?_ rfl
    cases x <;> first | rfl | simp [plain] at h
  | tup hl h => exact one _ _ (.tup hl h) rfl rfl
  | sl0 ht => exact one _ _ (.sl0 ht) rfl rfl
  | sl xs hl hn hc hs hx h ht => exact one _ _ (.sl xs hl hn hc hs hx h ht) rfl rfl
  | ep xs hl hs hx h => exact one _ _ (.ep xs hl hs hx h) rfl rfl
  | ptr h => exact one _ _ (.ptr h) rfl rfl
  | bs h hc => exact one _ _ (.bs h hc) rfl rfl
  | fn hl h => exact one _ _ (.fn hl h) rfl rfl

theorem AVR.oneCell {G : Gh} {w : World} {x : Value} {a : AV} (h : AVR G w x a) (hc : a.isCell = true) : x.oneCell' = true := by
  cases h with
  | v h => cases x <;> first | rfl | simp [AV.isCell] at hc
  | agg => simp [AV.isCell] at hc
  | tup => simp [AV.isCell] at hc
  | _ => rfl

/-- A row's cells are turned where they are nobody's that is told, and sealed by none. -/
theorem ext_setRow {G : Gh} {w : World} {b : Nat} {c c' : Array Value} {e : TypeId} {fr : Nat × Nat} (hb : w.heap[b]? = some (.cells c e fr)) (hs : c'.size = c.size)
    (hk : ∀ o : Nat, (G.tag b o = .no ∨ G.tag b o = .fixd) → c'[o]? = c[o]?) : Ext G w G (w.setRow b c') := by
  refine ⟨rfl, rfl, rfl, rfl, by simp, ?_, ?_, fun _ _ h => h, fun _ _ _ h => h, fun _ _ h => h, fun _ m r h => ⟨m, r, h, Nat.le_refl _, fun _ => rfl⟩⟩
  · intro b2 c2 e2 fr2 h2
    by_cases hbb : b2 = b
    · subst hbb
      rw [hb] at h2
      cases h2
      exact ⟨c', setRow_heap w b2 c c' e fr hb, hs, hk⟩
    · exact ⟨c2, by rw [setRow_other w b b2 c' hbb]; exact h2, rfl, fun _ _ => rfl⟩
  · intro b2 ob h2 hne
    by_cases hbb : b2 = b
    · subst hbb
      rw [hb] at h2
      cases h2
      exact (hne _ _ _ rfl).elim
    · rw [setRow_other w b b2 c' hbb]; exact h2

theorem splice_length (cs : List AV) (off : Nat) (vs : List AV) (h : off + vs.length ≤ cs.length) : (splice cs off vs).length = cs.length := by
  simp [splice]; omega

theorem splice_get {α : Type} (cs : List α) (off : Nat) (vs : List α) (h : off + vs.length ≤ cs.length) (j : Nat) :
    (cs.take off ++ vs ++ cs.drop (off + vs.length))[j]? = if off ≤ j ∧ j < off + vs.length then vs[j - off]? else cs[j]? := by
  by_cases h1 : j < off
  · rw [if_neg (by omega), List.append_assoc, List.getElem?_append_left (by simp; omega), List.getElem?_take, if_pos h1]
  · by_cases h2 : j < off + vs.length
    · rw [if_pos (by omega), List.getElem?_append_left (by simp; omega), List.getElem?_append_right (by simp; omega)]
      congr 1; simp; omega
    · rw [if_neg (by omega), List.getElem?_append_right (by simp; omega), List.getElem?_drop]
      congr 1; simp; omega

theorem run_storeVar_obj {P : Program} {w : World} {t : TypeId} {j : TypeInfo} {b off : Nat} {c : Array Value} {e : TypeId} {x : Value} (hj : P.info? t = some j) (hb : w.heap[b]? = some (.cells c e (0, 0)))
    (hsz : x.cells.size = j.size) (hfit : off + j.size ≤ c.size) (h1 : ∀ v ∈ x.cells.toList, v.oneCell' = true) :
    (storeVar t ⟨b, off, none⟩ x).run P w = .ok () (w.setRow b (c.toList.take off ++ x.cells.toList ++ c.toList.drop (off + x.cells.size)).toArray) := by
  unfold storeVar
  have hst := run_storeCells_at P b off e x.cells.toList 0 c w hb (by simp [hsz]; omega) h1
  simp only [Nat.add_zero, Array.length_toList] at hst
  simp only [Sem.run_bind, run_sizeOf w hj, Result.andThen_ok, hsz, ne_eq, not_true_eq_false, if_false]
  rw [hsz] at hst
  exact hst

theorem storeA_sound {P : Program} {G : Gh} {w : World} {σ σ' : St} {t : TypeId} {x y : Value} {a v : AV} (hS : RelS G w σ) (hx : AVR G w x a) (hy : AVR G w y v) (h : storeA P t a v σ = some σ') :
    ∃ w', (Instr.storeAt t x y).run P w = .ok () w' ∧ Ext G w G w' ∧ RelS G w' σ' := by
  unfold storeA at h
  split at h
  · rename_i id off
    split at h
    · rename_i cs i hcs hi
      split at h
      · rename_i hcond
        obtain ⟨hl, hfit, hcell⟩ := hcond
        cases h
        cases hx with
        | ptr hp =>
        rename_i b
        obtain ⟨d, j, hd, hj, hz, hag, hsz, hby⟩ := ti_some hi
        obtain ⟨c, e, cs', h1, h2, h3, h4, h5⟩ := hS.obj id b hp
        rw [hcs] at h1
        cases h1
        obtain ⟨hce, hcr⟩ := hy.cells_eq
        have hcell' : ∀ u ∈ y.cells.toList, u.oneCell' = true := by
          intro u hu
          obtain ⟨k, hk, rfl⟩ := List.getElem_of_mem hu
          have hk' : k < v.cells.length := by rw [← hce]; simpa using hk
          refine (hcr k _ _ (by simpa using (List.getElem?_eq_getElem hk)) (List.getElem?_eq_getElem hk')).oneCell ?_
          exact List.all_eq_true.1 hcell _ (List.getElem_mem hk')
        have hrun := run_storeVar_obj (P := P) (t := t) (off := off) hj h2 (by rw [hce, hl, hsz]) (by rw [← hsz, h3]; exact hfit) hcell'
        have hget : ∀ k : Nat, ((c.toList.take off ++ y.cells.toList ++ c.toList.drop (off + y.cells.size)).toArray)[k]? = if off ≤ k ∧ k < off + y.cells.size then y.cells[k - off]? else c[k]? := by
          intro k
          have := splice_get c.toList off y.cells.toList (by simp [hce, hl, h3]; omega) k
          simpa using this
        have hsize : ((c.toList.take off ++ y.cells.toList ++ c.toList.drop (off + y.cells.size)).toArray).size = c.size := by
          simp [hce, hl]; omega
        generalize ((c.toList.take off ++ y.cells.toList ++ c.toList.drop (off + y.cells.size)).toArray) = c' at hrun hget hsize
        have hE : Ext G w G (w.setRow b c') := by
          refine ext_setRow h2 hsize (fun o ho => ?_)
          rw [hget o]
          split
          · have := h4 o (by rw [hce, hl] at *; omega)
            rw [this] at ho
            rcases ho with ho | ho <;> cases ho
          · rfl
        refine ⟨w.setRow b c', by simpa [Instr.storeAt, Instr.sureAddr] using hrun, hE, ?_, hS.inj, ?_, ?_, ?_, fun id2 h2 => hS.tot id2 (by simpa using h2), hS.totk⟩
        · intro id2 b2 hp2
          by_cases hb2 : b2 = b
          · subst hb2
            have hid := hS.inj _ _ _ hp hp2
            subst hid
            refine ⟨c', e, splice cs off v.cells, ?_, setRow_heap w b2 c c' e (0, 0) h2, by rw [splice_length _ _ _ (by omega), hsize, h3], fun j hj => h4 j (by rw [← hsize]; exact hj), ?_⟩
            · have hlt := (List.getElem?_eq_some_iff.1 hcs).1
              simp [hlt]
            · intro k u av hu hav
              rw [hget k] at hu
              have hsp := splice_get cs off v.cells (by omega) k
              unfold splice at hav
              rw [hsp] at hav
              rw [hce] at hu
              split at hu
              · rename_i hr
                rw [if_pos hr] at hav
                exact (hcr _ _ _ hu hav).mono hE
              · rename_i hr
                rw [if_neg hr] at hav
                exact (h5 _ _ _ hu hav).mono hE
          · obtain ⟨c2, e2, cs2, g1, g2, g3, g4, g5⟩ := hS.obj id2 b2 hp2
            refine ⟨c2, e2, cs2, ?_, by rw [setRow_other w b b2 c' hb2]; exact g2, g3, g4, fun k u av hu hav => (g5 k u av hu hav).mono hE⟩
            have hne : id2 ≠ id := fun e => by subst e; rw [hp] at hp2; cases hp2; exact hb2 rfl
            show (σ.objs.set id _)[id2]? = some cs2
            rw [List.getElem?_set_ne (Ne.symm hne)]; exact g1
        · intro k m b2 lo hi' hk
          obtain ⟨t1, t2⟩ := hS.tok k m b2 lo hi' hk
          refine ⟨t1, fun hlt => ?_⟩
          obtain ⟨c2, e2, g1, g2, g3⟩ := t2 hlt
          by_cases hb2 : b2 = b
          · subst hb2
            rw [h2] at g1
            cases g1
            exact ⟨c', e, setRow_heap w b2 c c' e (0, 0) h2, by rw [hsize]; exact g2, g3⟩
          · exact ⟨c2, e2, by rw [setRow_other w b b2 c' hb2]; exact g1, g2, g3⟩
        · intro b2 o ho
          exact hS.fresh b2 o (by simpa using ho)
        · intro g cs2 hg
          exact (hS.gl g cs2 hg).mono hE
      · cases h
    · cases h
  · cases h

/-- The marks of a new block. -/
def Gh.withBlock (G : Gh) (b : Nat) (f : Nat → Tag) : Gh := { G with tag := fun x o => if x = b then f o else G.tag x o }

theorem ext_alloc {G : Gh} {w : World} (hf : ∀ b o, w.heap.size ≤ b → G.tag b o = .no) (o : Obj) (f : Nat → Tag) : Ext G w (G.withBlock w.heap.size f) (w.alloc o) := by
  refine ⟨rfl, rfl, rfl, rfl, by simp, ?_, ?_, ?_, ?_, fun _ _ h => h, fun _ m r h => ⟨m, r, h, Nat.le_refl _, fun _ => rfl⟩⟩
  · intro b c e fr hb
    have hlt : b < w.heap.size := (Array.getElem?_eq_some_iff.1 hb).1
    exact ⟨c, by rw [heap_alloc_old w o b hlt]; exact hb, rfl, fun _ _ => rfl⟩
  · intro b ob hb _
    have hlt : b < w.heap.size := (Array.getElem?_eq_some_iff.1 hb).1
    rw [heap_alloc_old w o b hlt]; exact hb
  · intro b o hs
    simp only [Gh.withBlock]
    split
    · rename_i hb
      subst hb
      rw [hf _ _ (Nat.le_refl _)] at hs; cases hs
    · exact hs
  · intro b o hb hn
    simp only [Gh.withBlock]
    rw [if_neg (by omega)]; exact hn

theorem ext_drew (G : Gh) (w : World) : Ext G w G w.drew :=
  ⟨rfl, rfl, rfl, rfl, Nat.le_refl _, fun _ c _ _ h => ⟨c, h, rfl, fun _ _ => rfl⟩, fun _ _ h _ => h, fun _ _ h => h, fun _ _ _ h => h, fun _ _ h => h, fun _ m r h => ⟨m, r, h, Nat.le_refl _, fun _ => rfl⟩⟩

theorem RelS.drew {G : Gh} {w : World} {σ : St} (h : RelS G w σ) : RelS G w.drew σ := by
  have hE := ext_drew G w
  refine ⟨fun id b hp => ?_, h.inj, h.tok, h.fresh, fun g cs hg => (h.gl g cs hg).mono hE, h.tot, h.totk⟩
  obtain ⟨c, e, cs, h1, h2, h3, h4, h5⟩ := h.obj id b hp
  exact ⟨c, e, cs, h1, h2, h3, h4, fun j x a hx ha => (h5 j x a hx ha).mono hE⟩

/-- What was told stays told where a new block is laid, whatever its marks. -/
theorem RelS.alloc {G : Gh} {w : World} {σ : St} (h : RelS G w σ) (o : Obj) (f : Nat → Tag) : RelS (G.withBlock w.heap.size f) (w.alloc o) σ := by
  have hE := ext_alloc h.fresh o f
  refine ⟨fun id b hp => ?_, h.inj, fun k m b lo hi hk => ?_, fun b o' hb => ?_, fun g cs hg => (h.gl g cs hg).mono hE, h.tot, h.totk⟩
  · obtain ⟨c, e, cs, h1, h2, h3, h4, h5⟩ := h.obj id b hp
    have hlt : b < w.heap.size := (Array.getElem?_eq_some_iff.1 h2).1
    refine ⟨c, e, cs, h1, by rw [heap_alloc_old w o b hlt]; exact h2, h3, fun j hj => ?_, fun j x a hx ha => (h5 j x a hx ha).mono hE⟩
    simp only [Gh.withBlock]; rw [if_neg (by omega)]; exact h4 j hj
  · obtain ⟨t1, t2⟩ := h.tok k m b lo hi hk
    refine ⟨t1, fun hlt => ?_⟩
    obtain ⟨c, e, g1, g2, g3⟩ := t2 hlt
    have hlt : b < w.heap.size := (Array.getElem?_eq_some_iff.1 g1).1
    refine ⟨c, e, by rw [heap_alloc_old w o b hlt]; exact g1, g2, fun j hj hj2 => ?_⟩
    simp only [Gh.withBlock]; rw [if_neg (by omega)]; exact g3 j hj hj2
  · simp only [Gh.withBlock]
    have hb' : w.heap.size + 1 ≤ b := by simpa using hb
    rw [if_neg (by omega)]; exact h.fresh b o' (by omega)

/-- A new object of the call's own. -/
theorem newObj_sound {G : Gh} {w : World} {σ : St} (hS : RelS G w σ) (e : TypeId) (c : Array Value) (cs : List AV) (hl : c.size = cs.length) (hr : ∀ (j : Nat) x a, c[j]? = some x → cs[j]? = some a → AVR G w x a) :
    ∃ G', Ext G w G' (w.alloc (.cells c e)) ∧ RelS G' (w.alloc (.cells c e)) { σ with objs := σ.objs ++ [cs] } ∧ G'.pl σ.objs.length = some w.heap.size := by
  have hnone : G.pl σ.objs.length = none := by
    cases hp : G.pl σ.objs.length with
    | none => rfl
    | some b =>
      obtain ⟨_, _, _, h1, _⟩ := hS.obj _ _ hp
      simp at h1
  have hE1 := ext_alloc hS.fresh (.cells c e) (fun j => if j < c.size then .obj σ.objs.length else .no)
  have hS1 := hS.alloc (.cells c e) (fun j => if j < c.size then .obj σ.objs.length else .no)
  generalize hG1 : G.withBlock w.heap.size (fun j => if j < c.size then .obj σ.objs.length else .no) = G1 at hE1 hS1
  let G' : Gh := { G1 with pl := fun id => if id = σ.objs.length then some w.heap.size else G1.pl id }
  have hpl1 : G1.pl = G.pl := by rw [← hG1]; rfl
  have hE2 : Ext G1 (w.alloc (.cells c e)) G' (w.alloc (.cells c e)) := by
    refine ⟨rfl, rfl, rfl, rfl, Nat.le_refl _, fun _ c _ _ h => ⟨c, h, rfl, fun _ _ => rfl⟩, fun _ _ h _ => h, fun _ _ h => h, fun _ _ _ h => h, fun id b hp => ?_, fun _ m r h => ⟨m, r, h, Nat.le_refl _, fun _ => rfl⟩⟩
    show (if id = σ.objs.length then _ else _) = _
    split
    · rename_i hid
      subst hid
      rw [hpl1, hnone] at hp; cases hp
    · exact hp
  refine ⟨G', hE1.trans hE2, ⟨?_, ?_, ?_, hS1.fresh, fun g cs hg => (hS1.gl g cs hg).mono hE2, fun id hid => ?_, hS1.totk⟩, by simp [G']⟩
  case refine_4 =>
    show ∃ b, (if id = σ.objs.length then some w.heap.size else G1.pl id) = some b
    by_cases h : id = σ.objs.length
    · rw [if_pos h]; exact ⟨_, rfl⟩
    · rw [if_neg h]; exact hS1.tot id (by simp at hid; omega)
  · intro id b hp
    by_cases hid : id = σ.objs.length
    · subst hid
      have hb : b = w.heap.size := by simpa [G'] using hp.symm
      subst hb
      refine ⟨c, e, cs, by simp, heap_alloc_new w _, hl, fun j hj => ?_, fun j x a hx ha => (hr j x a hx ha).mono (hE1.trans hE2)⟩
      show G1.tag _ _ = _
      rw [← hG1]
      simp [Gh.withBlock, hj]
    · have hp' : G1.pl id = some b := by simpa [G', hid] using hp
      obtain ⟨c2, e2, cs2, h1, h2, h3, h4, h5⟩ := hS1.obj id b hp'
      refine ⟨c2, e2, cs2, ?_, h2, h3, h4, fun j x a hx ha => (h5 j x a hx ha).mono hE2⟩
      show (σ.objs ++ [cs])[id]? = some cs2
      rw [List.getElem?_append_left (List.getElem?_eq_some_iff.1 h1).1]; exact h1
  · intro i j b hi hj
    have key : ∀ i, i ≠ σ.objs.length → G'.pl i = some w.heap.size → False := by
      intro i hne hp
      have hp' : G.pl i = some w.heap.size := by
        have : G1.pl i = some w.heap.size := by simpa [G', hne] using hp
        rw [← hpl1]; exact this
      obtain ⟨c2, e2, cs2, h1, h2, _⟩ := hS.obj i _ hp'
      have := (Array.getElem?_eq_some_iff.1 h2).1; omega
    by_cases h1 : i = σ.objs.length <;> by_cases h2 : j = σ.objs.length
    · rw [h1, h2]
    · subst h1
      have hb : b = w.heap.size := by simpa [G'] using hi.symm
      subst hb; exact (key j h2 hj).elim
    · subst h2
      have hb : b = w.heap.size := by simpa [G'] using hj.symm
      subst hb; exact (key i h1 hi).elim
    · exact hS1.inj i j b (by simpa [G', h1] using hi) (by simpa [G', h2] using hj)
  · intro k m b lo hi hk
    exact hS1.tok k m b lo hi hk

end Go.Vm
