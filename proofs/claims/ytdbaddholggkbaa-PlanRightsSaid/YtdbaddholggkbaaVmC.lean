import Derived.Test.YtdbaddholggkbaaVmB
/-
  What is written, what is new: each step keeps what is told.
-/
namespace Go.Vm
set_option linter.unnecessarySimpa false
set_option linter.unusedSimpArgs false
set_option linter.unusedVariables false
open Go

theorem AVR.cells_eq {G : Gh} {w : World} {x : Value} {a : AV} (h : AVR G w x a) : x.cells.size = a.cells.length ∧ ∀ (j : Nat) y b, x.cells[j]? = some y → a.cells[j]? = some b → AVR G w y b := by
  have one : ∀ (x : Value) (a : AV), AVR G w x a → x.cells = #[x] → a.cells = [a] → x.cells.size = a.cells.length ∧ ∀ (j : Nat) y b, x.cells[j]? = some y → a.cells[j]? = some b → AVR G w y b := by
    intro x a h e1 e2
    rw [e1, e2]
    refine ⟨rfl, fun j y b hj hb => ?_⟩
    match j with
    | 0 => simp at hj hb; subst hj; subst hb; exact h
    | j + 1 => simp at hb
  cases h with
  | agg hl h => exact ⟨hl, h⟩
  | v h =>
    refine one _ _ (.v h) ?_ rfl
    cases x <;> first | rfl | simp [plain] at h
  | tup hl h => exact one _ _ (.tup hl h) rfl rfl
  | sl0 ht => exact one _ _ (.sl0 ht) rfl rfl
  | sl xs hl hn hc hs hx h ht => exact one _ _ (.sl xs hl hn hc hs hx h ht) rfl rfl
  | ep xs hl hs hx h => exact one _ _ (.ep xs hl hs hx h) rfl rfl
  | ptr h => exact one _ _ (.ptr h) rfl rfl
  | bs h hc => exact one _ _ (.bs h hc) rfl rfl
  | fn hl h => exact one _ _ (.fn hl h) rfl rfl
  | row h hg hn ha hc => exact one _ _ (.row h hg hn ha hc) rfl rfl
  | rp h hg hc => exact one _ _ (.rp h hg hc) rfl rfl
  | any h =>
    refine one _ _ (.any h) ?_ rfl
    cases x <;> first | rfl | simp [Value.oneCell'] at h

theorem AVR.oneCell {G : Gh} {w : World} {x : Value} {a : AV} (h : AVR G w x a) (hc : a.isCell = true) : x.oneCell' = true := by
  cases h with
  | v h => cases x <;> first | rfl | simp [AV.isCell] at hc
  | agg => simp [AV.isCell] at hc
  | tup => simp [AV.isCell] at hc
  | any h => exact h
  | _ => rfl

/-- A row's cells are turned where they are nobody's that is told, and sealed by none. -/
theorem ext_setRow {G : Gh} {w : World} {b : Nat} {c c' : Array Value} {e : TypeId} {fr : Nat × Nat} (hb : w.heap[b]? = some (.cells c e fr)) (hs : c'.size = c.size)
    (hk : ∀ o : Nat, (G.tag b o = .no ∨ G.tag b o = .fixd) → c'[o]? = c[o]?) : Ext G w G (w.setRow b c') := by
  refine ⟨rfl, rfl, rfl, rfl, by simp, ?_, ?_, fun _ _ h => h, fun _ _ _ h => h, fun _ _ h => h, fun _ m r h => ⟨m, r, h, Nat.le_refl _, fun _ => rfl⟩, fun _ m r h => ⟨m, r, h, Nat.le_refl _, fun _ => rfl⟩⟩
  · intro b2 c2 e2 fr2 h2
    by_cases hbb : b2 = b
    · subst hbb
      rw [hb] at h2
      cases h2
      exact ⟨c', setRow_heap w b2 c c' e fr hb, hs, hk⟩
    · exact ⟨c2, by rw [setRow_other w b b2 c' hbb]; exact h2, rfl, fun _ _ => rfl⟩
  · intro b2 ob h2 hne
    by_cases hbb : b2 = b
    · subst hbb
      rw [hb] at h2
      cases h2
      exact (hne _ _ _ rfl).elim
    · rw [setRow_other w b b2 c' hbb]; exact h2

theorem splice_length (cs : List AV) (off : Nat) (vs : List AV) (h : off + vs.length ≤ cs.length) : (splice cs off vs).length = cs.length := by
  simp [splice]; omega

theorem splice_get {α : Type} (cs : List α) (off : Nat) (vs : List α) (h : off + vs.length ≤ cs.length) (j : Nat) :
    (cs.take off ++ vs ++ cs.drop (off + vs.length))[j]? = if off ≤ j ∧ j < off + vs.length then vs[j - off]? else cs[j]? := by
  by_cases h1 : j < off
  · rw [if_neg (by omega), List.append_assoc, List.getElem?_append_left (by simp; omega), List.getElem?_take, if_pos h1]
  · by_cases h2 : j < off + vs.length
    · rw [if_pos (by omega), List.getElem?_append_left (by simp; omega), List.getElem?_append_right (by simp; omega)]
      congr 1; simp; omega
    · rw [if_neg (by omega), List.getElem?_append_right (by simp; omega), List.getElem?_drop]
      congr 1; simp; omega

theorem run_storeVar_obj {P : Program} {w : World} {t : TypeId} {j : TypeInfo} {b off : Nat} {c : Array Value} {e : TypeId} {x : Value} (hj : P.info? t = some j) (hb : w.heap[b]? = some (.cells c e (0, 0)))
    (hsz : x.cells.size = j.size) (hfit : off + j.size ≤ c.size) (h1 : ∀ v ∈ x.cells.toList, v.oneCell' = true) :
    (storeVar t ⟨b, off, none⟩ x).run P w = .ok () (w.setRow b (c.toList.take off ++ x.cells.toList ++ c.toList.drop (off + x.cells.size)).toArray) := by
  unfold storeVar
  have hst := run_storeCells_at P b off e x.cells.toList 0 c w hb (by simp [hsz]; omega) h1
  simp only [Nat.add_zero, Array.length_toList] at hst
  simp only [Sem.run_bind, run_sizeOf w hj, Result.andThen_ok, hsz, ne_eq, not_true_eq_false, if_false]
  rw [hsz] at hst
  exact hst

/-- A ghost whose row k is told anew. -/
def Gh.turnRow (G : Gh) (k g b o C : Nat) : Gh := { G with rw := fun i => if i = k then some (g, b, o, C) else G.rw i }

theorem turnRow_self {G : Gh} {k g b o C : Nat} (h : G.rw k = some (g, b, o, C)) : G.turnRow k g b o C = G := by
  unfold Gh.turnRow
  have : (fun i => if i = k then some (g, b, o, C) else G.rw i) = G.rw := by
    funext i
    by_cases hi : i = k
    · subst hi; rw [if_pos rfl, h]
    · rw [if_neg hi]
  rw [this]

theorem ext_turnRow {G : Gh} {w : World} {k gc b o C g' b' o' C' : Nat} (hk : G.rw k = some (gc, b, o, C)) (hg : (g' = gc ∧ b' = b ∧ o' = o ∧ C' = C) ∨ gc < g') : Ext G w (G.turnRow k g' b' o' C') w := by
  refine ⟨rfl, rfl, rfl, rfl, Nat.le_refl _, fun _ c _ _ h => ⟨c, h, rfl, fun _ _ => rfl⟩, fun _ _ h _ => h, fun _ _ h => h, fun _ _ _ h => h, fun _ _ h => h, fun _ m r h => ⟨m, r, h, Nat.le_refl _, fun _ => rfl⟩, fun i m r hi => ?_⟩
  show ∃ m' r', (if i = k then some (g', b', o', C') else G.rw i) = some (m', r') ∧ _
  by_cases h : i = k
  · subst h
    rw [if_pos rfl]
    rw [hk] at hi
    cases hi
    rcases hg with ⟨rfl, rfl, rfl, rfl⟩ | hg
    · exact ⟨_, _, rfl, Nat.le_refl _, fun _ => rfl⟩
    · exact ⟨_, _, rfl, by omega, fun e => by omega⟩
  · rw [if_neg h]
    exact ⟨m, r, hi, Nat.le_refl _, fun _ => rfl⟩

/-- A row is written, cut, or grows where it lies. -/
theorem row_turn {G : Gh} {w w' : World} {σ : St} (hS : RelS G w σ) {k gc b o C g' o' C' : Nat} {r' : RowSt} (hk : G.rw k = some (gc, b, o, C))
    (hg : (g' = gc ∧ o' = o ∧ C' = C) ∨ gc < g') (ho : o ≤ o') (hC' : o' + C' ≤ o + C) (hr : r'.gen = g') (hl : r'.cells.length ≤ C') (hsp : ∀ s, r'.spare = some s → r'.cells.length + s = C')
    (hw : (w' = w ∧ (0 < C' → ∀ c e, w.heap[b]? = some (.cells c e (0, 0)) → ∀ (j : Nat) x a, c[o' + j]? = some x → r'.cells[j]? = some a → AVR G w x a)) ∨
      ∃ c c' e, w' = w.setRow b c' ∧ w.heap[b]? = some (.cells c e (0, 0)) ∧ c'.size = c.size ∧ (∀ q : Nat, ¬ (o ≤ q ∧ q < o + C) → c'[q]? = c[q]?) ∧ (∀ (q : Nat) x, o ≤ q → q < o + C → c'[q]? = some x → x.oneCell' = true) ∧
        (∀ (j : Nat) x a, c'[o' + j]? = some x → r'.cells[j]? = some a → AVR G w x a)) :
    Ext G w (G.turnRow k g' b o' C') w' ∧ RelS (G.turnRow k g' b o' C') w' { σ with rows := σ.rows.set k r' } := by
  obtain ⟨r, hr1, hr2, hr3, hr4, hr5⟩ := hS.row k gc b o C hk
  have hklt : k < σ.rows.length := (List.getElem?_eq_some_iff.1 hr1).1
  -- the block
  obtain ⟨hE1, hblk, hoth⟩ : Ext G w G w' ∧ (0 < C → ∃ c' e, w'.heap[b]? = some (.cells c' e (0, 0)) ∧ o + C ≤ c'.size ∧ (∀ j, j < C → G.tag b (o + j) = .row k) ∧ (∀ (q : Nat) x, o ≤ q → q < o + C → c'[q]? = some x → x.oneCell' = true) ∧
      (0 < C' → ∀ (j : Nat) x a, c'[o' + j]? = some x → r'.cells[j]? = some a → AVR G w x a)) ∧ (∀ b2, b2 ≠ b → w'.heap[b2]? = w.heap[b2]?) := by
    rcases hw with ⟨rfl, hrel⟩ | ⟨c, c', e, rfl, hb, hs, hq, hone, hrel⟩
    · refine ⟨.refl _ _, fun hC => ?_, fun _ _ => rfl⟩
      obtain ⟨c, e, g1, g2, g3, g4, g5⟩ := hr5 hC
      exact ⟨c, e, g1, g2, g3, fun q x h1 h2 hx => g4 (q - o) x (by omega) (by rw [← hx]; congr 1; omega), fun hC' => hrel hC' c e g1⟩
    · by_cases hC : 0 < C
      · obtain ⟨c0, e0, g1, g2, g3, g4, g5⟩ := hr5 hC
        rw [hb] at g1; cases g1
        refine ⟨ext_setRow hb hs (fun q hq2 => hq q (fun h => ?_)), fun _ => ⟨c', e, setRow_heap w b c c' e (0, 0) hb, by omega, g3, hone, fun _ => hrel⟩, fun b2 h2 => setRow_other w b b2 c' h2⟩
        have := g3 (q - o) (by omega)
        rw [show o + (q - o) = q by omega] at this
        rw [this] at hq2
        rcases hq2 with h | h <;> cases h
      · refine ⟨ext_setRow hb hs (fun q _ => hq q (by omega)), fun h => absurd h hC, fun b2 h2 => setRow_other w b b2 c' h2⟩
  have hg2 : (g' = gc ∧ b = b ∧ o' = o ∧ C' = C) ∨ gc < g' := hg.imp (fun h => ⟨h.1, rfl, h.2⟩) id
  have hE2 := ext_turnRow (w := w') hk hg2
  have hE := hE1.trans hE2
  have hsz : w'.heap.size = w.heap.size := by
    rcases hw with ⟨rfl, _⟩ | ⟨c, c', e, rfl, _⟩
    · rfl
    · simp
  refine ⟨hE, ⟨?_, hS.inj, ?_, fun b2 q hb2 => hS.fresh b2 q (by rw [← hsz]; exact hb2), fun g cs hgl => (hS.gl g cs hgl).mono hE, hS.tot, hS.totk, ?_, ?_⟩⟩
  · intro id b2 hp
    obtain ⟨c2, e2, cs2, h1, h2, h3, h4, h5⟩ := hS.obj id b2 hp
    refine ⟨c2, e2, cs2, h1, ?_, h3, h4, fun j x a hx ha => (h5 j x a hx ha).mono hE⟩
    by_cases hb2 : b2 = b
    · subst hb2
      rcases hw with ⟨rfl, _⟩ | ⟨c, c', e, rfl, hb, hs, hq, _⟩
      · exact h2
      · rw [hb] at h2; cases h2
        rw [setRow_heap w b2 _ c' _ _ hb]
        congr 2
        have : c' = c2 := by
          apply Array.ext_getElem?
          intro q
          refine hq q (fun hqr => ?_)
          have hC : 0 < C := by omega
          obtain ⟨c0, e0, g1, g2, g3, _⟩ := hr5 hC
          rw [hb] at g1; cases g1
          have := g3 (q - o) (by omega)
          rw [show o + (q - o) = q by omega, h4 q (by omega)] at this
          cases this
        rw [this]
    · rw [hoth b2 hb2]; exact h2
  · intro q m b2 lo hi hq
    obtain ⟨t1, t2⟩ := hS.tok q m b2 lo hi hq
    refine ⟨t1, fun hlt => ?_⟩
    obtain ⟨c2, e2, g1, g2, g3⟩ := t2 hlt
    by_cases hb2 : b2 = b
    · subst hb2
      rcases hw with ⟨rfl, _⟩ | ⟨c, c', e, rfl, hb, hs, hq2, _⟩
      · exact ⟨c2, e2, g1, g2, g3⟩
      · rw [hb] at g1; cases g1
        exact ⟨c', e2, setRow_heap w b2 c2 c' e2 (0, 0) hb, by rw [hs]; exact g2, g3⟩
    · exact ⟨c2, e2, by rw [hoth b2 hb2]; exact g1, g2, g3⟩
  · intro i gi bi oi Ci hi
    have hi' : (if i = k then some (g', b, o', C') else G.rw i) = some (gi, bi, oi, Ci) := hi
    by_cases hik : i = k
    · subst hik
      rw [if_pos rfl] at hi'
      cases hi'
      refine ⟨r', by simp [hklt], hr, hl, hsp, fun hC2 => ?_⟩
      obtain ⟨c', e, g1, g2, g3, g4, g5⟩ := hblk (by omega)
      refine ⟨c', e, g1, by omega, fun j hj => ?_, fun j x hj hx => g4 _ x (by omega) (by omega) hx, fun j x a hx ha => (g5 hC2 j x a hx ha).mono hE⟩
      have := g3 (o' - o + j) (by omega)
      rw [show o + (o' - o + j) = o' + j by omega] at this
      exact this
    · rw [if_neg hik] at hi'
      obtain ⟨ri, h1, h2, h3, h4, h5⟩ := hS.row i gi bi oi Ci hi'
      refine ⟨ri, by show (σ.rows.set k r')[i]? = _; rw [List.getElem?_set_ne (Ne.symm hik)]; exact h1, h2, h3, h4, fun hCi => ?_⟩
      obtain ⟨c2, e2, g1, g2, g3, g4, g5⟩ := h5 hCi
      by_cases hbi : bi = b
      · subst hbi
        rcases hw with ⟨rfl, _⟩ | ⟨c, c', e, rfl, hb, hs, hq2, _⟩
        · exact ⟨c2, e2, g1, g2, g3, g4, fun j x a hx ha => (g5 j x a hx ha).mono hE⟩
        · rw [hb] at g1; cases g1
          have hsame : ∀ j, j < Ci → c'[oi + j]? = c2[oi + j]? := fun j hj => by
            refine hq2 _ (fun hqr => ?_)
            obtain ⟨c0, e0, f1, f2, f3, _⟩ := hr5 (by omega)
            have h6 := f3 (oi + j - o) (by omega)
            rw [show o + (oi + j - o) = oi + j by omega, g3 j hj] at h6
            cases h6; exact hik rfl
          refine ⟨c', e2, setRow_heap w bi c2 c' e2 (0, 0) hb, by omega, g3, fun j x hj hx => g4 j x hj (by rw [← hsame j hj]; exact hx), fun j x a hx ha => (g5 j x a ?_ ha).mono hE⟩
          rw [← hsame j (by have := (List.getElem?_eq_some_iff.1 ha).1; omega)]; exact hx
      · exact ⟨c2, e2, by rw [hoth bi hbi]; exact g1, g2, g3, g4, fun j x a hx ha => (g5 j x a hx ha).mono hE⟩
  · intro i hi
    show ∃ p, (if i = k then some (g', b, o', C') else G.rw i) = some p
    by_cases h : i = k
    · rw [if_pos h]; exact ⟨_, rfl⟩
    · rw [if_neg h]; exact hS.totr i (by simpa using hi)

theorem storeA_sound {P : Program} {G : Gh} {w : World} {σ σ' : St} {t : TypeId} {x y : Value} {a v : AV} (hS : RelS G w σ) (hx : AVR G w x a) (hy : AVR G w y v) (h : storeA P t a v σ = some σ') :
    ∃ w', (Instr.storeAt t x y).run P w = .ok () w' ∧ Ext G w G w' ∧ RelS G w' σ' := by
  unfold storeA at h
  split at h
  · rename_i id off
    split at h
    · rename_i cs i hcs hi
      split at h
      · rename_i hcond
        obtain ⟨hl, hfit, hcell⟩ := hcond
        cases h
        cases hx with
        | ptr hp =>
        rename_i b
        obtain ⟨d, j, hd, hj, hz, hag, hsz, hby⟩ := ti_some hi
        obtain ⟨c, e, cs', h1, h2, h3, h4, h5⟩ := hS.obj id b hp
        rw [hcs] at h1
        cases h1
        obtain ⟨hce, hcr⟩ := hy.cells_eq
        have hcell' : ∀ u ∈ y.cells.toList, u.oneCell' = true := by
          intro u hu
          obtain ⟨k, hk, rfl⟩ := List.getElem_of_mem hu
          have hk' : k < v.cells.length := by rw [← hce]; simpa using hk
          refine (hcr k _ _ (by simpa using (List.getElem?_eq_getElem hk)) (List.getElem?_eq_getElem hk')).oneCell ?_
          exact List.all_eq_true.1 hcell _ (List.getElem_mem hk')
        have hrun := run_storeVar_obj (P := P) (t := t) (off := off) hj h2 (by rw [hce, hl, hsz]) (by rw [← hsz, h3]; exact hfit) hcell'
        have hget : ∀ k : Nat, ((c.toList.take off ++ y.cells.toList ++ c.toList.drop (off + y.cells.size)).toArray)[k]? = if off ≤ k ∧ k < off + y.cells.size then y.cells[k - off]? else c[k]? := by
          intro k
          have := splice_get c.toList off y.cells.toList (by simp [hce, hl, h3]; omega) k
          simpa using this
        have hsize : ((c.toList.take off ++ y.cells.toList ++ c.toList.drop (off + y.cells.size)).toArray).size = c.size := by
          simp [hce, hl]; omega
        generalize ((c.toList.take off ++ y.cells.toList ++ c.toList.drop (off + y.cells.size)).toArray) = c' at hrun hget hsize
        have hE : Ext G w G (w.setRow b c') := by
          refine ext_setRow h2 hsize (fun o ho => ?_)
          rw [hget o]
          split
          · have := h4 o (by rw [hce, hl] at *; omega)
            rw [this] at ho
            rcases ho with ho | ho <;> cases ho
          · rfl
        refine ⟨w.setRow b c', by simpa [Instr.storeAt, Instr.sureAddr] using hrun, hE, ?_, hS.inj, ?_, ?_, ?_, fun id2 h2 => hS.tot id2 (by simpa using h2), hS.totk, hS.lift hE rfl (fun k2 gc2 b2 o2 C2 hk2 hC2 c2 e2 hb2 hoc2 ht2 => ?_), hS.totr⟩
        case refine_5 =>
          have hne : b2 ≠ b := by
            intro e3; subst e3
            rw [h2] at hb2; cases hb2
            have h6 := h4 (o2 + 0) (by omega)
            rw [ht2 0 hC2] at h6; cases h6
          exact ⟨c2, by rw [setRow_other w b b2 c' hne]; exact hb2, rfl, fun _ _ => rfl, ht2⟩
        · intro id2 b2 hp2
          by_cases hb2 : b2 = b
          · subst hb2
            have hid := hS.inj _ _ _ hp hp2
            subst hid
            refine ⟨c', e, splice cs off v.cells, ?_, setRow_heap w b2 c c' e (0, 0) h2, by rw [splice_length _ _ _ (by omega), hsize, h3], fun j hj => h4 j (by rw [← hsize]; exact hj), ?_⟩
            · have hlt := (List.getElem?_eq_some_iff.1 hcs).1
              simp [hlt]
            · intro k u av hu hav
              rw [hget k] at hu
              have hsp := splice_get cs off v.cells (by omega) k
              unfold splice at hav
              rw [hsp] at hav
              rw [hce] at hu
              split at hu
              · rename_i hr
                rw [if_pos hr] at hav
                exact (hcr _ _ _ hu hav).mono hE
              · rename_i hr
                rw [if_neg hr] at hav
                exact (h5 _ _ _ hu hav).mono hE
          · obtain ⟨c2, e2, cs2, g1, g2, g3, g4, g5⟩ := hS.obj id2 b2 hp2
            refine ⟨c2, e2, cs2, ?_, by rw [setRow_other w b b2 c' hb2]; exact g2, g3, g4, fun k u av hu hav => (g5 k u av hu hav).mono hE⟩
            have hne : id2 ≠ id := fun e => by subst e; rw [hp] at hp2; cases hp2; exact hb2 rfl
            show (σ.objs.set id _)[id2]? = some cs2
            rw [List.getElem?_set_ne (Ne.symm hne)]; exact g1
        · intro k m b2 lo hi' hk
          obtain ⟨t1, t2⟩ := hS.tok k m b2 lo hi' hk
          refine ⟨t1, fun hlt => ?_⟩
          obtain ⟨c2, e2, g1, g2, g3⟩ := t2 hlt
          by_cases hb2 : b2 = b
          · subst hb2
            rw [h2] at g1
            cases g1
            exact ⟨c', e, setRow_heap w b2 c c' e (0, 0) h2, by rw [hsize]; exact g2, g3⟩
          · exact ⟨c2, e2, by rw [setRow_other w b b2 c' hb2]; exact g1, g2, g3⟩
        · intro b2 o ho
          exact hS.fresh b2 o (by simpa using ho)
        · intro g cs2 hg
          exact (hS.gl g cs2 hg).mono hE
      · cases h
    · cases h
  · rename_i k g off
    split at h
    · rename_i r i hr hi
      split at h
      · rename_i hcond
        obtain ⟨hg, hl, hfit, hcell⟩ := hcond
        cases h
        cases hx with
        | rp hk hle hc =>
        rename_i gc b o C b' o'
        obtain ⟨d, j, hd, hj, hz, hag, hsz, hby⟩ := ti_some hi
        obtain ⟨r2, h1, h2, h3, h4, h5⟩ := hS.row k gc b o C hk
        rw [hr] at h1
        cases h1
        obtain ⟨rfl, rfl⟩ := hc (by omega)
        obtain ⟨hce, hcr⟩ := hy.cells_eq
        have hcell' : ∀ u ∈ y.cells.toList, u.oneCell' = true := by
          intro u hu
          obtain ⟨q, hq, rfl⟩ := List.getElem_of_mem hu
          have hq' : q < v.cells.length := by rw [← hce]; simpa using hq
          refine (hcr q _ _ (by simpa using (List.getElem?_eq_getElem hq)) (List.getElem?_eq_getElem hq')).oneCell ?_
          exact List.all_eq_true.1 hcell _ (List.getElem_mem hq')
        by_cases h0 : i.size = 0
        · have hsp : splice r.cells off v.cells = r.cells := by
            have : v.cells = [] := List.eq_nil_of_length_eq_zero (by omega)
            rw [this]; simp [splice]
          have hyc : y.cells = #[] := Array.eq_empty_of_size_eq_zero (by omega)
          have hset : ({ σ with rows := σ.rows.set k { r with cells := splice r.cells off v.cells } } : St) = σ := by
            rw [hsp]
            have : σ.rows.set k r = σ.rows := by
              apply List.ext_getElem?
              intro q
              by_cases hq : k = q
              · subst hq; rw [List.getElem?_set_self (List.getElem?_eq_some_iff.1 hr).1, hr]
              · rw [List.getElem?_set_ne hq]
            show ({ σ with rows := σ.rows.set k r } : St) = σ
            rw [this]
          rw [hset]
          refine ⟨w, ?_, .refl _ _, hS⟩
          simp only [Instr.storeAt, Instr.sureAddr, storeVar, Sem.run_bind, Sem.run_pure, Result.andThen_ok, run_sizeOf w hj, hyc]
          simp [storeCells, ← hsz, h0]
        · obtain ⟨c, e, g1, g2, g3, g4, g5⟩ := h5 (by omega)
          have hrun := run_storeVar_obj (P := P) (t := t) (off := o + off) hj g1 (by rw [hce, hl, hsz]) (by rw [← hsz]; omega) hcell'
          have hget : ∀ q : Nat, ((c.toList.take (o + off) ++ y.cells.toList ++ c.toList.drop (o + off + y.cells.size)).toArray)[q]? = if o + off ≤ q ∧ q < o + off + y.cells.size then y.cells[q - (o + off)]? else c[q]? := by
            intro q
            have := splice_get c.toList (o + off) y.cells.toList (by simp [hce, hl]; omega) q
            simpa using this
          have hsize : ((c.toList.take (o + off) ++ y.cells.toList ++ c.toList.drop (o + off + y.cells.size)).toArray).size = c.size := by
            simp [hce, hl]; omega
          generalize ((c.toList.take (o + off) ++ y.cells.toList ++ c.toList.drop (o + off + y.cells.size)).toArray) = c' at hrun hget hsize
          have hlen := splice_length r.cells off v.cells (by omega)
          have hrt := row_turn hS (w' := w.setRow b' c') (r' := { r with cells := splice r.cells off v.cells }) hk (.inl ⟨rfl, rfl, rfl⟩) (Nat.le_refl _) (Nat.le_refl _) h2 (by simp only [hlen]; omega) (fun s hs => by simp only [hlen]; exact h4 s hs)
            (.inr ⟨c, c', e, rfl, g1, hsize, fun q hq => by rw [hget q, if_neg (by omega)], fun q x h6 h7 hx => by
              rw [hget q] at hx
              split at hx
              · exact hcell' x (by obtain ⟨h8, h9⟩ := Array.getElem?_eq_some_iff.1 hx; rw [← h9]; simp)
              · exact g4 (q - o) x (by omega) (by rw [← hx]; congr 1; omega), fun q x a hx ha => by
              rw [hget] at hx
              simp only at ha
              unfold splice at ha
              rw [splice_get r.cells off v.cells (by omega) q] at ha
              by_cases hin : off ≤ q ∧ q < off + v.cells.length
              · rw [if_pos hin] at ha
                rw [if_pos (by omega)] at hx
                exact hcr _ _ _ (by rw [← hx]; congr 1; omega) ha
              · rw [if_neg hin] at ha
                rw [if_neg (by omega)] at hx
                exact g5 _ _ _ hx ha⟩)
          rw [turnRow_self hk] at hrt
          exact ⟨_, by simpa [Instr.storeAt, Instr.sureAddr] using hrun, hrt.1, hrt.2⟩
      · cases h
    · cases h
  · cases h

/-- The marks of a new block. -/
def Gh.withBlock (G : Gh) (b : Nat) (f : Nat → Tag) : Gh := { G with tag := fun x o => if x = b then f o else G.tag x o }

theorem ext_alloc {G : Gh} {w : World} (hf : ∀ b o, w.heap.size ≤ b → G.tag b o = .no) (o : Obj) (f : Nat → Tag) : Ext G w (G.withBlock w.heap.size f) (w.alloc o) := by
  refine ⟨rfl, rfl, rfl, rfl, by simp, ?_, ?_, ?_, ?_, fun _ _ h => h, fun _ m r h => ⟨m, r, h, Nat.le_refl _, fun _ => rfl⟩, fun _ m r h => ⟨m, r, h, Nat.le_refl _, fun _ => rfl⟩⟩
  · intro b c e fr hb
    have hlt : b < w.heap.size := (Array.getElem?_eq_some_iff.1 hb).1
    exact ⟨c, by rw [heap_alloc_old w o b hlt]; exact hb, rfl, fun _ _ => rfl⟩
  · intro b ob hb _
    have hlt : b < w.heap.size := (Array.getElem?_eq_some_iff.1 hb).1
    rw [heap_alloc_old w o b hlt]; exact hb
  · intro b o hs
    simp only [Gh.withBlock]
    split
    · rename_i hb
      subst hb
      rw [hf _ _ (Nat.le_refl _)] at hs; cases hs
    · exact hs
  · intro b o hb hn
    simp only [Gh.withBlock]
    rw [if_neg (by omega)]; exact hn

theorem ext_drew (G : Gh) (w : World) : Ext G w G w.drew :=
  ⟨rfl, rfl, rfl, rfl, Nat.le_refl _, fun _ c _ _ h => ⟨c, h, rfl, fun _ _ => rfl⟩, fun _ _ h _ => h, fun _ _ h => h, fun _ _ _ h => h, fun _ _ h => h, fun _ m r h => ⟨m, r, h, Nat.le_refl _, fun _ => rfl⟩, fun _ m r h => ⟨m, r, h, Nat.le_refl _, fun _ => rfl⟩⟩

theorem RelS.drew {G : Gh} {w : World} {σ : St} (h : RelS G w σ) : RelS G w.drew σ := by
  have hE := ext_drew G w
  refine ⟨fun id b hp => ?_, h.inj, h.tok, h.fresh, fun g cs hg => (h.gl g cs hg).mono hE, h.tot, h.totk, h.lift hE rfl (fun _ _ _ _ _ _ _ c _ hb _ ht => ⟨c, hb, rfl, fun _ _ => rfl, ht⟩), h.totr⟩
  obtain ⟨c, e, cs, h1, h2, h3, h4, h5⟩ := h.obj id b hp
  exact ⟨c, e, cs, h1, h2, h3, h4, fun j x a hx ha => (h5 j x a hx ha).mono hE⟩

/-- What was told stays told where a new block is laid, whatever its marks. -/
theorem RelS.alloc {G : Gh} {w : World} {σ : St} (h : RelS G w σ) (o : Obj) (f : Nat → Tag) : RelS (G.withBlock w.heap.size f) (w.alloc o) σ := by
  have hE := ext_alloc h.fresh o f
  refine ⟨fun id b hp => ?_, h.inj, fun k m b lo hi hk => ?_, fun b o' hb => ?_, fun g cs hg => (h.gl g cs hg).mono hE, h.tot, h.totk, h.lift hE rfl (fun k2 gc2 b2 o2 C2 hk2 hC2 c2 e2 hb2 hoc2 ht2 => ?_), h.totr⟩
  case refine_4 =>
    have hlt : b2 < w.heap.size := (Array.getElem?_eq_some_iff.1 hb2).1
    refine ⟨c2, by rw [heap_alloc_old w o b2 hlt]; exact hb2, rfl, fun _ _ => rfl, fun j hj => ?_⟩
    simp only [Gh.withBlock]; rw [if_neg (by omega)]; exact ht2 j hj
  · obtain ⟨c, e, cs, h1, h2, h3, h4, h5⟩ := h.obj id b hp
    have hlt : b < w.heap.size := (Array.getElem?_eq_some_iff.1 h2).1
    refine ⟨c, e, cs, h1, by rw [heap_alloc_old w o b hlt]; exact h2, h3, fun j hj => ?_, fun j x a hx ha => (h5 j x a hx ha).mono hE⟩
    simp only [Gh.withBlock]; rw [if_neg (by omega)]; exact h4 j hj
  · obtain ⟨t1, t2⟩ := h.tok k m b lo hi hk
    refine ⟨t1, fun hlt => ?_⟩
    obtain ⟨c, e, g1, g2, g3⟩ := t2 hlt
    have hlt : b < w.heap.size := (Array.getElem?_eq_some_iff.1 g1).1
    refine ⟨c, e, by rw [heap_alloc_old w o b hlt]; exact g1, g2, fun j hj hj2 => ?_⟩
    simp only [Gh.withBlock]; rw [if_neg (by omega)]; exact g3 j hj hj2
  · simp only [Gh.withBlock]
    have hb' : w.heap.size + 1 ≤ b := by simpa using hb
    rw [if_neg (by omega)]; exact h.fresh b o' (by omega)

/-- A new object of the call's own. -/
theorem newObj_sound {G : Gh} {w : World} {σ : St} (hS : RelS G w σ) (e : TypeId) (c : Array Value) (cs : List AV) (hl : c.size = cs.length) (hr : ∀ (j : Nat) x a, c[j]? = some x → cs[j]? = some a → AVR G w x a) :
    ∃ G', Ext G w G' (w.alloc (.cells c e)) ∧ RelS G' (w.alloc (.cells c e)) { σ with objs := σ.objs ++ [cs] } ∧ G'.pl σ.objs.length = some w.heap.size := by
  have hnone : G.pl σ.objs.length = none := by
    cases hp : G.pl σ.objs.length with
    | none => rfl
    | some b =>
      obtain ⟨_, _, _, h1, _⟩ := hS.obj _ _ hp
      simp at h1
  have hE1 := ext_alloc hS.fresh (.cells c e) (fun j => if j < c.size then .obj σ.objs.length else .no)
  have hS1 := hS.alloc (.cells c e) (fun j => if j < c.size then .obj σ.objs.length else .no)
  generalize hG1 : G.withBlock w.heap.size (fun j => if j < c.size then .obj σ.objs.length else .no) = G1 at hE1 hS1
  let G' : Gh := { G1 with pl := fun id => if id = σ.objs.length then some w.heap.size else G1.pl id }
  have hpl1 : G1.pl = G.pl := by rw [← hG1]; rfl
  have hE2 : Ext G1 (w.alloc (.cells c e)) G' (w.alloc (.cells c e)) := by
    refine ⟨rfl, rfl, rfl, rfl, Nat.le_refl _, fun _ c _ _ h => ⟨c, h, rfl, fun _ _ => rfl⟩, fun _ _ h _ => h, fun _ _ h => h, fun _ _ _ h => h, fun id b hp => ?_, fun _ m r h => ⟨m, r, h, Nat.le_refl _, fun _ => rfl⟩, fun _ m r h => ⟨m, r, h, Nat.le_refl _, fun _ => rfl⟩⟩
    show (if id = σ.objs.length then _ else _) = _
    split
    · rename_i hid
      subst hid
      rw [hpl1, hnone] at hp; cases hp
    · exact hp
  refine ⟨G', hE1.trans hE2, ⟨?_, ?_, ?_, hS1.fresh, fun g cs hg => (hS1.gl g cs hg).mono hE2, fun id hid => ?_, hS1.totk, hS1.lift hE2 rfl (fun _ _ _ _ _ _ _ c _ hb _ ht => ⟨c, hb, rfl, fun _ _ => rfl, ht⟩), hS1.totr⟩, by simp [G']⟩
  case refine_4 =>
    show ∃ b, (if id = σ.objs.length then some w.heap.size else G1.pl id) = some b
    by_cases h : id = σ.objs.length
    · rw [if_pos h]; exact ⟨_, rfl⟩
    · rw [if_neg h]; exact hS1.tot id (by simp at hid; omega)
  · intro id b hp
    by_cases hid : id = σ.objs.length
    · subst hid
      have hb : b = w.heap.size := by simpa [G'] using hp.symm
      subst hb
      refine ⟨c, e, cs, by simp, heap_alloc_new w _, hl, fun j hj => ?_, fun j x a hx ha => (hr j x a hx ha).mono (hE1.trans hE2)⟩
      show G1.tag _ _ = _
      rw [← hG1]
      simp [Gh.withBlock, hj]
    · have hp' : G1.pl id = some b := by simpa [G', hid] using hp
      obtain ⟨c2, e2, cs2, h1, h2, h3, h4, h5⟩ := hS1.obj id b hp'
      refine ⟨c2, e2, cs2, ?_, h2, h3, h4, fun j x a hx ha => (h5 j x a hx ha).mono hE2⟩
      show (σ.objs ++ [cs])[id]? = some cs2
      rw [List.getElem?_append_left (List.getElem?_eq_some_iff.1 h1).1]; exact h1
  · intro i j b hi hj
    have key : ∀ i, i ≠ σ.objs.length → G'.pl i = some w.heap.size → False := by
      intro i hne hp
      have hp' : G.pl i = some w.heap.size := by
        have : G1.pl i = some w.heap.size := by simpa [G', hne] using hp
        rw [← hpl1]; exact this
      obtain ⟨c2, e2, cs2, h1, h2, _⟩ := hS.obj i _ hp'
      have := (Array.getElem?_eq_some_iff.1 h2).1; omega
    by_cases h1 : i = σ.objs.length <;> by_cases h2 : j = σ.objs.length
    · rw [h1, h2]
    · subst h1
      have hb : b = w.heap.size := by simpa [G'] using hi.symm
      subst hb; exact (key j h2 hj).elim
    · subst h2
      have hb : b = w.heap.size := by simpa [G'] using hj.symm
      subst hb; exact (key i h1 hi).elim
    · exact hS1.inj i j b (by simpa [G', h1] using hi) (by simpa [G', h2] using hj)
  · intro k m b lo hi hk
    exact hS1.tok k m b lo hi hk

/-- A row whose block is new. -/
theorem row_new {G : Gh} {w : World} {σ : St} (hS : RelS G w σ) (e : TypeId) (c : Array Value) (k g' : Nat) (rows' : List RowSt) (r' : RowSt) (hk : ∀ p, G.rw k = some p → p.1 < g') (hr' : rows'[k]? = some r')
    (hto : ∀ i, i ≠ k → ∀ x, σ.rows[i]? = some x → rows'[i]? = some x) (hlen : ∀ i, i < rows'.length → i = k ∨ i < σ.rows.length) (hr : r'.gen = g') (hl : r'.cells.length ≤ c.size) (hsp : ∀ s, r'.spare = some s → r'.cells.length + s = c.size)
    (hone : ∀ (q : Nat) x, c[q]? = some x → x.oneCell' = true) (hrel : ∀ (j : Nat) x a, c[j]? = some x → r'.cells[j]? = some a → AVR G w x a) :
    ∃ G', Ext G w G' (w.alloc (.cells c e)) ∧ RelS G' (w.alloc (.cells c e)) { σ with rows := rows' } ∧ G'.rw k = some (g', w.heap.size, 0, c.size) := by
  have hE1 := ext_alloc hS.fresh (.cells c e) (fun j => if j < c.size then .row k else .no)
  have hS1 := hS.alloc (.cells c e) (fun j => if j < c.size then .row k else .no)
  generalize hG1 : G.withBlock w.heap.size (fun j => if j < c.size then .row k else .no) = G1 at hE1 hS1
  have hrw1 : G1.rw = G.rw := by rw [← hG1]; rfl
  have htag1 : ∀ j, j < c.size → G1.tag w.heap.size j = .row k := fun j hj => by rw [← hG1]; simp [Gh.withBlock, hj]
  have hE2 : Ext G1 (w.alloc (.cells c e)) (G1.turnRow k g' w.heap.size 0 c.size) (w.alloc (.cells c e)) := by
    refine ⟨rfl, rfl, rfl, rfl, Nat.le_refl _, fun _ c _ _ h => ⟨c, h, rfl, fun _ _ => rfl⟩, fun _ _ h _ => h, fun _ _ h => h, fun _ _ _ h => h, fun _ _ h => h, fun _ m r h => ⟨m, r, h, Nat.le_refl _, fun _ => rfl⟩, fun i m r hi => ?_⟩
    show ∃ m' r', (if i = k then some (g', w.heap.size, 0, c.size) else G1.rw i) = some (m', r') ∧ _
    by_cases h : i = k
    · subst h
      rw [if_pos rfl]
      rw [hrw1] at hi
      have := hk _ hi
      exact ⟨_, _, rfl, Nat.le_of_lt this, fun e => by simp only at this; omega⟩
    · rw [if_neg h]
      exact ⟨m, r, hi, Nat.le_refl _, fun _ => rfl⟩
  have hE := hE1.trans hE2
  refine ⟨_, hE, ⟨?_, hS1.inj, hS1.tok, hS1.fresh, fun g cs hg => (hS1.gl g cs hg).mono hE2, hS1.tot, hS1.totk, ?_, ?_⟩, if_pos rfl⟩
  · intro id b hp
    obtain ⟨c2, e2, cs2, h1, h2, h3, h4, h5⟩ := hS1.obj id b hp
    exact ⟨c2, e2, cs2, h1, h2, h3, h4, fun j x a hx ha => (h5 j x a hx ha).mono hE2⟩
  · intro i gi bi oi Ci hi
    have hi' : (if i = k then some (g', w.heap.size, 0, c.size) else G1.rw i) = some (gi, bi, oi, Ci) := hi
    by_cases hik : i = k
    · subst hik
      rw [if_pos rfl] at hi'
      cases hi'
      refine ⟨r', hr', hr, hl, hsp, fun hC2 => ⟨c, e, heap_alloc_new w _, by omega, fun j hj => ?_, fun j x hj hx => hone _ x hx, fun j x a hx ha => (hrel j x a (by simpa using hx) ha).mono hE⟩⟩
      rw [Nat.zero_add]; exact htag1 j hj
    · rw [if_neg hik] at hi'
      obtain ⟨ri, h1, h2, h3, h4, h5⟩ := hS1.row i gi bi oi Ci hi'
      refine ⟨ri, hto i hik ri h1, h2, h3, h4, fun hCi => ?_⟩
      obtain ⟨c2, e2, g1, g2, g3, g4, g5⟩ := h5 hCi
      exact ⟨c2, e2, g1, g2, g3, g4, fun j x a hx ha => (g5 j x a hx ha).mono hE2⟩
  · intro i hi
    show ∃ p, (if i = k then some (g', w.heap.size, 0, c.size) else G1.rw i) = some p
    by_cases h : i = k
    · rw [if_pos h]; exact ⟨_, rfl⟩
    · rw [if_neg h]; exact hS1.totr i ((hlen i hi).resolve_left h)

theorem rw_fresh {G : Gh} {w : World} {σ : St} (hS : RelS G w σ) : ∀ p, G.rw σ.rows.length = some p → False := fun p hp => by
  obtain ⟨gc, b, o, C⟩ := p
  obtain ⟨r, h1, _⟩ := hS.row _ _ _ _ _ hp
  simp at h1

/-- A new row, behind those that there are. -/
theorem row_push {G : Gh} {w : World} {σ : St} (hS : RelS G w σ) (e : TypeId) (c : Array Value) (cells : List AV) (spare : Option Nat) (hl : cells.length ≤ c.size) (hsp : ∀ s, spare = some s → cells.length + s = c.size)
    (hone : ∀ (q : Nat) x, c[q]? = some x → x.oneCell' = true) (hrel : ∀ (j : Nat) x a, c[j]? = some x → cells[j]? = some a → AVR G w x a) :
    ∃ G', Ext G w G' (w.alloc (.cells c e)) ∧ RelS G' (w.alloc (.cells c e)) { σ with rows := σ.rows ++ [⟨0, cells, spare⟩] } ∧ G'.rw σ.rows.length = some (0, w.heap.size, 0, c.size) :=
  row_new hS e c σ.rows.length 0 _ ⟨0, cells, spare⟩ (fun p hp => (rw_fresh hS p hp).elim) (by simp) (fun i _ x hx => by rw [List.getElem?_append_left (List.getElem?_eq_some_iff.1 hx).1]; exact hx)
    (fun i hi => by simp at hi; omega) rfl hl hsp hone hrel

end Go.Vm
