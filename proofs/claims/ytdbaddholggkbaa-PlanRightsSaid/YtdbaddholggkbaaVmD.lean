import Derived.Test.YtdbaddholggkbaaVmC
/-
  append, and slices that are made.
-/
namespace Go.Vm
set_option linter.unnecessarySimpa false
set_option linter.unusedSimpArgs false
set_option linter.unusedVariables false
open Go

theorem elemT_some {P : Program} {t e : TypeId} (h : elemT P t = some e) : P.underlying t = some (.slice e) := by
  unfold elemT at h
  split at h
  · rename_i e' he; cases h; exact he
  · cases h

/-- The cells of a slice that is told. -/
theorem sl_cells {G : Gh} {w : World} {y : Value} {sz m : Nat} {ys : List AV} {t : Tail} (h : AVR G w y (.sl sz ys m t)) :
    ∃ (a : Option Addr) (c : Nat) (news : List Value), y = .slice a m c ∧ m ≤ c ∧ TailOk G t a m c sz ∧ ys.length = m * sz ∧ news.length = ys.length ∧ (∀ (j : Nat) x b, news[j]? = some x → ys[j]? = some b → AVR G w x b) ∧ (∀ u ∈ news, u.oneCell' = true) ∧
      (ys ≠ [] → ∃ b o, a = some ⟨b, o, none⟩ ∧ (∀ j, j < ys.length → G.tag b (o + j) = .fixd) ∧ ∀ (j : Nat) x, news[j]? = some x → w.cell? ⟨b, o + j, none⟩ = some x) := by
  cases h with
  | sl0 ht => exact ⟨_, _, [], rfl, by omega, ht, by simp, rfl, by simp, by simp, fun h => (h rfl).elim⟩
  | sl xs hl hn hc hs hx h ht =>
    refine ⟨_, _, xs, rfl, hc, ht, hn, hl, h, fun u hu => ?_, fun _ => ⟨_, _, rfl, hs, fun j x hj => (hx j x hj).1⟩⟩
    obtain ⟨k, hk, rfl⟩ := List.getElem_of_mem hu
    exact (hx k _ (List.getElem?_eq_getElem hk)).2

/-- The cells of a list that may be read. -/
theorem read_cells {G : Gh} {w : World} {σ : St} (hS : RelS G w σ) {y : Value} {av : AV} {sz m : Nat} {ys : List AV} (h : AVR G w y av) (hr : readA σ av = some (sz, ys, m)) :
    ∃ (a : Option Addr) (c : Nat) (news : List Value), y = .slice a m c ∧ m ≤ c ∧ ys.length = m * sz ∧ news.length = ys.length ∧ (∀ (j : Nat) x b, news[j]? = some x → ys[j]? = some b → AVR G w x b) ∧ (∀ u ∈ news, u.oneCell' = true) ∧
      (ys ≠ [] → ∃ b o, a = some ⟨b, o, none⟩ ∧ ∀ (j : Nat) x, news[j]? = some x → w.cell? ⟨b, o + j, none⟩ = some x) := by
  unfold readA at hr
  split at hr
  · cases hr
    obtain ⟨a, c, news, h1, h2, _, h3, h4, h5, h6, h7⟩ := sl_cells h
    exact ⟨a, c, news, h1, h2, h3, h4, h5, h6, fun hne => let ⟨b, o, e, _, g⟩ := h7 hne; ⟨b, o, e, g⟩⟩
  · rename_i k g off sz' n'
    split at hr
    · rename_i r hk
      split at hr
      · rename_i hcond
        obtain ⟨hg, hle⟩ := hcond
        cases hr
        cases h with
        | row hk' hgc hn ha hc =>
          rename_i c gc b o C a
          obtain ⟨r', h1, h2, h3, h4, h5⟩ := hS.row _ _ _ _ _ hk'
          rw [hk] at h1; cases h1
          obtain ⟨hc1, hc2⟩ := hc (by omega)
          by_cases h0 : m * sz = 0
          · refine ⟨a, c, [], rfl, hn, by simp [h0], by simp [h0], by simp, by simp, fun h => (h (by simp [h0])).elim⟩
          · obtain ⟨cur, e, g1, g2, g3, g4, g5⟩ := h5 (by omega)
            have hc0 : c ≠ 0 := by
              intro e; subst e
              have : m = 0 := by omega
              subst this; simp at h0
            refine ⟨a, c, (cur.toList.drop (o + off)).take (m * sz), rfl, hn, by simp; omega, by simp; omega, fun j x av hx hav => ?_, fun u hu => ?_, fun _ => ⟨b, o + off, hc2 hc0, fun j x hx => ?_⟩⟩
            · rw [List.getElem?_take] at hx hav
              split at hx
              · rename_i hj
                rw [if_pos hj, List.getElem?_drop] at hav
                rw [List.getElem?_drop] at hx
                exact g5 (off + j) x av (by rw [← Nat.add_assoc]; simpa using hx) hav
              · cases hx
            · obtain ⟨j, hj, rfl⟩ := List.getElem_of_mem hu
              have hj' : j < m * sz := by simp at hj; omega
              refine g4 (off + j) _ (by omega) ?_
              rw [List.getElem_take, List.getElem_drop]
              simp only [Array.getElem_toList, ← Nat.add_assoc]
              exact Array.getElem?_eq_getElem _
            · rw [List.getElem?_take] at hx
              split at hx
              · rw [List.getElem?_drop] at hx
                rw [heap_cell g1]; simpa using hx
              · cases hx
      · cases hr
    · cases hr
  · cases hr

theorem add_at (b o k : Nat) : (⟨b, o, none⟩ : Addr).add k = ⟨b, o + k, none⟩ := by
  unfold Addr.add; split <;> simp_all

/-- A block whose first cells are sealed, the rest of which belongs to a tail. -/
def Gh.withRow (G : Gh) (w : World) (n total k m : Nat) : Gh :=
  { G.withBlock w.heap.size (fun j => if j < n then .fixd else if j < total then .tail k else .no) with tl := fun i => if i = k then some (m, w.heap.size, n, total) else G.tl i }

theorem tl_old {G : Gh} {w : World} {σ : St} (hS : RelS G w σ) {k m : Nat} {r : Nat × Nat × Nat} (h : G.tl k = some (m, r)) : σ.toks[k]? = some m := (hS.tok k m r.1 r.2.1 r.2.2 h).1

theorem newRow_sound {G : Gh} {w : World} {σ : St} (hS : RelS G w σ) (e : TypeId) (c : Array Value) (n k m : Nat) (toks' : List Nat)
    (hk : ∀ m0 r, G.tl k = some (m0, r) → m0 < m) (hk' : toks'[k]? = some m) (htl : ∀ i, i < toks'.length → i = k ∨ i < σ.toks.length) (hto : ∀ i, i ≠ k → ∀ x, σ.toks[i]? = some x → toks'[i]? = some x) :
    Ext G w (G.withRow w n c.size k m) (w.alloc (.cells c e)) ∧ RelS (G.withRow w n c.size k m) (w.alloc (.cells c e)) { σ with toks := toks' } := by
  have hE1 := ext_alloc hS.fresh (.cells c e) (fun j => if j < n then .fixd else if j < c.size then .tail k else .no)
  have hS1 := hS.alloc (.cells c e) (fun j => if j < n then .fixd else if j < c.size then .tail k else .no)
  have hE : Ext G w (G.withRow w n c.size k m) (w.alloc (.cells c e)) := by
    refine ⟨hE1.base, hE1.os, hE1.tape, hE1.output, hE1.size, hE1.blk, hE1.oth, hE1.sealed, hE1.no, hE1.pl, fun i m0 r hi => ?_, fun _ m r h => ⟨m, r, h, Nat.le_refl _, fun _ => rfl⟩⟩
    show ∃ m' r', (if i = k then some (m, w.heap.size, n, c.size) else G.tl i) = some (m', r') ∧ _
    by_cases hik : i = k
    · subst hik
      rw [if_pos rfl]
      have := hk m0 r hi
      exact ⟨m, _, rfl, by omega, fun e => by omega⟩
    · rw [if_neg hik]
      exact ⟨m0, r, hi, Nat.le_refl _, fun _ => rfl⟩
  have hE2 : Ext (G.withBlock w.heap.size (fun j => if j < n then .fixd else if j < c.size then .tail k else .no)) (w.alloc (.cells c e)) (G.withRow w n c.size k m) (w.alloc (.cells c e)) := by
    refine ⟨rfl, rfl, rfl, rfl, Nat.le_refl _, fun _ c _ _ h => ⟨c, h, rfl, fun _ _ => rfl⟩, fun _ _ h _ => h, fun _ _ h => h, fun _ _ _ h => h, fun _ _ h => h, hE.tl, fun _ m r h => ⟨m, r, h, Nat.le_refl _, fun _ => rfl⟩⟩
  refine ⟨hE, ?_, hS1.inj, ?_, hS1.fresh, fun g cs hg => (hS1.gl g cs hg).mono hE2, hS1.tot, fun i hi => ?_, hS1.lift hE2 rfl (fun _ _ _ _ _ _ _ c _ hb _ ht => ⟨c, hb, rfl, fun _ _ => rfl, ht⟩), hS1.totr⟩
  case refine_3 =>
    show ∃ p, (if i = k then some (m, w.heap.size, n, c.size) else G.tl i) = some p
    by_cases h : i = k
    · rw [if_pos h]; exact ⟨_, rfl⟩
    · rw [if_neg h]; exact hS.totk i ((htl i hi).resolve_left h)
  · intro id b hp
    obtain ⟨c2, e2, cs2, h1, h2, h3, h4, h5⟩ := hS1.obj id b hp
    exact ⟨c2, e2, cs2, h1, h2, h3, h4, fun j x a hx ha => (h5 j x a hx ha).mono hE2⟩
  · intro i m0 b lo hi h
    have h' : (if i = k then some (m, w.heap.size, n, c.size) else G.tl i) = some (m0, b, lo, hi) := h
    by_cases hik : i = k
    · subst hik
      rw [if_pos rfl] at h'
      cases h'
      refine ⟨hk', fun _ => ⟨c, e, heap_alloc_new w _, Nat.le_refl _, fun j hj hj2 => ?_⟩⟩
      show (if w.heap.size = w.heap.size then _ else _) = _
      rw [if_pos rfl, if_neg (by omega), if_pos hj2]
    · rw [if_neg hik] at h'
      obtain ⟨t1, t2⟩ := hS1.tok i m0 b lo hi h'
      exact ⟨hto i hik _ t1, t2⟩

theorem run_append_same {P : Program} {w : World} {t ty e : TypeId} {i : TypeInfo} (ht : P.underlying t = some (.slice e)) (hi : P.info? e = some i) (a a' : Option Addr) (n c c' : Nat) (hc : n ≤ c) :
    (Builtin.append_ #[t, t] ty #[.slice a n c, .slice a' 0 c']).run P w = .ok (.slice a n c) w := by
  cases a <;> cases a' <;> simp [Builtin.append_, run_underlying ht, sizeOf, typeInfo, hi, Builtin.lenOf, hc, Builtin.firstCells, loadCells, loadCellsFrom, storeCells]

theorem run_append_into {P : Program} {w : World} {t ty e : TypeId} {i : TypeInfo} (ht : P.underlying t = some (.slice e)) (hi : P.info? e = some i) (b o n c : Nat) (cur : Array Value) (el : TypeId)
    (hb : w.heap[b]? = some (.cells cur el (0, 0))) (a : Addr) (m c' : Nat) (news : List Value) (hl : news.length = m * i.size) (hnews : ∀ j u, news[j]? = some u → w.cell? (a.add j) = some u) (h1 : ∀ u ∈ news, u.oneCell' = true)
    (hroom : n + m ≤ c) (hfit : o + n * i.size + news.length ≤ cur.size) :
    (Builtin.append_ #[t, t] ty #[.slice (some ⟨b, o, none⟩) n c, .slice (some a) m c']).run P w =
      .ok (.slice (some ⟨b, o, none⟩) (n + m) c) (w.setRow b (cur.toList.take (o + n * i.size) ++ news ++ cur.toList.drop (o + n * i.size + news.length)).toArray) := by
  have hf := run_firstCells_some (P := P) w i.size m a m c' news hl hnews
  have hst := run_storeCells_at P b (o + n * i.size) el news 0 cur w hb (by simpa using hfit) h1
  simp only [Nat.add_zero] at hst
  simp [Builtin.append_, run_underlying ht, sizeOf, typeInfo, hi, Builtin.lenOf, hroom, hf, add_at, hst]

/-- What is laid behind a part of a row, however it is brought. -/
theorem rowApp_sound {G : Gh} {w : World} {σ σ' : St} {k g off sz n m c : Nat} {a : Option Addr} {ys : List AV} {news : List Value} {e : TypeId} {zc : Array Value} {av : AV} {res : Result Value} (hS : RelS G w σ) (hx : AVR G w (.slice a n c) (.row k g off sz n))
    (hpos : 0 < sz) (hyl : ys.length = m * sz) (hnl : news.length = ys.length) (hnr : ∀ (j : Nat) x b, news[j]? = some x → ys[j]? = some b → AVR G w x b) (hn1 : ∀ u ∈ news, u.oneCell' = true) (hzs : zc.size = sz) (hz1 : ∀ u ∈ zc.toList, u.oneCell' = true)
    (hroom0 : n + m ≤ c → m = 0 → res = .ok (.slice a n c) w)
    (hroom : n + m ≤ c → 0 < m → ∀ b o cur el, a = some ⟨b, o, none⟩ → w.heap[b]? = some (.cells cur el (0, 0)) → o + n * sz + news.length ≤ cur.size →
      res = .ok (.slice (some ⟨b, o, none⟩) (n + m) c) (w.setRow b (cur.toList.take (o + n * sz) ++ news ++ cur.toList.drop (o + n * sz + news.length)).toArray))
    (hgrow : c < n + m → ∀ olds : List Value, olds.length = n * sz → (∀ j u, olds[j]? = some u → ∃ b o, a = some ⟨b, o, none⟩ ∧ w.cell? ⟨b, o + j, none⟩ = some u) →
      ∃ cap', n + m ≤ cap' ∧ res = .ok (.slice (some ⟨w.heap.size, 0, none⟩) (n + m) cap') (w.drew.alloc (.cells (olds.toArray ++ news.toArray ++ Builtin.zeroCells zc (cap' - (n + m))) e)))
    (h : rowAppA k g off sz n ys m σ = some (av, σ')) : ∃ v w' G', res = .ok v w' ∧ Ext G w G' w' ∧ RelS G' w' σ' ∧ AVR G' w' v av := by
  unfold rowAppA at h
  split at h
  case h_2 => cases h
  rename_i r hrk
  split at h
  case isFalse => cases h
  rename_i hcond
  obtain ⟨hg, hle⟩ := hcond
  cases hx with
  | row hk hgc hn ha hc =>
  rename_i gc b o C
  obtain ⟨r', h1, h2, h3, h4, h5⟩ := hS.row _ _ _ _ _ hk
  rw [hrk] at h1; cases h1
  obtain rfl : g = gc := by omega
  obtain ⟨hc1, hc2⟩ := hc rfl
  have hmul : (n + m) * sz = n * sz + m * sz := Nat.add_mul ..
  have hnc : n * sz ≤ c * sz := Nat.mul_le_mul_right _ hn
  have hlen2 : ((r.cells.drop off).take (n * sz) ++ ys).length = (n + m) * sz := by simp [hyl]; omega
  by_cases hrm : n + m ≤ c
  · -- there is room behind it
    have hmc : (n + m) * sz ≤ c * sz := Nat.mul_le_mul_right _ hrm
    obtain ⟨sp', hsp', hh⟩ : ∃ sp', (∀ s, sp' = some s → (n + m) * sz + s = C - off) ∧ some (AV.row k (g + 1) 0 sz (n + m), ({ σ with rows := σ.rows.set k ⟨g + 1, (r.cells.drop off).take (n * sz) ++ ys, sp'⟩ } : St)) = some (av, σ') := by
      split at h
      · rename_i s hs
        have := h4 s hs
        rw [if_pos (by omega)] at h
        exact ⟨_, ⟨fun s2 e2 => (by cases e2; omega), h⟩⟩
      · exact ⟨none, ⟨fun s2 e2 => (by cases e2), h⟩⟩
    cases hh
    clear h
    have mk : ∀ w', (w' = w ∧ (0 < C - off → ∀ c e, w.heap[b]? = some (.cells c e (0, 0)) → ∀ (j : Nat) x a, c[o + off + j]? = some x → ((r.cells.drop off).take (n * sz) ++ ys)[j]? = some a → AVR G w x a)) ∨
        (∃ c c' e, w' = w.setRow b c' ∧ w.heap[b]? = some (.cells c e (0, 0)) ∧ c'.size = c.size ∧ (∀ q : Nat, ¬ (o ≤ q ∧ q < o + C) → c'[q]? = c[q]?) ∧ (∀ (q : Nat) x, o ≤ q → q < o + C → c'[q]? = some x → x.oneCell' = true) ∧
        (∀ (j : Nat) x a, c'[o + off + j]? = some x → ((r.cells.drop off).take (n * sz) ++ ys)[j]? = some a → AVR G w x a)) →
        ∃ G', Ext G w G' w' ∧ RelS G' w' { σ with rows := σ.rows.set k ⟨g + 1, (r.cells.drop off).take (n * sz) ++ ys, sp'⟩ } ∧ AVR G' w' (.slice a (n + m) c) (.row k (g + 1) 0 sz (n + m)) := by
      intro w' hw
      have := row_turn hS (w' := w') (g' := g + 1) (o' := o + off) (C' := C - off) (r' := ⟨g + 1, (r.cells.drop off).take (n * sz) ++ ys, sp'⟩) hk (.inr (Nat.lt_succ_self _)) (by omega) (by omega) rfl (by simp only [hlen2]; omega) (fun s hs => by simp only [hlen2]; exact hsp' s hs) hw
      refine ⟨_, this.1, this.2, .row (if_pos rfl) (Nat.le_refl _) hrm ha (fun _ => ⟨by omega, fun hc0 => by simpa using hc2 hc0⟩)⟩
    by_cases hm0 : m = 0
    · subst hm0
      have hys : ys = [] := List.eq_nil_of_length_eq_zero (by simpa using hyl)
      subst hys
      obtain ⟨G', f1, f2, f3⟩ := mk w (.inl ⟨rfl, fun hC c2 e2 hb2 j x a2 hx2 ha2 => by
        obtain ⟨c0, e0, g1, g2, g3, g4, g5⟩ := h5 (by omega)
        rw [hb2] at g1; cases g1
        rw [List.append_nil, List.getElem?_take] at ha2
        split at ha2
        · rw [List.getElem?_drop] at ha2
          exact g5 (off + j) x a2 (by rw [← Nat.add_assoc]; exact hx2) ha2
        · cases ha2⟩)
      exact ⟨_, w, G', hroom0 hrm rfl, f1, f2, f3⟩
    · have hc0 : c ≠ 0 := by omega
      have hC : 0 < C := by
        have : 0 < c * sz := Nat.mul_pos (by omega) hpos
        omega
      obtain ⟨cur, el, g1, g2, g3, g4, g5⟩ := h5 hC
      have hax := hc2 hc0
      subst hax
      have hrun := hroom hrm (by omega) b (o + off) cur el rfl g1 (by rw [hnl, hyl]; omega)
      have hget : ∀ q : Nat, ((cur.toList.take (o + off + n * sz) ++ news ++ cur.toList.drop (o + off + n * sz + news.length)).toArray)[q]? = if o + off + n * sz ≤ q ∧ q < o + off + n * sz + news.length then news[q - (o + off + n * sz)]? else cur[q]? := by
        intro q
        have := splice_get cur.toList (o + off + n * sz) news (by simp [hnl, hyl]; omega) q
        simpa using this
      have hsz2 : ((cur.toList.take (o + off + n * sz) ++ news ++ cur.toList.drop (o + off + n * sz + news.length)).toArray).size = cur.size := by
        simp [hnl, hyl]; omega
      generalize ((cur.toList.take (o + off + n * sz) ++ news ++ cur.toList.drop (o + off + n * sz + news.length)).toArray) = cur' at hrun hget hsz2
      rw [hnl, hyl] at hget
      obtain ⟨G', f1, f2, f3⟩ := mk (w.setRow b cur') (.inr ⟨cur, cur', el, rfl, g1, hsz2, fun q hq => by rw [hget, if_neg (by omega)], fun q x h6 h7 hx => by
        rw [hget] at hx
        split at hx
        · exact hn1 x (List.mem_of_getElem? hx)
        · exact g4 (q - o) x (by omega) (by rw [← hx]; congr 1; omega), fun j x a2 hx ha2 => by
        rw [hget] at hx
        by_cases hj : j < n * sz
        · rw [if_neg (by omega)] at hx
          rw [List.getElem?_append_left (by simp; omega), List.getElem?_take, if_pos hj, List.getElem?_drop] at ha2
          exact g5 (off + j) x a2 (by rw [← Nat.add_assoc]; exact hx) ha2
        · rw [List.getElem?_append_right (by simp; omega)] at ha2
          have hlt := (List.getElem?_eq_some_iff.1 ha2).1
          have hl3 : ((r.cells.drop off).take (n * sz)).length = n * sz := by simp; omega
          rw [hl3] at ha2 hlt
          rw [hyl] at hlt
          rw [if_pos (by omega)] at hx
          exact hnr _ x a2 (by rw [← hx]; congr 1; omega) ha2⟩)
      exact ⟨_, _, G', hrun, f1, f2, f3⟩
  · -- new memory
    have hmc : c * sz < (n + m) * sz := Nat.mul_lt_mul_of_pos_right (by omega) hpos
    obtain ⟨olds, hol, horel, ho1, hocell⟩ : ∃ olds : List Value, olds.length = n * sz ∧ (∀ (j : Nat) x a, olds[j]? = some x → ((r.cells.drop off).take (n * sz))[j]? = some a → AVR G w x a) ∧ (∀ u ∈ olds, u.oneCell' = true) ∧
        (∀ j u, olds[j]? = some u → ∃ b o, a = some ⟨b, o, none⟩ ∧ w.cell? ⟨b, o + j, none⟩ = some u) := by
      by_cases h0 : n = 0
      · subst h0
        exact ⟨[], by simp, by simp, by simp, by simp⟩
      · have hC : 0 < C := by
          have : 0 < n * sz := Nat.mul_pos (by omega) hpos
          omega
        obtain ⟨cur, el, g1, g2, g3, g4, g5⟩ := h5 hC
        refine ⟨(cur.toList.drop (o + off)).take (n * sz), by simp; omega, fun j x a2 hx ha2 => ?_, fun u hu => ?_, fun j u hu => ⟨b, o + off, hc2 (by omega), ?_⟩⟩
        · rw [List.getElem?_take] at hx ha2
          split at hx
          · rename_i hj
            rw [if_pos hj, List.getElem?_drop] at ha2
            rw [List.getElem?_drop] at hx
            exact g5 (off + j) x a2 (by rw [← Nat.add_assoc]; simpa using hx) ha2
          · cases hx
        · obtain ⟨j, hj, rfl⟩ := List.getElem_of_mem hu
          have hj' : j < n * sz := by simp at hj; omega
          refine g4 (off + j) _ (by omega) ?_
          rw [List.getElem_take, List.getElem_drop]
          simp only [Array.getElem_toList, ← Nat.add_assoc]
          exact Array.getElem?_eq_getElem _
        · rw [List.getElem?_take] at hu
          split at hu
          · rw [List.getElem?_drop] at hu
            rw [heap_cell g1]; simpa using hu
          · cases hu
    obtain ⟨cap', hcap, hrun⟩ := hgrow (by omega) olds hol hocell
    have hcs2 : (olds.toArray ++ news.toArray ++ Builtin.zeroCells zc (cap' - (n + m))).size = cap' * sz := by
      simp only [Array.size_append, List.size_toArray, size_zeroCells, hzs, hol, hnl, hyl]
      rw [← Nat.add_mul, ← Nat.add_mul]
      congr 1; omega
    have hone2 : ∀ (q : Nat) x, (olds.toArray ++ news.toArray ++ Builtin.zeroCells zc (cap' - (n + m)))[q]? = some x → x.oneCell' = true := by
      intro q x hx
      have hmem : x ∈ (olds.toArray ++ news.toArray ++ Builtin.zeroCells zc (cap' - (n + m))) := by
        obtain ⟨h8, h9⟩ := Array.getElem?_eq_some_iff.1 hx
        rw [← h9]; exact Array.getElem_mem h8
      rw [Array.mem_append, Array.mem_append] at hmem
      rcases hmem with (h6 | h6) | h6
      · exact ho1 x (by simpa using h6)
      · exact hn1 x (by simpa using h6)
      · refine hz1 x ?_
        simp only [Builtin.zeroCells, Array.mem_map] at h6
        obtain ⟨j, _, rfl⟩ := h6
        have hzpos : 0 < zc.size := by omega
        rw [getElem!_pos zc (j % zc.size) (Nat.mod_lt _ hzpos)]
        simp
    have hrel2 : ∀ (j : Nat) x a2, (olds.toArray ++ news.toArray ++ Builtin.zeroCells zc (cap' - (n + m)))[j]? = some x → ((r.cells.drop off).take (n * sz) ++ ys)[j]? = some a2 → AVR G w x a2 := by
      intro j x a2 hx ha2
      have hlt := (List.getElem?_eq_some_iff.1 ha2).1
      rw [hlen2] at hlt
      rw [Array.getElem?_append_left (by simp [hol, hnl, hyl]; omega)] at hx
      have hx' : (olds ++ news)[j]? = some x := by simpa using hx
      by_cases hj : j < n * sz
      · rw [List.getElem?_append_left (by simp; omega)] at ha2
        rw [List.getElem?_append_left (by omega)] at hx'
        exact horel j x a2 hx' ha2
      · have hl3 : ((r.cells.drop off).take (n * sz)).length = n * sz := by simp; omega
        rw [List.getElem?_append_right (by omega)] at ha2
        rw [List.getElem?_append_right (by omega)] at hx'
        rw [hl3] at ha2
        rw [hol] at hx'
        exact hnr _ x a2 hx' ha2
    generalize (olds.toArray ++ news.toArray ++ Builtin.zeroCells zc (cap' - (n + m))) = c2 at hrun hcs2 hone2 hrel2
    have hcm : (n + m) * sz ≤ cap' * sz := Nat.mul_le_mul_right _ hcap
    have hSd := hS.drew
    have hEd := ext_drew G w
    split at h
    · rename_i s hs
      have := h4 s hs
      rw [if_neg (by omega)] at h
      cases h
      obtain ⟨G', f1, f2, f3⟩ := row_push hSd e c2 ((r.cells.drop off).take (n * sz) ++ ys) none (by rw [hlen2]; omega) (fun s e => by cases e) hone2 (fun j x a2 hx ha2 => (hrel2 j x a2 hx ha2).mono hEd)
      refine ⟨_, _, G', hrun, hEd.trans f1, f2, .row f3 (Nat.le_refl _) hcap (fun _ => ⟨_, _, rfl⟩) (fun _ => ⟨by rw [hcs2]; omega, fun _ => rfl⟩)⟩
    · cases h
      have hklt : k < σ.rows.length := (List.getElem?_eq_some_iff.1 hrk).1
      obtain ⟨G', f1, f2, f3⟩ := row_new hSd e c2 k (g + 1) (σ.rows.set k ⟨g + 1, (r.cells.drop off).take (n * sz) ++ ys, none⟩) ⟨g + 1, (r.cells.drop off).take (n * sz) ++ ys, none⟩ (fun p hp => by rw [hk] at hp; cases hp; exact Nat.lt_succ_self _) (by simp [hklt])
        (fun i hi x hx => by rw [List.getElem?_set_ne (Ne.symm hi)]; exact hx) (fun i hi => .inr (by simpa using hi)) rfl (by simp only [hlen2]; omega) (fun s e => by cases e) hone2 (fun j x a2 hx ha2 => (hrel2 j x a2 hx ha2).mono hEd)
      refine ⟨_, _, G', hrun, hEd.trans f1, f2, .row f3 (Nat.le_refl _) hcap (fun _ => ⟨_, _, rfl⟩) (fun _ => ⟨by rw [hcs2]; omega, fun _ => rfl⟩)⟩

theorem appendA_sound {P : Program} {G : Gh} {w : World} {σ σ' : St} {t ty : TypeId} {x y : Value} {s a av : AV} (hS : RelS G w σ) (hx : AVR G w x s) (hy : AVR G w y a) (h : appendA P t s a σ = some (av, σ')) :
    ∃ v w' G', (Builtin.append_ #[t, t] ty #[x, y]).run P w = .ok v w' ∧ Ext G w G' w' ∧ RelS G' w' σ' ∧ AVR G' w' v av := by
  unfold appendA at h
  split at h
  case h_3 => cases h
  case h_2 =>
    rename_i k g off sz n sy ys m hread
    split at h
    case h_2 => cases h
    rename_i e he
    split at h
    case h_2 => cases h
    rename_i i hi
    split at h
    case isFalse => cases h
    rename_i hcond
    obtain ⟨hsz, hsy, hpos, hbytes, hmax, hzc⟩ := hcond
    have ht := elemT_some he
    obtain ⟨d, j, hd, hj, hz, hag, hsize, hby⟩ := ti_some hi
    obtain ⟨ay, cy, news, rfl, hmcy, hyl, hnl, hnr, hn1, hnc⟩ := read_cells hS hy hread
    simp only [zeroCell, Bool.and_eq_true, beq_iff_eq, List.all_eq_true] at hzc
    obtain ⟨hzs, hz1⟩ := hzc
    subst hsz
    have hyl' : ys.length = m * i.size := by
      rcases hsy with e | e
      · rw [← e]; exact hyl
      · subst e; simpa using hyl
    obtain ⟨a, c, rfl, hnc', ha⟩ : ∃ a c, x = .slice a n c ∧ n ≤ c ∧ (c ≠ 0 → ∃ b' o', a = some ⟨b', o', none⟩) := by
      cases hx with
      | row _ _ hn ha _ => exact ⟨_, _, rfl, hn, ha⟩
    have hcell : 0 < m → ∃ b o, ay = some ⟨b, o, none⟩ ∧ ∀ (j : Nat) x, news[j]? = some x → w.cell? ⟨b, o + j, none⟩ = some x := fun hm => by
      refine hnc (fun e => ?_)
      rw [e] at hyl'
      have : m * i.size = 0 := by simpa using hyl'.symm
      rcases Nat.mul_eq_zero.1 this with h | h <;> omega
    have hnl' : news.length = m * j.size := by rw [hnl, hyl', hsize]
    refine rowApp_sound (e := e) (zc := i.zero.cells) hS hx hpos hyl' hnl hnr hn1 hzs hz1 (fun _ hm => ?_) (fun hroom hm b o cur el hax hb hfit => ?_) (fun hgr olds hol hold => ?_) h
    · subst hm
      exact run_append_same (w := w) ht hj a ay n c cy hnc'
    · subst hax
      obtain ⟨by', oy, rfl, hcy⟩ := hcell hm
      have := run_append_into (P := P) (w := w) (ty := ty) ht hj b o n c cur el hb ⟨by', oy, none⟩ m cy news hnl' (fun j u hj => by rw [add_at]; exact hcy j u hj) hn1 hroom (by rw [← hsize]; exact hfit)
      rw [← hsize] at this
      exact this
    · have hm : 0 < m := by omega
      obtain ⟨by', oy, rfl, hcy⟩ := hcell hm
      have hnews : ∀ j u, news[j]? = some u → w.cell? ((⟨by', oy, none⟩ : Addr).add j) = some u := fun j u hj => by rw [add_at]; exact hcy j u hj
      have h63 : ((n + m : Nat) : Int) ≤ 9223372036854775807 := by simp only [maxLen] at hmax; omega
      have hfit : Builtin.nextslicecap (n + m) c * j.bytes ≤ 281474976710656 := growslice_fits hgr (by rw [← hby]; exact hbytes)
      refine ⟨grownCap w (n + m) c e, grownCap_ge w (n + m) c e, ?_⟩
      cases a with
      | none =>
        have hc0 : c = 0 := by
          apply Classical.byContradiction
          intro hc0
          obtain ⟨_, _, h⟩ := ha hc0
          cases h
        subst hc0
        have hn0 : n = 0 := by omega
        subst hn0
        have hols : olds = [] := List.eq_nil_of_length_eq_zero (by simpa using hol)
        subst hols
        have := run_append_nil (P := P) w t ty e j i.zero ht hj hz ⟨by', oy, none⟩ m cy news hnl' hnews (by omega) (by simpa using h63) (by rw [← hby]; unfold roomA at hbytes; simp only [Nat.zero_add] at hbytes; omega)
        simp only [Nat.zero_add] at this ⊢
        simpa using this
      | some b0 =>
        exact run_append_grow (P := P) w t ty e j i.zero ht hj hz b0 n c olds (by rw [hol, hsize]) (fun q u hq => by
          obtain ⟨b, o, e1, e2⟩ := hold q u hq
          cases e1
          rw [add_at]; exact e2) ⟨by', oy, none⟩ m cy news hnl' hnews hgr h63 hfit
  rename_i sz cs n tl sy ys m hread
  split at h
  case h_2 => cases h
  rename_i e he
  split at h
  case h_2 => cases h
  rename_i i hi
  split at h
  case isFalse => cases h
  rename_i hcond
  obtain ⟨hsz, hsy, hpos, hbytes, hmax, hzs⟩ := hcond
  have ht := elemT_some he
  obtain ⟨d, j, hd, hj, hz, hag, hsize, hby⟩ := ti_some hi
  obtain ⟨ax, cx, olds, rfl, hncx, htail, hcl, hol, hor, ho1, hoc⟩ := sl_cells hx
  obtain ⟨ay, cy, news, rfl, hmcy, hyl, hnl, hnr, hn1, hnc⟩ := read_cells hS hy hread
  have hcl' : cs.length = n * i.size := by
    rcases hsz with e | e
    · rw [← e]; exact hcl
    · subst e; simpa using hcl
  have hyl' : ys.length = m * i.size := by
    rcases hsy with e | e
    · rw [← e]; exact hyl
    · subst e; simpa using hyl
  -- the token
  obtain ⟨k, toks', hav, hσ, hkm, hk', htlen, hto, hreg⟩ : ∃ k toks', av = .sl i.size (cs ++ ys) (n + m) (.own k) ∧ σ' = { σ with toks := toks' } ∧ (∀ m0 r, G.tl k = some (m0, r) → m0 = n) ∧ toks'[k]? = some (n + m) ∧ (∀ i, i < toks'.length → i = k ∨ i < σ.toks.length) ∧
      (∀ i, i ≠ k → ∀ x, σ.toks[i]? = some x → toks'[i]? = some x) ∧ (cx = n ∨ ∃ b o, ax = some ⟨b, o, none⟩ ∧ G.tl k = some (n, b, o + n * i.size, o + cx * i.size)) := by
    split at h
    · cases h
      refine ⟨_, _, rfl, rfl, fun m0 r hm => ?_, by simp, fun i hi => by simp at hi; omega, fun q hq x hx => ?_, .inl htail⟩
      · have := tl_old hS hm; simp at this
      · rw [List.getElem?_append_left (List.getElem?_eq_some_iff.1 hx).1]; exact hx
    · rename_i k
      split at h
      · rename_i htk
        obtain ⟨hszi, htk⟩ := htk
        cases h
        refine ⟨k, _, rfl, rfl, fun m0 r hm => ?_, ?_, fun i hi => .inr (by simpa using hi), fun q hq x hx => ?_, ?_⟩
        · have := tl_old hS hm; rw [htk] at this; cases this; rfl
        · have hlt := (List.getElem?_eq_some_iff.1 htk).1
          simp [hlt]
        · rw [List.getElem?_set_ne (Ne.symm hq)]; exact hx
        · obtain ⟨m0, r, hk0, hle, hcase⟩ := htail
          have := tl_old hS hk0
          rw [htk] at this; cases this
          rcases hcase rfl with h | ⟨b, o, h1, h2⟩
          · exact .inl h
          · refine .inr ⟨b, o, h1, ?_⟩
            rw [hk0, h2, hszi]
      · cases h
    · cases h
  subst hav; subst hσ
  clear h
  by_cases hm0 : m = 0
  · -- nothing is appended
    subst hm0
    have hys : ys = [] := List.eq_nil_of_length_eq_zero (by simpa using hyl')
    subst hys
    let G' : Gh := { G with tl := fun q => if q = k then (match G.tl k with | some r => some r | none => some (n, 0, 0, 0)) else G.tl q }
    have hE : Ext G w G' w := by
      refine ⟨rfl, rfl, rfl, rfl, Nat.le_refl _, fun _ c _ _ h => ⟨c, h, rfl, fun _ _ => rfl⟩, fun _ _ h _ => h, fun _ _ h => h, fun _ _ _ h => h, fun _ _ h => h, fun q m0 r hq => ?_, fun _ m r h => ⟨m, r, h, Nat.le_refl _, fun _ => rfl⟩⟩
      refine ⟨m0, r, ?_, Nat.le_refl _, fun _ => rfl⟩
      show (if q = k then _ else _) = _
      split
      · rename_i e; subst e; rw [hq]
      · exact hq
    have hG'k : ∃ r, G'.tl k = some (n, r) := by
      show ∃ r, (if k = k then _ else _) = _
      rw [if_pos rfl]
      cases hg : G.tl k with
      | none => exact ⟨_, rfl⟩
      | some p => obtain ⟨m0, r⟩ := p; rw [hkm m0 r hg]; exact ⟨r, rfl⟩
    refine ⟨.slice ax n cx, w, G', run_append_same (w := w) ht hj ax ay n cx cy hncx, hE, ⟨?_, hS.inj, ?_, hS.fresh, fun g cs2 hg => (hS.gl g cs2 hg).mono hE, hS.tot, fun i hi => ?_, hS.lift hE rfl (fun _ _ _ _ _ _ _ c _ hb _ ht => ⟨c, hb, rfl, fun _ _ => rfl, ht⟩), hS.totr⟩, ?_⟩
    case refine_3 =>
      show ∃ p, (if i = k then (match G.tl k with | some r => some r | none => some (n, 0, 0, 0)) else G.tl i) = some p
      by_cases h : i = k
      · rw [if_pos h]; cases G.tl k <;> exact ⟨_, rfl⟩
      · rw [if_neg h]; exact hS.totk i ((htlen i hi).resolve_left h)
    · intro id b hp
      obtain ⟨c2, e2, cs2, h1, h2, h3, h4, h5⟩ := hS.obj id b hp
      exact ⟨c2, e2, cs2, h1, h2, h3, h4, fun j x a hx ha => (h5 j x a hx ha).mono hE⟩
    · intro q m0 b lo hi' hq
      have hq' : (if q = k then (match G.tl k with | some r => some r | none => some (n, 0, 0, 0)) else G.tl q) = some (m0, b, lo, hi') := hq
      by_cases hqk : q = k
      · subst hqk
        rw [if_pos rfl] at hq'
        cases hg : G.tl q with
        | none =>
          rw [hg] at hq'
          cases hq'
          exact ⟨by simpa using hk', fun h => by omega⟩
        | some p =>
          rw [hg] at hq'
          cases hq'
          have h0 := hkm _ _ hg
          obtain ⟨t1, t2⟩ := hS.tok q m0 b lo hi' hg
          refine ⟨?_, t2⟩
          rw [h0]; simpa using hk'
      · rw [if_neg hqk] at hq'
        obtain ⟨t1, t2⟩ := hS.tok q m0 b lo hi' hq'
        exact ⟨hto q hqk _ t1, t2⟩
    · have htl : TailOk G' (.own k) ax n cx i.size := by
        obtain ⟨r, hr⟩ := hG'k
        refine ⟨n, r, hr, Nat.le_refl _, fun _ => ?_⟩
        rcases hreg with h | ⟨b, o, h1, h2⟩
        · exact .inl h
        · have : G'.tl k = some (n, b, o + n * i.size, o + cx * i.size) := by
            show (if k = k then _ else _) = _
            rw [if_pos rfl, h2]
          rw [this] at hr
          cases hr
          exact .inr ⟨b, o, h1, rfl⟩
      rw [List.append_nil, Nat.add_zero]
      by_cases hcs : cs = []
      · subst hcs
        have hn0 : n = 0 := by
          have : n * i.size = 0 := by simpa using hcl'.symm
          rcases Nat.mul_eq_zero.1 this with h | h
          · exact h
          · omega
        subst hn0
        exact .sl0 htl
      · obtain ⟨b, o, hab, hseal, hcell⟩ := hoc hcs
        subst hab
        exact .sl olds hol hcl' hncx (fun j hj => hE.sealed _ _ (hseal j hj)) (fun j x hj => ⟨hcell j x hj, ho1 x (List.mem_of_getElem? hj)⟩) (fun j x b hj hb => (hor j x b hj hb).mono hE) htl
  · have hysne : ys ≠ [] := by
      intro e; subst e
      have : m * i.size = 0 := by simpa using hyl'.symm
      rcases Nat.mul_eq_zero.1 this with h | h <;> omega
    obtain ⟨by', oy, hay, hcelly⟩ := hnc hysne
    subst hay
    have hnews : ∀ j u, news[j]? = some u → w.cell? ((⟨by', oy, none⟩ : Addr).add j) = some u := fun j u hj => by rw [add_at]; exact hcelly j u hj
    have hnl' : news.length = m * j.size := by rw [hnl, hyl', hsize]
    by_cases hroom : n + m ≤ cx
    · -- there is room behind it
      rcases hreg with hreg | ⟨b, o, hax, hk0⟩
      · omega
      subst hax
      obtain ⟨tok1, tok2⟩ := hS.tok k n b _ _ hk0
      have hlohi : o + n * i.size < o + cx * i.size := by
        have : n * i.size < cx * i.size := Nat.mul_lt_mul_of_pos_right (by omega) hpos
        omega
      obtain ⟨cur, el, hb, hcur, htag⟩ := tok2 hlohi
      have hmul : (n + m) * i.size ≤ cx * i.size := Nat.mul_le_mul_right _ hroom
      have hmul2 : (n + m) * i.size = n * i.size + m * i.size := Nat.add_mul ..
      have hfit : o + n * j.size + news.length ≤ cur.size := by rw [hnl', ← hsize]; omega
      have hrun := run_append_into (P := P) (w := w) (ty := ty) ht hj b o n cx cur el hb ⟨by', oy, none⟩ m cy news hnl' hnews hn1 hroom hfit
      have hget : ∀ q : Nat, ((cur.toList.take (o + n * j.size) ++ news ++ cur.toList.drop (o + n * j.size + news.length)).toArray)[q]? = if o + n * j.size ≤ q ∧ q < o + n * j.size + news.length then news[q - (o + n * j.size)]? else cur[q]? := by
        intro q
        have := splice_get cur.toList (o + n * j.size) news (by simpa using hfit) q
        simpa using this
      have hsz2 : ((cur.toList.take (o + n * j.size) ++ news ++ cur.toList.drop (o + n * j.size + news.length)).toArray).size = cur.size := by
        simp; omega
      generalize ((cur.toList.take (o + n * j.size) ++ news ++ cur.toList.drop (o + n * j.size + news.length)).toArray) = cur' at hrun hget hsz2
      rw [hnl'] at hget
      rw [← hsize] at hget
      have hE1 : Ext G w G (w.setRow b cur') := by
        refine ext_setRow hb hsz2 (fun q hq => ?_)
        rw [hget q]
        split
        · rw [htag q (by omega) (by omega)] at hq
          rcases hq with hq | hq <;> cases hq
        · rfl
      let G' : Gh := { G with
        tag := fun x q => if x = b ∧ o + n * i.size ≤ q ∧ q < o + n * i.size + m * i.size then .fixd else G.tag x q
        tl := fun q => if q = k then some (n + m, b, o + (n + m) * i.size, o + cx * i.size) else G.tl q }
      have hE2 : Ext G (w.setRow b cur') G' (w.setRow b cur') := by
        refine ⟨rfl, rfl, rfl, rfl, Nat.le_refl _, fun _ c _ _ h => ⟨c, h, rfl, fun _ _ => rfl⟩, fun _ _ h _ => h, fun x q h => ?_, fun x q _ h => ?_, fun _ _ h => h, fun q m0 r hq => ?_, fun _ m r h => ⟨m, r, h, Nat.le_refl _, fun _ => rfl⟩⟩
        · show (if _ then _ else _) = _
          split
          · rfl
          · exact h
        · show (if _ then _ else _) = _
          split
          · rename_i hc
            obtain ⟨rfl, h1, h2⟩ := hc
            rw [htag q (by omega) (by omega)] at h; cases h
          · exact h
        · show ∃ m' r', (if q = k then _ else _) = some (m', r') ∧ _
          by_cases hqk : q = k
          · subst hqk
            rw [if_pos rfl]
            have := hkm m0 r hq
            exact ⟨_, _, rfl, by omega, fun e => by omega⟩
          · rw [if_neg hqk]
            exact ⟨m0, r, hq, Nat.le_refl _, fun _ => rfl⟩
      have hE := hE1.trans hE2
      have htag' : ∀ x q, ¬ (x = b ∧ o + n * i.size ≤ q ∧ q < o + n * i.size + m * i.size) → G'.tag x q = G.tag x q := fun x q h => by
        show (if _ then _ else _) = _
        rw [if_neg h]
      refine ⟨_, _, G', hrun, hE, ⟨?_, hS.inj, ?_, ?_, fun g cs2 hg => (hS.gl g cs2 hg).mono hE, hS.tot, fun i' hi' => ?_, hS.lift hE rfl (fun k2 gc2 b2 o2 C2 hk2 hC2 c2 e2 hb2 hoc2 ht2 => ?_), hS.totr⟩, ?_⟩
      case refine_5 =>
        have hdis : ∀ j, j < C2 → ¬ (b2 = b ∧ o + n * i.size ≤ o2 + j ∧ o2 + j < o + n * i.size + m * i.size) := fun j hj ⟨e, h1, h2⟩ => by
          subst e
          have := ht2 j hj
          rw [htag _ (by omega) (by omega)] at this; cases this
        by_cases hne : b2 = b
        · subst hne
          rw [hb] at hb2; cases hb2
          exact ⟨cur', setRow_heap w b2 cur cur' el (0, 0) hb, hsz2, fun j hj => by rw [hget, if_neg (fun h => hdis j hj ⟨rfl, h.1, h.2⟩)], fun j hj => by rw [htag' _ _ (hdis j hj)]; exact ht2 j hj⟩
        · exact ⟨c2, by rw [setRow_other w b b2 cur' hne]; exact hb2, rfl, fun _ _ => rfl, fun j hj => by rw [htag' _ _ (hdis j hj)]; exact ht2 j hj⟩
      case refine_4 =>
        show ∃ p, (if i' = k then some (n + m, b, o + (n + m) * i.size, o + cx * i.size) else G.tl i') = some p
        by_cases h : i' = k
        · rw [if_pos h]; exact ⟨_, rfl⟩
        · rw [if_neg h]; exact hS.totk i' ((htlen i' hi').resolve_left h)
      · intro id b2 hp
        obtain ⟨c2, e2, cs2, h1, h2, h3, h4, h5⟩ := hS.obj id b2 hp
        have hne : b2 ≠ b := by
          intro e; subst e
          rw [hb] at h2; cases h2
          have h6 := h4 (o + n * i.size) (by omega)
          rw [htag _ (by omega) (by omega)] at h6; cases h6
        refine ⟨c2, e2, cs2, h1, by rw [setRow_other w b b2 cur' hne]; exact h2, h3, fun q hq => ?_, fun q u av hu hav => (h5 q u av hu hav).mono hE⟩
        rw [htag' _ _ (fun h => hne h.1)]; exact h4 q hq
      · intro q m0 b2 lo hi' hq
        have hq' : (if q = k then some (n + m, b, o + (n + m) * i.size, o + cx * i.size) else G.tl q) = some (m0, b2, lo, hi') := hq
        by_cases hqk : q = k
        · subst hqk
          rw [if_pos rfl] at hq'
          cases hq'
          refine ⟨hk', fun _ => ⟨cur', el, setRow_heap w b cur cur' el (0, 0) hb, by rw [hsz2]; exact hcur, fun z hz hz2 => ?_⟩⟩
          rw [htag' _ _ (by omega)]
          exact htag z (by omega) hz2
        · rw [if_neg hqk] at hq'
          obtain ⟨t1, t2⟩ := hS.tok q m0 b2 lo hi' hq'
          refine ⟨hto q hqk _ t1, fun hlt => ?_⟩
          obtain ⟨c2, e2, g1, g2, g3⟩ := t2 hlt
          have hdis : ∀ z, lo ≤ z → z < hi' → ¬ (b2 = b ∧ o + n * i.size ≤ z ∧ z < o + n * i.size + m * i.size) := by
            intro z hz hz2 ⟨e, h1, h2⟩
            subst e
            have := g3 z hz hz2
            rw [htag z (by omega) (by omega)] at this
            cases this; exact hqk rfl
          by_cases hb2 : b2 = b
          · subst hb2
            rw [hb] at g1; cases g1
            exact ⟨cur', el, setRow_heap w b2 cur cur' el (0, 0) hb, by rw [hsz2]; exact g2, fun z hz hz2 => by rw [htag' _ _ (hdis z hz hz2)]; exact g3 z hz hz2⟩
          · exact ⟨c2, e2, by rw [setRow_other w b b2 cur' hb2]; exact g1, g2, fun z hz hz2 => by rw [htag' _ _ (hdis z hz hz2)]; exact g3 z hz hz2⟩
      · intro b2 q hq
        rw [htag' _ _ (fun h => ?_)]
        · exact hS.fresh b2 q (by simpa using hq)
        · have := (Array.getElem?_eq_some_iff.1 hb).1
          have hq2 : w.heap.size ≤ b2 := by simpa using hq
          omega
      · have hcs0 : cs = [] ∨ cs ≠ [] := by by_cases h : cs = [] <;> simp [h]
        have holdseal : ∀ q, q < cs.length → G.tag b (o + q) = .fixd := by
          intro q hq
          have hne : cs ≠ [] := fun e => by subst e; simp at hq
          obtain ⟨b3, o3, h1, h2, _⟩ := hoc hne
          cases h1
          exact h2 q hq
        have holdcell : ∀ (q : Nat) u, olds[q]? = some u → w.cell? ⟨b, o + q, none⟩ = some u := by
          intro q u hu
          have hne : cs ≠ [] := fun e => by subst e; simp at hol; subst hol; simp at hu
          obtain ⟨b3, o3, h1, _, h2⟩ := hoc hne
          cases h1
          exact h2 q u hu
        refine .sl (olds ++ news) (by simp [hol, hnl]) (by simp [hcl', hyl', Nat.add_mul]) hroom ?_ ?_ ?_ ?_
        · intro q hq
          by_cases h1 : q < cs.length
          · exact hE2.sealed _ _ (holdseal q h1)
          · show (if _ then _ else _) = _
            rw [List.length_append, hcl', hyl'] at hq
            rw [hcl'] at h1
            rw [if_pos ⟨rfl, by omega, by omega⟩]
        · intro q u hu
          refine ⟨?_, ?_⟩
          · rw [heap_cell (setRow_heap w b cur cur' el (0, 0) hb), hget]
            by_cases h1 : q < olds.length
            · rw [List.getElem?_append_left h1] at hu
              rw [if_neg (by rw [hol, hcl'] at h1; omega)]
              have := holdcell q u hu
              rw [heap_cell hb] at this; exact this
            · rw [List.getElem?_append_right (by omega)] at hu
              have hlt := (List.getElem?_eq_some_iff.1 hu).1
              rw [hol, hcl'] at h1
              rw [hol, hcl'] at hlt hu
              rw [hnl, hyl'] at hlt
              rw [if_pos ⟨by omega, by omega⟩]
              rw [← hu]; congr 1; omega
          · have := List.mem_of_getElem? hu
            rcases List.mem_append.1 this with h | h
            · exact ho1 u h
            · exact hn1 u h
        · intro q u av hu hav
          by_cases h1 : q < olds.length
          · rw [List.getElem?_append_left h1] at hu
            rw [List.getElem?_append_left (by omega)] at hav
            exact (hor q u av hu hav).mono hE
          · rw [List.getElem?_append_right (by omega)] at hu
            rw [List.getElem?_append_right (by omega)] at hav
            rw [hol] at hu
            exact (hnr _ u av hu hav).mono hE
        · refine ⟨n + m, _, ?_, Nat.le_refl _, fun _ => .inr ⟨b, o, rfl, rfl⟩⟩
          show (if k = k then _ else _) = _
          rw [if_pos rfl]
    · -- new memory
      have hneed : cx < n + m := by omega
      have h63 : ((n + m : Nat) : Int) ≤ 9223372036854775807 := by simp only [maxLen] at hmax; omega
      have hfit : Builtin.nextslicecap (n + m) cx * j.bytes ≤ 281474976710656 := growslice_fits hneed (by rw [← hby]; exact hbytes)
      have hge := grownCap_ge w (n + m) cx e
      have holl : olds.length = n * j.size := by rw [hol, hcl', hsize]
      obtain ⟨hrun⟩ : Nonempty ((Builtin.append_ #[t, t] ty #[.slice ax n cx, .slice (some ⟨by', oy, none⟩) m cy]).run P w = .ok (.slice (some ⟨w.heap.size, 0, none⟩) (n + m) (grownCap w (n + m) cx e))
          (w.drew.alloc (.cells (olds.toArray ++ news.toArray ++ Builtin.zeroCells i.zero.cells (grownCap w (n + m) cx e - (n + m))) e))) := by
        cases ax with
        | none =>
          have hcx : cx = n := by
            rcases hreg with h | ⟨b, o, h, _⟩
            · exact h
            · cases h
          have hcs : cs = [] := by
            by_cases h : cs = []
            · exact h
            · obtain ⟨b, o, h1, _⟩ := hoc h; cases h1
          have hn0 : n = 0 := by
            subst hcs
            have : n * i.size = 0 := by simpa using hcl'.symm
            rcases Nat.mul_eq_zero.1 this with h | h <;> omega
          subst hn0; subst hcx
          have hols : olds = [] := List.eq_nil_of_length_eq_zero (by simpa using holl)
          subst hols
          have := run_append_nil (P := P) w t ty e j i.zero ht hj hz ⟨by', oy, none⟩ m cy news hnl' hnews (by omega) (by simpa using h63) (by rw [← hby]; unfold roomA at hbytes; simp only [Nat.zero_add] at hbytes; omega)
          simp only [Nat.zero_add] at this ⊢
          refine ⟨?_⟩
          simpa using this
        | some b0 =>
          refine ⟨run_append_grow (P := P) w t ty e j i.zero ht hj hz b0 n cx olds holl (fun q u hq => ?_) ⟨by', oy, none⟩ m cy news hnl' hnews hneed h63 hfit⟩
          have hne : cs ≠ [] := fun e => by subst e; simp at hol; subst hol; simp at hq
          obtain ⟨b, o, h1, _, h2⟩ := hoc hne
          cases h1
          rw [add_at]; exact h2 q u hq
      have hcs2 : (olds.toArray ++ news.toArray ++ Builtin.zeroCells i.zero.cells (grownCap w (n + m) cx e - (n + m))).size = grownCap w (n + m) cx e * i.size := by
        simp only [Array.size_append, List.size_toArray, size_zeroCells, hzs, holl, hnl', ← hsize]
        rw [← Nat.add_mul, ← Nat.add_mul]
        congr 1; omega
      have hcell2 : ∀ (q : Nat) u, (olds ++ news)[q]? = some u → (olds.toArray ++ news.toArray ++ Builtin.zeroCells i.zero.cells (grownCap w (n + m) cx e - (n + m)))[q]? = some u := by
        intro q u hu
        have hlt := (List.getElem?_eq_some_iff.1 hu).1
        rw [Array.getElem?_append_left (by simpa using hlt)]
        simpa using hu
      generalize (olds.toArray ++ news.toArray ++ Builtin.zeroCells i.zero.cells (grownCap w (n + m) cx e - (n + m))) = c2 at hrun hcs2 hcell2
      have hle2 : (n + m) * i.size ≤ c2.size := by rw [hcs2]; exact Nat.mul_le_mul_right _ hge
      obtain ⟨hE1, hS1⟩ := newRow_sound hS.drew e c2 ((n + m) * i.size) k (n + m) toks' (fun m0 r h => by have := hkm m0 r h; omega) hk' htlen hto
      have hE := (ext_drew G w).trans hE1
      refine ⟨_, _, _, hrun, hE, hS1, ?_⟩
      refine .sl (olds ++ news) (by simp [hol, hnl]) (by simp [hcl', hyl', Nat.add_mul]) hge ?_ ?_ ?_ ?_
      · intro q hq
        show (if w.heap.size = w.heap.size then _ else _) = _
        rw [if_pos rfl, if_pos]
        simp only [List.length_append, hcl', hyl', ← Nat.add_mul] at hq
        omega
      · intro q u hu
        refine ⟨?_, ?_⟩
        · have hh : (w.drew.alloc (.cells c2 e)).heap[w.heap.size]? = some (.cells c2 e (0, 0)) := heap_alloc_new w.drew _
          rw [heap_cell hh, Nat.zero_add]; exact hcell2 q u hu
        · have := List.mem_of_getElem? hu
          rcases List.mem_append.1 this with h | h
          · exact ho1 u h
          · exact hn1 u h
      · intro q u av hu hav
        by_cases h1 : q < olds.length
        · rw [List.getElem?_append_left h1] at hu
          rw [List.getElem?_append_left (by omega)] at hav
          exact (hor q u av hu hav).mono hE
        · rw [List.getElem?_append_right (by omega)] at hu
          rw [List.getElem?_append_right (by omega)] at hav
          rw [hol] at hu
          exact (hnr _ u av hu hav).mono hE
      · refine ⟨n + m, (w.heap.size, (n + m) * i.size, c2.size), ?_, Nat.le_refl _, fun _ => .inr ⟨w.heap.size, 0, rfl, ?_⟩⟩
        · show (if k = k then _ else _) = _
          rw [if_pos rfl]; rfl
        · rw [hcs2]; simp

end Go.Vm
