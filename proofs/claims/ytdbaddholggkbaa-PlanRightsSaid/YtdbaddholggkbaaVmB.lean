import Derived.Test.YtdbaddholggkbaaVmA
/-
  What plain lists say of memory: who owns which cell; how a value in memory is told; what a step may turn.
-/
namespace Go.Vm
set_option linter.unnecessarySimpa false
set_option linter.unusedSimpArgs false
set_option linter.unusedVariables false
open Go

inductive Tag where
  | no
  | fixd
  | obj (id : Nat)
  | tail (k : Nat)
  | row (k : Nat)
  deriving DecidableEq

structure Gh where
  tag : Nat → Nat → Tag
  pl : Nat → Option Nat
  tl : Nat → Option (Nat × Nat × Nat × Nat)
  rw : Nat → Option (Nat × Nat × Nat × Nat)
  base : Nat

def TailOk (G : Gh) (t : Tail) (a : Option Addr) (n c sz : Nat) : Prop :=
  match t with
  | .shut => True
  | .full => c = n
  | .own k => ∃ m r, G.tl k = some (m, r) ∧ n ≤ m ∧ (n = m → c = n ∨ ∃ b o, a = some ⟨b, o, none⟩ ∧ r = (b, o + n * sz, o + c * sz))

inductive AVR (G : Gh) (w : World) : Value → AV → Prop
  | v {x : Value} (h : plain x = true) : AVR G w x (.v x)
  | agg {cs : Array Value} {as : List AV} (hl : cs.size = as.length) (h : ∀ (j : Nat) x a, cs[j]? = some x → as[j]? = some a → AVR G w x a) : AVR G w (.agg cs) (.agg as)
  | tup {cs : Array Value} {as : List AV} (hl : cs.size = as.length) (h : ∀ (j : Nat) x a, cs[j]? = some x → as[j]? = some a → AVR G w x a) : AVR G w (.tuple cs) (.tup as)
  | sl0 {a : Option Addr} {c sz : Nat} {t : Tail} (ht : TailOk G t a 0 c sz) : AVR G w (.slice a 0 c) (.sl sz [] 0 t)
  | sl {b o n c sz : Nat} {cs : List AV} {t : Tail} (xs : List Value) (hl : xs.length = cs.length) (hn : cs.length = n * sz) (hc : n ≤ c)
      (hs : ∀ j, j < cs.length → G.tag b (o + j) = .fixd) (hx : ∀ (j : Nat) x, xs[j]? = some x → w.cell? ⟨b, o + j, none⟩ = some x ∧ x.oneCell' = true)
      (h : ∀ (j : Nat) x a, xs[j]? = some x → cs[j]? = some a → AVR G w x a) (ht : TailOk G t (some ⟨b, o, none⟩) n c sz) : AVR G w (.slice (some ⟨b, o, none⟩) n c) (.sl sz cs n t)
  | ep {b o : Nat} {cs : List AV} (xs : List Value) (hl : xs.length = cs.length)
      (hs : ∀ j, j < cs.length → G.tag b (o + j) = .fixd) (hx : ∀ (j : Nat) x, xs[j]? = some x → w.cell? ⟨b, o + j, none⟩ = some x ∧ x.oneCell' = true)
      (h : ∀ (j : Nat) x a, xs[j]? = some x → cs[j]? = some a → AVR G w x a) : AVR G w (.pointer (some ⟨b, o, none⟩)) (.ep cs)
  | ptr {id off b : Nat} (h : G.pl id = some b) : AVR G w (.pointer (some ⟨b, off, none⟩)) (.ptr id off)
  | bs {id off sz n b c : Nat} (h : G.pl id = some b) (hc : n ≤ c) : AVR G w (.slice (some ⟨b, off, none⟩) n c) (.bs id off sz n)
  | fn {f : Nat} {cs : Array Value} {as : List AV} (hl : cs.size = as.length) (h : ∀ (j : Nat) x a, cs[j]? = some x → as[j]? = some a → AVR G w x a) : AVR G w (.func (.func f) #[] cs) (.fn f as)
  | row {k g off sz n c gc b o C : Nat} {a : Option Addr} (h : G.rw k = some (gc, b, o, C)) (hg : g ≤ gc) (hn : n ≤ c) (ha : c ≠ 0 → ∃ b' o', a = some ⟨b', o', none⟩)
      (hc : g = gc → off + c * sz = C ∧ (c ≠ 0 → a = some ⟨b, o + off, none⟩)) : AVR G w (.slice a n c) (.row k g off sz n)
  | rp {k g off gc b o C b' o' : Nat} (h : G.rw k = some (gc, b, o, C)) (hg : g ≤ gc) (hc : g = gc → b' = b ∧ o' = o + off) : AVR G w (.pointer (some ⟨b', o', none⟩)) (.rp k g off)
  | any {x : Value} (h : x.oneCell' = true) : AVR G w x .any

structure Ext (G : Gh) (w : World) (G' : Gh) (w' : World) : Prop where
  base : G'.base = G.base
  os : w'.os = w.os
  tape : w'.tape = w.tape
  output : w'.output = w.output
  size : w.heap.size ≤ w'.heap.size
  blk : ∀ (b : Nat) c e fr, w.heap[b]? = some (.cells c e fr) → ∃ c', w'.heap[b]? = some (.cells c' e fr) ∧ c'.size = c.size ∧ ∀ o : Nat, (G.tag b o = .no ∨ G.tag b o = .fixd) → c'[o]? = c[o]?
  oth : ∀ (b : Nat) ob, w.heap[b]? = some ob → (∀ c e fr, ob ≠ .cells c e fr) → w'.heap[b]? = some ob
  sealed : ∀ b o, G.tag b o = .fixd → G'.tag b o = .fixd
  no : ∀ b o, b < w.heap.size → G.tag b o = .no → G'.tag b o = .no
  pl : ∀ id b, G.pl id = some b → G'.pl id = some b
  tl : ∀ k m r, G.tl k = some (m, r) → ∃ m' r', G'.tl k = some (m', r') ∧ m ≤ m' ∧ (m' = m → r' = r)
  rw : ∀ k m r, G.rw k = some (m, r) → ∃ m' r', G'.rw k = some (m', r') ∧ m ≤ m' ∧ (m' = m → r' = r)

theorem Ext.refl (G : Gh) (w : World) : Ext G w G w :=
  ⟨rfl, rfl, rfl, rfl, Nat.le_refl _, fun _ c _ _ h => ⟨c, h, rfl, fun _ _ => rfl⟩, fun _ _ h _ => h, fun _ _ h => h, fun _ _ _ h => h, fun _ _ h => h, fun _ m r h => ⟨m, r, h, Nat.le_refl _, fun _ => rfl⟩, fun _ m r h => ⟨m, r, h, Nat.le_refl _, fun _ => rfl⟩⟩

theorem Ext.trans {G1 G2 G3 : Gh} {w1 w2 w3 : World} (h : Ext G1 w1 G2 w2) (k : Ext G2 w2 G3 w3) : Ext G1 w1 G3 w3 := by
  refine ⟨k.base.trans h.base, k.os.trans h.os, k.tape.trans h.tape, k.output.trans h.output, Nat.le_trans h.size k.size, ?_, ?_, fun b o hs => k.sealed _ _ (h.sealed _ _ hs),
    fun b o hb hn => k.no _ _ (Nat.lt_of_lt_of_le hb h.size) (h.no _ _ hb hn), fun id b hp => k.pl _ _ (h.pl _ _ hp), ?_, ?_⟩
  · intro b c e fr hb
    obtain ⟨c2, h2, hs2, he2⟩ := h.blk b c e fr hb
    obtain ⟨c3, h3, hs3, he3⟩ := k.blk b c2 e fr h2
    refine ⟨c3, h3, hs3.trans hs2, fun o ho => ?_⟩
    have hlt : b < w1.heap.size := (Array.getElem?_eq_some_iff.1 hb).1
    rw [he3 o (ho.imp (fun x => h.no _ _ hlt x) (fun x => h.sealed _ _ x)), he2 o ho]
  · intro b ob hb hne
    exact k.oth b ob (h.oth b ob hb hne) hne
  · intro i m r hi
    obtain ⟨m2, r2, h2, hm2, hr2⟩ := h.tl i m r hi
    obtain ⟨m3, r3, h3, hm3, hr3⟩ := k.tl i m2 r2 h2
    refine ⟨m3, r3, h3, Nat.le_trans hm2 hm3, fun e => ?_⟩
    have e2 : m2 = m := by omega
    rw [hr3 (by omega), hr2 e2]
  · intro i m r hi
    obtain ⟨m2, r2, h2, hm2, hr2⟩ := h.rw i m r hi
    obtain ⟨m3, r3, h3, hm3, hr3⟩ := k.rw i m2 r2 h2
    refine ⟨m3, r3, h3, Nat.le_trans hm2 hm3, fun e => ?_⟩
    have e2 : m2 = m := by omega
    rw [hr3 (by omega), hr2 e2]

theorem cell_heap {w : World} {b o : Nat} {x : Value} (h : w.cell? ⟨b, o, none⟩ = some x) : ∃ c e fr, w.heap[b]? = some (.cells c e fr) ∧ c[o]? = some x := by
  unfold World.cell? at h
  split at h
  · rename_i c e fr hb
    exact ⟨c, e, fr, hb, by simpa using h⟩
  · cases h

theorem heap_cell {w : World} {b o : Nat} {c : Array Value} {e : TypeId} {fr : Nat × Nat} (h : w.heap[b]? = some (.cells c e fr)) : w.cell? ⟨b, o, none⟩ = c[o]? := by
  simp [World.cell?, h]

theorem Ext.cell {G G' : Gh} {w w' : World} (h : Ext G w G' w') {b o : Nat} {x : Value} (hs : G.tag b o = .fixd) (hc : w.cell? ⟨b, o, none⟩ = some x) : w'.cell? ⟨b, o, none⟩ = some x := by
  obtain ⟨c, e, fr, hb, hx⟩ := cell_heap hc
  obtain ⟨c', hb', _, he⟩ := h.blk b c e fr hb
  rw [heap_cell hb', he o (.inr hs), hx]

theorem TailOk.mono {G G' : Gh} {w w' : World} (h : Ext G w G' w') {t : Tail} {a : Option Addr} {n c sz : Nat} (ht : TailOk G t a n c sz) : TailOk G' t a n c sz := by
  cases t with
  | shut => trivial
  | full => exact ht
  | own k =>
    obtain ⟨m, r, hk, hn, hr⟩ := ht
    obtain ⟨m', r', hk', hm, hr'⟩ := h.tl k m r hk
    refine ⟨m', r', hk', Nat.le_trans hn hm, fun e => ?_⟩
    have e1 : n = m := by omega
    rw [hr' (by omega)]
    exact hr e1

theorem AVR.mono {G G' : Gh} {w w' : World} (hE : Ext G w G' w') {x : Value} {a : AV} (h : AVR G w x a) : AVR G' w' x a := by
  induction h with
  | v h => exact .v h
  | agg hl _ ih => exact .agg hl ih
  | tup hl _ ih => exact .tup hl ih
  | sl0 ht => exact .sl0 (ht.mono hE)
  | sl xs hl hn hc hs hx _ ht ih =>
    refine .sl xs hl hn hc (fun j hj => hE.sealed _ _ (hs j hj)) (fun j x hj => ⟨hE.cell (hs j ?_) (hx j x hj).1, (hx j x hj).2⟩) ih (ht.mono hE)
    have := (List.getElem?_eq_some_iff.1 hj).1; omega
  | ep xs hl hs hx _ ih =>
    refine .ep xs hl (fun j hj => hE.sealed _ _ (hs j hj)) (fun j x hj => ⟨hE.cell (hs j ?_) (hx j x hj).1, (hx j x hj).2⟩) ih
    have := (List.getElem?_eq_some_iff.1 hj).1; omega
  | ptr h => exact .ptr (hE.pl _ _ h)
  | bs h hc => exact .bs (hE.pl _ _ h) hc
  | fn hl _ ih => exact .fn hl ih
  | row h hg hn ha hc =>
    obtain ⟨g', p', h', hle, he⟩ := hE.rw _ _ _ h
    obtain ⟨b', o', C'⟩ := p'
    refine .row h' (Nat.le_trans hg hle) hn ha (fun e => ?_)
    have := he (by omega)
    cases this
    exact hc (by omega)
  | rp h hg hc =>
    obtain ⟨g', p', h', hle, he⟩ := hE.rw _ _ _ h
    obtain ⟨b', o', C'⟩ := p'
    refine .rp h' (Nat.le_trans hg hle) (fun e => ?_)
    have := he (by omega)
    cases this
    exact hc (by omega)
  | any h => exact .any h

/-- What a row's ghost says of it. -/
def RowOk (G : Gh) (w : World) (k : Nat) (r : RowSt) (b o C : Nat) : Prop :=
  r.cells.length ≤ C ∧ (∀ s, r.spare = some s → r.cells.length + s = C) ∧
    (0 < C → ∃ c e, w.heap[b]? = some (.cells c e (0, 0)) ∧ o + C ≤ c.size ∧ (∀ j, j < C → G.tag b (o + j) = .row k) ∧ (∀ (j : Nat) x, j < C → c[o + j]? = some x → x.oneCell' = true) ∧
      ∀ (j : Nat) x a, c[o + j]? = some x → r.cells[j]? = some a → AVR G w x a)

structure RelS (G : Gh) (w : World) (σ : St) : Prop where
  obj : ∀ id b, G.pl id = some b → ∃ c e cs, σ.objs[id]? = some cs ∧ w.heap[b]? = some (.cells c e (0, 0)) ∧ c.size = cs.length ∧ (∀ j, j < c.size → G.tag b j = .obj id) ∧
    ∀ (j : Nat) x a, c[j]? = some x → cs[j]? = some a → AVR G w x a
  inj : ∀ i j b, G.pl i = some b → G.pl j = some b → i = j
  tok : ∀ k m b lo hi, G.tl k = some (m, b, lo, hi) → σ.toks[k]? = some m ∧ (lo < hi → ∃ c e, w.heap[b]? = some (.cells c e (0, 0)) ∧ hi ≤ c.size ∧ ∀ j, lo ≤ j → j < hi → G.tag b j = .tail k)
  fresh : ∀ b o, w.heap.size ≤ b → G.tag b o = .no
  gl : ∀ g cs, σ.gl g = some cs → AVR G w (.pointer (some ⟨g, 0, none⟩)) (.ep cs)
  tot : ∀ id, id < σ.objs.length → ∃ b, G.pl id = some b
  totk : ∀ k, k < σ.toks.length → ∃ p, G.tl k = some p
  row : ∀ k gc b o C, G.rw k = some (gc, b, o, C) → ∃ r, σ.rows[k]? = some r ∧ r.gen = gc ∧ RowOk G w k r b o C
  totr : ∀ k, k < σ.rows.length → ∃ p, G.rw k = some p

theorem RelS.lift {G G' : Gh} {w w' : World} {σ : St} (hS : RelS G w σ) (hE : Ext G w G' w') (hrw : G'.rw = G.rw)
    (hb : ∀ k gc b o C, G.rw k = some (gc, b, o, C) → 0 < C → ∀ c e, w.heap[b]? = some (.cells c e (0, 0)) → o + C ≤ c.size → (∀ j, j < C → G.tag b (o + j) = .row k) →
      ∃ c', w'.heap[b]? = some (.cells c' e (0, 0)) ∧ c'.size = c.size ∧ (∀ j, j < C → c'[o + j]? = c[o + j]?) ∧ ∀ j, j < C → G'.tag b (o + j) = .row k) :
    (∀ k gc b o C, G'.rw k = some (gc, b, o, C) → ∃ r, σ.rows[k]? = some r ∧ r.gen = gc ∧ RowOk G' w' k r b o C) := by
  intro k gc b o C h
  rw [hrw] at h
  obtain ⟨r, h1, h2, h3, h4, h5⟩ := hS.row k gc b o C h
  refine ⟨r, h1, h2, h3, h4, fun hC => ?_⟩
  obtain ⟨c, e, g1, g2, g3, g4, g5⟩ := h5 hC
  obtain ⟨c', g6, g7, g8, g9⟩ := hb k gc b o C h hC c e g1 g2 g3
  refine ⟨c', e, g6, by omega, g9, fun j x hj hx => g4 j x hj (by rw [← g8 j hj]; exact hx), fun j x a hx ha => (g5 j x a ?_ ha).mono hE⟩
  rw [← g8 j (by have := (List.getElem?_eq_some_iff.1 ha).1; omega)]; exact hx

/-- What a frame puts off: only the marks of loops that are over. -/
def Marks (B : Nat) (w : World) (l : List Deferred) : Prop :=
  ∀ d, d ∈ l → ∃ D, d = { target := .collected D, args := #[] } ∧ B ≤ D ∧ w.heap[D]? = some (.deferred (some []))

theorem Marks.mono {G G' : Gh} {w w' : World} {l : List Deferred} (h : Marks G.base w l) (hE : Ext G w G' w') : Marks G'.base w' l := fun d hd => by
  obtain ⟨D, h1, h2, h3⟩ := h d hd
  exact ⟨D, h1, by rw [hE.base]; exact h2, hE.oth D _ h3 (fun c e fr he => by cases he)⟩

theorem Marks.nil (B : Nat) (w : World) : Marks B w [] := fun d hd => by cases hd

structure Rel (N : Nat) (G : Gh) (w : World) (ρ : Nat → AV) (σ : St) (a : Act) : Prop where
  s : RelS G w σ
  defers : Marks G.base w a.defers ∧ a.defers.Nodup ∧ G.base ≤ w.heap.size
  size : a.tmps.size = N
  env : ∀ i, AVR G w (a.tmps.getD i undef) (ρ i)

/-- The cells from a place on, as they are told. -/
def View (G : Gh) (w : World) (b o : Nat) (cs : List AV) : Prop :=
  ∃ xs : List Value, xs.length = cs.length ∧ (∀ (j : Nat) x, xs[j]? = some x → w.cell? ⟨b, o + j, none⟩ = some x) ∧ ∀ (j : Nat) x a, xs[j]? = some x → cs[j]? = some a → AVR G w x a

theorem View.drop {G : Gh} {w : World} {b o : Nat} {cs : List AV} (h : View G w b o cs) (k : Nat) : View G w b (o + k) (cs.drop k) := by
  obtain ⟨xs, hl, hx, hr⟩ := h
  refine ⟨xs.drop k, by simp [hl], fun j x hj => ?_, fun j x a hj ha => ?_⟩
  · rw [List.getElem?_drop] at hj
    rw [Nat.add_assoc]; exact hx _ _ hj
  · rw [List.getElem?_drop] at hj ha
    exact hr _ _ _ hj ha

theorem View.take {G : Gh} {w : World} {b o : Nat} {cs : List AV} (h : View G w b o cs) (k : Nat) : View G w b o (cs.take k) := by
  obtain ⟨xs, hl, hx, hr⟩ := h
  refine ⟨xs.take k, by simp [hl], fun j x hj => ?_, fun j x a hj ha => ?_⟩
  · rw [List.getElem?_take] at hj
    split at hj
    · exact hx _ _ hj
    · cases hj
  · rw [List.getElem?_take] at hj ha
    split at hj
    · simp_all
      exact hr _ _ _ hj ha
    · cases hj

theorem view_ep {G : Gh} {w : World} {x : Value} {cs : List AV} (h : AVR G w x (.ep cs)) : ∃ b o, x = .pointer (some ⟨b, o, none⟩) ∧ View G w b o cs := by
  cases h with
  | ep xs hl hs hx h => exact ⟨_, _, rfl, xs, hl, fun j x hj => (hx j x hj).1, h⟩

theorem view_obj {G : Gh} {w : World} {σ : St} (hS : RelS G w σ) {id b : Nat} {cs : List AV} (hp : G.pl id = some b) (hc : σ.objs[id]? = some cs) : View G w b 0 cs := by
  obtain ⟨c, e, cs', h1, h2, h3, _, h5⟩ := hS.obj id b hp
  rw [hc] at h1
  cases h1
  refine ⟨c.toList, by simpa using h3, fun j x hj => ?_, fun j x a hj ha => h5 j x a (by simpa using hj) ha⟩
  rw [heap_cell h2]; simpa using hj

theorem ti_some {P : Program} {t : TypeId} {i : TI} (h : ti P t = some i) : ∃ d j, P.underlying t = some d ∧ P.info? t = some j ∧ j.zero = some i.zero ∧ i.agg = descAgg d ∧ i.size = j.size ∧ i.bytes = j.bytes := by
  unfold ti at h
  split at h
  · rename_i d j hd hj
    split at h
    · rename_i z hz
      cases h
      exact ⟨d, j, hd, hj, hz, rfl, rfl, rfl⟩
    · cases h
  · cases h

theorem run_isAgg {P : Program} {t : TypeId} {d : TypeDesc} (w : World) (h : P.underlying t = some d) : (isAgg t).run P w = .ok (descAgg d) w := by
  unfold isAgg
  rw [Sem.run_bind, run_underlying h]
  simp only [Result.andThen_ok]
  cases d <;> rfl

theorem run_sizeOf {P : Program} {t : TypeId} {j : TypeInfo} (w : World) (h : P.info? t = some j) : (sizeOf t).run P w = .ok j.size w := by
  simp [sizeOf, typeInfo, h]

theorem run_load_view {P : Program} {G : Gh} {w : World} {t : TypeId} {b o : Nat} {cs : List AV} {av : AV} (hv : View G w b o cs) (h : partA P t cs 0 = some av) :
    ∃ x, (loadVar t ⟨b, o, none⟩).run P w = .ok x w ∧ AVR G w x av := by
  unfold partA at h
  split at h
  · rename_i i hi
    obtain ⟨d, j, hd, hj, hz, hag, hsz, hby⟩ := ti_some hi
    obtain ⟨xs, hl, hx, hr⟩ := hv
    unfold loadVar
    rw [Sem.run_bind, run_isAgg w hd]
    simp only [Result.andThen_ok]
    by_cases ha : descAgg d = true
    · rw [hag, ha] at h
      simp only [if_true, List.drop_zero] at h
      split at h
      · rename_i hle
        cases h
        simp only [Nat.zero_add] at hle
        have hc := run_loadCells_list (P := P) (w := w) ⟨b, o, none⟩ (xs.take i.size) (fun k v hk => by
          rw [List.getElem?_take] at hk
          split at hk
          · have := hx k v hk
            unfold Addr.add
            split
            · subst_vars; simpa using this
            · exact this
          · cases hk)
        have hlen : (xs.take i.size).length = j.size := by rw [List.length_take, hl, ← hsz]; omega
        rw [hlen] at hc
        rw [if_pos ha]
        simp only [Sem.run_bind, run_sizeOf w hj, Result.andThen_ok, hc, Sem.run_pure]
        refine ⟨_, rfl, .agg (by simp; omega) (fun k x a hk hka => ?_)⟩
        simp only [List.getElem?_toArray, List.getElem?_take] at hk
        rw [List.getElem?_take] at hka
        split at hk
        · simp_all
          exact hr _ _ _ hk hka.2
        · cases hk
      · cases h
    · rw [hag, if_neg (by simpa using ha)] at h
      rw [if_neg ha, run_load]
      have h0 : 0 < xs.length := by rw [hl]; exact (List.getElem?_eq_some_iff.1 h).1
      have hx0 := hx 0 _ (List.getElem?_eq_getElem h0)
      simp only [Nat.add_zero] at hx0
      rw [hx0]
      exact ⟨_, rfl, hr 0 _ _ (List.getElem?_eq_getElem h0) h⟩
  · cases h

theorem partA_drop {P : Program} {t : TypeId} {cs : List AV} {off : Nat} {av : AV} (h : partA P t cs off = some av) : partA P t (cs.drop off) 0 = some av := by
  unfold partA at h ⊢
  split at h
  · rename_i i hi
    split at h
    · split at h
      · rename_i ha hle
        rw [if_pos ha, if_pos (by simp; omega)]
        simpa using h
      · cases h
    · rename_i ha
      rw [if_neg ha]
      simpa using h
  · cases h

theorem loadA_sound {P : Program} {G : Gh} {w : World} {σ : St} {t : TypeId} {x : Value} {a av : AV} (hS : RelS G w σ) (hx : AVR G w x a) (h : loadA P t a σ = some av) :
    ∃ y, (Instr.loadAt t x).run P w = .ok y w ∧ AVR G w y av := by
  unfold loadA at h
  split at h
  · rename_i cs
    obtain ⟨b, o, rfl, hv⟩ := view_ep hx
    simpa [Instr.loadAt, Instr.sureAddr] using run_load_view hv h
  · rename_i id off
    split at h
    · rename_i cs hcs
      cases hx with
      | ptr hp =>
        have hv := (view_obj hS hp hcs).drop off
        rw [Nat.zero_add] at hv
        simpa [Instr.loadAt, Instr.sureAddr] using run_load_view hv (partA_drop h)
    · cases h
  · rename_i k g off
    split at h
    · rename_i r i hr hi
      split at h
      · rename_i hg
        obtain ⟨hg, hpos⟩ := hg
        cases hx with
        | rp hk hle hc =>
          rename_i gc b o C b' o'
          obtain ⟨r', h1, h2, h3, _, h5⟩ := hS.row _ _ _ _ _ hk
          rw [hr] at h1; cases h1
          obtain ⟨rfl, rfl⟩ := hc (by omega)
          have hC : 0 < C := by
            have h0 : r.cells ≠ [] := by
              intro e
              rw [e] at h
              unfold partA at h
              rw [hi] at h
              simp only at h
              split at h
              · split at h
                · rename_i hle2
                  simp at hle2; omega
                · cases h
              · simp at h
            have := List.length_pos_iff.2 h0
            omega
          obtain ⟨c, e, g1, g2, g3, g4, g5⟩ := h5 hC
          have hv : View G w b' o r.cells := by
            refine ⟨(c.toList.drop o).take r.cells.length, by simp; omega, fun j x hj => ?_, fun j x a hj ha => ?_⟩
            · rw [List.getElem?_take] at hj
              split at hj
              · rw [List.getElem?_drop] at hj
                rw [heap_cell g1]; simpa using hj
              · cases hj
            · rw [List.getElem?_take] at hj
              split at hj
              · rw [List.getElem?_drop] at hj
                exact g5 j x a (by simpa using hj) ha
              · cases hj
          simpa [Instr.loadAt, Instr.sureAddr] using run_load_view (hv.drop off) (partA_drop h)
      · cases h
    · cases h
  · cases h

end Go.Vm
