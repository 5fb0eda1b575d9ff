import Derived.Test.YtkbhdlocdajhmaaVmH
/-
  What is forgotten: a call's own objects behind its end; whose a tail is.
-/
namespace Go.Vm
set_option linter.unnecessarySimpa false
set_option linter.unusedSimpArgs false
set_option linter.unusedVariables false
open Go

mutual
def AV.under (nb nt : Nat) : AV → Bool
  | .v _ => true
  | .agg cs => underL nb nt cs
  | .tup vs => underL nb nt vs
  | .sl _ cs _ t => underL nb nt cs && (match t with | .own k => decide (k < nt) | _ => true)
  | .ep cs => underL nb nt cs
  | .ptr id _ => decide (id < nb)
  | .bs id _ _ _ => decide (id < nb)
  | .fn _ cs => underL nb nt cs
def underL (nb nt : Nat) : List AV → Bool
  | [] => true
  | a :: l => a.under nb nt && underL nb nt l
end

theorem underL_get {nb nt : Nat} : ∀ {l : List AV} {j : Nat} {a : AV}, underL nb nt l = true → l[j]? = some a → a.under nb nt = true
  | [], j, a, _, h => by simp at h
  | b :: l, 0, a, h, hj => by
    simp only [underL, Bool.and_eq_true] at h
    simp at hj; subst hj; exact h.1
  | b :: l, j + 1, a, h, hj => by
    simp only [underL, Bool.and_eq_true] at h
    exact underL_get h.2 (by simpa using hj)

/-- What was there at first keeps its places. -/
def Gh.forget (G0 G : Gh) : Gh := { tag := G.tag, pl := G0.pl, base := G.base, tl := fun k => match G0.tl k with | some _ => G.tl k | none => none }

theorem AVR.forget {G0 G : Gh} {w0 w : World} {nb nt : Nat} (hE : Ext G0 w0 G w) (h1 : ∀ id, id < nb → ∃ b, G0.pl id = some b) (h2 : ∀ k, k < nt → ∃ p, G0.tl k = some p) {x : Value} {a : AV} (h : AVR G w x a) :
    a.under nb nt = true → AVR (G0.forget G) w x a := by
  have tl : ∀ {t : Tail} {ad : Option Addr} {n c sz : Nat}, TailOk G t ad n c sz → (match t with | .own k => decide (k < nt) | _ => true) = true → TailOk (G0.forget G) t ad n c sz := by
    intro t ad n c sz ht hk
    cases t with
    | shut => trivial
    | full => exact ht
    | own k =>
      obtain ⟨m, r, hm, hn, hr⟩ := ht
      obtain ⟨p, hp⟩ := h2 k (by simpa using hk)
      exact ⟨m, r, by simp [Gh.forget, hp, hm], hn, hr⟩
  induction h with
  | v h => exact fun _ => .v h
  | agg hl _ ih => exact fun hb => .agg hl (fun j x a hx ha => ih j x a hx ha (underL_get hb ha))
  | tup hl _ ih => exact fun hb => .tup hl (fun j x a hx ha => ih j x a hx ha (underL_get hb ha))
  | sl0 ht =>
    intro hb
    simp only [AV.under, Bool.and_eq_true] at hb
    exact .sl0 (tl ht hb.2)
  | sl xs hl hn hc hs hx _ ht ih =>
    intro hb
    simp only [AV.under, Bool.and_eq_true] at hb
    exact .sl xs hl hn hc hs hx (fun j x a hx ha => ih j x a hx ha (underL_get hb.1 ha)) (tl ht hb.2)
  | ep xs hl hs hx _ ih => exact fun hb => .ep xs hl hs hx (fun j x a hx ha => ih j x a hx ha (underL_get hb ha))
  | ptr h =>
    rename_i id off b
    intro hb
    obtain ⟨b', hb'⟩ := h1 id (by simpa [AV.under] using hb)
    have := hE.pl _ _ hb'
    rw [this] at h; cases h
    exact .ptr hb'
  | bs h hc =>
    rename_i id off sz n b c
    intro hb
    obtain ⟨b', hb'⟩ := h1 id (by simpa [AV.under] using hb)
    have := hE.pl _ _ hb'
    rw [this] at h; cases h
    exact .bs hb' hc
  | fn hl _ ih => exact fun hb => .fn hl (fun j x a hx ha => ih j x a hx ha (underL_get hb ha))

def Wk (a b : AV) : Prop := ∀ G w x, AVR G w x a → AVR G w x b

theorem Wk.refl (a : AV) : Wk a a := fun _ _ _ h => h
theorem Wk.trans {a b c : AV} (h : Wk a b) (k : Wk b c) : Wk a c := fun G w x hx => k G w x (h G w x hx)

theorem Wk.shut (sz : Nat) (cs : List AV) (n : Nat) (t : Tail) : Wk (.sl sz cs n t) (.sl sz cs n .shut) := fun G w x h => by
  cases h with
  | sl0 _ => exact .sl0 trivial
  | sl xs hl hn hc hs hx h _ => exact .sl xs hl hn hc hs hx h trivial

/-- A list of nothing has elements of any size. -/
theorem Wk.nil (sz sz' : Nat) (t : Tail) : Wk (.sl sz [] 0 t) (.sl sz' [] 0 .shut) := fun G w x h => by
  cases h with
  | sl0 _ => exact .sl0 trivial
  | sl xs hl hn hc hs hx h _ => exact .sl0 trivial

theorem Wk.agg {as bs : List AV} (hl : as.length = bs.length) (h : ∀ (j : Nat) a b, as[j]? = some a → bs[j]? = some b → Wk a b) : Wk (.agg as) (.agg bs) := fun G w x hx => by
  cases hx with
  | agg hl' hr =>
    refine .agg (hl'.trans hl) (fun j y b hy hb => ?_)
    have hlt : j < as.length := by rw [hl]; exact (List.getElem?_eq_some_iff.1 hb).1
    exact h j _ b (List.getElem?_eq_getElem hlt) hb G w y (hr j y _ hy (List.getElem?_eq_getElem hlt))

theorem Wk.tup {as bs : List AV} (hl : as.length = bs.length) (h : ∀ (j : Nat) a b, as[j]? = some a → bs[j]? = some b → Wk a b) : Wk (.tup as) (.tup bs) := fun G w x hx => by
  cases hx with
  | tup hl' hr =>
    refine .tup (hl'.trans hl) (fun j y b hy hb => ?_)
    have hlt : j < as.length := by rw [hl]; exact (List.getElem?_eq_some_iff.1 hb).1
    exact h j _ b (List.getElem?_eq_getElem hlt) hb G w y (hr j y _ hy (List.getElem?_eq_getElem hlt))

inductive WkL : List AV → List AV → Prop
  | nil : WkL [] []
  | cons {a b l m} (h : Wk a b) (t : WkL l m) : WkL (a :: l) (b :: m)

theorem WkL.get : ∀ {l m : List AV}, WkL l m → l.length = m.length ∧ ∀ (j : Nat) a b, l[j]? = some a → m[j]? = some b → Wk a b
  | _, _, .nil => by simp
  | _, _, .cons h t => by
    obtain ⟨h1, h2⟩ := WkL.get t
    refine ⟨by simp [h1], fun j a b ha hb => ?_⟩
    match j with
    | 0 => simp at ha hb; subst ha; subst hb; exact h
    | j + 1 => exact h2 j a b (by simpa using ha) (by simpa using hb)

theorem WkL.refl : ∀ (l : List AV), WkL l l
  | [] => .nil
  | a :: l => .cons (.refl a) (WkL.refl l)

theorem WkL.agg {l m : List AV} (h : WkL l m) : Wk (.agg l) (.agg m) := Wk.agg h.get.1 h.get.2
theorem WkL.tup {l m : List AV} (h : WkL l m) : Wk (.tup l) (.tup m) := Wk.tup h.get.1 h.get.2

/-- A slice whose cells are told less sharply. -/
theorem Wk.cells {sz n : Nat} {l m : List AV} {t : Tail} (h : WkL l m) : Wk (.sl sz l n t) (.sl sz m n t) := fun G w x hx => by
  obtain ⟨h1, h2⟩ := h.get
  cases hx with
  | sl0 ht => cases h with | nil => exact .sl0 ht
  | sl xs hl hn hc hs hx hr ht =>
    refine .sl xs (hl.trans h1) (h1 ▸ hn) hc (fun j hj => hs j (by omega)) hx (fun j x b hj hb => ?_) ht
    have hlt : j < l.length := by rw [h1]; exact (List.getElem?_eq_some_iff.1 hb).1
    exact h2 j _ b (List.getElem?_eq_getElem hlt) hb G _ x (hr j x _ hj (List.getElem?_eq_getElem hlt))

section
variable {z : Zone} {P : Program} {N : Nat} {ρ : Nat → AV} {σ : St}

/-- Where what stands in the slots, or what a call is handed, is told less sharply. -/
theorem callsA_wk {f : FuncId} {as bs : List AV} {Q : AV → St → Prop} (h : WkL as bs) (k : CallsA P f bs σ Q) : CallsA P f as σ Q := fun G w vs R hS hl hr hK =>
  k G w vs R hS (hl.trans h.get.1) (fun j x b hx hb => by
    have hlt : j < as.length := by rw [h.get.1]; exact (List.getElem?_eq_some_iff.1 hb).1
    exact h.get.2 j _ b (List.getElem?_eq_getElem hlt) hb G w x (hr j x _ hx (List.getElem?_eq_getElem hlt))) hK

theorem callsA_mono {f : FuncId} {as : List AV} {Q Q' : AV → St → Prop} (k : CallsA P f as σ Q) (h : ∀ a σ', Q a σ' → Q' a σ') : CallsA P f as σ Q' := fun G w vs R hS hl hr hK =>
  k G w vs R hS hl hr (fun v av σ' G' w' hq => hK v av σ' G' w' (h _ _ hq))

theorem run_wk {c : Code} {ρ' : Nat → AV} {Q : Exit → (Nat → AV) → St → Prop} (h : ∀ i, Wk (ρ i) (ρ' i)) (k : Run z P N c ρ' σ Q) : Run z P N c ρ σ Q := fun G w a R hR hK =>
  k G w a R ⟨hR.s, hR.defers, hR.size, fun i => h i G w _ (hR.env i)⟩ hK

theorem run_mono {c : Code} {Q Q' : Exit → (Nat → AV) → St → Prop} (k : Run z P N c ρ σ Q) (h : ∀ e ρ' σ', Q e ρ' σ' → Q' e ρ' σ') : Run z P N c ρ σ Q' := fun G w a R hR hK =>
  k G w a R hR (fun e ρ' σ' G' a' w' hq => hK e ρ' σ' G' a' w' (h _ _ _ hq))

theorem runL_mono {ops : Array Oper} {l : List Oper} {Q Q' : (Nat → AV) → St → Prop} (k : RunL z P N ops l ρ σ Q) (h : ∀ ρ' σ', Q ρ' σ' → Q' ρ' σ') : RunL z P N ops l ρ σ Q' := fun G w a R hR hK =>
  k G w a R hR (fun ρ' σ' G' a' w' hq => hK ρ' σ' G' a' w' (h _ _ hq))

def St.trim (σ0 : St) (nb nt : Nat) : St := { σ0 with objs := σ0.objs.take nb, toks := σ0.toks.take nt }

/-- A state that is told less sharply. -/
structure WkS (σ0 σ1 : St) : Prop where
  toks : σ1.toks = σ0.toks
  gl : σ1.gl = σ0.gl
  len : σ1.objs.length = σ0.objs.length
  objs : ∀ (id : Nat) cs ds, σ0.objs[id]? = some cs → σ1.objs[id]? = some ds → WkL cs ds

theorem WkS.refl (σ : St) : WkS σ σ := ⟨rfl, rfl, rfl, fun id cs ds h1 h2 => by rw [h1] at h2; cases h2; exact WkL.refl _⟩

theorem WkS.set {σ : St} {l : List (List AV)} {id : Nat} {cs ds : List AV} (h : WkL cs ds) : WkS { σ with objs := l.set id cs } { σ with objs := l.set id ds } :=
  ⟨rfl, rfl, by simp, fun i a b h1 h2 => by
    simp only at h1 h2
    by_cases hi : id = i
    · subst hi
      have hlt : id < l.length := by have := (List.getElem?_eq_some_iff.1 h1).1; simpa using this
      rw [List.getElem?_set_self hlt] at h1 h2
      cases h1; cases h2; exact h
    · rw [List.getElem?_set_ne hi] at h1 h2
      rw [h1] at h2; cases h2; exact WkL.refl _⟩

theorem RelS.wk {G : Gh} {w : World} {σ0 σ1 : St} (h : RelS G w σ0) (k : WkS σ0 σ1) : RelS G w σ1 := by
  refine ⟨fun id b hp => ?_, h.inj, fun i m b lo hi hk => ?_, h.fresh, fun g cs hg => h.gl g cs (k.gl ▸ hg), fun id hid => h.tot id (k.len ▸ hid), fun i hi => h.totk i (by rw [← k.toks]; exact hi)⟩
  · obtain ⟨c, e, cs, h1, h2, h3, h4, h5⟩ := h.obj id b hp
    have hlt : id < σ1.objs.length := by rw [k.len]; exact (List.getElem?_eq_some_iff.1 h1).1
    have hw := k.objs id cs _ h1 (List.getElem?_eq_getElem hlt)
    refine ⟨c, e, σ1.objs[id], List.getElem?_eq_getElem hlt, h2, h3.trans hw.get.1, h4, fun j x a hx ha => ?_⟩
    have hj : j < cs.length := by rw [hw.get.1]; exact (List.getElem?_eq_some_iff.1 ha).1
    exact hw.get.2 j _ a (List.getElem?_eq_getElem hj) ha G w x (h5 j x _ hx (List.getElem?_eq_getElem hj))
  · obtain ⟨t1, t2⟩ := h.tok i m b lo hi hk
    exact ⟨by rw [k.toks]; exact t1, t2⟩

theorem callsA_wkS {P : Program} {σ : St} {f : FuncId} {args : List AV} {Q Q' : AV → St → Prop} (k : CallsA P f args σ Q) (h : ∀ av σ0, Q av σ0 → ∃ av' σ1, Wk av av' ∧ WkS σ0 σ1 ∧ Q' av' σ1) : CallsA P f args σ Q' := by
  intro G w vs R hS hl hr hK
  refine k G w vs R hS hl hr (fun v av σ0 G' w' hq hE hS' hv => ?_)
  obtain ⟨av', σ1, h1, h2, h3⟩ := h av σ0 hq
  exact hK v av' σ1 G' w' h3 hE (hS'.wk h2) (h1 _ _ _ hv)

/-- What is told leads to what is there. -/
theorem under_all {G : Gh} {w : World} {σ : St} (hS : RelS G w σ) {x : Value} {a : AV} (hx : AVR G w x a) : a.under σ.objs.length σ.toks.length = true := by
  have hlt : ∀ id b, G.pl id = some b → id < σ.objs.length := fun id b hp => by
    obtain ⟨_, _, _, h1, _⟩ := hS.obj id b hp
    exact (List.getElem?_eq_some_iff.1 h1).1
  have hltk : ∀ k p, G.tl k = some p → k < σ.toks.length := fun k p hp => by
    have := (hS.tok k p.1 p.2.1 p.2.2.1 p.2.2.2 hp).1
    exact (List.getElem?_eq_some_iff.1 this).1
  have tl : ∀ {t : Tail} {ad : Option Addr} {n c sz : Nat}, TailOk G t ad n c sz → (match t with | .own k => decide (k < σ.toks.length) | _ => true) = true := by
    intro t ad n c sz ht
    cases t with
    | own k => obtain ⟨m, r, hm, _⟩ := ht; simpa using hltk k _ hm
    | _ => rfl
  have list : ∀ {l : List AV} {p : Nat → Value → Prop}, (∀ (j : Nat), j < l.length → ∃ x, p j x) → (∀ (j : Nat) x a, p j x → l[j]? = some a → a.under σ.objs.length σ.toks.length = true) → underL σ.objs.length σ.toks.length l = true := by
    intro l
    induction l with
    | nil => intros; rfl
    | cons a l ih =>
      intro p h1 h2
      simp only [underL, Bool.and_eq_true]
      refine ⟨?_, ih (p := fun j x => p (j + 1) x) (fun j hj => h1 (j + 1) (by simpa using hj)) (fun j x b hx hb => h2 (j + 1) x b hx (by simpa using hb))⟩
      obtain ⟨x, hx⟩ := h1 0 (by simp)
      exact h2 0 x a hx rfl
  induction hx with
  | v _ => rfl
  | agg hl _ ih => exact list (p := fun j x => _) (fun j hj => ⟨_, Array.getElem?_eq_getElem (by omega)⟩) (fun j x a hx ha => ih j x a hx ha)
  | tup hl _ ih => exact list (p := fun j x => _) (fun j hj => ⟨_, Array.getElem?_eq_getElem (by omega)⟩) (fun j x a hx ha => ih j x a hx ha)
  | sl0 ht => simp only [AV.under, underL, Bool.true_and]; exact tl ht
  | sl xs hl hn hc hs hx _ ht ih =>
    simp only [AV.under, Bool.and_eq_true]
    exact ⟨list (p := fun j x => xs[j]? = some x) (fun j hj => ⟨_, List.getElem?_eq_getElem (by omega)⟩) (fun j x a hx ha => ih j x a hx ha), tl ht⟩
  | ep xs hl hs hx _ ih => exact list (p := fun j x => xs[j]? = some x) (fun j hj => ⟨_, List.getElem?_eq_getElem (by omega)⟩) (fun j x a hx ha => ih j x a hx ha)
  | ptr h => simpa [AV.under] using hlt _ _ h
  | bs h hc => simpa [AV.under] using hlt _ _ h
  | fn hl _ ih => exact list (p := fun j x => _) (fun j hj => ⟨_, Array.getElem?_eq_getElem (by omega)⟩) (fun j x a hx ha => ih j x a hx ha)

/-- What a call made for itself is forgotten behind its end. -/
theorem callsA_gc {f : FuncId} {args : List AV} {Q Q' : AV → St → Prop} (k : CallsA P f args σ Q)
    (h : ∀ av σ0, Q av σ0 → ∃ av', Wk av av' ∧ av'.under σ.objs.length σ.toks.length = true ∧ σ.objs.length ≤ σ0.objs.length ∧ σ.toks.length ≤ σ0.toks.length ∧ σ0.gl = σ.gl ∧
      (∀ id cs, id < σ.objs.length → σ0.objs[id]? = some cs → σ.objs[id]? = some cs ∨ underL σ.objs.length σ.toks.length cs = true) ∧ Q' av' (σ0.trim σ.objs.length σ.toks.length)) : CallsA P f args σ Q' := by
  intro G w vs R hS hl hr hK
  refine k G w vs R hS hl hr (fun v av σ0 G' w' hq hE hS' hv => ?_)
  obtain ⟨av', hwk, hb, hob, htk, hgl, hkeep, hq'⟩ := h av σ0 hq
  let G2 := G.forget G'
  have hE2 : Ext G w G2 w' := by
    refine ⟨hE.base, hE.os, hE.tape, hE.output, hE.size, hE.blk, hE.oth, hE.sealed, hE.no, fun _ _ h => h, fun k m r hk => ?_⟩
    obtain ⟨m', r', h1, h2, h3⟩ := hE.tl k m r hk
    exact ⟨m', r', by simp [G2, Gh.forget, hk, h1], h2, h3⟩
  have hfor : ∀ {x : Value} {a : AV}, AVR G' w' x a → a.under σ.objs.length σ.toks.length = true → AVR G2 w' x a := fun hx hb => hx.forget hE hS.tot hS.totk hb
  have hlt : ∀ id b, G.pl id = some b → id < σ.objs.length := fun id b hp => by
    obtain ⟨_, _, _, h1, _⟩ := hS.obj id b hp
    exact (List.getElem?_eq_some_iff.1 h1).1
  have hltk : ∀ k p, G.tl k = some p → k < σ.toks.length := fun k p hp => by
    have := (hS.tok k p.1 p.2.1 p.2.2.1 p.2.2.2 hp).1
    exact (List.getElem?_eq_some_iff.1 this).1
  refine hK v av' _ G2 w' hq' hE2 ?_ (hfor (hwk _ _ _ hv) hb)
  refine ⟨?_, ?_, ?_, hS'.fresh, ?_, ?_, ?_⟩
  · intro id b hp
    obtain ⟨c, e, cs, h1, h2, h3, h4, h5⟩ := hS'.obj id b (hE.pl _ _ hp)
    have hid := hlt id b hp
    refine ⟨c, e, cs, ?_, h2, h3, h4, fun j x a hx ha => ?_⟩
    · show (σ0.objs.take _)[id]? = some cs
      rw [List.getElem?_take, if_pos hid]; exact h1
    · rcases hkeep id cs hid h1 with h6 | h6
      · exact hfor (h5 j x a hx ha) (by
          obtain ⟨c0, e0, cs0, g1, g2, g3, g4, g5⟩ := hS.obj id b hp
          rw [h6] at g1; cases g1
          have hj : j < c0.size := by rw [g3]; exact (List.getElem?_eq_some_iff.1 ha).1
          exact under_all hS (g5 j c0[j] a (Array.getElem?_eq_getElem hj) ha))
      · exact hfor (h5 j x a hx ha) (underL_get h6 ha)
  · exact hS.inj
  · intro k m b lo hi hk
    have hk' : (match G.tl k with | some _ => G'.tl k | none => none) = some (m, b, lo, hi) := hk
    cases h0 : G.tl k with
    | none => rw [h0] at hk'; cases hk'
    | some p =>
      rw [h0] at hk'
      obtain ⟨t1, t2⟩ := hS'.tok k m b lo hi hk'
      refine ⟨?_, t2⟩
      show (σ0.toks.take _)[k]? = some m
      rw [List.getElem?_take, if_pos (hltk k p h0)]; exact t1
  · intro g cs hg
    have h0 : σ0.gl g = some cs := hg
    rw [hgl] at h0
    exact (hS.gl g cs h0).mono hE2
  · intro id hid
    exact hS.tot id (by simp [St.trim] at hid; omega)
  · intro k hk
    obtain ⟨p, hp⟩ := hS.totk k (by simp [St.trim] at hk; omega)
    obtain ⟨m', r', h1, _⟩ := hE.tl k p.1 p.2 hp
    exact ⟨(m', r'), by simp [G2, Gh.forget, hp, h1]⟩

/-- What a call made for itself, and leads nowhere, is forgotten. -/
theorem callsA_gc_new {f : FuncId} {args : List AV} {A : AV} {l : List (List AV)} (k : CallsA P f args σ (fun av σ' => av = A ∧ σ' = { σ with objs := σ.objs ++ l })) (hA : A.under σ.objs.length σ.toks.length = true) :
    CallsA P f args σ (fun av σ' => av = A ∧ σ = σ') := by
  refine callsA_gc k (fun av σ0 ⟨h1, h2⟩ => ⟨A, h1 ▸ Wk.refl _, hA, ?_, ?_, ?_, ?_, rfl, ?_⟩)
  · rw [h2]; simp
  · rw [h2]; exact Nat.le_refl _
  · rw [h2]
  · intro id cs hid hc
    rw [h2] at hc
    left
    rw [← hc]
    exact (List.getElem?_append_left hid).symm
  · rw [h2]; simp [St.trim]

theorem callsA_gc_own {f : FuncId} {args : List AV} {A : AV} {l : List (List AV)} {m : List Nat} (k : CallsA P f args σ (fun av σ' => av = A ∧ σ' = { σ with objs := σ.objs ++ l, toks := σ.toks ++ m })) (hA : A.under σ.objs.length σ.toks.length = true) :
    CallsA P f args σ (fun av σ' => av = A ∧ σ = σ') := by
  refine callsA_gc k (fun av σ0 ⟨h1, h2⟩ => ⟨A, h1 ▸ Wk.refl _, hA, ?_, ?_, ?_, ?_, rfl, ?_⟩)
  · rw [h2]; simp
  · rw [h2]; simp
  · rw [h2]
  · intro id cs hid hc
    rw [h2] at hc
    left
    rw [← hc]
    exact (List.getElem?_append_left hid).symm
  · rw [h2]; simp [St.trim]

/-- The same, where one object has been written. -/
theorem callsA_gc_set {f : FuncId} {args : List AV} {A : AV} {x : List AV} {l : List (List AV)} {id : Nat} (k : CallsA P f args σ (fun av σ' => av = A ∧ σ' = { σ with objs := σ.objs.set id x ++ l })) (hA : A.under σ.objs.length σ.toks.length = true) (hx : underL σ.objs.length σ.toks.length x = true) :
    CallsA P f args σ (fun av σ' => av = A ∧ σ' = { σ with objs := σ.objs.set id x }) := by
  refine callsA_gc k (fun av σ0 ⟨h1, h2⟩ => ⟨A, h1 ▸ Wk.refl _, hA, ?_, ?_, ?_, ?_, rfl, ?_⟩)
  · rw [h2]; simp
  · rw [h2]; exact Nat.le_refl _
  · rw [h2]
  · intro id' cs hid hc
    rw [h2] at hc
    have hc' : (σ.objs.set id x)[id']? = some cs := by
      rw [← hc]
      exact (List.getElem?_append_left (by simpa using hid)).symm
    by_cases e : id = id'
    · subst e
      right
      rw [List.getElem?_set_self (by simpa using hid)] at hc'
      cases hc'; exact hx
    · left
      rw [List.getElem?_set_ne e] at hc'
      exact hc'
  · rw [h2]
    simp only [St.trim]
    congr 1
    · rw [List.take_append_of_le_length (by simp), List.take_of_length_le (by simp)]
    · simp

/-- What a call made for itself, and nobody will write again: it lies as it is. -/
theorem callsA_freeze {f gf : FuncId} {args : List AV} {x : AV} (k : CallsA P f args σ (fun av σ' => av = .fn gf [.ptr σ.objs.length 0] ∧ σ' = { σ with objs := σ.objs ++ [[x]] })) (hx : x ∈ args) (hc : x.isCell = true) :
    CallsA P f args σ (fun av σ' => av = .fn gf [.ep [x]] ∧ σ = σ') := by
  intro G w vs R hS hl hr hK
  obtain ⟨j0, hj0⟩ := List.mem_iff_getElem?.1 hx
  have hxu : x.under σ.objs.length σ.toks.length = true := by
    have hlt : j0 < vs.size := by rw [hl]; exact (List.getElem?_eq_some_iff.1 hj0).1
    exact under_all hS (hr j0 _ x (Array.getElem?_eq_getElem hlt) hj0)
  refine k G w vs R hS hl hr (fun v av σ0 G' w' hq hE hS' hv => ?_)
  obtain ⟨rfl, rfl⟩ := hq
  obtain ⟨b, hb⟩ := hS'.tot σ.objs.length (by simp)
  obtain ⟨c, e, cs, g1, g2, g3, g4, g5⟩ := hS'.obj _ b hb
  have hcs : cs = [x] := by simpa using g1.symm
  subst hcs
  have hc1 : c.size = 1 := by simpa using g3
  have hc0 : c[0]? = some c[0] := Array.getElem?_eq_getElem (by omega)
  have hx0 : AVR G' w' c[0] x := g5 0 _ _ hc0 rfl
  have ht0 := g4 0 (by omega)
  let G1 : Gh := { G' with tag := fun B o => if B = b ∧ o = 0 then .fixd else G'.tag B o }
  have hE12 : Ext G' w' G1 w' := by
    refine ⟨rfl, rfl, rfl, rfl, Nat.le_refl _, fun _ c _ _ h => ⟨c, h, rfl, fun _ _ => rfl⟩, fun _ _ h _ => h, fun B o h => ?_, fun B o _ h => ?_, fun _ _ h => h, fun _ m r h => ⟨m, r, h, Nat.le_refl _, fun _ => rfl⟩⟩
    · show (if _ then _ else _) = _
      split
      · rfl
      · exact h
    · show (if _ then _ else _) = _
      split
      · rename_i hbo
        obtain ⟨rfl, rfl⟩ := hbo
        rw [ht0] at h; cases h
      · exact h
  have hE1 := hE.trans hE12
  let G2 := G.forget G1
  have hE2 : Ext G w G2 w' := by
    refine ⟨hE1.base, hE1.os, hE1.tape, hE1.output, hE1.size, hE1.blk, hE1.oth, hE1.sealed, hE1.no, fun _ _ h => h, fun k m r hk => ?_⟩
    obtain ⟨m', r', h1, h2, h3⟩ := hE1.tl k m r hk
    exact ⟨m', r', by simp [G2, Gh.forget, hk, h1], h2, h3⟩
  have hfor : ∀ {x : Value} {a : AV}, AVR G' w' x a → a.under σ.objs.length σ.toks.length = true → AVR G2 w' x a := fun hx hb => (hx.mono hE12).forget hE1 hS.tot hS.totk hb
  have hlt : ∀ id b, G.pl id = some b → id < σ.objs.length := fun id b hp => by
    obtain ⟨_, _, _, h1, _⟩ := hS.obj id b hp
    exact (List.getElem?_eq_some_iff.1 h1).1
  have htag : ∀ B o, ¬ (B = b ∧ o = 0) → G1.tag B o = G'.tag B o := fun B o h => if_neg h
  have hv2 : AVR G2 w' v (.fn gf [.ep [x]]) := by
    cases hv with
    | fn hl h =>
      refine .fn (by simpa using hl) (fun j y a hy ha => ?_)
      match j with
      | 0 =>
        simp at ha; subst ha
        have h1 := h 0 y _ hy rfl
        cases h1 with
        | ptr h2 =>
          rw [hb] at h2; cases h2
          refine .ep [c[0]] rfl (fun j hj => ?_) (fun j y hy => ?_) (fun j y a hy ha => ?_)
          · have : j = 0 := by simp at hj; omega
            subst this
            show (if _ then _ else _) = _
            simp
          · match j with
            | 0 =>
              simp at hy; subst hy
              exact ⟨by rw [heap_cell g2]; simpa using hc0, hx0.oneCell hc⟩
            | j + 1 => simp at hy
          · match j with
            | 0 =>
              simp at hy ha; subst hy; subst ha
              exact hfor hx0 hxu
            | j + 1 => simp at hy
      | j + 1 => simp at ha
  refine hK v _ σ G2 w' ⟨rfl, rfl⟩ hE2 ?_ hv2
  refine ⟨?_, hS.inj, ?_, fun B o hB => ?_, fun g cs hg => (hS.gl g cs hg).mono hE2, hS.tot, ?_⟩
  · intro id b' hp
    obtain ⟨c', e', cs', h1, h2, h3, h4, h5⟩ := hS'.obj id b' (hE.pl _ _ hp)
    have hid := hlt id b' hp
    have h1' : σ.objs[id]? = some cs' := by
      rw [← h1]
      exact (List.getElem?_append_left hid).symm
    refine ⟨c', e', cs', h1', h2, h3, fun j hj => ?_, fun j y a hy ha => ?_⟩
    · show G1.tag b' j = _
      rw [htag _ _ (fun hbj => ?_)]
      · exact h4 j hj
      · obtain ⟨rfl, rfl⟩ := hbj
        have := h4 0 hj
        rw [ht0] at this
        injection this with this
        omega
    · obtain ⟨c0, e0, cs0, f1, f2, f3, f4, f5⟩ := hS.obj id b' hp
      rw [h1'] at f1; cases f1
      have hj : j < c0.size := by rw [f3]; exact (List.getElem?_eq_some_iff.1 ha).1
      exact hfor (h5 j y a hy ha) (under_all hS (f5 j c0[j] a (Array.getElem?_eq_getElem hj) ha))
  · intro k m b' lo hi hk
    have hk' : (match G.tl k with | some _ => G'.tl k | none => none) = some (m, b', lo, hi) := hk
    cases h0 : G.tl k with
    | none => rw [h0] at hk'; cases hk'
    | some p =>
      rw [h0] at hk'
      obtain ⟨t1, t2⟩ := hS'.tok k m b' lo hi hk'
      refine ⟨t1, fun hlh => ?_⟩
      obtain ⟨c', e', s1, s2, s3⟩ := t2 hlh
      refine ⟨c', e', s1, s2, fun j hj hj2 => ?_⟩
      show G1.tag b' j = _
      rw [htag _ _ (fun hbj => ?_)]
      · exact s3 j hj hj2
      · obtain ⟨rfl, rfl⟩ := hbj
        have := s3 0 hj hj2
        rw [ht0] at this; cases this
  · show G1.tag B o = _
    rw [htag _ _ (fun hbj => ?_)]
    · exact hS'.fresh B o hB
    · obtain ⟨rfl, rfl⟩ := hbj
      have := (Array.getElem?_eq_some_iff.1 g2).1
      omega
  · intro k hk
    obtain ⟨p, hp⟩ := hS.totk k hk
    obtain ⟨m', r', h1, _⟩ := hE1.tl k p.1 p.2 hp
    exact ⟨(m', r'), by simp [G2, Gh.forget, hp, h1]⟩

end
end Go.Vm
