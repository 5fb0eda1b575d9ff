import Derived.Test.YtdbaddholggkbaaVmD
/-
  Each operation that calls no Go function does in memory what it does to plain lists.
-/
namespace Go.Vm
set_option linter.unnecessarySimpa false
set_option linter.unusedSimpArgs false
set_option linter.unusedVariables false
open Go

theorem ofCell_sound {G : Gh} {w : World} {x : Value} {a : AV} (h : ofCell x = some a) : AVR G w x a := by
  unfold ofCell at h
  split at h
  · cases h; exact .sl0 rfl
  · rename_i f first caps
    split at h
    · rename_i hc
      cases h
      have e1 : first = #[] := Array.eq_empty_of_size_eq_zero hc.1
      have e2 : caps = #[] := Array.eq_empty_of_size_eq_zero hc.2
      subst e1; subst e2
      exact .fn rfl (by simp)
    · cases h
  · split at h
    · cases h; exact .v (by assumption)
    · cases h

theorem ofCells_sound {G : Gh} {w : World} : ∀ {l : List Value} {as : List AV}, ofCells l = some as → l.length = as.length ∧ ∀ (j : Nat) x a, l[j]? = some x → as[j]? = some a → AVR G w x a
  | [], as, h => by simp [ofCells] at h; subst h; simp
  | x :: l, as, h => by
    unfold ofCells at h
    split at h
    · rename_i a as' ha hs
      cases h
      obtain ⟨h1, h2⟩ := ofCells_sound (G := G) (w := w) hs
      refine ⟨by simp [h1], fun j x a hx hj => ?_⟩
      match j with
      | 0 => simp at hx hj; subst hx; subst hj; exact ofCell_sound ha
      | j + 1 => exact h2 j x a (by simpa using hx) (by simpa using hj)
    · cases h

theorem ofValue_sound {G : Gh} {w : World} {x : Value} {a : AV} (h : ofValue x = some a) : AVR G w x a := by
  unfold ofValue at h
  split at h
  · rename_i cs
    cases hc : ofCells cs.toList with
    | none => simp [hc] at h
    | some as =>
      simp [hc] at h
      subst h
      obtain ⟨h1, h2⟩ := ofCells_sound (G := G) (w := w) hc
      exact .agg (by simpa using h1) (fun j x a hx ha => h2 j x a (by simpa using hx) ha)
  · exact ofCell_sound h

section
variable {P : Program} {G : Gh} {w : World} {σ : St} {a : Act} {ρ : Nat → AV}

theorem evalA_sound (hS : RelS G w σ) (henv : ∀ i, AVR G w (a.tmps.getD i undef) (ρ i)) {x : Operand} {av : AV} (h : evalA ρ σ x = some av) : AVR G w (a.eval x) av := by
  cases x with
  | tmp t => simp [evalA] at h; subst h; exact henv t
  | const v => exact ofValue_sound h
  | global g =>
    simp only [evalA] at h
    cases hg : σ.gl g with
    | none => simp [hg] at h
    | some cs => simp [hg] at h; subst h; exact hS.gl g cs hg
  | func f => simp [evalA] at h; subst h; exact .fn rfl (by simp)

theorem evalsA_sound (hS : RelS G w σ) (henv : ∀ i, AVR G w (a.tmps.getD i undef) (ρ i)) : ∀ {l : List (Nat × Operand)} {ps : List (Nat × AV)}, evalsA ρ σ l = some ps →
    Fa2 (fun (p : Nat × Value) (q : Nat × AV) => p.1 = q.1 ∧ AVR G w p.2 q.2) (l.map fun p => (p.1, a.eval p.2)) ps
  | [], ps, h => by simp [evalsA] at h; subst h; exact .nil
  | (i, x) :: l, ps, h => by
    unfold evalsA at h
    split at h
    · rename_i av as hx hs
      cases h
      exact .cons ⟨rfl, evalA_sound hS henv hx⟩ (evalsA_sound hS henv hs)
    · cases h

theorem evalAll_sound (hS : RelS G w σ) (henv : ∀ i, AVR G w (a.tmps.getD i undef) (ρ i)) : ∀ {l : List Operand} {ps : List AV}, evalAll ρ σ l = some ps → Fa2 (AVR G w) (l.map a.eval) ps
  | [], ps, h => by simp [evalAll] at h; subst h; exact .nil
  | x :: l, ps, h => by
    unfold evalAll at h
    split at h
    · rename_i av as hx hs
      cases h
      exact .cons (evalA_sound hS henv hx) (evalAll_sound hS henv hs)
    · cases h

theorem forall2_get {α β : Type} {R : α → β → Prop} : ∀ {l : List α} {m : List β}, Fa2 R l m → l.length = m.length ∧ ∀ (j : Nat) x y, l[j]? = some x → m[j]? = some y → R x y
  | _, _, .nil => by simp
  | _, _, .cons h t => by
    obtain ⟨h1, h2⟩ := forall2_get t
    refine ⟨by simp [h1], fun j x y hx hy => ?_⟩
    match j with
    | 0 => simp at hx hy; subst hx; subst hy; exact h
    | j + 1 => exact h2 j x y (by simpa using hx) (by simpa using hy)

theorem allPlain_sound : ∀ {as : List AV} {l : List Value}, allPlain as = some l → as = l.map .v
  | [], l, h => by simp [allPlain] at h; subst h; rfl
  | .v x :: as, l, h => by
    unfold allPlain at h
    split at h
    · cases hs : allPlain as with
      | none => simp [hs] at h
      | some l' => simp [hs] at h; subst h; simp [allPlain_sound hs]
    · cases h
  | .agg _ :: _, _, h | .tup _ :: _, _, h | .sl .. :: _, _, h | .ep _ :: _, _, h | .ptr .. :: _, _, h | .bs .. :: _, _, h | .fn .. :: _, _, h => by simp [allPlain] at h

theorem AVR.v_eq {x y : Value} (h : AVR G w x (.v y)) : x = y := by cases h; rfl
theorem AVR.v_plain {x y : Value} (h : AVR G w x (.v y)) : plain y = true := by cases h; assumption

theorem plainOf_sound {x y : Value} {a : AV} (hx : AVR G w x a) (h : plainOf a = some y) : x = y := by
  unfold plainOf at h
  split at h
  · cases h; exact hx.v_eq
  · rename_i cs
    cases hs : allPlain cs with
    | none => simp [hs] at h
    | some l =>
      simp [hs] at h
      subst h
      cases hx with
      | agg hl hr =>
        rename_i xs
        have e := allPlain_sound hs
        subst e
        congr 1
        apply Array.ext
        · simpa using hl
        · intro j h1 h2
          have h2' : j < l.length := by simpa using h2
          have := hr j _ (.v l[j]) (Array.getElem?_eq_getElem h1) (by simp [h2'])
          simpa using this.v_eq
  · cases h

theorem partA_sound {t : TypeId} {cs : Array Value} {as : List AV} {off : Nat} {av : AV} (hl : cs.size = as.length) (hr : ∀ (j : Nat) x a, cs[j]? = some x → as[j]? = some a → AVR G w x a) (h : partA P t as off = some av) :
    ∃ y, (part t cs off).run P w = .ok y w ∧ AVR G w y av := by
  unfold partA at h
  split at h
  · rename_i i hi
    obtain ⟨d, j, hd, hj, hz, hag, hsz, hby⟩ := ti_some hi
    unfold part
    rw [Sem.run_bind, run_isAgg w hd]
    simp only [Result.andThen_ok]
    by_cases ha : descAgg d = true
    · rw [hag, ha] at h
      simp only [if_true] at h
      split at h
      · rename_i hle
        cases h
        rw [if_pos ha]
        simp only [Sem.run_bind, run_sizeOf w hj, Result.andThen_ok, Sem.run_pure]
        refine ⟨_, rfl, .agg (by simp; omega) (fun k x a hx hka => ?_)⟩
        rw [Array.getElem?_extract] at hx
        rw [List.getElem?_take] at hka
        split at hka
        · rw [List.getElem?_drop] at hka
          split at hx
          · exact hr _ _ _ hx hka
          · cases hx
        · cases hka
      · cases h
    · rw [hag, if_neg ha] at h
      rw [if_neg ha]
      have hlt := (List.getElem?_eq_some_iff.1 h).1
      have hx : cs[off]? = some (cs[off]'(by omega)) := Array.getElem?_eq_getElem _
      rw [hx]
      exact ⟨_, rfl, hr _ _ _ hx h⟩
  · cases h

theorem list_fill (cs : List Value) (off : Nat) : ∀ (vs : List Value) (k : Nat) (cur : Array Value), off + k + vs.length ≤ cur.size →
    ((vs.zipIdx k).foldl (fun (c : Array Value) (x : Value × Nat) => c.setIfInBounds (off + x.2) x.1) cur).toList = cur.toList.take (off + k) ++ vs ++ cur.toList.drop (off + k + vs.length)
  | [], k, cur, _ => by simp
  | v :: vs, k, cur, h => by
    simp only [List.length_cons] at h
    simp only [List.zipIdx_cons, List.foldl_cons]
    rw [list_fill cs off vs (k + 1) (cur.setIfInBounds (off + k) v) (by simp; omega)]
    apply List.ext_getElem?
    intro j
    have e1 := splice_get cur.toList (off + k) (v :: vs) (by simp; omega) j
    have e2 := splice_get (cur.setIfInBounds (off + k) v).toList (off + (k + 1)) vs (by simp; omega) j
    rw [e1, e2]
    simp only [List.length_cons, Array.getElem?_toList, Array.getElem?_setIfInBounds]
    by_cases c1 : off + (k + 1) ≤ j ∧ j < off + (k + 1) + vs.length
    · rw [if_pos c1, if_pos (by omega)]
      rw [show j - (off + k) = (j - (off + (k + 1))) + 1 by omega, List.getElem?_cons_succ]
    · rw [if_neg c1]
      by_cases c2 : off + k = j
      · subst c2
        rw [if_pos rfl, if_pos (by omega), if_pos (by omega)]; simp
      · rw [if_neg c2, if_neg (by omega)]

theorem fill_sound (p : Nat → Option (Nat × Nat)) (pl : List (Nat × Nat)) (hp : ∀ (i : Nat) x, pl[i]? = some x → p i = some x) :
    ∀ (vs : List (Nat × Value)) (as : List (Nat × AV)) (cur : Array Value) (cs out : List AV), Fa2 (fun (p : Nat × Value) (q : Nat × AV) => p.1 = q.1 ∧ AVR G w p.2 q.2) vs as →
      cur.size = cs.length → (∀ (j : Nat) x a, cur[j]? = some x → cs[j]? = some a → AVR G w x a) → fillA pl cs as = some out →
      ∃ c, Instr.fill p cur vs = some c ∧ c.size = out.length ∧ ∀ (j : Nat) x a, c[j]? = some x → out[j]? = some a → AVR G w x a := by
  intro vs as cur cs out h
  induction h generalizing cur cs with
  | nil => intro hl hr h; simp [fillA] at h; subst h; exact ⟨cur, rfl, hl, hr⟩
  | cons hd tl ih =>
    rename_i v a vs as
    obtain ⟨i, x⟩ := v
    obtain ⟨i', av⟩ := a
    obtain ⟨rfl, hx⟩ := hd
    intro hl hr h
    unfold fillA at h
    split at h
    · rename_i off size hpl
      split at h
      · rename_i hc
        obtain ⟨hsz, hfit⟩ := hc
        obtain ⟨hce, hcr⟩ := AVR.cells_eq hx
        simp only at hce hcr
        unfold Instr.fill
        rw [hp _ _ hpl]
        simp only
        rw [if_neg (by rw [hce]; simp; omega)]
        have hf := list_fill [] off x.cells.toList 0 cur (by simp [hce]; omega)
        have harr : (x.cells.zipIdx.foldl (fun cs (c, j) => cs.setIfInBounds (off + j) c) cur) = (cur.toList.take off ++ x.cells.toList ++ cur.toList.drop (off + x.cells.size)).toArray := by
          apply Array.ext'
          rw [← Array.foldl_toList, Array.toList_zipIdx]
          simpa using hf
        rw [harr]
        refine ih _ _ (by simp [splice, hce]; omega) (fun j y b hy hb => ?_) h
        have e1 := splice_get cur.toList off x.cells.toList (by simp [hce]; omega) j
        have e2 := splice_get cs off av.cells (by omega) j
        unfold splice at hb
        rw [e2] at hb
        rw [List.getElem?_toArray] at hy
        simp only [Array.length_toList] at e1
        rw [e1] at hy
        simp only [hce] at hy
        split at hy
        · rename_i hc
          rw [if_pos hc] at hb
          exact hcr _ _ _ (by simpa using hy) hb
        · rename_i hc
          rw [if_neg hc] at hb
          exact hr _ _ _ (by simpa using hy) hb
      · cases h
    · cases h

theorem zeroA_sound {t : TypeId} {z : AV} (h : zeroA P t = some z) : ∃ zv, (zeroValue t).run P w = .ok zv w ∧ AVR G w zv z := by
  unfold zeroA at h
  split at h
  · rename_i i hi
    obtain ⟨d, j, hd, hj, hz, _⟩ := ti_some hi
    refine ⟨i.zero, ?_, ofValue_sound h⟩
    simp [zeroValue, typeInfo, hj, hz]
  · cases h

theorem zipmap_toList (parts : Array (Nat × Operand)) : (parts.map fun (p : Nat × Operand) => (p.1, a.eval p.2)).toList = parts.toList.map fun p => (p.1, a.eval p.2) := by simp

theorem build_sound {t : TypeId} {vs : List (Nat × Value)} {ps : List (Nat × AV)} {av : AV} (hv : Fa2 (fun (p : Nat × Value) (q : Nat × AV) => p.1 = q.1 ∧ AVR G w p.2 q.2) vs ps) (h : buildA P t ps = some av) :
    ∃ y, (Instr.build t vs.toArray).run P w = .ok y w ∧ AVR G w y av := by
  unfold buildA at h
  split at h
  · rename_i cs pl hz hpl
    obtain ⟨zv, hzr, hzv⟩ := zeroA_sound (G := G) (w := w) hz
    cases hzv with
    | agg hl hr =>
    rename_i zs
    cases hf : fillA pl cs ps with
    | none => simp [hf] at h
    | some out =>
      simp [hf] at h
      subst h
      unfold placesA at hpl
      split at hpl
      · rename_i fs hd
        split at hpl
        case h_2 => cases hpl
        case h_1 arr hm =>
          cases hpl
          have hrun := pureRun_run P w _ _ hm
          obtain ⟨c, hc, hcl, hcr⟩ := fill_sound (fun i => arr[i]?) arr.toList (fun i x h => by simpa using h) vs ps zs cs out hv hl hr hf
          refine ⟨.agg c, ?_, .agg hcl hcr⟩
          unfold Instr.build
          simp only [Sem.run_bind, hzr, Result.andThen_ok, run_underlying hd, Value.cells]
          rw [hrun]
          simp only [Result.andThen_ok, hc]
          rfl
      · rename_i n e hd
        split at hpl
        case h_2 => cases hpl
        case h_1 s hm =>
          cases hpl
          have hrun := pureRun_run P w _ _ hm
          obtain ⟨c, hc, hcl, hcr⟩ := fill_sound (fun i => some (i * s, s)) _ (fun i x h => by
            simp only [List.getElem?_map] at h
            by_cases hi : i < n
            · simp [hi] at h; rw [h]
            · simp [hi] at h) vs ps zs cs out hv hl hr hf
          refine ⟨.agg c, ?_, .agg hcl hcr⟩
          unfold Instr.build
          simp only [Sem.run_bind, hzr, Result.andThen_ok, run_underlying hd, Value.cells]
          rw [hrun]
          simp only [Result.andThen_ok, hc]
          rfl
      · cases hpl
  · cases h

end

end Go.Vm
