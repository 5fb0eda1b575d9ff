import Derived.Test.YtdbaddholggkbaaVmO
/-
  Slices of slices; and all operations under one word.
-/
namespace Go.Vm
set_option linter.unnecessarySimpa false
set_option linter.unusedSimpArgs false
set_option linter.unusedVariables false
open Go

section
variable {P : Program} {G : Gh} {w : World} {σ : St} {a : Act} {ρ : Nat → AV}

/-- An operand that may be missing. -/
def OptR (G : Gh) (w : World) (x : Option Value) (b : Option AV) : Prop :=
  match x, b with
  | none, none => True
  | some v, some a => AVR G w v a
  | _, _ => False

theorem bound_none {d l : Nat} (h : boundA none d = some l) : l = d := by simp [boundA] at h; exact h.symm

theorem bound_some {x : Value} {av : AV} {d l y : Nat} {code : BoundsCode} (hx : AVR G w x av) (h : boundA (some av) d = some l) (hle : l ≤ y) : (Instr.sliceBound x y code).run P w = .ok l w := by
  unfold boundA at h
  simp only at h
  split at h
  · rename_i i hi
    split at h
    · rename_i h0
      cases h
      obtain ⟨k, rfl⟩ := intA_sound hx hi
      simp only [Instr.sliceBound, asIntOf, Sem.run_bind, Sem.run_pure, Result.andThen_ok]
      rw [if_pos ⟨h0, by omega⟩]
      rfl
    · cases h
  · cases h

theorem run_boundsC {isS : Bool} {n c l h : Nat} {lo hi : Option Value} {loA hiA : Option AV} (h1 : OptR G w lo loA) (h2 : OptR G w hi hiA) (hl : boundA loA 0 = some l) (hh : boundA hiA n = some h) (hlh : l ≤ h) (hhc : h ≤ c) :
    (Instr.sliceBounds isS n c lo hi none).run P w = .ok (l, h, c) w := by
  have e1 : ∀ code1 code2, (match hi with | some v => Instr.sliceBound v c (if isS then code1 else code2) | none => (pure n : Sem Nat)).run P w = .ok h w := by
    intro c1 c2
    cases hi with
    | none => cases hiA with
      | none => rw [bound_none hh]; rfl
      | some _ => exact h2.elim
    | some v => cases hiA with
      | none => exact h2.elim
      | some av => exact bound_some h2 hh (by omega)
  have e2 : (match lo with | some v => Instr.sliceBound v h .sliceB | none => (pure 0 : Sem Nat)).run P w = .ok l w := by
    cases lo with
    | none => cases loA with
      | none => rw [bound_none hl]; rfl
      | some _ => exact h1.elim
    | some v => cases loA with
      | none => exact h1.elim
      | some av => exact bound_some h1 hl hlh
  unfold Instr.sliceBounds
  cases hi with
  | none =>
    have e1' := e1 .sliceAcap .sliceAlen
    simp only [Sem.run_pure, Result.ok.injEq, and_true] at e1'
    subst e1'
    cases lo with
    | none => simp only [Sem.run_bind, Sem.run_pure, Result.andThen_ok] at e2 ⊢; cases e2; rfl
    | some v => simp only [Sem.run_bind, Sem.run_pure, Result.andThen_ok, Option.isSome_none, Bool.false_eq_true, if_false] at e2 ⊢; rw [e2]; rfl
  | some u =>
    have e1' := e1 .sliceAcap .sliceAlen
    simp only at e1'
    cases lo with
    | none => simp only [Sem.run_bind, Sem.run_pure, Result.andThen_ok, e1'] at e2 ⊢; cases e2; rfl
    | some v => simp only [Sem.run_bind, Sem.run_pure, Result.andThen_ok, e1', Option.isSome_none, Bool.false_eq_true, if_false] at e2 ⊢; rw [e2]; rfl

theorem run_bounds {isS : Bool} {n c l h : Nat} {lo hi : Option Value} {loA hiA : Option AV} (h1 : OptR G w lo loA) (h2 : OptR G w hi hiA) (hl : boundA loA 0 = some l) (hh : boundA hiA n = some h) (hlh : l ≤ h) (hhn : h ≤ n) (hnc : n ≤ c) :
    (Instr.sliceBounds isS n c lo hi none).run P w = .ok (l, h, c) w := run_boundsC h1 h2 hl hh hlh (by omega)

theorem run_bounds3 {isS : Bool} {n c l h : Nat} {lo hi mx : Option Value} {loA hiA : Option AV} {m : AV} (h1 : OptR G w lo loA) (h2 : OptR G w hi hiA) (h3 : OptR G w mx (some m)) (hl : boundA loA 0 = some l) (hh : boundA hiA n = some h) (hs : hiA.isSome = true)
    (hm : intA m = some (h : Int)) (hlh : l ≤ h) (hhn : h ≤ n) (hnc : n ≤ c) : (Instr.sliceBounds isS n c lo hi mx).run P w = .ok (l, h, h) w := by
  cases mx with
  | none => exact h3.elim
  | some mv =>
  cases hiA with
  | none => cases hs
  | some ha =>
  cases hi with
  | none => exact h2.elim
  | some hv =>
  have e0 : ∀ code, (Instr.sliceBound mv c code).run P w = .ok h w := by
    intro code
    refine bound_some (av := m) h3 (d := 0) ?_ (by omega)
    simp [boundA, hm]
  have e1 : ∀ code, (Instr.sliceBound hv h code).run P w = .ok h w := fun code => bound_some h2 hh (Nat.le_refl _)
  unfold Instr.sliceBounds
  cases lo with
  | none => cases loA with
    | none => rw [bound_none hl]; simp only [Sem.run_bind, Sem.run_pure, Result.andThen_ok, e0, e1]
    | some _ => exact h1.elim
  | some v => cases loA with
    | none => exact h1.elim
    | some av =>
      have e2 : ∀ code, (Instr.sliceBound v h code).run P w = .ok l w := fun code => bound_some h1 hl hlh
      simp only [Sem.run_bind, Sem.run_pure, Result.andThen_ok, e0, e1, e2]

theorem run_bounds3C {isS : Bool} {n c l h mi : Nat} {lo hi mx : Option Value} {loA hiA : Option AV} {m : AV} (h1 : OptR G w lo loA) (h2 : OptR G w hi hiA) (h3 : OptR G w mx (some m)) (hl : boundA loA 0 = some l) (hh : boundA hiA n = some h) (hs : hiA.isSome = true)
    (hm : intA m = some (mi : Int)) (hlh : l ≤ h) (hhm : h ≤ mi) (hmc : mi ≤ c) : (Instr.sliceBounds isS n c lo hi mx).run P w = .ok (l, h, mi) w := by
  cases mx with
  | none => exact h3.elim
  | some mv =>
  cases hiA with
  | none => cases hs
  | some ha =>
  cases hi with
  | none => exact h2.elim
  | some hv =>
  have e0 : ∀ code, (Instr.sliceBound mv c code).run P w = .ok mi w := by
    intro code
    refine bound_some (av := m) h3 (d := 0) ?_ (by omega)
    simp [boundA, hm]
  have e1 : ∀ code, (Instr.sliceBound hv mi code).run P w = .ok h w := fun code => bound_some h2 hh hhm
  unfold Instr.sliceBounds
  cases lo with
  | none => cases loA with
    | none => rw [bound_none hl]; simp only [Sem.run_bind, Sem.run_pure, Result.andThen_ok, e0, e1]
    | some _ => exact h1.elim
  | some v => cases loA with
    | none => exact h1.elim
    | some av =>
      have e2 : ∀ code, (Instr.sliceBound v h code).run P w = .ok l w := fun code => bound_some h1 hl hlh
      simp only [Sem.run_bind, Sem.run_pure, Result.andThen_ok, e0, e1, e2]

theorem sl_part {sz n c l h m : Nat} {cs : List AV} {tl : Tail} {ax : Option Addr} (hx : AVR G w (.slice ax n c) (.sl sz cs n tl)) (hpos : 0 < sz) (hlh : l ≤ h) (hhn : h ≤ n) (hhm : h ≤ m) (t' : Tail) (ht : t' = .shut ∨ t' = .full ∧ m = h) :
    AVR G w (.slice (if m = l then ax else ax.map (·.add (l * sz))) (h - l) (m - l)) (.sl sz ((cs.drop (l * sz)).take ((h - l) * sz)) (h - l) t') := by
  have htl : ∀ q, TailOk G t' q (h - l) (m - l) sz := by
    intro q
    rcases ht with rfl | ⟨rfl, rfl⟩
    · trivial
    · show m - l = m - l; rfl
  by_cases h0 : h = l
  · subst h0
    simp only [Nat.sub_self, Nat.zero_mul, List.take_zero] at htl ⊢
    exact .sl0 (htl _)
  · obtain ⟨ax', cx, xs, he, hnc, _, hcl, hol, hor, ho1, hoc⟩ := sl_cells hx
    cases he
    have hmul : (h - l) * sz + l * sz = h * sz := by rw [← Nat.add_mul]; congr 1; omega
    have hmul2 : h * sz ≤ n * sz := Nat.mul_le_mul_right _ hhn
    have hpos2 : 0 < (h - l) * sz := Nat.mul_pos (by omega) hpos
    have hne : cs ≠ [] := by
      intro e; subst e
      simp at hcl
      omega
    obtain ⟨b, o, rfl, hs, hcell⟩ := hoc hne
    rw [if_neg (by omega)]
    simp only [Option.map_some, add_at]
    refine .sl ((xs.drop (l * sz)).take ((h - l) * sz)) (by simp [hol]) (by simp; omega) (by omega) (fun j hj => ?_) (fun j x hj => ?_) (fun j x av hj ha => ?_) (htl _)
    · simp at hj
      rw [Nat.add_assoc]; exact hs _ (by omega)
    · rw [List.getElem?_take] at hj
      split at hj
      · rw [List.getElem?_drop] at hj
        rw [Nat.add_assoc]
        exact ⟨hcell _ _ hj, ho1 _ (List.mem_of_getElem? hj)⟩
      · cases hj
    · rw [List.getElem?_take] at hj ha
      split at hj
      · rename_i hq
        rw [if_pos hq] at ha
        rw [List.getElem?_drop] at hj ha
        exact hor _ _ _ hj ha
      · cases hj

theorem sliceA_sound {t : TypeId} {x : Value} {lo hi mx : Option Value} {p av : AV} {loA hiA mxA : Option AV} (hx : AVR G w x p) (h1 : OptR G w lo loA) (h2 : OptR G w hi hiA) (h3 : OptR G w mx mxA) (h : sliceA P t p loA hiA mxA = some av) :
    ∃ v, (Instr.sliceAt t x lo hi mx).run P w = .ok v w ∧ AVR G w v av := by
  unfold sliceA at h
  split at h
  · rename_i sz cs n tl
    split at h
    case h_2 => cases h
    rename_i e l hh he hl hhh
    have ht := elemT_some he
    split at h
    case h_2 => cases h
    rename_i ei hei
    obtain ⟨_, j, _, hj, _, _, hsz, _⟩ := ti_some hei
    split at h
    case isFalse => cases h
    rename_i hcond
    obtain ⟨hs1, hlh, hhn, hpos⟩ := hcond
    obtain ⟨ax, cx, xs, rfl, hnc, htl0, _⟩ := sl_cells hx
    have hx' : n = 0 ∨ sz = ei.size := by omega
    have hrun : ∀ m, (Instr.sliceBounds true n cx lo hi mx).run P w = .ok (l, hh, m) w → (Instr.sliceAt t (.slice ax n cx) lo hi mx).run P w = .ok (.slice (if m = l then ax else ax.map (·.add (l * ei.size))) (hh - l) (m - l)) w := by
      intro m hb
      simp [Instr.sliceAt, run_underlying ht, Instr.slice, hb, run_sizeOf w hj, hsz]
    have hpart : ∀ m, hh ≤ m → ∀ t', (t' = .shut ∨ t' = .full ∧ m = hh) → AVR G w (.slice (if m = l then ax else ax.map (·.add (l * ei.size))) (hh - l) (m - l)) (.sl ei.size ((cs.drop (l * ei.size)).take ((hh - l) * ei.size)) (hh - l) t') := by
      intro m hm t' ht'
      rcases hx' with h0 | h0
      · subst h0
        have e1 : hh = 0 := by omega
        have e2 : l = 0 := by omega
        subst e1; subst e2
        simp only [Nat.sub_self, Nat.zero_mul, List.take_zero]
        refine .sl0 ?_
        rcases ht' with rfl | ⟨rfl, rfl⟩
        · trivial
        · rfl
      · subst h0
        exact sl_part hx hpos hlh hhn hm t' ht'
    split at h
    · cases mx with
      | some _ => exact h3.elim
      | none =>
        have hb := run_bounds (P := P) (isS := true) h1 h2 hl hhh hlh hhn hnc
        split at h
        · rename_i hc
          simp only [Bool.and_eq_true, Option.isNone_iff_eq_none] at hc
          obtain ⟨hc1, hc2⟩ := hc
          subst hc1; subst hc2
          obtain rfl := bound_none hl
          obtain rfl := bound_none hhh
          cases h
          refine ⟨_, hrun cx hb, ?_⟩
          have : (if cx = 0 then ax else ax.map (·.add (0 * ei.size))) = ax := by
            split
            · rfl
            · cases ax <;> simp [Addr.add]
          rw [this, Nat.sub_zero, Nat.sub_zero]
          exact hx
        · cases h
          exact ⟨_, hrun cx hb, hpart cx (by omega) .shut (.inl rfl)⟩
    · rename_i m
      split at h
      case isFalse => cases h
      rename_i his
      split at h
      case h_2 => cases h
      rename_i mi hmi
      split at h
      case isFalse => cases h
      rename_i hmh
      subst hmh
      cases h
      have hb := run_bounds3 (P := P) (isS := true) h1 h2 h3 hl hhh his hmi hlh hhn hnc
      exact ⟨_, hrun hh hb, hpart hh (Nat.le_refl _) .full (.inr ⟨rfl, rfl⟩)⟩
  · rename_i id off
    split at h
    case h_2 => cases h
    rename_i n e l ha hl
    have ht := arrT_some ha
    split at h
    case h_2 => cases h
    rename_i hh ei hhh hei
    obtain ⟨_, j, _, hj, _, _, hsz, _⟩ := ti_some hei
    split at h
    case isFalse => cases h
    rename_i hcond
    obtain ⟨hlh, hhn, hpos, hln⟩ := hcond
    cases h
    cases mx with
    | some _ => exact h3.elim
    | none =>
      have hb := run_bounds (P := P) (isS := false) h1 h2 hl hhh hlh hhn (Nat.le_refl n)
      cases hx with
      | ptr hp =>
      rename_i b
      refine ⟨.slice (some (if n = l then ⟨b, off, none⟩ else (⟨b, off, none⟩ : Addr).add (l * ei.size))) (hh - l) (n - l), by simp [Instr.sliceAt, run_underlying ht, Instr.sureAddr, hb, run_sizeOf w hj, hsz], ?_⟩
      rw [if_neg (by omega), add_at]
      exact .bs hp (by omega)
  · cases h

theorem sliceRowA_sound {σ' : St} {t : TypeId} {x : Value} {lo hi mx : Option Value} {p av : AV} {loA hiA mxA : Option AV} (hS : RelS G w σ) (hx : AVR G w x p) (h1 : OptR G w lo loA) (h2 : OptR G w hi hiA) (h3 : OptR G w mx mxA) (h : sliceRowA P t p loA hiA mxA σ = some (av, σ')) :
    ∃ v, (Instr.sliceAt t x lo hi mx).run P w = .ok v w ∧ ∃ G', Ext G w G' w ∧ RelS G' w σ' ∧ AVR G' w v av := by
  unfold sliceRowA at h
  split at h
  case h_2 => cases h
  rename_i k g off sz n
  split at h
  case h_2 => cases h
  rename_i e l hh he hl hhh
  have ht := elemT_some he
  split at h
  case h_2 => cases h
  rename_i ei hei
  obtain ⟨_, j, _, hj, _, _, hsz, _⟩ := ti_some hei
  split at h
  case isFalse => cases h
  rename_i hcond
  obtain ⟨rfl, hlh, hpos⟩ := hcond
  obtain ⟨ax, cx, rfl, hnc, ha⟩ := row_slice hx
  have hrun : ∀ m, (Instr.sliceBounds true n cx lo hi mx).run P w = .ok (l, hh, m) w → (Instr.sliceAt t (.slice ax n cx) lo hi mx).run P w = .ok (.slice (if m = l then ax else ax.map (·.add (l * ei.size))) (hh - l) (m - l)) w := by
    intro m hb
    simp [Instr.sliceAt, run_underlying ht, Instr.slice, hb, run_sizeOf w hj, hsz]
  -- a part of it
  have part : ∀ {G' : Gh}, AVR G' w (.slice ax n cx) (.row k g off ei.size n) → hh ≤ cx → AVR G' w (.slice (if cx = l then ax else ax.map (·.add (l * ei.size))) (hh - l) (cx - l)) (.row k g (off + l * ei.size) ei.size (hh - l)) := by
    intro G' hx' hhc
    cases hx' with
    | row hk hg hn ha hc =>
      rename_i gc b o C
      have hm : (cx - l) * ei.size = cx * ei.size - l * ei.size := Nat.sub_mul ..
      have hle : l * ei.size ≤ cx * ei.size := Nat.mul_le_mul_right _ (by omega)
      refine .row hk hg (by omega) (fun h0 => ?_) (fun eg => ⟨?_, fun h0 => ?_⟩)
      · obtain ⟨b', o', rfl⟩ := ha (by omega)
        rw [if_neg (by omega)]
        exact ⟨b', o' + l * ei.size, by simp [add_at]⟩
      · have := (hc eg).1
        omega
      · have := (hc eg).2 (by omega)
        subst this
        rw [if_neg (by omega)]
        simp [add_at, Nat.add_assoc]
  split at h
  · cases mx with
    | some _ => exact h3.elim
    | none =>
    split at h
    · rename_i hhn
      cases h
      have hb := run_boundsC (P := P) (isS := true) (c := cx) h1 h2 hl hhh hlh (by omega)
      exact ⟨_, hrun _ hb, G, .refl _ _, hS, part hx (by omega)⟩
    · rename_i hhn
      split at h
      case h_2 => cases h
      rename_i r hr
      split at h
      case h_2 => cases h
      rename_i s hs
      split at h
      case isFalse => cases h
      rename_i hc2
      obtain ⟨hg, hle1, hle2⟩ := hc2
      cases h
      obtain ⟨a, c, b, o, C, he', _, hk, hc1, hc3, h4, h5, h6⟩ := row_look hS hx hr hg
      obtain ⟨rfl, rfl⟩ : ax = a ∧ cx = c := by
        injection he' with e1 _ e3
        exact ⟨e1, e3⟩
      have hC := h5 _ hs
      have hhc : hh ≤ cx := by
        have : hh * ei.size ≤ cx * ei.size := by omega
        exact Nat.le_of_mul_le_mul_right this hpos
      have hb := run_boundsC (P := P) (isS := true) (c := cx) h1 h2 hl hhh hlh hhc
      refine ⟨_, hrun _ hb, ?_⟩
      have hrt := row_turn hS (w' := w) (r' := ⟨g, r.cells ++ List.replicate (off + hh * ei.size - r.cells.length) .any, some (r.cells.length + s - (off + hh * ei.size))⟩) hk (.inl ⟨rfl, rfl, rfl⟩) (Nat.le_refl _) (Nat.le_refl _) rfl (by simp; omega) (fun s2 hs2 => by cases hs2; simp; omega)
        (.inl ⟨rfl, fun hC0 c0 e0 hb0 q x a2 hx2 ha2 => by
          obtain ⟨cur, el, g1, g2, g3, g4, g5⟩ := h6 hC0
          rw [hb0] at g1; cases g1
          simp only at ha2
          by_cases hq : q < r.cells.length
          · rw [List.getElem?_append_left hq] at ha2
            exact g5 q x a2 hx2 ha2
          · rw [List.getElem?_append_right (by omega)] at ha2
            have hlt := (List.getElem?_eq_some_iff.1 ha2).1
            simp at hlt
            have : a2 = .any := List.eq_of_mem_replicate (List.mem_of_getElem? ha2)
            rw [this]
            exact .any (g4 q x (by omega) hx2)⟩)
      exact ⟨_, hrt.1, hrt.2, part (hx.mono hrt.1) hhc⟩
  · rename_i m
    split at h
    case isFalse => cases h
    rename_i his
    split at h
    case h_2 => cases h
    rename_i mi hmi
    split at h
    case isFalse => cases h
    rename_i hc2
    obtain ⟨hm1, hm2⟩ := hc2
    obtain ⟨mn, rfl⟩ : ∃ mn : Nat, mi = mn := ⟨mi.toNat, by omega⟩
    have hb := run_bounds3C (P := P) (isS := true) (c := cx) (n := n) h1 h2 h3 hl hhh his hmi hlh (by omega) (by omega)
    refine ⟨_, hrun _ hb, G, .refl _ _, ?_⟩
    split at h
    · rename_i hml
      cases h
      have : mn = l := by omega
      subst this
      have e1 : hh - mn = 0 := by omega
      rw [e1, Nat.sub_self]
      exact ⟨hS, .sl0 rfl⟩
    · cases h
      exact ⟨hS, .any rfl⟩

/-- What an operation answers. -/
def Answers (nx : Next) (v : Value) : Prop := nx = .value v ∨ nx = .skip ∧ v = undef

theorem optR {x : Option Operand} {b : Option AV} (hS : RelS G w σ) (henv : ∀ i, AVR G w (a.tmps.getD i undef) (ρ i)) (h : evalOpt ρ σ x = some b) : OptR G w (x.map a.eval) b := by
  cases x with
  | none => simp [evalOpt] at h; subst h; trivial
  | some o =>
    simp only [evalOpt] at h
    cases ho : evalA ρ σ o with
    | none => simp [ho] at h
    | some av => simp [ho] at h; subst h; exact evalA_sound hS henv ho

theorem pick_sound {t : Bool} {x y : Value} {p q : AV} (hx : AVR G w x p) (hy : AVR G w y q) : AVR G w (if t then x else y) (pickA t p q) := by
  have gen : AVR G w (if t then x else y) (if t then p else q) := by
    cases t
    · exact hy
    · exact hx
  cases p with
  | v xv =>
    cases q with
    | v yv =>
      cases xv with
      | bool b =>
        cases yv with
        | bool c =>
          rw [hx.v_eq, hy.v_eq]
          cases t <;> exact .v rfl
        | _ => exact gen
      | _ => exact gen
    | _ => cases xv <;> exact gen
  | _ => exact gen

theorem map_some {α β : Type} {f : α → β} {o : Option α} {b : β} (h : o.map f = some b) : ∃ c, o = some c ∧ f c = b := by
  cases o with
  | none => simp at h
  | some c => exact ⟨c, rfl, by simpa using h⟩

theorem builtin_sound {b : Builtin} {ts : List TypeId} {as : List AV} {av : AV} {σ' : St} {ty : TypeId} (hS : RelS G w σ) (h : builtinA P b ts as σ = some (av, σ')) (xs : Array Value) (hl : xs.size = as.length)
    (hr : ∀ (j : Nat) x b, xs[j]? = some x → as[j]? = some b → AVR G w x b) : ∃ v w' G', (∀ consts, (builtin b ts.toArray ty consts xs).run P w = .ok (.value v) w') ∧ Ext G w G' w' ∧ RelS G' w' σ' ∧ AVR G' w' v av := by
  unfold builtinA at h
  split at h
  · obtain ⟨b, hb, e⟩ := map_some h
    cases e
    rename_i t a1
    obtain ⟨x, rfl⟩ : ∃ x, xs = #[x] := by
      match xs, hl with
      | ⟨[x]⟩, _ => exact ⟨x, rfl⟩
    obtain ⟨v, hv, hav⟩ := lenA_sound (P := P) (ty := ty) (hr 0 x a1 rfl rfl) hb
    refine ⟨v, w, G, fun _ => ?_, .refl _ _, hS, hav⟩
    simp only [builtin, Sem.run_bind, hv, Result.andThen_ok, Sem.run_pure]
  · split at h
    · rename_i t u a1 a2 htu
      subst htu
      obtain ⟨x, y, rfl⟩ : ∃ x y, xs = #[x, y] := by
        match xs, hl with
        | ⟨[x, y]⟩, _ => exact ⟨x, y, rfl⟩
      obtain ⟨v, w', G', hv, h1, h2, h3⟩ := appendA_sound (P := P) (ty := ty) hS (hr 0 x a1 rfl rfl) (hr 1 y a2 rfl rfl) h
      refine ⟨v, w', G', fun _ => ?_, h1, h2, h3⟩
      simp only [builtin, Sem.run_bind, hv, Result.andThen_ok, Sem.run_pure]
    · rename_i t u a1 a2 htu
      obtain ⟨x, y, rfl⟩ : ∃ x y, xs = #[x, y] := by
        match xs, hl with
        | ⟨[x, y]⟩, _ => exact ⟨x, y, rfl⟩
      split at h
      case h_2 => cases h
      rename_i ku hku
      obtain ⟨v, w', G', hv, h1, h2, h3⟩ := appendZA_sound (P := P) (ty := ty) hS (hr 0 x a1 rfl rfl) (hr 1 y a2 rfl rfl) hku h
      refine ⟨v, w', G', fun _ => ?_, h1, h2, h3⟩
      simp only [builtin, Sem.run_bind, hv, Result.andThen_ok, Sem.run_pure]
  · obtain ⟨b, hb, e⟩ := map_some h
    cases e
    rename_i t a1
    obtain ⟨x, rfl⟩ : ∃ x, xs = #[x] := by
      match xs, hl with
      | ⟨[x]⟩, _ => exact ⟨x, rfl⟩
    obtain ⟨v, hv, hav⟩ := capA_sound (P := P) (ty := ty) hS (hr 0 x a1 rfl rfl) hb
    refine ⟨v, w, G, fun _ => ?_, .refl _ _, hS, hav⟩
    simp only [builtin, Sem.run_bind, hv, Result.andThen_ok, Sem.run_pure]
  · rename_i t u a1 a2
    obtain ⟨x, y, rfl⟩ : ∃ x y, xs = #[x, y] := by
      match xs, hl with
      | ⟨[x, y]⟩, _ => exact ⟨x, y, rfl⟩
    obtain ⟨v, w', G', hv, h1, h2, h3⟩ := copyA_sound (P := P) (ty := ty) (u := u) hS (hr 0 x a1 rfl rfl) (hr 1 y a2 rfl rfl) h
    refine ⟨v, w', G', fun _ => ?_, h1, h2, h3⟩
    simp only [builtin, Sem.run_bind, hv, Result.andThen_ok, Sem.run_pure]
  · rename_i t a1
    obtain ⟨x, rfl⟩ : ∃ x, xs = #[x] := by
      match xs, hl with
      | ⟨[x]⟩, _ => exact ⟨x, rfl⟩
    obtain ⟨v, w', G', hv, h1, h2, h3⟩ := clearA_sound (P := P) (ty := ty) hS (hr 0 x a1 rfl rfl) h
    refine ⟨v, w', G', fun _ => ?_, h1, h2, h3⟩
    simp only [builtin, Sem.run_bind, hv, Result.andThen_ok, Sem.run_pure]
  · cases h

theorem op_sound {o : Oper} {av : AV} {σ' : St} (hS : RelS G w σ) (henv : ∀ i, AVR G w (a.tmps.getD i undef) (ρ i)) (h : opA P ρ σ o.op = some (av, σ')) :
    ∃ nx v w' G', (execOp a.eval o).run P w = .ok nx w' ∧ Answers nx v ∧ Ext G w G' w' ∧ RelS G' w' σ' ∧ AVR G' w' v av := by
  have E : ∀ {x : Operand} {b : AV}, evalA ρ σ x = some b → AVR G w (a.eval x) b := fun h => evalA_sound hS henv h
  have pure1 : ∀ {s : Sem Value} {v : Value} {b : AV}, σ' = σ → b = av → s.run P w = .ok v w → AVR G w v b → (execOp a.eval o = do pure (.value (← s))) → ∃ nx v w' G', (execOp a.eval o).run P w = .ok nx w' ∧ Answers nx v ∧ Ext G w G' w' ∧ RelS G' w' σ' ∧ AVR G' w' v av := by
    intro s v b e1 e2 hr hv he
    subst e1; subst e2
    refine ⟨.value v, v, w, G, ?_, .inl rfl, .refl _ _, hS, hv⟩
    rw [he]
    simp only [Sem.run_bind, hr, Result.andThen_ok, Sem.run_pure]
  have hx : ∀ op, o.op = op → execOp a.eval o = execOp a.eval { o with op := op } := fun op e => by rw [← e]
  cases hop : o.op with
  | move x =>
    rw [hop] at h
    obtain ⟨b, hb, e⟩ := map_some h
    cases e
    exact ⟨.value (a.eval x), _, w, G, by rw [hx _ hop]; rfl, .inl rfl, .refl _ _, hS, E hb⟩
  | assign x =>
    rw [hop] at h
    obtain ⟨b, hb, e⟩ := map_some h
    cases e
    exact ⟨.value (a.eval x), _, w, G, by rw [hx _ hop]; rfl, .inl rfl, .refl _ _, hS, E hb⟩
  | pick c x y =>
    rw [hop] at h
    simp only [opA] at h
    split at h
    · rename_i t p q hc hp hq
      cases h
      refine ⟨.value (if t then a.eval x else a.eval y), _, w, G, ?_, .inl rfl, .refl _ _, hS, pick_sound (E hp) (E hq)⟩
      rw [hx _ hop]
      have := (E hc).v_eq
      simp only [execOp, this, asBool, Sem.run_bind, Sem.run_pure, Result.andThen_ok]
    · cases h
  | alloc t =>
    rw [hop] at h
    obtain ⟨z, hz, e⟩ := map_some h
    cases e
    obtain ⟨zv, hzr, hzv⟩ := zeroA_sound (G := G) (w := w) hz
    obtain ⟨hl, hr⟩ := hzv.cells_eq
    obtain ⟨G', hE, hS', hpl⟩ := newObj_sound hS t zv.cells z.cells hl hr
    refine ⟨.value (.pointer (some ⟨w.heap.size, 0, none⟩)), _, _, G', ?_, .inl rfl, hE, hS', .ptr hpl⟩
    rw [hx _ hop]
    simp only [execOp, Instr.alloc, Sem.run_bind, hzr, Result.andThen_ok, newVar, newRow, Sem.run_pure, run_newObj]
    rfl
  | box t x =>
    rw [hop] at h
    obtain ⟨z, hz, e⟩ := map_some h
    cases e
    obtain ⟨hl, hr⟩ := (E hz).cells_eq
    obtain ⟨G', hE, hS', hpl⟩ := newObj_sound hS t (a.eval x).cells z.cells hl hr
    refine ⟨.value (.pointer (some ⟨w.heap.size, 0, none⟩)), _, _, G', ?_, .inl rfl, hE, hS', .ptr hpl⟩
    rw [hx _ hop]
    simp only [execOp, Instr.box, Sem.run_bind, Result.andThen_ok, newVar, newRow, Sem.run_pure, run_newObj]
    rfl
  | build t parts =>
    rw [hop] at h
    simp only [opA] at h
    split at h
    · rename_i ps hps
      obtain ⟨b, hb, e⟩ := map_some h
      cases e
      obtain ⟨v, hv, hav⟩ := build_sound (P := P) (evalsA_sound hS henv hps) hb
      refine pure1 rfl rfl hv hav ?_
      rw [hx _ hop]
      simp only [execOp]
      congr 2
      apply Array.ext'
      simp
    · cases h
  | buildSlice t len parts =>
    rw [hop] at h
    simp only [opA] at h
    split at h
    · rename_i ps hps
      obtain ⟨b, hb, e⟩ := map_some h
      cases e
      obtain ⟨v, w', G', hv, hE, hS', hav⟩ := buildSlice_sound (P := P) hS (evalsA_sound hS henv hps) hb
      refine ⟨.value v, v, w', G', ?_, .inl rfl, hE, hS', hav⟩
      rw [hx _ hop]
      have hm : (parts.map fun (p : Nat × Operand) => (p.1, a.eval p.2)) = (List.map (fun p => (p.1, a.eval p.2)) parts.toList).toArray := by
        apply Array.ext'; simp
      have : (fun (x : Nat × Operand) => match x with | (i, y) => (i, a.eval y)) = fun p => (p.1, a.eval p.2) := by funext ⟨_, _⟩; rfl
      simp only [execOp, this, hm, Sem.run_bind, hv, Result.andThen_ok, Sem.run_pure]
    · cases h
  | load t x =>
    rw [hop] at h
    simp only [opA] at h
    split at h
    · rename_i p hp
      obtain ⟨b, hb, e⟩ := map_some h
      cases e
      obtain ⟨v, hv, hav⟩ := loadA_sound (P := P) hS (E hp) hb
      exact pure1 rfl rfl hv hav (hx _ hop)
    · cases h
  | store t x y =>
    rw [hop] at h
    simp only [opA] at h
    split at h
    · rename_i p q hp hq
      obtain ⟨b, hb, e⟩ := map_some h
      cases e
      obtain ⟨w', hr, hE, hS'⟩ := storeA_sound (P := P) hS (E hp) (E hq) hb
      refine ⟨.skip, undef, w', G, ?_, .inr ⟨rfl, rfl⟩, hE, hS', .v rfl⟩
      rw [hx _ hop]
      simp only [execOp, Sem.run_bind, hr, Result.andThen_ok, Sem.run_pure]
    · cases h
  | nilCheck x =>
    rw [hop] at h
    simp only [opA] at h
    split at h
    · rename_i id off hp
      cases h
      have := E hp
      cases hv : a.eval x with
      | pointer q =>
        rw [hv] at this
        cases this
        exact ⟨.value (a.eval x), _, w, G, by rw [hx _ hop, hv]; simp [execOp, hv], .inl rfl, .refl _ _, hS, E hp⟩
      | _ => rw [hv] at this; cases this
    · rename_i k g off hp
      cases h
      have := E hp
      cases hv : a.eval x with
      | pointer q =>
        rw [hv] at this
        cases this
        exact ⟨.value (a.eval x), _, w, G, by rw [hx _ hop, hv]; simp [execOp, hv], .inl rfl, .refl _ _, hS, E hp⟩
      | _ => rw [hv] at this; cases this
    · rename_i cs hp
      cases h
      obtain ⟨b, o', he, _⟩ := view_ep (E hp)
      exact ⟨.value (a.eval x), _, w, G, by rw [hx _ hop, he]; simp [execOp, he], .inl rfl, .refl _ _, hS, E hp⟩
    · rename_i f cs hp
      cases h
      have := E hp
      cases hv : a.eval x with
      | func fn first caps =>
        rw [hv] at this
        cases this
        exact ⟨.value (a.eval x), _, w, G, by rw [hx _ hop, hv]; simp [execOp, hv], .inl rfl, .refl _ _, hS, E hp⟩
      | _ => rw [hv] at this; cases this
    · cases h
  | binOp op t x y yt =>
    rw [hop] at h
    simp only [opA] at h
    split at h
    · rename_i p q hp hq
      obtain ⟨b, hb, e⟩ := map_some h
      cases e
      obtain ⟨v, hv, hav⟩ := binA_sound (P := P) (E hp) (E hq) hb
      exact pure1 rfl rfl hv hav (hx _ hop)
    · cases h
  | unOp op t x =>
    rw [hop] at h
    simp only [opA] at h
    split at h
    · rename_i p hp
      obtain ⟨b, hb, e⟩ := map_some h
      cases e
      obtain ⟨v, hv, hav⟩ := unA_sound (P := P) (E hp) hb
      exact pure1 rfl rfl hv hav (hx _ hop)
    · cases h
  | convert s d x =>
    rw [hop] at h
    simp only [opA] at h
    split at h
    · rename_i p hp
      obtain ⟨b, hb, e⟩ := map_some h
      cases e
      obtain ⟨v, hv, hav⟩ := convA_sound (P := P) (E hp) hb
      exact pure1 rfl rfl hv hav (hx _ hop)
    · cases h
  | sliceToArrayPointer t x =>
    rw [hop] at h
    simp only [opA] at h
    split at h
    · rename_i id off sz n m e hp hm
      split at h
      · rename_i hle
        cases h
        have hb := E hp
        generalize hv : a.eval x = v at hb
        cases hb with
        | bs hpl hc =>
          rename_i b c
          have hrun : (Instr.arrayAt t (a.eval x)).run P w = .ok (.pointer (some ⟨b, off, none⟩)) w := by
            have hlt : ¬ n < m := by omega
            simp [Instr.arrayAt, run_underlying (arrT_some hm), hv, hlt]
          exact pure1 rfl rfl hrun (.ptr hpl) (hx _ hop)
      · cases h
    · cases h
  | slice t x lo hi mx =>
    rw [hop] at h
    simp only [opA] at h
    split at h
    · rename_i p l h' m hp hl hh hm
      split at h
      · obtain ⟨v, hv, G', hE, hS', hav⟩ := sliceRowA_sound (P := P) hS (E hp) (optR hS henv hl) (optR hS henv hh) (optR hS henv hm) h
        refine ⟨.value v, v, w, G', ?_, .inl rfl, hE, hS', hav⟩
        rw [hx _ hop]
        have he : execOp a.eval { o with op := .slice t x lo hi mx } = (do pure (.value (← Instr.sliceAt t (a.eval x) (lo.map a.eval) (hi.map a.eval) (mx.map a.eval))) : Sem Next) := rfl
        rw [he]
        simp only [Sem.run_bind, hv, Result.andThen_ok, Sem.run_pure]
      obtain ⟨b, hb, e⟩ := map_some h
      cases e
      obtain ⟨v, hv, hav⟩ := sliceA_sound (P := P) (E hp) (optR hS henv hl) (optR hS henv hh) (optR hS henv hm) hb
      exact pure1 rfl rfl hv hav (hx _ hop)
    · cases h
  | makeSlice t x y =>
    rw [hop] at h
    simp only [opA] at h
    split at h
    · rename_i p q hp hq
      obtain ⟨v, w', G', hv, hE, hS', hav⟩ := makeA_sound (P := P) hS (E hp) (E hq) h
      refine ⟨.value v, v, w', G', ?_, .inl rfl, hE, hS', hav⟩
      rw [hx _ hop]
      have he : execOp a.eval { o with op := .makeSlice t x y } = (do pure (.value (← Instr.makeSlice t (a.eval x) (a.eval y))) : Sem Next) := rfl
      rw [he]
      simp only [Sem.run_bind, hv, Result.andThen_ok, Sem.run_pure]
    · cases h
  | fieldAddr t x f =>
    rw [hop] at h
    simp only [opA] at h
    split at h
    · rename_i p hp
      obtain ⟨b, hb, e⟩ := map_some h
      cases e
      obtain ⟨v, hv, hav⟩ := fieldAddrA_sound (P := P) (E hp) hb
      exact pure1 rfl rfl hv hav (hx _ hop)
    · cases h
  | field t x f =>
    rw [hop] at h
    simp only [opA] at h
    split at h
    · rename_i p hp
      obtain ⟨b, hb, e⟩ := map_some h
      cases e
      obtain ⟨v, hv, hav⟩ := fieldA_sound (P := P) (E hp) hb
      exact pure1 rfl rfl hv hav (hx _ hop)
    · cases h
  | indexAddr t x y =>
    rw [hop] at h
    simp only [opA] at h
    split at h
    · rename_i p q hp hq
      obtain ⟨b, hb, e⟩ := map_some h
      cases e
      obtain ⟨v, hv, hav⟩ := indexAddrA_sound (P := P) (E hp) (E hq) hb
      exact pure1 rfl rfl hv hav (hx _ hop)
    · cases h
  | index t x y =>
    rw [hop] at h
    simp only [opA] at h
    split at h
    · rename_i p q hp hq
      obtain ⟨b, hb, e⟩ := map_some h
      cases e
      obtain ⟨v, hv, hav⟩ := indexA_sound (P := P) (E hp) (E hq) hb
      exact pure1 rfl rfl hv hav (hx _ hop)
    · cases h
  | extract x i =>
    rw [hop] at h
    simp only [opA] at h
    split at h
    · rename_i vs hp
      obtain ⟨b, hb, e⟩ := map_some h
      cases e
      have hp' := E hp
      cases hv : a.eval x with
      | tuple us =>
        rw [hv] at hp'
        cases hp' with
        | tup hl hr =>
        have hlt : i < us.size := by rw [hl]; exact (List.getElem?_eq_some_iff.1 hb).1
        refine pure1 (s := Instr.extract (a.eval x) i) rfl rfl ?_ (hr i us[i] _ (by simp [hlt]) hb) (hx _ hop)
        rw [hv]
        simp [Instr.extract, hlt]
      | _ => rw [hv] at hp'; cases hp'
    · cases h
  | makeFunc fn first caps =>
    rw [hop] at h
    cases fn with
    | func f =>
      simp only [opA] at h
      split at h
      · rename_i h0
        have e1 : first = #[] := Array.eq_empty_of_size_eq_zero h0
        subst e1
        obtain ⟨b, hb, e⟩ := map_some h
        cases e
        obtain ⟨hl, hr⟩ := forall2_get (evalAll_sound hS henv hb)
        refine pure1 (s := Instr.makeFunc (.func f) (#[].map a.eval) (caps.map a.eval)) (v := .func (.func f) #[] (caps.map a.eval)) rfl rfl (by simp [Instr.makeFunc]) (.fn (by simpa using hl) (fun j x av hj ha => hr j x av ?_ ha)) (hx _ hop)
        have : (caps.map a.eval).toList[j]? = some x := by simpa using hj
        simpa using this
      · cases h
    | _ => simp [opA] at h
  | call c =>
    rw [hop] at h
    simp only [opA] at h
    split at h
    · rename_i bi hbi
      split at h
      · rename_i as has
        obtain ⟨hl, hr⟩ := forall2_get (evalAll_sound hS henv has)
        obtain ⟨v, w', G', hr, h1, h2, h3⟩ := builtin_sound (ty := o.type) hS h (c.args.map a.eval) (by simpa using hl) (fun j x b hj hb => hr j x b (by
          have : (c.args.map a.eval).toList[j]? = some x := by simpa using hj
          simpa using this) hb)
        refine ⟨.value v, v, w', G', ?_, .inl rfl, h1, h2, h3⟩
        rw [hx _ hop]
        simp only [execOp, resolve, hbi, Sem.run_bind, Sem.run_pure, Result.andThen_ok, invoke]
        exact hr _
      · cases h
    · cases h
  | _ => rw [hop] at h; simp [opA] at h

end
end Go.Vm
