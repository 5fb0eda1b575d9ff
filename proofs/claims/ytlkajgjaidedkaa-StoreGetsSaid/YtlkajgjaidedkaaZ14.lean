import Derived.Test.YtlkajgjaidedkaaZ13
/-
  Arguments: deeds.
-/
namespace Go.Proofs.Ytlkajgjaidedkaa
set_option linter.unnecessarySimpa false
set_option maxRecDepth 100000
open Go Go.Vm
set_option linter.unusedVariables false

theorem bytes_cells2 {P : Program} {u : TypeId} (hu : P.underlying u = some (.int .u8)) : ∀ cs : List AV, (∀ a, a ∈ cs → WC P u a) → ∃ p : List UInt8, cs = bytesA p
  | [], _ => ⟨[], rfl⟩
  | a :: cs, hh => by
    obtain ⟨p, hp⟩ := bytes_cells2 hu cs (fun b hb => hh b (by simp [hb]))
    obtain ⟨b, hb⟩ := u8_of hu (hh a (by simp))
    exact ⟨b :: p, by rw [hp, hb]; rfl⟩
theorem bytes_of {P : Program} {t e : TypeId} {k : Nat} {a : AV} (ht : P.underlying t = some (.slice e)) (hle : leaves P k e = some [e]) (he : P.underlying e = some (.int .u8)) (w : WC P t a) : ∃ p : List UInt8, a = byC p ∧ p.length ≤ 9223372036854775807 := by
  have w0 := w
  cases w with
  | bool h => rw [ht] at h; cases h
  | string h _ => rw [ht] at h; cases h
  | int h _ => rw [ht] at h; cases h
  | slice h hls hl hn hc =>
    rw [ht] at h
    cases h
    rename_i fuel ls cs n
    obtain rfl := leaves_one hle hls
    obtain ⟨p, rfl⟩ := bytes_cells2 he cs (fun a ha => by
      obtain ⟨j, hj⟩ := List.mem_iff_getElem?.1 ha
      exact hc j a e hj (by simp [Nat.mod_one]))
    have : n = p.length := by simpa using hl.symm
    subst this
    exact ⟨p, rfl, wc_len w0⟩
theorem acts_of {P : Program} {t e u tc ec : TypeId} {k k2 : Nat} {a : AV} (ht : P.underlying t = some (.slice e)) (hle : leaves P k e = some [u, tc, tc]) (hu : P.underlying u = some (.int .u8))
    (htc : P.underlying tc = some (.slice ec)) (hlc : leaves P k2 ec = some [ec]) (hec : P.underlying ec = some (.int .u8)) (w : WC P t a) : ∃ L : List Ac, a = .sl 3 (acsC L) L.length .shut ∧ L.length ≤ 9223372036854775807 ∧ ∀ x ∈ L, x.k.length ≤ 9223372036854775807 ∧ x.v.length ≤ 9223372036854775807 := by
  cases w with
  | bool h => rw [ht] at h; cases h
  | string h _ => rw [ht] at h; cases h
  | int h _ => rw [ht] at h; cases h
  | slice h hls hl hn hc =>
    rw [ht] at h
    cases h
    rename_i fuel ls cs n
    obtain rfl := leaves_one hle hls
    obtain ⟨L, hL, rfl⟩ := groups (α := { x : Ac // x.k.length ≤ 9223372036854775807 ∧ x.v.length ≤ 9223372036854775807 }) (f := fun x => acC x.1) (ls := [u, tc, tc]) (by simp) (fun _ => rfl) (fun cs h1 h2 => by
      obtain ⟨a0, a1, a2, rfl⟩ : ∃ a0 a1 a2, cs = [a0, a1, a2] := by
        match cs, h1 with
        | [a0, a1, a2], _ => exact ⟨a0, a1, a2, rfl⟩
      obtain ⟨m, e0⟩ := u8_of hu (h2 0 a0 u rfl rfl)
      obtain ⟨p, e1, hp⟩ := bytes_of htc hlc hec (h2 1 a1 tc rfl rfl)
      obtain ⟨q, e2, hq⟩ := bytes_of htc hlc hec (h2 2 a2 tc rfl rfl)
      exact ⟨⟨⟨m, p, q⟩, hp, hq⟩, by rw [e0, e1, e2]; rfl⟩) n cs hl hc
    refine ⟨L.map Subtype.val, ?_, by rw [List.length_map, hL]; exact hn, fun x hx => ?_⟩
    · rw [List.length_map, hL]
      show AV.sl 3 _ n .shut = _
      congr 1
      induction L with
      | nil => rfl
      | cons y L ih => simp [acsC, List.flatMap_cons]
    · obtain ⟨y, _, rfl⟩ := List.mem_map.1 hx
      exact y.2
theorem acts_arg {n : Nat} {P : Program} {t e u tc ec : TypeId} {k k2 : Nat} {H : Type} {enc : TypeId × Value → H} {W : World} {spare : Nat → Bool} {ad : Option Addr} {m c : Nat} {d : DataW H} {ps : List MemPlace} (hl : leaves P n t = some [t]) (ht : P.underlying t = some (.slice e)) (hle : leaves P k e = some [u, tc, tc]) (hu : P.underlying u = some (.int .u8))
    (htc : P.underlying tc = some (.slice ec)) (hlc : leaves P k2 ec = some [ec]) (hec : P.underlying ec = some (.int .u8))
    (h : DataW.Trod enc P W 0 spare true t (.slice ad m c) d ps) : ∃ L : List Ac, L.length ≤ 9223372036854775807 ∧ (∀ x ∈ L, x.k.length ≤ 9223372036854775807 ∧ x.v.length ≤ 9223372036854775807) ∧ AVR (atFirst W) W (.slice ad m c) (.sl 3 (acsC L) L.length .shut) := by
  obtain ⟨l, h1, h2, h3, h4⟩ := open_arg hl h
  have hc : Value.cells (.slice ad m c) = #[.slice ad m c] := rfl
  obtain ⟨a, rfl⟩ : ∃ a, l = [a] := by
    match l, h1 with
    | [a], _ => exact ⟨a, rfl⟩
  obtain ⟨L, rfl, e1, e2⟩ := acts_of ht hle hu htc hlc hec (h4 0 a t rfl rfl)
  exact ⟨L, e1, e2, h3 0 _ _ (by rw [hc]; rfl) rfl⟩

end Go.Proofs.Ytlkajgjaidedkaa
