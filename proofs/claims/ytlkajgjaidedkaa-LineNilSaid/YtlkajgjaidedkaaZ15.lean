import Derived.Test.YtlkajgjaidedkaaRows
import Derived.Test.YtlkajgjaidedkaaZ14
import Derived.WalkKit
import Derived.ProofKit
import Derived.OpenShut
import Derived.ShutString
import Derived.ChangeOld
import Derived.Below
import Derived.SizedLaws
/-
  LineNil returns true at every input, and the input reads as9 it did. No condition.
-/
namespace Go.Proofs.Ytlkajgjaidedkaa.lineNil
set_option linter.unnecessarySimpa false
set_option maxRecDepth 100000
open Go Go.Vm Go.ChangeShapes Go.WideShapes Go.ChangeAt Go.RowKit
set_option linter.unusedVariables false

theorem own : ownKnob Try.prog.godebug = none := by kernel_rfl
theorem laidOut : laidOutB Try.prog = true := by kernel_rfl

theorem cells_bytes {P : Program} {u : TypeId} (hu : P.underlying u = some (.int .u8)) : ∀ cs : List AV, (∀ a, a ∈ cs → WC P u a) → ∃ p : List UInt8, cs = bytesA p
  | [], _ => ⟨[], rfl⟩
  | a :: cs, hh => by
    obtain ⟨p, hp⟩ := cells_bytes hu cs (fun b hb => hh b (by simp [hb]))
    obtain ⟨b, hb⟩ := u8_of hu (hh a (by simp))
    exact ⟨b :: p, by rw [hp, hb]; rfl⟩

theorem slice_arg {n : Nat} {P : Program} {t e : TypeId} {k : Nat} {H : Type} {enc : TypeId × Value → H} {W : World} {spare : Nat → Bool} {ad : Option Addr} {m c : Nat} {d : DataW H} {ps : List MemPlace} (hl : leaves P n t = some [t]) (ht : P.underlying t = some (.slice e)) (hle : leaves P k e = some [e]) (he : P.underlying e = some (.int .u8))
    (h : DataW.Trod enc P W 0 spare true t (.slice ad m c) d ps) : ∃ p : List UInt8, p.length ≤ 9223372036854775807 ∧ AVR (atFirst W) W (.slice ad m c) (.sl 1 (bytesA p) p.length .shut) := by
  obtain ⟨l, h1, h2, h3, h4⟩ := open_arg hl h
  have hc : Value.cells (.slice ad m c) = #[.slice ad m c] := rfl
  obtain ⟨a, rfl⟩ : ∃ a, l = [a] := by
    match l, h1 with
    | [a], _ => exact ⟨a, rfl⟩
  have w := h4 0 a t rfl rfl
  have r := h3 0 _ a (by rw [hc]; rfl) rfl
  have w0 := w
  cases w with
  | bool h => rw [ht] at h; cases h
  | string h _ => rw [ht] at h; cases h
  | int h _ => rw [ht] at h; cases h
  | slice h hls hl hn hc =>
    rw [ht] at h
    cases h
    rename_i fuel ls cs n
    obtain rfl := leaves_one hle hls
    obtain ⟨p, rfl⟩ := cells_bytes he cs (fun a ha => by
      obtain ⟨j, hj⟩ := List.mem_iff_getElem?.1 ha
      exact hc j a e hj (by simp [Nat.mod_one]))
    have : n = p.length := by simpa using hl.symm
    subst this
    exact ⟨p, wc_len w0, r⟩

set_option maxRecDepth 100000 in
theorem lifted (os : Os) (started : os.Started) (H : Type) (enc : TypeId × Value → H) :
    ReturnsInHanded {} Try.checked os 15 .any (Rows.lineNilSpec.pre6 enc Try.prog Try.f15 Rows.lineNilRow.domain false) (Rows.lineNilSpec.post enc Try.prog Try.f15 false true false false) := by
  refine returnsInHanded_of_change_sized (C := Try.checked) own started (by kernel_rfl) Try.func15
    (ChangeSpec.witness6 (enc := enc) (C := Try.checked) false ⟨#[], #[.int .u8 0, .int .u64 0, .int .u64 0, .slice none 0 0], []⟩ 8 (by kernel_rfl) (by kernel_rfl) (by kernel_rfl) (by kernel_rfl)) ?_
  intro W base args ds gs before hval0 hW hcnd hsz0 _
  have hval : ∀ (j : Nat) t v, Try.f15.params[j]? = some t → args[j]? = some v → Value.okWide Try.prog W .any base t v := hval0
  have hW' := hW
  obtain ⟨p, q, hA0, hV, rfl, hfz, hnd⟩ := hW
  have hA : DataW.TrodAll enc Try.prog W 0 (fun _ => true) true Try.f15.params.toList args.toList ds p := hA0
  rw [Try.params15] at hA hval
  obtain ⟨v0, vs0, d0, ds0, p0, q0, hargs, rfl, rfl, h0, r0⟩ := trodAll_cons hA
  obtain ⟨v1, vs1, d1, ds1, p1, q1, rfl, rfl, rfl, h1, r1⟩ := trodAll_cons r0
  obtain ⟨v2, vs2, d2, ds2, p2, q2, rfl, rfl, rfl, h2, r2⟩ := trodAll_cons r1
  obtain ⟨v3, vs3, d3, ds3, p3, q3, rfl, rfl, rfl, h3, r3⟩ := trodAll_cons r2
  obtain ⟨rfl, rfl, rfl⟩ := trodAll_nil r3
  obtain rfl : args = #[v0, v1, v2, v3] := by cases args; simp_all
  obtain ⟨rfl, rfl⟩ := trodVars_none hV
  obtain ⟨a0, rfl, rfl, rfl, w0⟩ := open_int Try.underlying5 (hval 0 5 v0 rfl rfl) h0
  have c0 : 0 ≤ a0 ∧ a0 ≤ 255 := by
    have m1 : IntKind.u8.min = 0 := rfl
    have m2 : IntKind.u8.max = 255 := rfl
    have w0 := w0
    simp [Lit.wf, m1, m2] at w0
    omega
  obtain ⟨n0, rfl⟩ : ∃ b : UInt8, a0 = (b.toNat : Int) := ⟨UInt8.ofNat a0.toNat, by rw [toNat_u8 (by omega)]; omega⟩
  obtain ⟨a1, rfl, rfl, rfl, w1⟩ := open_int Try.underlying54 (hval 1 54 v1 rfl rfl) h1
  have c1 : 0 ≤ a1 ∧ a1 ≤ 18446744073709551615 := by
    have m1 : IntKind.u64.min = 0 := rfl
    have m2 : IntKind.u64.max = 18446744073709551615 := rfl
    have w1 := w1
    simp [Lit.wf, m1, m2] at w1
    omega
  obtain ⟨n1, rfl⟩ := Int.eq_ofNat_of_zero_le c1.1
  obtain ⟨a2, rfl, rfl, rfl, w2⟩ := open_int Try.underlying54 (hval 2 54 v2 rfl rfl) h2
  have c2 : 0 ≤ a2 ∧ a2 ≤ 18446744073709551615 := by
    have m1 : IntKind.u64.min = 0 := rfl
    have m2 : IntKind.u64.max = 18446744073709551615 := rfl
    have w2 := w2
    simp [Lit.wf, m1, m2] at w2
    omega
  obtain ⟨n2, rfl⟩ := Int.eq_ofNat_of_zero_le c2.1
  obtain ⟨a3, len3, cap3, rfl⟩ := okWide_slice Try.underlying23 (hval 3 23 v3 rfl rfl)
  have k3 := h3
  have lt3 : ∀ x ∈ p3, x.block < W.heap.size := by obtain ⟨m, hm⟩ := k3; exact DataW.trod_lt m _ _ _ hm
  obtain ⟨z3, o3, w3⟩ := slice_arg (n := 2) (k := 2) (by kernel_rfl) Try.underlying23 (by kernel_rfl) Try.underlying5 h3
  clear hA0 hval0 hsz0
  have walk : Calls Try.prog 15 #[.int .u8 (n0.toNat : Nat), .int .u64 (n1 : Nat), .int .u64 (n2 : Nat), .slice a3 len3 cap3] W (fun e W' => e = .returned (.bool true) ∧ Below W.heap.size W W') := by
    refine lineNil_ok (kind := n0) (d := n1) (no := n2) (by omega) (by omega) o3 (atFirst W) W _ _ (atFirst_rel W) rfl (fun j x b hx hb => ?_) (fun v av σ' G' w' hq hE hS hv => ?_)
    · match j with
      | 0 => simp at hx hb; subst hx; subst hb; exact .v rfl
      | 1 => simp at hx hb; subst hx; subst hb; exact .v rfl
      | 2 => simp at hx hb; subst hx; subst hb; exact .v rfl
      | 3 => simp at hx hb; subst hx; subst hb; exact w3
      | j + 4 => simp at hx
    · obtain ⟨rfl, _⟩ := hq
      rw [hv.v_eq]
      exact ⟨rfl, ext_below hE⟩
  refine walk.mono fun e W' ⟨he, bel⟩ => ?_
  subst he
  exact ⟨_, rfl, _, _, _, [], _, [], hW', trodAll_mk1 (shut_bool Try.underlying4 _), (trodAll_cons_mk (shut_int Try.underlying5 w0) (trodAll_cons_mk (shut_int Try.underlying54 w1) (trodAll_cons_mk (shut_int Try.underlying54 w2) (trodAll_cons_mk (Below.trod laidOut (by kernel_rfl) (of_decide_eq_true (by kernel_rfl)) k3 bel lt3) trodAll_mk0)))), rfl, bel.frame _, fun h => by cases h⟩

theorem over : Rows.lineNilRow.holds Try.pinned (OpenSpec.ofChange Rows.lineNilSpec) :=
  OpenClaim.holds_of_wide 15 Try.f15 rfl rfl rfl rfl rfl rfl rfl ⟨rfl, rfl, rfl, rfl, rfl⟩ rfl rfl rfl rfl rfl (by kernel_rfl) Try.func15 (by kernel_rfl)
    (of_decide_eq_true (by kernel_rfl)) (by unfold Func.isWrapper; first | (rw [if_pos (by decide +kernel)]; kernel_rfl) | (rw [if_neg (by decide +kernel)]; exact ⟨rfl, rfl⟩))
    (fun os started H enc _ => lifted os started H enc)

theorem proved : Rows.LineNilSaid := over

end Go.Proofs.Ytlkajgjaidedkaa.lineNil

namespace Go.Proofs.Ytlkajgjaidedkaa
theorem lineNil_holds : Rows.LineNilSaid := lineNil.proved
#print axioms lineNil_holds
end Go.Proofs.Ytlkajgjaidedkaa
