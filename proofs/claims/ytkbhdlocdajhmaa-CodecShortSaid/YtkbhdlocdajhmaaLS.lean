/-
  CodecShort returns true at every input, and the input reads as it did. No condition.
-/
import Derived.Test.YtkbhdlocdajhmaaRows
import Derived.Test.YtkbhdlocdajhmaaE7
import Derived.Test.YtkbhdlocdajhmaaA1
import Derived.WalkKit
import Derived.ProofKit
import Derived.OpenShut
import Derived.ShutString
import Derived.ChangeOld
import Derived.Below
import Derived.SizedLaws
namespace Go.Proofs.Ytkbhdlocdajhmaa.codecShort
set_option linter.unnecessarySimpa false
open Go Go.Vm Go.ChangeShapes Go.WideShapes Go.ChangeAt Go.RowKit
set_option linter.unusedVariables false

theorem own : ownKnob Try.prog.godebug = none := by kernel_rfl
theorem laidOut : laidOutB Try.prog = true := by kernel_rfl

theorem part_arg {n : Nat} {P : Program} {t e tb u tc ec : TypeId} {k k2 : Nat} {H : Type} {enc : TypeId × Value → H} {W : World} {spare : Nat → Bool} {ad : Option Addr} {m c : Nat} {d : DataW H} {ps : List MemPlace} (hl : leaves P n t = some [t]) (ht : P.underlying t = some (.slice e)) (hle : leaves P k e = some [tb, u, u, u, u, tc]) (hb : P.underlying tb = some (.int .u8)) (hu : P.underlying u = some (.int .u64))
    (htc : P.underlying tc = some (.slice ec)) (hlc : leaves P k2 ec = some [tb, u, u, u, u])
    (h : DataW.Trod enc P W 0 spare true t (.slice ad m c) d ps) : ∃ L : List PartP, AVR (atFirst W) W (.slice ad m c) (.sl 6 (partsC L) L.length .shut) := by
  obtain ⟨l, h1, h2, h3, h4⟩ := open_arg hl h
  have hc : Value.cells (.slice ad m c) = #[.slice ad m c] := rfl
  obtain ⟨a, rfl⟩ : ∃ a, l = [a] := by
    match l, h1 with
    | [a], _ => exact ⟨a, rfl⟩
  have w := h4 0 a t rfl rfl
  have r := h3 0 _ a (by rw [hc]; rfl) rfl
  obtain ⟨L, rfl⟩ := parts_of ht hle hb hu htc hlc w
  exact ⟨L, r⟩

set_option maxRecDepth 100000 in
theorem lifted (os : Os) (started : os.Started) (H : Type) (enc : TypeId × Value → H) :
    ReturnsInHanded {} Try.checked os 8 .any (Rows.codecShortSpec.pre6 enc Try.prog Try.f8 Rows.codecShortRow.domain false) (Rows.codecShortSpec.post enc Try.prog Try.f8 false true false false) := by
  refine returnsInHanded_of_change_sized (C := Try.checked) own started (by kernel_rfl) Try.func8
    (ChangeSpec.witness6 (enc := enc) (C := Try.checked) false ⟨#[], #[.slice none 0 0, .int .u16 0], []⟩ 8 (by kernel_rfl) (by kernel_rfl) (by kernel_rfl) (by kernel_rfl)) ?_
  intro W base args ds gs before hval0 hW hcnd hsz0 _
  have hval : ∀ (j : Nat) t v, Try.f8.params[j]? = some t → args[j]? = some v → Value.okWide Try.prog W .any base t v := hval0
  have hW' := hW
  obtain ⟨p, q, hA0, hV, rfl, hfz, hnd⟩ := hW
  have hA : DataW.TrodAll enc Try.prog W 0 (fun _ => true) true Try.f8.params.toList args.toList ds p := hA0
  rw [Try.params8] at hA hval
  obtain ⟨v0, vs0, d0, ds0, p0, q0, hargs, rfl, rfl, h0, r0⟩ := trodAll_cons hA
  obtain ⟨v1, vs1, d1, ds1, p1, q1, rfl, rfl, rfl, h1, r1⟩ := trodAll_cons r0
  obtain ⟨rfl, rfl, rfl⟩ := trodAll_nil r1
  obtain rfl : args = #[v0, v1] := by cases args; simp_all
  obtain ⟨rfl, rfl⟩ := trodVars_none hV
  obtain ⟨a0, len0, cap0, rfl⟩ := okWide_slice Try.underlying44 (hval 0 44 v0 rfl rfl)
  have k0 := h0
  have lt0 : ∀ x ∈ p0, x.block < W.heap.size := by obtain ⟨m, hm⟩ := k0; exact DataW.trod_lt m _ _ _ hm
  obtain ⟨z0, w0⟩ := part_arg (n := 8) (k := 8) (k2 := 8) (e := 52) (tb := 5) (u := 48) (tc := 35) (ec := 69) (by kernel_rfl) Try.underlying44 (by kernel_rfl) Try.underlying5 Try.underlying48 Try.underlying35 (by kernel_rfl) h0
  obtain ⟨a1, rfl, rfl, rfl, w1⟩ := open_int Try.underlying53 (hval 1 53 v1 rfl rfl) h1
  have c1 : 0 ≤ a1 ∧ a1 < 65536 := by
    have m1 : IntKind.u16.min = 0 := rfl
    have m2 : IntKind.u16.max = 65535 := rfl
    have w1 := w1
    simp [Lit.wf, m1, m2] at w1
    omega
  clear hA0 hval0 hsz0
  have walk : Calls Try.prog 8 #[.slice a0 len0 cap0, .int .u16 a1] W (fun e W' => e = .returned (.bool true) ∧ Below W.heap.size W W') := by
    refine codecShort_ok (l := z0) c1 (atFirst W) W _ _ (atFirst_rel W) rfl (fun j x b hx hb => ?_) (fun v av σ' G' w' hq hE hS hv => ?_)
    · match j with
      | 0 => simp at hx hb; subst hx; subst hb; exact w0
      | 1 => simp at hx hb; subst hx; subst hb; exact .v rfl
      | j + 2 => simp at hx
    · obtain ⟨rfl, _⟩ := hq
      rw [hv.v_eq]
      exact ⟨rfl, ext_below hE⟩
  refine walk.mono fun e W' ⟨he, bel⟩ => ?_
  subst he
  exact ⟨_, rfl, _, _, _, [], _, [], hW', trodAll_mk1 (shut_bool Try.underlying4 _), (trodAll_cons_mk (Below.trod laidOut (by kernel_rfl) (of_decide_eq_true (by kernel_rfl)) k0 bel lt0) (trodAll_cons_mk (shut_int Try.underlying53 w1) trodAll_mk0)), rfl, bel.frame _, fun h => by cases h⟩

theorem over : Rows.codecShortRow.holds Try.pinned (OpenSpec.ofChange Rows.codecShortSpec) :=
  OpenClaim.holds_of_wide 8 Try.f8 rfl rfl rfl rfl rfl rfl rfl ⟨rfl, rfl, rfl, rfl, rfl⟩ rfl rfl rfl rfl rfl (by kernel_rfl) Try.func8 (by kernel_rfl)
    (of_decide_eq_true (by kernel_rfl)) (by unfold Func.isWrapper; first | (rw [if_pos (by decide +kernel)]; kernel_rfl) | (rw [if_neg (by decide +kernel)]; exact ⟨rfl, rfl⟩))
    (fun os started H enc _ => lifted os started H enc)

theorem proved : Rows.CodecShortSaid := over

end Go.Proofs.Ytkbhdlocdajhmaa.codecShort

namespace Go.Proofs.Ytkbhdlocdajhmaa
theorem codecShort_holds : Rows.CodecShortSaid := codecShort.proved
#print axioms codecShort_holds
end Go.Proofs.Ytkbhdlocdajhmaa
