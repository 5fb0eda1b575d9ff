import Derived.Test.YtlkajgjaidedkaaRows
import Derived.Test.YtlkajgjaidedkaaZ15
import Derived.Test.YtlkajgjaidedkaaZ14
import Derived.WalkKit
import Derived.ProofKit
import Derived.OpenShut
import Derived.ShutString
import Derived.ChangeOld
import Derived.Below
import Derived.SizedLaws
/-
  LineRipes returns true at every input, and the input reads as9 it did. No condition.
-/
namespace Go.Proofs.Ytlkajgjaidedkaa.lineRipes
set_option linter.unnecessarySimpa false
set_option maxRecDepth 100000
open Go Go.Vm Go.ChangeShapes Go.WideShapes Go.ChangeAt Go.RowKit
set_option linter.unusedVariables false

theorem own : ownKnob Try.prog.godebug = none := by kernel_rfl
theorem laidOut : laidOutB Try.prog = true := by kernel_rfl

set_option maxRecDepth 100000 in
theorem lifted (os : Os) (started : os.Started) (H : Type) (enc : TypeId × Value → H) :
    ReturnsInHanded {} Try.checked os 14 .any (Rows.lineRipesSpec.pre6 enc Try.prog Try.f14 Rows.lineRipesRow.domain false) (Rows.lineRipesSpec.post enc Try.prog Try.f14 false true false false) := by
  refine returnsInHanded_of_change_sized (C := Try.checked) own started (by kernel_rfl) Try.func14
    (ChangeSpec.witness6 (enc := enc) (C := Try.checked) false ⟨#[], #[.slice none 0 0, .int .u64 0, .bool false], []⟩ 8 (by kernel_rfl) (by kernel_rfl) (by kernel_rfl) (by kernel_rfl)) ?_
  intro W base args ds gs before hval0 hW hcnd hsz0 _
  have hval : ∀ (j : Nat) t v, Try.f14.params[j]? = some t → args[j]? = some v → Value.okWide Try.prog W .any base t v := hval0
  have hW' := hW
  obtain ⟨p, q, hA0, hV, rfl, hfz, hnd⟩ := hW
  have hA : DataW.TrodAll enc Try.prog W 0 (fun _ => true) true Try.f14.params.toList args.toList ds p := hA0
  rw [Try.params14] at hA hval
  obtain ⟨v0, vs0, d0, ds0, p0, q0, hargs, rfl, rfl, h0, r0⟩ := trodAll_cons hA
  obtain ⟨v1, vs1, d1, ds1, p1, q1, rfl, rfl, rfl, h1, r1⟩ := trodAll_cons r0
  obtain ⟨v2, vs2, d2, ds2, p2, q2, rfl, rfl, rfl, h2, r2⟩ := trodAll_cons r1
  obtain ⟨rfl, rfl, rfl⟩ := trodAll_nil r2
  obtain rfl : args = #[v0, v1, v2] := by cases args; simp_all
  obtain ⟨rfl, rfl⟩ := trodVars_none hV
  obtain ⟨a0, len0, cap0, rfl⟩ := okWide_slice Try.underlying52 (hval 0 52 v0 rfl rfl)
  have k0 := h0
  have lt0 : ∀ x ∈ p0, x.block < W.heap.size := by obtain ⟨m, hm⟩ := k0; exact DataW.trod_lt m _ _ _ hm
  obtain ⟨z0, o0, l0, w0⟩ := als_arg (n := 8) (k := 8) (k2 := 8) (by kernel_rfl) Try.underlying52 (by kernel_rfl) Try.underlying5 Try.underlying54 Try.underlying23 (by kernel_rfl) Try.underlying5 h0
  obtain ⟨a1, rfl, rfl, rfl, w1⟩ := open_int Try.underlying54 (hval 1 54 v1 rfl rfl) h1
  have c1 : 0 ≤ a1 ∧ a1 ≤ 18446744073709551615 := by
    have m1 : IntKind.u64.min = 0 := rfl
    have m2 : IntKind.u64.max = 18446744073709551615 := rfl
    have w1 := w1
    simp [Lit.wf, m1, m2] at w1
    omega
  obtain ⟨n1, rfl⟩ := Int.eq_ofNat_of_zero_le c1.1
  obtain ⟨a2, rfl, rfl, rfl⟩ := open_bool Try.underlying4 (hval 2 4 v2 rfl rfl) h2
  clear hA0 hval0 hsz0
  have walk : Calls Try.prog 14 #[.slice a0 len0 cap0, .int .u64 (n1 : Nat), .bool a2] W (fun e W' => e = .returned (.bool true) ∧ Below W.heap.size W W') := by
    refine lineRipes_ok (l := z0) (now := n1) (small := a2) o0 l0 (atFirst W) W _ _ (atFirst_rel W) rfl (fun j x b hx hb => ?_) (fun v av σ' G' w' hq hE hS hv => ?_)
    · match j with
      | 0 => simp at hx hb; subst hx; subst hb; exact w0
      | 1 => simp at hx hb; subst hx; subst hb; exact .v rfl
      | 2 => simp at hx hb; subst hx; subst hb; exact .v rfl
      | j + 3 => simp at hx
    · obtain ⟨rfl, _⟩ := hq
      rw [hv.v_eq]
      exact ⟨rfl, ext_below hE⟩
  refine walk.mono fun e W' ⟨he, bel⟩ => ?_
  subst he
  exact ⟨_, rfl, _, _, _, [], _, [], hW', trodAll_mk1 (shut_bool Try.underlying4 _), (trodAll_cons_mk (Below.trod laidOut (by kernel_rfl) (of_decide_eq_true (by kernel_rfl)) k0 bel lt0) (trodAll_cons_mk (shut_int Try.underlying54 w1) (trodAll_cons_mk (shut_bool Try.underlying4 _) trodAll_mk0))), rfl, bel.frame _, fun h => by cases h⟩

theorem over : Rows.lineRipesRow.holds Try.pinned (OpenSpec.ofChange Rows.lineRipesSpec) :=
  OpenClaim.holds_of_wide 14 Try.f14 rfl rfl rfl rfl rfl rfl rfl ⟨rfl, rfl, rfl, rfl, rfl⟩ rfl rfl rfl rfl rfl (by kernel_rfl) Try.func14 (by kernel_rfl)
    (of_decide_eq_true (by kernel_rfl)) (by unfold Func.isWrapper; first | (rw [if_pos (by decide +kernel)]; kernel_rfl) | (rw [if_neg (by decide +kernel)]; exact ⟨rfl, rfl⟩))
    (fun os started H enc _ => lifted os started H enc)

theorem proved : Rows.LineRipesSaid := over

end Go.Proofs.Ytlkajgjaidedkaa.lineRipes

namespace Go.Proofs.Ytlkajgjaidedkaa
theorem lineRipes_holds : Rows.LineRipesSaid := lineRipes.proved
#print axioms lineRipes_holds
end Go.Proofs.Ytlkajgjaidedkaa
