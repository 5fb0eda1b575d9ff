import Derived.Test.YtdbaddholggkbaaRows
import Derived.Test.YtdbaddholggkbaaZ15
import Derived.WalkKit
import Derived.ProofKit
import Derived.OpenShut
import Derived.ShutString
import Derived.ChangeOld
import Derived.Below
import Derived.SizedLaws
/-
  PlanBytes returns true at every input, and the input reads as it did. No condition.
-/
namespace Go.Proofs.Ytdbaddholggkbaa.planBytes
set_option linter.unnecessarySimpa false
set_option maxRecDepth 100000
open Go Go.Vm Go.ChangeShapes Go.WideShapes Go.ChangeAt Go.RowKit
set_option linter.unusedVariables false

theorem own : ownKnob Try.prog.godebug = none := by kernel_rfl
theorem laidOut : laidOutB Try.prog = true := by kernel_rfl

set_option maxRecDepth 100000 in
theorem lifted (os : Os) (started : os.Started) (H : Type) (enc : TypeId × Value → H) :
    ReturnsInHanded {} Try.checked os 10 .any (Rows.planBytesSpec.pre6 enc Try.prog Try.f10 Rows.planBytesRow.domain false) (Rows.planBytesSpec.post enc Try.prog Try.f10 false true false false) := by
  refine returnsInHanded_of_change_sized (C := Try.checked) own started (by kernel_rfl) Try.func10
    (ChangeSpec.witness6 (enc := enc) (C := Try.checked) false ⟨#[], #[.agg #[.int .u8 0, .int .u32 0, .int .u16 0, .slice none 0 0, .slice none 0 0], .int .u64 0], []⟩ 8 (by kernel_rfl) (by kernel_rfl) (by kernel_rfl) (by kernel_rfl)) ?_
  intro W base args ds gs before hval0 hW hcnd hsz0 _
  have hval : ∀ (j : Nat) t v, Try.f10.params[j]? = some t → args[j]? = some v → Value.okWide Try.prog W .any base t v := hval0
  have hW' := hW
  obtain ⟨p, q, hA0, hV, rfl, hfz, hnd⟩ := hW
  have hA : DataW.TrodAll enc Try.prog W 0 (fun _ => true) true Try.f10.params.toList args.toList ds p := hA0
  rw [Try.params10] at hA hval
  obtain ⟨v0, vs0, d0, ds0, p0, q0, hargs, rfl, rfl, h0, r0⟩ := trodAll_cons hA
  obtain ⟨v1, vs1, d1, ds1, p1, q1, rfl, rfl, rfl, h1, r1⟩ := trodAll_cons r0
  obtain ⟨rfl, rfl, rfl⟩ := trodAll_nil r1
  obtain rfl : args = #[v0, v1] := by cases args; simp_all
  obtain ⟨rfl, rfl⟩ := trodVars_none hV
  obtain ⟨cs0, rfl, _⟩ := okWide_struct Try.underlying33 (hval 0 33 v0 rfl rfl)
  have k0 := h0
  have lt0 : ∀ x ∈ p0, x.block < W.heap.size := by obtain ⟨m, hm⟩ := k0; exact DataW.trod_lt m _ _ _ hm
  obtain ⟨z0, o0, l0, w0⟩ := mad_arg (n := 8) (k := 8) (k2 := 8) (tk := 5) (u32 := 29) (u16 := 30) (tc := 23) (tp := 31) (e := 90) (ec := 86) (tb := 5) (un := 22) (by kernel_rfl) Try.underlying5 Try.underlying29 Try.underlying30 Try.underlying5 Try.underlying22 Try.underlying23 (by kernel_rfl) Try.underlying31 (by kernel_rfl) h0
  obtain ⟨a1, rfl, rfl, rfl, w1⟩ := open_int Try.underlying22 (hval 1 22 v1 rfl rfl) h1
  have c1 : 0 ≤ a1 ∧ a1 ≤ 18446744073709551615 := by
    have m1 : IntKind.u64.min = 0 := rfl
    have m2 : IntKind.u64.max = 18446744073709551615 := rfl
    have w1 := w1
    simp [Lit.wf, m1, m2] at w1
    omega
  obtain ⟨n1, rfl⟩ := Int.eq_ofNat_of_zero_le c1.1
  clear hA0 hval0 hsz0
  have walk : Calls Try.prog 10 #[.agg cs0, .int .u64 (n1 : Nat)] W (fun e W' => e = .returned (.bool true) ∧ Below W.heap.size W W') := by
    refine planBytes_ok o0 l0 (n := n1) (by omega) (atFirst W) W _ _ (atFirst_rel W) rfl (fun j x b hx hb => ?_) (fun v av σ' G' w' hq hE hS hv => ?_)
    · match j with
      | 0 => simp at hx hb; subst hx; subst hb; exact w0
      | 1 => simp at hx hb; subst hx; subst hb; exact .v rfl
      | j + 2 => simp at hx
    · obtain ⟨rfl, _⟩ := hq
      rw [hv.v_eq]
      exact ⟨rfl, ext_below hE⟩
  refine walk.mono fun e W' ⟨he, bel⟩ => ?_
  subst he
  exact ⟨_, rfl, _, _, _, [], _, [], hW', trodAll_mk1 (shut_bool Try.underlying4 _), (trodAll_cons_mk (Below.trod laidOut (by kernel_rfl) (of_decide_eq_true (by kernel_rfl)) k0 bel lt0) (trodAll_cons_mk (shut_int Try.underlying22 w1) trodAll_mk0)), rfl, bel.frame _, fun h => by cases h⟩

theorem over : Rows.planBytesRow.holds Try.pinned (OpenSpec.ofChange Rows.planBytesSpec) :=
  OpenClaim.holds_of_wide 10 Try.f10 rfl rfl rfl rfl rfl rfl rfl ⟨rfl, rfl, rfl, rfl, rfl⟩ rfl rfl rfl rfl rfl (by kernel_rfl) Try.func10 (by kernel_rfl)
    (of_decide_eq_true (by kernel_rfl)) (by unfold Func.isWrapper; first | (rw [if_pos (by decide +kernel)]; kernel_rfl) | (rw [if_neg (by decide +kernel)]; exact ⟨rfl, rfl⟩))
    (fun os started H enc _ => lifted os started H enc)

theorem proved : Rows.PlanBytesSaid := over

end Go.Proofs.Ytdbaddholggkbaa.planBytes

namespace Go.Proofs.Ytdbaddholggkbaa
theorem planBytes_holds : Rows.PlanBytesSaid := planBytes.proved
#print axioms planBytes_holds
end Go.Proofs.Ytdbaddholggkbaa
