import Derived.Test.YtjpnjhlfieklfaaGreatRows
import Derived.Test.YtjpnjhlfieklfaaGreatZ21
import Derived.Test.YtjpnjhlfieklfaaGreatZ18
import Derived.WalkKit
import Derived.ProofKit
import Derived.OpenShut
import Derived.ShutString
import Derived.ChangeOld
import Derived.Below
import Derived.SizedLaws
/-
  PersonThere returns true at every input, and the input reads as9 it did. No condition.
-/
namespace Go.Proofs.YtjpnjhlfieklfaaGreat.personThere
set_option linter.unnecessarySimpa false
set_option maxRecDepth 100000
open Go Go.Vm Go.ChangeShapes Go.WideShapes Go.ChangeAt Go.RowKit
set_option linter.unusedVariables false

theorem own : ownKnob Tryz.prog.godebug = none := by kernel_rfl

theorem laidOut : laidOutB Tryz.prog = true := by kernel_rfl

set_option maxRecDepth 100000 in
theorem lifted (os : Os) (started : os.Started) (H : Type) (enc : TypeId × Value → H) :
  ReturnsInHanded {} Tryz.checked os 6 .any (Rows.personThereSpec.pre6 enc Tryz.prog Tryz.f6 Rows.personThereRow.domain false) (Rows.personThereSpec.post enc Tryz.prog Tryz.f6 false true false false) := by
 refine returnsInHanded_of_change_sized (C := Tryz.checked) own started (by kernel_rfl) Tryz.func6
  (ChangeSpec.witness6 (enc := enc) (C := Tryz.checked) false ⟨#[], #[.agg #[.int .u8 0, .int .u64 0, .int .u8 0, .int .u8 0, .int .u64 0, .int .u64 0, .slice none 0 0, .slice none 0 0, .int .u8 0, .int .u64 0, .int .u64 0, .int .u64 0, .int .u64 0, .int .u64 0, .int .u64 0, .int .u64 0, .int .u64 0]], []⟩ 8 (by kernel_rfl) (by kernel_rfl) (by kernel_rfl) (by kernel_rfl)) ?_
 intro W base args ds gs before hval0 hW hcnd hsz0 _
 have hval : ∀ (j : Nat) t v, Tryz.f6.params[j]? = some t → args[j]? = some v → Value.okWide Tryz.prog W .any base t v := hval0
 have hW' := hW
 obtain ⟨p, q, hA0, hV, rfl, hfz, hnd⟩ := hW
 have hA : DataW.TrodAll enc Tryz.prog W 0 (fun _ => true) true Tryz.f6.params.toList args.toList ds p := hA0
 rw [Tryz.params6] at hA hval
 obtain ⟨v0, vs0, d0, ds0, p0, q0, hargs, rfl, rfl, h0, r0⟩ := trodAll_cons hA
 obtain ⟨rfl, rfl, rfl⟩ := trodAll_nil r0
 obtain rfl : args = #[v0] := by cases args; simp_all
 obtain ⟨rfl, rfl⟩ := trodVars_none hV
 obtain ⟨cs0, rfl, _⟩ := okWide_struct Tryz.underlying32 (hval 0 32 v0 rfl rfl)
 have k0 := h0
 have lt0 : ∀ x ∈ p0, x.block < W.heap.size := by obtain ⟨m, hm⟩ := k0; exact DataW.trod_lt m _ _ _ hm
 obtain ⟨z0, o0, w0⟩ := A8 (n := 8) (u := 22) (b := 5) (c := 23) (ec := 38) (tp := 24) (ep := 75) (k2 := 8) (k3 := 8) (by kernel_rfl) Tryz.underlying22 Tryz.underlying5 Tryz.underlying23 (by kernel_rfl) Tryz.underlying24 (by kernel_rfl) h0
 clear hA0 hval0 hsz0
 have walk : Calls Tryz.prog 6 #[.agg cs0] W (fun e W' => e = .returned (.bool true) ∧ Below W.heap.size W W') := by
  refine (wZ (v := z0) o0) (iM W) W _ _ (lN W) rfl (fun j x b hx hb => ?_) (fun v av σ' G' w' hq hE hS hv => ?_)
  · match j with
    | 0 => simp at hx hb; subst hx; subst hb; exact w0
    | j + 1 => simp at hx
  · obtain ⟨rfl, _⟩ := hq
    rw [hv.kX]
    exact ⟨rfl, nW hE⟩
 refine walk.mono fun e W' ⟨he, bel⟩ => ?_
 subst he
 exact ⟨_, rfl, _, _, _, [], _, [], hW', trodAll_mk1 (shut_bool Tryz.underlying4 _), (trodAll_cons_mk (Below.trod laidOut (by kernel_rfl) (of_decide_eq_true (by kernel_rfl)) k0 bel lt0) trodAll_mk0), rfl, bel.frame _, fun h => by cases h⟩

theorem rP : Rows.personThereRow.holds Tryz.pinned (OpenSpec.ofChange Rows.personThereSpec) :=
 OpenClaim.holds_of_wide 6 Tryz.f6 rfl rfl rfl rfl rfl rfl rfl ⟨rfl, rfl, rfl, rfl, rfl⟩ rfl rfl rfl rfl rfl (by kernel_rfl) Tryz.func6 (by kernel_rfl)
  (of_decide_eq_true (by kernel_rfl)) (by unfold Func.isWrapper; first | (rw [if_pos (by decide +kernel)]; kernel_rfl) | (rw [if_neg (by decide +kernel)]; exact ⟨rfl, rfl⟩))
  (fun os started H enc _ => lifted os started H enc)

theorem proved : Rows.PersonThereSaid := rP

end Go.Proofs.YtjpnjhlfieklfaaGreat.personThere

namespace Go.Proofs.YtjpnjhlfieklfaaGreat

theorem personThere_holds : Rows.PersonThereSaid := personThere.proved
#print axioms personThere_holds
end Go.Proofs.YtjpnjhlfieklfaaGreat
