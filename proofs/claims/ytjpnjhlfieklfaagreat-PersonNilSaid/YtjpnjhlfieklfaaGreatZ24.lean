import Derived.Test.YtjpnjhlfieklfaaGreatRows
import Derived.Test.YtjpnjhlfieklfaaGreatZ19
import Derived.Test.YtjpnjhlfieklfaaGreatZ18
import Derived.WalkKit
import Derived.ProofKit
import Derived.OpenShut
import Derived.ShutString
import Derived.ChangeOld
import Derived.Below
import Derived.SizedLaws
/-
  PersonNil returns true at every input, and the input reads as9 it did. No condition.
-/
namespace Go.Proofs.YtjpnjhlfieklfaaGreat.personNil
set_option linter.unnecessarySimpa false
set_option maxRecDepth 100000
open Go Go.Vm Go.ChangeShapes Go.WideShapes Go.ChangeAt Go.RowKit
set_option linter.unusedVariables false

theorem own : ownKnob Tryz.prog.godebug = none := by kernel_rfl

theorem laidOut : laidOutB Tryz.prog = true := by kernel_rfl

set_option maxRecDepth 100000 in
theorem lifted (os : Os) (started : os.Started) (H : Type) (enc : TypeId × Value → H) :
  ReturnsInHanded {} Tryz.checked os 8 .any (Rows.personNilSpec.pre6 enc Tryz.prog Tryz.f8 Rows.personNilRow.domain false) (Rows.personNilSpec.post enc Tryz.prog Tryz.f8 false true false false) := by
 refine returnsInHanded_of_change_sized (C := Tryz.checked) own started (by kernel_rfl) Tryz.func8
  (ChangeSpec.witness6 (enc := enc) (C := Tryz.checked) false ⟨#[], #[.agg #[.int .u8 0, .int .u64 0, .int .u8 0, .int .u8 0, .int .u64 0, .int .u64 0, .slice none 0 0, .slice none 0 0, .int .u8 0, .int .u64 0, .int .u64 0, .int .u64 0, .int .u64 0, .int .u64 0, .int .u64 0, .int .u64 0, .int .u64 0], .int .u64 0], []⟩ 8 (by kernel_rfl) (by kernel_rfl) (by kernel_rfl) (by kernel_rfl)) ?_
 intro W base args ds gs before hval0 hW hcnd hsz0 _
 have hval : ∀ (j : Nat) t v, Tryz.f8.params[j]? = some t → args[j]? = some v → Value.okWide Tryz.prog W .any base t v := hval0
 have hW' := hW
 obtain ⟨p, q, hA0, hV, rfl, hfz, hnd⟩ := hW
 have hA : DataW.TrodAll enc Tryz.prog W 0 (fun _ => true) true Tryz.f8.params.toList args.toList ds p := hA0
 rw [Tryz.params8] at hA hval
 obtain ⟨v0, vs0, d0, ds0, p0, q0, hargs, rfl, rfl, h0, r0⟩ := trodAll_cons hA
 obtain ⟨v1, vs1, d1, ds1, p1, q1, rfl, rfl, rfl, h1, r1⟩ := trodAll_cons r0
 obtain ⟨rfl, rfl, rfl⟩ := trodAll_nil r1
 obtain rfl : args = #[v0, v1] := by cases args; simp_all
 obtain ⟨rfl, rfl⟩ := trodVars_none hV
 obtain ⟨cs0, rfl, _⟩ := okWide_struct Tryz.underlying32 (hval 0 32 v0 rfl rfl)
 have k0 := h0
 have lt0 : ∀ x ∈ p0, x.block < W.heap.size := by obtain ⟨m, hm⟩ := k0; exact DataW.trod_lt m _ _ _ hm
 obtain ⟨z0, o0, w0⟩ := A8 (n := 8) (u := 22) (b := 5) (c := 23) (ec := 38) (tp := 24) (ep := 75) (k2 := 8) (k3 := 8) (by kernel_rfl) Tryz.underlying22 Tryz.underlying5 Tryz.underlying23 (by kernel_rfl) Tryz.underlying24 (by kernel_rfl) h0
 obtain ⟨a1, rfl, rfl, rfl, w1⟩ := open_int Tryz.underlying22 (hval 1 22 v1 rfl rfl) h1
 have c1 : 0 ≤ a1 ∧ a1 ≤ 18446744073709551615 := by
  have m1 : IntKind.u64.min = 0 := rfl
  have m2 : IntKind.u64.max = 18446744073709551615 := rfl
  have w1 := w1
  simp [Lit.wf, m1, m2] at w1
  omega
 obtain ⟨n1, rfl⟩ := Int.eq_ofNat_of_zero_le c1.1
 clear hA0 hval0 hsz0
 have walk : Calls Tryz.prog 8 #[.agg cs0, .int .u64 (n1 : Nat)] W (fun e W' => e = .returned (.bool true) ∧ Below W.heap.size W W') := by
  refine (AT (v := z0) (t := n1) o0 (by omega)) (iM W) W _ _ (lN W) rfl (fun j x b hx hb => ?_) (fun v av σ' G' w' hq hE hS hv => ?_)
  · match j with
    | 0 => simp at hx hb; subst hx; subst hb; exact w0
    | 1 => simp at hx hb; subst hx; subst hb; exact .v rfl
    | j + 2 => simp at hx
  · obtain ⟨rfl, _⟩ := hq
    rw [hv.kX]
    exact ⟨rfl, nW hE⟩
 refine walk.mono fun e W' ⟨he, bel⟩ => ?_
 subst he
 exact ⟨_, rfl, _, _, _, [], _, [], hW', trodAll_mk1 (shut_bool Tryz.underlying4 _), (trodAll_cons_mk (Below.trod laidOut (by kernel_rfl) (of_decide_eq_true (by kernel_rfl)) k0 bel lt0) (trodAll_cons_mk (shut_int Tryz.underlying22 w1) trodAll_mk0)), rfl, bel.frame _, fun h => by cases h⟩

theorem rP : Rows.personNilRow.holds Tryz.pinned (OpenSpec.ofChange Rows.personNilSpec) :=
 OpenClaim.holds_of_wide 8 Tryz.f8 rfl rfl rfl rfl rfl rfl rfl ⟨rfl, rfl, rfl, rfl, rfl⟩ rfl rfl rfl rfl rfl (by kernel_rfl) Tryz.func8 (by kernel_rfl)
  (of_decide_eq_true (by kernel_rfl)) (by unfold Func.isWrapper; first | (rw [if_pos (by decide +kernel)]; kernel_rfl) | (rw [if_neg (by decide +kernel)]; exact ⟨rfl, rfl⟩))
  (fun os started H enc _ => lifted os started H enc)

theorem proved : Rows.PersonNilSaid := rP

end Go.Proofs.YtjpnjhlfieklfaaGreat.personNil

namespace Go.Proofs.YtjpnjhlfieklfaaGreat

theorem personNil_holds : Rows.PersonNilSaid := personNil.proved
#print axioms personNil_holds
end Go.Proofs.YtjpnjhlfieklfaaGreat
