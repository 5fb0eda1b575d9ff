import Derived.Test.YtjpnjhlfieklfaaGreatRows
import Derived.Test.YtjpnjhlfieklfaaGreatZ19
import Derived.Test.YtjpnjhlfieklfaaGreatZ18
import Derived.WalkKit
import Derived.ProofKit
import Derived.OpenShut
import Derived.ShutString
import Derived.ChangeOld
import Derived.Below
import Derived.SizedLaws
/-
  PersonSpends returns true at every input, and the input reads as9 it did. No condition.
-/
set_option linter.unnecessarySimpa false
set_option maxRecDepth 100000
set_option linter.unusedVariables false
namespace Go.Proofs.YtjpnjhlfieklfaaGreat.personSpends
open Go Go.Vm Go.ChangeShapes Go.WideShapes Go.ChangeAt Go.RowKit
theorem own : ownKnob Tryz.prog.godebug = none := by kernel_rfl
theorem laidOut : laidOutB Tryz.prog = true := by kernel_rfl
set_option maxRecDepth 100000 in
theorem lifted (os : Os) (started : os.Started) (H : Type) (enc : TypeId × Value → H) :
  ReturnsInHanded {} Tryz.checked os 4 .any (Rows.personSpendsSpec.pre6 enc Tryz.prog Tryz.f4 Rows.personSpendsRow.domain false) (Rows.personSpendsSpec.post enc Tryz.prog Tryz.f4 false true false false) := by
 refine returnsInHanded_of_change_sized (C := Tryz.checked) own started (by kernel_rfl) Tryz.func4
  (ChangeSpec.witness6 (enc := enc) (C := Tryz.checked) false ⟨#[], #[.agg #[.int .u8 0, .int .u64 0, .int .u8 0, .int .u8 0, .int .u64 0, .int .u64 0, .slice none 0 0, .slice none 0 0, .int .u8 0, .int .u64 0, .int .u64 0, .int .u64 0, .int .u64 0, .int .u64 0, .int .u64 0, .int .u64 0, .int .u64 0], .slice none 0 0, .int .u64 0], []⟩ 8 (by kernel_rfl) (by kernel_rfl) (by kernel_rfl) (by kernel_rfl)) ?_
 intro W base args ds gs before hval0 hW hcnd hsz0 _
 have hval : ∀ (j : Nat) t v, Tryz.f4.params[j]? = some t → args[j]? = some v → Value.okWide Tryz.prog W .any base t v := hval0
 have hW' := hW
 obtain ⟨p, q, hA0, hV, rfl, hfz, hnd⟩ := hW
 have hA : DataW.TrodAll enc Tryz.prog W 0 (fun _ => true) true Tryz.f4.params.toList args.toList ds p := hA0
 rw [Tryz.params4] at hA hval
 obtain ⟨v0, vs0, d0, ds0, p0, q0, hargs, rfl, rfl, h0, r0⟩ := trodAll_cons hA
 obtain ⟨v1, vs1, d1, ds1, p1, q1, rfl, rfl, rfl, h1, r1⟩ := trodAll_cons r0
 obtain ⟨v2, vs2, d2, ds2, p2, q2, rfl, rfl, rfl, h2, r2⟩ := trodAll_cons r1
 obtain ⟨rfl, rfl, rfl⟩ := trodAll_nil r2
 obtain rfl : args = #[v0, v1, v2] := by cases args; simp_all
 obtain ⟨rfl, rfl⟩ := trodVars_none hV
 obtain ⟨cs0, rfl, _⟩ := okWide_struct Tryz.underlying32 (hval 0 32 v0 rfl rfl)
 have k0 := h0
 have lt0 : ∀ x ∈ p0, x.block < W.heap.size := by obtain ⟨m, hm⟩ := k0; exact DataW.trod_lt m _ _ _ hm
 obtain ⟨z0, o0, w0⟩ := Kv (n := 8) (u := 22) (b := 5) (c := 23) (ec := 38) (tp := 24) (ep := 75) (k2 := 8) (k3 := 8) (by kernel_rfl) Tryz.underlying22 Tryz.underlying5 Tryz.underlying23 (by kernel_rfl) Tryz.underlying24 (by kernel_rfl) h0
 obtain ⟨a1, len1, cap1, rfl⟩ := okWide_slice Tryz.underlying23 (hval 1 23 v1 rfl rfl)
 have k1 := h1
 have lt1 : ∀ x ∈ p1, x.block < W.heap.size := by obtain ⟨m, hm⟩ := k1; exact DataW.trod_lt m _ _ _ hm
 obtain ⟨z1, o1, w1⟩ := Jb (n := 8) (k2 := 8) (by kernel_rfl) Tryz.underlying23 Tryz.underlying22 Tryz.underlying5 (by kernel_rfl) h1
 obtain ⟨a2, rfl, rfl, rfl, w2⟩ := open_int Tryz.underlying22 (hval 2 22 v2 rfl rfl) h2
 have c2 : 0 ≤ a2 ∧ a2 ≤ 18446744073709551615 := by
  have m1 : IntKind.u64.min = 0 := rfl
  have m2 : IntKind.u64.max = 18446744073709551615 := rfl
  have w2 := w2
  simp [Lit.wf, m1, m2] at w2
  omega
 obtain ⟨n2, rfl⟩ := Int.eq_ofNat_of_zero_le c2.1
 clear hA0 hval0 hsz0
 have walk : Calls Tryz.prog 4 #[.agg cs0, .slice a1 len1 cap1, .int .u64 (n2 : Nat)] W (fun e W' => e = .returned (.bool true) ∧ Below W.heap.size W W') := by
  refine (wW (v := z0) (l := z1) (t := n2) o0 o1 (by omega)) (kB W) W _ _ (CS W) rfl (fun j x b hx hb => ?_) (fun v av σ' G' w' hq hE hS hv => ?_)
  · match j with
    | 0 => simp at hx hb; subst hx; subst hb; exact w0
    | 1 => simp at hx hb; subst hx; subst hb; exact w1
    | 2 => simp at hx hb; subst hx; subst hb; exact .v rfl
    | j + 3 => simp at hx
  · obtain ⟨rfl, _⟩ := hq
    rw [hv.mH]
    exact ⟨rfl, FM hE⟩
 refine walk.mono fun e W' ⟨he, bel⟩ => ?_
 subst he
 exact ⟨_, rfl, _, _, _, [], _, [], hW', trodAll_mk1 (shut_bool Tryz.underlying4 _), (trodAll_cons_mk (Below.trod laidOut (by kernel_rfl) (of_decide_eq_true (by kernel_rfl)) k0 bel lt0) (trodAll_cons_mk (Below.trod laidOut (by kernel_rfl) (of_decide_eq_true (by kernel_rfl)) k1 bel lt1) (trodAll_cons_mk (shut_int Tryz.underlying22 w2) trodAll_mk0))), rfl, bel.frame _, fun h => by cases h⟩
theorem Nu : Rows.personSpendsRow.holds Tryz.pinned (OpenSpec.ofChange Rows.personSpendsSpec) :=
 OpenClaim.holds_of_wide 4 Tryz.f4 rfl rfl rfl rfl rfl rfl rfl ⟨rfl, rfl, rfl, rfl, rfl⟩ rfl rfl rfl rfl rfl (by kernel_rfl) Tryz.func4 (by kernel_rfl)
  (of_decide_eq_true (by kernel_rfl)) (by unfold Func.isWrapper; first | (rw [if_pos (by decide +kernel)]; kernel_rfl) | (rw [if_neg (by decide +kernel)]; exact ⟨rfl, rfl⟩))
  (fun os started H enc _ => lifted os started H enc)
theorem proved : Rows.PersonSpendsSaid := Nu
end Go.Proofs.YtjpnjhlfieklfaaGreat.personSpends
namespace Go.Proofs.YtjpnjhlfieklfaaGreat
theorem personSpends_holds : Rows.PersonSpendsSaid := personSpends.proved
#print axioms personSpends_holds
end Go.Proofs.YtjpnjhlfieklfaaGreat
