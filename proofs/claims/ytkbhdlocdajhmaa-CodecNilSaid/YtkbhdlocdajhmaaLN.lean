/-
  CodecNil returns true at every input, and the input reads as it did. No condition.
-/
import Derived.Test.YtkbhdlocdajhmaaRows
import Derived.Test.YtkbhdlocdajhmaaN3
import Derived.WalkKit
import Derived.ProofKit
import Derived.OpenShut
import Derived.ShutString
import Derived.ChangeOld
import Derived.Below
import Derived.SizedLaws
namespace Go.Proofs.Ytkbhdlocdajhmaa.codecNil
set_option linter.unnecessarySimpa false
open Go Go.Vm Go.ChangeShapes Go.WideShapes Go.ChangeAt Go.RowKit
set_option linter.unusedVariables false

theorem own : ownKnob Try.prog.godebug = none := by kernel_rfl
theorem laidOut : laidOutB Try.prog = true := by kernel_rfl

theorem join4 {a b c d : Nat} (ha : a < 2 ^ 64) (hb : b < 2 ^ 64) (hc : c < 2 ^ 64) (hd : d < 2 ^ 64) : ∃ x, x < 2 ^ 256 ∧ limb x 0 = a ∧ limb x 1 = b ∧ limb x 2 = c ∧ limb x 3 = d := by
  refine ⟨a + 2 ^ 64 * (b + 2 ^ 64 * (c + 2 ^ 64 * d)), ?_, ?_, ?_, ?_, ?_⟩ <;> (try simp only [limb, Nat.reduceMul, Nat.reducePow]) <;> omega

theorem u64_of {P : Program} {u : TypeId} {a : AV} (hu : P.underlying u = some (.int .u64)) (w : WC P u a) : ∃ n : Nat, n < 2 ^ 64 ∧ a = .v (.int .u64 n) := by
  cases w with
  | bool h => rw [hu] at h; cases h
  | string h _ => rw [hu] at h; cases h
  | slice h _ _ _ _ => rw [hu] at h; cases h
  | int h hw =>
    rename_i k n
    rw [hu] at h
    cases h
    have m1 : IntKind.u64.min = 0 := rfl
    have m2 : IntKind.u64.max = 18446744073709551615 := rfl
    simp [Lit.wf, m1, m2] at hw
    exact ⟨n.toNat, by omega, by congr 2; omega⟩

theorem num_arg {n : Nat} {P : Program} {t u : TypeId} {H : Type} {enc : TypeId × Value → H} {W : World} {spare : Nat → Bool} {v : Value} {d : DataW H} {ps : List MemPlace} (hl : leaves P n t = some [u, u, u, u]) (hu : P.underlying u = some (.int .u64))
    (h : DataW.Trod enc P W 0 spare true t v d ps) : ∃ x : Nat, x < 2 ^ 256 ∧ AVR (atFirst W) W v (.agg (numA x)) := by
  obtain ⟨l, h1, h2, h3, h4⟩ := open_arg hl h
  obtain ⟨a, b, c, e, rfl⟩ : ∃ a b c e, l = [a, b, c, e] := by
    match l, h1 with
    | [a, b, c, e], _ => exact ⟨a, b, c, e, rfl⟩
  obtain ⟨na, ha, rfl⟩ := u64_of hu (h4 0 a u rfl rfl)
  obtain ⟨nb, hb, rfl⟩ := u64_of hu (h4 1 b u rfl rfl)
  obtain ⟨nc, hc, rfl⟩ := u64_of hu (h4 2 c u rfl rfl)
  obtain ⟨ne, he, rfl⟩ := u64_of hu (h4 3 e u rfl rfl)
  obtain ⟨x, hx, x0, x1, x2, x3⟩ := join4 ha hb hc he
  refine ⟨x, hx, ?_⟩
  have hn : numA x = [.v (.int .u64 na), .v (.int .u64 nb), .v (.int .u64 nc), .v (.int .u64 ne)] := by simp [numA, x0, x1, x2, x3]
  rw [hn]
  cases v with
  | agg cs => exact .agg h2 h3
  | _ => simp [Value.cells] at h2

set_option maxRecDepth 100000 in
theorem lifted (os : Os) (started : os.Started) (H : Type) (enc : TypeId × Value → H) :
    ReturnsInHanded {} Try.checked os 9 .any (Rows.codecNilSpec.pre6 enc Try.prog Try.f9 Rows.codecNilRow.domain false) (Rows.codecNilSpec.post enc Try.prog Try.f9 false true false false) := by
  refine returnsInHanded_of_change_sized (C := Try.checked) own started (by kernel_rfl) Try.func9
    (ChangeSpec.witness6 (enc := enc) (C := Try.checked) false ⟨#[], #[.agg #[.int .u64 0, .int .u64 0, .int .u64 0, .int .u64 0], .int .u8 0], []⟩ 8 (by kernel_rfl) (by kernel_rfl) (by kernel_rfl) (by kernel_rfl)) ?_
  intro W base args ds gs before hval0 hW hcnd hsz0 _
  have hval : ∀ (j : Nat) t v, Try.f9.params[j]? = some t → args[j]? = some v → Value.okWide Try.prog W .any base t v := hval0
  have hW' := hW
  obtain ⟨p, q, hA0, hV, rfl, hfz, hnd⟩ := hW
  have hA : DataW.TrodAll enc Try.prog W 0 (fun _ => true) true Try.f9.params.toList args.toList ds p := hA0
  rw [Try.params9] at hA hval
  obtain ⟨v0, vs0, d0, ds0, p0, q0, hargs, rfl, rfl, h0, r0⟩ := trodAll_cons hA
  obtain ⟨v1, vs1, d1, ds1, p1, q1, rfl, rfl, rfl, h1, r1⟩ := trodAll_cons r0
  obtain ⟨rfl, rfl, rfl⟩ := trodAll_nil r1
  obtain rfl : args = #[v0, v1] := by cases args; simp_all
  obtain ⟨rfl, rfl⟩ := trodVars_none hV
  have k0 := h0
  have lt0 : ∀ x ∈ p0, x.block < W.heap.size := by obtain ⟨m, hm⟩ := k0; exact DataW.trod_lt m _ _ _ hm
  obtain ⟨z0, hz0, w0⟩ := num_arg (n := 3) (u := 48) (by kernel_rfl) Try.underlying48 h0
  obtain ⟨a1, rfl, rfl, rfl, w1⟩ := open_int Try.underlying5 (hval 1 5 v1 rfl rfl) h1
  clear hA0 hval0 hsz0
  have walk : Calls Try.prog 9 #[v0, .int .u8 a1] W (fun e W' => e = .returned (.bool true) ∧ Below W.heap.size W W') := by
    refine codecNil_ok (x := z0) (b := a1) hz0 (atFirst W) W _ _ (atFirst_rel W) rfl (fun j x b hx hb => ?_) (fun v av σ' G' w' hq hE hS hv => ?_)
    · match j with
      | 0 => simp at hx hb; subst hx; subst hb; exact w0
      | 1 => simp at hx hb; subst hx; subst hb; exact .v rfl
      | j + 2 => simp at hx
    · subst hq
      rw [hv.v_eq]
      exact ⟨rfl, ext_below hE⟩
  refine walk.mono fun e W' ⟨he, bel⟩ => ?_
  subst he
  exact ⟨_, rfl, _, _, _, [], _, [], hW', trodAll_mk1 (shut_bool Try.underlying4 _), (trodAll_cons_mk (Below.trod laidOut (by kernel_rfl) (of_decide_eq_true (by kernel_rfl)) k0 bel lt0) (trodAll_cons_mk (shut_int Try.underlying5 w1) trodAll_mk0)), rfl, bel.frame _, fun h => by cases h⟩

theorem over : Rows.codecNilRow.holds Try.pinned (OpenSpec.ofChange Rows.codecNilSpec) :=
  OpenClaim.holds_of_wide 9 Try.f9 rfl rfl rfl rfl rfl rfl rfl ⟨rfl, rfl, rfl, rfl, rfl⟩ rfl rfl rfl rfl rfl (by kernel_rfl) Try.func9 (by kernel_rfl)
    (of_decide_eq_true (by kernel_rfl)) (by unfold Func.isWrapper; first | (rw [if_pos (by decide +kernel)]; kernel_rfl) | (rw [if_neg (by decide +kernel)]; exact ⟨rfl, rfl⟩))
    (fun os started H enc _ => lifted os started H enc)

theorem proved : Rows.CodecNilSaid := over

end Go.Proofs.Ytkbhdlocdajhmaa.codecNil

namespace Go.Proofs.Ytkbhdlocdajhmaa
theorem codecNil_holds : Rows.CodecNilSaid := codecNil.proved
#print axioms codecNil_holds
end Go.Proofs.Ytkbhdlocdajhmaa
