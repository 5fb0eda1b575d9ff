import Derived.Test.YtlkajgjaidedkaaProg
import Derived.Test.YtlkajgjaidedkaaZ4
import Derived.KernelRfl
/-
  What each type of the translation is, told once.
-/
namespace Go.Proofs.Ytlkajgjaidedkaa
open Go Go.Vm

@[simp] theorem ti_3 : ti Try.prog 3 = some ⟨false, 1, 8, .int .i64 0⟩ := by kernel_rfl
@[simp] theorem intT_3 : intT Try.prog 3 = some .i64 := by kernel_rfl
@[simp] theorem ti_4 : ti Try.prog 4 = some ⟨false, 1, 1, .bool false⟩ := by kernel_rfl
@[simp] theorem eqB_4 (xo yo : Operand) (a b : Bool) : binA Try.prog .eql 4 xo yo (.v (.bool a)) (.v (.bool b)) = some (.v (.bool (a == b))) := by cases a <;> cases b <;> kernel_rfl
@[simp] theorem ti_5 : ti Try.prog 5 = some ⟨false, 1, 1, .int .u8 0⟩ := by kernel_rfl
@[simp] theorem isU8_5 : isU8 Try.prog 5 = true := by kernel_rfl
@[simp] theorem isStrT_9 : isStrT Try.prog 9 = true := by kernel_rfl
@[simp] theorem elemT_22 : elemT Try.prog 22 = some 35 := by kernel_rfl
@[simp] theorem ti_23 : ti Try.prog 23 = some ⟨false, 1, 24, .slice none 0 0⟩ := by kernel_rfl
@[simp] theorem elemT_23 : elemT Try.prog 23 = some 5 := by kernel_rfl
@[simp] theorem ti_26 : ti Try.prog 26 = some ⟨false, 1, 8, .pointer none⟩ := by kernel_rfl
@[simp] theorem isPtrT_26 : isPtrT Try.prog 26 = true := by kernel_rfl
@[simp] theorem ti_29 : ti Try.prog 29 = some ⟨false, 1, 24, .slice none 0 0⟩ := by kernel_rfl
@[simp] theorem elemT_29 : elemT Try.prog 29 = some 132 := by kernel_rfl
@[simp] theorem ti_30 : ti Try.prog 30 = some ⟨false, 1, 24, .slice none 0 0⟩ := by kernel_rfl
@[simp] theorem elemT_30 : elemT Try.prog 30 = some 29 := by kernel_rfl
@[simp] theorem ti_32 : ti Try.prog 32 = some ⟨true, 2, 48, .agg #[.slice none 0 0, .slice none 0 0]⟩ := by kernel_rfl
@[simp] theorem fieldT_32_0 : fieldT Try.prog 32 0 = some (0, 29) := by kernel_rfl
@[simp] theorem fieldT_32_1 : fieldT Try.prog 32 1 = some (1, 30) := by kernel_rfl
@[simp] theorem placesA_32 : placesA Try.prog 32 = some [(0, 1), (1, 1)] := by kernel_rfl
@[simp] theorem ti_35 : ti Try.prog 35 = some ⟨true, 3, 56, .agg #[.int .u8 0, .slice none 0 0, .slice none 0 0]⟩ := by kernel_rfl
@[simp] theorem fieldT_35_0 : fieldT Try.prog 35 0 = some (0, 5) := by kernel_rfl
@[simp] theorem fieldT_35_1 : fieldT Try.prog 35 1 = some (1, 23) := by kernel_rfl
@[simp] theorem fieldT_35_2 : fieldT Try.prog 35 2 = some (2, 23) := by kernel_rfl
@[simp] theorem elemT_41 : elemT Try.prog 41 = some 23 := by kernel_rfl
@[simp] theorem ti_119 : ti Try.prog 119 = some ⟨false, 1, 24, .slice none 0 0⟩ := by kernel_rfl
@[simp] theorem elemT_119 : elemT Try.prog 119 = some 130 := by kernel_rfl
@[simp] theorem ti_120 : ti Try.prog 120 = some ⟨false, 1, 24, .slice none 0 0⟩ := by kernel_rfl
@[simp] theorem elemT_120 : elemT Try.prog 120 = some 137 := by kernel_rfl
@[simp] theorem ti_121 : ti Try.prog 121 = some ⟨false, 1, 24, .slice none 0 0⟩ := by kernel_rfl
@[simp] theorem elemT_121 : elemT Try.prog 121 = some 3 := by kernel_rfl
@[simp] theorem ti_123 : ti Try.prog 123 = some ⟨true, 3, 72, .agg #[.slice none 0 0, .slice none 0 0, .slice none 0 0]⟩ := by kernel_rfl
@[simp] theorem fieldT_123_0 : fieldT Try.prog 123 0 = some (0, 119) := by kernel_rfl
@[simp] theorem fieldT_123_1 : fieldT Try.prog 123 1 = some (1, 120) := by kernel_rfl
@[simp] theorem fieldT_123_2 : fieldT Try.prog 123 2 = some (2, 121) := by kernel_rfl
@[simp] theorem placesA_123 : placesA Try.prog 123 = some [(0, 1), (1, 1), (2, 1)] := by kernel_rfl
@[simp] theorem ti_130 : ti Try.prog 130 = some ⟨true, 2, 48, .agg #[.slice none 0 0, .slice none 0 0]⟩ := by kernel_rfl
@[simp] theorem fieldT_130_0 : fieldT Try.prog 130 0 = some (0, 23) := by kernel_rfl
@[simp] theorem fieldT_130_1 : fieldT Try.prog 130 1 = some (1, 23) := by kernel_rfl
@[simp] theorem placesA_130 : placesA Try.prog 130 = some [(0, 1), (1, 1)] := by kernel_rfl
@[simp] theorem ti_132 : ti Try.prog 132 = some ⟨true, 2, 48, .agg #[.slice none 0 0, .slice none 0 0]⟩ := by kernel_rfl
@[simp] theorem fieldT_132_0 : fieldT Try.prog 132 0 = some (0, 23) := by kernel_rfl
@[simp] theorem fieldT_132_1 : fieldT Try.prog 132 1 = some (1, 23) := by kernel_rfl
@[simp] theorem placesA_132 : placesA Try.prog 132 = some [(0, 1), (1, 1)] := by kernel_rfl
@[simp] theorem ti_137 : ti Try.prog 137 = some ⟨true, 3, 56, .agg #[.slice none 0 0, .slice none 0 0, .bool false]⟩ := by kernel_rfl
@[simp] theorem fieldT_137_0 : fieldT Try.prog 137 0 = some (0, 130) := by kernel_rfl
@[simp] theorem fieldT_137_1 : fieldT Try.prog 137 1 = some (2, 4) := by kernel_rfl
@[simp] theorem placesA_137 : placesA Try.prog 137 = some [(0, 2), (2, 1)] := by kernel_rfl
@[simp] theorem intT_180 : intT Try.prog 180 = some .u64 := by kernel_rfl
@[simp] theorem callable_108 : callable Try.prog 108 = true := by kernel_rfl
end Go.Proofs.Ytlkajgjaidedkaa
