import Derived.Test.YtlkajgjaidedkaaProg
import Derived.Test.YtlkajgjaidedkaaZ4
import Derived.KernelRfl
/-
  What each type of the translation is, told once.
-/
namespace Go.Proofs.Ytlkajgjaidedkaa
open Go Go.Vm

@[simp] theorem intT_3 : intT Try.prog 3 = some .i64 := by kernel_rfl
@[simp] theorem ti_4 : ti Try.prog 4 = some ⟨false, 1, 1, .bool false⟩ := by kernel_rfl
@[simp] theorem ti_5 : ti Try.prog 5 = some ⟨false, 1, 1, .int .u8 0⟩ := by kernel_rfl
@[simp] theorem intT_5 : intT Try.prog 5 = some .u8 := by kernel_rfl
@[simp] theorem isU8_5 : isU8 Try.prog 5 = true := by kernel_rfl
@[simp] theorem isStrT_9 : isStrT Try.prog 9 = true := by kernel_rfl
@[simp] theorem ti_23 : ti Try.prog 23 = some ⟨false, 1, 24, .slice none 0 0⟩ := by kernel_rfl
@[simp] theorem elemT_23 : elemT Try.prog 23 = some 5 := by kernel_rfl
@[simp] theorem ti_26 : ti Try.prog 26 = some ⟨false, 1, 8, .pointer none⟩ := by kernel_rfl
@[simp] theorem isPtrT_26 : isPtrT Try.prog 26 = true := by kernel_rfl
@[simp] theorem elemT_41 : elemT Try.prog 41 = some 23 := by kernel_rfl
@[simp] theorem elemT_52 : elemT Try.prog 52 = some 57 := by kernel_rfl
@[simp] theorem ti_54 : ti Try.prog 54 = some ⟨false, 1, 8, .int .u64 0⟩ := by kernel_rfl
@[simp] theorem intT_54 : intT Try.prog 54 = some .u64 := by kernel_rfl
@[simp] theorem ti_57 : ti Try.prog 57 = some ⟨true, 5, 48, .agg #[.int .u8 0, .int .u8 0, .int .u64 0, .int .u64 0, .slice none 0 0]⟩ := by kernel_rfl
@[simp] theorem fieldT_57_0 : fieldT Try.prog 57 0 = some (0, 5) := by kernel_rfl
@[simp] theorem fieldT_57_1 : fieldT Try.prog 57 1 = some (1, 5) := by kernel_rfl
@[simp] theorem fieldT_57_2 : fieldT Try.prog 57 2 = some (2, 54) := by kernel_rfl
@[simp] theorem fieldT_57_3 : fieldT Try.prog 57 3 = some (3, 54) := by kernel_rfl
@[simp] theorem fieldT_57_4 : fieldT Try.prog 57 4 = some (4, 23) := by kernel_rfl
@[simp] theorem elemT_58 : elemT Try.prog 58 = some 61 := by kernel_rfl
@[simp] theorem ti_61 : ti Try.prog 61 = some ⟨true, 3, 40, .agg #[.int .u64 0, .int .u64 0, .slice none 0 0]⟩ := by kernel_rfl
@[simp] theorem fieldT_61_0 : fieldT Try.prog 61 0 = some (0, 54) := by kernel_rfl
@[simp] theorem fieldT_61_1 : fieldT Try.prog 61 1 = some (1, 54) := by kernel_rfl
@[simp] theorem fieldT_61_2 : fieldT Try.prog 61 2 = some (2, 23) := by kernel_rfl
@[simp] theorem placesA_61 : placesA Try.prog 61 = some [(0, 1), (1, 1), (2, 1)] := by kernel_rfl
@[simp] theorem ti_64 : ti Try.prog 64 = some ⟨false, 1, 24, .slice none 0 0⟩ := by kernel_rfl
@[simp] theorem elemT_64 : elemT Try.prog 64 = some 152 := by kernel_rfl
@[simp] theorem ti_66 : ti Try.prog 66 = some ⟨true, 2, 32, .agg #[.slice none 0 0, .int .u64 0]⟩ := by kernel_rfl
@[simp] theorem fieldT_66_0 : fieldT Try.prog 66 0 = some (0, 64) := by kernel_rfl
@[simp] theorem fieldT_66_1 : fieldT Try.prog 66 1 = some (1, 54) := by kernel_rfl
@[simp] theorem ti_67 : ti Try.prog 67 = some ⟨true, 6, 96, .agg #[.slice none 0 0, .int .u64 0, .slice none 0 0, .int .u64 0, .slice none 0 0, .int .u64 0]⟩ := by kernel_rfl
@[simp] theorem elemT_67 : elemT Try.prog 67 = none := by kernel_rfl
@[simp] theorem arrT_67 : arrT Try.prog 67 = some (3, 66) := by kernel_rfl
@[simp] theorem ti_119 : ti Try.prog 119 = some ⟨false, 1, 24, .slice none 0 0⟩ := by kernel_rfl
@[simp] theorem elemT_119 : elemT Try.prog 119 = some 130 := by kernel_rfl
@[simp] theorem ti_120 : ti Try.prog 120 = some ⟨false, 1, 24, .slice none 0 0⟩ := by kernel_rfl
@[simp] theorem elemT_120 : elemT Try.prog 120 = some 137 := by kernel_rfl
@[simp] theorem ti_121 : ti Try.prog 121 = some ⟨false, 1, 24, .slice none 0 0⟩ := by kernel_rfl
@[simp] theorem elemT_121 : elemT Try.prog 121 = some 3 := by kernel_rfl
@[simp] theorem ti_123 : ti Try.prog 123 = some ⟨true, 3, 72, .agg #[.slice none 0 0, .slice none 0 0, .slice none 0 0]⟩ := by kernel_rfl
@[simp] theorem fieldT_123_0 : fieldT Try.prog 123 0 = some (0, 119) := by kernel_rfl
@[simp] theorem fieldT_123_1 : fieldT Try.prog 123 1 = some (1, 120) := by kernel_rfl
@[simp] theorem fieldT_123_2 : fieldT Try.prog 123 2 = some (2, 121) := by kernel_rfl
@[simp] theorem placesA_123 : placesA Try.prog 123 = some [(0, 1), (1, 1), (2, 1)] := by kernel_rfl
@[simp] theorem ti_130 : ti Try.prog 130 = some ⟨true, 2, 48, .agg #[.slice none 0 0, .slice none 0 0]⟩ := by kernel_rfl
@[simp] theorem fieldT_130_0 : fieldT Try.prog 130 0 = some (0, 23) := by kernel_rfl
@[simp] theorem fieldT_130_1 : fieldT Try.prog 130 1 = some (1, 23) := by kernel_rfl
@[simp] theorem placesA_130 : placesA Try.prog 130 = some [(0, 1), (1, 1)] := by kernel_rfl
@[simp] theorem ti_137 : ti Try.prog 137 = some ⟨true, 3, 56, .agg #[.slice none 0 0, .slice none 0 0, .bool false]⟩ := by kernel_rfl
@[simp] theorem fieldT_137_0 : fieldT Try.prog 137 0 = some (0, 130) := by kernel_rfl
@[simp] theorem placesA_137 : placesA Try.prog 137 = some [(0, 2), (2, 1)] := by kernel_rfl
@[simp] theorem isPtrT_139 : isPtrT Try.prog 139 = true := by kernel_rfl
@[simp] theorem isPtrT_142 : isPtrT Try.prog 142 = true := by kernel_rfl
@[simp] theorem ti_144 : ti Try.prog 144 = some ⟨true, 1, 24, .agg #[.slice none 0 0]⟩ := by kernel_rfl
@[simp] theorem fieldT_144_0 : fieldT Try.prog 144 0 = some (0, 23) := by kernel_rfl
@[simp] theorem placesA_144 : placesA Try.prog 144 = some [(0, 1)] := by kernel_rfl
@[simp] theorem ti_152 : ti Try.prog 152 = some ⟨true, 3, 40, .agg #[.int .u64 0, .int .u64 0, .slice none 0 0]⟩ := by kernel_rfl
@[simp] theorem fieldT_152_0 : fieldT Try.prog 152 0 = some (0, 54) := by kernel_rfl
@[simp] theorem fieldT_152_1 : fieldT Try.prog 152 1 = some (1, 54) := by kernel_rfl
@[simp] theorem fieldT_152_2 : fieldT Try.prog 152 2 = some (2, 23) := by kernel_rfl
@[simp] theorem placesA_152 : placesA Try.prog 152 = some [(0, 1), (1, 1), (2, 1)] := by kernel_rfl
@[simp] theorem ti_172 : ti Try.prog 172 = some ⟨true, 2, 32, .agg #[.slice none 0 0, .bool false]⟩ := by kernel_rfl
@[simp] theorem fieldT_172_0 : fieldT Try.prog 172 0 = some (0, 23) := by kernel_rfl
@[simp] theorem fieldT_172_1 : fieldT Try.prog 172 1 = some (1, 4) := by kernel_rfl
@[simp] theorem placesA_172 : placesA Try.prog 172 = some [(0, 1), (1, 1)] := by kernel_rfl
@[simp] theorem intT_180 : intT Try.prog 180 = some .u64 := by kernel_rfl
@[simp] theorem callable_77 : callable Try.prog 77 = true := by kernel_rfl
@[simp] theorem callable_108 : callable Try.prog 108 = true := by kernel_rfl
@[simp] theorem callable_112 : callable Try.prog 112 = true := by kernel_rfl
@[simp] theorem callable_122 : callable Try.prog 122 = true := by kernel_rfl
@[simp] theorem callable_126 : callable Try.prog 126 = true := by kernel_rfl
@[simp] theorem callable_128 : callable Try.prog 128 = true := by kernel_rfl
@[simp] theorem callable_129 : callable Try.prog 129 = true := by kernel_rfl
end Go.Proofs.Ytlkajgjaidedkaa
