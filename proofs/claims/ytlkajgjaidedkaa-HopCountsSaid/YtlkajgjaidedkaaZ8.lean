import Derived.Test.YtlkajgjaidedkaaProg
import Derived.Test.YtlkajgjaidedkaaZ4
import Derived.KernelRfl
/-
  What each type of the translation is, told once.
-/
namespace Go.Proofs.Ytlkajgjaidedkaa
open Go Go.Vm

@[simp] theorem intT_3 : intT Try.prog 3 = some .i64 := by kernel_rfl
@[simp] theorem ti_4 : ti Try.prog 4 = some ⟨false, 1, 1, .bool false⟩ := by kernel_rfl
@[simp] theorem ti_5 : ti Try.prog 5 = some ⟨false, 1, 1, .int .u8 0⟩ := by kernel_rfl
@[simp] theorem intT_5 : intT Try.prog 5 = some .u8 := by kernel_rfl
@[simp] theorem isU8_5 : isU8 Try.prog 5 = true := by kernel_rfl
@[simp] theorem isStrT_9 : isStrT Try.prog 9 = true := by kernel_rfl
@[simp] theorem ti_23 : ti Try.prog 23 = some ⟨false, 1, 24, .slice none 0 0⟩ := by kernel_rfl
@[simp] theorem elemT_23 : elemT Try.prog 23 = some 5 := by kernel_rfl
@[simp] theorem ti_26 : ti Try.prog 26 = some ⟨false, 1, 8, .pointer none⟩ := by kernel_rfl
@[simp] theorem isPtrT_26 : isPtrT Try.prog 26 = true := by kernel_rfl
@[simp] theorem elemT_41 : elemT Try.prog 41 = some 23 := by kernel_rfl
@[simp] theorem ti_54 : ti Try.prog 54 = some ⟨false, 1, 8, .int .u64 0⟩ := by kernel_rfl
@[simp] theorem intT_54 : intT Try.prog 54 = some .u64 := by kernel_rfl
@[simp] theorem elemT_58 : elemT Try.prog 58 = some 61 := by kernel_rfl
@[simp] theorem ti_61 : ti Try.prog 61 = some ⟨true, 3, 40, .agg #[.int .u64 0, .int .u64 0, .slice none 0 0]⟩ := by kernel_rfl
@[simp] theorem fieldT_61_0 : fieldT Try.prog 61 0 = some (0, 54) := by kernel_rfl
@[simp] theorem fieldT_61_1 : fieldT Try.prog 61 1 = some (1, 54) := by kernel_rfl
@[simp] theorem fieldT_61_2 : fieldT Try.prog 61 2 = some (2, 23) := by kernel_rfl
@[simp] theorem placesA_61 : placesA Try.prog 61 = some [(0, 1), (1, 1), (2, 1)] := by kernel_rfl
@[simp] theorem ti_79 : ti Try.prog 79 = some ⟨true, 4, 32, .agg #[.int .u64 0, .int .u64 0, .int .u64 0, .int .u64 0]⟩ := by kernel_rfl
@[simp] theorem elemT_79 : elemT Try.prog 79 = none := by kernel_rfl
@[simp] theorem arrT_79 : arrT Try.prog 79 = some (4, 54) := by kernel_rfl
@[simp] theorem placesA_79 : placesA Try.prog 79 = some [(0, 1), (1, 1), (2, 1), (3, 1)] := by kernel_rfl
@[simp] theorem ti_81 : ti Try.prog 81 = some ⟨true, 13, 96, .agg #[.int .u64 0, .int .u8 0, .int .u8 0, .int .u64 0, .int .u64 0, .int .u64 0, .int .u64 0, .int .u64 0, .int .u64 0, .int .u64 0, .int .u64 0, .int .u64 0, .int .u64 0]⟩ := by kernel_rfl
@[simp] theorem fieldT_81_0 : fieldT Try.prog 81 0 = some (0, 54) := by kernel_rfl
@[simp] theorem fieldT_81_1 : fieldT Try.prog 81 1 = some (1, 5) := by kernel_rfl
@[simp] theorem fieldT_81_2 : fieldT Try.prog 81 2 = some (2, 5) := by kernel_rfl
@[simp] theorem fieldT_81_3 : fieldT Try.prog 81 3 = some (3, 54) := by kernel_rfl
@[simp] theorem fieldT_81_4 : fieldT Try.prog 81 4 = some (4, 54) := by kernel_rfl
@[simp] theorem fieldT_81_5 : fieldT Try.prog 81 5 = some (5, 79) := by kernel_rfl
@[simp] theorem fieldT_81_6 : fieldT Try.prog 81 6 = some (9, 79) := by kernel_rfl
@[simp] theorem placesA_81 : placesA Try.prog 81 = some [(0, 1), (1, 1), (2, 1), (3, 1), (4, 1), (5, 4), (9, 4)] := by kernel_rfl
@[simp] theorem ti_83 : ti Try.prog 83 = some ⟨true, 14, 96, .agg #[.int .u64 0, .int .u8 0, .int .u8 0, .int .u8 0, .int .u64 0, .int .u64 0, .int .u64 0, .int .u64 0, .int .u64 0, .int .u64 0, .int .u64 0, .int .u64 0, .int .u64 0, .int .u64 0]⟩ := by kernel_rfl
@[simp] theorem fieldT_83_0 : fieldT Try.prog 83 0 = some (0, 54) := by kernel_rfl
@[simp] theorem fieldT_83_1 : fieldT Try.prog 83 1 = some (1, 5) := by kernel_rfl
@[simp] theorem fieldT_83_2 : fieldT Try.prog 83 2 = some (2, 5) := by kernel_rfl
@[simp] theorem fieldT_83_3 : fieldT Try.prog 83 3 = some (3, 5) := by kernel_rfl
@[simp] theorem fieldT_83_4 : fieldT Try.prog 83 4 = some (4, 54) := by kernel_rfl
@[simp] theorem fieldT_83_5 : fieldT Try.prog 83 5 = some (5, 54) := by kernel_rfl
@[simp] theorem fieldT_83_6 : fieldT Try.prog 83 6 = some (6, 79) := by kernel_rfl
@[simp] theorem fieldT_83_7 : fieldT Try.prog 83 7 = some (10, 79) := by kernel_rfl
@[simp] theorem placesA_83 : placesA Try.prog 83 = some [(0, 1), (1, 1), (2, 1), (3, 1), (4, 1), (5, 1), (6, 4), (10, 4)] := by kernel_rfl
@[simp] theorem ti_86 : ti Try.prog 86 = some ⟨false, 1, 24, .slice none 0 0⟩ := by kernel_rfl
@[simp] theorem elemT_86 : elemT Try.prog 86 = some 81 := by kernel_rfl
@[simp] theorem ti_88 : ti Try.prog 88 = some ⟨false, 1, 24, .slice none 0 0⟩ := by kernel_rfl
@[simp] theorem elemT_88 : elemT Try.prog 88 = some 83 := by kernel_rfl
@[simp] theorem elemT_91 : elemT Try.prog 91 = some 103 := by kernel_rfl
@[simp] theorem ti_99 : ti Try.prog 99 = some ⟨true, 8, 176, .agg #[.int .u64 0, .slice none 0 0, .slice none 0 0, .slice none 0 0, .slice none 0 0, .slice none 0 0, .slice none 0 0, .slice none 0 0]⟩ := by kernel_rfl
@[simp] theorem fieldT_99_6 : fieldT Try.prog 99 6 = some (6, 86) := by kernel_rfl
@[simp] theorem fieldT_99_7 : fieldT Try.prog 99 7 = some (7, 88) := by kernel_rfl
@[simp] theorem ti_101 : ti Try.prog 101 = some ⟨true, 10, 192, .agg #[.int .u64 0, .slice none 0 0, .slice none 0 0, .slice none 0 0, .slice none 0 0, .slice none 0 0, .slice none 0 0, .slice none 0 0, .int .u64 0, .int .u64 0]⟩ := by kernel_rfl
@[simp] theorem fieldT_101_0 : fieldT Try.prog 101 0 = some (0, 99) := by kernel_rfl
@[simp] theorem fieldT_101_1 : fieldT Try.prog 101 1 = some (8, 54) := by kernel_rfl
@[simp] theorem fieldT_101_2 : fieldT Try.prog 101 2 = some (9, 54) := by kernel_rfl
@[simp] theorem placesA_101 : placesA Try.prog 101 = some [(0, 8), (8, 1), (9, 1)] := by kernel_rfl
@[simp] theorem ti_103 : ti Try.prog 103 = some ⟨true, 28, 200, .agg #[.int .u8 0, .int .u64 0, .int .u8 0, .int .u8 0, .int .u64 0, .int .u64 0, .int .u64 0, .int .u64 0, .int .u64 0, .int .u64 0, .int .u64 0, .int .u64 0, .int .u64 0, .int .u64 0, .int .u64 0, .int .u8 0, .int .u8 0, .int .u8 0, .int .u64 0, .int .u64 0, .int .u64 0, .int .u64 0, .int .u64 0, .int .u64 0, .int .u64 0, .int .u64 0, .int .u64 0, .int .u64 0]⟩ := by kernel_rfl
@[simp] theorem fieldT_103_0 : fieldT Try.prog 103 0 = some (0, 5) := by kernel_rfl
@[simp] theorem fieldT_103_1 : fieldT Try.prog 103 1 = some (1, 81) := by kernel_rfl
@[simp] theorem fieldT_103_2 : fieldT Try.prog 103 2 = some (14, 83) := by kernel_rfl
@[simp] theorem ti_119 : ti Try.prog 119 = some ⟨false, 1, 24, .slice none 0 0⟩ := by kernel_rfl
@[simp] theorem elemT_119 : elemT Try.prog 119 = some 130 := by kernel_rfl
@[simp] theorem ti_120 : ti Try.prog 120 = some ⟨false, 1, 24, .slice none 0 0⟩ := by kernel_rfl
@[simp] theorem elemT_120 : elemT Try.prog 120 = some 137 := by kernel_rfl
@[simp] theorem ti_121 : ti Try.prog 121 = some ⟨false, 1, 24, .slice none 0 0⟩ := by kernel_rfl
@[simp] theorem elemT_121 : elemT Try.prog 121 = some 3 := by kernel_rfl
@[simp] theorem ti_123 : ti Try.prog 123 = some ⟨true, 3, 72, .agg #[.slice none 0 0, .slice none 0 0, .slice none 0 0]⟩ := by kernel_rfl
@[simp] theorem fieldT_123_0 : fieldT Try.prog 123 0 = some (0, 119) := by kernel_rfl
@[simp] theorem fieldT_123_1 : fieldT Try.prog 123 1 = some (1, 120) := by kernel_rfl
@[simp] theorem fieldT_123_2 : fieldT Try.prog 123 2 = some (2, 121) := by kernel_rfl
@[simp] theorem placesA_123 : placesA Try.prog 123 = some [(0, 1), (1, 1), (2, 1)] := by kernel_rfl
@[simp] theorem ti_130 : ti Try.prog 130 = some ⟨true, 2, 48, .agg #[.slice none 0 0, .slice none 0 0]⟩ := by kernel_rfl
@[simp] theorem fieldT_130_0 : fieldT Try.prog 130 0 = some (0, 23) := by kernel_rfl
@[simp] theorem fieldT_130_1 : fieldT Try.prog 130 1 = some (1, 23) := by kernel_rfl
@[simp] theorem placesA_130 : placesA Try.prog 130 = some [(0, 1), (1, 1)] := by kernel_rfl
@[simp] theorem ti_137 : ti Try.prog 137 = some ⟨true, 3, 56, .agg #[.slice none 0 0, .slice none 0 0, .bool false]⟩ := by kernel_rfl
@[simp] theorem fieldT_137_0 : fieldT Try.prog 137 0 = some (0, 130) := by kernel_rfl
@[simp] theorem placesA_137 : placesA Try.prog 137 = some [(0, 2), (2, 1)] := by kernel_rfl
@[simp] theorem isPtrT_139 : isPtrT Try.prog 139 = true := by kernel_rfl
@[simp] theorem isPtrT_142 : isPtrT Try.prog 142 = true := by kernel_rfl
@[simp] theorem ti_144 : ti Try.prog 144 = some ⟨true, 1, 24, .agg #[.slice none 0 0]⟩ := by kernel_rfl
@[simp] theorem fieldT_144_0 : fieldT Try.prog 144 0 = some (0, 23) := by kernel_rfl
@[simp] theorem placesA_144 : placesA Try.prog 144 = some [(0, 1)] := by kernel_rfl
@[simp] theorem ti_172 : ti Try.prog 172 = some ⟨true, 2, 32, .agg #[.slice none 0 0, .bool false]⟩ := by kernel_rfl
@[simp] theorem fieldT_172_0 : fieldT Try.prog 172 0 = some (0, 23) := by kernel_rfl
@[simp] theorem fieldT_172_1 : fieldT Try.prog 172 1 = some (1, 4) := by kernel_rfl
@[simp] theorem placesA_172 : placesA Try.prog 172 = some [(0, 1), (1, 1)] := by kernel_rfl
@[simp] theorem intT_180 : intT Try.prog 180 = some .u64 := by kernel_rfl
@[simp] theorem callable_77 : callable Try.prog 77 = true := by kernel_rfl
@[simp] theorem callable_108 : callable Try.prog 108 = true := by kernel_rfl
@[simp] theorem callable_112 : callable Try.prog 112 = true := by kernel_rfl
@[simp] theorem callable_117 : callable Try.prog 117 = true := by kernel_rfl
@[simp] theorem callable_122 : callable Try.prog 122 = true := by kernel_rfl
@[simp] theorem callable_125 : callable Try.prog 125 = true := by kernel_rfl
@[simp] theorem callable_126 : callable Try.prog 126 = true := by kernel_rfl
@[simp] theorem callable_128 : callable Try.prog 128 = true := by kernel_rfl
@[simp] theorem callable_129 : callable Try.prog 129 = true := by kernel_rfl
@[simp] theorem callable_130 : callable Try.prog 130 = true := by kernel_rfl
end Go.Proofs.Ytlkajgjaidedkaa
