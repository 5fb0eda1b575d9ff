import Derived.Test.YtmponlabfccjaaaProg
import Derived.Test.YtmponlabfccjaaaZ4
import Derived.KernelRfl
/-
  What each type of the translation is, told once.
-/
namespace Go.Proofs.Ytmponlabfccjaaa
open Go Go.Vm

@[simp] theorem intT_3 : intT Try.prog 3 = some .i64 := by kernel_rfl
@[simp] theorem ti_4 : ti Try.prog 4 = some ⟨false, 1, 1, .bool false⟩ := by kernel_rfl
@[simp] theorem ti_5 : ti Try.prog 5 = some ⟨false, 1, 1, .int .u8 0⟩ := by kernel_rfl
@[simp] theorem intT_5 : intT Try.prog 5 = some .u8 := by kernel_rfl
@[simp] theorem isU8_5 : isU8 Try.prog 5 = true := by kernel_rfl
@[simp] theorem isStrT_9 : isStrT Try.prog 9 = true := by kernel_rfl
@[simp] theorem elemT_22 : elemT Try.prog 22 = some 40 := by kernel_rfl
@[simp] theorem ti_25 : ti Try.prog 25 = some ⟨false, 1, 8, .pointer none⟩ := by kernel_rfl
@[simp] theorem isPtrT_25 : isPtrT Try.prog 25 = true := by kernel_rfl
@[simp] theorem ti_28 : ti Try.prog 28 = some ⟨false, 1, 8, .int .u64 0⟩ := by kernel_rfl
@[simp] theorem intT_28 : intT Try.prog 28 = some .u64 := by kernel_rfl
@[simp] theorem ti_29 : ti Try.prog 29 = some ⟨false, 1, 24, .slice none 0 0⟩ := by kernel_rfl
@[simp] theorem elemT_29 : elemT Try.prog 29 = some 93 := by kernel_rfl
@[simp] theorem ti_30 : ti Try.prog 30 = some ⟨false, 1, 24, .slice none 0 0⟩ := by kernel_rfl
@[simp] theorem elemT_30 : elemT Try.prog 30 = some 61 := by kernel_rfl
@[simp] theorem ti_37 : ti Try.prog 37 = some ⟨true, 8, 176, .agg #[.int .u64 0, .slice none 0 0, .slice none 0 0, .slice none 0 0, .slice none 0 0, .slice none 0 0, .slice none 0 0, .slice none 0 0]⟩ := by kernel_rfl
@[simp] theorem fieldT_37_1 : fieldT Try.prog 37 1 = some (1, 29) := by kernel_rfl
@[simp] theorem fieldT_37_2 : fieldT Try.prog 37 2 = some (2, 30) := by kernel_rfl
@[simp] theorem placesA_37 : placesA Try.prog 37 = some [(0, 1), (1, 1), (2, 1), (3, 1), (4, 1), (5, 1), (6, 1), (7, 1)] := by kernel_rfl
@[simp] theorem ti_40 : ti Try.prog 40 = some ⟨true, 5, 40, .agg #[.int .u8 0, .int .u8 0, .int .u8 0, .slice none 0 0, .bool false]⟩ := by kernel_rfl
@[simp] theorem fieldT_40_0 : fieldT Try.prog 40 0 = some (0, 5) := by kernel_rfl
@[simp] theorem fieldT_40_1 : fieldT Try.prog 40 1 = some (1, 5) := by kernel_rfl
@[simp] theorem fieldT_40_2 : fieldT Try.prog 40 2 = some (2, 5) := by kernel_rfl
@[simp] theorem fieldT_40_3 : fieldT Try.prog 40 3 = some (3, 29) := by kernel_rfl
@[simp] theorem fieldT_40_4 : fieldT Try.prog 40 4 = some (4, 4) := by kernel_rfl
@[simp] theorem ti_42 : ti Try.prog 42 = some ⟨true, 4, 32, .agg #[.int .u64 0, .int .u64 0, .int .u64 0, .int .u64 0]⟩ := by kernel_rfl
@[simp] theorem elemT_42 : elemT Try.prog 42 = none := by kernel_rfl
@[simp] theorem arrT_42 : arrT Try.prog 42 = some (4, 28) := by kernel_rfl
@[simp] theorem placesA_42 : placesA Try.prog 42 = some [(0, 1), (1, 1), (2, 1), (3, 1)] := by kernel_rfl
@[simp] theorem flatT_42 : flatT Try.prog 42 = some [some .u64, some .u64, some .u64, some .u64] := by kernel_rfl
@[simp] theorem ti_61 : ti Try.prog 61 = some ⟨true, 2, 32, .agg #[.int .u8 0, .slice none 0 0]⟩ := by kernel_rfl
@[simp] theorem fieldT_61_0 : fieldT Try.prog 61 0 = some (0, 5) := by kernel_rfl
@[simp] theorem fieldT_61_1 : fieldT Try.prog 61 1 = some (1, 29) := by kernel_rfl
@[simp] theorem placesA_61 : placesA Try.prog 61 = some [(0, 1), (1, 1)] := by kernel_rfl
@[simp] theorem ti_93 : ti Try.prog 93 = some ⟨true, 5, 40, .agg #[.int .u8 0, .int .u64 0, .int .u64 0, .int .u64 0, .int .u64 0]⟩ := by kernel_rfl
@[simp] theorem fieldT_93_0 : fieldT Try.prog 93 0 = some (0, 5) := by kernel_rfl
@[simp] theorem fieldT_93_1 : fieldT Try.prog 93 1 = some (1, 42) := by kernel_rfl
@[simp] theorem placesA_93 : placesA Try.prog 93 = some [(0, 1), (1, 4)] := by kernel_rfl
@[simp] theorem flatT_93 : flatT Try.prog 93 = some [some .u8, some .u64, some .u64, some .u64, some .u64] := by kernel_rfl
@[simp] theorem ti_94 : ti Try.prog 94 = some ⟨false, 1, 24, .slice none 0 0⟩ := by kernel_rfl
@[simp] theorem elemT_94 : elemT Try.prog 94 = some 147 := by kernel_rfl
@[simp] theorem ti_95 : ti Try.prog 95 = some ⟨false, 1, 24, .slice none 0 0⟩ := by kernel_rfl
@[simp] theorem elemT_95 : elemT Try.prog 95 = some 181 := by kernel_rfl
@[simp] theorem ti_96 : ti Try.prog 96 = some ⟨false, 1, 24, .slice none 0 0⟩ := by kernel_rfl
@[simp] theorem elemT_96 : elemT Try.prog 96 = some 3 := by kernel_rfl
@[simp] theorem ti_98 : ti Try.prog 98 = some ⟨true, 3, 72, .agg #[.slice none 0 0, .slice none 0 0, .slice none 0 0]⟩ := by kernel_rfl
@[simp] theorem fieldT_98_0 : fieldT Try.prog 98 0 = some (0, 94) := by kernel_rfl
@[simp] theorem fieldT_98_1 : fieldT Try.prog 98 1 = some (1, 95) := by kernel_rfl
@[simp] theorem fieldT_98_2 : fieldT Try.prog 98 2 = some (2, 96) := by kernel_rfl
@[simp] theorem placesA_98 : placesA Try.prog 98 = some [(0, 1), (1, 1), (2, 1)] := by kernel_rfl
@[simp] theorem ti_103 : ti Try.prog 103 = some ⟨true, 32, 256, .agg #[.int .u64 0, .int .u64 0, .int .u64 0, .int .u64 0, .int .u64 0, .int .u64 0, .int .u64 0, .int .u64 0, .int .u64 0, .int .u64 0, .int .u64 0, .int .u64 0, .int .u64 0, .int .u64 0, .int .u64 0, .int .u64 0, .int .u64 0, .int .u64 0, .int .u64 0, .int .u64 0, .int .u64 0, .int .u64 0, .int .u64 0, .int .u64 0, .int .u64 0, .int .u64 0, .int .u64 0, .int .u64 0, .int .u64 0, .int .u64 0, .int .u64 0, .int .u64 0]⟩ := by kernel_rfl
@[simp] theorem elemT_103 : elemT Try.prog 103 = none := by kernel_rfl
@[simp] theorem arrT_103 : arrT Try.prog 103 = some (8, 42) := by kernel_rfl
@[simp] theorem elemT_107 : elemT Try.prog 107 = some 109 := by kernel_rfl
@[simp] theorem ti_109 : ti Try.prog 109 = some ⟨false, 1, 24, .slice none 0 0⟩ := by kernel_rfl
@[simp] theorem elemT_109 : elemT Try.prog 109 = some 5 := by kernel_rfl
@[simp] theorem ti_147 : ti Try.prog 147 = some ⟨true, 2, 48, .agg #[.slice none 0 0, .slice none 0 0]⟩ := by kernel_rfl
@[simp] theorem fieldT_147_0 : fieldT Try.prog 147 0 = some (0, 109) := by kernel_rfl
@[simp] theorem fieldT_147_1 : fieldT Try.prog 147 1 = some (1, 109) := by kernel_rfl
@[simp] theorem placesA_147 : placesA Try.prog 147 = some [(0, 1), (1, 1)] := by kernel_rfl
@[simp] theorem elemT_153 : elemT Try.prog 153 = some 28 := by kernel_rfl
@[simp] theorem ti_158 : ti Try.prog 158 = some ⟨false, 1, 8, .nilFunc⟩ := by kernel_rfl
@[simp] theorem ti_181 : ti Try.prog 181 = some ⟨true, 3, 56, .agg #[.slice none 0 0, .slice none 0 0, .bool false]⟩ := by kernel_rfl
@[simp] theorem fieldT_181_0 : fieldT Try.prog 181 0 = some (0, 147) := by kernel_rfl
@[simp] theorem placesA_181 : placesA Try.prog 181 = some [(0, 2), (2, 1)] := by kernel_rfl
@[simp] theorem intT_183 : intT Try.prog 183 = some .u64 := by kernel_rfl
@[simp] theorem callable_98 : callable Try.prog 98 = true := by kernel_rfl
@[simp] theorem callable_99 : callable Try.prog 99 = true := by kernel_rfl
@[simp] theorem callable_112 : callable Try.prog 112 = true := by kernel_rfl
@[simp] theorem callable_114 : callable Try.prog 114 = true := by kernel_rfl
@[simp] theorem callable_127 : callable Try.prog 127 = true := by kernel_rfl
end Go.Proofs.Ytmponlabfccjaaa
