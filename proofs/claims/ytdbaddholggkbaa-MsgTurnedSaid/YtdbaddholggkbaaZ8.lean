import Derived.Test.YtdbaddholggkbaaProg
import Derived.Test.YtdbaddholggkbaaZ4
import Derived.KernelRfl
/-
  What each type of the translation is, told once.
-/
namespace Go.Proofs.Ytdbaddholggkbaa
open Go Go.Vm

@[simp] theorem ti_3 : ti Try.prog 3 = some ⟨false, 1, 8, .int .i64 0⟩ := by kernel_rfl
@[simp] theorem intT_3 : intT Try.prog 3 = some .i64 := by kernel_rfl
@[simp] theorem ti_4 : ti Try.prog 4 = some ⟨false, 1, 1, .bool false⟩ := by kernel_rfl
@[simp] theorem eqB_4 (xo yo : Operand) (a b : Bool) : binA Try.prog .eql 4 xo yo (.v (.bool a)) (.v (.bool b)) = some (.v (.bool (a == b))) := by cases a <;> cases b <;> kernel_rfl
@[simp] theorem neB_4 (xo yo : Operand) (a b : Bool) : binA Try.prog .neq 4 xo yo (.v (.bool a)) (.v (.bool b)) = some (.v (.bool (a != b))) := by cases a <;> cases b <;> kernel_rfl
@[simp] theorem ti_5 : ti Try.prog 5 = some ⟨false, 1, 1, .int .u8 0⟩ := by kernel_rfl
@[simp] theorem intT_5 : intT Try.prog 5 = some .u8 := by kernel_rfl
@[simp] theorem ti_22 : ti Try.prog 22 = some ⟨false, 1, 8, .int .u64 0⟩ := by kernel_rfl
@[simp] theorem intT_22 : intT Try.prog 22 = some .u64 := by kernel_rfl
@[simp] theorem ti_23 : ti Try.prog 23 = some ⟨false, 1, 24, .slice none 0 0⟩ := by kernel_rfl
@[simp] theorem elemT_23 : elemT Try.prog 23 = some 86 := by kernel_rfl
@[simp] theorem ti_24 : ti Try.prog 24 = some ⟨false, 1, 24, .slice none 0 0⟩ := by kernel_rfl
@[simp] theorem elemT_24 : elemT Try.prog 24 = some 88 := by kernel_rfl
@[simp] theorem ti_26 : ti Try.prog 26 = some ⟨true, 5, 72, .agg #[.int .u8 0, .int .u64 0, .int .u64 0, .slice none 0 0, .slice none 0 0]⟩ := by kernel_rfl
@[simp] theorem fieldT_26_0 : fieldT Try.prog 26 0 = some (0, 5) := by kernel_rfl
@[simp] theorem fieldT_26_1 : fieldT Try.prog 26 1 = some (1, 22) := by kernel_rfl
@[simp] theorem fieldT_26_2 : fieldT Try.prog 26 2 = some (2, 22) := by kernel_rfl
@[simp] theorem fieldT_26_3 : fieldT Try.prog 26 3 = some (3, 23) := by kernel_rfl
@[simp] theorem fieldT_26_4 : fieldT Try.prog 26 4 = some (4, 24) := by kernel_rfl
@[simp] theorem placesA_26 : placesA Try.prog 26 = some [(0, 1), (1, 1), (2, 1), (3, 1), (4, 1)] := by kernel_rfl
@[simp] theorem ti_30 : ti Try.prog 30 = some ⟨false, 1, 2, .int .u16 0⟩ := by kernel_rfl
@[simp] theorem intT_30 : intT Try.prog 30 = some .u16 := by kernel_rfl
@[simp] theorem ti_47 : ti Try.prog 47 = some ⟨false, 1, 24, .slice none 0 0⟩ := by kernel_rfl
@[simp] theorem elemT_47 : elemT Try.prog 47 = some 5 := by kernel_rfl
@[simp] theorem arrT_47 : arrT Try.prog 47 = none := by kernel_rfl
@[simp] theorem isPtrT_48 : isPtrT Try.prog 48 = true := by kernel_rfl
@[simp] theorem ti_52 : ti Try.prog 52 = some ⟨true, 3, 40, .agg #[.slice none 0 0, .int .i64 0, .bool false]⟩ := by kernel_rfl
@[simp] theorem fieldT_52_0 : fieldT Try.prog 52 0 = some (0, 47) := by kernel_rfl
@[simp] theorem fieldT_52_1 : fieldT Try.prog 52 1 = some (1, 3) := by kernel_rfl
@[simp] theorem fieldT_52_2 : fieldT Try.prog 52 2 = some (2, 4) := by kernel_rfl
@[simp] theorem placesA_52 : placesA Try.prog 52 = some [(0, 1), (1, 1), (2, 1)] := by kernel_rfl
@[simp] theorem isPtrT_57 : isPtrT Try.prog 57 = true := by kernel_rfl
@[simp] theorem ti_59 : ti Try.prog 59 = some ⟨true, 1, 24, .agg #[.slice none 0 0]⟩ := by kernel_rfl
@[simp] theorem fieldT_59_0 : fieldT Try.prog 59 0 = some (0, 47) := by kernel_rfl
@[simp] theorem placesA_59 : placesA Try.prog 59 = some [(0, 1)] := by kernel_rfl
@[simp] theorem ti_69 : ti Try.prog 69 = some ⟨true, 4, 32, .agg #[.int .u64 0, .int .u64 0, .int .u64 0, .int .u64 0]⟩ := by kernel_rfl
@[simp] theorem elemT_69 : elemT Try.prog 69 = none := by kernel_rfl
@[simp] theorem arrT_69 : arrT Try.prog 69 = some (4, 22) := by kernel_rfl
@[simp] theorem placesA_69 : placesA Try.prog 69 = some [(0, 1), (1, 1), (2, 1), (3, 1)] := by kernel_rfl
@[simp] theorem flatT_69 : flatT Try.prog 69 = some [some .u64, some .u64, some .u64, some .u64] := by kernel_rfl
@[simp] theorem ti_70 : ti Try.prog 70 = some ⟨false, 1, 24, .slice none 0 0⟩ := by kernel_rfl
@[simp] theorem elemT_70 : elemT Try.prog 70 = some 122 := by kernel_rfl
@[simp] theorem ti_72 : ti Try.prog 72 = some ⟨true, 21, 216, .agg #[.int .u8 0, .int .u8 0, .int .u64 0, .slice none 0 0, .int .u8 0, .int .u8 0, .int .u8 0, .int .u64 0, .int .u64 0, .int .u64 0, .int .u64 0, .slice none 0 0, .slice none 0 0, .int .u8 0, .int .u64 0, .int .u64 0, .slice none 0 0, .slice none 0 0, .int .u64 0, .int .u16 0, .bool false]⟩ := by kernel_rfl
@[simp] theorem fieldT_72_0 : fieldT Try.prog 72 0 = some (0, 5) := by kernel_rfl
@[simp] theorem fieldT_72_1 : fieldT Try.prog 72 1 = some (1, 5) := by kernel_rfl
@[simp] theorem fieldT_72_2 : fieldT Try.prog 72 2 = some (2, 22) := by kernel_rfl
@[simp] theorem fieldT_72_3 : fieldT Try.prog 72 3 = some (3, 23) := by kernel_rfl
@[simp] theorem fieldT_72_4 : fieldT Try.prog 72 4 = some (4, 5) := by kernel_rfl
@[simp] theorem fieldT_72_5 : fieldT Try.prog 72 5 = some (5, 5) := by kernel_rfl
@[simp] theorem fieldT_72_6 : fieldT Try.prog 72 6 = some (6, 5) := by kernel_rfl
@[simp] theorem fieldT_72_7 : fieldT Try.prog 72 7 = some (7, 69) := by kernel_rfl
@[simp] theorem fieldT_72_8 : fieldT Try.prog 72 8 = some (11, 23) := by kernel_rfl
@[simp] theorem fieldT_72_9 : fieldT Try.prog 72 9 = some (12, 70) := by kernel_rfl
@[simp] theorem fieldT_72_10 : fieldT Try.prog 72 10 = some (13, 26) := by kernel_rfl
@[simp] theorem fieldT_72_11 : fieldT Try.prog 72 11 = some (18, 22) := by kernel_rfl
@[simp] theorem fieldT_72_12 : fieldT Try.prog 72 12 = some (19, 30) := by kernel_rfl
@[simp] theorem fieldT_72_13 : fieldT Try.prog 72 13 = some (20, 4) := by kernel_rfl
@[simp] theorem placesA_72 : placesA Try.prog 72 = some [(0, 1), (1, 1), (2, 1), (3, 1), (4, 1), (5, 1), (6, 1), (7, 4), (11, 1), (12, 1), (13, 5), (18, 1), (19, 1), (20, 1)] := by kernel_rfl
@[simp] theorem ti_86 : ti Try.prog 86 = some ⟨true, 5, 40, .agg #[.int .u8 0, .int .u64 0, .int .u64 0, .int .u64 0, .int .u64 0]⟩ := by kernel_rfl
@[simp] theorem fieldT_86_0 : fieldT Try.prog 86 0 = some (0, 5) := by kernel_rfl
@[simp] theorem fieldT_86_1 : fieldT Try.prog 86 1 = some (1, 69) := by kernel_rfl
@[simp] theorem placesA_86 : placesA Try.prog 86 = some [(0, 1), (1, 4)] := by kernel_rfl
@[simp] theorem flatT_86 : flatT Try.prog 86 = some [some .u8, some .u64, some .u64, some .u64, some .u64] := by kernel_rfl
@[simp] theorem ti_88 : ti Try.prog 88 = some ⟨true, 2, 32, .agg #[.int .u64 0, .slice none 0 0]⟩ := by kernel_rfl
@[simp] theorem fieldT_88_0 : fieldT Try.prog 88 0 = some (0, 22) := by kernel_rfl
@[simp] theorem fieldT_88_1 : fieldT Try.prog 88 1 = some (1, 23) := by kernel_rfl
@[simp] theorem placesA_88 : placesA Try.prog 88 = some [(0, 1), (1, 1)] := by kernel_rfl
@[simp] theorem ti_99 : ti Try.prog 99 = some ⟨true, 32, 256, .agg #[.int .u64 0, .int .u64 0, .int .u64 0, .int .u64 0, .int .u64 0, .int .u64 0, .int .u64 0, .int .u64 0, .int .u64 0, .int .u64 0, .int .u64 0, .int .u64 0, .int .u64 0, .int .u64 0, .int .u64 0, .int .u64 0, .int .u64 0, .int .u64 0, .int .u64 0, .int .u64 0, .int .u64 0, .int .u64 0, .int .u64 0, .int .u64 0, .int .u64 0, .int .u64 0, .int .u64 0, .int .u64 0, .int .u64 0, .int .u64 0, .int .u64 0, .int .u64 0]⟩ := by kernel_rfl
@[simp] theorem elemT_99 : elemT Try.prog 99 = none := by kernel_rfl
@[simp] theorem arrT_99 : arrT Try.prog 99 = some (8, 69) := by kernel_rfl
@[simp] theorem ti_111 : ti Try.prog 111 = some ⟨true, 2, 32, .agg #[.slice none 0 0, .bool false]⟩ := by kernel_rfl
@[simp] theorem fieldT_111_0 : fieldT Try.prog 111 0 = some (0, 47) := by kernel_rfl
@[simp] theorem fieldT_111_1 : fieldT Try.prog 111 1 = some (1, 4) := by kernel_rfl
@[simp] theorem placesA_111 : placesA Try.prog 111 = some [(0, 1), (1, 1)] := by kernel_rfl
@[simp] theorem ti_122 : ti Try.prog 122 = some ⟨true, 2, 32, .agg #[.int .u8 0, .slice none 0 0]⟩ := by kernel_rfl
@[simp] theorem fieldT_122_0 : fieldT Try.prog 122 0 = some (0, 5) := by kernel_rfl
@[simp] theorem fieldT_122_1 : fieldT Try.prog 122 1 = some (1, 23) := by kernel_rfl
@[simp] theorem placesA_122 : placesA Try.prog 122 = some [(0, 1), (1, 1)] := by kernel_rfl
@[simp] theorem elemT_146 : elemT Try.prog 146 = some 22 := by kernel_rfl
@[simp] theorem callable_36 : callable Try.prog 36 = true := by kernel_rfl
@[simp] theorem callable_37 : callable Try.prog 37 = true := by kernel_rfl
@[simp] theorem callable_80 : callable Try.prog 80 = true := by kernel_rfl
@[simp] theorem callable_81 : callable Try.prog 81 = true := by kernel_rfl
@[simp] theorem callable_83 : callable Try.prog 83 = true := by kernel_rfl
@[simp] theorem callable_91 : callable Try.prog 91 = true := by kernel_rfl
@[simp] theorem callable_118 : callable Try.prog 118 = true := by kernel_rfl
@[simp] theorem callable_130 : callable Try.prog 130 = true := by kernel_rfl
@[simp] theorem callable_147 : callable Try.prog 147 = true := by kernel_rfl
@[simp] theorem callable_151 : callable Try.prog 151 = true := by kernel_rfl
end Go.Proofs.Ytdbaddholggkbaa
