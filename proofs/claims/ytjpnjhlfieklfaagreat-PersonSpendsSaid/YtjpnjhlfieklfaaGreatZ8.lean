import Derived.Test.YtjpnjhlfieklfaaGreatProg
import Derived.Test.YtjpnjhlfieklfaaGreatZ4
import Derived.KernelRfl
namespace Go.Proofs.YtjpnjhlfieklfaaGreat
open Go Go.Vm
@[simp] theorem ti_3 : ti Tryz.prog 3 = some ⟨false, 1, 8, .int .i64 0⟩ := by kernel_rfl
@[simp] theorem Ny : r9 Tryz.prog 3 = some .i64 := by kernel_rfl
@[simp] theorem ti_4 : ti Tryz.prog 4 = some ⟨false, 1, 1, .bool false⟩ := by kernel_rfl
@[simp] theorem NA (xo yo : Operand) (a b : Bool) : iM Tryz.prog .neq 4 xo yo (.v (.bool a)) (.v (.bool b)) = some (.v (.bool (a != b))) := by cases a <;> cases b <;> kernel_rfl
@[simp] theorem ti_5 : ti Tryz.prog 5 = some ⟨false, 1, 1, .int .u8 0⟩ := by kernel_rfl
@[simp] theorem Nz : r9 Tryz.prog 5 = some .u8 := by kernel_rfl
@[simp] theorem Ns : Jh Tryz.prog 5 = true := by kernel_rfl
@[simp] theorem MO : sU Tryz.prog 9 = true := by kernel_rfl
@[simp] theorem ti_22 : ti Tryz.prog 22 = some ⟨false, 1, 8, .int .u64 0⟩ := by kernel_rfl
@[simp] theorem Nj : r9 Tryz.prog 22 = some .u64 := by kernel_rfl
@[simp] theorem ti_23 : ti Tryz.prog 23 = some ⟨false, 1, 24, .slice none 0 0⟩ := by kernel_rfl
@[simp] theorem elemT_23 : gE Tryz.prog 23 = some 38 := by kernel_rfl
@[simp] theorem ti_24 : ti Tryz.prog 24 = some ⟨false, 1, 24, .slice none 0 0⟩ := by kernel_rfl
@[simp] theorem elemT_24 : gE Tryz.prog 24 = some 75 := by kernel_rfl
@[simp] theorem ti_26 : ti Tryz.prog 26 = some ⟨true, 5, 72, .agg #[.int .u8 0, .int .u64 0, .int .u64 0, .slice none 0 0, .slice none 0 0]⟩ := by kernel_rfl
@[simp] theorem fieldT_26_0 : eX Tryz.prog 26 0 = some (0, 5) := by kernel_rfl
@[simp] theorem fieldT_26_1 : eX Tryz.prog 26 1 = some (1, 22) := by kernel_rfl
@[simp] theorem fieldT_26_2 : eX Tryz.prog 26 2 = some (2, 22) := by kernel_rfl
@[simp] theorem fieldT_26_3 : eX Tryz.prog 26 3 = some (3, 23) := by kernel_rfl
@[simp] theorem fieldT_26_4 : eX Tryz.prog 26 4 = some (4, 24) := by kernel_rfl
@[simp] theorem Li : jK Tryz.prog 26 = some [(0, 1), (1, 1), (2, 1), (3, 1), (4, 1)] := by kernel_rfl
@[simp] theorem ti_27 : ti Tryz.prog 27 = some ⟨true, 4, 32, .agg #[.int .u64 0, .int .u64 0, .int .u64 0, .int .u64 0]⟩ := by kernel_rfl
@[simp] theorem arrT_27 : yJ Tryz.prog 27 = some (4, 22) := by kernel_rfl
@[simp] theorem KY : jK Tryz.prog 27 = some [(0, 1), (1, 1), (2, 1), (3, 1)] := by kernel_rfl
@[simp] theorem MB : tZ Tryz.prog 27 = some [some .u64, some .u64, some .u64, some .u64] := by kernel_rfl
@[simp] theorem ti_28 : ti Tryz.prog 28 = some ⟨true, 4, 32, .agg #[.int .u64 0, .int .u64 0, .int .u64 0, .int .u64 0]⟩ := by kernel_rfl
@[simp] theorem elemT_28 : gE Tryz.prog 28 = none := by kernel_rfl
@[simp] theorem arrT_28 : yJ Tryz.prog 28 = some (4, 22) := by kernel_rfl
@[simp] theorem Ls : jK Tryz.prog 28 = some [(0, 1), (1, 1), (2, 1), (3, 1)] := by kernel_rfl
@[simp] theorem ME : tZ Tryz.prog 28 = some [some .u64, some .u64, some .u64, some .u64] := by kernel_rfl
@[simp] theorem ti_30 : ti Tryz.prog 30 = some ⟨true, 8, 64, .agg #[.int .u64 0, .int .u64 0, .int .u64 0, .int .u64 0, .int .u64 0, .int .u64 0, .int .u64 0, .int .u64 0]⟩ := by kernel_rfl
@[simp] theorem fieldT_30_0 : eX Tryz.prog 30 0 = some (0, 28) := by kernel_rfl
@[simp] theorem fieldT_30_1 : eX Tryz.prog 30 1 = some (4, 28) := by kernel_rfl
@[simp] theorem ti_32 : ti Tryz.prog 32 = some ⟨true, 17, 168, .agg #[.int .u8 0, .int .u64 0, .int .u8 0, .int .u8 0, .int .u64 0, .int .u64 0, .slice none 0 0, .slice none 0 0, .int .u8 0, .int .u64 0, .int .u64 0, .int .u64 0, .int .u64 0, .int .u64 0, .int .u64 0, .int .u64 0, .int .u64 0]⟩ := by kernel_rfl
@[simp] theorem fieldT_32_0 : eX Tryz.prog 32 0 = some (0, 5) := by kernel_rfl
@[simp] theorem fieldT_32_1 : eX Tryz.prog 32 1 = some (1, 22) := by kernel_rfl
@[simp] theorem fieldT_32_2 : eX Tryz.prog 32 2 = some (2, 5) := by kernel_rfl
@[simp] theorem fieldT_32_3 : eX Tryz.prog 32 3 = some (3, 26) := by kernel_rfl
@[simp] theorem fieldT_32_4 : eX Tryz.prog 32 4 = some (8, 5) := by kernel_rfl
@[simp] theorem fieldT_32_5 : eX Tryz.prog 32 5 = some (9, 30) := by kernel_rfl
@[simp] theorem L2 : jK Tryz.prog 32 = some [(0, 1), (1, 1), (2, 1), (3, 5), (8, 1), (9, 8)] := by kernel_rfl
@[simp] theorem ti_36 : ti Tryz.prog 36 = some ⟨true, 32, 256, .agg #[.int .u64 0, .int .u64 0, .int .u64 0, .int .u64 0, .int .u64 0, .int .u64 0, .int .u64 0, .int .u64 0, .int .u64 0, .int .u64 0, .int .u64 0, .int .u64 0, .int .u64 0, .int .u64 0, .int .u64 0, .int .u64 0, .int .u64 0, .int .u64 0, .int .u64 0, .int .u64 0, .int .u64 0, .int .u64 0, .int .u64 0, .int .u64 0, .int .u64 0, .int .u64 0, .int .u64 0, .int .u64 0, .int .u64 0, .int .u64 0, .int .u64 0, .int .u64 0]⟩ := by kernel_rfl
@[simp] theorem elemT_36 : gE Tryz.prog 36 = none := by kernel_rfl
@[simp] theorem arrT_36 : yJ Tryz.prog 36 = some (8, 28) := by kernel_rfl
@[simp] theorem ti_38 : ti Tryz.prog 38 = some ⟨true, 5, 40, .agg #[.int .u8 0, .int .u64 0, .int .u64 0, .int .u64 0, .int .u64 0]⟩ := by kernel_rfl
@[simp] theorem fieldT_38_0 : eX Tryz.prog 38 0 = some (0, 5) := by kernel_rfl
@[simp] theorem fieldT_38_1 : eX Tryz.prog 38 1 = some (1, 28) := by kernel_rfl
@[simp] theorem Lr : jK Tryz.prog 38 = some [(0, 1), (1, 4)] := by kernel_rfl
@[simp] theorem MT : tZ Tryz.prog 38 = some [some .u8, some .u64, some .u64, some .u64, some .u64] := by kernel_rfl
@[simp] theorem ti_39 : ti Tryz.prog 39 = some ⟨false, 1, 8, .pointer none⟩ := by kernel_rfl
@[simp] theorem isPtrT_39 : m5 Tryz.prog 39 = true := by kernel_rfl
@[simp] theorem ti_42 : ti Tryz.prog 42 = some ⟨false, 1, 24, .slice none 0 0⟩ := by kernel_rfl
@[simp] theorem elemT_42 : gE Tryz.prog 42 = some 127 := by kernel_rfl
@[simp] theorem ti_43 : ti Tryz.prog 43 = some ⟨false, 1, 24, .slice none 0 0⟩ := by kernel_rfl
@[simp] theorem elemT_43 : gE Tryz.prog 43 = some 32 := by kernel_rfl
@[simp] theorem ti_49 : ti Tryz.prog 49 = some ⟨true, 8, 176, .agg #[.int .u64 0, .slice none 0 0, .slice none 0 0, .slice none 0 0, .slice none 0 0, .slice none 0 0, .slice none 0 0, .slice none 0 0]⟩ := by kernel_rfl
@[simp] theorem fieldT_49_1 : eX Tryz.prog 49 1 = some (1, 23) := by kernel_rfl
@[simp] theorem fieldT_49_2 : eX Tryz.prog 49 2 = some (2, 42) := by kernel_rfl
@[simp] theorem fieldT_49_3 : eX Tryz.prog 49 3 = some (3, 43) := by kernel_rfl
@[simp] theorem Lj : jK Tryz.prog 49 = some [(0, 1), (1, 1), (2, 1), (3, 1), (4, 1), (5, 1), (6, 1), (7, 1)] := by kernel_rfl
@[simp] theorem ti_75 : ti Tryz.prog 75 = some ⟨true, 2, 32, .agg #[.int .u64 0, .slice none 0 0]⟩ := by kernel_rfl
@[simp] theorem fieldT_75_0 : eX Tryz.prog 75 0 = some (0, 22) := by kernel_rfl
@[simp] theorem fieldT_75_1 : eX Tryz.prog 75 1 = some (1, 23) := by kernel_rfl
@[simp] theorem Lt : jK Tryz.prog 75 = some [(0, 1), (1, 1)] := by kernel_rfl
@[simp] theorem ti_77 : ti Tryz.prog 77 = some ⟨false, 1, 24, .slice none 0 0⟩ := by kernel_rfl
@[simp] theorem elemT_77 : gE Tryz.prog 77 = some 136 := by kernel_rfl
@[simp] theorem ti_78 : ti Tryz.prog 78 = some ⟨false, 1, 24, .slice none 0 0⟩ := by kernel_rfl
@[simp] theorem elemT_78 : gE Tryz.prog 78 = some 189 := by kernel_rfl
@[simp] theorem ti_79 : ti Tryz.prog 79 = some ⟨false, 1, 24, .slice none 0 0⟩ := by kernel_rfl
@[simp] theorem elemT_79 : gE Tryz.prog 79 = some 3 := by kernel_rfl
@[simp] theorem ti_81 : ti Tryz.prog 81 = some ⟨true, 3, 72, .agg #[.slice none 0 0, .slice none 0 0, .slice none 0 0]⟩ := by kernel_rfl
@[simp] theorem fieldT_81_0 : eX Tryz.prog 81 0 = some (0, 77) := by kernel_rfl
@[simp] theorem fieldT_81_1 : eX Tryz.prog 81 1 = some (1, 78) := by kernel_rfl
@[simp] theorem fieldT_81_2 : eX Tryz.prog 81 2 = some (2, 79) := by kernel_rfl
@[simp] theorem L4 : jK Tryz.prog 81 = some [(0, 1), (1, 1), (2, 1)] := by kernel_rfl
@[simp] theorem ti_102 : ti Tryz.prog 102 = some ⟨false, 1, 24, .slice none 0 0⟩ := by kernel_rfl
@[simp] theorem elemT_102 : gE Tryz.prog 102 = some 5 := by kernel_rfl
@[simp] theorem isPtrT_106 : m5 Tryz.prog 106 = true := by kernel_rfl
@[simp] theorem elemT_113 : gE Tryz.prog 113 = some 102 := by kernel_rfl
@[simp] theorem ti_127 : ti Tryz.prog 127 = some ⟨true, 2, 32, .agg #[.int .u8 0, .slice none 0 0]⟩ := by kernel_rfl
@[simp] theorem fieldT_127_0 : eX Tryz.prog 127 0 = some (0, 5) := by kernel_rfl
@[simp] theorem fieldT_127_1 : eX Tryz.prog 127 1 = some (1, 23) := by kernel_rfl
@[simp] theorem KH : jK Tryz.prog 127 = some [(0, 1), (1, 1)] := by kernel_rfl
@[simp] theorem ti_129 : ti Tryz.prog 129 = some ⟨false, 1, 8, .nilFunc⟩ := by kernel_rfl
@[simp] theorem elemT_130 : gE Tryz.prog 130 = some 22 := by kernel_rfl
@[simp] theorem ti_136 : ti Tryz.prog 136 = some ⟨true, 2, 48, .agg #[.slice none 0 0, .slice none 0 0]⟩ := by kernel_rfl
@[simp] theorem fieldT_136_0 : eX Tryz.prog 136 0 = some (0, 102) := by kernel_rfl
@[simp] theorem fieldT_136_1 : eX Tryz.prog 136 1 = some (1, 102) := by kernel_rfl
@[simp] theorem KR : jK Tryz.prog 136 = some [(0, 1), (1, 1)] := by kernel_rfl
@[simp] theorem ti_138 : ti Tryz.prog 138 = some ⟨true, 2, 32, .agg #[.slice none 0 0, .bool false]⟩ := by kernel_rfl
@[simp] theorem fieldT_138_0 : eX Tryz.prog 138 0 = some (0, 102) := by kernel_rfl
@[simp] theorem fieldT_138_1 : eX Tryz.prog 138 1 = some (1, 4) := by kernel_rfl
@[simp] theorem KE : jK Tryz.prog 138 = some [(0, 1), (1, 1)] := by kernel_rfl
@[simp] theorem isPtrT_146 : m5 Tryz.prog 146 = true := by kernel_rfl
@[simp] theorem ti_148 : ti Tryz.prog 148 = some ⟨true, 1, 24, .agg #[.slice none 0 0]⟩ := by kernel_rfl
@[simp] theorem fieldT_148_0 : eX Tryz.prog 148 0 = some (0, 102) := by kernel_rfl
@[simp] theorem KG : jK Tryz.prog 148 = some [(0, 1)] := by kernel_rfl
@[simp] theorem MH : r9 Tryz.prog 170 = some .u64 := by kernel_rfl
@[simp] theorem ti_180 : ti Tryz.prog 180 = some ⟨true, 8, 64, .agg #[.int .u64 0, .int .u64 0, .int .u64 0, .int .u64 0, .int .u64 0, .int .u64 0, .int .u64 0, .int .u64 0]⟩ := by kernel_rfl
@[simp] theorem elemT_180 : gE Tryz.prog 180 = none := by kernel_rfl
@[simp] theorem arrT_180 : yJ Tryz.prog 180 = some (8, 22) := by kernel_rfl
@[simp] theorem ti_189 : ti Tryz.prog 189 = some ⟨true, 3, 56, .agg #[.slice none 0 0, .slice none 0 0, .bool false]⟩ := by kernel_rfl
@[simp] theorem fieldT_189_0 : eX Tryz.prog 189 0 = some (0, 136) := by kernel_rfl
@[simp] theorem KS : jK Tryz.prog 189 = some [(0, 2), (2, 1)] := by kernel_rfl
@[simp] theorem callable_58 : eG Tryz.prog 58 = true := by kernel_rfl
@[simp] theorem callable_72 : eG Tryz.prog 72 = true := by kernel_rfl
@[simp] theorem callable_80 : eG Tryz.prog 80 = true := by kernel_rfl
@[simp] theorem callable_85 : eG Tryz.prog 85 = true := by kernel_rfl
@[simp] theorem callable_86 : eG Tryz.prog 86 = true := by kernel_rfl
@[simp] theorem callable_87 : eG Tryz.prog 87 = true := by kernel_rfl
@[simp] theorem callable_88 : eG Tryz.prog 88 = true := by kernel_rfl
@[simp] theorem callable_89 : eG Tryz.prog 89 = true := by kernel_rfl
@[simp] theorem callable_91 : eG Tryz.prog 91 = true := by kernel_rfl
@[simp] theorem callable_117 : eG Tryz.prog 117 = true := by kernel_rfl
@[simp] theorem callable_120 : eG Tryz.prog 120 = true := by kernel_rfl
@[simp] theorem callable_121 : eG Tryz.prog 121 = true := by kernel_rfl
@[simp] theorem callable_127 : eG Tryz.prog 127 = true := by kernel_rfl
end Go.Proofs.YtjpnjhlfieklfaaGreat
