import Derived.Test.YtjpnjhlfieklfaaGreatProg
import Derived.Test.YtjpnjhlfieklfaaGreatZ4
import Derived.KernelRfl
/-
  What each type of the translation is, told once.
-/
namespace Go.Proofs.YtjpnjhlfieklfaaGreat
open Go Go.Vm

@[simp] theorem ti_3 : ti Tryz.prog 3 = some ⟨false, 1, 8, .int .i64 0⟩ := by kernel_rfl
@[simp] theorem MU : q8 Tryz.prog 3 = some .i64 := by kernel_rfl
@[simp] theorem ti_4 : ti Tryz.prog 4 = some ⟨false, 1, 1, .bool false⟩ := by kernel_rfl
@[simp] theorem MY (xo yo : Operand) (a b : Bool) : gW Tryz.prog .eql 4 xo yo (.v (.bool a)) (.v (.bool b)) = some (.v (.bool (a == b))) := by cases a <;> cases b <;> kernel_rfl
@[simp] theorem MX (xo yo : Operand) (a b : Bool) : gW Tryz.prog .neq 4 xo yo (.v (.bool a)) (.v (.bool b)) = some (.v (.bool (a != b))) := by cases a <;> cases b <;> kernel_rfl
@[simp] theorem ti_5 : ti Tryz.prog 5 = some ⟨false, 1, 1, .int .u8 0⟩ := by kernel_rfl
@[simp] theorem MW : q8 Tryz.prog 5 = some .u8 := by kernel_rfl
@[simp] theorem MN : Jg Tryz.prog 5 = true := by kernel_rfl
@[simp] theorem MB : rS Tryz.prog 9 = true := by kernel_rfl
@[simp] theorem ti_22 : ti Tryz.prog 22 = some ⟨false, 1, 8, .int .u64 0⟩ := by kernel_rfl
@[simp] theorem MG : q8 Tryz.prog 22 = some .u64 := by kernel_rfl
@[simp] theorem ti_23 : ti Tryz.prog 23 = some ⟨false, 1, 24, .slice none 0 0⟩ := by kernel_rfl
@[simp] theorem elemT_23 : fT Tryz.prog 23 = some 38 := by kernel_rfl
@[simp] theorem ti_24 : ti Tryz.prog 24 = some ⟨false, 1, 24, .slice none 0 0⟩ := by kernel_rfl
@[simp] theorem elemT_24 : fT Tryz.prog 24 = some 75 := by kernel_rfl
@[simp] theorem ti_26 : ti Tryz.prog 26 = some ⟨true, 5, 72, .agg #[.int .u8 0, .int .u64 0, .int .u64 0, .slice none 0 0, .slice none 0 0]⟩ := by kernel_rfl
@[simp] theorem fieldT_26_0 : eU Tryz.prog 26 0 = some (0, 5) := by kernel_rfl
@[simp] theorem fieldT_26_1 : eU Tryz.prog 26 1 = some (1, 22) := by kernel_rfl
@[simp] theorem fieldT_26_2 : eU Tryz.prog 26 2 = some (2, 22) := by kernel_rfl
@[simp] theorem fieldT_26_3 : eU Tryz.prog 26 3 = some (3, 23) := by kernel_rfl
@[simp] theorem fieldT_26_4 : eU Tryz.prog 26 4 = some (4, 24) := by kernel_rfl
@[simp] theorem Kq : jI Tryz.prog 26 = some [(0, 1), (1, 1), (2, 1), (3, 1), (4, 1)] := by kernel_rfl
@[simp] theorem ti_27 : ti Tryz.prog 27 = some ⟨true, 4, 32, .agg #[.int .u64 0, .int .u64 0, .int .u64 0, .int .u64 0]⟩ := by kernel_rfl
@[simp] theorem arrT_27 : yV Tryz.prog 27 = some (4, 22) := by kernel_rfl
@[simp] theorem KH : jI Tryz.prog 27 = some [(0, 1), (1, 1), (2, 1), (3, 1)] := by kernel_rfl
@[simp] theorem Mj : rC Tryz.prog 27 = some [some .u64, some .u64, some .u64, some .u64] := by kernel_rfl
@[simp] theorem ti_28 : ti Tryz.prog 28 = some ⟨true, 4, 32, .agg #[.int .u64 0, .int .u64 0, .int .u64 0, .int .u64 0]⟩ := by kernel_rfl
@[simp] theorem elemT_28 : fT Tryz.prog 28 = none := by kernel_rfl
@[simp] theorem arrT_28 : yV Tryz.prog 28 = some (4, 22) := by kernel_rfl
@[simp] theorem Ld : jI Tryz.prog 28 = some [(0, 1), (1, 1), (2, 1), (3, 1)] := by kernel_rfl
@[simp] theorem Mm : rC Tryz.prog 28 = some [some .u64, some .u64, some .u64, some .u64] := by kernel_rfl
@[simp] theorem ti_30 : ti Tryz.prog 30 = some ⟨true, 8, 64, .agg #[.int .u64 0, .int .u64 0, .int .u64 0, .int .u64 0, .int .u64 0, .int .u64 0, .int .u64 0, .int .u64 0]⟩ := by kernel_rfl
@[simp] theorem fieldT_30_0 : eU Tryz.prog 30 0 = some (0, 28) := by kernel_rfl
@[simp] theorem fieldT_30_1 : eU Tryz.prog 30 1 = some (4, 28) := by kernel_rfl
@[simp] theorem Mz : rC Tryz.prog 30 = some [some .u64, some .u64, some .u64, some .u64, some .u64, some .u64, some .u64, some .u64] := by kernel_rfl
@[simp] theorem ti_32 : ti Tryz.prog 32 = some ⟨true, 17, 168, .agg #[.int .u8 0, .int .u64 0, .int .u8 0, .int .u8 0, .int .u64 0, .int .u64 0, .slice none 0 0, .slice none 0 0, .int .u8 0, .int .u64 0, .int .u64 0, .int .u64 0, .int .u64 0, .int .u64 0, .int .u64 0, .int .u64 0, .int .u64 0]⟩ := by kernel_rfl
@[simp] theorem fieldT_32_0 : eU Tryz.prog 32 0 = some (0, 5) := by kernel_rfl
@[simp] theorem fieldT_32_1 : eU Tryz.prog 32 1 = some (1, 22) := by kernel_rfl
@[simp] theorem fieldT_32_2 : eU Tryz.prog 32 2 = some (2, 5) := by kernel_rfl
@[simp] theorem fieldT_32_3 : eU Tryz.prog 32 3 = some (3, 26) := by kernel_rfl
@[simp] theorem fieldT_32_4 : eU Tryz.prog 32 4 = some (8, 5) := by kernel_rfl
@[simp] theorem fieldT_32_5 : eU Tryz.prog 32 5 = some (9, 30) := by kernel_rfl
@[simp] theorem Lc : jI Tryz.prog 32 = some [(0, 1), (1, 1), (2, 1), (3, 5), (8, 1), (9, 8)] := by kernel_rfl
@[simp] theorem ti_36 : ti Tryz.prog 36 = some ⟨true, 32, 256, .agg #[.int .u64 0, .int .u64 0, .int .u64 0, .int .u64 0, .int .u64 0, .int .u64 0, .int .u64 0, .int .u64 0, .int .u64 0, .int .u64 0, .int .u64 0, .int .u64 0, .int .u64 0, .int .u64 0, .int .u64 0, .int .u64 0, .int .u64 0, .int .u64 0, .int .u64 0, .int .u64 0, .int .u64 0, .int .u64 0, .int .u64 0, .int .u64 0, .int .u64 0, .int .u64 0, .int .u64 0, .int .u64 0, .int .u64 0, .int .u64 0, .int .u64 0, .int .u64 0]⟩ := by kernel_rfl
@[simp] theorem elemT_36 : fT Tryz.prog 36 = none := by kernel_rfl
@[simp] theorem arrT_36 : yV Tryz.prog 36 = some (8, 28) := by kernel_rfl
@[simp] theorem ti_38 : ti Tryz.prog 38 = some ⟨true, 5, 40, .agg #[.int .u8 0, .int .u64 0, .int .u64 0, .int .u64 0, .int .u64 0]⟩ := by kernel_rfl
@[simp] theorem fieldT_38_0 : eU Tryz.prog 38 0 = some (0, 5) := by kernel_rfl
@[simp] theorem fieldT_38_1 : eU Tryz.prog 38 1 = some (1, 28) := by kernel_rfl
@[simp] theorem KP : jI Tryz.prog 38 = some [(0, 1), (1, 4)] := by kernel_rfl
@[simp] theorem Me : rC Tryz.prog 38 = some [some .u8, some .u64, some .u64, some .u64, some .u64] := by kernel_rfl
@[simp] theorem ti_39 : ti Tryz.prog 39 = some ⟨false, 1, 8, .pointer none⟩ := by kernel_rfl
@[simp] theorem isPtrT_39 : mO Tryz.prog 39 = true := by kernel_rfl
@[simp] theorem ti_43 : ti Tryz.prog 43 = some ⟨false, 1, 24, .slice none 0 0⟩ := by kernel_rfl
@[simp] theorem elemT_43 : fT Tryz.prog 43 = some 32 := by kernel_rfl
@[simp] theorem ti_49 : ti Tryz.prog 49 = some ⟨true, 8, 176, .agg #[.int .u64 0, .slice none 0 0, .slice none 0 0, .slice none 0 0, .slice none 0 0, .slice none 0 0, .slice none 0 0, .slice none 0 0]⟩ := by kernel_rfl
@[simp] theorem fieldT_49_3 : eU Tryz.prog 49 3 = some (3, 43) := by kernel_rfl
@[simp] theorem KC : jI Tryz.prog 49 = some [(0, 1), (1, 1), (2, 1), (3, 1), (4, 1), (5, 1), (6, 1), (7, 1)] := by kernel_rfl
@[simp] theorem elemT_65 : fT Tryz.prog 65 = some 69 := by kernel_rfl
@[simp] theorem ti_69 : ti Tryz.prog 69 = some ⟨true, 18, 176, .agg #[.int .u8 0, .int .u8 0, .int .u64 0, .int .u8 0, .int .u8 0, .int .u64 0, .int .u64 0, .slice none 0 0, .slice none 0 0, .int .u8 0, .int .u64 0, .int .u64 0, .int .u64 0, .int .u64 0, .int .u64 0, .int .u64 0, .int .u64 0, .int .u64 0]⟩ := by kernel_rfl
@[simp] theorem fieldT_69_0 : eU Tryz.prog 69 0 = some (0, 5) := by kernel_rfl
@[simp] theorem fieldT_69_1 : eU Tryz.prog 69 1 = some (1, 32) := by kernel_rfl
@[simp] theorem ti_75 : ti Tryz.prog 75 = some ⟨true, 2, 32, .agg #[.int .u64 0, .slice none 0 0]⟩ := by kernel_rfl
@[simp] theorem fieldT_75_0 : eU Tryz.prog 75 0 = some (0, 22) := by kernel_rfl
@[simp] theorem fieldT_75_1 : eU Tryz.prog 75 1 = some (1, 23) := by kernel_rfl
@[simp] theorem Kl : jI Tryz.prog 75 = some [(0, 1), (1, 1)] := by kernel_rfl
@[simp] theorem ti_77 : ti Tryz.prog 77 = some ⟨false, 1, 24, .slice none 0 0⟩ := by kernel_rfl
@[simp] theorem elemT_77 : fT Tryz.prog 77 = some 136 := by kernel_rfl
@[simp] theorem ti_78 : ti Tryz.prog 78 = some ⟨false, 1, 24, .slice none 0 0⟩ := by kernel_rfl
@[simp] theorem elemT_78 : fT Tryz.prog 78 = some 189 := by kernel_rfl
@[simp] theorem ti_79 : ti Tryz.prog 79 = some ⟨false, 1, 24, .slice none 0 0⟩ := by kernel_rfl
@[simp] theorem elemT_79 : fT Tryz.prog 79 = some 3 := by kernel_rfl
@[simp] theorem ti_81 : ti Tryz.prog 81 = some ⟨true, 3, 72, .agg #[.slice none 0 0, .slice none 0 0, .slice none 0 0]⟩ := by kernel_rfl
@[simp] theorem fieldT_81_0 : eU Tryz.prog 81 0 = some (0, 77) := by kernel_rfl
@[simp] theorem fieldT_81_1 : eU Tryz.prog 81 1 = some (1, 78) := by kernel_rfl
@[simp] theorem fieldT_81_2 : eU Tryz.prog 81 2 = some (2, 79) := by kernel_rfl
@[simp] theorem KX : jI Tryz.prog 81 = some [(0, 1), (1, 1), (2, 1)] := by kernel_rfl
@[simp] theorem ti_102 : ti Tryz.prog 102 = some ⟨false, 1, 24, .slice none 0 0⟩ := by kernel_rfl
@[simp] theorem elemT_102 : fT Tryz.prog 102 = some 5 := by kernel_rfl
@[simp] theorem isPtrT_106 : mO Tryz.prog 106 = true := by kernel_rfl
@[simp] theorem elemT_113 : fT Tryz.prog 113 = some 102 := by kernel_rfl
@[simp] theorem ti_129 : ti Tryz.prog 129 = some ⟨false, 1, 8, .nilFunc⟩ := by kernel_rfl
@[simp] theorem elemT_130 : fT Tryz.prog 130 = some 22 := by kernel_rfl
@[simp] theorem ti_136 : ti Tryz.prog 136 = some ⟨true, 2, 48, .agg #[.slice none 0 0, .slice none 0 0]⟩ := by kernel_rfl
@[simp] theorem fieldT_136_0 : eU Tryz.prog 136 0 = some (0, 102) := by kernel_rfl
@[simp] theorem fieldT_136_1 : eU Tryz.prog 136 1 = some (1, 102) := by kernel_rfl
@[simp] theorem JV : jI Tryz.prog 136 = some [(0, 1), (1, 1)] := by kernel_rfl
@[simp] theorem ti_138 : ti Tryz.prog 138 = some ⟨true, 2, 32, .agg #[.slice none 0 0, .bool false]⟩ := by kernel_rfl
@[simp] theorem fieldT_138_0 : eU Tryz.prog 138 0 = some (0, 102) := by kernel_rfl
@[simp] theorem fieldT_138_1 : eU Tryz.prog 138 1 = some (1, 4) := by kernel_rfl
@[simp] theorem JW : jI Tryz.prog 138 = some [(0, 1), (1, 1)] := by kernel_rfl
@[simp] theorem isPtrT_146 : mO Tryz.prog 146 = true := by kernel_rfl
@[simp] theorem ti_148 : ti Tryz.prog 148 = some ⟨true, 1, 24, .agg #[.slice none 0 0]⟩ := by kernel_rfl
@[simp] theorem fieldT_148_0 : eU Tryz.prog 148 0 = some (0, 102) := by kernel_rfl
@[simp] theorem JT : jI Tryz.prog 148 = some [(0, 1)] := by kernel_rfl
@[simp] theorem L4 : q8 Tryz.prog 170 = some .u64 := by kernel_rfl
@[simp] theorem ti_180 : ti Tryz.prog 180 = some ⟨true, 8, 64, .agg #[.int .u64 0, .int .u64 0, .int .u64 0, .int .u64 0, .int .u64 0, .int .u64 0, .int .u64 0, .int .u64 0]⟩ := by kernel_rfl
@[simp] theorem elemT_180 : fT Tryz.prog 180 = none := by kernel_rfl
@[simp] theorem arrT_180 : yV Tryz.prog 180 = some (8, 22) := by kernel_rfl
@[simp] theorem ti_189 : ti Tryz.prog 189 = some ⟨true, 3, 56, .agg #[.slice none 0 0, .slice none 0 0, .bool false]⟩ := by kernel_rfl
@[simp] theorem fieldT_189_0 : eU Tryz.prog 189 0 = some (0, 136) := by kernel_rfl
@[simp] theorem Ka : jI Tryz.prog 189 = some [(0, 2), (2, 1)] := by kernel_rfl
@[simp] theorem callable_58 : eB Tryz.prog 58 = true := by kernel_rfl
@[simp] theorem callable_72 : eB Tryz.prog 72 = true := by kernel_rfl
@[simp] theorem callable_80 : eB Tryz.prog 80 = true := by kernel_rfl
@[simp] theorem callable_85 : eB Tryz.prog 85 = true := by kernel_rfl
@[simp] theorem callable_86 : eB Tryz.prog 86 = true := by kernel_rfl
@[simp] theorem callable_87 : eB Tryz.prog 87 = true := by kernel_rfl
@[simp] theorem callable_88 : eB Tryz.prog 88 = true := by kernel_rfl
@[simp] theorem callable_89 : eB Tryz.prog 89 = true := by kernel_rfl
@[simp] theorem callable_91 : eB Tryz.prog 91 = true := by kernel_rfl
@[simp] theorem callable_117 : eB Tryz.prog 117 = true := by kernel_rfl
@[simp] theorem callable_120 : eB Tryz.prog 120 = true := by kernel_rfl
@[simp] theorem callable_121 : eB Tryz.prog 121 = true := by kernel_rfl
@[simp] theorem callable_127 : eB Tryz.prog 127 = true := by kernel_rfl

end Go.Proofs.YtjpnjhlfieklfaaGreat
