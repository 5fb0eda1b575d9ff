import Derived.Test.YtkbhdlocdajhmaaProg
import Derived.Test.YtkbhdlocdajhmaaVmI
import Derived.KernelRfl
/-
  What each type of the translation is, told once.
-/
namespace Go.Proofs.Ytkbhdlocdajhmaa
open Go Go.Vm

@[simp] theorem ti_2 : ti Try.prog 2 = some ⟨false, 1, 8, .int .i64 0⟩ := by kernel_rfl
@[simp] theorem elemT_2 : elemT Try.prog 2 = none := by kernel_rfl
@[simp] theorem arrT_2 : arrT Try.prog 2 = none := by kernel_rfl
@[simp] theorem isPtrT_2 : isPtrT Try.prog 2 = false := by kernel_rfl
@[simp] theorem isStrT_2 : isStrT Try.prog 2 = false := by kernel_rfl
@[simp] theorem intT_2 : intT Try.prog 2 = some .i64 := by kernel_rfl
@[simp] theorem isU8_2 : isU8 Try.prog 2 = false := by kernel_rfl
@[simp] theorem ti_3 : ti Try.prog 3 = some ⟨false, 1, 8, .int .i64 0⟩ := by kernel_rfl
@[simp] theorem elemT_3 : elemT Try.prog 3 = none := by kernel_rfl
@[simp] theorem arrT_3 : arrT Try.prog 3 = none := by kernel_rfl
@[simp] theorem isPtrT_3 : isPtrT Try.prog 3 = false := by kernel_rfl
@[simp] theorem isStrT_3 : isStrT Try.prog 3 = false := by kernel_rfl
@[simp] theorem intT_3 : intT Try.prog 3 = some .i64 := by kernel_rfl
@[simp] theorem isU8_3 : isU8 Try.prog 3 = false := by kernel_rfl
@[simp] theorem ti_4 : ti Try.prog 4 = some ⟨false, 1, 1, .bool false⟩ := by kernel_rfl
@[simp] theorem elemT_4 : elemT Try.prog 4 = none := by kernel_rfl
@[simp] theorem arrT_4 : arrT Try.prog 4 = none := by kernel_rfl
@[simp] theorem isPtrT_4 : isPtrT Try.prog 4 = false := by kernel_rfl
@[simp] theorem eqB_4 (xo yo : Operand) (a b : Bool) : binA Try.prog .eql 4 xo yo (.v (.bool a)) (.v (.bool b)) = some (.v (.bool (a == b))) := by cases a <;> cases b <;> kernel_rfl
@[simp] theorem neB_4 (xo yo : Operand) (a b : Bool) : binA Try.prog .neq 4 xo yo (.v (.bool a)) (.v (.bool b)) = some (.v (.bool (a != b))) := by cases a <;> cases b <;> kernel_rfl
@[simp] theorem ti_5 : ti Try.prog 5 = some ⟨false, 1, 1, .int .u8 0⟩ := by kernel_rfl
@[simp] theorem elemT_5 : elemT Try.prog 5 = none := by kernel_rfl
@[simp] theorem arrT_5 : arrT Try.prog 5 = none := by kernel_rfl
@[simp] theorem isPtrT_5 : isPtrT Try.prog 5 = false := by kernel_rfl
@[simp] theorem isStrT_5 : isStrT Try.prog 5 = false := by kernel_rfl
@[simp] theorem intT_5 : intT Try.prog 5 = some .u8 := by kernel_rfl
@[simp] theorem isU8_5 : isU8 Try.prog 5 = true := by kernel_rfl
@[simp] theorem ti_6 : ti Try.prog 6 = some ⟨false, 1, 1, .int .u8 0⟩ := by kernel_rfl
@[simp] theorem elemT_6 : elemT Try.prog 6 = none := by kernel_rfl
@[simp] theorem arrT_6 : arrT Try.prog 6 = none := by kernel_rfl
@[simp] theorem isPtrT_6 : isPtrT Try.prog 6 = false := by kernel_rfl
@[simp] theorem isStrT_6 : isStrT Try.prog 6 = false := by kernel_rfl
@[simp] theorem intT_6 : intT Try.prog 6 = some .u8 := by kernel_rfl
@[simp] theorem isU8_6 : isU8 Try.prog 6 = true := by kernel_rfl
@[simp] theorem ti_7 : ti Try.prog 7 = some ⟨true, 4, 24, .agg #[.int .i64 0, .int .i64 0, .bool false, .int .u8 0]⟩ := by kernel_rfl
@[simp] theorem elemT_7 : elemT Try.prog 7 = none := by kernel_rfl
@[simp] theorem arrT_7 : arrT Try.prog 7 = none := by kernel_rfl
@[simp] theorem fieldT_7_0 : fieldT Try.prog 7 0 = some (0, 2) := by kernel_rfl
@[simp] theorem fieldT_7_1 : fieldT Try.prog 7 1 = some (1, 3) := by kernel_rfl
@[simp] theorem fieldT_7_2 : fieldT Try.prog 7 2 = some (2, 4) := by kernel_rfl
@[simp] theorem fieldT_7_3 : fieldT Try.prog 7 3 = some (3, 6) := by kernel_rfl
@[simp] theorem placesA_7 : placesA Try.prog 7 = some [(0, 1), (1, 1), (2, 1), (3, 1)] := by kernel_rfl
@[simp] theorem isPtrT_7 : isPtrT Try.prog 7 = false := by kernel_rfl
@[simp] theorem flatT_7 : flatT Try.prog 7 = some [some .i64, some .i64, none, some .u8] := by kernel_rfl
@[simp] theorem ti_8 : ti Try.prog 8 = some ⟨true, 4, 24, .agg #[.int .i64 0, .int .i64 0, .bool false, .int .u8 0]⟩ := by kernel_rfl
@[simp] theorem elemT_8 : elemT Try.prog 8 = none := by kernel_rfl
@[simp] theorem arrT_8 : arrT Try.prog 8 = none := by kernel_rfl
@[simp] theorem fieldT_8_0 : fieldT Try.prog 8 0 = some (0, 2) := by kernel_rfl
@[simp] theorem fieldT_8_1 : fieldT Try.prog 8 1 = some (1, 3) := by kernel_rfl
@[simp] theorem fieldT_8_2 : fieldT Try.prog 8 2 = some (2, 4) := by kernel_rfl
@[simp] theorem fieldT_8_3 : fieldT Try.prog 8 3 = some (3, 6) := by kernel_rfl
@[simp] theorem placesA_8 : placesA Try.prog 8 = some [(0, 1), (1, 1), (2, 1), (3, 1)] := by kernel_rfl
@[simp] theorem isPtrT_8 : isPtrT Try.prog 8 = false := by kernel_rfl
@[simp] theorem flatT_8 : flatT Try.prog 8 = some [some .i64, some .i64, none, some .u8] := by kernel_rfl
@[simp] theorem ti_9 : ti Try.prog 9 = some ⟨false, 1, 16, .string ByteArray.empty⟩ := by kernel_rfl
@[simp] theorem elemT_9 : elemT Try.prog 9 = none := by kernel_rfl
@[simp] theorem arrT_9 : arrT Try.prog 9 = none := by kernel_rfl
@[simp] theorem isPtrT_9 : isPtrT Try.prog 9 = false := by kernel_rfl
@[simp] theorem isStrT_9 : isStrT Try.prog 9 = true := by kernel_rfl
@[simp] theorem ti_10 : ti Try.prog 10 = some ⟨false, 1, 16, .string ByteArray.empty⟩ := by kernel_rfl
@[simp] theorem elemT_10 : elemT Try.prog 10 = none := by kernel_rfl
@[simp] theorem arrT_10 : arrT Try.prog 10 = none := by kernel_rfl
@[simp] theorem isPtrT_10 : isPtrT Try.prog 10 = false := by kernel_rfl
@[simp] theorem isStrT_10 : isStrT Try.prog 10 = true := by kernel_rfl
@[simp] theorem ti_11 : ti Try.prog 11 = some ⟨false, 1, 16, .string ByteArray.empty⟩ := by kernel_rfl
@[simp] theorem elemT_11 : elemT Try.prog 11 = none := by kernel_rfl
@[simp] theorem arrT_11 : arrT Try.prog 11 = none := by kernel_rfl
@[simp] theorem isPtrT_11 : isPtrT Try.prog 11 = false := by kernel_rfl
@[simp] theorem isStrT_11 : isStrT Try.prog 11 = true := by kernel_rfl
@[simp] theorem ti_12 : ti Try.prog 12 = some ⟨false, 1, 8, .int .u64 0⟩ := by kernel_rfl
@[simp] theorem elemT_12 : elemT Try.prog 12 = none := by kernel_rfl
@[simp] theorem arrT_12 : arrT Try.prog 12 = none := by kernel_rfl
@[simp] theorem isPtrT_12 : isPtrT Try.prog 12 = false := by kernel_rfl
@[simp] theorem isStrT_12 : isStrT Try.prog 12 = false := by kernel_rfl
@[simp] theorem intT_12 : intT Try.prog 12 = some .u64 := by kernel_rfl
@[simp] theorem isU8_12 : isU8 Try.prog 12 = false := by kernel_rfl
@[simp] theorem ti_13 : ti Try.prog 13 = some ⟨true, 2, 24, .agg #[.string ByteArray.empty, .int .u64 0]⟩ := by kernel_rfl
@[simp] theorem elemT_13 : elemT Try.prog 13 = none := by kernel_rfl
@[simp] theorem arrT_13 : arrT Try.prog 13 = none := by kernel_rfl
@[simp] theorem fieldT_13_0 : fieldT Try.prog 13 0 = some (0, 9) := by kernel_rfl
@[simp] theorem fieldT_13_1 : fieldT Try.prog 13 1 = some (1, 12) := by kernel_rfl
@[simp] theorem placesA_13 : placesA Try.prog 13 = some [(0, 1), (1, 1)] := by kernel_rfl
@[simp] theorem isPtrT_13 : isPtrT Try.prog 13 = false := by kernel_rfl
@[simp] theorem ti_14 : ti Try.prog 14 = some ⟨true, 2, 24, .agg #[.string ByteArray.empty, .int .u64 0]⟩ := by kernel_rfl
@[simp] theorem elemT_14 : elemT Try.prog 14 = none := by kernel_rfl
@[simp] theorem arrT_14 : arrT Try.prog 14 = none := by kernel_rfl
@[simp] theorem fieldT_14_0 : fieldT Try.prog 14 0 = some (0, 9) := by kernel_rfl
@[simp] theorem fieldT_14_1 : fieldT Try.prog 14 1 = some (1, 12) := by kernel_rfl
@[simp] theorem placesA_14 : placesA Try.prog 14 = some [(0, 1), (1, 1)] := by kernel_rfl
@[simp] theorem isPtrT_14 : isPtrT Try.prog 14 = false := by kernel_rfl
@[simp] theorem ti_15 : ti Try.prog 15 = some ⟨false, 1, 8, .pointer none⟩ := by kernel_rfl
@[simp] theorem elemT_15 : elemT Try.prog 15 = none := by kernel_rfl
@[simp] theorem arrT_15 : arrT Try.prog 15 = none := by kernel_rfl
@[simp] theorem isPtrT_15 : isPtrT Try.prog 15 = true := by kernel_rfl
@[simp] theorem ti_16 : ti Try.prog 16 = some ⟨false, 1, 8, .pointer none⟩ := by kernel_rfl
@[simp] theorem elemT_16 : elemT Try.prog 16 = none := by kernel_rfl
@[simp] theorem arrT_16 : arrT Try.prog 16 = none := by kernel_rfl
@[simp] theorem isPtrT_16 : isPtrT Try.prog 16 = true := by kernel_rfl
@[simp] theorem ti_17 : ti Try.prog 17 = some ⟨false, 1, 8, .pointer none⟩ := by kernel_rfl
@[simp] theorem elemT_17 : elemT Try.prog 17 = none := by kernel_rfl
@[simp] theorem arrT_17 : arrT Try.prog 17 = none := by kernel_rfl
@[simp] theorem isPtrT_17 : isPtrT Try.prog 17 = true := by kernel_rfl
@[simp] theorem ti_18 : ti Try.prog 18 = some ⟨true, 1, 8, .agg #[.pointer none]⟩ := by kernel_rfl
@[simp] theorem elemT_18 : elemT Try.prog 18 = none := by kernel_rfl
@[simp] theorem arrT_18 : arrT Try.prog 18 = none := by kernel_rfl
@[simp] theorem fieldT_18_0 : fieldT Try.prog 18 0 = some (0, 17) := by kernel_rfl
@[simp] theorem placesA_18 : placesA Try.prog 18 = some [(0, 1)] := by kernel_rfl
@[simp] theorem isPtrT_18 : isPtrT Try.prog 18 = false := by kernel_rfl
@[simp] theorem ti_19 : ti Try.prog 19 = some ⟨true, 1, 8, .agg #[.pointer none]⟩ := by kernel_rfl
@[simp] theorem elemT_19 : elemT Try.prog 19 = none := by kernel_rfl
@[simp] theorem arrT_19 : arrT Try.prog 19 = none := by kernel_rfl
@[simp] theorem fieldT_19_0 : fieldT Try.prog 19 0 = some (0, 17) := by kernel_rfl
@[simp] theorem placesA_19 : placesA Try.prog 19 = some [(0, 1)] := by kernel_rfl
@[simp] theorem isPtrT_19 : isPtrT Try.prog 19 = false := by kernel_rfl
@[simp] theorem ti_21 : ti Try.prog 21 = some ⟨false, 1, 4, .int .i32 0⟩ := by kernel_rfl
@[simp] theorem elemT_21 : elemT Try.prog 21 = none := by kernel_rfl
@[simp] theorem arrT_21 : arrT Try.prog 21 = none := by kernel_rfl
@[simp] theorem isPtrT_21 : isPtrT Try.prog 21 = false := by kernel_rfl
@[simp] theorem isStrT_21 : isStrT Try.prog 21 = false := by kernel_rfl
@[simp] theorem intT_21 : intT Try.prog 21 = some .i32 := by kernel_rfl
@[simp] theorem isU8_21 : isU8 Try.prog 21 = false := by kernel_rfl
@[simp] theorem ti_22 : ti Try.prog 22 = some ⟨false, 1, 24, .slice none 0 0⟩ := by kernel_rfl
@[simp] theorem elemT_22 : elemT Try.prog 22 = some 5 := by kernel_rfl
@[simp] theorem arrT_22 : arrT Try.prog 22 = none := by kernel_rfl
@[simp] theorem isPtrT_22 : isPtrT Try.prog 22 = false := by kernel_rfl
@[simp] theorem ti_25 : ti Try.prog 25 = some ⟨false, 1, 8, .pointer none⟩ := by kernel_rfl
@[simp] theorem elemT_25 : elemT Try.prog 25 = none := by kernel_rfl
@[simp] theorem arrT_25 : arrT Try.prog 25 = none := by kernel_rfl
@[simp] theorem isPtrT_25 : isPtrT Try.prog 25 = true := by kernel_rfl
@[simp] theorem ti_27 : ti Try.prog 27 = some ⟨false, 1, 8, .pointer none⟩ := by kernel_rfl
@[simp] theorem elemT_27 : elemT Try.prog 27 = none := by kernel_rfl
@[simp] theorem arrT_27 : arrT Try.prog 27 = none := by kernel_rfl
@[simp] theorem isPtrT_27 : isPtrT Try.prog 27 = true := by kernel_rfl
@[simp] theorem ti_28 : ti Try.prog 28 = some ⟨true, 1, 24, .agg #[.slice none 0 0]⟩ := by kernel_rfl
@[simp] theorem elemT_28 : elemT Try.prog 28 = none := by kernel_rfl
@[simp] theorem arrT_28 : arrT Try.prog 28 = none := by kernel_rfl
@[simp] theorem fieldT_28_0 : fieldT Try.prog 28 0 = some (0, 22) := by kernel_rfl
@[simp] theorem placesA_28 : placesA Try.prog 28 = some [(0, 1)] := by kernel_rfl
@[simp] theorem isPtrT_28 : isPtrT Try.prog 28 = false := by kernel_rfl
@[simp] theorem ti_29 : ti Try.prog 29 = some ⟨true, 1, 24, .agg #[.slice none 0 0]⟩ := by kernel_rfl
@[simp] theorem elemT_29 : elemT Try.prog 29 = none := by kernel_rfl
@[simp] theorem arrT_29 : arrT Try.prog 29 = none := by kernel_rfl
@[simp] theorem fieldT_29_0 : fieldT Try.prog 29 0 = some (0, 22) := by kernel_rfl
@[simp] theorem placesA_29 : placesA Try.prog 29 = some [(0, 1)] := by kernel_rfl
@[simp] theorem isPtrT_29 : isPtrT Try.prog 29 = false := by kernel_rfl
@[simp] theorem ti_35 : ti Try.prog 35 = some ⟨false, 1, 24, .slice none 0 0⟩ := by kernel_rfl
@[simp] theorem elemT_35 : elemT Try.prog 35 = some 69 := by kernel_rfl
@[simp] theorem arrT_35 : arrT Try.prog 35 = none := by kernel_rfl
@[simp] theorem isPtrT_35 : isPtrT Try.prog 35 = false := by kernel_rfl
@[simp] theorem ti_40 : ti Try.prog 40 = some ⟨false, 1, 8, .pointer none⟩ := by kernel_rfl
@[simp] theorem elemT_40 : elemT Try.prog 40 = none := by kernel_rfl
@[simp] theorem arrT_40 : arrT Try.prog 40 = none := by kernel_rfl
@[simp] theorem isPtrT_40 : isPtrT Try.prog 40 = true := by kernel_rfl
@[simp] theorem ti_41 : ti Try.prog 41 = some ⟨true, 3, 40, .agg #[.slice none 0 0, .int .i64 0, .bool false]⟩ := by kernel_rfl
@[simp] theorem elemT_41 : elemT Try.prog 41 = none := by kernel_rfl
@[simp] theorem arrT_41 : arrT Try.prog 41 = none := by kernel_rfl
@[simp] theorem fieldT_41_0 : fieldT Try.prog 41 0 = some (0, 22) := by kernel_rfl
@[simp] theorem fieldT_41_1 : fieldT Try.prog 41 1 = some (1, 3) := by kernel_rfl
@[simp] theorem fieldT_41_2 : fieldT Try.prog 41 2 = some (2, 4) := by kernel_rfl
@[simp] theorem placesA_41 : placesA Try.prog 41 = some [(0, 1), (1, 1), (2, 1)] := by kernel_rfl
@[simp] theorem isPtrT_41 : isPtrT Try.prog 41 = false := by kernel_rfl
@[simp] theorem ti_42 : ti Try.prog 42 = some ⟨true, 3, 40, .agg #[.slice none 0 0, .int .i64 0, .bool false]⟩ := by kernel_rfl
@[simp] theorem elemT_42 : elemT Try.prog 42 = none := by kernel_rfl
@[simp] theorem arrT_42 : arrT Try.prog 42 = none := by kernel_rfl
@[simp] theorem fieldT_42_0 : fieldT Try.prog 42 0 = some (0, 22) := by kernel_rfl
@[simp] theorem fieldT_42_1 : fieldT Try.prog 42 1 = some (1, 3) := by kernel_rfl
@[simp] theorem fieldT_42_2 : fieldT Try.prog 42 2 = some (2, 4) := by kernel_rfl
@[simp] theorem placesA_42 : placesA Try.prog 42 = some [(0, 1), (1, 1), (2, 1)] := by kernel_rfl
@[simp] theorem isPtrT_42 : isPtrT Try.prog 42 = false := by kernel_rfl
@[simp] theorem ti_44 : ti Try.prog 44 = some ⟨false, 1, 24, .slice none 0 0⟩ := by kernel_rfl
@[simp] theorem elemT_44 : elemT Try.prog 44 = some 52 := by kernel_rfl
@[simp] theorem arrT_44 : arrT Try.prog 44 = none := by kernel_rfl
@[simp] theorem isPtrT_44 : isPtrT Try.prog 44 = false := by kernel_rfl
@[simp] theorem ti_48 : ti Try.prog 48 = some ⟨false, 1, 8, .int .u64 0⟩ := by kernel_rfl
@[simp] theorem elemT_48 : elemT Try.prog 48 = none := by kernel_rfl
@[simp] theorem arrT_48 : arrT Try.prog 48 = none := by kernel_rfl
@[simp] theorem isPtrT_48 : isPtrT Try.prog 48 = false := by kernel_rfl
@[simp] theorem isStrT_48 : isStrT Try.prog 48 = false := by kernel_rfl
@[simp] theorem intT_48 : intT Try.prog 48 = some .u64 := by kernel_rfl
@[simp] theorem isU8_48 : isU8 Try.prog 48 = false := by kernel_rfl
@[simp] theorem ti_49 : ti Try.prog 49 = some ⟨true, 4, 32, .agg #[.int .u64 0, .int .u64 0, .int .u64 0, .int .u64 0]⟩ := by kernel_rfl
@[simp] theorem elemT_49 : elemT Try.prog 49 = none := by kernel_rfl
@[simp] theorem arrT_49 : arrT Try.prog 49 = some (4, 48) := by kernel_rfl
@[simp] theorem placesA_49 : placesA Try.prog 49 = some [(0, 1), (1, 1), (2, 1), (3, 1)] := by kernel_rfl
@[simp] theorem isPtrT_49 : isPtrT Try.prog 49 = false := by kernel_rfl
@[simp] theorem flatT_49 : flatT Try.prog 49 = some [some .u64, some .u64, some .u64, some .u64] := by kernel_rfl
@[simp] theorem ti_50 : ti Try.prog 50 = some ⟨true, 4, 32, .agg #[.int .u64 0, .int .u64 0, .int .u64 0, .int .u64 0]⟩ := by kernel_rfl
@[simp] theorem elemT_50 : elemT Try.prog 50 = none := by kernel_rfl
@[simp] theorem arrT_50 : arrT Try.prog 50 = some (4, 48) := by kernel_rfl
@[simp] theorem placesA_50 : placesA Try.prog 50 = some [(0, 1), (1, 1), (2, 1), (3, 1)] := by kernel_rfl
@[simp] theorem isPtrT_50 : isPtrT Try.prog 50 = false := by kernel_rfl
@[simp] theorem flatT_50 : flatT Try.prog 50 = some [some .u64, some .u64, some .u64, some .u64] := by kernel_rfl
@[simp] theorem ti_51 : ti Try.prog 51 = some ⟨true, 6, 64, .agg #[.int .u8 0, .int .u64 0, .int .u64 0, .int .u64 0, .int .u64 0, .slice none 0 0]⟩ := by kernel_rfl
@[simp] theorem elemT_51 : elemT Try.prog 51 = none := by kernel_rfl
@[simp] theorem arrT_51 : arrT Try.prog 51 = none := by kernel_rfl
@[simp] theorem fieldT_51_0 : fieldT Try.prog 51 0 = some (0, 5) := by kernel_rfl
@[simp] theorem fieldT_51_1 : fieldT Try.prog 51 1 = some (1, 50) := by kernel_rfl
@[simp] theorem fieldT_51_2 : fieldT Try.prog 51 2 = some (5, 35) := by kernel_rfl
@[simp] theorem placesA_51 : placesA Try.prog 51 = some [(0, 1), (1, 4), (5, 1)] := by kernel_rfl
@[simp] theorem isPtrT_51 : isPtrT Try.prog 51 = false := by kernel_rfl
@[simp] theorem ti_52 : ti Try.prog 52 = some ⟨true, 6, 64, .agg #[.int .u8 0, .int .u64 0, .int .u64 0, .int .u64 0, .int .u64 0, .slice none 0 0]⟩ := by kernel_rfl
@[simp] theorem elemT_52 : elemT Try.prog 52 = none := by kernel_rfl
@[simp] theorem arrT_52 : arrT Try.prog 52 = none := by kernel_rfl
@[simp] theorem fieldT_52_0 : fieldT Try.prog 52 0 = some (0, 5) := by kernel_rfl
@[simp] theorem fieldT_52_1 : fieldT Try.prog 52 1 = some (1, 50) := by kernel_rfl
@[simp] theorem fieldT_52_2 : fieldT Try.prog 52 2 = some (5, 35) := by kernel_rfl
@[simp] theorem placesA_52 : placesA Try.prog 52 = some [(0, 1), (1, 4), (5, 1)] := by kernel_rfl
@[simp] theorem isPtrT_52 : isPtrT Try.prog 52 = false := by kernel_rfl
@[simp] theorem ti_53 : ti Try.prog 53 = some ⟨false, 1, 2, .int .u16 0⟩ := by kernel_rfl
@[simp] theorem elemT_53 : elemT Try.prog 53 = none := by kernel_rfl
@[simp] theorem arrT_53 : arrT Try.prog 53 = none := by kernel_rfl
@[simp] theorem isPtrT_53 : isPtrT Try.prog 53 = false := by kernel_rfl
@[simp] theorem isStrT_53 : isStrT Try.prog 53 = false := by kernel_rfl
@[simp] theorem intT_53 : intT Try.prog 53 = some .u16 := by kernel_rfl
@[simp] theorem isU8_53 : isU8 Try.prog 53 = false := by kernel_rfl
@[simp] theorem ti_64 : ti Try.prog 64 = some ⟨true, 2, 32, .agg #[.slice none 0 0, .bool false]⟩ := by kernel_rfl
@[simp] theorem elemT_64 : elemT Try.prog 64 = none := by kernel_rfl
@[simp] theorem arrT_64 : arrT Try.prog 64 = none := by kernel_rfl
@[simp] theorem fieldT_64_0 : fieldT Try.prog 64 0 = some (0, 22) := by kernel_rfl
@[simp] theorem fieldT_64_1 : fieldT Try.prog 64 1 = some (1, 4) := by kernel_rfl
@[simp] theorem placesA_64 : placesA Try.prog 64 = some [(0, 1), (1, 1)] := by kernel_rfl
@[simp] theorem isPtrT_64 : isPtrT Try.prog 64 = false := by kernel_rfl
@[simp] theorem ti_65 : ti Try.prog 65 = some ⟨true, 2, 32, .agg #[.slice none 0 0, .bool false]⟩ := by kernel_rfl
@[simp] theorem elemT_65 : elemT Try.prog 65 = none := by kernel_rfl
@[simp] theorem arrT_65 : arrT Try.prog 65 = none := by kernel_rfl
@[simp] theorem fieldT_65_0 : fieldT Try.prog 65 0 = some (0, 22) := by kernel_rfl
@[simp] theorem fieldT_65_1 : fieldT Try.prog 65 1 = some (1, 4) := by kernel_rfl
@[simp] theorem placesA_65 : placesA Try.prog 65 = some [(0, 1), (1, 1)] := by kernel_rfl
@[simp] theorem isPtrT_65 : isPtrT Try.prog 65 = false := by kernel_rfl
@[simp] theorem ti_68 : ti Try.prog 68 = some ⟨true, 5, 40, .agg #[.int .u8 0, .int .u64 0, .int .u64 0, .int .u64 0, .int .u64 0]⟩ := by kernel_rfl
@[simp] theorem elemT_68 : elemT Try.prog 68 = none := by kernel_rfl
@[simp] theorem arrT_68 : arrT Try.prog 68 = none := by kernel_rfl
@[simp] theorem fieldT_68_0 : fieldT Try.prog 68 0 = some (0, 5) := by kernel_rfl
@[simp] theorem fieldT_68_1 : fieldT Try.prog 68 1 = some (1, 50) := by kernel_rfl
@[simp] theorem placesA_68 : placesA Try.prog 68 = some [(0, 1), (1, 4)] := by kernel_rfl
@[simp] theorem isPtrT_68 : isPtrT Try.prog 68 = false := by kernel_rfl
@[simp] theorem flatT_68 : flatT Try.prog 68 = some [some .u8, some .u64, some .u64, some .u64, some .u64] := by kernel_rfl
@[simp] theorem ti_69 : ti Try.prog 69 = some ⟨true, 5, 40, .agg #[.int .u8 0, .int .u64 0, .int .u64 0, .int .u64 0, .int .u64 0]⟩ := by kernel_rfl
@[simp] theorem elemT_69 : elemT Try.prog 69 = none := by kernel_rfl
@[simp] theorem arrT_69 : arrT Try.prog 69 = none := by kernel_rfl
@[simp] theorem fieldT_69_0 : fieldT Try.prog 69 0 = some (0, 5) := by kernel_rfl
@[simp] theorem fieldT_69_1 : fieldT Try.prog 69 1 = some (1, 50) := by kernel_rfl
@[simp] theorem placesA_69 : placesA Try.prog 69 = some [(0, 1), (1, 4)] := by kernel_rfl
@[simp] theorem isPtrT_69 : isPtrT Try.prog 69 = false := by kernel_rfl
@[simp] theorem flatT_69 : flatT Try.prog 69 = some [some .u8, some .u64, some .u64, some .u64, some .u64] := by kernel_rfl
@[simp] theorem ti_78 : ti Try.prog 78 = some ⟨false, 1, 8, .int .i64 0⟩ := by kernel_rfl
@[simp] theorem elemT_78 : elemT Try.prog 78 = none := by kernel_rfl
@[simp] theorem arrT_78 : arrT Try.prog 78 = none := by kernel_rfl
@[simp] theorem isPtrT_78 : isPtrT Try.prog 78 = false := by kernel_rfl
@[simp] theorem isStrT_78 : isStrT Try.prog 78 = false := by kernel_rfl
@[simp] theorem intT_78 : intT Try.prog 78 = some .i64 := by kernel_rfl
@[simp] theorem isU8_78 : isU8 Try.prog 78 = false := by kernel_rfl
@[simp] theorem ti_82 : ti Try.prog 82 = some ⟨false, 1, 8, .int .u64 0⟩ := by kernel_rfl
@[simp] theorem elemT_82 : elemT Try.prog 82 = none := by kernel_rfl
@[simp] theorem arrT_82 : arrT Try.prog 82 = none := by kernel_rfl
@[simp] theorem isPtrT_82 : isPtrT Try.prog 82 = false := by kernel_rfl
@[simp] theorem isStrT_82 : isStrT Try.prog 82 = false := by kernel_rfl
@[simp] theorem intT_82 : intT Try.prog 82 = some .u64 := by kernel_rfl
@[simp] theorem isU8_82 : isU8 Try.prog 82 = false := by kernel_rfl
@[simp] theorem ti_85 : ti Try.prog 85 = some ⟨true, 32, 256, .agg #[.int .u64 0, .int .u64 0, .int .u64 0, .int .u64 0, .int .u64 0, .int .u64 0, .int .u64 0, .int .u64 0, .int .u64 0, .int .u64 0, .int .u64 0, .int .u64 0, .int .u64 0, .int .u64 0, .int .u64 0, .int .u64 0, .int .u64 0, .int .u64 0, .int .u64 0, .int .u64 0, .int .u64 0, .int .u64 0, .int .u64 0, .int .u64 0, .int .u64 0, .int .u64 0, .int .u64 0, .int .u64 0, .int .u64 0, .int .u64 0, .int .u64 0, .int .u64 0]⟩ := by kernel_rfl
@[simp] theorem elemT_85 : elemT Try.prog 85 = none := by kernel_rfl
@[simp] theorem arrT_85 : arrT Try.prog 85 = some (8, 50) := by kernel_rfl
@[simp] theorem placesA_85 : placesA Try.prog 85 = some [(0, 4), (4, 4), (8, 4), (12, 4), (16, 4), (20, 4), (24, 4), (28, 4)] := by kernel_rfl
@[simp] theorem isPtrT_85 : isPtrT Try.prog 85 = false := by kernel_rfl
@[simp] theorem flatT_85 : flatT Try.prog 85 = some [some .u64, some .u64, some .u64, some .u64, some .u64, some .u64, some .u64, some .u64, some .u64, some .u64, some .u64, some .u64, some .u64, some .u64, some .u64, some .u64, some .u64, some .u64, some .u64, some .u64, some .u64, some .u64, some .u64, some .u64, some .u64, some .u64, some .u64, some .u64, some .u64, some .u64, some .u64, some .u64] := by kernel_rfl
@[simp] theorem ti_86 : ti Try.prog 86 = some ⟨true, 32, 256, .agg #[.int .u64 0, .int .u64 0, .int .u64 0, .int .u64 0, .int .u64 0, .int .u64 0, .int .u64 0, .int .u64 0, .int .u64 0, .int .u64 0, .int .u64 0, .int .u64 0, .int .u64 0, .int .u64 0, .int .u64 0, .int .u64 0, .int .u64 0, .int .u64 0, .int .u64 0, .int .u64 0, .int .u64 0, .int .u64 0, .int .u64 0, .int .u64 0, .int .u64 0, .int .u64 0, .int .u64 0, .int .u64 0, .int .u64 0, .int .u64 0, .int .u64 0, .int .u64 0]⟩ := by kernel_rfl
@[simp] theorem elemT_86 : elemT Try.prog 86 = none := by kernel_rfl
@[simp] theorem arrT_86 : arrT Try.prog 86 = some (8, 50) := by kernel_rfl
@[simp] theorem placesA_86 : placesA Try.prog 86 = some [(0, 4), (4, 4), (8, 4), (12, 4), (16, 4), (20, 4), (24, 4), (28, 4)] := by kernel_rfl
@[simp] theorem isPtrT_86 : isPtrT Try.prog 86 = false := by kernel_rfl
@[simp] theorem flatT_86 : flatT Try.prog 86 = some [some .u64, some .u64, some .u64, some .u64, some .u64, some .u64, some .u64, some .u64, some .u64, some .u64, some .u64, some .u64, some .u64, some .u64, some .u64, some .u64, some .u64, some .u64, some .u64, some .u64, some .u64, some .u64, some .u64, some .u64, some .u64, some .u64, some .u64, some .u64, some .u64, some .u64, some .u64, some .u64] := by kernel_rfl
@[simp] theorem ti_92 : ti Try.prog 92 = some ⟨false, 1, 24, .slice none 0 0⟩ := by kernel_rfl
@[simp] theorem elemT_92 : elemT Try.prog 92 = some 48 := by kernel_rfl
@[simp] theorem arrT_92 : arrT Try.prog 92 = none := by kernel_rfl
@[simp] theorem isPtrT_92 : isPtrT Try.prog 92 = false := by kernel_rfl
@[simp] theorem ti_96 : ti Try.prog 96 = some ⟨true, 4, 40, .agg #[.pointer none, .pointer none, .pointer none, .string ByteArray.empty]⟩ := by kernel_rfl
@[simp] theorem elemT_96 : elemT Try.prog 96 = none := by kernel_rfl
@[simp] theorem arrT_96 : arrT Try.prog 96 = none := by kernel_rfl
@[simp] theorem fieldT_96_0 : fieldT Try.prog 96 0 = some (0, 17) := by kernel_rfl
@[simp] theorem fieldT_96_1 : fieldT Try.prog 96 1 = some (1, 17) := by kernel_rfl
@[simp] theorem fieldT_96_2 : fieldT Try.prog 96 2 = some (2, 17) := by kernel_rfl
@[simp] theorem fieldT_96_3 : fieldT Try.prog 96 3 = some (3, 9) := by kernel_rfl
@[simp] theorem placesA_96 : placesA Try.prog 96 = some [(0, 1), (1, 1), (2, 1), (3, 1)] := by kernel_rfl
@[simp] theorem isPtrT_96 : isPtrT Try.prog 96 = false := by kernel_rfl
@[simp] theorem ti_97 : ti Try.prog 97 = some ⟨true, 4, 40, .agg #[.pointer none, .pointer none, .pointer none, .string ByteArray.empty]⟩ := by kernel_rfl
@[simp] theorem elemT_97 : elemT Try.prog 97 = none := by kernel_rfl
@[simp] theorem arrT_97 : arrT Try.prog 97 = none := by kernel_rfl
@[simp] theorem fieldT_97_0 : fieldT Try.prog 97 0 = some (0, 17) := by kernel_rfl
@[simp] theorem fieldT_97_1 : fieldT Try.prog 97 1 = some (1, 17) := by kernel_rfl
@[simp] theorem fieldT_97_2 : fieldT Try.prog 97 2 = some (2, 17) := by kernel_rfl
@[simp] theorem fieldT_97_3 : fieldT Try.prog 97 3 = some (3, 9) := by kernel_rfl
@[simp] theorem placesA_97 : placesA Try.prog 97 = some [(0, 1), (1, 1), (2, 1), (3, 1)] := by kernel_rfl
@[simp] theorem isPtrT_97 : isPtrT Try.prog 97 = false := by kernel_rfl
@[simp] theorem ti_98 : ti Try.prog 98 = some ⟨true, 0, 0, .agg #[]⟩ := by kernel_rfl
@[simp] theorem elemT_98 : elemT Try.prog 98 = none := by kernel_rfl
@[simp] theorem arrT_98 : arrT Try.prog 98 = some (0, 16) := by kernel_rfl
@[simp] theorem placesA_98 : placesA Try.prog 98 = some [] := by kernel_rfl
@[simp] theorem isPtrT_98 : isPtrT Try.prog 98 = false := by kernel_rfl
@[simp] theorem ti_99 : ti Try.prog 99 = some ⟨true, 0, 0, .agg #[]⟩ := by kernel_rfl
@[simp] theorem elemT_99 : elemT Try.prog 99 = none := by kernel_rfl
@[simp] theorem arrT_99 : arrT Try.prog 99 = none := by kernel_rfl
@[simp] theorem fieldT_99_0 : fieldT Try.prog 99 0 = some (0, 98) := by kernel_rfl
@[simp] theorem placesA_99 : placesA Try.prog 99 = some [(0, 0)] := by kernel_rfl
@[simp] theorem isPtrT_99 : isPtrT Try.prog 99 = false := by kernel_rfl
@[simp] theorem ti_100 : ti Try.prog 100 = some ⟨true, 0, 0, .agg #[]⟩ := by kernel_rfl
@[simp] theorem elemT_100 : elemT Try.prog 100 = none := by kernel_rfl
@[simp] theorem arrT_100 : arrT Try.prog 100 = none := by kernel_rfl
@[simp] theorem fieldT_100_0 : fieldT Try.prog 100 0 = some (0, 98) := by kernel_rfl
@[simp] theorem placesA_100 : placesA Try.prog 100 = some [(0, 0)] := by kernel_rfl
@[simp] theorem isPtrT_100 : isPtrT Try.prog 100 = false := by kernel_rfl
@[simp] theorem ti_101 : ti Try.prog 101 = some ⟨false, 1, 4, .int .u32 0⟩ := by kernel_rfl
@[simp] theorem elemT_101 : elemT Try.prog 101 = none := by kernel_rfl
@[simp] theorem arrT_101 : arrT Try.prog 101 = none := by kernel_rfl
@[simp] theorem isPtrT_101 : isPtrT Try.prog 101 = false := by kernel_rfl
@[simp] theorem isStrT_101 : isStrT Try.prog 101 = false := by kernel_rfl
@[simp] theorem intT_101 : intT Try.prog 101 = some .u32 := by kernel_rfl
@[simp] theorem isU8_101 : isU8 Try.prog 101 = false := by kernel_rfl
@[simp] theorem ti_102 : ti Try.prog 102 = some ⟨false, 1, 1, .int .u8 0⟩ := by kernel_rfl
@[simp] theorem elemT_102 : elemT Try.prog 102 = none := by kernel_rfl
@[simp] theorem arrT_102 : arrT Try.prog 102 = none := by kernel_rfl
@[simp] theorem isPtrT_102 : isPtrT Try.prog 102 = false := by kernel_rfl
@[simp] theorem isStrT_102 : isStrT Try.prog 102 = false := by kernel_rfl
@[simp] theorem intT_102 : intT Try.prog 102 = some .u8 := by kernel_rfl
@[simp] theorem isU8_102 : isU8 Try.prog 102 = true := by kernel_rfl
@[simp] theorem ti_103 : ti Try.prog 103 = some ⟨false, 1, 1, .int .u8 0⟩ := by kernel_rfl
@[simp] theorem elemT_103 : elemT Try.prog 103 = none := by kernel_rfl
@[simp] theorem arrT_103 : arrT Try.prog 103 = none := by kernel_rfl
@[simp] theorem isPtrT_103 : isPtrT Try.prog 103 = false := by kernel_rfl
@[simp] theorem isStrT_103 : isStrT Try.prog 103 = false := by kernel_rfl
@[simp] theorem intT_103 : intT Try.prog 103 = some .u8 := by kernel_rfl
@[simp] theorem isU8_103 : isU8 Try.prog 103 = true := by kernel_rfl
@[simp] theorem ti_105 : ti Try.prog 105 = some ⟨false, 1, 8, .pointer none⟩ := by kernel_rfl
@[simp] theorem elemT_105 : elemT Try.prog 105 = none := by kernel_rfl
@[simp] theorem arrT_105 : arrT Try.prog 105 = none := by kernel_rfl
@[simp] theorem isPtrT_105 : isPtrT Try.prog 105 = true := by kernel_rfl
@[simp] theorem ti_106 : ti Try.prog 106 = some ⟨false, 1, 4, .int .i32 0⟩ := by kernel_rfl
@[simp] theorem elemT_106 : elemT Try.prog 106 = none := by kernel_rfl
@[simp] theorem arrT_106 : arrT Try.prog 106 = none := by kernel_rfl
@[simp] theorem isPtrT_106 : isPtrT Try.prog 106 = false := by kernel_rfl
@[simp] theorem isStrT_106 : isStrT Try.prog 106 = false := by kernel_rfl
@[simp] theorem intT_106 : intT Try.prog 106 = some .i32 := by kernel_rfl
@[simp] theorem isU8_106 : isU8 Try.prog 106 = false := by kernel_rfl
@[simp] theorem ti_107 : ti Try.prog 107 = some ⟨false, 1, 4, .int .i32 0⟩ := by kernel_rfl
@[simp] theorem elemT_107 : elemT Try.prog 107 = none := by kernel_rfl
@[simp] theorem arrT_107 : arrT Try.prog 107 = none := by kernel_rfl
@[simp] theorem isPtrT_107 : isPtrT Try.prog 107 = false := by kernel_rfl
@[simp] theorem isStrT_107 : isStrT Try.prog 107 = false := by kernel_rfl
@[simp] theorem intT_107 : intT Try.prog 107 = some .i32 := by kernel_rfl
@[simp] theorem isU8_107 : isU8 Try.prog 107 = false := by kernel_rfl
@[simp] theorem ti_108 : ti Try.prog 108 = some ⟨true, 11, 48, .agg #[.int .u64 0, .int .u64 0, .int .u32 0, .int .u8 0, .int .u8 0, .int .u8 0, .int .u8 0, .nilFunc, .pointer none, .int .i32 0, .int .i32 0]⟩ := by kernel_rfl
@[simp] theorem elemT_108 : elemT Try.prog 108 = none := by kernel_rfl
@[simp] theorem arrT_108 : arrT Try.prog 108 = none := by kernel_rfl
@[simp] theorem fieldT_108_0 : fieldT Try.prog 108 0 = some (0, 12) := by kernel_rfl
@[simp] theorem fieldT_108_1 : fieldT Try.prog 108 1 = some (1, 12) := by kernel_rfl
@[simp] theorem fieldT_108_2 : fieldT Try.prog 108 2 = some (2, 101) := by kernel_rfl
@[simp] theorem fieldT_108_3 : fieldT Try.prog 108 3 = some (3, 102) := by kernel_rfl
@[simp] theorem fieldT_108_4 : fieldT Try.prog 108 4 = some (4, 5) := by kernel_rfl
@[simp] theorem fieldT_108_5 : fieldT Try.prog 108 5 = some (5, 5) := by kernel_rfl
@[simp] theorem fieldT_108_6 : fieldT Try.prog 108 6 = some (6, 103) := by kernel_rfl
@[simp] theorem fieldT_108_7 : fieldT Try.prog 108 7 = some (7, 104) := by kernel_rfl
@[simp] theorem fieldT_108_8 : fieldT Try.prog 108 8 = some (8, 105) := by kernel_rfl
@[simp] theorem fieldT_108_9 : fieldT Try.prog 108 9 = some (9, 106) := by kernel_rfl
@[simp] theorem fieldT_108_10 : fieldT Try.prog 108 10 = some (10, 107) := by kernel_rfl
@[simp] theorem placesA_108 : placesA Try.prog 108 = some [(0, 1), (1, 1), (2, 1), (3, 1), (4, 1), (5, 1), (6, 1), (7, 1), (8, 1), (9, 1), (10, 1)] := by kernel_rfl
@[simp] theorem isPtrT_108 : isPtrT Try.prog 108 = false := by kernel_rfl
@[simp] theorem ti_109 : ti Try.prog 109 = some ⟨true, 11, 48, .agg #[.int .u64 0, .int .u64 0, .int .u32 0, .int .u8 0, .int .u8 0, .int .u8 0, .int .u8 0, .nilFunc, .pointer none, .int .i32 0, .int .i32 0]⟩ := by kernel_rfl
@[simp] theorem elemT_109 : elemT Try.prog 109 = none := by kernel_rfl
@[simp] theorem arrT_109 : arrT Try.prog 109 = none := by kernel_rfl
@[simp] theorem fieldT_109_0 : fieldT Try.prog 109 0 = some (0, 12) := by kernel_rfl
@[simp] theorem fieldT_109_1 : fieldT Try.prog 109 1 = some (1, 12) := by kernel_rfl
@[simp] theorem fieldT_109_2 : fieldT Try.prog 109 2 = some (2, 101) := by kernel_rfl
@[simp] theorem fieldT_109_3 : fieldT Try.prog 109 3 = some (3, 102) := by kernel_rfl
@[simp] theorem fieldT_109_4 : fieldT Try.prog 109 4 = some (4, 5) := by kernel_rfl
@[simp] theorem fieldT_109_5 : fieldT Try.prog 109 5 = some (5, 5) := by kernel_rfl
@[simp] theorem fieldT_109_6 : fieldT Try.prog 109 6 = some (6, 103) := by kernel_rfl
@[simp] theorem fieldT_109_7 : fieldT Try.prog 109 7 = some (7, 104) := by kernel_rfl
@[simp] theorem fieldT_109_8 : fieldT Try.prog 109 8 = some (8, 105) := by kernel_rfl
@[simp] theorem fieldT_109_9 : fieldT Try.prog 109 9 = some (9, 106) := by kernel_rfl
@[simp] theorem fieldT_109_10 : fieldT Try.prog 109 10 = some (10, 107) := by kernel_rfl
@[simp] theorem placesA_109 : placesA Try.prog 109 = some [(0, 1), (1, 1), (2, 1), (3, 1), (4, 1), (5, 1), (6, 1), (7, 1), (8, 1), (9, 1), (10, 1)] := by kernel_rfl
@[simp] theorem isPtrT_109 : isPtrT Try.prog 109 = false := by kernel_rfl
@[simp] theorem callable_3 : callable Try.prog 3 = true := by kernel_rfl
@[simp] theorem callable_4 : callable Try.prog 4 = true := by kernel_rfl
@[simp] theorem callable_5 : callable Try.prog 5 = true := by kernel_rfl
@[simp] theorem callable_6 : callable Try.prog 6 = true := by kernel_rfl
@[simp] theorem callable_7 : callable Try.prog 7 = true := by kernel_rfl
@[simp] theorem callable_8 : callable Try.prog 8 = true := by kernel_rfl
@[simp] theorem callable_9 : callable Try.prog 9 = true := by kernel_rfl
@[simp] theorem callable_10 : callable Try.prog 10 = true := by kernel_rfl
@[simp] theorem callable_11 : callable Try.prog 11 = true := by kernel_rfl
@[simp] theorem callable_12 : callable Try.prog 12 = true := by kernel_rfl
@[simp] theorem callable_13 : callable Try.prog 13 = true := by kernel_rfl
@[simp] theorem callable_14 : callable Try.prog 14 = true := by kernel_rfl
@[simp] theorem callable_15 : callable Try.prog 15 = true := by kernel_rfl
@[simp] theorem callable_16 : callable Try.prog 16 = true := by kernel_rfl
@[simp] theorem callable_17 : callable Try.prog 17 = true := by kernel_rfl
@[simp] theorem callable_18 : callable Try.prog 18 = true := by kernel_rfl
@[simp] theorem callable_19 : callable Try.prog 19 = true := by kernel_rfl
@[simp] theorem callable_20 : callable Try.prog 20 = true := by kernel_rfl
@[simp] theorem callable_21 : callable Try.prog 21 = true := by kernel_rfl
@[simp] theorem callable_22 : callable Try.prog 22 = true := by kernel_rfl
@[simp] theorem callable_23 : callable Try.prog 23 = true := by kernel_rfl
@[simp] theorem callable_24 : callable Try.prog 24 = true := by kernel_rfl
@[simp] theorem callable_25 : callable Try.prog 25 = true := by kernel_rfl
@[simp] theorem callable_26 : callable Try.prog 26 = true := by kernel_rfl
@[simp] theorem callable_27 : callable Try.prog 27 = true := by kernel_rfl
@[simp] theorem callable_28 : callable Try.prog 28 = true := by kernel_rfl
@[simp] theorem callable_29 : callable Try.prog 29 = true := by kernel_rfl
@[simp] theorem callable_30 : callable Try.prog 30 = true := by kernel_rfl
@[simp] theorem callable_31 : callable Try.prog 31 = true := by kernel_rfl
@[simp] theorem callable_32 : callable Try.prog 32 = true := by kernel_rfl
@[simp] theorem callable_33 : callable Try.prog 33 = true := by kernel_rfl
@[simp] theorem callable_34 : callable Try.prog 34 = true := by kernel_rfl
@[simp] theorem callable_35 : callable Try.prog 35 = true := by kernel_rfl
@[simp] theorem callable_36 : callable Try.prog 36 = true := by kernel_rfl
@[simp] theorem callable_37 : callable Try.prog 37 = true := by kernel_rfl
@[simp] theorem callable_38 : callable Try.prog 38 = true := by kernel_rfl
@[simp] theorem callable_39 : callable Try.prog 39 = true := by kernel_rfl
@[simp] theorem callable_40 : callable Try.prog 40 = true := by kernel_rfl
@[simp] theorem callable_41 : callable Try.prog 41 = true := by kernel_rfl
@[simp] theorem callable_42 : callable Try.prog 42 = true := by kernel_rfl
@[simp] theorem callable_43 : callable Try.prog 43 = true := by kernel_rfl
@[simp] theorem callable_44 : callable Try.prog 44 = true := by kernel_rfl
@[simp] theorem callable_45 : callable Try.prog 45 = true := by kernel_rfl
@[simp] theorem callable_46 : callable Try.prog 46 = true := by kernel_rfl
@[simp] theorem callable_47 : callable Try.prog 47 = true := by kernel_rfl
@[simp] theorem callable_48 : callable Try.prog 48 = true := by kernel_rfl
@[simp] theorem callable_49 : callable Try.prog 49 = true := by kernel_rfl
@[simp] theorem callable_50 : callable Try.prog 50 = true := by kernel_rfl
@[simp] theorem callable_51 : callable Try.prog 51 = true := by kernel_rfl
@[simp] theorem callable_52 : callable Try.prog 52 = true := by kernel_rfl
@[simp] theorem callable_53 : callable Try.prog 53 = true := by kernel_rfl
@[simp] theorem callable_54 : callable Try.prog 54 = true := by kernel_rfl
@[simp] theorem callable_55 : callable Try.prog 55 = true := by kernel_rfl
@[simp] theorem callable_56 : callable Try.prog 56 = true := by kernel_rfl
@[simp] theorem callable_57 : callable Try.prog 57 = true := by kernel_rfl
@[simp] theorem callable_58 : callable Try.prog 58 = true := by kernel_rfl
@[simp] theorem callable_59 : callable Try.prog 59 = true := by kernel_rfl
@[simp] theorem callable_60 : callable Try.prog 60 = true := by kernel_rfl
@[simp] theorem callable_61 : callable Try.prog 61 = true := by kernel_rfl
@[simp] theorem callable_62 : callable Try.prog 62 = true := by kernel_rfl

end Go.Proofs.Ytkbhdlocdajhmaa
