import Derived.Test.YtdbaddholggkbaaProg
import Derived.Test.YtdbaddholggkbaaVmI
import Derived.KernelRfl
/-
  What each type of the translation is, told once.
-/
namespace Go.Proofs.Ytdbaddholggkbaa
open Go Go.Vm

@[simp] theorem ti_1 : ti Try.prog 1 = some ⟨false, 1, 8, .nilFunc⟩ := by kernel_rfl
@[simp] theorem ti_2 : ti Try.prog 2 = some ⟨false, 1, 8, .int .i64 0⟩ := by kernel_rfl
@[simp] theorem elemT_2 : elemT Try.prog 2 = none := by kernel_rfl
@[simp] theorem arrT_2 : arrT Try.prog 2 = none := by kernel_rfl
@[simp] theorem isPtrT_2 : isPtrT Try.prog 2 = false := by kernel_rfl
@[simp] theorem isStrT_2 : isStrT Try.prog 2 = false := by kernel_rfl
@[simp] theorem intT_2 : intT Try.prog 2 = some .i64 := by kernel_rfl
@[simp] theorem isU8_2 : isU8 Try.prog 2 = false := by kernel_rfl
@[simp] theorem ti_3 : ti Try.prog 3 = some ⟨false, 1, 8, .int .i64 0⟩ := by kernel_rfl
@[simp] theorem elemT_3 : elemT Try.prog 3 = none := by kernel_rfl
@[simp] theorem arrT_3 : arrT Try.prog 3 = none := by kernel_rfl
@[simp] theorem isPtrT_3 : isPtrT Try.prog 3 = false := by kernel_rfl
@[simp] theorem isStrT_3 : isStrT Try.prog 3 = false := by kernel_rfl
@[simp] theorem intT_3 : intT Try.prog 3 = some .i64 := by kernel_rfl
@[simp] theorem isU8_3 : isU8 Try.prog 3 = false := by kernel_rfl
@[simp] theorem ti_4 : ti Try.prog 4 = some ⟨false, 1, 1, .bool false⟩ := by kernel_rfl
@[simp] theorem elemT_4 : elemT Try.prog 4 = none := by kernel_rfl
@[simp] theorem arrT_4 : arrT Try.prog 4 = none := by kernel_rfl
@[simp] theorem isPtrT_4 : isPtrT Try.prog 4 = false := by kernel_rfl
@[simp] theorem eqB_4 (xo yo : Operand) (a b : Bool) : binA Try.prog .eql 4 xo yo (.v (.bool a)) (.v (.bool b)) = some (.v (.bool (a == b))) := by cases a <;> cases b <;> kernel_rfl
@[simp] theorem neB_4 (xo yo : Operand) (a b : Bool) : binA Try.prog .neq 4 xo yo (.v (.bool a)) (.v (.bool b)) = some (.v (.bool (a != b))) := by cases a <;> cases b <;> kernel_rfl
@[simp] theorem ti_5 : ti Try.prog 5 = some ⟨false, 1, 1, .int .u8 0⟩ := by kernel_rfl
@[simp] theorem elemT_5 : elemT Try.prog 5 = none := by kernel_rfl
@[simp] theorem arrT_5 : arrT Try.prog 5 = none := by kernel_rfl
@[simp] theorem isPtrT_5 : isPtrT Try.prog 5 = false := by kernel_rfl
@[simp] theorem isStrT_5 : isStrT Try.prog 5 = false := by kernel_rfl
@[simp] theorem intT_5 : intT Try.prog 5 = some .u8 := by kernel_rfl
@[simp] theorem isU8_5 : isU8 Try.prog 5 = true := by kernel_rfl
@[simp] theorem ti_6 : ti Try.prog 6 = some ⟨false, 1, 1, .int .u8 0⟩ := by kernel_rfl
@[simp] theorem elemT_6 : elemT Try.prog 6 = none := by kernel_rfl
@[simp] theorem arrT_6 : arrT Try.prog 6 = none := by kernel_rfl
@[simp] theorem isPtrT_6 : isPtrT Try.prog 6 = false := by kernel_rfl
@[simp] theorem isStrT_6 : isStrT Try.prog 6 = false := by kernel_rfl
@[simp] theorem intT_6 : intT Try.prog 6 = some .u8 := by kernel_rfl
@[simp] theorem isU8_6 : isU8 Try.prog 6 = true := by kernel_rfl
@[simp] theorem ti_7 : ti Try.prog 7 = some ⟨true, 4, 24, .agg #[.int .i64 0, .int .i64 0, .bool false, .int .u8 0]⟩ := by kernel_rfl
@[simp] theorem elemT_7 : elemT Try.prog 7 = none := by kernel_rfl
@[simp] theorem arrT_7 : arrT Try.prog 7 = none := by kernel_rfl
@[simp] theorem fieldT_7_0 : fieldT Try.prog 7 0 = some (0, 2) := by kernel_rfl
@[simp] theorem fieldT_7_1 : fieldT Try.prog 7 1 = some (1, 3) := by kernel_rfl
@[simp] theorem fieldT_7_2 : fieldT Try.prog 7 2 = some (2, 4) := by kernel_rfl
@[simp] theorem fieldT_7_3 : fieldT Try.prog 7 3 = some (3, 6) := by kernel_rfl
@[simp] theorem placesA_7 : placesA Try.prog 7 = some [(0, 1), (1, 1), (2, 1), (3, 1)] := by kernel_rfl
@[simp] theorem isPtrT_7 : isPtrT Try.prog 7 = false := by kernel_rfl
@[simp] theorem flatT_7 : flatT Try.prog 7 = some [some .i64, some .i64, none, some .u8] := by kernel_rfl
@[simp] theorem ti_8 : ti Try.prog 8 = some ⟨true, 4, 24, .agg #[.int .i64 0, .int .i64 0, .bool false, .int .u8 0]⟩ := by kernel_rfl
@[simp] theorem elemT_8 : elemT Try.prog 8 = none := by kernel_rfl
@[simp] theorem arrT_8 : arrT Try.prog 8 = none := by kernel_rfl
@[simp] theorem fieldT_8_0 : fieldT Try.prog 8 0 = some (0, 2) := by kernel_rfl
@[simp] theorem fieldT_8_1 : fieldT Try.prog 8 1 = some (1, 3) := by kernel_rfl
@[simp] theorem fieldT_8_2 : fieldT Try.prog 8 2 = some (2, 4) := by kernel_rfl
@[simp] theorem fieldT_8_3 : fieldT Try.prog 8 3 = some (3, 6) := by kernel_rfl
@[simp] theorem placesA_8 : placesA Try.prog 8 = some [(0, 1), (1, 1), (2, 1), (3, 1)] := by kernel_rfl
@[simp] theorem isPtrT_8 : isPtrT Try.prog 8 = false := by kernel_rfl
@[simp] theorem flatT_8 : flatT Try.prog 8 = some [some .i64, some .i64, none, some .u8] := by kernel_rfl
@[simp] theorem ti_9 : ti Try.prog 9 = some ⟨false, 1, 16, .string ByteArray.empty⟩ := by kernel_rfl
@[simp] theorem elemT_9 : elemT Try.prog 9 = none := by kernel_rfl
@[simp] theorem arrT_9 : arrT Try.prog 9 = none := by kernel_rfl
@[simp] theorem isPtrT_9 : isPtrT Try.prog 9 = false := by kernel_rfl
@[simp] theorem isStrT_9 : isStrT Try.prog 9 = true := by kernel_rfl
@[simp] theorem ti_10 : ti Try.prog 10 = some ⟨false, 1, 16, .string ByteArray.empty⟩ := by kernel_rfl
@[simp] theorem elemT_10 : elemT Try.prog 10 = none := by kernel_rfl
@[simp] theorem arrT_10 : arrT Try.prog 10 = none := by kernel_rfl
@[simp] theorem isPtrT_10 : isPtrT Try.prog 10 = false := by kernel_rfl
@[simp] theorem isStrT_10 : isStrT Try.prog 10 = true := by kernel_rfl
@[simp] theorem ti_11 : ti Try.prog 11 = some ⟨false, 1, 16, .string ByteArray.empty⟩ := by kernel_rfl
@[simp] theorem elemT_11 : elemT Try.prog 11 = none := by kernel_rfl
@[simp] theorem arrT_11 : arrT Try.prog 11 = none := by kernel_rfl
@[simp] theorem isPtrT_11 : isPtrT Try.prog 11 = false := by kernel_rfl
@[simp] theorem isStrT_11 : isStrT Try.prog 11 = true := by kernel_rfl
@[simp] theorem ti_12 : ti Try.prog 12 = some ⟨false, 1, 8, .int .u64 0⟩ := by kernel_rfl
@[simp] theorem elemT_12 : elemT Try.prog 12 = none := by kernel_rfl
@[simp] theorem arrT_12 : arrT Try.prog 12 = none := by kernel_rfl
@[simp] theorem isPtrT_12 : isPtrT Try.prog 12 = false := by kernel_rfl
@[simp] theorem isStrT_12 : isStrT Try.prog 12 = false := by kernel_rfl
@[simp] theorem intT_12 : intT Try.prog 12 = some .u64 := by kernel_rfl
@[simp] theorem isU8_12 : isU8 Try.prog 12 = false := by kernel_rfl
@[simp] theorem ti_13 : ti Try.prog 13 = some ⟨true, 2, 24, .agg #[.string ByteArray.empty, .int .u64 0]⟩ := by kernel_rfl
@[simp] theorem elemT_13 : elemT Try.prog 13 = none := by kernel_rfl
@[simp] theorem arrT_13 : arrT Try.prog 13 = none := by kernel_rfl
@[simp] theorem fieldT_13_0 : fieldT Try.prog 13 0 = some (0, 9) := by kernel_rfl
@[simp] theorem fieldT_13_1 : fieldT Try.prog 13 1 = some (1, 12) := by kernel_rfl
@[simp] theorem placesA_13 : placesA Try.prog 13 = some [(0, 1), (1, 1)] := by kernel_rfl
@[simp] theorem isPtrT_13 : isPtrT Try.prog 13 = false := by kernel_rfl
@[simp] theorem ti_14 : ti Try.prog 14 = some ⟨true, 2, 24, .agg #[.string ByteArray.empty, .int .u64 0]⟩ := by kernel_rfl
@[simp] theorem elemT_14 : elemT Try.prog 14 = none := by kernel_rfl
@[simp] theorem arrT_14 : arrT Try.prog 14 = none := by kernel_rfl
@[simp] theorem fieldT_14_0 : fieldT Try.prog 14 0 = some (0, 9) := by kernel_rfl
@[simp] theorem fieldT_14_1 : fieldT Try.prog 14 1 = some (1, 12) := by kernel_rfl
@[simp] theorem placesA_14 : placesA Try.prog 14 = some [(0, 1), (1, 1)] := by kernel_rfl
@[simp] theorem isPtrT_14 : isPtrT Try.prog 14 = false := by kernel_rfl
@[simp] theorem ti_15 : ti Try.prog 15 = some ⟨false, 1, 8, .pointer none⟩ := by kernel_rfl
@[simp] theorem elemT_15 : elemT Try.prog 15 = none := by kernel_rfl
@[simp] theorem arrT_15 : arrT Try.prog 15 = none := by kernel_rfl
@[simp] theorem isPtrT_15 : isPtrT Try.prog 15 = true := by kernel_rfl
@[simp] theorem ti_16 : ti Try.prog 16 = some ⟨false, 1, 8, .pointer none⟩ := by kernel_rfl
@[simp] theorem elemT_16 : elemT Try.prog 16 = none := by kernel_rfl
@[simp] theorem arrT_16 : arrT Try.prog 16 = none := by kernel_rfl
@[simp] theorem isPtrT_16 : isPtrT Try.prog 16 = true := by kernel_rfl
@[simp] theorem ti_17 : ti Try.prog 17 = some ⟨false, 1, 8, .pointer none⟩ := by kernel_rfl
@[simp] theorem elemT_17 : elemT Try.prog 17 = none := by kernel_rfl
@[simp] theorem arrT_17 : arrT Try.prog 17 = none := by kernel_rfl
@[simp] theorem isPtrT_17 : isPtrT Try.prog 17 = true := by kernel_rfl
@[simp] theorem ti_18 : ti Try.prog 18 = some ⟨true, 1, 8, .agg #[.pointer none]⟩ := by kernel_rfl
@[simp] theorem elemT_18 : elemT Try.prog 18 = none := by kernel_rfl
@[simp] theorem arrT_18 : arrT Try.prog 18 = none := by kernel_rfl
@[simp] theorem fieldT_18_0 : fieldT Try.prog 18 0 = some (0, 17) := by kernel_rfl
@[simp] theorem placesA_18 : placesA Try.prog 18 = some [(0, 1)] := by kernel_rfl
@[simp] theorem isPtrT_18 : isPtrT Try.prog 18 = false := by kernel_rfl
@[simp] theorem ti_19 : ti Try.prog 19 = some ⟨true, 1, 8, .agg #[.pointer none]⟩ := by kernel_rfl
@[simp] theorem elemT_19 : elemT Try.prog 19 = none := by kernel_rfl
@[simp] theorem arrT_19 : arrT Try.prog 19 = none := by kernel_rfl
@[simp] theorem fieldT_19_0 : fieldT Try.prog 19 0 = some (0, 17) := by kernel_rfl
@[simp] theorem placesA_19 : placesA Try.prog 19 = some [(0, 1)] := by kernel_rfl
@[simp] theorem isPtrT_19 : isPtrT Try.prog 19 = false := by kernel_rfl
@[simp] theorem ti_21 : ti Try.prog 21 = some ⟨false, 1, 4, .int .i32 0⟩ := by kernel_rfl
@[simp] theorem elemT_21 : elemT Try.prog 21 = none := by kernel_rfl
@[simp] theorem arrT_21 : arrT Try.prog 21 = none := by kernel_rfl
@[simp] theorem isPtrT_21 : isPtrT Try.prog 21 = false := by kernel_rfl
@[simp] theorem isStrT_21 : isStrT Try.prog 21 = false := by kernel_rfl
@[simp] theorem intT_21 : intT Try.prog 21 = some .i32 := by kernel_rfl
@[simp] theorem isU8_21 : isU8 Try.prog 21 = false := by kernel_rfl
@[simp] theorem ti_22 : ti Try.prog 22 = some ⟨false, 1, 8, .int .u64 0⟩ := by kernel_rfl
@[simp] theorem elemT_22 : elemT Try.prog 22 = none := by kernel_rfl
@[simp] theorem arrT_22 : arrT Try.prog 22 = none := by kernel_rfl
@[simp] theorem isPtrT_22 : isPtrT Try.prog 22 = false := by kernel_rfl
@[simp] theorem isStrT_22 : isStrT Try.prog 22 = false := by kernel_rfl
@[simp] theorem intT_22 : intT Try.prog 22 = some .u64 := by kernel_rfl
@[simp] theorem isU8_22 : isU8 Try.prog 22 = false := by kernel_rfl
@[simp] theorem ti_23 : ti Try.prog 23 = some ⟨false, 1, 24, .slice none 0 0⟩ := by kernel_rfl
@[simp] theorem elemT_23 : elemT Try.prog 23 = some 86 := by kernel_rfl
@[simp] theorem arrT_23 : arrT Try.prog 23 = none := by kernel_rfl
@[simp] theorem isPtrT_23 : isPtrT Try.prog 23 = false := by kernel_rfl
@[simp] theorem ti_24 : ti Try.prog 24 = some ⟨false, 1, 24, .slice none 0 0⟩ := by kernel_rfl
@[simp] theorem elemT_24 : elemT Try.prog 24 = some 88 := by kernel_rfl
@[simp] theorem arrT_24 : arrT Try.prog 24 = none := by kernel_rfl
@[simp] theorem isPtrT_24 : isPtrT Try.prog 24 = false := by kernel_rfl
@[simp] theorem ti_25 : ti Try.prog 25 = some ⟨true, 5, 72, .agg #[.int .u8 0, .int .u64 0, .int .u64 0, .slice none 0 0, .slice none 0 0]⟩ := by kernel_rfl
@[simp] theorem elemT_25 : elemT Try.prog 25 = none := by kernel_rfl
@[simp] theorem arrT_25 : arrT Try.prog 25 = none := by kernel_rfl
@[simp] theorem fieldT_25_0 : fieldT Try.prog 25 0 = some (0, 5) := by kernel_rfl
@[simp] theorem fieldT_25_1 : fieldT Try.prog 25 1 = some (1, 22) := by kernel_rfl
@[simp] theorem fieldT_25_2 : fieldT Try.prog 25 2 = some (2, 22) := by kernel_rfl
@[simp] theorem fieldT_25_3 : fieldT Try.prog 25 3 = some (3, 23) := by kernel_rfl
@[simp] theorem fieldT_25_4 : fieldT Try.prog 25 4 = some (4, 24) := by kernel_rfl
@[simp] theorem placesA_25 : placesA Try.prog 25 = some [(0, 1), (1, 1), (2, 1), (3, 1), (4, 1)] := by kernel_rfl
@[simp] theorem isPtrT_25 : isPtrT Try.prog 25 = false := by kernel_rfl
@[simp] theorem ti_26 : ti Try.prog 26 = some ⟨true, 5, 72, .agg #[.int .u8 0, .int .u64 0, .int .u64 0, .slice none 0 0, .slice none 0 0]⟩ := by kernel_rfl
@[simp] theorem elemT_26 : elemT Try.prog 26 = none := by kernel_rfl
@[simp] theorem arrT_26 : arrT Try.prog 26 = none := by kernel_rfl
@[simp] theorem fieldT_26_0 : fieldT Try.prog 26 0 = some (0, 5) := by kernel_rfl
@[simp] theorem fieldT_26_1 : fieldT Try.prog 26 1 = some (1, 22) := by kernel_rfl
@[simp] theorem fieldT_26_2 : fieldT Try.prog 26 2 = some (2, 22) := by kernel_rfl
@[simp] theorem fieldT_26_3 : fieldT Try.prog 26 3 = some (3, 23) := by kernel_rfl
@[simp] theorem fieldT_26_4 : fieldT Try.prog 26 4 = some (4, 24) := by kernel_rfl
@[simp] theorem placesA_26 : placesA Try.prog 26 = some [(0, 1), (1, 1), (2, 1), (3, 1), (4, 1)] := by kernel_rfl
@[simp] theorem isPtrT_26 : isPtrT Try.prog 26 = false := by kernel_rfl
@[simp] theorem ti_27 : ti Try.prog 27 = some ⟨false, 1, 8, .nilFunc⟩ := by kernel_rfl
@[simp] theorem ti_28 : ti Try.prog 28 = some ⟨false, 1, 8, .nilFunc⟩ := by kernel_rfl
@[simp] theorem ti_29 : ti Try.prog 29 = some ⟨false, 1, 4, .int .u32 0⟩ := by kernel_rfl
@[simp] theorem elemT_29 : elemT Try.prog 29 = none := by kernel_rfl
@[simp] theorem arrT_29 : arrT Try.prog 29 = none := by kernel_rfl
@[simp] theorem isPtrT_29 : isPtrT Try.prog 29 = false := by kernel_rfl
@[simp] theorem isStrT_29 : isStrT Try.prog 29 = false := by kernel_rfl
@[simp] theorem intT_29 : intT Try.prog 29 = some .u32 := by kernel_rfl
@[simp] theorem isU8_29 : isU8 Try.prog 29 = false := by kernel_rfl
@[simp] theorem ti_30 : ti Try.prog 30 = some ⟨false, 1, 2, .int .u16 0⟩ := by kernel_rfl
@[simp] theorem elemT_30 : elemT Try.prog 30 = none := by kernel_rfl
@[simp] theorem arrT_30 : arrT Try.prog 30 = none := by kernel_rfl
@[simp] theorem isPtrT_30 : isPtrT Try.prog 30 = false := by kernel_rfl
@[simp] theorem isStrT_30 : isStrT Try.prog 30 = false := by kernel_rfl
@[simp] theorem intT_30 : intT Try.prog 30 = some .u16 := by kernel_rfl
@[simp] theorem isU8_30 : isU8 Try.prog 30 = false := by kernel_rfl
@[simp] theorem ti_31 : ti Try.prog 31 = some ⟨false, 1, 24, .slice none 0 0⟩ := by kernel_rfl
@[simp] theorem elemT_31 : elemT Try.prog 31 = some 90 := by kernel_rfl
@[simp] theorem arrT_31 : arrT Try.prog 31 = none := by kernel_rfl
@[simp] theorem isPtrT_31 : isPtrT Try.prog 31 = false := by kernel_rfl
@[simp] theorem ti_32 : ti Try.prog 32 = some ⟨true, 5, 64, .agg #[.int .u8 0, .int .u32 0, .int .u16 0, .slice none 0 0, .slice none 0 0]⟩ := by kernel_rfl
@[simp] theorem elemT_32 : elemT Try.prog 32 = none := by kernel_rfl
@[simp] theorem arrT_32 : arrT Try.prog 32 = none := by kernel_rfl
@[simp] theorem fieldT_32_0 : fieldT Try.prog 32 0 = some (0, 5) := by kernel_rfl
@[simp] theorem fieldT_32_1 : fieldT Try.prog 32 1 = some (1, 29) := by kernel_rfl
@[simp] theorem fieldT_32_2 : fieldT Try.prog 32 2 = some (2, 30) := by kernel_rfl
@[simp] theorem fieldT_32_3 : fieldT Try.prog 32 3 = some (3, 23) := by kernel_rfl
@[simp] theorem fieldT_32_4 : fieldT Try.prog 32 4 = some (4, 31) := by kernel_rfl
@[simp] theorem placesA_32 : placesA Try.prog 32 = some [(0, 1), (1, 1), (2, 1), (3, 1), (4, 1)] := by kernel_rfl
@[simp] theorem isPtrT_32 : isPtrT Try.prog 32 = false := by kernel_rfl
@[simp] theorem ti_33 : ti Try.prog 33 = some ⟨true, 5, 64, .agg #[.int .u8 0, .int .u32 0, .int .u16 0, .slice none 0 0, .slice none 0 0]⟩ := by kernel_rfl
@[simp] theorem elemT_33 : elemT Try.prog 33 = none := by kernel_rfl
@[simp] theorem arrT_33 : arrT Try.prog 33 = none := by kernel_rfl
@[simp] theorem fieldT_33_0 : fieldT Try.prog 33 0 = some (0, 5) := by kernel_rfl
@[simp] theorem fieldT_33_1 : fieldT Try.prog 33 1 = some (1, 29) := by kernel_rfl
@[simp] theorem fieldT_33_2 : fieldT Try.prog 33 2 = some (2, 30) := by kernel_rfl
@[simp] theorem fieldT_33_3 : fieldT Try.prog 33 3 = some (3, 23) := by kernel_rfl
@[simp] theorem fieldT_33_4 : fieldT Try.prog 33 4 = some (4, 31) := by kernel_rfl
@[simp] theorem placesA_33 : placesA Try.prog 33 = some [(0, 1), (1, 1), (2, 1), (3, 1), (4, 1)] := by kernel_rfl
@[simp] theorem isPtrT_33 : isPtrT Try.prog 33 = false := by kernel_rfl
@[simp] theorem ti_34 : ti Try.prog 34 = some ⟨false, 1, 1, .int .i8 0⟩ := by kernel_rfl
@[simp] theorem elemT_34 : elemT Try.prog 34 = none := by kernel_rfl
@[simp] theorem arrT_34 : arrT Try.prog 34 = none := by kernel_rfl
@[simp] theorem isPtrT_34 : isPtrT Try.prog 34 = false := by kernel_rfl
@[simp] theorem isStrT_34 : isStrT Try.prog 34 = false := by kernel_rfl
@[simp] theorem intT_34 : intT Try.prog 34 = some .i8 := by kernel_rfl
@[simp] theorem isU8_34 : isU8 Try.prog 34 = false := by kernel_rfl
@[simp] theorem ti_35 : ti Try.prog 35 = some ⟨false, 1, 8, .nilFunc⟩ := by kernel_rfl
@[simp] theorem ti_36 : ti Try.prog 36 = some ⟨false, 1, 8, .nilFunc⟩ := by kernel_rfl
@[simp] theorem ti_37 : ti Try.prog 37 = some ⟨false, 1, 8, .nilFunc⟩ := by kernel_rfl
@[simp] theorem ti_38 : ti Try.prog 38 = some ⟨false, 1, 8, .nilFunc⟩ := by kernel_rfl
@[simp] theorem ti_39 : ti Try.prog 39 = some ⟨false, 1, 8, .nilFunc⟩ := by kernel_rfl
@[simp] theorem ti_40 : ti Try.prog 40 = some ⟨false, 1, 8, .nilFunc⟩ := by kernel_rfl
@[simp] theorem ti_42 : ti Try.prog 42 = some ⟨false, 1, 8, .nilFunc⟩ := by kernel_rfl
@[simp] theorem ti_43 : ti Try.prog 43 = some ⟨false, 1, 8, .nilFunc⟩ := by kernel_rfl
@[simp] theorem ti_44 : ti Try.prog 44 = some ⟨false, 1, 8, .nilFunc⟩ := by kernel_rfl
@[simp] theorem ti_45 : ti Try.prog 45 = some ⟨false, 1, 8, .nilFunc⟩ := by kernel_rfl
@[simp] theorem ti_46 : ti Try.prog 46 = some ⟨false, 1, 8, .nilFunc⟩ := by kernel_rfl
@[simp] theorem ti_47 : ti Try.prog 47 = some ⟨false, 1, 24, .slice none 0 0⟩ := by kernel_rfl
@[simp] theorem elemT_47 : elemT Try.prog 47 = some 5 := by kernel_rfl
@[simp] theorem arrT_47 : arrT Try.prog 47 = none := by kernel_rfl
@[simp] theorem isPtrT_47 : isPtrT Try.prog 47 = false := by kernel_rfl
@[simp] theorem ti_48 : ti Try.prog 48 = some ⟨false, 1, 8, .pointer none⟩ := by kernel_rfl
@[simp] theorem elemT_48 : elemT Try.prog 48 = none := by kernel_rfl
@[simp] theorem arrT_48 : arrT Try.prog 48 = none := by kernel_rfl
@[simp] theorem isPtrT_48 : isPtrT Try.prog 48 = true := by kernel_rfl
@[simp] theorem ti_49 : ti Try.prog 49 = some ⟨false, 1, 8, .nilFunc⟩ := by kernel_rfl
@[simp] theorem ti_50 : ti Try.prog 50 = some ⟨false, 1, 8, .pointer none⟩ := by kernel_rfl
@[simp] theorem elemT_50 : elemT Try.prog 50 = none := by kernel_rfl
@[simp] theorem arrT_50 : arrT Try.prog 50 = none := by kernel_rfl
@[simp] theorem isPtrT_50 : isPtrT Try.prog 50 = true := by kernel_rfl
@[simp] theorem ti_51 : ti Try.prog 51 = some ⟨true, 3, 40, .agg #[.slice none 0 0, .int .i64 0, .bool false]⟩ := by kernel_rfl
@[simp] theorem elemT_51 : elemT Try.prog 51 = none := by kernel_rfl
@[simp] theorem arrT_51 : arrT Try.prog 51 = none := by kernel_rfl
@[simp] theorem fieldT_51_0 : fieldT Try.prog 51 0 = some (0, 47) := by kernel_rfl
@[simp] theorem fieldT_51_1 : fieldT Try.prog 51 1 = some (1, 3) := by kernel_rfl
@[simp] theorem fieldT_51_2 : fieldT Try.prog 51 2 = some (2, 4) := by kernel_rfl
@[simp] theorem placesA_51 : placesA Try.prog 51 = some [(0, 1), (1, 1), (2, 1)] := by kernel_rfl
@[simp] theorem isPtrT_51 : isPtrT Try.prog 51 = false := by kernel_rfl
@[simp] theorem ti_52 : ti Try.prog 52 = some ⟨true, 3, 40, .agg #[.slice none 0 0, .int .i64 0, .bool false]⟩ := by kernel_rfl
@[simp] theorem elemT_52 : elemT Try.prog 52 = none := by kernel_rfl
@[simp] theorem arrT_52 : arrT Try.prog 52 = none := by kernel_rfl
@[simp] theorem fieldT_52_0 : fieldT Try.prog 52 0 = some (0, 47) := by kernel_rfl
@[simp] theorem fieldT_52_1 : fieldT Try.prog 52 1 = some (1, 3) := by kernel_rfl
@[simp] theorem fieldT_52_2 : fieldT Try.prog 52 2 = some (2, 4) := by kernel_rfl
@[simp] theorem placesA_52 : placesA Try.prog 52 = some [(0, 1), (1, 1), (2, 1)] := by kernel_rfl
@[simp] theorem isPtrT_52 : isPtrT Try.prog 52 = false := by kernel_rfl
@[simp] theorem ti_53 : ti Try.prog 53 = some ⟨false, 1, 8, .nilFunc⟩ := by kernel_rfl
@[simp] theorem ti_54 : ti Try.prog 54 = some ⟨false, 1, 8, .nilFunc⟩ := by kernel_rfl
@[simp] theorem ti_55 : ti Try.prog 55 = some ⟨false, 1, 8, .nilFunc⟩ := by kernel_rfl
@[simp] theorem ti_56 : ti Try.prog 56 = some ⟨false, 1, 8, .nilFunc⟩ := by kernel_rfl
@[simp] theorem ti_57 : ti Try.prog 57 = some ⟨false, 1, 8, .pointer none⟩ := by kernel_rfl
@[simp] theorem elemT_57 : elemT Try.prog 57 = none := by kernel_rfl
@[simp] theorem arrT_57 : arrT Try.prog 57 = none := by kernel_rfl
@[simp] theorem isPtrT_57 : isPtrT Try.prog 57 = true := by kernel_rfl
@[simp] theorem ti_58 : ti Try.prog 58 = some ⟨true, 1, 24, .agg #[.slice none 0 0]⟩ := by kernel_rfl
@[simp] theorem elemT_58 : elemT Try.prog 58 = none := by kernel_rfl
@[simp] theorem arrT_58 : arrT Try.prog 58 = none := by kernel_rfl
@[simp] theorem fieldT_58_0 : fieldT Try.prog 58 0 = some (0, 47) := by kernel_rfl
@[simp] theorem placesA_58 : placesA Try.prog 58 = some [(0, 1)] := by kernel_rfl
@[simp] theorem isPtrT_58 : isPtrT Try.prog 58 = false := by kernel_rfl
@[simp] theorem ti_59 : ti Try.prog 59 = some ⟨true, 1, 24, .agg #[.slice none 0 0]⟩ := by kernel_rfl
@[simp] theorem elemT_59 : elemT Try.prog 59 = none := by kernel_rfl
@[simp] theorem arrT_59 : arrT Try.prog 59 = none := by kernel_rfl
@[simp] theorem fieldT_59_0 : fieldT Try.prog 59 0 = some (0, 47) := by kernel_rfl
@[simp] theorem placesA_59 : placesA Try.prog 59 = some [(0, 1)] := by kernel_rfl
@[simp] theorem isPtrT_59 : isPtrT Try.prog 59 = false := by kernel_rfl
@[simp] theorem ti_60 : ti Try.prog 60 = some ⟨false, 1, 8, .nilFunc⟩ := by kernel_rfl
@[simp] theorem ti_61 : ti Try.prog 61 = some ⟨false, 1, 8, .nilFunc⟩ := by kernel_rfl
@[simp] theorem ti_62 : ti Try.prog 62 = some ⟨false, 1, 8, .nilFunc⟩ := by kernel_rfl
@[simp] theorem ti_63 : ti Try.prog 63 = some ⟨false, 1, 8, .nilFunc⟩ := by kernel_rfl
@[simp] theorem ti_64 : ti Try.prog 64 = some ⟨false, 1, 8, .nilFunc⟩ := by kernel_rfl
@[simp] theorem ti_65 : ti Try.prog 65 = some ⟨false, 1, 8, .nilFunc⟩ := by kernel_rfl
@[simp] theorem ti_66 : ti Try.prog 66 = some ⟨false, 1, 8, .nilFunc⟩ := by kernel_rfl
@[simp] theorem ti_67 : ti Try.prog 67 = some ⟨false, 1, 8, .nilFunc⟩ := by kernel_rfl
@[simp] theorem ti_68 : ti Try.prog 68 = some ⟨true, 4, 32, .agg #[.int .u64 0, .int .u64 0, .int .u64 0, .int .u64 0]⟩ := by kernel_rfl
@[simp] theorem elemT_68 : elemT Try.prog 68 = none := by kernel_rfl
@[simp] theorem arrT_68 : arrT Try.prog 68 = some (4, 22) := by kernel_rfl
@[simp] theorem placesA_68 : placesA Try.prog 68 = some [(0, 1), (1, 1), (2, 1), (3, 1)] := by kernel_rfl
@[simp] theorem isPtrT_68 : isPtrT Try.prog 68 = false := by kernel_rfl
@[simp] theorem flatT_68 : flatT Try.prog 68 = some [some .u64, some .u64, some .u64, some .u64] := by kernel_rfl
@[simp] theorem ti_69 : ti Try.prog 69 = some ⟨true, 4, 32, .agg #[.int .u64 0, .int .u64 0, .int .u64 0, .int .u64 0]⟩ := by kernel_rfl
@[simp] theorem elemT_69 : elemT Try.prog 69 = none := by kernel_rfl
@[simp] theorem arrT_69 : arrT Try.prog 69 = some (4, 22) := by kernel_rfl
@[simp] theorem placesA_69 : placesA Try.prog 69 = some [(0, 1), (1, 1), (2, 1), (3, 1)] := by kernel_rfl
@[simp] theorem isPtrT_69 : isPtrT Try.prog 69 = false := by kernel_rfl
@[simp] theorem flatT_69 : flatT Try.prog 69 = some [some .u64, some .u64, some .u64, some .u64] := by kernel_rfl
@[simp] theorem ti_70 : ti Try.prog 70 = some ⟨false, 1, 24, .slice none 0 0⟩ := by kernel_rfl
@[simp] theorem elemT_70 : elemT Try.prog 70 = some 122 := by kernel_rfl
@[simp] theorem arrT_70 : arrT Try.prog 70 = none := by kernel_rfl
@[simp] theorem isPtrT_70 : isPtrT Try.prog 70 = false := by kernel_rfl
@[simp] theorem ti_71 : ti Try.prog 71 = some ⟨true, 21, 216, .agg #[.int .u8 0, .int .u8 0, .int .u64 0, .slice none 0 0, .int .u8 0, .int .u8 0, .int .u8 0, .int .u64 0, .int .u64 0, .int .u64 0, .int .u64 0, .slice none 0 0, .slice none 0 0, .int .u8 0, .int .u64 0, .int .u64 0, .slice none 0 0, .slice none 0 0, .int .u64 0, .int .u16 0, .bool false]⟩ := by kernel_rfl
@[simp] theorem elemT_71 : elemT Try.prog 71 = none := by kernel_rfl
@[simp] theorem arrT_71 : arrT Try.prog 71 = none := by kernel_rfl
@[simp] theorem fieldT_71_0 : fieldT Try.prog 71 0 = some (0, 5) := by kernel_rfl
@[simp] theorem fieldT_71_1 : fieldT Try.prog 71 1 = some (1, 5) := by kernel_rfl
@[simp] theorem fieldT_71_2 : fieldT Try.prog 71 2 = some (2, 22) := by kernel_rfl
@[simp] theorem fieldT_71_3 : fieldT Try.prog 71 3 = some (3, 23) := by kernel_rfl
@[simp] theorem fieldT_71_4 : fieldT Try.prog 71 4 = some (4, 5) := by kernel_rfl
@[simp] theorem fieldT_71_5 : fieldT Try.prog 71 5 = some (5, 5) := by kernel_rfl
@[simp] theorem fieldT_71_6 : fieldT Try.prog 71 6 = some (6, 5) := by kernel_rfl
@[simp] theorem fieldT_71_7 : fieldT Try.prog 71 7 = some (7, 69) := by kernel_rfl
@[simp] theorem fieldT_71_8 : fieldT Try.prog 71 8 = some (11, 23) := by kernel_rfl
@[simp] theorem fieldT_71_9 : fieldT Try.prog 71 9 = some (12, 70) := by kernel_rfl
@[simp] theorem fieldT_71_10 : fieldT Try.prog 71 10 = some (13, 26) := by kernel_rfl
@[simp] theorem fieldT_71_11 : fieldT Try.prog 71 11 = some (18, 22) := by kernel_rfl
@[simp] theorem fieldT_71_12 : fieldT Try.prog 71 12 = some (19, 30) := by kernel_rfl
@[simp] theorem fieldT_71_13 : fieldT Try.prog 71 13 = some (20, 4) := by kernel_rfl
@[simp] theorem placesA_71 : placesA Try.prog 71 = some [(0, 1), (1, 1), (2, 1), (3, 1), (4, 1), (5, 1), (6, 1), (7, 4), (11, 1), (12, 1), (13, 5), (18, 1), (19, 1), (20, 1)] := by kernel_rfl
@[simp] theorem isPtrT_71 : isPtrT Try.prog 71 = false := by kernel_rfl
@[simp] theorem ti_72 : ti Try.prog 72 = some ⟨true, 21, 216, .agg #[.int .u8 0, .int .u8 0, .int .u64 0, .slice none 0 0, .int .u8 0, .int .u8 0, .int .u8 0, .int .u64 0, .int .u64 0, .int .u64 0, .int .u64 0, .slice none 0 0, .slice none 0 0, .int .u8 0, .int .u64 0, .int .u64 0, .slice none 0 0, .slice none 0 0, .int .u64 0, .int .u16 0, .bool false]⟩ := by kernel_rfl
@[simp] theorem elemT_72 : elemT Try.prog 72 = none := by kernel_rfl
@[simp] theorem arrT_72 : arrT Try.prog 72 = none := by kernel_rfl
@[simp] theorem fieldT_72_0 : fieldT Try.prog 72 0 = some (0, 5) := by kernel_rfl
@[simp] theorem fieldT_72_1 : fieldT Try.prog 72 1 = some (1, 5) := by kernel_rfl
@[simp] theorem fieldT_72_2 : fieldT Try.prog 72 2 = some (2, 22) := by kernel_rfl
@[simp] theorem fieldT_72_3 : fieldT Try.prog 72 3 = some (3, 23) := by kernel_rfl
@[simp] theorem fieldT_72_4 : fieldT Try.prog 72 4 = some (4, 5) := by kernel_rfl
@[simp] theorem fieldT_72_5 : fieldT Try.prog 72 5 = some (5, 5) := by kernel_rfl
@[simp] theorem fieldT_72_6 : fieldT Try.prog 72 6 = some (6, 5) := by kernel_rfl
@[simp] theorem fieldT_72_7 : fieldT Try.prog 72 7 = some (7, 69) := by kernel_rfl
@[simp] theorem fieldT_72_8 : fieldT Try.prog 72 8 = some (11, 23) := by kernel_rfl
@[simp] theorem fieldT_72_9 : fieldT Try.prog 72 9 = some (12, 70) := by kernel_rfl
@[simp] theorem fieldT_72_10 : fieldT Try.prog 72 10 = some (13, 26) := by kernel_rfl
@[simp] theorem fieldT_72_11 : fieldT Try.prog 72 11 = some (18, 22) := by kernel_rfl
@[simp] theorem fieldT_72_12 : fieldT Try.prog 72 12 = some (19, 30) := by kernel_rfl
@[simp] theorem fieldT_72_13 : fieldT Try.prog 72 13 = some (20, 4) := by kernel_rfl
@[simp] theorem placesA_72 : placesA Try.prog 72 = some [(0, 1), (1, 1), (2, 1), (3, 1), (4, 1), (5, 1), (6, 1), (7, 4), (11, 1), (12, 1), (13, 5), (18, 1), (19, 1), (20, 1)] := by kernel_rfl
@[simp] theorem isPtrT_72 : isPtrT Try.prog 72 = false := by kernel_rfl
@[simp] theorem ti_73 : ti Try.prog 73 = some ⟨false, 1, 8, .nilFunc⟩ := by kernel_rfl
@[simp] theorem ti_74 : ti Try.prog 74 = some ⟨false, 1, 8, .nilFunc⟩ := by kernel_rfl
@[simp] theorem ti_75 : ti Try.prog 75 = some ⟨false, 1, 8, .int .i64 0⟩ := by kernel_rfl
@[simp] theorem elemT_75 : elemT Try.prog 75 = none := by kernel_rfl
@[simp] theorem arrT_75 : arrT Try.prog 75 = none := by kernel_rfl
@[simp] theorem isPtrT_75 : isPtrT Try.prog 75 = false := by kernel_rfl
@[simp] theorem isStrT_75 : isStrT Try.prog 75 = false := by kernel_rfl
@[simp] theorem intT_75 : intT Try.prog 75 = some .i64 := by kernel_rfl
@[simp] theorem isU8_75 : isU8 Try.prog 75 = false := by kernel_rfl
@[simp] theorem ti_77 : ti Try.prog 77 = some ⟨false, 1, 8, .nilFunc⟩ := by kernel_rfl
@[simp] theorem ti_79 : ti Try.prog 79 = some ⟨false, 1, 8, .nilFunc⟩ := by kernel_rfl
@[simp] theorem ti_80 : ti Try.prog 80 = some ⟨false, 1, 8, .nilFunc⟩ := by kernel_rfl
@[simp] theorem ti_81 : ti Try.prog 81 = some ⟨false, 1, 8, .nilFunc⟩ := by kernel_rfl
@[simp] theorem ti_83 : ti Try.prog 83 = some ⟨false, 1, 8, .nilFunc⟩ := by kernel_rfl
@[simp] theorem ti_84 : ti Try.prog 84 = some ⟨false, 1, 8, .nilFunc⟩ := by kernel_rfl
@[simp] theorem ti_85 : ti Try.prog 85 = some ⟨true, 5, 40, .agg #[.int .u8 0, .int .u64 0, .int .u64 0, .int .u64 0, .int .u64 0]⟩ := by kernel_rfl
@[simp] theorem elemT_85 : elemT Try.prog 85 = none := by kernel_rfl
@[simp] theorem arrT_85 : arrT Try.prog 85 = none := by kernel_rfl
@[simp] theorem fieldT_85_0 : fieldT Try.prog 85 0 = some (0, 5) := by kernel_rfl
@[simp] theorem fieldT_85_1 : fieldT Try.prog 85 1 = some (1, 69) := by kernel_rfl
@[simp] theorem placesA_85 : placesA Try.prog 85 = some [(0, 1), (1, 4)] := by kernel_rfl
@[simp] theorem isPtrT_85 : isPtrT Try.prog 85 = false := by kernel_rfl
@[simp] theorem flatT_85 : flatT Try.prog 85 = some [some .u8, some .u64, some .u64, some .u64, some .u64] := by kernel_rfl
@[simp] theorem ti_86 : ti Try.prog 86 = some ⟨true, 5, 40, .agg #[.int .u8 0, .int .u64 0, .int .u64 0, .int .u64 0, .int .u64 0]⟩ := by kernel_rfl
@[simp] theorem elemT_86 : elemT Try.prog 86 = none := by kernel_rfl
@[simp] theorem arrT_86 : arrT Try.prog 86 = none := by kernel_rfl
@[simp] theorem fieldT_86_0 : fieldT Try.prog 86 0 = some (0, 5) := by kernel_rfl
@[simp] theorem fieldT_86_1 : fieldT Try.prog 86 1 = some (1, 69) := by kernel_rfl
@[simp] theorem placesA_86 : placesA Try.prog 86 = some [(0, 1), (1, 4)] := by kernel_rfl
@[simp] theorem isPtrT_86 : isPtrT Try.prog 86 = false := by kernel_rfl
@[simp] theorem flatT_86 : flatT Try.prog 86 = some [some .u8, some .u64, some .u64, some .u64, some .u64] := by kernel_rfl
@[simp] theorem ti_87 : ti Try.prog 87 = some ⟨true, 2, 32, .agg #[.int .u64 0, .slice none 0 0]⟩ := by kernel_rfl
@[simp] theorem elemT_87 : elemT Try.prog 87 = none := by kernel_rfl
@[simp] theorem arrT_87 : arrT Try.prog 87 = none := by kernel_rfl
@[simp] theorem fieldT_87_0 : fieldT Try.prog 87 0 = some (0, 22) := by kernel_rfl
@[simp] theorem fieldT_87_1 : fieldT Try.prog 87 1 = some (1, 23) := by kernel_rfl
@[simp] theorem placesA_87 : placesA Try.prog 87 = some [(0, 1), (1, 1)] := by kernel_rfl
@[simp] theorem isPtrT_87 : isPtrT Try.prog 87 = false := by kernel_rfl
@[simp] theorem ti_88 : ti Try.prog 88 = some ⟨true, 2, 32, .agg #[.int .u64 0, .slice none 0 0]⟩ := by kernel_rfl
@[simp] theorem elemT_88 : elemT Try.prog 88 = none := by kernel_rfl
@[simp] theorem arrT_88 : arrT Try.prog 88 = none := by kernel_rfl
@[simp] theorem fieldT_88_0 : fieldT Try.prog 88 0 = some (0, 22) := by kernel_rfl
@[simp] theorem fieldT_88_1 : fieldT Try.prog 88 1 = some (1, 23) := by kernel_rfl
@[simp] theorem placesA_88 : placesA Try.prog 88 = some [(0, 1), (1, 1)] := by kernel_rfl
@[simp] theorem isPtrT_88 : isPtrT Try.prog 88 = false := by kernel_rfl
@[simp] theorem ti_89 : ti Try.prog 89 = some ⟨true, 2, 32, .agg #[.int .u16 0, .slice none 0 0]⟩ := by kernel_rfl
@[simp] theorem elemT_89 : elemT Try.prog 89 = none := by kernel_rfl
@[simp] theorem arrT_89 : arrT Try.prog 89 = none := by kernel_rfl
@[simp] theorem fieldT_89_0 : fieldT Try.prog 89 0 = some (0, 30) := by kernel_rfl
@[simp] theorem fieldT_89_1 : fieldT Try.prog 89 1 = some (1, 23) := by kernel_rfl
@[simp] theorem placesA_89 : placesA Try.prog 89 = some [(0, 1), (1, 1)] := by kernel_rfl
@[simp] theorem isPtrT_89 : isPtrT Try.prog 89 = false := by kernel_rfl
@[simp] theorem ti_90 : ti Try.prog 90 = some ⟨true, 2, 32, .agg #[.int .u16 0, .slice none 0 0]⟩ := by kernel_rfl
@[simp] theorem elemT_90 : elemT Try.prog 90 = none := by kernel_rfl
@[simp] theorem arrT_90 : arrT Try.prog 90 = none := by kernel_rfl
@[simp] theorem fieldT_90_0 : fieldT Try.prog 90 0 = some (0, 30) := by kernel_rfl
@[simp] theorem fieldT_90_1 : fieldT Try.prog 90 1 = some (1, 23) := by kernel_rfl
@[simp] theorem placesA_90 : placesA Try.prog 90 = some [(0, 1), (1, 1)] := by kernel_rfl
@[simp] theorem isPtrT_90 : isPtrT Try.prog 90 = false := by kernel_rfl
@[simp] theorem ti_91 : ti Try.prog 91 = some ⟨false, 1, 8, .nilFunc⟩ := by kernel_rfl
@[simp] theorem ti_92 : ti Try.prog 92 = some ⟨false, 1, 8, .nilFunc⟩ := by kernel_rfl
@[simp] theorem ti_93 : ti Try.prog 93 = some ⟨false, 1, 8, .nilFunc⟩ := by kernel_rfl
@[simp] theorem ti_95 : ti Try.prog 95 = some ⟨false, 1, 8, .nilFunc⟩ := by kernel_rfl
@[simp] theorem ti_96 : ti Try.prog 96 = some ⟨false, 1, 8, .nilFunc⟩ := by kernel_rfl
@[simp] theorem ti_97 : ti Try.prog 97 = some ⟨false, 1, 8, .nilFunc⟩ := by kernel_rfl
@[simp] theorem ti_98 : ti Try.prog 98 = some ⟨true, 32, 256, .agg #[.int .u64 0, .int .u64 0, .int .u64 0, .int .u64 0, .int .u64 0, .int .u64 0, .int .u64 0, .int .u64 0, .int .u64 0, .int .u64 0, .int .u64 0, .int .u64 0, .int .u64 0, .int .u64 0, .int .u64 0, .int .u64 0, .int .u64 0, .int .u64 0, .int .u64 0, .int .u64 0, .int .u64 0, .int .u64 0, .int .u64 0, .int .u64 0, .int .u64 0, .int .u64 0, .int .u64 0, .int .u64 0, .int .u64 0, .int .u64 0, .int .u64 0, .int .u64 0]⟩ := by kernel_rfl
@[simp] theorem elemT_98 : elemT Try.prog 98 = none := by kernel_rfl
@[simp] theorem arrT_98 : arrT Try.prog 98 = some (8, 69) := by kernel_rfl
@[simp] theorem placesA_98 : placesA Try.prog 98 = some [(0, 4), (4, 4), (8, 4), (12, 4), (16, 4), (20, 4), (24, 4), (28, 4)] := by kernel_rfl
@[simp] theorem isPtrT_98 : isPtrT Try.prog 98 = false := by kernel_rfl
@[simp] theorem flatT_98 : flatT Try.prog 98 = some [some .u64, some .u64, some .u64, some .u64, some .u64, some .u64, some .u64, some .u64, some .u64, some .u64, some .u64, some .u64, some .u64, some .u64, some .u64, some .u64, some .u64, some .u64, some .u64, some .u64, some .u64, some .u64, some .u64, some .u64, some .u64, some .u64, some .u64, some .u64, some .u64, some .u64, some .u64, some .u64] := by kernel_rfl
@[simp] theorem ti_99 : ti Try.prog 99 = some ⟨true, 32, 256, .agg #[.int .u64 0, .int .u64 0, .int .u64 0, .int .u64 0, .int .u64 0, .int .u64 0, .int .u64 0, .int .u64 0, .int .u64 0, .int .u64 0, .int .u64 0, .int .u64 0, .int .u64 0, .int .u64 0, .int .u64 0, .int .u64 0, .int .u64 0, .int .u64 0, .int .u64 0, .int .u64 0, .int .u64 0, .int .u64 0, .int .u64 0, .int .u64 0, .int .u64 0, .int .u64 0, .int .u64 0, .int .u64 0, .int .u64 0, .int .u64 0, .int .u64 0, .int .u64 0]⟩ := by kernel_rfl
@[simp] theorem elemT_99 : elemT Try.prog 99 = none := by kernel_rfl
@[simp] theorem arrT_99 : arrT Try.prog 99 = some (8, 69) := by kernel_rfl
@[simp] theorem placesA_99 : placesA Try.prog 99 = some [(0, 4), (4, 4), (8, 4), (12, 4), (16, 4), (20, 4), (24, 4), (28, 4)] := by kernel_rfl
@[simp] theorem isPtrT_99 : isPtrT Try.prog 99 = false := by kernel_rfl
@[simp] theorem flatT_99 : flatT Try.prog 99 = some [some .u64, some .u64, some .u64, some .u64, some .u64, some .u64, some .u64, some .u64, some .u64, some .u64, some .u64, some .u64, some .u64, some .u64, some .u64, some .u64, some .u64, some .u64, some .u64, some .u64, some .u64, some .u64, some .u64, some .u64, some .u64, some .u64, some .u64, some .u64, some .u64, some .u64, some .u64, some .u64] := by kernel_rfl
@[simp] theorem ti_100 : ti Try.prog 100 = some ⟨false, 1, 8, .nilFunc⟩ := by kernel_rfl
@[simp] theorem ti_101 : ti Try.prog 101 = some ⟨false, 1, 8, .nilFunc⟩ := by kernel_rfl
@[simp] theorem ti_102 : ti Try.prog 102 = some ⟨false, 1, 8, .nilFunc⟩ := by kernel_rfl
@[simp] theorem ti_103 : ti Try.prog 103 = some ⟨false, 1, 8, .nilFunc⟩ := by kernel_rfl
@[simp] theorem ti_104 : ti Try.prog 104 = some ⟨false, 1, 8, .nilFunc⟩ := by kernel_rfl
@[simp] theorem ti_106 : ti Try.prog 106 = some ⟨false, 1, 8, .nilFunc⟩ := by kernel_rfl
@[simp] theorem ti_107 : ti Try.prog 107 = some ⟨false, 1, 8, .nilFunc⟩ := by kernel_rfl
@[simp] theorem ti_108 : ti Try.prog 108 = some ⟨false, 1, 8, .nilFunc⟩ := by kernel_rfl
@[simp] theorem ti_109 : ti Try.prog 109 = some ⟨false, 1, 8, .nilFunc⟩ := by kernel_rfl
@[simp] theorem ti_110 : ti Try.prog 110 = some ⟨true, 2, 32, .agg #[.slice none 0 0, .bool false]⟩ := by kernel_rfl
@[simp] theorem elemT_110 : elemT Try.prog 110 = none := by kernel_rfl
@[simp] theorem arrT_110 : arrT Try.prog 110 = none := by kernel_rfl
@[simp] theorem fieldT_110_0 : fieldT Try.prog 110 0 = some (0, 47) := by kernel_rfl
@[simp] theorem fieldT_110_1 : fieldT Try.prog 110 1 = some (1, 4) := by kernel_rfl
@[simp] theorem placesA_110 : placesA Try.prog 110 = some [(0, 1), (1, 1)] := by kernel_rfl
@[simp] theorem isPtrT_110 : isPtrT Try.prog 110 = false := by kernel_rfl
@[simp] theorem ti_111 : ti Try.prog 111 = some ⟨true, 2, 32, .agg #[.slice none 0 0, .bool false]⟩ := by kernel_rfl
@[simp] theorem elemT_111 : elemT Try.prog 111 = none := by kernel_rfl
@[simp] theorem arrT_111 : arrT Try.prog 111 = none := by kernel_rfl
@[simp] theorem fieldT_111_0 : fieldT Try.prog 111 0 = some (0, 47) := by kernel_rfl
@[simp] theorem fieldT_111_1 : fieldT Try.prog 111 1 = some (1, 4) := by kernel_rfl
@[simp] theorem placesA_111 : placesA Try.prog 111 = some [(0, 1), (1, 1)] := by kernel_rfl
@[simp] theorem isPtrT_111 : isPtrT Try.prog 111 = false := by kernel_rfl
@[simp] theorem ti_112 : ti Try.prog 112 = some ⟨false, 1, 8, .nilFunc⟩ := by kernel_rfl
@[simp] theorem ti_113 : ti Try.prog 113 = some ⟨false, 1, 8, .nilFunc⟩ := by kernel_rfl
@[simp] theorem ti_114 : ti Try.prog 114 = some ⟨false, 1, 8, .nilFunc⟩ := by kernel_rfl
@[simp] theorem ti_115 : ti Try.prog 115 = some ⟨false, 1, 8, .nilFunc⟩ := by kernel_rfl
@[simp] theorem ti_116 : ti Try.prog 116 = some ⟨false, 1, 8, .nilFunc⟩ := by kernel_rfl
@[simp] theorem ti_117 : ti Try.prog 117 = some ⟨false, 1, 8, .nilFunc⟩ := by kernel_rfl
@[simp] theorem ti_118 : ti Try.prog 118 = some ⟨false, 1, 8, .nilFunc⟩ := by kernel_rfl
@[simp] theorem ti_119 : ti Try.prog 119 = some ⟨false, 1, 8, .nilFunc⟩ := by kernel_rfl
@[simp] theorem ti_120 : ti Try.prog 120 = some ⟨false, 1, 8, .nilFunc⟩ := by kernel_rfl
@[simp] theorem ti_121 : ti Try.prog 121 = some ⟨true, 2, 32, .agg #[.int .u8 0, .slice none 0 0]⟩ := by kernel_rfl
@[simp] theorem elemT_121 : elemT Try.prog 121 = none := by kernel_rfl
@[simp] theorem arrT_121 : arrT Try.prog 121 = none := by kernel_rfl
@[simp] theorem fieldT_121_0 : fieldT Try.prog 121 0 = some (0, 5) := by kernel_rfl
@[simp] theorem fieldT_121_1 : fieldT Try.prog 121 1 = some (1, 23) := by kernel_rfl
@[simp] theorem placesA_121 : placesA Try.prog 121 = some [(0, 1), (1, 1)] := by kernel_rfl
@[simp] theorem isPtrT_121 : isPtrT Try.prog 121 = false := by kernel_rfl
@[simp] theorem ti_122 : ti Try.prog 122 = some ⟨true, 2, 32, .agg #[.int .u8 0, .slice none 0 0]⟩ := by kernel_rfl
@[simp] theorem elemT_122 : elemT Try.prog 122 = none := by kernel_rfl
@[simp] theorem arrT_122 : arrT Try.prog 122 = none := by kernel_rfl
@[simp] theorem fieldT_122_0 : fieldT Try.prog 122 0 = some (0, 5) := by kernel_rfl
@[simp] theorem fieldT_122_1 : fieldT Try.prog 122 1 = some (1, 23) := by kernel_rfl
@[simp] theorem placesA_122 : placesA Try.prog 122 = some [(0, 1), (1, 1)] := by kernel_rfl
@[simp] theorem isPtrT_122 : isPtrT Try.prog 122 = false := by kernel_rfl
@[simp] theorem ti_124 : ti Try.prog 124 = some ⟨false, 1, 8, .nilFunc⟩ := by kernel_rfl
@[simp] theorem ti_125 : ti Try.prog 125 = some ⟨false, 1, 8, .nilFunc⟩ := by kernel_rfl
@[simp] theorem ti_126 : ti Try.prog 126 = some ⟨false, 1, 8, .nilFunc⟩ := by kernel_rfl
@[simp] theorem ti_127 : ti Try.prog 127 = some ⟨false, 1, 8, .nilFunc⟩ := by kernel_rfl
@[simp] theorem ti_128 : ti Try.prog 128 = some ⟨false, 1, 8, .nilFunc⟩ := by kernel_rfl
@[simp] theorem ti_129 : ti Try.prog 129 = some ⟨false, 1, 8, .nilFunc⟩ := by kernel_rfl
@[simp] theorem ti_130 : ti Try.prog 130 = some ⟨false, 1, 8, .nilFunc⟩ := by kernel_rfl
@[simp] theorem ti_131 : ti Try.prog 131 = some ⟨false, 1, 8, .pointer none⟩ := by kernel_rfl
@[simp] theorem elemT_131 : elemT Try.prog 131 = none := by kernel_rfl
@[simp] theorem arrT_131 : arrT Try.prog 131 = none := by kernel_rfl
@[simp] theorem isPtrT_131 : isPtrT Try.prog 131 = true := by kernel_rfl
@[simp] theorem ti_132 : ti Try.prog 132 = some ⟨false, 1, 8, .nilFunc⟩ := by kernel_rfl
@[simp] theorem ti_133 : ti Try.prog 133 = some ⟨false, 1, 8, .nilFunc⟩ := by kernel_rfl
@[simp] theorem ti_134 : ti Try.prog 134 = some ⟨false, 1, 8, .nilFunc⟩ := by kernel_rfl
@[simp] theorem ti_135 : ti Try.prog 135 = some ⟨false, 1, 8, .nilFunc⟩ := by kernel_rfl
@[simp] theorem ti_136 : ti Try.prog 136 = some ⟨false, 1, 8, .nilFunc⟩ := by kernel_rfl
@[simp] theorem ti_138 : ti Try.prog 138 = some ⟨false, 1, 8, .nilFunc⟩ := by kernel_rfl
@[simp] theorem ti_139 : ti Try.prog 139 = some ⟨true, 8, 64, .agg #[.int .u64 0, .int .u64 0, .int .u64 0, .int .u64 0, .int .u64 0, .int .u64 0, .int .u64 0, .int .u64 0]⟩ := by kernel_rfl
@[simp] theorem elemT_139 : elemT Try.prog 139 = none := by kernel_rfl
@[simp] theorem arrT_139 : arrT Try.prog 139 = some (8, 22) := by kernel_rfl
@[simp] theorem placesA_139 : placesA Try.prog 139 = some [(0, 1), (1, 1), (2, 1), (3, 1), (4, 1), (5, 1), (6, 1), (7, 1)] := by kernel_rfl
@[simp] theorem isPtrT_139 : isPtrT Try.prog 139 = false := by kernel_rfl
@[simp] theorem flatT_139 : flatT Try.prog 139 = some [some .u64, some .u64, some .u64, some .u64, some .u64, some .u64, some .u64, some .u64] := by kernel_rfl
@[simp] theorem ti_140 : ti Try.prog 140 = some ⟨true, 8, 64, .agg #[.int .u64 0, .int .u64 0, .int .u64 0, .int .u64 0, .int .u64 0, .int .u64 0, .int .u64 0, .int .u64 0]⟩ := by kernel_rfl
@[simp] theorem elemT_140 : elemT Try.prog 140 = none := by kernel_rfl
@[simp] theorem arrT_140 : arrT Try.prog 140 = some (8, 22) := by kernel_rfl
@[simp] theorem placesA_140 : placesA Try.prog 140 = some [(0, 1), (1, 1), (2, 1), (3, 1), (4, 1), (5, 1), (6, 1), (7, 1)] := by kernel_rfl
@[simp] theorem isPtrT_140 : isPtrT Try.prog 140 = false := by kernel_rfl
@[simp] theorem flatT_140 : flatT Try.prog 140 = some [some .u64, some .u64, some .u64, some .u64, some .u64, some .u64, some .u64, some .u64] := by kernel_rfl
@[simp] theorem ti_142 : ti Try.prog 142 = some ⟨false, 1, 8, .nilFunc⟩ := by kernel_rfl
@[simp] theorem ti_143 : ti Try.prog 143 = some ⟨false, 1, 8, .nilFunc⟩ := by kernel_rfl
@[simp] theorem ti_144 : ti Try.prog 144 = some ⟨false, 1, 8, .nilFunc⟩ := by kernel_rfl
@[simp] theorem ti_145 : ti Try.prog 145 = some ⟨false, 1, 8, .nilFunc⟩ := by kernel_rfl
@[simp] theorem ti_146 : ti Try.prog 146 = some ⟨false, 1, 24, .slice none 0 0⟩ := by kernel_rfl
@[simp] theorem elemT_146 : elemT Try.prog 146 = some 22 := by kernel_rfl
@[simp] theorem arrT_146 : arrT Try.prog 146 = none := by kernel_rfl
@[simp] theorem isPtrT_146 : isPtrT Try.prog 146 = false := by kernel_rfl
@[simp] theorem ti_148 : ti Try.prog 148 = some ⟨false, 1, 8, .nilFunc⟩ := by kernel_rfl
@[simp] theorem ti_149 : ti Try.prog 149 = some ⟨false, 1, 8, .nilFunc⟩ := by kernel_rfl
@[simp] theorem ti_150 : ti Try.prog 150 = some ⟨false, 1, 8, .nilFunc⟩ := by kernel_rfl
@[simp] theorem ti_151 : ti Try.prog 151 = some ⟨false, 1, 8, .nilFunc⟩ := by kernel_rfl
@[simp] theorem ti_152 : ti Try.prog 152 = some ⟨false, 1, 8, .nilFunc⟩ := by kernel_rfl
@[simp] theorem ti_153 : ti Try.prog 153 = some ⟨false, 1, 8, .nilFunc⟩ := by kernel_rfl
@[simp] theorem ti_154 : ti Try.prog 154 = some ⟨false, 1, 8, .nilFunc⟩ := by kernel_rfl
@[simp] theorem ti_155 : ti Try.prog 155 = some ⟨false, 1, 8, .nilFunc⟩ := by kernel_rfl
@[simp] theorem ti_156 : ti Try.prog 156 = some ⟨false, 1, 8, .nilFunc⟩ := by kernel_rfl
@[simp] theorem ti_157 : ti Try.prog 157 = some ⟨false, 1, 8, .nilFunc⟩ := by kernel_rfl
@[simp] theorem ti_158 : ti Try.prog 158 = some ⟨false, 1, 8, .int .u64 0⟩ := by kernel_rfl
@[simp] theorem elemT_158 : elemT Try.prog 158 = none := by kernel_rfl
@[simp] theorem arrT_158 : arrT Try.prog 158 = none := by kernel_rfl
@[simp] theorem isPtrT_158 : isPtrT Try.prog 158 = false := by kernel_rfl
@[simp] theorem isStrT_158 : isStrT Try.prog 158 = false := by kernel_rfl
@[simp] theorem intT_158 : intT Try.prog 158 = some .u64 := by kernel_rfl
@[simp] theorem isU8_158 : isU8 Try.prog 158 = false := by kernel_rfl
@[simp] theorem ti_159 : ti Try.prog 159 = some ⟨false, 1, 8, .nilFunc⟩ := by kernel_rfl
@[simp] theorem ti_160 : ti Try.prog 160 = some ⟨false, 1, 8, .nilFunc⟩ := by kernel_rfl
@[simp] theorem ti_161 : ti Try.prog 161 = some ⟨false, 1, 8, .nilFunc⟩ := by kernel_rfl
@[simp] theorem ti_163 : ti Try.prog 163 = some ⟨false, 1, 8, .nilFunc⟩ := by kernel_rfl
@[simp] theorem ti_164 : ti Try.prog 164 = some ⟨false, 1, 8, .nilFunc⟩ := by kernel_rfl
@[simp] theorem ti_165 : ti Try.prog 165 = some ⟨false, 1, 8, .nilFunc⟩ := by kernel_rfl
@[simp] theorem ti_166 : ti Try.prog 166 = some ⟨false, 1, 8, .pointer none⟩ := by kernel_rfl
@[simp] theorem elemT_166 : elemT Try.prog 166 = none := by kernel_rfl
@[simp] theorem arrT_166 : arrT Try.prog 166 = none := by kernel_rfl
@[simp] theorem isPtrT_166 : isPtrT Try.prog 166 = true := by kernel_rfl
@[simp] theorem ti_167 : ti Try.prog 167 = some ⟨false, 1, 8, .nilFunc⟩ := by kernel_rfl
@[simp] theorem ti_168 : ti Try.prog 168 = some ⟨false, 1, 8, .nilFunc⟩ := by kernel_rfl
@[simp] theorem ti_169 : ti Try.prog 169 = some ⟨false, 1, 8, .nilFunc⟩ := by kernel_rfl
@[simp] theorem ti_170 : ti Try.prog 170 = some ⟨false, 1, 8, .nilFunc⟩ := by kernel_rfl
@[simp] theorem ti_171 : ti Try.prog 171 = some ⟨false, 1, 8, .nilFunc⟩ := by kernel_rfl
@[simp] theorem ti_172 : ti Try.prog 172 = some ⟨false, 1, 8, .nilFunc⟩ := by kernel_rfl
@[simp] theorem ti_173 : ti Try.prog 173 = some ⟨false, 1, 8, .nilFunc⟩ := by kernel_rfl
@[simp] theorem ti_174 : ti Try.prog 174 = some ⟨false, 1, 8, .nilFunc⟩ := by kernel_rfl
@[simp] theorem ti_175 : ti Try.prog 175 = some ⟨false, 1, 8, .nilFunc⟩ := by kernel_rfl
@[simp] theorem ti_176 : ti Try.prog 176 = some ⟨false, 1, 8, .nilFunc⟩ := by kernel_rfl
@[simp] theorem ti_177 : ti Try.prog 177 = some ⟨false, 1, 8, .nilFunc⟩ := by kernel_rfl
@[simp] theorem ti_178 : ti Try.prog 178 = some ⟨false, 1, 8, .nilFunc⟩ := by kernel_rfl
@[simp] theorem ti_179 : ti Try.prog 179 = some ⟨false, 1, 8, .nilFunc⟩ := by kernel_rfl
@[simp] theorem ti_180 : ti Try.prog 180 = some ⟨false, 1, 8, .nilFunc⟩ := by kernel_rfl
@[simp] theorem ti_181 : ti Try.prog 181 = some ⟨true, 4, 40, .agg #[.pointer none, .pointer none, .pointer none, .string ByteArray.empty]⟩ := by kernel_rfl
@[simp] theorem elemT_181 : elemT Try.prog 181 = none := by kernel_rfl
@[simp] theorem arrT_181 : arrT Try.prog 181 = none := by kernel_rfl
@[simp] theorem fieldT_181_0 : fieldT Try.prog 181 0 = some (0, 17) := by kernel_rfl
@[simp] theorem fieldT_181_1 : fieldT Try.prog 181 1 = some (1, 17) := by kernel_rfl
@[simp] theorem fieldT_181_2 : fieldT Try.prog 181 2 = some (2, 17) := by kernel_rfl
@[simp] theorem fieldT_181_3 : fieldT Try.prog 181 3 = some (3, 9) := by kernel_rfl
@[simp] theorem placesA_181 : placesA Try.prog 181 = some [(0, 1), (1, 1), (2, 1), (3, 1)] := by kernel_rfl
@[simp] theorem isPtrT_181 : isPtrT Try.prog 181 = false := by kernel_rfl
@[simp] theorem ti_182 : ti Try.prog 182 = some ⟨true, 4, 40, .agg #[.pointer none, .pointer none, .pointer none, .string ByteArray.empty]⟩ := by kernel_rfl
@[simp] theorem elemT_182 : elemT Try.prog 182 = none := by kernel_rfl
@[simp] theorem arrT_182 : arrT Try.prog 182 = none := by kernel_rfl
@[simp] theorem fieldT_182_0 : fieldT Try.prog 182 0 = some (0, 17) := by kernel_rfl
@[simp] theorem fieldT_182_1 : fieldT Try.prog 182 1 = some (1, 17) := by kernel_rfl
@[simp] theorem fieldT_182_2 : fieldT Try.prog 182 2 = some (2, 17) := by kernel_rfl
@[simp] theorem fieldT_182_3 : fieldT Try.prog 182 3 = some (3, 9) := by kernel_rfl
@[simp] theorem placesA_182 : placesA Try.prog 182 = some [(0, 1), (1, 1), (2, 1), (3, 1)] := by kernel_rfl
@[simp] theorem isPtrT_182 : isPtrT Try.prog 182 = false := by kernel_rfl
@[simp] theorem ti_183 : ti Try.prog 183 = some ⟨true, 0, 0, .agg #[]⟩ := by kernel_rfl
@[simp] theorem elemT_183 : elemT Try.prog 183 = none := by kernel_rfl
@[simp] theorem arrT_183 : arrT Try.prog 183 = some (0, 16) := by kernel_rfl
@[simp] theorem placesA_183 : placesA Try.prog 183 = some [] := by kernel_rfl
@[simp] theorem isPtrT_183 : isPtrT Try.prog 183 = false := by kernel_rfl
@[simp] theorem ti_184 : ti Try.prog 184 = some ⟨true, 0, 0, .agg #[]⟩ := by kernel_rfl
@[simp] theorem elemT_184 : elemT Try.prog 184 = none := by kernel_rfl
@[simp] theorem arrT_184 : arrT Try.prog 184 = none := by kernel_rfl
@[simp] theorem fieldT_184_0 : fieldT Try.prog 184 0 = some (0, 183) := by kernel_rfl
@[simp] theorem placesA_184 : placesA Try.prog 184 = some [(0, 0)] := by kernel_rfl
@[simp] theorem isPtrT_184 : isPtrT Try.prog 184 = false := by kernel_rfl
@[simp] theorem ti_185 : ti Try.prog 185 = some ⟨true, 0, 0, .agg #[]⟩ := by kernel_rfl
@[simp] theorem elemT_185 : elemT Try.prog 185 = none := by kernel_rfl
@[simp] theorem arrT_185 : arrT Try.prog 185 = none := by kernel_rfl
@[simp] theorem fieldT_185_0 : fieldT Try.prog 185 0 = some (0, 183) := by kernel_rfl
@[simp] theorem placesA_185 : placesA Try.prog 185 = some [(0, 0)] := by kernel_rfl
@[simp] theorem isPtrT_185 : isPtrT Try.prog 185 = false := by kernel_rfl
@[simp] theorem ti_186 : ti Try.prog 186 = some ⟨false, 1, 1, .int .u8 0⟩ := by kernel_rfl
@[simp] theorem elemT_186 : elemT Try.prog 186 = none := by kernel_rfl
@[simp] theorem arrT_186 : arrT Try.prog 186 = none := by kernel_rfl
@[simp] theorem isPtrT_186 : isPtrT Try.prog 186 = false := by kernel_rfl
@[simp] theorem isStrT_186 : isStrT Try.prog 186 = false := by kernel_rfl
@[simp] theorem intT_186 : intT Try.prog 186 = some .u8 := by kernel_rfl
@[simp] theorem isU8_186 : isU8 Try.prog 186 = true := by kernel_rfl
@[simp] theorem ti_187 : ti Try.prog 187 = some ⟨false, 1, 1, .int .u8 0⟩ := by kernel_rfl
@[simp] theorem elemT_187 : elemT Try.prog 187 = none := by kernel_rfl
@[simp] theorem arrT_187 : arrT Try.prog 187 = none := by kernel_rfl
@[simp] theorem isPtrT_187 : isPtrT Try.prog 187 = false := by kernel_rfl
@[simp] theorem isStrT_187 : isStrT Try.prog 187 = false := by kernel_rfl
@[simp] theorem intT_187 : intT Try.prog 187 = some .u8 := by kernel_rfl
@[simp] theorem isU8_187 : isU8 Try.prog 187 = true := by kernel_rfl
@[simp] theorem ti_188 : ti Try.prog 188 = some ⟨false, 1, 8, .nilFunc⟩ := by kernel_rfl
@[simp] theorem ti_189 : ti Try.prog 189 = some ⟨false, 1, 8, .pointer none⟩ := by kernel_rfl
@[simp] theorem elemT_189 : elemT Try.prog 189 = none := by kernel_rfl
@[simp] theorem arrT_189 : arrT Try.prog 189 = none := by kernel_rfl
@[simp] theorem isPtrT_189 : isPtrT Try.prog 189 = true := by kernel_rfl
@[simp] theorem ti_190 : ti Try.prog 190 = some ⟨false, 1, 4, .int .i32 0⟩ := by kernel_rfl
@[simp] theorem elemT_190 : elemT Try.prog 190 = none := by kernel_rfl
@[simp] theorem arrT_190 : arrT Try.prog 190 = none := by kernel_rfl
@[simp] theorem isPtrT_190 : isPtrT Try.prog 190 = false := by kernel_rfl
@[simp] theorem isStrT_190 : isStrT Try.prog 190 = false := by kernel_rfl
@[simp] theorem intT_190 : intT Try.prog 190 = some .i32 := by kernel_rfl
@[simp] theorem isU8_190 : isU8 Try.prog 190 = false := by kernel_rfl
@[simp] theorem ti_191 : ti Try.prog 191 = some ⟨false, 1, 4, .int .i32 0⟩ := by kernel_rfl
@[simp] theorem elemT_191 : elemT Try.prog 191 = none := by kernel_rfl
@[simp] theorem arrT_191 : arrT Try.prog 191 = none := by kernel_rfl
@[simp] theorem isPtrT_191 : isPtrT Try.prog 191 = false := by kernel_rfl
@[simp] theorem isStrT_191 : isStrT Try.prog 191 = false := by kernel_rfl
@[simp] theorem intT_191 : intT Try.prog 191 = some .i32 := by kernel_rfl
@[simp] theorem isU8_191 : isU8 Try.prog 191 = false := by kernel_rfl
@[simp] theorem ti_192 : ti Try.prog 192 = some ⟨true, 11, 48, .agg #[.int .u64 0, .int .u64 0, .int .u32 0, .int .u8 0, .int .u8 0, .int .u8 0, .int .u8 0, .nilFunc, .pointer none, .int .i32 0, .int .i32 0]⟩ := by kernel_rfl
@[simp] theorem elemT_192 : elemT Try.prog 192 = none := by kernel_rfl
@[simp] theorem arrT_192 : arrT Try.prog 192 = none := by kernel_rfl
@[simp] theorem fieldT_192_0 : fieldT Try.prog 192 0 = some (0, 12) := by kernel_rfl
@[simp] theorem fieldT_192_1 : fieldT Try.prog 192 1 = some (1, 12) := by kernel_rfl
@[simp] theorem fieldT_192_2 : fieldT Try.prog 192 2 = some (2, 29) := by kernel_rfl
@[simp] theorem fieldT_192_3 : fieldT Try.prog 192 3 = some (3, 186) := by kernel_rfl
@[simp] theorem fieldT_192_4 : fieldT Try.prog 192 4 = some (4, 5) := by kernel_rfl
@[simp] theorem fieldT_192_5 : fieldT Try.prog 192 5 = some (5, 5) := by kernel_rfl
@[simp] theorem fieldT_192_6 : fieldT Try.prog 192 6 = some (6, 187) := by kernel_rfl
@[simp] theorem fieldT_192_7 : fieldT Try.prog 192 7 = some (7, 188) := by kernel_rfl
@[simp] theorem fieldT_192_8 : fieldT Try.prog 192 8 = some (8, 189) := by kernel_rfl
@[simp] theorem fieldT_192_9 : fieldT Try.prog 192 9 = some (9, 190) := by kernel_rfl
@[simp] theorem fieldT_192_10 : fieldT Try.prog 192 10 = some (10, 191) := by kernel_rfl
@[simp] theorem placesA_192 : placesA Try.prog 192 = some [(0, 1), (1, 1), (2, 1), (3, 1), (4, 1), (5, 1), (6, 1), (7, 1), (8, 1), (9, 1), (10, 1)] := by kernel_rfl
@[simp] theorem isPtrT_192 : isPtrT Try.prog 192 = false := by kernel_rfl
@[simp] theorem ti_193 : ti Try.prog 193 = some ⟨true, 11, 48, .agg #[.int .u64 0, .int .u64 0, .int .u32 0, .int .u8 0, .int .u8 0, .int .u8 0, .int .u8 0, .nilFunc, .pointer none, .int .i32 0, .int .i32 0]⟩ := by kernel_rfl
@[simp] theorem elemT_193 : elemT Try.prog 193 = none := by kernel_rfl
@[simp] theorem arrT_193 : arrT Try.prog 193 = none := by kernel_rfl
@[simp] theorem fieldT_193_0 : fieldT Try.prog 193 0 = some (0, 12) := by kernel_rfl
@[simp] theorem fieldT_193_1 : fieldT Try.prog 193 1 = some (1, 12) := by kernel_rfl
@[simp] theorem fieldT_193_2 : fieldT Try.prog 193 2 = some (2, 29) := by kernel_rfl
@[simp] theorem fieldT_193_3 : fieldT Try.prog 193 3 = some (3, 186) := by kernel_rfl
@[simp] theorem fieldT_193_4 : fieldT Try.prog 193 4 = some (4, 5) := by kernel_rfl
@[simp] theorem fieldT_193_5 : fieldT Try.prog 193 5 = some (5, 5) := by kernel_rfl
@[simp] theorem fieldT_193_6 : fieldT Try.prog 193 6 = some (6, 187) := by kernel_rfl
@[simp] theorem fieldT_193_7 : fieldT Try.prog 193 7 = some (7, 188) := by kernel_rfl
@[simp] theorem fieldT_193_8 : fieldT Try.prog 193 8 = some (8, 189) := by kernel_rfl
@[simp] theorem fieldT_193_9 : fieldT Try.prog 193 9 = some (9, 190) := by kernel_rfl
@[simp] theorem fieldT_193_10 : fieldT Try.prog 193 10 = some (10, 191) := by kernel_rfl
@[simp] theorem placesA_193 : placesA Try.prog 193 = some [(0, 1), (1, 1), (2, 1), (3, 1), (4, 1), (5, 1), (6, 1), (7, 1), (8, 1), (9, 1), (10, 1)] := by kernel_rfl
@[simp] theorem isPtrT_193 : isPtrT Try.prog 193 = false := by kernel_rfl
@[simp] theorem callable_3 : callable Try.prog 3 = true := by kernel_rfl
@[simp] theorem callable_4 : callable Try.prog 4 = true := by kernel_rfl
@[simp] theorem callable_5 : callable Try.prog 5 = true := by kernel_rfl
@[simp] theorem callable_6 : callable Try.prog 6 = true := by kernel_rfl
@[simp] theorem callable_7 : callable Try.prog 7 = true := by kernel_rfl
@[simp] theorem callable_8 : callable Try.prog 8 = true := by kernel_rfl
@[simp] theorem callable_9 : callable Try.prog 9 = true := by kernel_rfl
@[simp] theorem callable_10 : callable Try.prog 10 = true := by kernel_rfl
@[simp] theorem callable_11 : callable Try.prog 11 = true := by kernel_rfl
@[simp] theorem callable_12 : callable Try.prog 12 = true := by kernel_rfl
@[simp] theorem callable_13 : callable Try.prog 13 = true := by kernel_rfl
@[simp] theorem callable_14 : callable Try.prog 14 = true := by kernel_rfl
@[simp] theorem callable_15 : callable Try.prog 15 = true := by kernel_rfl
@[simp] theorem callable_16 : callable Try.prog 16 = true := by kernel_rfl
@[simp] theorem callable_17 : callable Try.prog 17 = true := by kernel_rfl
@[simp] theorem callable_18 : callable Try.prog 18 = true := by kernel_rfl
@[simp] theorem callable_19 : callable Try.prog 19 = true := by kernel_rfl
@[simp] theorem callable_20 : callable Try.prog 20 = true := by kernel_rfl
@[simp] theorem callable_21 : callable Try.prog 21 = true := by kernel_rfl
@[simp] theorem callable_22 : callable Try.prog 22 = true := by kernel_rfl
@[simp] theorem callable_23 : callable Try.prog 23 = true := by kernel_rfl
@[simp] theorem callable_24 : callable Try.prog 24 = true := by kernel_rfl
@[simp] theorem callable_25 : callable Try.prog 25 = true := by kernel_rfl
@[simp] theorem callable_26 : callable Try.prog 26 = true := by kernel_rfl
@[simp] theorem callable_27 : callable Try.prog 27 = true := by kernel_rfl
@[simp] theorem callable_28 : callable Try.prog 28 = true := by kernel_rfl
@[simp] theorem callable_29 : callable Try.prog 29 = true := by kernel_rfl
@[simp] theorem callable_30 : callable Try.prog 30 = true := by kernel_rfl
@[simp] theorem callable_31 : callable Try.prog 31 = true := by kernel_rfl
@[simp] theorem callable_32 : callable Try.prog 32 = true := by kernel_rfl
@[simp] theorem callable_33 : callable Try.prog 33 = true := by kernel_rfl
@[simp] theorem callable_34 : callable Try.prog 34 = true := by kernel_rfl
@[simp] theorem callable_35 : callable Try.prog 35 = true := by kernel_rfl
@[simp] theorem callable_36 : callable Try.prog 36 = true := by kernel_rfl
@[simp] theorem callable_37 : callable Try.prog 37 = true := by kernel_rfl
@[simp] theorem callable_38 : callable Try.prog 38 = true := by kernel_rfl
@[simp] theorem callable_39 : callable Try.prog 39 = true := by kernel_rfl
@[simp] theorem callable_40 : callable Try.prog 40 = true := by kernel_rfl
@[simp] theorem callable_41 : callable Try.prog 41 = true := by kernel_rfl
@[simp] theorem callable_42 : callable Try.prog 42 = true := by kernel_rfl
@[simp] theorem callable_43 : callable Try.prog 43 = true := by kernel_rfl
@[simp] theorem callable_44 : callable Try.prog 44 = true := by kernel_rfl
@[simp] theorem callable_45 : callable Try.prog 45 = true := by kernel_rfl
@[simp] theorem callable_46 : callable Try.prog 46 = true := by kernel_rfl
@[simp] theorem callable_47 : callable Try.prog 47 = true := by kernel_rfl
@[simp] theorem callable_48 : callable Try.prog 48 = true := by kernel_rfl
@[simp] theorem callable_49 : callable Try.prog 49 = true := by kernel_rfl
@[simp] theorem callable_50 : callable Try.prog 50 = true := by kernel_rfl
@[simp] theorem callable_51 : callable Try.prog 51 = true := by kernel_rfl
@[simp] theorem callable_52 : callable Try.prog 52 = true := by kernel_rfl
@[simp] theorem callable_53 : callable Try.prog 53 = true := by kernel_rfl
@[simp] theorem callable_54 : callable Try.prog 54 = true := by kernel_rfl
@[simp] theorem callable_55 : callable Try.prog 55 = true := by kernel_rfl
@[simp] theorem callable_56 : callable Try.prog 56 = true := by kernel_rfl
@[simp] theorem callable_57 : callable Try.prog 57 = true := by kernel_rfl
@[simp] theorem callable_58 : callable Try.prog 58 = true := by kernel_rfl
@[simp] theorem callable_59 : callable Try.prog 59 = true := by kernel_rfl
@[simp] theorem callable_60 : callable Try.prog 60 = true := by kernel_rfl
@[simp] theorem callable_61 : callable Try.prog 61 = true := by kernel_rfl
@[simp] theorem callable_62 : callable Try.prog 62 = true := by kernel_rfl
@[simp] theorem callable_63 : callable Try.prog 63 = true := by kernel_rfl
@[simp] theorem callable_64 : callable Try.prog 64 = true := by kernel_rfl
@[simp] theorem callable_65 : callable Try.prog 65 = true := by kernel_rfl
@[simp] theorem callable_66 : callable Try.prog 66 = true := by kernel_rfl
@[simp] theorem callable_67 : callable Try.prog 67 = true := by kernel_rfl
@[simp] theorem callable_68 : callable Try.prog 68 = true := by kernel_rfl
@[simp] theorem callable_69 : callable Try.prog 69 = true := by kernel_rfl
@[simp] theorem callable_70 : callable Try.prog 70 = true := by kernel_rfl
@[simp] theorem callable_71 : callable Try.prog 71 = true := by kernel_rfl
@[simp] theorem callable_72 : callable Try.prog 72 = true := by kernel_rfl
@[simp] theorem callable_73 : callable Try.prog 73 = true := by kernel_rfl
@[simp] theorem callable_74 : callable Try.prog 74 = true := by kernel_rfl
@[simp] theorem callable_75 : callable Try.prog 75 = true := by kernel_rfl
@[simp] theorem callable_76 : callable Try.prog 76 = true := by kernel_rfl
@[simp] theorem callable_77 : callable Try.prog 77 = true := by kernel_rfl
@[simp] theorem callable_78 : callable Try.prog 78 = true := by kernel_rfl
@[simp] theorem callable_79 : callable Try.prog 79 = true := by kernel_rfl
@[simp] theorem callable_80 : callable Try.prog 80 = true := by kernel_rfl
@[simp] theorem callable_81 : callable Try.prog 81 = true := by kernel_rfl
@[simp] theorem callable_82 : callable Try.prog 82 = true := by kernel_rfl
@[simp] theorem callable_83 : callable Try.prog 83 = true := by kernel_rfl
@[simp] theorem callable_84 : callable Try.prog 84 = true := by kernel_rfl
@[simp] theorem callable_85 : callable Try.prog 85 = true := by kernel_rfl
@[simp] theorem callable_86 : callable Try.prog 86 = true := by kernel_rfl
@[simp] theorem callable_87 : callable Try.prog 87 = true := by kernel_rfl
@[simp] theorem callable_88 : callable Try.prog 88 = true := by kernel_rfl
@[simp] theorem callable_89 : callable Try.prog 89 = true := by kernel_rfl
@[simp] theorem callable_90 : callable Try.prog 90 = true := by kernel_rfl
@[simp] theorem callable_91 : callable Try.prog 91 = true := by kernel_rfl
@[simp] theorem callable_92 : callable Try.prog 92 = true := by kernel_rfl
@[simp] theorem callable_93 : callable Try.prog 93 = true := by kernel_rfl
@[simp] theorem callable_94 : callable Try.prog 94 = true := by kernel_rfl
@[simp] theorem callable_95 : callable Try.prog 95 = true := by kernel_rfl
@[simp] theorem callable_96 : callable Try.prog 96 = true := by kernel_rfl
@[simp] theorem callable_97 : callable Try.prog 97 = true := by kernel_rfl
@[simp] theorem callable_98 : callable Try.prog 98 = true := by kernel_rfl
@[simp] theorem callable_99 : callable Try.prog 99 = true := by kernel_rfl
@[simp] theorem callable_100 : callable Try.prog 100 = true := by kernel_rfl
@[simp] theorem callable_101 : callable Try.prog 101 = true := by kernel_rfl
@[simp] theorem callable_102 : callable Try.prog 102 = true := by kernel_rfl
@[simp] theorem callable_103 : callable Try.prog 103 = true := by kernel_rfl
@[simp] theorem callable_104 : callable Try.prog 104 = true := by kernel_rfl
@[simp] theorem callable_105 : callable Try.prog 105 = true := by kernel_rfl
@[simp] theorem callable_106 : callable Try.prog 106 = true := by kernel_rfl
@[simp] theorem callable_107 : callable Try.prog 107 = true := by kernel_rfl
@[simp] theorem callable_108 : callable Try.prog 108 = true := by kernel_rfl
@[simp] theorem callable_109 : callable Try.prog 109 = true := by kernel_rfl
@[simp] theorem callable_110 : callable Try.prog 110 = true := by kernel_rfl
@[simp] theorem callable_111 : callable Try.prog 111 = true := by kernel_rfl
@[simp] theorem callable_112 : callable Try.prog 112 = true := by kernel_rfl
@[simp] theorem callable_113 : callable Try.prog 113 = true := by kernel_rfl
@[simp] theorem callable_114 : callable Try.prog 114 = true := by kernel_rfl
@[simp] theorem callable_115 : callable Try.prog 115 = true := by kernel_rfl
@[simp] theorem callable_116 : callable Try.prog 116 = true := by kernel_rfl
@[simp] theorem callable_117 : callable Try.prog 117 = true := by kernel_rfl
@[simp] theorem callable_118 : callable Try.prog 118 = true := by kernel_rfl
@[simp] theorem callable_119 : callable Try.prog 119 = true := by kernel_rfl
@[simp] theorem callable_120 : callable Try.prog 120 = true := by kernel_rfl
@[simp] theorem callable_121 : callable Try.prog 121 = true := by kernel_rfl
@[simp] theorem callable_122 : callable Try.prog 122 = true := by kernel_rfl
@[simp] theorem callable_123 : callable Try.prog 123 = true := by kernel_rfl
@[simp] theorem callable_124 : callable Try.prog 124 = true := by kernel_rfl
@[simp] theorem callable_125 : callable Try.prog 125 = true := by kernel_rfl
@[simp] theorem callable_126 : callable Try.prog 126 = true := by kernel_rfl
@[simp] theorem callable_127 : callable Try.prog 127 = true := by kernel_rfl
@[simp] theorem callable_128 : callable Try.prog 128 = true := by kernel_rfl
@[simp] theorem callable_129 : callable Try.prog 129 = true := by kernel_rfl
@[simp] theorem callable_130 : callable Try.prog 130 = true := by kernel_rfl
@[simp] theorem callable_131 : callable Try.prog 131 = true := by kernel_rfl
@[simp] theorem callable_132 : callable Try.prog 132 = true := by kernel_rfl
@[simp] theorem callable_133 : callable Try.prog 133 = true := by kernel_rfl
@[simp] theorem callable_134 : callable Try.prog 134 = true := by kernel_rfl
@[simp] theorem callable_135 : callable Try.prog 135 = true := by kernel_rfl
@[simp] theorem callable_136 : callable Try.prog 136 = true := by kernel_rfl
@[simp] theorem callable_137 : callable Try.prog 137 = true := by kernel_rfl
@[simp] theorem callable_138 : callable Try.prog 138 = true := by kernel_rfl
@[simp] theorem callable_140 : callable Try.prog 140 = true := by kernel_rfl
@[simp] theorem callable_141 : callable Try.prog 141 = true := by kernel_rfl
@[simp] theorem callable_142 : callable Try.prog 142 = true := by kernel_rfl
@[simp] theorem callable_143 : callable Try.prog 143 = true := by kernel_rfl
@[simp] theorem callable_144 : callable Try.prog 144 = true := by kernel_rfl
@[simp] theorem callable_145 : callable Try.prog 145 = true := by kernel_rfl
@[simp] theorem callable_146 : callable Try.prog 146 = true := by kernel_rfl
@[simp] theorem callable_147 : callable Try.prog 147 = true := by kernel_rfl
@[simp] theorem callable_148 : callable Try.prog 148 = true := by kernel_rfl
@[simp] theorem callable_149 : callable Try.prog 149 = true := by kernel_rfl
@[simp] theorem callable_151 : callable Try.prog 151 = true := by kernel_rfl
@[simp] theorem callable_152 : callable Try.prog 152 = true := by kernel_rfl
@[simp] theorem callable_153 : callable Try.prog 153 = true := by kernel_rfl
@[simp] theorem callable_154 : callable Try.prog 154 = true := by kernel_rfl

end Go.Proofs.Ytdbaddholggkbaa
