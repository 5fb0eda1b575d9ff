import Derived.Test.YtdbaddholggkbaaVmI
import Derived.IntWalk
/-
  What the operations come to, laid as rules for simp.
-/
namespace Go.Vm
set_option linter.unnecessarySimpa false
set_option linter.unusedSimpArgs false
set_option linter.unusedVariables false
open Go

section
variable {P : Program} (t : TypeId) (xo yo : Operand)

theorem binA_add (k : IntKind) (a b : Int) : binA P .add t xo yo (.v (.int k a)) (.v (.int k b)) = some (.v (.int k (k.wrap (a + b)))) := by cases k <;> rfl
theorem binA_sub (k : IntKind) (a b : Int) : binA P .sub t xo yo (.v (.int k a)) (.v (.int k b)) = some (.v (.int k (k.wrap (a - b)))) := by cases k <;> rfl
theorem binA_mul (k : IntKind) (a b : Int) : binA P .mul t xo yo (.v (.int k a)) (.v (.int k b)) = some (.v (.int k (k.wrap (a * b)))) := by cases k <;> rfl
theorem binA_lss (k : IntKind) (a b : Int) : binA P .lss t xo yo (.v (.int k a)) (.v (.int k b)) = some (.v (.bool (decide (a < b)))) := by cases k <;> rfl
theorem binA_leq (k : IntKind) (a b : Int) : binA P .leq t xo yo (.v (.int k a)) (.v (.int k b)) = some (.v (.bool (decide (a ≤ b)))) := by cases k <;> rfl
theorem binA_gtr (k : IntKind) (a b : Int) : binA P .gtr t xo yo (.v (.int k a)) (.v (.int k b)) = some (.v (.bool (decide (b < a)))) := by cases k <;> rfl
theorem binA_geq (k : IntKind) (a b : Int) : binA P .geq t xo yo (.v (.int k a)) (.v (.int k b)) = some (.v (.bool (decide (b ≤ a)))) := by cases k <;> rfl
theorem binA_eql (k : IntKind) (a b : Int) : binA P .eql t xo yo (.v (.int k a)) (.v (.int k b)) = some (.v (.bool (a == b))) := by cases k <;> rfl
theorem binA_neq (k : IntKind) (a b : Int) : binA P .neq t xo yo (.v (.int k a)) (.v (.int k b)) = some (.v (.bool (a != b))) := by cases k <;> rfl
theorem binA_and (k : IntKind) (a b : Int) : binA P .and t xo yo (.v (.int k a)) (.v (.int k b)) = some (.v (.int k (k.wrap (BitVec.ofInt k.bits a &&& BitVec.ofInt k.bits b).toNat))) := by cases k <;> rfl
theorem binA_or (k : IntKind) (a b : Int) : binA P .or t xo yo (.v (.int k a)) (.v (.int k b)) = some (.v (.int k (k.wrap (BitVec.ofInt k.bits a ||| BitVec.ofInt k.bits b).toNat))) := by cases k <;> rfl
theorem binA_xor (k : IntKind) (a b : Int) : binA P .xor t xo yo (.v (.int k a)) (.v (.int k b)) = some (.v (.int k (k.wrap (BitVec.ofInt k.bits a ^^^ BitVec.ofInt k.bits b).toNat))) := by cases k <;> rfl
theorem binA_quo (k : IntKind) (a b : Int) (h : b ≠ 0) : binA P .quo t xo yo (.v (.int k a)) (.v (.int k b)) = some (.v (.int k (k.wrap (a.tdiv b)))) := by
  have : Op.intDiv .quo k a b = pure (.int k (k.wrap (a.tdiv b))) := by simp [Op.intDiv, h]
  have e : binOp .quo t (.int k a) (.int k b) = pure (.int k (k.wrap (a.tdiv b))) := by cases k <;> exact this
  have g : eqGuard .quo t xo yo (.int k a) (.int k b) = pure () := rfl
  simp only [binA, binOldA, plainOf, g, e]
  rfl
theorem binA_rem (k : IntKind) (a b : Int) (h : b ≠ 0) : binA P .rem t xo yo (.v (.int k a)) (.v (.int k b)) = some (.v (.int k (a.tmod b))) := by
  have : Op.intDiv .rem k a b = pure (.int k (a.tmod b)) := by simp [Op.intDiv, h]
  have e : binOp .rem t (.int k a) (.int k b) = pure (.int k (a.tmod b)) := by cases k <;> exact this
  have g : eqGuard .rem t xo yo (.int k a) (.int k b) = pure () := rfl
  simp only [binA, binOldA, plainOf, g, e]
  rfl
theorem binA_shl (k k' : IntKind) (a b : Int) (h : ¬ b < 0) : binA P .shl t xo yo (.v (.int k a)) (.v (.int k' b)) = some (.v (.int k (k.wrap (a * 2 ^ (min b.toNat k.bits))))) := by
  have : Op.shift .shl k a k' b = pure (.int k (k.wrap (a * 2 ^ (min b.toNat k.bits)))) := by simp [Op.shift, h]
  have e : binOp .shl t (.int k a) (.int k' b) = pure (.int k (k.wrap (a * 2 ^ (min b.toNat k.bits)))) := this
  have g : eqGuard .shl t xo yo (.int k a) (.int k' b) = pure () := rfl
  simp only [binA, binOldA, plainOf, g, e]
  rfl
theorem binA_shr (k k' : IntKind) (a b : Int) (h : ¬ b < 0) : binA P .shr t xo yo (.v (.int k a)) (.v (.int k' b)) = some (.v (.int k (a.fdiv (2 ^ (min b.toNat k.bits))))) := by
  have : Op.shift .shr k a k' b = pure (.int k (a.fdiv (2 ^ (min b.toNat k.bits)))) := by simp [Op.shift, h]
  have e : binOp .shr t (.int k a) (.int k' b) = pure (.int k (a.fdiv (2 ^ (min b.toNat k.bits)))) := this
  have g : eqGuard .shr t xo yo (.int k a) (.int k' b) = pure () := rfl
  simp only [binA, binOldA, plainOf, g, e]
  rfl

theorem binA_eql_nn (h : isPtrT P t = true) (hu : pureRun P (do eqGuard .eql t xo yo (.pointer none) (.pointer none); binOp .eql t (.pointer none) (.pointer none)) = some (.bool true)) : binA P .eql t xo yo (.v (.pointer none)) (.v (.pointer none)) = some (.v (.bool true)) := by
  simp only [binA, binOldA, plainOf, hu]; rfl
theorem binA_eql_pn (h : isPtrT P t = true) (id off : Nat) : binA P .eql t xo yo (.ptr id off) (.v (.pointer none)) = some (.v (.bool false)) := by
  simp [binA, binOldA, plainOf, isEq, nilPtr, h]
theorem binA_neq_pn (h : isPtrT P t = true) (id off : Nat) : binA P .neq t xo yo (.ptr id off) (.v (.pointer none)) = some (.v (.bool true)) := by
  simp [binA, binOldA, plainOf, isEq, nilPtr, h]
theorem binA_agg_eql {t : TypeId} (xo yo : Operand) {cs ds : List AV} : binA P .eql t xo yo (.agg cs) (.agg ds) = (match flatT P t with
    | some ks => if fitsK ks cs && fitsK ks ds then some (.v (.bool (cellsEqA cs ds))) else none
    | none => none) := by
  cases h : flatT P t <;> simp [binA, isEq, h]
theorem binA_agg_neq {t : TypeId} (xo yo : Operand) {cs ds : List AV} : binA P .neq t xo yo (.agg cs) (.agg ds) = (match flatT P t with
    | some ks => if fitsK ks cs && fitsK ks ds then some (.v (.bool (!cellsEqA cs ds))) else none
    | none => none) := by
  cases h : flatT P t <;> simp [binA, isEq, h]
theorem binA_eql_bb (h : (P.underlying t) = some .bool) (a b : Bool) (hb : pureRun P (binOp .eql t (.bool a) (.bool b)) = some (.bool (a == b))) : binA P .eql t xo yo (.v (.bool a)) (.v (.bool b)) = some (.v (.bool (a == b))) := by
  have g : eqGuard .eql t xo yo (.bool a) (.bool b) = pure () := rfl
  simp only [binA, binOldA, plainOf, g]
  show (match pureRun P (binOp .eql t (.bool a) (.bool b)) with | some r => if plain r = true then some (AV.v r) else none | none => none) = _
  rw [hb]; rfl
theorem unA_not (b : Bool) : unA .not (.v (.bool b)) P = some (.v (.bool !b)) := rfl
end

theorem convA_int {P : Program} (s d : TypeId) (k : IntKind) (n : Int) : convA P s d (.v (.int k n)) = (match intT P s, intT P d with
    | some _, some k2 => some (.v (.int k2 (k2.wrap n)))
    | _, _ => match pureRun P (convert s d (.int k n)) with
      | some r => if plain r then some (.v r) else none
      | none => none) := by
  simp only [convA, intA]
  cases intT P s <;> cases intT P d <;> rfl

/-- Bytes, as they lie. -/
def bytesA (p : List UInt8) : List AV := p.map fun b => .v (.int .u8 b.toNat)

@[simp] theorem bytesA_length (p : List UInt8) : (bytesA p).length = p.length := by simp [bytesA]

end Go.Vm
