import Derived.Test.YtdbaddholggkbaaVmW
/-
  Numbers and bytes: what the walks need of them.
-/
namespace Go.Vm
set_option linter.unnecessarySimpa false
set_option linter.unusedSimpArgs false
set_option linter.unusedVariables false
open Go

theorem callsA_weaker {P : Program} {f : FuncId} {args : List AV} {σ : St} {A A' : AV} {S S' : St} {Q : AV → St → Prop} (h : CallsA P f args σ (fun av σ' => av = A ∧ σ' = S)) (ha : Wk A A') (hs : WkS S S') (hq : Q A' S') : CallsA P f args σ Q :=
  callsA_wkS h (fun _ _ ⟨h1, h2⟩ => ⟨A', S', h1 ▸ ha, h2 ▸ hs, hq⟩)

theorem bytesA_get {l : List UInt8} {k : Nat} (h : k < l.length) : (bytesA l)[k]? = some (.v (.int .u8 l[k].toNat)) := by simp [bytesA, h]

@[simp] theorem bytesA_getElem {l : List UInt8} {k : Nat} (h : k < (bytesA l).length) : (bytesA l)[k] = .v (.int .u8 (l[k]'(by simpa using h)).toNat) := by simp [bytesA]
@[simp] theorem bytesA_nil : bytesA [] = [] := rfl

theorem under_bytes (B : Bd) : ∀ p : List UInt8, underL B (bytesA p) = true
  | [] => rfl
  | b :: p => by
    have := under_bytes B p
    simp only [bytesA, List.map_cons, underL, AV.under, Bool.true_and] at this ⊢
    exact this

@[simp] theorem bits_u64 : IntKind.u64.bits = 64 := rfl
@[simp] theorem bits_u32 : IntKind.u32.bits = 32 := rfl
@[simp] theorem bits_u16 : IntKind.u16.bits = 16 := rfl
@[simp] theorem bits_u8 : IntKind.u8.bits = 8 := rfl
@[simp] theorem bits_i64 : IntKind.i64.bits = 64 := rfl

theorem bytesA_take (l : List UInt8) (k : Nat) : (bytesA l).take k = bytesA (l.take k) := by simp [bytesA]
theorem bytesA_drop (l : List UInt8) (k : Nat) : (bytesA l).drop k = bytesA (l.drop k) := by simp [bytesA]
theorem bytesA_append (l m : List UInt8) : bytesA l ++ bytesA m = bytesA (l ++ m) := by simp [bytesA]

section lists
variable {α : Type} (l r : List α) (x y z u v : α)
@[simp] theorem get_app0 : (l ++ x :: r)[l.length]? = some x := by simp
@[simp] theorem get_app1 : (l ++ x :: y :: r)[l.length + 1]? = some y := by simp
@[simp] theorem get_app2 : (l ++ x :: y :: z :: r)[l.length + 2]? = some z := by simp
@[simp] theorem get_app3 : (l ++ x :: y :: z :: u :: r)[l.length + 3]? = some u := by simp
@[simp] theorem get_app1' : (l ++ x :: y :: r)[l.length + (0 + 1)]? = some y := by simp
@[simp] theorem get_app2' : (l ++ x :: y :: z :: r)[l.length + (1 + 1)]? = some z := by simp
@[simp] theorem get_app2'' : (l ++ x :: y :: z :: r)[l.length + 1 + 1]? = some z := by simp [Nat.add_assoc]
@[simp] theorem get_app3' : (l ++ x :: y :: z :: u :: r)[l.length + (2 + 1)]? = some u := by simp
@[simp] theorem get_app3'' : (l ++ x :: y :: z :: u :: r)[l.length + 1 + 1 + 1]? = some u := by simp [Nat.add_assoc]
@[simp] theorem set_app0 : (l ++ x :: r).set l.length v = l ++ v :: r := by simp
@[simp] theorem set_app1 : (l ++ x :: y :: r).set (l.length + 1) v = l ++ x :: v :: r := by simp [List.set_append]
@[simp] theorem set_app2 : (l ++ x :: y :: z :: r).set (l.length + 2) v = l ++ x :: y :: v :: r := by simp [List.set_append]
@[simp] theorem set_app3 : (l ++ x :: y :: z :: u :: r).set (l.length + 3) v = l ++ x :: y :: z :: v :: r := by simp [List.set_append]
@[simp] theorem set_app2'' : (l ++ x :: y :: z :: r).set (l.length + 1 + 1) v = l ++ x :: y :: v :: r := by simp [List.set_append, Nat.add_assoc]
@[simp] theorem set_app3'' : (l ++ x :: y :: z :: u :: r).set (l.length + 1 + 1 + 1) v = l ++ x :: y :: z :: v :: r := by simp [List.set_append, Nat.add_assoc]
@[simp] theorem get_sapp0 (i : Nat) : (l.set i v ++ x :: r)[l.length]? = some x := by simp
@[simp] theorem get_sapp1 (i : Nat) : (l.set i v ++ x :: y :: r)[l.length + 1]? = some y := by simp
@[simp] theorem get_sapp2 (i : Nat) : (l.set i v ++ x :: y :: z :: r)[l.length + 2]? = some z := by simp
@[simp] theorem set_sapp0 (i : Nat) : (l.set i v ++ x :: r).set l.length u = l.set i v ++ u :: r := by simp [List.set_append]
@[simp] theorem set_sapp1 (i : Nat) : (l.set i v ++ x :: y :: r).set (l.length + 1) u = l.set i v ++ x :: u :: r := by simp [List.set_append]
@[simp] theorem set_sapp2 (i : Nat) : (l.set i v ++ x :: y :: z :: r).set (l.length + 2) u = l.set i v ++ x :: y :: u :: r := by simp [List.set_append]
end lists

/-- Bytes as a number, the highest first. -/
def be (l : List UInt8) : Nat := l.foldl (fun x b => x * 256 + b.toNat) 0

@[simp] theorem be_nil : be [] = 0 := rfl
theorem be_snoc (l : List UInt8) (b : UInt8) : be (l ++ [b]) = be l * 256 + b.toNat := by simp [be]

theorem snoc_ind {α : Type} {p : List α → Prop} (h0 : p []) (hs : ∀ l a, p l → p (l ++ [a])) (l : List α) : p l := by
  have key : ∀ m : List α, p m.reverse := by
    intro m
    induction m with
    | nil => exact h0
    | cons a m ih => rw [List.reverse_cons]; exact hs _ _ ih
  have := key l.reverse
  rwa [List.reverse_reverse] at this

theorem be_lt (l : List UInt8) : be l < 256 ^ l.length := by
  induction l using snoc_ind with
  | h0 => simp [be]
  | hs l b ih =>
    rw [be_snoc, List.length_append, List.length_singleton, Nat.pow_succ]
    have := b.toNat_lt
    omega

theorem be_lt8 (l : List UInt8) (h : l.length ≤ 8) : be l < 18446744073709551616 := by
  have h1 := be_lt l
  have h2 : 256 ^ l.length ≤ 256 ^ 8 := Nat.pow_le_pow_right (by omega) h
  omega

theorem be_lt7 (l : List UInt8) (h : l.length ≤ 7) : be l < 72057594037927936 := by
  have h1 := be_lt l
  have h2 : 256 ^ l.length ≤ 256 ^ 7 := Nat.pow_le_pow_right (by omega) h
  omega

theorem take_succ {α : Type} {l : List α} {k : Nat} (h : k < l.length) : l.take (k + 1) = l.take k ++ [l[k]] := by
  rw [List.take_succ_eq_append_getElem h]

theorem wrap_u64 (n : Nat) : IntKind.u64.wrap (n : Int) = ((n % 18446744073709551616 : Nat) : Int) := by
  show (if (false && decide ((n : Int) % 2 ^ 64 ≥ 2 ^ (64 - 1))) = true then (n : Int) % 2 ^ 64 - 2 ^ 64 else (n : Int) % 2 ^ 64) = _
  simp only [Bool.false_and, Bool.false_eq_true, if_false]
  omega

theorem wrap_u32 (n : Nat) : IntKind.u32.wrap (n : Int) = ((n % 4294967296 : Nat) : Int) := by
  show (if (false && decide ((n : Int) % 2 ^ 32 ≥ 2 ^ (32 - 1))) = true then (n : Int) % 2 ^ 32 - 2 ^ 32 else (n : Int) % 2 ^ 32) = _
  simp only [Bool.false_and, Bool.false_eq_true, if_false]
  omega

theorem wrap_u16 (n : Nat) : IntKind.u16.wrap (n : Int) = ((n % 65536 : Nat) : Int) := by
  show (if (false && decide ((n : Int) % 2 ^ 16 ≥ 2 ^ (16 - 1))) = true then (n : Int) % 2 ^ 16 - 2 ^ 16 else (n : Int) % 2 ^ 16) = _
  simp only [Bool.false_and, Bool.false_eq_true, if_false]
  omega

theorem wrap_u8 (n : Nat) : IntKind.u8.wrap (n : Int) = ((n % 256 : Nat) : Int) := by
  show (if (false && decide ((n : Int) % 2 ^ 8 ≥ 2 ^ (8 - 1))) = true then (n : Int) % 2 ^ 8 - 2 ^ 8 else (n : Int) % 2 ^ 8) = _
  simp only [Bool.false_and, Bool.false_eq_true, if_false]
  omega

theorem wrap_i64 (n : Int) (h1 : -9223372036854775808 ≤ n) (h2 : n < 9223372036854775808) : IntKind.i64.wrap n = n := by
  show (if (true && decide (n % 2 ^ 64 ≥ 2 ^ (64 - 1))) = true then n % 2 ^ 64 - 2 ^ 64 else n % 2 ^ 64) = _
  by_cases h : n % 2 ^ 64 ≥ 2 ^ (64 - 1)
  · rw [if_pos (by simpa using h)]; omega
  · rw [if_neg (by simpa using h)]; omega

/-- In the form in which simp takes them, where omega pays the bounds. -/
theorem wrap_i64c {n : Int} (h : -9223372036854775808 ≤ n ∧ n < 9223372036854775808) : IntKind.i64.wrap n = n := wrap_i64 n h.1 h.2
theorem wrap_u64c {n : Int} (h : 0 ≤ n ∧ n < 18446744073709551616) : IntKind.u64.wrap n = n := by
  obtain ⟨m, rfl⟩ : ∃ m : Nat, n = m := ⟨n.toNat, by omega⟩
  rw [wrap_u64, Nat.mod_eq_of_lt (by omega)]
theorem wrap_u32c {n : Int} (h : 0 ≤ n ∧ n < 4294967296) : IntKind.u32.wrap n = n := by
  obtain ⟨m, rfl⟩ : ∃ m : Nat, n = m := ⟨n.toNat, by omega⟩
  rw [wrap_u32, Nat.mod_eq_of_lt (by omega)]
theorem wrap_u16c {n : Int} (h : 0 ≤ n ∧ n < 65536) : IntKind.u16.wrap n = n := by
  obtain ⟨m, rfl⟩ : ∃ m : Nat, n = m := ⟨n.toNat, by omega⟩
  rw [wrap_u16, Nat.mod_eq_of_lt (by omega)]
theorem wrap_u8c {n : Int} (h : 0 ≤ n ∧ n < 256) : IntKind.u8.wrap n = n := by
  obtain ⟨m, rfl⟩ : ∃ m : Nat, n = m := ⟨n.toNat, by omega⟩
  rw [wrap_u8, Nat.mod_eq_of_lt (by omega)]

@[simp] theorem wrap_u64_byte (b : UInt8) : IntKind.u64.wrap (b.toNat : Int) = b.toNat := by
  have := b.toNat_lt
  rw [wrap_u64, Nat.mod_eq_of_lt (by omega)]
@[simp] theorem wrap_u8_byte (b : UInt8) : IntKind.u8.wrap (b.toNat : Int) = b.toNat := by
  have := b.toNat_lt
  rw [wrap_u8, Nat.mod_eq_of_lt (by omega)]
@[simp] theorem wrap_i64_byte (b : UInt8) : IntKind.i64.wrap (b.toNat : Int) = b.toNat := by
  have := b.toNat_lt
  rw [wrap_i64 _ (by omega) (by omega)]

/-- 'x << 8 | b'. -/
theorem shl_or (x b : Nat) (hx : x < 72057594037927936) (hb : b < 256) :
    IntKind.u64.wrap ((BitVec.ofInt 64 (IntKind.u64.wrap ((x : Int) * 2 ^ 8)) ||| BitVec.ofInt 64 (b : Int)).toNat) = ((x * 256 + b : Nat) : Int) := by
  have e1 : ((x : Int) * 2 ^ 8) = ((x * 256 : Nat) : Int) := by omega
  rw [e1, wrap_u64 (x * 256), Nat.mod_eq_of_lt (by omega)]
  have e2 : BitVec.ofInt 64 ((x * 256 : Nat) : Int) = BitVec.ofNat 64 (x * 256) := BitVec.ofInt_natCast 64 _
  have e3 : BitVec.ofInt 64 ((b : Nat) : Int) = BitVec.ofNat 64 b := BitVec.ofInt_natCast 64 _
  rw [e2, e3]
  rw [BitVec.toNat_or, BitVec.toNat_ofNat, BitVec.toNat_ofNat, Nat.mod_eq_of_lt (by omega), Nat.mod_eq_of_lt (by omega)]
  have e4 : x * 256 ||| b = x * 256 + b := by
    have := Nat.shiftLeft_add_eq_or_of_lt (show b < 2 ^ 8 by omega) x
    rw [Nat.shiftLeft_eq] at this
    exact this.symm
  rw [e4, wrap_u64, Nat.mod_eq_of_lt (by omega)]

theorem shl_or' (x b : Nat) (hx : x < 72057594037927936) (hb : b < 256) :
    IntKind.u64.wrap ((BitVec.ofInt 64 (IntKind.u64.wrap ((x : Int) * 256)) ||| BitVec.ofNat 64 b).toNat) = ((x * 256 + b : Nat) : Int) := by
  have := shl_or x b hx hb
  rwa [BitVec.ofInt_natCast 64 b] at this

theorem pickA_true (x y : AV) : pickA true x y = x := by
  unfold pickA
  split <;> rfl
theorem pickA_false (x y : AV) : pickA false x y = y := by
  unfold pickA
  split <;> rfl
theorem pickA_bb (t p q : Bool) : pickA t (.v (.bool p)) (.v (.bool q)) = .v (.bool (bif t then p else q)) := rfl

theorem lenA_sl {P : Program} {t : TypeId} {sz n : Nat} {cs : List AV} {tl : Tail} : lenA P t (.sl sz cs n tl) = (elemT P t).map fun _ => .v (.int .i64 n) := rfl

/-! ### Numbers of 256 bits -/

def limb (x j : Nat) : Nat := x / 2 ^ (64 * j) % 2 ^ 64

/-- A number's four cells, the lowest first. -/
def numA (x : Nat) : List AV := [.v (.int .u64 (limb x 0 : Nat)), .v (.int .u64 (limb x 1 : Nat)), .v (.int .u64 (limb x 2 : Nat)), .v (.int .u64 (limb x 3 : Nat))]

@[simp] theorem numA_length (x : Nat) : (numA x).length = 4 := rfl
@[simp] theorem numA_take (x : Nat) : (numA x).take 4 = numA x := rfl
theorem numA_zero : numA 0 = [.v (.int .u64 0), .v (.int .u64 0), .v (.int .u64 0), .v (.int .u64 0)] := rfl
theorem limb_lt (x j : Nat) : limb x j < 18446744073709551616 := Nat.mod_lt _ (by decide)

theorem numA_get (x : Nat) {j : Nat} (h : j < 4) : (numA x)[j]? = some (.v (.int .u64 (limb x j : Nat))) := by
  match j, h with
  | 0, _ => rfl
  | 1, _ => rfl
  | 2, _ => rfl
  | 3, _ => rfl

theorem limb_bit (x j i : Nat) : (limb x j).testBit i = (decide (i < 64) && x.testBit (64 * j + i)) := by
  simp only [limb, Nat.testBit_mod_two_pow, Nat.testBit_div_two_pow]
  rw [Nat.add_comm]

theorem limb_or {x b k : Nat} (j : Nat) (hb : b < 256) : limb (x ||| b <<< (8 * k)) j = if j = k / 8 then limb x j ||| b <<< (8 * (k % 8)) else limb x j := by
  have hbit : ∀ i, 8 ≤ i → b.testBit i = false := fun i hi => Nat.testBit_lt_two_pow (Nat.lt_of_lt_of_le hb (by
    have := Nat.pow_le_pow_right (show 0 < 2 by omega) hi
    simpa using this))
  have hk := Nat.div_add_mod k 8
  have hk8 : k % 8 < 8 := Nat.mod_lt _ (by omega)
  apply Nat.eq_of_testBit_eq
  intro i
  rw [limb_bit, Nat.testBit_or, Nat.testBit_shiftLeft]
  by_cases hj : j = k / 8
  · subst hj
    rw [if_pos rfl, Nat.testBit_or, limb_bit, Nat.testBit_shiftLeft]
    by_cases hi : i < 64
    · by_cases hge : i ≥ 8 * (k % 8)
      · have e1 : 64 * (k / 8) + i ≥ 8 * k := by omega
        have e2 : 64 * (k / 8) + i - 8 * k = i - 8 * (k % 8) := by omega
        simp [hi, hge, e1, e2]
      · have e1 : ¬ 64 * (k / 8) + i ≥ 8 * k := by omega
        simp [hi, hge, e1]
    · have hf : b.testBit (i - 8 * (k % 8)) = false := hbit _ (by omega)
      simp [hi, hf]
  · rw [if_neg hj, limb_bit]
    by_cases hi : i < 64
    · by_cases hge : 64 * j + i ≥ 8 * k
      · have hf : b.testBit (64 * j + i - 8 * k) = false := hbit _ (by omega)
        simp [hi, hf]
      · simp [hi, hge]
    · simp [hi]

theorem numA_set {x b k : Nat} (hb : b < 256) (hk : k < 32) : (numA x).set (k / 8) (.v (.int .u64 ((limb x (k / 8) ||| b <<< (8 * (k % 8)) : Nat) : Int))) = numA (x ||| b <<< (8 * k)) := by
  have h : k / 8 = 0 ∨ k / 8 = 1 ∨ k / 8 = 2 ∨ k / 8 = 3 := by omega
  simp only [numA, limb_or (x := x) (k := k) _ hb]
  rcases h with h | h | h | h <;> rw [h] <;> rfl

theorem numA_put {x b k q r : Nat} (hb : b < 256) (hq : q < 4) (hr : r < 8) (hk : 8 * q + r = k) : (numA x).take q ++ .v (.int .u64 ((limb x q ||| b <<< (8 * r) : Nat) : Int)) :: (numA x).drop (q + 1) = numA (x ||| b <<< (8 * k)) := by
  subst hk
  have h := numA_set (x := x) (k := 8 * q + r) hb (by omega)
  have e1 : (8 * q + r) / 8 = q := by omega
  have e2 : (8 * q + r) % 8 = r := by omega
  rw [e1, e2] at h
  rw [← h, List.set_eq_take_append_cons_drop, if_pos (by simpa using hq)]

theorem or_u64 {a b : Nat} (ha : a < 18446744073709551616) (hb : b < 18446744073709551616) :
    IntKind.u64.wrap (((BitVec.ofNat 64 a ||| BitVec.ofNat 64 b).toNat : Nat) : Int) = ((a ||| b : Nat) : Int) := by
  rw [BitVec.toNat_or, BitVec.toNat_ofNat, BitVec.toNat_ofNat, Nat.mod_eq_of_lt (by omega), Nat.mod_eq_of_lt (by omega), wrap_u64, Nat.mod_eq_of_lt]
  exact Nat.or_lt_two_pow (n := 64) ha hb

theorem shl_byte {b k : Nat} (hb : b < 256) (hk : k < 8) : b <<< (8 * k) < 18446744073709551616 := by
  rw [Nat.shiftLeft_eq]
  have : 2 ^ (8 * k) ≤ 2 ^ 56 := Nat.pow_le_pow_right (by omega) (by omega)
  have h2 : b * 2 ^ (8 * k) ≤ 255 * 2 ^ 56 := Nat.mul_le_mul (by omega) this
  omega

theorem be_from (l : List UInt8) : ∀ x : Nat, l.foldl (fun x b => x * 256 + b.toNat) x = x * 256 ^ l.length + be l := by
  induction l with
  | nil => intro x; simp
  | cons b l ih =>
    intro x
    have h1 := ih (x * 256 + b.toNat)
    have h2 := ih (0 * 256 + b.toNat)
    simp only [be, List.foldl_cons, List.length_cons, Nat.pow_succ] at *
    rw [h1, h2, Nat.add_mul, Nat.zero_mul, Nat.zero_add, Nat.mul_assoc, Nat.mul_comm 256]
    omega

theorem be_cons (b : UInt8) (l : List UInt8) : be (b :: l) = b.toNat * 256 ^ l.length + be l := by
  have := be_from l (0 * 256 + b.toNat)
  simpa [be] using this

/-- The bytes at some places, each where it belongs. -/
def orAll (p : List UInt8) (l : List Nat) : Nat := l.foldl (fun x i => x ||| (p.getD i 0).toNat <<< (8 * (p.length - 1 - i))) 0

theorem orAll_nil (p : List UInt8) : orAll p [] = 0 := rfl
theorem orAll_snoc (p : List UInt8) (l : List Nat) (i : Nat) : orAll p (l ++ [i]) = orAll p l ||| (p.getD i 0).toNat <<< (8 * (p.length - 1 - i)) := by simp [orAll]

theorem orAll_all (p : List UInt8) : orAll p (List.range p.length).reverse = be p := by
  have key : ∀ j, j ≤ p.length → orAll p ((List.range p.length).reverse.take j) = be (p.drop (p.length - j)) := by
    intro j
    induction j with
    | zero => intro _; simp [orAll]
    | succ j ih =>
      intro hj
      have hlt : j < ((List.range p.length).reverse).length := by simp; omega
      have hg : ((List.range p.length).reverse)[j] = p.length - 1 - j := by simp
      rw [List.take_succ_eq_append_getElem hlt, hg, orAll_snoc, ih (by omega)]
      have hlt2 : p.length - (j + 1) < p.length := by omega
      rw [List.drop_eq_getElem_cons hlt2, be_cons]
      have e1 : p.length - (j + 1) + 1 = p.length - j := by omega
      have e2 : p.length - 1 - j = p.length - (j + 1) := by omega
      have e3 : p.length - 1 - (p.length - (j + 1)) = j := by omega
      have e4 : (p.drop (p.length - j)).length = j := by simp; omega
      rw [e1, e2, e3, e4]
      have hb := be_lt (p.drop (p.length - j))
      rw [e4] at hb
      have e5 : (256 : Nat) ^ j = 2 ^ (8 * j) := by rw [Nat.pow_mul]
      rw [e5] at hb ⊢
      have := Nat.shiftLeft_add_eq_or_of_lt hb (p.getD (p.length - (j + 1)) 0).toNat
      rw [Nat.or_comm, ← this, Nat.shiftLeft_eq]
      simp [List.getD, hlt2]
  have := key p.length (Nat.le_refl _)
  simpa [List.take_of_length_le] using this

end Go.Vm
