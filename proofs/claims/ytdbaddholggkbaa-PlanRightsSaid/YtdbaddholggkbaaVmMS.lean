import Derived.Test.YtdbaddholggkbaaVmU
import Derived.Laws.Externs
import Derived.Test.YtdbaddholggkbaaVmY
import Derived.Test.YtdbaddholggkbaaVmW
/-
  Digits: lists of numbers below a base, the lowest first, and the numbers that they are.
-/
namespace Go.Vm
set_option linter.unnecessarySimpa false
set_option linter.unusedSimpArgs false
set_option linter.unusedVariables false
open Go

theorem set_appN {α : Type} (l r : List α) (n : Nat) (x : α) : (l ++ r).set (l.length + n) x = l ++ r.set n x := by
  rw [List.set_append_right _ _ (by omega), Nat.add_sub_cancel_left]
theorem get_appN {α : Type} (l r : List α) (n : Nat) : (l ++ r)[l.length + n]? = r[n]? := by
  rw [List.getElem?_append_right (by omega), Nat.add_sub_cancel_left]

/-- Bits, word by word. -/
def andI (k : IntKind) (a b : Int) : Int := k.wrap (BitVec.ofInt k.bits a &&& BitVec.ofInt k.bits b).toNat
def orI (k : IntKind) (a b : Int) : Int := k.wrap (BitVec.ofInt k.bits a ||| BitVec.ofInt k.bits b).toNat
def xorI (k : IntKind) (a b : Int) : Int := k.wrap (BitVec.ofInt k.bits a ^^^ BitVec.ofInt k.bits b).toNat
theorem binA_andI {P : Program} {t : TypeId} {xo yo : Operand} {k : IntKind} {a b : Int} : binA P .and t xo yo (.v (.int k a)) (.v (.int k b)) = some (.v (.int k (andI k a b))) := binA_and t xo yo k a b
theorem binA_orI {P : Program} {t : TypeId} {xo yo : Operand} {k : IntKind} {a b : Int} : binA P .or t xo yo (.v (.int k a)) (.v (.int k b)) = some (.v (.int k (orI k a b))) := binA_or t xo yo k a b
theorem binA_xorI {P : Program} {t : TypeId} {xo yo : Operand} {k : IntKind} {a b : Int} : binA P .xor t xo yo (.v (.int k a)) (.v (.int k b)) = some (.v (.int k (xorI k a b))) := binA_xor t xo yo k a b

theorem take_appN {α : Type} (l r : List α) (n : Nat) : (l ++ r).take (l.length + n) = l ++ r.take n := by
  rw [List.take_append, List.take_of_length_le (by omega), Nat.add_sub_cancel_left]

def valD (b : Nat) : List Nat → Nat
  | [] => 0
  | d :: l => d + b * valD b l

@[simp] theorem valD_nil (b : Nat) : valD b [] = 0 := rfl

theorem valD_append (b : Nat) : ∀ l m : List Nat, valD b (l ++ m) = valD b l + b ^ l.length * valD b m
  | [], m => by simp
  | d :: l, m => by
    simp only [List.cons_append, valD, valD_append b l m, List.length_cons, Nat.pow_succ, Nat.mul_add]
    rw [← Nat.add_assoc, ← Nat.mul_assoc, Nat.mul_comm b (b ^ l.length)]

theorem valD_snoc (b : Nat) (l : List Nat) (d : Nat) : valD b (l ++ [d]) = valD b l + b ^ l.length * d := by
  rw [valD_append]; simp [valD]

theorem valD_lt {b : Nat} : ∀ {l : List Nat}, (∀ d ∈ l, d < b) → valD b l < b ^ l.length
  | [], _ => by simp
  | d :: l, h => by
    have h1 : d < b := h d (by simp)
    have h2 := valD_lt (l := l) (fun x hx => h x (by simp [hx]))
    simp only [valD, List.length_cons, Nat.pow_succ]
    have h3 : b * (valD b l + 1) ≤ b * b ^ l.length := Nat.mul_le_mul_left _ h2
    rw [Nat.mul_add] at h3
    rw [Nat.mul_comm (b ^ l.length) b]
    omega

theorem valD_zero (b n : Nat) : valD b (List.replicate n 0) = 0 := by
  induction n with
  | zero => rfl
  | succ n ih => simp [List.replicate_succ, valD, ih]

/-- A number's first digits. -/
def digs (b n x : Nat) : List Nat := (List.range n).map fun i => x / b ^ i % b

@[simp] theorem digs_len (b n x : Nat) : (digs b n x).length = n := by simp [digs]
theorem digs_get {b n x i : Nat} (h : i < n) : (digs b n x)[i]'(by simpa using h) = x / b ^ i % b := by simp [digs]
theorem digs_get? {b n x i : Nat} (h : i < n) : (digs b n x)[i]? = some (x / b ^ i % b) := by simp [digs, h]
theorem digs_lt {b n x : Nat} (hb : 0 < b) : ∀ d ∈ digs b n x, d < b := by
  intro d hd
  simp only [digs, List.mem_map, List.mem_range] at hd
  obtain ⟨i, _, rfl⟩ := hd
  exact Nat.mod_lt _ hb
theorem digs_snoc (b n x : Nat) : digs b (n + 1) x = digs b n x ++ [x / b ^ n % b] := by simp [digs, List.range_succ]
theorem digs_take {b n m x : Nat} (h : n ≤ m) : (digs b m x).take n = digs b n x := by simp [digs, ← List.map_take, List.take_range, Nat.min_eq_left h]
theorem digs_zero (b n : Nat) : digs b n 0 = List.replicate n 0 := by
  simp [digs, List.map_const']

theorem valD_digs (b x : Nat) : ∀ n, valD b (digs b n x) = x % b ^ n
  | 0 => by simp [digs, Nat.mod_one]
  | n + 1 => by
    rw [digs_snoc, valD_snoc, valD_digs b x n, digs_len, Nat.mod_pow_succ]

theorem digs_valD {b : Nat} (hb : 0 < b) : ∀ {l : List Nat}, (∀ d ∈ l, d < b) → digs b l.length (valD b l) = l := by
  intro l h
  apply List.ext_getElem
  · simp
  · intro i h1 h2
    rw [digs_get (by simpa using h1)]
    have hl : i < l.length := h2
    have hi : l = l.take i ++ l[i] :: l.drop (i + 1) := by rw [List.getElem_cons_drop, List.take_append_drop]
    have h3 : valD b l = valD b (l.take i) + b ^ i * (l[i] + b * valD b (l.drop (i + 1))) := by
      conv => lhs; rw [hi, valD_append]
      simp [valD, Nat.min_eq_left (Nat.le_of_lt hl)]
    have h4 : valD b (l.take i) < b ^ i := by
      have := valD_lt (l := l.take i) (fun d hd => h d (List.mem_of_mem_take hd))
      simpa [Nat.min_eq_left (Nat.le_of_lt hl)] using this
    rw [h3, Nat.add_mul_div_left _ _ (Nat.pow_pos hb), Nat.div_eq_of_lt h4, Nat.zero_add, Nat.add_mul_mod_self_left, Nat.mod_eq_of_lt (h _ (List.getElem_mem hl))]

theorem digs_of {b n x : Nat} {l : List Nat} (hb : 0 < b) (h : ∀ d ∈ l, d < b) (hl : l.length = n) (hx : valD b l = x) : l = digs b n x := by
  subst hl; subst hx; exact (digs_valD hb h).symm

/-- A digit that is put. -/
theorem valD_set {b : Nat} {l : List Nat} {i : Nat} (h : i < l.length) (d : Nat) : valD b (l.set i d) + b ^ i * l[i] = valD b l + b ^ i * d := by
  have hi : l = l.take i ++ l[i] :: l.drop (i + 1) := by rw [List.getElem_cons_drop, List.take_append_drop]
  have e1 : l.set i d = l.take i ++ d :: l.drop (i + 1) := List.set_eq_take_append_cons_drop.trans (if_pos h)
  have hlen : (l.take i).length = i := by simp [Nat.min_eq_left (Nat.le_of_lt h)]
  have h3 : valD b l = valD b (l.take i) + b ^ i * (l[i] + b * valD b (l.drop (i + 1))) := by
    conv => lhs; rw [hi, valD_append]
    rw [hlen]; rfl
  have h4 : valD b (l.set i d) = valD b (l.take i) + b ^ i * (d + b * valD b (l.drop (i + 1))) := by
    rw [e1, valD_append, hlen]; rfl
  rw [h3, h4]
  simp only [Nat.mul_add]
  omega

/-- The first digits, and one more. -/
theorem mod_digit (b x i : Nat) : x % b ^ (i + 1) = x % b ^ i + b ^ i * (x / b ^ i % b) := Nat.mod_pow_succ

/-- Numbers as cells of 64 bits. -/
def u64s (l : List Nat) : List AV := l.map fun (n : Nat) => .v (.int .u64 (n : Int))
@[simp] theorem u64s_length (l : List Nat) : (u64s l).length = l.length := by simp [u64s]
theorem u64s_get {l : List Nat} {i : Nat} (h : i < l.length) : (u64s l)[i]? = some (.v (.int .u64 (l[i] : Nat))) := by simp [u64s, h]
theorem u64s_get' {l : List Nat} {i : Nat} (h : i < l.length) : (u64s l)[i]'(by simpa using h) = .v (.int .u64 (l[i] : Nat)) := by simp [u64s]
theorem u64s_append (l m : List Nat) : u64s l ++ u64s m = u64s (l ++ m) := by simp [u64s]
theorem u64s_snoc (l : List Nat) (n : Nat) : u64s l ++ [.v (.int .u64 n)] = u64s (l ++ [n]) := by simp [u64s]
theorem u64s_set (l : List Nat) (i n : Nat) (h : i < l.length) : (u64s l).take i ++ .v (.int .u64 n) :: (u64s l).drop (i + 1) = u64s (l.set i n) := by
  rw [show l.set i n = l.take i ++ n :: l.drop (i + 1) from List.set_eq_take_append_cons_drop.trans (if_pos h)]
  simp [u64s]
theorem u64s_splice {l : List Nat} {i n : Nat} (h : i < l.length) : splice (u64s l) i [.v (.int .u64 n)] = u64s (l.set i n) := by
  rw [← u64s_set l i n h]; simp [splice]
theorem u64s_take (l : List Nat) (i : Nat) : (u64s l).take i = u64s (l.take i) := by simp [u64s]
theorem u64s_drop (l : List Nat) (i : Nat) : (u64s l).drop i = u64s (l.drop i) := by simp [u64s]
theorem u64s_isCell (l : List Nat) : (u64s l).all AV.isCell = true := by simp [u64s, AV.isCell]
theorem u64s_under (B : Bd) : ∀ l : List Nat, underL B (u64s l) = true
  | [] => rfl
  | n :: l => by show underL B (.v (.int .u64 n) :: u64s l) = true; simp [underL, AV.under, u64s_under B l]
theorem u64s_noObj (n : Nat) : ∀ l : List Nat, noObjL n (u64s l) = true
  | [] => rfl
  | x :: l => by show noObjL n (.v (.int .u64 x) :: u64s l) = true; simp [noObjL, AV.noObj, u64s_noObj n l]

theorem limb_dig (x j : Nat) : limb x j = x / 18446744073709551616 ^ j % 18446744073709551616 := by rw [limb, show (18446744073709551616 : Nat) = 2 ^ 64 from rfl, ← Nat.pow_mul]
theorem numA_digs (x : Nat) : numA x = u64s (digs 18446744073709551616 4 x) := by
  simp only [numA, u64s, digs, limb_dig]; rfl
theorem numA_of {l : List Nat} (hl : l.length = 4) (h : ∀ d ∈ l, d < 18446744073709551616) : u64s l = numA (valD 18446744073709551616 l) := by
  rw [numA_digs, ← digs_of (by decide) h hl rfl]

theorem numA_len4 (x : Nat) : (numA x).length = 4 := rfl
theorem numA_take4 (x : Nat) : (numA x).take 4 = numA x := rfl
theorem numA_drop4 (x : Nat) : (numA x).drop 4 = [] := rfl
theorem numA_zero4 : numA 0 = [.v (.int .u64 0), .v (.int .u64 0), .v (.int .u64 0), .v (.int .u64 0)] := rfl
theorem numA_small {n : Nat} (h : n < 2 ^ 64) : numA n = [.v (.int .u64 n), .v (.int .u64 0), .v (.int .u64 0), .v (.int .u64 0)] := by
  have e : ∀ j, 0 < j → limb n j = 0 := fun j hj => by
    unfold limb
    rw [Nat.div_eq_of_lt (Nat.lt_of_lt_of_le h (Nat.pow_le_pow_right (by omega) (by omega)))]
  simp only [numA, e 1 (by omega), e 2 (by omega), e 3 (by omega)]
  have : limb n 0 = n := by unfold limb; rw [Nat.mul_zero, Nat.pow_zero, Nat.div_one, Nat.mod_eq_of_lt h]
  rw [this]; rfl
theorem numA_inj {x y : Nat} (hx : x < 2 ^ 256) (hy : y < 2 ^ 256) (h : numA x = numA y) : x = y := by
  rw [numA_digs, numA_digs] at h
  have h1 : digs 18446744073709551616 4 x = digs 18446744073709551616 4 y := by
    apply List.ext_getElem
    · simp
    · intro i h1 h2
      have := congrArg (fun l => l[i]?) h
      simp only [u64s, List.getElem?_map, List.getElem?_eq_getElem h1, List.getElem?_eq_getElem h2, Option.map_some, Option.some.injEq, AV.v.injEq, Value.int.injEq, true_and] at this
      omega
  have h2 := congrArg (valD 18446744073709551616) h1
  rw [valD_digs, valD_digs, Nat.mod_eq_of_lt hx, Nat.mod_eq_of_lt hy] at h2
  exact h2
end Go.Vm

/-
  Digits of sums and differences; what is carried.
-/
namespace Go.Vm
set_option linter.unnecessarySimpa false
set_option linter.unusedSimpArgs false
set_option linter.unusedVariables false
set_option exponentiation.threshold 600
open Go

/-- What is carried into a digit of a sum. -/
def addc (b x y i : Nat) : Nat := (x % b ^ i + y % b ^ i) / b ^ i

theorem addc_zero (b x y : Nat) : addc b x y 0 = 0 := by simp [addc, Nat.mod_one]
theorem addc_le {b x y i : Nat} (hb : 0 < b) : addc b x y i ≤ 1 := by
  have hB : 0 < b ^ i := Nat.pow_pos hb
  have h1 := Nat.mod_lt x hB
  have h2 := Nat.mod_lt y hB
  unfold addc
  rw [← Nat.lt_succ_iff, Nat.div_lt_iff_lt_mul hB]
  omega

theorem add_div' {B q1 q2 r1 r2 : Nat} (hB : 0 < B) : (B * q1 + r1 + (B * q2 + r2)) / B = q1 + q2 + (r1 + r2) / B := by
  rw [show B * q1 + r1 + (B * q2 + r2) = r1 + r2 + B * (q1 + q2) by rw [Nat.mul_add]; omega, Nat.add_mul_div_left _ _ hB]
  omega

theorem add_div_c {b x y i : Nat} (hb : 0 < b) : (x + y) / b ^ i = x / b ^ i + y / b ^ i + addc b x y i := by
  have hB : 0 < b ^ i := Nat.pow_pos hb
  conv => lhs; rw [← Nat.div_add_mod x (b ^ i), ← Nat.div_add_mod y (b ^ i)]
  exact add_div' hB

theorem addc_dig {b x y i : Nat} (hb : 0 < b) : (x / b ^ i % b + y / b ^ i % b + addc b x y i) % b = (x + y) / b ^ i % b := by
  rw [add_div_c hb]
  simp [Nat.add_mod, Nat.mod_mod]

theorem addc_next {b x y i : Nat} (hb : 0 < b) : (x / b ^ i % b + y / b ^ i % b + addc b x y i) / b = addc b x y (i + 1) := by
  have hB : 0 < b ^ i := Nat.pow_pos hb
  unfold addc
  rw [mod_digit b x i, mod_digit b y i, Nat.pow_succ, ← Nat.div_div_eq_div_mul]
  congr 1
  rw [show x % b ^ i + b ^ i * (x / b ^ i % b) + (y % b ^ i + b ^ i * (y / b ^ i % b)) = b ^ i * (x / b ^ i % b) + x % b ^ i + (b ^ i * (y / b ^ i % b) + y % b ^ i) by omega, add_div' hB]

theorem addc_last {b x y n : Nat} (hx : x < b ^ n) (hy : y < b ^ n) : addc b x y n = (x + y) / b ^ n := by
  unfold addc; rw [Nat.mod_eq_of_lt hx, Nat.mod_eq_of_lt hy]

/-- The first digits of a number, and the others of another one. -/
def mix (b n i s x : Nat) : List Nat := digs b i s ++ (digs b n x).drop i
theorem mix_zero (b n s x : Nat) : mix b n 0 s x = digs b n x := by simp [mix, digs]
theorem mix_all (b n s x : Nat) : mix b n n s x = digs b n s := by simp [mix]
theorem mix_len {b n i s x : Nat} (h : i ≤ n) : (mix b n i s x).length = n := by simp [mix]; omega
theorem mix_get {b n i s x : Nat} (h : i < n) : (mix b n i s x)[i]? = some (x / b ^ i % b) := by
  unfold mix
  rw [List.getElem?_append_right (by simp)]
  simp [digs_get h, h]
theorem mix_set {b n i s x : Nat} (h : i < n) : (mix b n i s x).set i (s / b ^ i % b) = mix b n (i + 1) s x := by
  unfold mix
  rw [List.set_append_right _ _ (by simp), digs_snoc]
  have e : (digs b n x).drop i = (digs b n x)[i]'(by simpa using h) :: (digs b n x).drop (i + 1) := List.drop_eq_getElem_cons (by simpa using h)
  simp only [digs_len, Nat.sub_self]
  rw [e, List.set_cons_zero]
  simp

theorem mixU_get {b n i s x : Nat} (h : i < n) : (u64s (mix b n i s x))[i]? = some (.v (.int .u64 (x / b ^ i % b : Nat))) := by
  simp [u64s, mix_get h]
theorem digU_get {b n i x : Nat} (h : i < n) : (u64s (digs b n x))[i]? = some (.v (.int .u64 (x / b ^ i % b : Nat))) := by
  simp [u64s, digs_get? h]
theorem mixU_set {b n i s x : Nat} (h : i < n) : (u64s (mix b n i s x)).take i ++ .v (.int .u64 (s / b ^ i % b : Nat)) :: (u64s (mix b n i s x)).drop (i + 1) = u64s (mix b n (i + 1) s x) := by
  rw [u64s_set _ _ _ (by rw [mix_len (by omega)]; exact h), mix_set h]

/-- What is borrowed from a digit of a difference. -/
def subb (b x y i : Nat) : Nat := if x % b ^ i < y % b ^ i then 1 else 0
theorem subb_zero (b x y : Nat) : subb b x y 0 = 0 := by simp [subb, Nat.mod_one]
theorem subb_le (b x y i : Nat) : subb b x y i ≤ 1 := by unfold subb; split <;> omega

theorem subb_next {b x y i : Nat} (hb : 0 < b) : (if x / b ^ i % b < y / b ^ i % b + subb b x y i then 1 else 0) = subb b x y (i + 1) := by
  have hB : 0 < b ^ i := Nat.pow_pos hb
  unfold subb
  rw [mod_digit b x i, mod_digit b y i]
  generalize hp : x / b ^ i % b = p
  generalize hq : y / b ^ i % b = q
  have h1 := Nat.mod_lt x hB
  have h2 := Nat.mod_lt y hB
  generalize x % b ^ i = r1 at *
  generalize y % b ^ i = r2 at *
  generalize b ^ i = B at *
  have key : (p < q → B * p + B ≤ B * q) ∧ (q < p → B * q + B ≤ B * p) ∧ (p = q → B * p = B * q) :=
    ⟨fun h => by rw [← Nat.mul_succ]; exact Nat.mul_le_mul_left _ h, fun h => by rw [← Nat.mul_succ]; exact Nat.mul_le_mul_left _ h, fun h => by rw [h]⟩
  rcases Nat.lt_trichotomy p q with h | h | h
  · have := key.1 h
    rw [if_pos (by omega), if_pos (by omega)]
  · have := key.2.2 h
    by_cases h3 : r1 < r2
    · rw [if_pos (by simp [h3]; omega), if_pos (by omega)]
    · rw [if_neg (by simp [h3]; omega), if_neg (by omega)]
  · have := key.2.1 h
    rw [if_neg (by split <;> omega), if_neg (by omega)]

theorem subb_last {b x y n : Nat} (hx : x < b ^ n) (hy : y < b ^ n) : subb b x y n = if x < y then 1 else 0 := by
  unfold subb; rw [Nat.mod_eq_of_lt hx, Nat.mod_eq_of_lt hy]

theorem subb_dig {b x y i n : Nat} (hb : 0 < b) (hi : i < n) (hx : x < b ^ n) (hy : y < b ^ n) :
    (x / b ^ i % b + b - y / b ^ i % b - subb b x y i) % b = (x + b ^ n - y) / b ^ i % b := by
  have hB : 0 < b ^ i := Nat.pow_pos hb
  obtain ⟨k, rfl⟩ : ∃ k, n = i + (k + 1) := ⟨n - i - 1, by omega⟩
  rw [Nat.pow_add] at hx hy ⊢
  have h1 := Nat.mod_lt x hB
  have h2 := Nat.mod_lt y hB
  have ex := Nat.div_add_mod x (b ^ i)
  have ey := Nat.div_add_mod y (b ^ i)
  have hqx : x / b ^ i < b ^ (k + 1) := Nat.div_lt_of_lt_mul hx
  have hqy : y / b ^ i < b ^ (k + 1) := Nat.div_lt_of_lt_mul hy
  unfold subb
  generalize x / b ^ i = q1 at *
  generalize y / b ^ i = q2 at *
  generalize x % b ^ i = r1 at *
  generalize y % b ^ i = r2 at *
  have hM : b ^ (k + 1) = b * b ^ k := by rw [Nat.pow_succ, Nat.mul_comm]
  have hd : (x + b ^ i * b ^ (k + 1) - y) / b ^ i = q1 + b ^ (k + 1) - q2 - (if r1 < r2 then 1 else 0) := by
    subst ex ey
    have e0 : b ^ i * q2 + b ^ i ≤ b ^ i * b ^ (k + 1) := by rw [← Nat.mul_succ]; exact Nat.mul_le_mul_left _ hqy
    have e1 : b ^ i * (q1 + b ^ (k + 1) - q2) = b ^ i * q1 + b ^ i * b ^ (k + 1) - b ^ i * q2 := by rw [Nat.mul_sub, Nat.mul_add]
    by_cases h : r1 < r2
    · rw [if_pos h]
      have e2 : b ^ i * (q1 + b ^ (k + 1) - q2 - 1) = b ^ i * (q1 + b ^ (k + 1) - q2) - b ^ i := by rw [Nat.mul_sub, Nat.mul_one]
      have : b ^ i * q1 + r1 + b ^ i * b ^ (k + 1) - (b ^ i * q2 + r2) = (b ^ i + r1 - r2) + b ^ i * (q1 + b ^ (k + 1) - q2 - 1) := by rw [e2, e1]; omega
      rw [this, Nat.add_mul_div_left _ _ hB, Nat.div_eq_of_lt (by omega), Nat.zero_add]
    · rw [if_neg h]
      have : b ^ i * q1 + r1 + b ^ i * b ^ (k + 1) - (b ^ i * q2 + r2) = (r1 - r2) + b ^ i * (q1 + b ^ (k + 1) - q2) := by rw [e1]; omega
      rw [this, Nat.add_mul_div_left _ _ hB, Nat.div_eq_of_lt (by omega), Nat.zero_add]; omega
  rw [hd]
  have hm1 := Nat.mod_lt q1 hb
  have hm2 := Nat.mod_lt q2 hb
  have e1 := Nat.div_add_mod q1 b
  have e2 := Nat.div_add_mod q2 b
  have hk : 0 < b ^ k := Nat.pow_pos hb
  have hle : q2 / b < b ^ k := Nat.div_lt_of_lt_mul (by rw [← hM]; exact hqy)
  generalize q1 / b = u at *
  generalize q2 / b = v at *
  generalize q1 % b = p at *
  generalize q2 % b = q at *
  generalize hc : (if r1 < r2 then 1 else 0) = c
  have hc1 : c ≤ 1 := by rw [← hc]; split <;> omega
  rw [hM]
  subst e1 e2
  have e3 : b * (u + b ^ k - v - 1) = b * u + b * b ^ k - b * v - b := by rw [Nat.mul_sub, Nat.mul_sub, Nat.mul_add, Nat.mul_one]
  have e4 : b * v + b ≤ b * b ^ k := by rw [← Nat.mul_succ]; exact Nat.mul_le_mul_left _ hle
  have : b * u + p + b * b ^ k - (b * v + q) - c = (p + b - q - c) + b * (u + b ^ k - v - 1) := by rw [e3]; omega
  rw [this, Nat.add_mul_mod_self_left]

/-- A word's lower half, and its upper one. -/
theorem and_low32 (n : Nat) : (BitVec.ofInt 64 (n : Int) &&& 4294967295#64).toNat = n % 4294967296 := by
  rw [BitVec.toNat_and]
  have e : (BitVec.ofInt 64 (n : Int)).toNat = n % 2 ^ 64 := by simp
  rw [e]
  show n % 2 ^ 64 &&& (2 ^ 32 - 1) = _
  rw [Nat.and_two_pow_sub_one_eq_mod]
  omega
theorem and_low32' (n : Nat) : (BitVec.ofNat 64 n &&& 4294967295#64).toNat = n % 4294967296 := by
  have := and_low32 n
  simpa using this
theorem fdiv_nat (n m : Nat) : (n : Int).fdiv (m : Int) = ((n / m : Nat) : Int) := by
  rw [Int.fdiv_eq_ediv_of_nonneg _ (by omega)]; rfl
theorem fdiv_32 (n : Nat) : (n : Int).fdiv 4294967296 = ((n / 4294967296 : Nat) : Int) := fdiv_nat n 4294967296
theorem wrapN {n : Nat} (h : n < 18446744073709551616) : IntKind.u64.wrap (n : Int) = (n : Int) := wrap_u64c ⟨by omega, by omega⟩
theorem mul64_hi {x y : Nat} (hx : x < 18446744073709551616) (hy : y < 18446744073709551616) :
    IntKind.u64.wrap (IntKind.u64.wrap (IntKind.u64.wrap ((x : Int).fdiv 4294967296 * (y : Int).fdiv 4294967296) + (IntKind.u64.wrap (IntKind.u64.wrap ((x : Int).fdiv 4294967296 * ((BitVec.ofNat 64 y &&& 4294967295#64).toNat : Int)) +
      (IntKind.u64.wrap (((BitVec.ofNat 64 x &&& 4294967295#64).toNat : Int) * ((BitVec.ofNat 64 y &&& 4294967295#64).toNat : Int))).fdiv 4294967296)).fdiv 4294967296) +
      (IntKind.u64.wrap (((BitVec.ofInt 64 (IntKind.u64.wrap (IntKind.u64.wrap ((x : Int).fdiv 4294967296 * ((BitVec.ofNat 64 y &&& 4294967295#64).toNat : Int)) +
        (IntKind.u64.wrap (((BitVec.ofNat 64 x &&& 4294967295#64).toNat : Int) * ((BitVec.ofNat 64 y &&& 4294967295#64).toNat : Int))).fdiv 4294967296)) &&& 4294967295#64).toNat : Int) + IntKind.u64.wrap (((BitVec.ofNat 64 x &&& 4294967295#64).toNat : Int) * (y : Int).fdiv 4294967296))).fdiv 4294967296) = ((x * y / 18446744073709551616 : Nat) : Int) := by
  rw [and_low32', and_low32', fdiv_32, fdiv_32]
  have hm : ∀ a b : Nat, (a : Int) * (b : Int) = ((a * b : Nat) : Int) := fun a b => by push_cast; rfl
  simp only [hm]
  have hx1 : x / 4294967296 ≤ 4294967295 := by omega
  have hy1 : y / 4294967296 ≤ 4294967295 := by omega
  have hx0 : x % 4294967296 ≤ 4294967295 := by omega
  have hy0 : y % 4294967296 ≤ 4294967295 := by omega
  have e : x * y = (x / 4294967296 * (y / 4294967296)) * 18446744073709551616 + (x / 4294967296 * (y % 4294967296) + x % 4294967296 * (y / 4294967296)) * 4294967296 + x % 4294967296 * (y % 4294967296) := by
    conv => lhs; rw [← Nat.div_add_mod x 4294967296, ← Nat.div_add_mod y 4294967296]
    generalize x / 4294967296 = a
    generalize y / 4294967296 = b
    generalize x % 4294967296 = c
    generalize y % 4294967296 = d
    grind
  rw [e]
  have h11 := Nat.mul_le_mul hx1 hy1
  have h10 := Nat.mul_le_mul hx1 hy0
  have h01 := Nat.mul_le_mul hx0 hy1
  have h00 := Nat.mul_le_mul hx0 hy0
  generalize x / 4294967296 * (y / 4294967296) = p11 at *
  generalize x / 4294967296 * (y % 4294967296) = p10 at *
  generalize x % 4294967296 * (y / 4294967296) = p01 at *
  generalize x % 4294967296 * (y % 4294967296) = p00 at *
  rw [wrapN (n := p11) (by omega), wrapN (n := p10) (by omega), wrapN (n := p01) (by omega), wrapN (n := p00) (by omega)]
  have ha : ∀ a b : Nat, (a : Int) + (b : Int) = ((a + b : Nat) : Int) := fun a b => by push_cast; rfl
  simp only [fdiv_32, ha]
  rw [wrapN (n := p10 + p00 / 4294967296) (by omega)]
  simp only [fdiv_32, ha, and_low32]
  rw [wrapN (n := p11 + (p10 + p00 / 4294967296) / 4294967296) (by omega), wrapN (n := (p10 + p00 / 4294967296) % 4294967296 + p01) (by omega)]
  simp only [fdiv_32, ha]
  rw [wrapN (by omega)]
  congr 1
  omega
theorem wrapM (x y : Nat) : IntKind.u64.wrap ((x : Int) * (y : Int)) = ((x * y % 18446744073709551616 : Nat) : Int) := by
  rw [show (x : Int) * (y : Int) = ((x * y : Nat) : Int) by push_cast; rfl, wrap_u64]

/-- A product's eight limbs. -/
def prodA (n : Nat) : List AV := u64s (digs 18446744073709551616 8 n)
theorem digs_app (b n m x : Nat) : digs b (n + m) x = digs b n x ++ digs b m (x / b ^ n) := by
  unfold digs
  rw [List.range_add, List.map_append, List.map_map]
  congr 1
  apply List.map_congr_left
  intro i _
  simp only [Function.comp]
  rw [Nat.div_div_eq_div_mul, ← Nat.pow_add]
theorem prodA_split (n : Nat) : prodA n = numA n ++ numA (n / 2 ^ 256) := by
  unfold prodA
  rw [show (8 : Nat) = 4 + 4 from rfl, digs_app, ← u64s_append, numA_digs, numA_digs]
theorem prodA_len (n : Nat) : (prodA n).length = 8 := by simp [prodA]
theorem prodA_take (n : Nat) : (prodA n).take 4 = numA n := by rw [prodA_split]; rfl
theorem prodA_take8 (n : Nat) : (prodA n).take 8 = prodA n := List.take_of_length_le (by simp [prodA])
theorem prodA_drop8 (n : Nat) : (prodA n).drop 8 = [] := List.drop_of_length_le (by simp [prodA])
theorem prodA_drop (n : Nat) : (prodA n).drop 4 = numA (n / 2 ^ 256) := by rw [prodA_split]; rfl
theorem prodA_zero : prodA 0 = [.v (.int .u64 0), .v (.int .u64 0), .v (.int .u64 0), .v (.int .u64 0), .v (.int .u64 0), .v (.int .u64 0), .v (.int .u64 0), .v (.int .u64 0)] := rfl

/-- A limb of a product is put. -/
theorem times_step {P : List Nat} {m X Y c : Nat} (hP : ∀ d ∈ P, d < 18446744073709551616) (hm : m < P.length) (hc : c < 18446744073709551616) (hX : X < 18446744073709551616) (hY : Y < 18446744073709551616) :
    (∀ d ∈ P.set m ((X * Y + P[m] + c) % 18446744073709551616), d < 18446744073709551616) ∧ (X * Y + P[m] + c) / 18446744073709551616 < 18446744073709551616 ∧
    valD 18446744073709551616 (P.set m ((X * Y + P[m] + c) % 18446744073709551616)) + 18446744073709551616 ^ (m + 1) * ((X * Y + P[m] + c) / 18446744073709551616) = valD 18446744073709551616 P + 18446744073709551616 ^ m * (X * Y + c) := by
  have hp := hP _ (List.getElem_mem hm)
  refine ⟨fun d hd => ?_, ?_, ?_⟩
  · rcases List.mem_or_eq_of_mem_set hd with h | h
    · exact hP d h
    · rw [h]; exact Nat.mod_lt _ (by decide)
  · have h1 : X ≤ 18446744073709551615 := by omega
    have h2 : Y ≤ 18446744073709551615 := by omega
    have := Nat.mul_le_mul h1 h2
    omega
  · have h1 := valD_set (b := 18446744073709551616) hm ((X * Y + P[m] + c) % 18446744073709551616)
    generalize valD 18446744073709551616 (P.set m ((X * Y + P[m] + c) % 18446744073709551616)) = v at *
    generalize valD 18446744073709551616 P = v0 at *
    rw [Nat.pow_succ, Nat.mul_assoc]
    have h2 := Nat.div_add_mod (X * Y + P[m] + c) 18446744073709551616
    generalize (X * Y + P[m] + c) / 18446744073709551616 = q at *
    generalize (X * Y + P[m] + c) % 18446744073709551616 = r at *
    generalize 18446744073709551616 ^ m = B at *
    have h3 : B * (18446744073709551616 * q) + B * r = B * (X * Y + c) + B * P[m] := by rw [← Nat.mul_add, h2, ← Nat.mul_add]; congr 1; omega
    omega

/-- What goes over when a number is doubled. -/
def shc (b x e i : Nat) : Nat := (2 * (x % b ^ i) + e) / b ^ i
theorem shc_zero (b x e : Nat) : shc b x e 0 = e := by simp [shc, Nat.mod_one]
theorem shc_le {b x e i : Nat} (hb : 0 < b) (he : e ≤ 1) : shc b x e i ≤ 1 := by
  have hB : 0 < b ^ i := Nat.pow_pos hb
  have h1 := Nat.mod_lt x hB
  unfold shc
  rw [← Nat.lt_succ_iff, Nat.div_lt_iff_lt_mul hB]
  omega
theorem shc_dig {b x e i : Nat} (hb : 0 < b) : (2 * (x / b ^ i % b) + shc b x e i) % b = (2 * x + e) / b ^ i % b := by
  have hB : 0 < b ^ i := Nat.pow_pos hb
  have h : (2 * x + e) / b ^ i = 2 * (x / b ^ i) + shc b x e i := by
    unfold shc
    conv => lhs; rw [← Nat.div_add_mod x (b ^ i)]
    generalize x / b ^ i = q
    generalize x % b ^ i = r
    rw [show 2 * (b ^ i * q + r) + e = (2 * r + e) + b ^ i * (2 * q) by grind, Nat.add_mul_div_left _ _ hB, Nat.add_comm]
  rw [h]
  generalize x / b ^ i = q
  rw [Nat.add_mod, Nat.mul_mod, Nat.mod_mod, ← Nat.mul_mod, ← Nat.add_mod]
theorem shc_next {b x e i : Nat} (hb : 0 < b) : (2 * (x / b ^ i % b) + shc b x e i) / b = shc b x e (i + 1) := by
  have hB : 0 < b ^ i := Nat.pow_pos hb
  unfold shc
  rw [mod_digit b x i, Nat.pow_succ, ← Nat.div_div_eq_div_mul]
  congr 1
  generalize x / b ^ i % b = q
  generalize x % b ^ i = r
  rw [show 2 * (r + b ^ i * q) + e = (2 * r + e) + b ^ i * (2 * q) by grind, Nat.add_mul_div_left _ _ hB, Nat.add_comm]
theorem shc_last {b x e n : Nat} (hx : x < b ^ n) : shc b x e n = (2 * x + e) / b ^ n := by unfold shc; rw [Nat.mod_eq_of_lt hx]

/-- A bit that is laid where there is none. -/
theorem or_bit {n b : Nat} (h : n / 2 ^ b % 2 = 0) : n ||| 2 ^ b = n + 2 ^ b := by
  apply Nat.eq_of_testBit_eq
  intro j
  have e := Nat.div_add_mod n (2 ^ b)
  have h1 : n + 2 ^ b = 2 ^ b * (n / 2 ^ b + 1) + n % 2 ^ b := by rw [Nat.mul_add, Nat.mul_one]; omega
  have hlt := Nat.mod_lt n (Nat.two_pow_pos b)
  rw [Nat.testBit_or, Nat.testBit_two_pow, h1, Nat.testBit_two_pow_mul_add _ hlt]
  conv => lhs; rw [← e, Nat.testBit_two_pow_mul_add _ hlt]
  split
  · rename_i hj
    simp; omega
  · rename_i hj
    generalize n / 2 ^ b = q at *
    by_cases hb : b = j
    · subst hb
      simp [Nat.testBit_zero]; omega
    · have h3 : j - b = (j - b - 1) + 1 := by omega
      rw [h3, Nat.testBit_succ, Nat.testBit_succ]
      have : (q + 1) / 2 = q / 2 := by omega
      rw [this]; simp [hb]
theorem or_nat (a b : Nat) (ha : a < 18446744073709551616) (hb : b < 18446744073709551616) : (BitVec.ofInt 64 (a : Int) ||| BitVec.ofInt 64 (b : Int)).toNat = a ||| b := by
  rw [BitVec.toNat_or]
  simp
  rw [Nat.mod_eq_of_lt ha, Nat.mod_eq_of_lt hb]

theorem or_shift {X c : Nat} (hX : X < 18446744073709551616) (hc : c ≤ 1) : (BitVec.ofInt 64 (IntKind.u64.wrap ((X : Int) * 2)) ||| BitVec.ofNat 64 c).toNat = (2 * X + c) % 18446744073709551616 := by
  have e1 : IntKind.u64.wrap ((X : Int) * 2) = ((2 * X % 18446744073709551616 : Nat) : Int) := by
    rw [show (X : Int) * 2 = ((2 * X : Nat) : Int) by push_cast <;> omega, wrap_u64]
  have e2 : BitVec.ofNat 64 c = BitVec.ofInt 64 ((c : Nat) : Int) := by simp
  rw [e1, e2, or_nat _ _ (by omega) (by omega)]
  have : c = 0 ∨ c = 1 := by omega
  rcases this with rfl | rfl
  · simp
  · have := or_bit (n := 2 * X % 18446744073709551616) (b := 0) (by simp)
    rw [Nat.pow_zero] at this
    rw [this]; omega

/-- Digits that are held against one another, the highest first. -/
theorem high_eq {b n x y i : Nat} (hb : 0 < b) (hx : x < b ^ n) (hy : y < b ^ n) (h : ∀ j, i ≤ j → j < n → x / b ^ j % b = y / b ^ j % b) : ∀ k, i + k ≤ n → x / b ^ (n - k) = y / b ^ (n - k)
  | 0, _ => by rw [Nat.sub_zero, Nat.div_eq_of_lt hx, Nat.div_eq_of_lt hy]
  | k + 1, hk => by
    have ih := high_eq hb hx hy h k (by omega)
    have e : n - k = n - (k + 1) + 1 := by omega
    rw [e, Nat.pow_succ, ← Nat.div_div_eq_div_mul, ← Nat.div_div_eq_div_mul] at ih
    have hd := h (n - (k + 1)) (by omega) (by omega)
    rw [← Nat.div_add_mod (x / b ^ (n - (k + 1))) b, ← Nat.div_add_mod (y / b ^ (n - (k + 1))) b, ih, hd]
theorem high_eq' {b n x y i : Nat} (hb : 0 < b) (hx : x < b ^ n) (hy : y < b ^ n) (hi : i ≤ n) (h : ∀ j, i ≤ j → j < n → x / b ^ j % b = y / b ^ j % b) : x / b ^ i = y / b ^ i := by
  have := high_eq hb hx hy h (n - i) (by omega)
  rwa [show n - (n - i) = i by omega] at this
theorem cmp_lt {b n x y i : Nat} (hb : 0 < b) (hx : x < b ^ n) (hy : y < b ^ n) (hi : i < n) (h : ∀ j, i < j → j < n → x / b ^ j % b = y / b ^ j % b) (hl : x / b ^ i % b < y / b ^ i % b) : x < y := by
  have h1 := high_eq' hb hx hy (i := i + 1) (by omega) (fun j h1 h2 => h j (by omega) h2)
  rw [Nat.pow_succ, ← Nat.div_div_eq_div_mul, ← Nat.div_div_eq_div_mul] at h1
  have h2 : x / b ^ i < y / b ^ i := by
    rw [← Nat.div_add_mod (x / b ^ i) b, ← Nat.div_add_mod (y / b ^ i) b, h1]; omega
  apply Nat.lt_of_not_le
  intro hle
  exact absurd (Nat.div_le_div_right (c := b ^ i) hle) (by omega)
theorem pre_rev {n i : Nat} {pre : List Nat} (h : pre ++ [i] <+: (List.range n).reverse) : i < n ∧ ∀ j, i < j → j < n → j ∈ pre := by
  obtain ⟨t, ht⟩ := h
  have hl : pre.length < n := by have := congrArg List.length ht; simp at this; omega
  have hi : i = n - 1 - pre.length := by
    have := congrArg (fun l => l[pre.length]?) ht
    simp at this
    rw [List.getElem?_eq_getElem (by simp; omega)] at this
    simp at this
    omega
  refine ⟨by omega, fun j h1 h2 => ?_⟩
  have h3 := congrArg (fun l => l[n - 1 - j]?) ht
  simp only [List.append_assoc] at h3
  rw [List.getElem?_append_left (by omega), List.getElem?_eq_getElem (by omega), List.getElem?_eq_getElem (by simp; omega)] at h3
  simp at h3
  have : n - 1 - (n - 1 - j) = j := by omega
  rw [this] at h3
  rw [← h3]; exact List.getElem_mem _
def u64v (l : List Nat) : List Value := l.map fun (n : Nat) => .int .u64 (n : Int)
theorem u64v_map (l : List Nat) : (u64v l).map AV.v = u64s l := by simp [u64v, u64s]
theorem u64v_len (l : List Nat) : (u64v l).length = l.length := by simp [u64v]
theorem u64v_get {l : List Nat} {i : Nat} {x : Value} (h : (u64v l)[i]? = some x) : ∃ k : Nat, l[i]? = some k ∧ x = .int .u64 (k : Int) := by
  simp only [u64v, List.getElem?_map] at h
  cases h2 : l[i]? with
  | none => rw [h2] at h; simp at h
  | some a =>
    rw [h2] at h; simp at h
    exact ⟨a, rfl, h.symm⟩
theorem u64v_plain (l : List Nat) : (u64v l).all (fun x => plain x && x.oneCell') = true := by
  simp [u64v, plain, Value.oneCell']

/-- Where a row of a product stands. -/
def TimesInv (x y i X k : Nat) (P : List Nat) (c : Nat) : Prop :=
  P.length = 8 ∧ (∀ d ∈ P, d < 18446744073709551616) ∧ c < 18446744073709551616 ∧
    valD 18446744073709551616 P + 18446744073709551616 ^ (i + k) * c = (x % 18446744073709551616 ^ i) * y + 18446744073709551616 ^ i * (X * (y % 18446744073709551616 ^ k)) ∧
    ∀ j, i + k ≤ j → P[j]? = (digs 18446744073709551616 8 ((x % 18446744073709551616 ^ i) * y))[j]?

theorem part_lt {x y i n m : Nat} {b : Nat} (hb : 0 < b) (hy : y < b ^ m) (h : i + m ≤ n) : (x % b ^ i) * y < b ^ n := by
  have h1 := Nat.mod_lt x (Nat.pow_pos (n := i) hb)
  have h2 : (x % b ^ i) * y < b ^ i * b ^ m := Nat.mul_lt_mul'' h1 hy
  rw [← Nat.pow_add] at h2
  exact Nat.lt_of_lt_of_le h2 (Nat.pow_le_pow_right hb h)

theorem times_first {x y i X : Nat} (hi : i ≤ 4) (hy : y < 18446744073709551616 ^ 4) : TimesInv x y i X 0 (digs 18446744073709551616 8 ((x % 18446744073709551616 ^ i) * y)) 0 := by
  refine ⟨by simp, digs_lt (by decide), by decide, ?_, fun j _ => rfl⟩
  rw [valD_digs, Nat.mod_eq_of_lt (part_lt (by decide) hy (by omega))]
  simp [Nat.mod_one]

theorem times_next {x y i X k p c s c' : Nat} {P : List Nat} (h : TimesInv x y i X k P c) (hi : i < 4) (hk : k < 4) (hX : X < 18446744073709551616) (hp : P[i + k]? = some p) {Y : Nat} (hY : y / 18446744073709551616 ^ k % 18446744073709551616 = Y)
    (hs : s = (X * Y + p + c) % 18446744073709551616) (hc : c' = (X * Y + p + c) / 18446744073709551616) : TimesInv x y i X (k + 1) (P.set (i + k) s) c' := by
  obtain ⟨h1, h2, h3, h4, h5⟩ := h
  obtain ⟨hl, rfl⟩ := List.getElem?_eq_some_iff.1 hp
  have hY2 : Y < 18446744073709551616 := by rw [← hY]; exact Nat.mod_lt _ (by decide)
  obtain ⟨e1, e2, e3⟩ := times_step h2 hl h3 hX hY2
  subst hs hc
  refine ⟨by simp [h1], e1, e2, ?_, fun j hj => ?_⟩
  · rw [← Nat.add_assoc, e3, mod_digit, hY, Nat.mul_add (18446744073709551616 ^ (i + k)), Nat.add_comm (18446744073709551616 ^ (i + k) * (X * Y)), ← Nat.add_assoc, h4, Nat.pow_add]
    generalize 18446744073709551616 ^ i = A
    generalize 18446744073709551616 ^ k = B
    generalize y % B = z
    grind
  · rw [List.getElem?_set_ne (by omega)]
    exact h5 j (by omega)

theorem times_last {x y i X c : Nat} {P : List Nat} (h : TimesInv x y i X 4 P c) (hi : i < 4) (hX : x / 18446744073709551616 ^ i % 18446744073709551616 = X) (hy : y < 18446744073709551616 ^ 4) :
    P.set (i + 4) c = digs 18446744073709551616 8 ((x % 18446744073709551616 ^ (i + 1)) * y) := by
  obtain ⟨h1, h2, h3, h4, h5⟩ := h
  have hl : i + 4 < P.length := by omega
  have h0 : P[i + 4] = 0 := by
    have := h5 (i + 4) (Nat.le_refl _)
    rw [List.getElem?_eq_getElem hl, digs_get? (by omega), Nat.div_eq_of_lt (part_lt (by decide) hy (Nat.le_refl _))] at this
    simpa using this
  refine digs_of (by decide) (fun d hd => ?_) (by simp [h1]) ?_
  · rcases List.mem_or_eq_of_mem_set hd with h | h
    · exact h2 d h
    · rw [h]; exact h3
  · have e := valD_set (b := 18446744073709551616) hl c
    rw [h0, Nat.mul_zero, Nat.add_zero] at e
    rw [e, h4, Nat.mod_eq_of_lt hy, mod_digit _ x i, hX]
    generalize 18446744073709551616 ^ i = A
    grind

/-- A bit of a limb. -/
theorem limb_bit2 {x L q r j : Nat} (hL : L = x / 18446744073709551616 ^ q % 18446744073709551616) (hr : r < 64) (hj : j = 64 * q + r) : L / 2 ^ r % 2 = x / 2 ^ j % 2 := by
  have h1 := limb_bit x q r
  rw [limb_dig, ← hL, ← hj] at h1
  simp only [hr, decide_true, Bool.true_and, Nat.testBit_eq_decide_div_mod_eq] at h1
  have h2 : (L / 2 ^ r % 2 = 1) ↔ (x / 2 ^ j % 2 = 1) := by simpa using h1
  omega
theorem pow2_cast (r : Nat) : ((2 : Int) ^ r) = ((2 ^ r : Nat) : Int) := by push_cast; rfl
theorem bit_of {x L q r j : Nat} (hL : L = x / 18446744073709551616 ^ q % 18446744073709551616) (hr : r < 64) (hj : j = 64 * q + r) :
    (BitVec.ofInt 64 ((L : Int).fdiv (2 ^ min r 64)) &&& 1#64).toNat = x / 2 ^ j % 2 := by
  rw [Nat.min_eq_left (by omega), pow2_cast, fdiv_nat, BitVec.toNat_and]
  have hl : L / 2 ^ r < 2 ^ 64 := Nat.lt_of_le_of_lt (Nat.div_le_self _ _) (by omega)
  have e : (BitVec.ofInt 64 ((L / 2 ^ r : Nat) : Int)).toNat = L / 2 ^ r := by
    rw [BitVec.toNat_ofInt]
    generalize L / 2 ^ r = M at hl
    have : ((M : Nat) : Int) % ((2 ^ 64 : Nat) : Int) = ((M : Nat) : Int) := Int.emod_eq_of_lt (by omega) (by omega)
    rw [this]; rfl
  rw [e]
  show L / 2 ^ r &&& 1 = _
  rw [Nat.and_one_is_mod]
  exact limb_bit2 hL hr hj

theorem div_round {x c j : Nat} (hc : 0 < c) :
    (2 * (x / 2 ^ (j + 1) % c) + x / 2 ^ j % 2 < c → x / 2 ^ j / c = 2 * (x / 2 ^ (j + 1) / c) ∧ x / 2 ^ j % c = 2 * (x / 2 ^ (j + 1) % c) + x / 2 ^ j % 2) ∧
    (c ≤ 2 * (x / 2 ^ (j + 1) % c) + x / 2 ^ j % 2 → x / 2 ^ j / c = 2 * (x / 2 ^ (j + 1) / c) + 1 ∧ x / 2 ^ j % c = 2 * (x / 2 ^ (j + 1) % c) + x / 2 ^ j % 2 - c) ∧
    2 * (x / 2 ^ (j + 1) % c) + x / 2 ^ j % 2 < 2 * c := by
  have e0 : x / 2 ^ (j + 1) = x / 2 ^ j / 2 := by rw [Nat.pow_succ, Nat.div_div_eq_div_mul]
  rw [e0]
  generalize x / 2 ^ j = y
  have e1 := Nat.div_add_mod y 2
  have e2 := Nat.div_add_mod (y / 2) c
  have e3 := Nat.mod_lt (y / 2) hc
  have e4 := Nat.mod_lt y (show 0 < 2 by omega)
  generalize y / 2 / c = u at *
  generalize y / 2 % c = v at *
  generalize y % 2 = b at *
  have hy : y = c * (2 * u) + (2 * v + b) := by rw [← e1, ← e2]; grind
  refine ⟨fun h => ?_, fun h => ?_, by omega⟩
  · subst hy
    exact ⟨by rw [Nat.mul_add_div hc, Nat.div_eq_of_lt h, Nat.add_zero], by rw [Nat.mul_add_mod, Nat.mod_eq_of_lt h]⟩
  · have hy2 : y = c * (2 * u + 1) + (2 * v + b - c) := by rw [hy, Nat.mul_add, Nat.mul_one]; omega
    have h2 : 2 * v + b - c < c := by omega
    rw [hy2]
    exact ⟨by rw [Nat.mul_add_div hc, Nat.div_eq_of_lt h2, Nat.add_zero], by rw [Nat.mul_add_mod, Nat.mod_eq_of_lt h2]⟩

/-- A quotient's bit is laid. -/
theorem digs_bit {Q j q r M : Nat} (hM : M = Q / 18446744073709551616 ^ q % 18446744073709551616) (hr : r < 64) (hj : j = 64 * q + r) (hq : q < 8) (hb : Q / 2 ^ j % 2 = 0) (hl : Q + 2 ^ j < 2 ^ 512) :
    M + 2 ^ r < 18446744073709551616 ∧ M ||| 2 ^ r = M + 2 ^ r ∧ (digs 18446744073709551616 8 Q).set q (M + 2 ^ r) = digs 18446744073709551616 8 (Q + 2 ^ j) := by
  have hm2 : M / 2 ^ r % 2 = 0 := by rw [limb_bit2 hM hr hj]; exact hb
  have hMl : M < 18446744073709551616 := by rw [hM]; exact Nat.mod_lt _ (by decide)
  have hlt : M + 2 ^ r < 18446744073709551616 := by
    have e := Nat.div_add_mod M (2 ^ r)
    have hp := Nat.two_pow_pos r
    have e2 := Nat.mod_lt M hp
    obtain ⟨s, hs⟩ : ∃ s, 64 = r + (s + 1) := ⟨63 - r, by omega⟩
    have hW : 18446744073709551616 = 2 ^ r * (2 * 2 ^ s) := by
      rw [show (18446744073709551616 : Nat) = 2 ^ 64 from rfl]; conv => lhs; rw [hs, Nat.pow_add, Nat.pow_succ, Nat.mul_comm (2 ^ s)]
    have h3 : M / 2 ^ r < 2 * 2 ^ s := Nat.div_lt_of_lt_mul (by rw [← hW]; exact hMl)
    have h4 : M / 2 ^ r + 2 ≤ 2 * 2 ^ s := by omega
    have h5 := Nat.mul_le_mul_left (2 ^ r) h4
    rw [Nat.mul_add] at h5
    rw [hW]; omega
  refine ⟨hlt, or_bit hm2, ?_⟩
  have hl1 : q < (digs 18446744073709551616 8 Q).length := by simpa using hq
  refine digs_of (by decide) (fun d hd => ?_) (by simp) ?_
  · rcases List.mem_or_eq_of_mem_set hd with h | h
    · exact digs_lt (by decide) d h
    · rw [h]; exact hlt
  · have e := valD_set (b := 18446744073709551616) hl1 (M + 2 ^ r)
    have hQ : Q < 18446744073709551616 ^ 8 := by
      have h8 : (18446744073709551616 : Nat) ^ 8 = 2 ^ 512 := by rw [show (18446744073709551616 : Nat) = 2 ^ 64 from rfl, ← Nat.pow_mul]
      rw [h8]; exact Nat.lt_of_le_of_lt (Nat.le_add_right _ _) hl
    rw [digs_get hq, ← hM, valD_digs, Nat.mod_eq_of_lt hQ] at e
    have e2 : 18446744073709551616 ^ q * 2 ^ r = 2 ^ j := by rw [show (18446744073709551616 : Nat) = 2 ^ 64 from rfl, ← Nat.pow_mul, ← Nat.pow_add, hj]
    rw [Nat.mul_add, e2] at e
    omega
theorem numA_mod (x : Nat) : numA (x % 2 ^ 256) = numA x := by
  rw [numA_digs, numA_digs]
  congr 1
  refine (digs_of (by decide) (digs_lt (by decide)) (by simp) ?_).symm
  rw [valD_digs]

theorem andI_bit {x L q r j : Nat} (hL : L = x / 18446744073709551616 ^ q % 18446744073709551616) (hr : r < 64) (hj : j = 64 * q + r) : andI .u64 ((L : Int).fdiv (2 ^ min r 64)) 1 = ((x / 2 ^ j % 2 : Nat) : Int) := by
  have h := bit_of hL hr hj
  unfold andI
  have e : (BitVec.ofInt IntKind.u64.bits ((L : Int).fdiv (2 ^ min r 64)) &&& BitVec.ofInt IntKind.u64.bits 1).toNat = x / 2 ^ j % 2 := h
  rw [e]; exact wrapN (by omega)
theorem orI_nat {a b : Nat} (ha : a < 18446744073709551616) (hb : b < 18446744073709551616) : orI .u64 (a : Int) (b : Int) = ((a ||| b : Nat) : Int) := by
  unfold orI
  have e : (BitVec.ofInt IntKind.u64.bits (a : Int) ||| BitVec.ofInt IntKind.u64.bits (b : Int)).toNat = a ||| b := or_nat a b ha hb
  rw [e]; exact wrapN (Nat.or_lt_two_pow (n := 64) ha hb)
theorem shl_bit {r : Nat} (hr : r < 64) : IntKind.u64.wrap (1 * 2 ^ min r 64) = ((2 ^ r : Nat) : Int) := by
  rw [Nat.min_eq_left (by omega), Int.one_mul, pow2_cast]
  exact wrapN (Nat.pow_lt_pow_right (by omega) hr)
theorem shl_bit' {r : Nat} (hr : r < 64) : IntKind.u64.wrap (2 ^ min r 64) = ((2 ^ r : Nat) : Int) := by
  have := shl_bit hr; rwa [Int.one_mul] at this

end Go.Vm

/-
  Calls of functions that have no body here.
-/
namespace Go.Vm
set_option linter.unnecessarySimpa false
set_option linter.unusedSimpArgs false
set_option linter.unusedVariables false
open Go

/-- A call that answers at once. -/
def ExtA (P : Program) (f : FuncId) (args : List AV) (σ : St) (Q : AV → St → Prop) : Prop :=
  ∀ G w (vs : Array Value), RelS G w σ → vs.size = args.length → (∀ (j : Nat) x b, vs[j]? = some x → args[j]? = some b → AVR G w x b) →
    ∃ v av, (callFunc f vs).run P w = .ok (.value v) w ∧ AVR G w v av ∧ Q av σ

section
variable {z : Zone} {P : Program} {N : Nat} {ρ : Nat → AV} {σ : St} {ops : Array Oper} {rest : List Oper} {o : Oper} {K : (Nat → AV) → St → Prop}

theorem run_ext {f : FuncId} {args : List AV} {Qc : AV → St → Prop} {G : Gh} {w : World} {a : Act} (hR : Rel N G w ρ σ a) (ho : callOf ρ σ o.op = some (f, args)) (c : ExtA P f args σ Qc) :
    ∃ v av, (execOp a.eval o).run P w = .ok (.value v) w ∧ AVR G w v av ∧ Qc av σ := by
  unfold callOf at ho
  split at ho
  · rename_i c' hop
    split at ho
    · rename_i x hx
      split at ho
      · rename_i f' caps args' hf ha
        cases ho
        have hfv := evalA_sound hR.s hR.env hf
        obtain ⟨hl, hr⟩ := forall2_get (evalAll_sound hR.s hR.env ha)
        cases hev : a.eval x with
        | func fn first caps' =>
          rw [hev] at hfv
          cases hfv with
          | fn hcl hcr =>
          obtain ⟨v, av, h1, h2, h3⟩ := c G w (c'.args.map a.eval ++ caps') hR.s (by simpa [hcl] using hl) (fun j y b hj hb => by
            by_cases h1 : j < c'.args.size
            · rw [Array.getElem?_append_left (by simpa using h1)] at hj
              rw [List.getElem?_append_left (by simp at hl; omega)] at hb
              refine hr j y b ?_ hb
              have : (c'.args.map a.eval).toList[j]? = some y := by simpa using hj
              simpa using this
            · rw [Array.getElem?_append_right (by simpa using h1)] at hj
              rw [List.getElem?_append_right (by simp at hl; omega)] at hb
              simp only [Array.size_map] at hj
              have e : c'.args.size = args'.length := by simpa using hl
              rw [e] at hj
              exact hcr _ y b hj hb)
          refine ⟨v, av, ?_, h2, h3⟩
          unfold execOp
          rw [hop]
          simp only [resolve, hx, hev, Deferred.ofValue, Sem.run_bind, Sem.run_pure, Result.andThen_ok, invoke]
          rw [Array.empty_append] at *
          exact h1
        | _ => rw [hev] at hfv; cases hfv
      · cases ho
    · cases ho
  · cases ho

theorem ce {f : FuncId} {args : List AV} {Qc : AV → St → Prop} (hw : wantedA ops o ρ = some true := by first | rfl | (simp [F, wantedA]; done))
    (ho : callOf ρ σ o.op = some (f, args) := by first | rfl | (simp [F, callOf]; done)) (c : ExtA P f args σ Qc) (k : ∀ av σ', Qc av σ' → σ' = σ → evalL z P N ops rest (putA ρ o.dst av) σ' K) (hN : ((o :: rest).all fun o => inN N o.dst) = true := by rfl) : RunL z P N ops (o :: rest) ρ σ K := by
  intro G w a R hR hK
  simp only [List.all_cons, Bool.and_eq_true] at hN
  obtain ⟨v, av, h1, h2, h3⟩ := run_ext hR ho c
  have ho' : ∃ c', o.op = .call c' := by
    unfold callOf at ho
    split at ho
    · exact ⟨_, by assumption⟩
    · cases ho
  obtain ⟨c', hop⟩ := ho'
  unfold wpListIn
  rw [if_pos (wantedA_sound hR hw)]
  refine ⟨fun _ _ => trivial, ?_⟩
  rw [show Oper.semAt z.F.round a.eval o = execOp a.eval o from Oper.semAt_eq _ _ _ (fun c e => by rw [hop] at e; cases e)]
  rw [h1]
  exact runL_eval hN.2 (k av σ h3 rfl) G w (a.put o.dst v) R (hR.put (.refl _ _) hR.s hN.1 h2) hK
/-- The same in a region that draws its order. -/
theorem de {S D : List Nat} {ρ0 : Nat → AV} (i : Nat) {o : Oper} {f : FuncId} {args : List AV} {Qc : AV → St → Prop} (ho : ops[i]? = some o)
    (hw : wantedA ops o ρ = some true := by first | rfl | (simp [F]; done)) (hv : callOf ρ σ o.op = some (f, args) := by first | rfl | (simp [F]; done)) (c : ExtA P f args σ Qc)
    (k : ∀ av σ', Qc av σ' → σ' = σ → RunD z P N ops (i :: S) (later D o) ρ0 (putA ρ o.dst av) σ' K)
    (hb : (acyclic ops && (ops.toList.all fun o => inN N o.dst) && ready ops S i && ((List.range ops.size).all fun j => j == i || !ready ops S j) && (match o.dst with | some x => fresh ops (later D o) x | none => true) && covers ops D o) = true := by kernel_rfl) : RunD z P N ops S D ρ0 ρ σ K := by
  simp only [Bool.and_eq_true] at hb
  obtain ⟨⟨⟨⟨⟨h1, h2⟩, h3⟩, h4⟩, h5⟩, h6⟩ := hb
  refine runD_core i (K := fun a s => Qc a s ∧ s = σ) h1 h2 h3 ho h4 h5 h6 (fun ρr hag G w a R R' hR hK => ?_) (fun a s ⟨e1, e2⟩ => ⟨fun _ _ h => e2 ▸ h, k a s e1 e2⟩)
  have hv' : callOf ρr σ o.op = some (f, args) := by rw [callOf_congr (fun t ht => hag t (looksAt_op ht))]; exact hv
  obtain ⟨v, av, g1, g2, g3⟩ := run_ext hR hv' c
  have hop : ∃ c', o.op = .call c' := by
    unfold callOf at hv'
    split at hv'
    · exact ⟨_, by assumption⟩
    · cases hv'
  obtain ⟨c', hop⟩ := hop
  unfold wpOpIn
  simp only [ho]
  rw [if_pos (wantedA_sound hR ((wantedA_congr hag).trans hw))]
  refine ⟨fun _ _ => trivial, ?_⟩
  rw [show Oper.semAt z.F.round a.eval o = execOp a.eval o from Oper.semAt_eq _ _ _ (fun c e => by rw [hop] at e; cases e)]
  rw [g1]
  exact hK av σ G w v ⟨g3, rfl⟩ (.refl _ _) hR.s g2
end

def sub64E : Array Value → Sem Value := fun args => do
  let (x, y, b) ← Extern.MathBitsCarry.three "Sub64" args
  pure (Extern.MathBitsCarry.pair ((x + Extern.MathBitsCarry.m64 - y - b) % Extern.MathBitsCarry.m64) (if x < y + b then 1 else 0))

/-- Three plain arguments. -/
theorem args3 {G : Gh} {w : World} {vs : Array Value} {x y z : Value} (hl : vs.size = 3) (h : ∀ (j : Nat) v b, vs[j]? = some v → ([.v x, .v y, .v z] : List AV)[j]? = some b → AVR G w v b) : vs = #[x, y, z] := by
  apply Array.ext
  · simpa using hl
  · intro i h1 h2
    have h3 : i = 0 ∨ i = 1 ∨ i = 2 := by simp at h2; omega
    rcases h3 with rfl | rfl | rfl
    · exact (h 0 _ _ (Array.getElem?_eq_getElem h1) rfl).v_eq
    · exact (h 1 _ _ (Array.getElem?_eq_getElem h1) rfl).v_eq
    · exact (h 2 _ _ (Array.getElem?_eq_getElem h1) rfl).v_eq

theorem add64_ext {P : Program} {σ : St} {f : FuncId} {fn : Func} {x y c : Nat} (hf : P.funcs[f]? = some fn) (hname : (fn.name == "runtime.NumGoroutine") = false) (hb : fn.body.isNone = true) (hn : Extern.findNext fn = none) (he : Extern.find fn = some add64Entry) (hc : c ≤ 1) :
    ExtA P f [.v (.int .u64 x), .v (.int .u64 y), .v (.int .u64 c)] σ (fun av _ => ∃ s c' : Nat, s = (x + y + c) % 18446744073709551616 ∧ c' = (x + y + c) / 18446744073709551616 ∧ av = .tup [.v (.int .u64 s), .v (.int .u64 c')]) := by
  intro G w vs hS hl hr
  rw [args3 hl hr]
  refine ⟨.tuple #[.int .u64 (((x + y + c) % 18446744073709551616 : Nat) : Int), .int .u64 (((x + y + c) / 18446744073709551616 : Nat) : Int)], _, ?_, ?_, _, _, rfl, rfl, rfl⟩
  · rw [run_callFunc_extern hf hname hb hn he, run_add64 x y c (by omega) (by omega) (by omega) (by omega)]
    simp only [Result.andThen]
    congr 5 <;> omega
  · refine .tup rfl (fun j a b ha hb => ?_)
    match j with
    | 0 => simp only [List.getElem?_cons_zero, Option.some.injEq] at hb; subst hb; simp only [List.getElem?_toArray, List.getElem?_cons_zero, Option.some.injEq] at ha; subst ha; exact .v rfl
    | 1 => simp only [List.getElem?_cons_succ, List.getElem?_cons_zero, Option.some.injEq] at hb; subst hb; simp only [List.getElem?_toArray, List.getElem?_cons_succ, List.getElem?_cons_zero, Option.some.injEq] at ha; subst ha; exact .v rfl
    | j + 2 => simp at ha

theorem sub64_ext {P : Program} {σ : St} {f : FuncId} {fn : Func} {x y c : Nat} (hf : P.funcs[f]? = some fn) (hname : (fn.name == "runtime.NumGoroutine") = false) (hb : fn.body.isNone = true) (hn : Extern.findNext fn = none) (he : Extern.find fn = some sub64E) (hc : c ≤ 1) :
    ExtA P f [.v (.int .u64 x), .v (.int .u64 y), .v (.int .u64 c)] σ (fun av _ => ∃ s c' : Nat, s = (x + 18446744073709551616 - y - c) % 18446744073709551616 ∧ c' = (if x < y + c then 1 else 0) ∧ av = .tup [.v (.int .u64 s), .v (.int .u64 c')]) := by
  intro G w vs hS hl hr
  rw [args3 hl hr]
  refine ⟨.tuple #[.int .u64 (((x + 18446744073709551616 - y - c) % 18446744073709551616 : Nat) : Int), .int .u64 ((if x < y + c then 1 else 0 : Nat) : Int)], _, ?_, ?_, _, _, rfl, rfl, rfl⟩
  · rw [run_callFunc_extern hf hname hb hn he]
    have : c = 0 ∨ c = 1 := by omega
    rcases this with rfl | rfl <;> rfl
  · refine .tup rfl (fun j a b ha hb => ?_)
    match j with
    | 0 => simp only [List.getElem?_cons_zero, Option.some.injEq] at hb; subst hb; simp only [List.getElem?_toArray, List.getElem?_cons_zero, Option.some.injEq] at ha; subst ha; exact .v rfl
    | 1 => simp only [List.getElem?_cons_succ, List.getElem?_cons_zero, Option.some.injEq] at hb; subst hb; simp only [List.getElem?_toArray, List.getElem?_cons_succ, List.getElem?_cons_zero, Option.some.injEq] at ha; subst ha; exact .v rfl
    | j + 2 => simp at ha

end Go.Vm

/-
  Lists of coins as amounts by denominations.
-/
namespace Go.Vm
set_option linter.unnecessarySimpa false
set_option linter.unusedSimpArgs false
set_option linter.unusedVariables false
open Go

/-- A list's first amount of a denomination. -/
def amt : List Coin → Nat → Nat
  | [], _ => 0
  | c :: l, d => if c.d.toNat = d then c.n.v else amt l d

theorem amt_lt : ∀ (l : List Coin) (d : Nat), amt l d < 2 ^ 256
  | [], _ => Nat.two_pow_pos 256
  | c :: l, d => by
    unfold amt; split
    · exact c.n.h
    · exact amt_lt l d

def Num.of (x : Nat) : Num := ⟨x % 2 ^ 256, Nat.mod_lt _ (by decide)⟩
@[simp] theorem Num.of_v {x : Nat} (h : x < 2 ^ 256) : (Num.of x).v = x := Nat.mod_eq_of_lt h
theorem Num.of_self (n : Num) : Num.of n.v = n := Num.ext (Nat.mod_eq_of_lt n.h)

/-- The list that has such amounts of the first denominations. -/
def lstF (f : Nat → Nat) : Nat → List Coin
  | 0 => []
  | d + 1 => lstF f d ++ (if f d = 0 then [] else [⟨UInt8.ofNat d, Num.of (f d)⟩])

theorem lstF_len (f : Nat → Nat) : ∀ d, (lstF f d).length ≤ d
  | 0 => by simp [lstF]
  | d + 1 => by
    have := lstF_len f d
    simp only [lstF, List.length_append]
    split <;> simp <;> omega
theorem lstF_congr {f g : Nat → Nat} : ∀ {d : Nat}, (∀ i, i < d → f i = g i) → lstF f d = lstF g d
  | 0, _ => rfl
  | d + 1, h => by
    simp only [lstF, h d (by omega)]
    rw [lstF_congr (fun i hi => h i (by omega))]
theorem toNat_u8 {d : Nat} (h : d < 256) : (UInt8.ofNat d).toNat = d := by simp; omega

theorem lstF_mem {f : Nat → Nat} : ∀ {d : Nat} {c : Coin}, d ≤ 256 → c ∈ lstF f d → c.d.toNat < d ∧ f c.d.toNat ≠ 0 ∧ c.n = Num.of (f c.d.toNat)
  | 0, c, _, h => by simp [lstF] at h
  | d + 1, c, hd, h => by
    simp only [lstF, List.mem_append] at h
    rcases h with h | h
    · obtain ⟨h1, h2⟩ := lstF_mem (by omega) h
      exact ⟨by omega, h2⟩
    · split at h
      · simp at h
      · simp at h; subst h
        rename_i h0
        have e : (UInt8.ofNat d).toNat = d := toNat_u8 (by omega)
        simp only [e]
        refine ⟨by omega, h0, by first | rfl | trivial⟩

theorem right_lstF {f : Nat → Nat} (hf : ∀ d, d < 8 → f d < 2 ^ 256) : ∀ d, d ≤ 8 → Right (lstF f d)
  | 0, _ => by simp [lstF, Right]
  | d + 1, h => by
    have ih := right_lstF hf d (by omega)
    simp only [lstF]
    split
    · simpa using ih
    · rename_i h0
      rw [right_snoc]
      have e : (UInt8.ofNat d).toNat = d := toNat_u8 (by omega)
      refine ⟨ih, ⟨by simp only [e]; omega, by rw [Num.of_v (hf d (by omega))]; exact h0⟩, fun b hb => ?_⟩
      have := (lstF_mem (by omega) hb).1
      simp only [e]; exact this

theorem amt_append (l m : List Coin) (d : Nat) : amt (l ++ m) d = if (∃ c ∈ l, c.d.toNat = d) then amt l d else amt m d := by
  induction l with
  | nil => simp
  | cons c l ih =>
    simp only [List.cons_append, amt]
    by_cases h : c.d.toNat = d
    · simp [h]
    · simp [h, ih]

theorem amt_none {l : List Coin} {d : Nat} (h : ∀ c ∈ l, c.d.toNat ≠ d) : amt l d = 0 := by
  induction l with
  | nil => rfl
  | cons c l ih =>
    unfold amt
    rw [if_neg (h c (by simp)), ih (fun c hc => h c (by simp [hc]))]

theorem amt_mem {l : List Coin} (hl : l.Pairwise (fun a b => a.d.toNat < b.d.toNat)) {c : Coin} (h : c ∈ l) : amt l c.d.toNat = c.n.v := by
  induction l with
  | nil => simp at h
  | cons b l ih =>
    unfold amt
    rw [List.pairwise_cons] at hl
    rcases List.mem_cons.1 h with rfl | h
    · simp
    · have := hl.1 c h
      rw [if_neg (by omega), ih hl.2 h]

theorem amt_lstF {f : Nat → Nat} (hf : ∀ d, d < 8 → f d < 2 ^ 256) {n d : Nat} (hn : n ≤ 8) (hd : d < n) : amt (lstF f n) d = f d := by
  have hR := right_lstF hf n hn
  by_cases h0 : f d = 0
  · rw [h0]
    apply amt_none
    intro c hc e
    have := (lstF_mem (by omega) hc).2.1
    rw [e] at this; exact this h0
  · have hm : ∀ n, d < n → (⟨UInt8.ofNat d, Num.of (f d)⟩ : Coin) ∈ lstF f n := by
      intro n
      induction n with
      | zero => intro h; omega
      | succ n ih =>
        intro h
        simp only [lstF, List.mem_append]
        by_cases e : d = n
        · subst e; right; simp [h0]
        · left; exact ih (by omega)
    have := amt_mem hR.2 (hm n hd)
    have e : (UInt8.ofNat d).toNat = d := toNat_u8 (by omega)
    simp only [e] at this
    rw [this, Num.of_v (hf d (by omega))]

/-- Right lists are told by their amounts. -/
theorem right_ext {l m : List Coin} (hl : Right l) (hm : Right m) (h : ∀ d, d < 8 → amt l d = amt m d) : l = m := by
  have key : ∀ (l m : List Coin), Right l → Right m → (∀ d, d < 8 → amt l d = amt m d) → ∀ c ∈ l, c ∈ m := by
    intro l m hl hm h c hc
    have h1 := h c.d.toNat (hl.1 c hc).1
    rw [amt_mem hl.2 hc] at h1
    by_cases hx : ∃ b ∈ m, b.d.toNat = c.d.toNat
    · obtain ⟨b, hb, e⟩ := hx
      rw [← e, amt_mem hm.2 hb] at h1
      have : b = c := Coin.ext (UInt8.toNat_inj.1 e) (Num.ext h1.symm)
      rwa [← this]
    · rw [amt_none (fun b hb e => hx ⟨b, hb, e⟩)] at h1
      exact absurd h1 (hl.1 c hc).2
  have nd : ∀ {l : List Coin}, Right l → l.Pairwise (fun a b => a ≠ b) := fun hl => hl.2.imp (fun h e => by subst e; omega)
  have hp : l.Perm m := (List.perm_ext_iff_of_nodup (nd hl) (nd hm)).2 (fun c => ⟨key l m hl hm h c, key m l hm hl (fun d hd => (h d hd).symm) c⟩)
  exact hp.eq_of_pairwise (le := fun a b => a.d.toNat < b.d.toNat) (fun a b _ _ h1 h2 => by omega) hl.2 hm.2

theorem lstF_amt {l : List Coin} (h : Right l) : lstF (amt l) 8 = l :=
  right_ext (right_lstF (fun d _ => amt_lt l d) 8 (by omega)) h (fun d hd => amt_lstF (fun d _ => amt_lt l d) (by omega) hd)

def posB (d : Nat) : Bool := decide (0 < d)
@[simp] theorem posB_zero : posB 0 = false := rfl
@[simp] theorem posB_succ (d : Nat) : posB (d + 1) = true := by simp [posB]
theorem posB_no {d : Nat} (h : posB d = false) : d = 0 := by simpa [posB] using h
def oneL (d : UInt8) (n : Num) : List Coin := if d.toNat < 8 ∧ n.v ≠ 0 then [⟨d, n⟩] else []
theorem lstF_one {f : Nat → Nat} {D : UInt8} (h : D.toNat < 8) (hf : f D.toNat < 2 ^ 256) : lstF f (D.toNat + 1) = lstF f D.toNat ++ oneL D (Num.of (f D.toNat)) := by
  simp only [lstF, oneL, Num.of_v hf]
  congr 1
  by_cases h0 : f D.toNat = 0
  · simp [h0]
  · rw [if_neg h0, if_pos ⟨h, h0⟩]
    have : UInt8.ofNat D.toNat = D := by simp
    rw [this]

/-- A list that is being made, of elements of some size. -/
def grA (k sz : Nat) (b : Bool) (cs : List AV) (n : Nat) : AV := bif b then .sl sz cs n (.own k) else .sl 0 [] 0 .full
def grT (b : Bool) (n : Nat) : List Nat := bif b then [n] else []
@[simp] theorem grA_no (k sz : Nat) (cs : List AV) (n : Nat) : grA k sz false cs n = .sl 0 [] 0 .full := rfl
@[simp] theorem grA_yes (k sz : Nat) (cs : List AV) (n : Nat) : grA k sz true cs n = .sl sz cs n (.own k) := rfl
@[simp] theorem grT_no (n : Nat) : grT false n = [] := rfl
@[simp] theorem grT_yes (n : Nat) : grT true n = [n] := rfl
theorem wk_grA {k sz : Nat} {b : Bool} {cs : List AV} {n : Nat} (h : b = false → cs = [] ∧ n = 0) : Wk (grA k sz b cs n) (.sl sz cs n .shut) := by
  cases b with
  | false => obtain ⟨rfl, rfl⟩ := h rfl; exact Wk.nil _ _ _
  | true => exact Wk.shut _ _ _ _
theorem append_gr {P : Program} {t e : TypeId} {i : TI} {b : Bool} {cs ys : List AV} {n m sz' : Nat} {tl : Tail} {objs : List (List AV)} {tk : List Nat} {gl : Nat → Option (List AV)} {rows : List RowSt}
    (ht : elemT P t = some e) (hi : ti P e = some i) (h0 : 0 < i.size) (hz : i.zero.cells.size = i.size) (hb : b = false → cs = [] ∧ n = 0) (hs : sz' = i.size ∨ m = 0) (hr : (n + m) * i.bytes ≤ roomA) (hm : n + m ≤ maxLen) :
    appendA P t (grA tk.length i.size b cs n) (.sl sz' ys m tl) ⟨objs, tk ++ grT b n, gl, rows⟩ = some (grA tk.length i.size true (cs ++ ys) (n + m), ⟨objs, tk ++ grT true (n + m), gl, rows⟩) := by
  cases b with
  | false =>
    obtain ⟨rfl, rfl⟩ := hb rfl
    simp [grA, grT, appendA, readA, ht, hi, h0, hz, hs] at hr hm ⊢
    exact ⟨hr, hm⟩
  | true =>
    simp [grA, grT, appendA, readA, ht, hi, h0, hz, hs, hr, hm]

/-- A purse's cells. -/
def purA (P : List Nat) : List AV := P.flatMap numA
theorem purA_len (P : List Nat) : (purA P).length = P.length * 4 := flat_length numA 4 (fun _ => rfl) P
theorem purA_at {P : List Nat} {d : Nat} (h : d < P.length) : (purA P).drop (d * 4) = numA P[d] ++ restC numA P d := flat_at numA 4 (fun _ => rfl) P d h
theorem purA_set {P : List Nat} {d : Nat} (h : d < P.length) (n : Nat) : (purA P).take (d * 4) ++ (numA n ++ (purA P).drop (d * 4 + 4)) = purA (P.set d n) := by
  have := flat_set numA 4 (fun _ => rfl) P d h n
  unfold splice at this
  rw [List.append_assoc] at this
  exact this
theorem purA_under (B : Bd) : ∀ P : List Nat, underL B (purA P) = true := underL_flat (fun _ => rfl)
theorem purA_noObj (n : Nat) : ∀ P : List Nat, noObjL n (purA P) = true := noObjL_flat (fun _ => rfl)
theorem purA_isCell (P : List Nat) : (purA P).all AV.isCell = true := by
  induction P with
  | nil => rfl
  | cons x P ih => simp only [purA, List.flatMap_cons, List.all_append, Bool.and_eq_true] at ih ⊢; exact ⟨rfl, ih⟩
/-- What a function has of the first eight. -/
def purF (f : Nat → Nat) : List Nat := (List.range 8).map f
@[simp] theorem purF_len (f : Nat → Nat) : (purF f).length = 8 := by simp [purF]
theorem purF_get {f : Nat → Nat} {d : Nat} (h : d < 8) : (purF f)[d]'(by simpa using h) = f d := by simp [purF]
theorem purF_congr {f g : Nat → Nat} (h : ∀ d, d < 8 → f d = g d) : purF f = purF g := List.map_congr_left (fun d hd => h d (by simpa using hd))
theorem purF_set {f : Nat → Nat} {d n : Nat} : (purF f).set d n = purF (fun j => if j = d then n else f j) := by
  apply List.ext_getElem
  · simp
  · intro i h1 h2
    rw [List.getElem_set]
    simp [purF]
    split
    · rename_i h; simp [h]
    · rename_i h; rw [if_neg (fun e => h e.symm)]
theorem purA_zero : purA (purF fun _ => 0) = [.v (.int .u64 0), .v (.int .u64 0), .v (.int .u64 0), .v (.int .u64 0), .v (.int .u64 0), .v (.int .u64 0), .v (.int .u64 0), .v (.int .u64 0), .v (.int .u64 0), .v (.int .u64 0), .v (.int .u64 0), .v (.int .u64 0), .v (.int .u64 0), .v (.int .u64 0), .v (.int .u64 0), .v (.int .u64 0), .v (.int .u64 0), .v (.int .u64 0), .v (.int .u64 0), .v (.int .u64 0), .v (.int .u64 0), .v (.int .u64 0), .v (.int .u64 0), .v (.int .u64 0), .v (.int .u64 0), .v (.int .u64 0), .v (.int .u64 0), .v (.int .u64 0), .v (.int .u64 0), .v (.int .u64 0), .v (.int .u64 0), .v (.int .u64 0)] := rfl

/-- One coin more of a right list. -/
theorem amt_snoc {l : List Coin} {c : Coin} (h : Right (l ++ [c])) (d : Nat) : amt (l ++ [c]) d = if d = c.d.toNat then c.n.v else amt l d := by
  rw [amt_append]
  have h3 := (right_snoc.1 h).2.2
  by_cases hd : d = c.d.toNat
  · subst hd
    rw [if_pos rfl, if_neg]
    · simp [amt]
    · rintro ⟨b, hb, e⟩
      have := h3 b hb; omega
  · rw [if_neg hd]
    split
    · rfl
    · rename_i hn
      have h0 : amt l d = 0 := amt_none (fun c hc e => hn ⟨c, hc, e⟩)
      rw [h0]
      simp [amt]
      intro e; exact absurd e.symm hd

def neB : List Coin → Bool
  | [] => false
  | _ :: _ => true
@[simp] theorem neB_nil : neB [] = false := rfl
@[simp] theorem neB_snoc (l : List Coin) (c : Coin) : neB (l ++ [c]) = true := by cases l <;> rfl
theorem neB_no {l : List Coin} (h : neB l = false) : l = [] := by cases l <;> simp [neB] at h ⊢

/-- What a function of each two amounts comes to. -/
def eachE (F : Nat → Nat → Nat × Nat) (a b : List Coin) : Nat → Nat
  | 0 => 0
  | d + 1 => if eachE F a b d ≠ 0 then eachE F a b d else (F (amt a d) (amt b d)).2
def eachL (F : Nat → Nat → Nat × Nat) (a b : List Coin) : List Coin := if eachE F a b 8 = 0 then lstF (fun d => (F (amt a d) (amt b d)).1) 8 else []
theorem eachE_stop {F : Nat → Nat → Nat × Nat} {a b : List Coin} {d : Nat} (h : eachE F a b d ≠ 0) : ∀ k, eachE F a b (d + k) = eachE F a b d
  | 0 => rfl
  | k + 1 => by
    have := eachE_stop h k
    rw [← Nat.add_assoc]
    show (if eachE F a b (d + k) ≠ 0 then eachE F a b (d + k) else _) = _
    rw [this, if_pos h]
theorem eachE_iff {F : Nat → Nat → Nat × Nat} {a b : List Coin} : ∀ n, eachE F a b n = 0 ↔ ∀ d, d < n → (F (amt a d) (amt b d)).2 = 0
  | 0 => by simp [eachE]
  | n + 1 => by
    have ih := eachE_iff (F := F) (a := a) (b := b) n
    constructor
    · intro h d hd
      unfold eachE at h
      split at h
      · contradiction
      · rename_i h0
        by_cases e : d = n
        · subst e; exact h
        · exact ih.1 (by simpa using h0) d (by omega)
    · intro h
      unfold eachE
      rw [if_neg (by simpa using ih.2 (fun d hd => h d (by omega)))]
      exact h n (by omega)
def addN (x y : Nat) : Nat := if x + y < 2 ^ 256 then x + y else 0
def addE (x y : Nat) : Nat := if x + y < 2 ^ 256 then 0 else 2
theorem addN_lt (x y : Nat) : addN x y < 2 ^ 256 := by unfold addN; split <;> first | assumption | decide
/-- coins.Add's answer, and coins.Rest's. -/
def cAddE (a b : List Coin) : Nat := eachE (fun x y => (addN x y, addE x y)) a b 8
def cAddL (a b : List Coin) : List Coin := eachL (fun x y => (addN x y, addE x y)) a b
def cRest (a b : List Coin) : List Coin := eachL (fun x y => (x - y, 0)) a b
theorem cAddE_zero {a b : List Coin} : cAddE a b = 0 ↔ ∀ d, d < 8 → amt a d + amt b d < 2 ^ 256 := by
  unfold cAddE
  rw [eachE_iff]
  constructor
  · intro h d hd
    have := h d hd
    simp only [addE] at this
    split at this
    · assumption
    · omega
  · intro h d hd
    simp only [addE, if_pos (h d hd)]
theorem cAddL_yes {a b : List Coin} (h : cAddE a b = 0) : cAddL a b = lstF (fun d => amt a d + amt b d) 8 := by
  have h' : eachE (fun x y => (addN x y, addE x y)) a b 8 = 0 := h
  unfold cAddL eachL
  rw [if_pos h']
  exact lstF_congr (fun d hd => by simp only [addN, if_pos (cAddE_zero.1 h d hd)])
theorem cAddL_no {a b : List Coin} (h : ¬ cAddE a b = 0) : cAddL a b = [] := by
  have h' : ¬ eachE (fun x y => (addN x y, addE x y)) a b 8 = 0 := h
  unfold cAddL eachL; rw [if_neg h']
theorem cRest_eq (a b : List Coin) : cRest a b = lstF (fun d => amt a d - amt b d) 8 := by
  unfold cRest eachL
  rw [if_pos ((eachE_iff 8).2 (fun _ _ => rfl))]
theorem cAddE_val (a b : List Coin) : cAddE a b = 0 ∨ cAddE a b = 2 := by
  unfold cAddE
  have : ∀ n, eachE (fun x y => (addN x y, addE x y)) a b n = 0 ∨ eachE (fun x y => (addN x y, addE x y)) a b n = 2 := by
    intro n
    induction n with
    | zero => exact .inl rfl
    | succ n ih =>
      unfold eachE
      split
      · exact ih
      · simp only [addE]; split
        · exact .inl rfl
        · exact .inr rfl
  exact this 8
theorem right_cAdd (a b : List Coin) : Right (cAddL a b) := by
  by_cases h : cAddE a b = 0
  · rw [cAddL_yes h]; exact right_lstF (cAddE_zero.1 h) 8 (by omega)
  · rw [cAddL_no h]; exact right_nil
theorem right_cRest (a b : List Coin) : Right (cRest a b) := by
  rw [cRest_eq]; exact right_lstF (fun d _ => Nat.lt_of_le_of_lt (Nat.sub_le _ _) (amt_lt a d)) 8 (by omega)
theorem amt_cAdd {a b : List Coin} (h : cAddE a b = 0) {d : Nat} (hd : d < 8) : amt (cAddL a b) d = amt a d + amt b d := by
  rw [cAddL_yes h]; exact amt_lstF (cAddE_zero.1 h) (by omega) hd
theorem amt_cRest (a b : List Coin) {d : Nat} (hd : d < 8) : amt (cRest a b) d = amt a d - amt b d := by
  rw [cRest_eq]; exact amt_lstF (fun d _ => Nat.lt_of_le_of_lt (Nat.sub_le _ _) (amt_lt a d)) (by omega) hd
theorem right_len {l : List Coin} (h : Right l) : l.length ≤ 8 := by
  rw [← lstF_amt h]; exact lstF_len _ _

end Go.Vm

/-
  A loop over a function value that yields an array's cells, the last one first: an array of the call's own, which no round writes.
-/
namespace Go.Vm
set_option linter.unnecessarySimpa false
set_option linter.unusedSimpArgs false
set_option linter.unusedVariables false
open Go Go.RowKit

section
variable {P : Program} {N : Nat} {ρ : Nat → AV} {σ : St}

theorem run_backwardO {g p1 p2 q1 q2 : Tmp} {o1 o2 : Oper} {i1 i2 : Nat} {body : Code} {gf : FuncId} {ob : Nat → Prop} {vs : List Value} {m id : Nat} {Q : Exit → (Nat → AV) → St → Prop} (hback : Backs P gf ob) (hm : ob m) (hcb : callable P gf = true)
    (hN : (decide (p1 < N) && decide (p2 < N) && decide (q1 < N) && decide (q2 < N)) = true) (ho1 : o1.op = .assign (.tmp p1)) (ho2 : o2.op = .assign (.tmp p2)) (hg1 : o1.guard = none) (hg2 : o2.guard = none) (hd1 : o1.dst = some q1) (hd2 : o2.dst = some q2)
    (hne : (p1 != p2 && p1 != q1 && p2 != q1) = true)
    (I : List Nat → St → Prop) (hg : ρ g = .fn gf [.ep [.bs id 0 1 m]]) (hml : m = vs.length) (hplain : vs.all (fun x => plain x && x.oneCell') = true) (hI : ∀ pre σ', I pre σ' → σ'.objs[id]? = some (vs.map .v))
    (Ix : Code → List Nat → St → Prop) (h0 : I [] σ)
    (round : ∀ z pre i x σ', i < m → vs[i]? = some x → I pre σ' → Run z P N body (putA (putA (putA (putA ρ (some p1) (.v (.int .i64 (i : Nat)))) (some p2) (.v x)) (some q1) (.v (.int .i64 (i : Nat)))) (some q2) (.v x)) σ' (fun e _ σ'' => match e with
      | .normal => I (pre ++ [i]) σ''
      | .ret => Ix .ret (pre ++ [i]) σ''
      | .exit j => Ix (.exit j) (pre ++ [i]) σ''
      | .goto j => Ix (.goto j) (pre ++ [i]) σ''
      | _ => False))
    (done : ∀ σ', I (List.range m).reverse σ' → Q .normal ρ σ')
    (stop : ∀ c pre σ', pre <+: (List.range m).reverse → Ix c pre σ' → Run ⟨none, 3⟩ P N c ρ σ' Q) :
    Run ⟨none, 3⟩ P N (.rangeFunc (.tmp g) #[p1, p2] (.seq (.region i1 #[o1] false) (.region i2 #[o2] false)) body) ρ σ Q := by
  intro G w a R hR hK
  simp only [Bool.and_eq_true, decide_eq_true_eq, bne_iff_ne, ne_eq] at hN hne
  obtain ⟨⟨⟨n1, n2⟩, n3⟩, n4⟩ := hN
  obtain ⟨⟨e1, e2⟩, e3⟩ := hne
  have hgv := hR.env g
  rw [hg] at hgv
  -- the iterator, and what it holds
  obtain ⟨cs, hcs, hcl, hcr⟩ : ∃ cs : Array Value, a.tmps.getD g undef = .func (.func gf) #[] cs ∧ cs.size = 1 ∧ ∀ x, cs[0]? = some x → AVR G w x (.ep [.bs id 0 1 m]) := by
    generalize a.tmps.getD g undef = v at hgv
    cases hgv with
    | fn hl h => exact ⟨_, rfl, hl, fun x hx => h 0 x _ hx rfl⟩
  obtain ⟨Bn, Bo, hcap, hBg, v, hv, hva⟩ : ∃ Bn Bo, cs = #[.pointer (some ⟨Bn, Bo, none⟩)] ∧ G.tag Bn Bo = .fixd ∧ ∃ v, w.cell? ⟨Bn, Bo, none⟩ = some v ∧ AVR G w v (.bs id 0 1 m) := by
    have h1 := hcr cs[0] (Array.getElem?_eq_getElem (by omega))
    generalize hx : cs[0] = x at h1
    cases h1 with
    | ep xs hl hs hxs h =>
      rename_i b o
      have hlt : 0 < xs.length := by rw [hl]; simp
      obtain ⟨c1, _⟩ := hxs 0 xs[0] (List.getElem?_eq_getElem hlt)
      refine ⟨b, o, ?_, by simpa using hs 0 (by simp), xs[0], by simpa using c1, h 0 _ _ (List.getElem?_eq_getElem hlt) rfl⟩
      apply Array.ext
      · simpa using hcl
      · intro i hi1 hi2
        have : i = 0 := by omega
        subst this
        simpa using hx
  obtain ⟨b0, c, hb0, rfl⟩ : ∃ b0 c, G.pl id = some b0 ∧ v = .slice (some ⟨b0, 0, none⟩) m c := by
    cases hva with
    | bs h hc => exact ⟨_, _, h, rfl⟩
  have hpl : ∀ (j : Nat) x, vs[j]? = some x → plain x = true := fun j x hj => by
    have := List.all_eq_true.1 hplain x (List.mem_of_getElem? hj)
    simp only [Bool.and_eq_true] at this
    exact this.1
  have hcells : ∀ G' W σ', Ext G w G' W → RelS G' W σ' → σ'.objs[id]? = some (vs.map .v) → ∀ (j : Nat) x, vs[j]? = some x → W.cell? ⟨b0, j, none⟩ = some x := by
    intro G' W σ' hE hS ho j x hj
    obtain ⟨cc, e, cs', h1, h2, h3, _, h5⟩ := hS.obj id b0 (hE.pl _ _ hb0)
    rw [ho] at h1; cases h1
    have hjl : j < cc.size := by rw [h3]; simpa using (List.getElem?_eq_some_iff.1 hj).1
    have h6 := h5 j cc[j] (.v x) (Array.getElem?_eq_getElem hjl) (by simp [hj])
    rw [heap_cell h2, Array.getElem?_eq_getElem hjl, h6.v_eq]
  let Good : Nat → Nat → Prop := fun b o => G.tag b o = .fixd ∨ (b = b0 ∧ o < m)
  have hxs0 := hcells G w σ (.refl _ _) hR.s (hI _ _ h0)
  have hx : ∀ (j : Nat) x, vs[j]? = some x → ∃ b o, some (⟨b0, 0, none⟩ : Addr) = some ⟨b, o, none⟩ ∧ Good b (o + j) ∧ w.cell? ⟨b, o + j, none⟩ = some x := fun j x hj =>
    ⟨b0, 0, rfl, .inr ⟨rfl, by have := (List.getElem?_eq_some_iff.1 hj).1; omega⟩, by rw [Nat.zero_add]; exact hxs0 j x hj⟩
  have hseq := hback 2 w Bn Bo m c (some ⟨b0, 0, none⟩) vs Good (by omega) hm hv (.inl hBg) hml.symm hx
  have hdf : ∀ D, w.heap.size ≤ D → ({ target := .collected D, args := #[] } : Deferred) ∉ a.defers := by
    intro D hD hmem
    obtain ⟨D', h1, _, h3⟩ := hR.defers.1 _ hmem
    have : D = D' := by injection h1 with h1; injection h1
    subst this
    have := (Array.getElem?_eq_some_iff.1 h3).1
    omega
  have hRel : ∀ (D : Nat) G' W σ', w.heap.size ≤ D → Ext G w G' W → RelS G' W σ' → W.heap[D]? = some (.deferred (some [])) → Rel N G' W ρ σ' { a with defers := { target := .collected D, args := #[] } :: a.defers } := by
    intro D G' W σ' hD hE hS hk
    refine ⟨hS, ⟨fun d hd => ?_, List.nodup_cons.2 ⟨hdf D hD, hR.defers.2.1⟩, by rw [hE.base]; exact Nat.le_trans hR.defers.2.2 hE.size⟩, hR.size, fun i => (hR.env i).mono hE⟩
    rcases List.mem_cons.1 hd with rfl | hd
    · refine ⟨D, rfl, ?_, hk⟩
      rw [hE.base]
      exact Nat.le_trans hR.defers.2.2 hD
    · exact (hR.defers.1.mono hE) d hd
  have hown : ∀ {β : Type} (J : β → St → Prop), OwnFrom w.heap.size (fun (s : β) W => ∃ G' σ', Ext G w G' W ∧ RelS G' W σ' ∧ J s σ') := by
    rintro β J s W W' row ⟨G', σ', hE, hS, hJ⟩ hgr hrow
    have hst : Still W W' := still_grown hgr (fun r e => (hrow r e).2)
    refine ⟨G', σ', hE.still hst hgr.os hgr.tape hgr.output (fun b hb => hgr.block b (Nat.lt_of_lt_of_le hb hE.size) (fun e => ?_)), hS.still hst, hJ⟩
    have := (hrow b e.symm).1
    omega
  let a0 : Fin m → Act := fun i => { tmps := ((#[p1, p2] : Array Tmp).zip #[.int .i64 i.val, vs[i.val]'(by omega)]).foldl (fun t (p, v) => t.setIfInBounds p v) a.tmps, defers := [] }
  let a1 : Fin m → Act := fun i => (a0 i).put (some q1) ((a0 i).eval (.tmp p1))
  let a2 : Fin m → Act := fun i => (a1 i).put (some q2) ((a1 i).eval (.tmp p2))
  have hF : ∀ l f, ((Fence.wide).inRound l).fn f := fun _ _ => trivial
  have post : ∀ (pre : List (Fin m)) (i : Fin m) (W : World) (e : Exit) (ρ' : Nat → AV) (σ'' : St) (G2 : Gh) (a' : Act) (W' : World) (G' : Gh) (σ1 : St), Ext G w G' W → RelS G' W σ1 → I (pre.map Fin.val) σ1 → (match e with
      | .normal => I (pre.map Fin.val ++ [i.val]) σ''
      | .ret => Ix .ret (pre.map Fin.val ++ [i.val]) σ''
      | .exit j => Ix (.exit j) (pre.map Fin.val ++ [i.val]) σ''
      | .goto j => Ix (.goto j) (pre.map Fin.val ++ [i.val]) σ''
      | _ => False) → Ext G' W G2 W' → Rel N G2 W' ρ' σ'' a' →
      ownPostK (KeepsAt Good) (fun (s : List (Fin m)) W => ∃ G' σ', Ext G w G' W ∧ RelS G' W σ' ∧ I (s.map Fin.val) σ') (fun c (s : List (Fin m)) W => ∃ G' σ', Ext G w G' W ∧ RelS G' W σ' ∧ Ix c (s.map Fin.val) σ') (pre ++ [i]) W e a' W' := by
    intro pre i W e ρ' σ'' G2 a' W' G' σ1 hE hS1 hI1 hq hE2 hR2
    cases e with
    | normal =>
      have hkp : KeepsAt Good W W' := by
        rintro b o x (hb | ⟨rfl, hb⟩) hx
        · exact hE2.cell (hE.sealed b o hb) hx
        · have hj : vs[o]? = some vs[o] := List.getElem?_eq_getElem (by omega)
          have e1 := hcells G' W σ1 hE hS1 (hI _ _ hI1) o _ hj
          rw [e1] at hx; cases hx
          exact hcells G2 W' σ'' (hE.trans hE2) hR2.s (hI _ _ hq) o _ hj
      exact ⟨hE2.others, hkp, G2, σ'', hE.trans hE2, hR2.s, by simpa using hq⟩
    | ret => exact ⟨hE2.others, G2, σ'', hE.trans hE2, hR2.s, by simpa using hq⟩
    | exit j => exact ⟨hE2.others, G2, σ'', hE.trans hE2, hR2.s, by simpa using hq⟩
    | goto j => exact ⟨hE2.others, G2, σ'', hE.trans hE2, hR2.s, by simpa using hq⟩
    | panic ch => exact hq.elim
    | outgrown => exact hq.elim
  refine wpIn_rangeFunc_ownF (F := Fence.wide) rfl (by show 1 ≤ 3; omega) (gf := gf) (lb := #[.pointer (some ⟨Bn, Bo, none⟩)]) (by rw [← hcap]; exact hcs) trivial (fun args w => run_callFunc hcb) hseq
    (fun h k b o x hb hx => k b o x hb (h b o x hb hx)) (fun W l o o' _ hl ho _ b off x _ hx => ?keep) (Below.refl _ _) (fun _ => rfl)
    (fun s W => ∃ G' σ', Ext G w G' W ∧ RelS G' W σ' ∧ I (s.map Fin.val) σ') (fun c s W => ∃ G' σ', Ext G w G' W ∧ RelS G' W σ' ∧ Ix c (s.map Fin.val) σ')
    (hown _) (fun c => hown _) ⟨G, σ, .refl _ _, hR.s, h0⟩ a2 ?assign ?body ?done ?stop
  case keep => exact (still_put hl ho).cell hx
  case assign =>
    intro l x W K hK'
    refine wpIn_seq ?_
    refine wpIn_assign1 (hF l) ho1 hg1 ?_
    show Code.wpIn _ _ _ _ _ _ _
    refine wpIn_assign1 (hF l) ho2 hg2 ?_
    rw [hd1, hd2]
    exact hK'
  case body =>
    rintro l pre i W ⟨G', σ', hE, hS, hI1⟩ hlt
    have hi : i.val < vs.length := by omega
    have hxi : AVR G w vs[i.val] (.v vs[i.val]) := .v (hpl i.val _ (List.getElem?_eq_getElem hi))
    refine round ⟨some l, 1⟩ (pre.map Fin.val) i.val vs[i.val] σ' i.isLt (List.getElem?_eq_getElem hi) hI1 G' W (a2 i) _ ?_ (fun e ρ' σ'' G2 a' W' hq hE2 hR2 => post pre i W e ρ' σ'' G2 a' W' G' σ' hE hS hI1 hq hE2 hR2)
    have hb : a0 i = (({ a with defers := [] } : Act).put (some p1) (.int .i64 i.val)).put (some p2) (vs[i.val]'hi) := by simp [a0, Act.put]
    have r0 : Rel N G' W ρ σ' { a with defers := [] } := ⟨hS, ⟨Marks.nil _ _, List.nodup_nil, by rw [hE.base]; exact Nat.le_trans hR.defers.2.2 hE.size⟩, hR.size, fun i => (hR.env i).mono hE⟩
    have r1 := r0.put (.refl _ _) hS (d := some p1) (by simpa [inN] using n1) (v := .int .i64 i.val) (x := .v (.int .i64 i.val)) (.v rfl)
    have r2 := r1.put (.refl _ _) hS (d := some p2) (by simpa [inN] using n2) (hxi.mono hE)
    rw [← hb] at r2
    have v1 : AVR G' W ((a0 i).eval (.tmp p1)) (.v (.int .i64 i.val)) := by
      have h := r2.env p1
      have e : putA (putA ρ (some p1) (.v (.int .i64 i.val))) (some p2) (.v vs[i.val]) p1 = .v (.int .i64 i.val) := by simp [putA, e1]
      rw [e] at h
      exact h
    have r3 := r2.put (.refl _ _) hS (d := some q1) (by simpa [inN] using n3) v1
    have v2 : AVR G' W ((a1 i).eval (.tmp p2)) (.v vs[i.val]) := by
      have h := r3.env p2
      have e : putA (putA (putA ρ (some p1) (.v (.int .i64 i.val))) (some p2) (.v vs[i.val])) (some q1) (.v (.int .i64 i.val)) p2 = .v vs[i.val] := by simp [putA, e3]
      rw [e] at h
      exact h
    exact r3.put (.refl _ _) hS (d := some q2) (by simpa [inN] using n4) v2
  case done =>
    rintro D ys W hD hys ⟨G', σ', hE, hS, hI1⟩ hk
    rw [hys] at hI1
    exact hK .normal ρ σ' G' _ W (done σ' hI1) hE (hRel D G' W σ' hD hE hS hk)
  case stop =>
    rintro D c pre W hD hpre ⟨G', σ', hE, hS, hI1⟩ hk
    exact stop c _ σ' hpre hI1 G' W _ R (hRel D G' W σ' hD hE hS hk) (fun e ρ' σ2 G2 a2 w2 hq hE2 hR2 => hK e ρ' σ2 G2 a2 w2 hq (hE.trans hE2) hR2)

end
end Go.Vm

/-
  Rows on the way: a nil list that may be written; a row that nobody will write again; a call that hands back rows.
-/
namespace Go.Vm
set_option linter.unnecessarySimpa false
set_option linter.unusedSimpArgs false
set_option linter.unusedVariables false
open Go

theorem nilrow_sound {G : Gh} {w : World} {σ : St} (hS : RelS G w σ) : ∃ G', Ext G w G' w ∧ RelS G' w { σ with rows := σ.rows ++ [⟨0, [], none⟩] } ∧ G'.rw σ.rows.length = some (0, 0, 0, 0) := by
  let G' : Gh := { G with rw := fun i' => if i' = σ.rows.length then some (0, 0, 0, 0) else G.rw i' }
  have hE : Ext G w G' w := by
    refine ⟨rfl, rfl, rfl, rfl, Nat.le_refl _, fun _ c _ _ h => ⟨c, h, rfl, fun _ _ => rfl⟩, fun _ _ h _ => h, fun _ _ h => h, fun _ _ _ h => h, fun _ _ h => h, fun _ m r h => ⟨m, r, h, Nat.le_refl _, fun _ => rfl⟩, fun q m r hq => ⟨m, r, ?_, Nat.le_refl _, fun _ => rfl⟩⟩
    show (if q = _ then _ else _) = _
    rw [if_neg (fun e => by subst e; exact rw_fresh hS _ hq)]; exact hq
  refine ⟨G', hE, ⟨?_, hS.inj, hS.tok, hS.fresh, fun g cs2 hg => (hS.gl g cs2 hg).mono hE, hS.tot, hS.totk, ?_, ?_⟩, if_pos rfl⟩
  · intro id b hp
    obtain ⟨c2, e2, cs2, h1, h2, h3, h4, h5⟩ := hS.obj id b hp
    exact ⟨c2, e2, cs2, h1, h2, h3, h4, fun j x a hx ha => (h5 j x a hx ha).mono hE⟩
  · intro q gc b o C hq
    have hq' : (if q = σ.rows.length then some (0, 0, 0, 0) else G.rw q) = some (gc, b, o, C) := hq
    by_cases hql : q = σ.rows.length
    · subst hql
      rw [if_pos rfl] at hq'
      cases hq'
      exact ⟨⟨0, [], none⟩, by simp, rfl, by simp, ⟨fun s e => (by cases e), fun h => (by omega)⟩⟩
    · rw [if_neg hql] at hq'
      obtain ⟨r, h1, h2, h3, h4, h5⟩ := hS.row q gc b o C hq'
      refine ⟨r, by show (σ.rows ++ _)[q]? = _; rw [List.getElem?_append_left (List.getElem?_eq_some_iff.1 h1).1]; exact h1, h2, h3, h4, fun hC => ?_⟩
      obtain ⟨c2, e2, g1, g2, g3, g4, g5⟩ := h5 hC
      exact ⟨c2, e2, g1, g2, g3, g4, fun j x a hx ha => (g5 j x a hx ha).mono hE⟩
  · intro q hq
    show ∃ p, (if q = σ.rows.length then some (0, 0, 0, 0) else G.rw q) = some p
    by_cases hql : q = σ.rows.length
    · rw [if_pos hql]; exact ⟨_, rfl⟩
    · rw [if_neg hql]; exact hS.totr q (by simp at hq; omega)

section
variable {z : Zone} {P : Program} {N : Nat} {ρ : Nat → AV} {σ : St}

theorem Rel.turn {G : Gh} {w : World} {a : Act} (hR : Rel N G w ρ σ a) {G' : Gh} {σ' : St} {ρ' : Nat → AV} (hE : Ext G w G' w) (hS : RelS G' w σ') (he : ∀ i, AVR G' w (a.tmps.getD i undef) (ρ' i)) : Rel N G' w ρ' σ' a :=
  ⟨hS, ⟨hR.defers.1.mono hE, hR.defers.2.1, by rw [hE.base]; exact hR.defers.2.2⟩, hR.size, he⟩

theorem nilrow_rel {G : Gh} {w : World} {a : Act} (hR : Rel N G w ρ σ a) (d sz : Nat) {s : Nat} (h : ρ d = .sl s [] 0 .full) :
    ∃ G', Ext G w G' w ∧ Rel N G' w (putA ρ (some d) (.row σ.rows.length 0 0 sz 0)) { σ with rows := σ.rows ++ [⟨0, [], none⟩] } a := by
  obtain ⟨G', hE, hS, hrw⟩ := nilrow_sound hR.s
  refine ⟨G', hE, hR.turn hE hS (fun i => ?_)⟩
  by_cases hi : i = d
  · subst hi
    have hx := hR.env i
    rw [h] at hx
    obtain ⟨ad, c, e1, e2⟩ := sl_empty_full hx
    subst e2
    rw [e1]
    show AVR G' w _ (if i = i then _ else _)
    rw [if_pos rfl]
    exact .row hrw (Nat.le_refl _) (Nat.le_refl _) (fun h => (h rfl).elim) (fun _ => ⟨by simp, fun h => (h rfl).elim⟩)
  · show AVR G' w _ (if i = d then _ else _)
    rw [if_neg hi]
    exact (hR.env i).mono hE

/-- A nil list is a row of no cells. -/
theorem run_nilrow {c : Code} {Q : Exit → (Nat → AV) → St → Prop} (d sz : Nat) {s : Nat} (h : ρ d = .sl s [] 0 .full := by first | rfl | (simp [F]; done))
    (k : Run z P N c (putA ρ (some d) (.row σ.rows.length 0 0 sz 0)) { σ with rows := σ.rows ++ [⟨0, [], none⟩] } Q) : Run z P N c ρ σ Q := fun G w a R hR hK => by
  obtain ⟨G', hE, hR'⟩ := nilrow_rel hR d sz h
  exact k G' w a R hR' (fun e ρ' σ' G2 a' w' hq hE2 hR2 => hK e ρ' σ' G2 a' w' hq (hE.trans hE2) hR2)
theorem runL_nilrow {ops : Array Oper} {l : List Oper} {K : (Nat → AV) → St → Prop} (d sz : Nat) {s : Nat} (h : ρ d = .sl s [] 0 .full := by first | rfl | (simp [F]; done))
    (k : RunL z P N ops l (putA ρ (some d) (.row σ.rows.length 0 0 sz 0)) { σ with rows := σ.rows ++ [⟨0, [], none⟩] } K) : RunL z P N ops l ρ σ K := fun G w a R hR hK => by
  obtain ⟨G', hE, hR'⟩ := nilrow_rel hR d sz h
  exact k G' w a R hR' (fun ρ' σ' G2 a' w' hq hE2 hR2 => hK ρ' σ' G2 a' w' hq (hE.trans hE2) hR2)

theorem freeze_rel {G : Gh} {w : World} {a : Act} (hR : Rel N G w ρ σ a) (d : Nat) {k g off sz n : Nat} {cells : List AV} {sp : Option Nat} (h : ρ d = .row k g off sz n) (hr : σ.rows[k]? = some ⟨g, cells, sp⟩) (hl : off + n * sz ≤ cells.length) :
    ∃ G', Ext G w G' w ∧ Rel N G' w (putA ρ (some d) (.sl sz ((cells.drop off).take (n * sz)) n .shut)) { σ with rows := σ.rows.set k ⟨g + 1, [], none⟩ } a := by
  obtain ⟨G1, e1, e2, e3⟩ := fr_sound hR.s hr
  refine ⟨G1, e1, hR.turn e1 (e3 σ.objs rfl (fun id cs ds h1 h2 => by rw [h1] at h2; cases h2; exact FrL.refl _)) (fun i => ?_)⟩
  by_cases hi : i = d
  · subst hi
    have hx := hR.env i
    rw [h] at hx
    show AVR G1 w _ (if i = i then _ else _)
    rw [if_pos rfl]
    exact e2 _ _ _ hx (.row hl)
  · show AVR G1 w _ (if i = d then _ else _)
    rw [if_neg hi]
    exact (hR.env i).mono e1

/-- A row that nobody will write again is a list. -/
theorem run_freeze {c : Code} {Q : Exit → (Nat → AV) → St → Prop} (d : Nat) {k g off sz n : Nat} {cells : List AV} {sp : Option Nat} (h : ρ d = .row k g off sz n := by first | rfl | (simp [F]; done) | (simp [F]; exact ⟨rfl, rfl, rfl⟩) | (simp [F]; exact ⟨rfl, rfl, rfl, rfl, rfl⟩)) (hr : σ.rows[k]? = some ⟨g, cells, sp⟩ := by first | rfl | (simp [F]; done) | (simp [F]; rfl) | (simp [F]; exact ⟨rfl, rfl⟩) | (simp [F]; exact ⟨rfl, rfl, rfl⟩)) (hl : off + n * sz ≤ cells.length := by first | (simp [F]; done) | omega | (simp [F]; omega))
    (kk : Run z P N c (putA ρ (some d) (.sl sz ((cells.drop off).take (n * sz)) n .shut)) { σ with rows := σ.rows.set k ⟨g + 1, [], none⟩ } Q) : Run z P N c ρ σ Q := fun G w a R hR hK => by
  obtain ⟨G', hE, hR'⟩ := freeze_rel hR d h hr hl
  exact kk G' w a R hR' (fun e ρ' σ' G2 a' w' hq hE2 hR2 => hK e ρ' σ' G2 a' w' hq (hE.trans hE2) hR2)
theorem runL_freeze {ops : Array Oper} {l : List Oper} {K : (Nat → AV) → St → Prop} (d : Nat) {k g off sz n : Nat} {cells : List AV} {sp : Option Nat} (h : ρ d = .row k g off sz n := by first | rfl | (simp [F]; done) | (simp [F]; exact ⟨rfl, rfl, rfl⟩) | (simp [F]; exact ⟨rfl, rfl, rfl, rfl, rfl⟩)) (hr : σ.rows[k]? = some ⟨g, cells, sp⟩ := by first | rfl | (simp [F]; done) | (simp [F]; rfl) | (simp [F]; exact ⟨rfl, rfl⟩) | (simp [F]; exact ⟨rfl, rfl, rfl⟩)) (hl : off + n * sz ≤ cells.length := by first | (simp [F]; done) | omega | (simp [F]; omega))
    (kk : RunL z P N ops l (putA ρ (some d) (.sl sz ((cells.drop off).take (n * sz)) n .shut)) { σ with rows := σ.rows.set k ⟨g + 1, [], none⟩ } K) : RunL z P N ops l ρ σ K := fun G w a R hR hK => by
  obtain ⟨G', hE, hR'⟩ := freeze_rel hR d h hr hl
  exact kk G' w a R hR' (fun ρ' σ' G2 a' w' hq hE2 hR2 => hK ρ' σ' G2 a' w' hq (hE.trans hE2) hR2)

theorem run_fz {c : Code} {Q : Exit → (Nat → AV) → St → Prop} (d sz : Nat) {q g n : Nat} {cells : List AV} {sp : Option Nat} (h : ρ d = .row q g 0 sz n := by first | rfl | (simp [F]; done) | (simp [F]; exact ⟨rfl, rfl, rfl⟩) | (simp [F]; exact ⟨rfl, rfl, rfl, rfl, rfl⟩)) (hr : σ.rows[q]? = some ⟨g, cells, sp⟩ := by first | rfl | (simp [F]; done) | (simp [F]; rfl) | (simp [F]; exact ⟨rfl, rfl⟩) | (simp [F]; exact ⟨rfl, rfl, rfl⟩)) (hl : cells.length = n * sz := by first | (simp [F]; done) | omega | (simp [F]; omega))
    (k : Run z P N c (putA ρ (some d) (.sl sz cells n .shut)) { σ with rows := σ.rows.set q ⟨g + 1, [], none⟩ } Q) : Run z P N c ρ σ Q :=
  run_freeze d h hr (by omega) (by rw [List.drop_zero, List.take_of_length_le (by omega)]; exact k)
theorem runL_fz {ops : Array Oper} {l : List Oper} {K : (Nat → AV) → St → Prop} (d sz : Nat) {q g n : Nat} {cells : List AV} {sp : Option Nat} (h : ρ d = .row q g 0 sz n := by first | rfl | (simp [F]; done) | (simp [F]; exact ⟨rfl, rfl, rfl⟩) | (simp [F]; exact ⟨rfl, rfl, rfl, rfl, rfl⟩)) (hr : σ.rows[q]? = some ⟨g, cells, sp⟩ := by first | rfl | (simp [F]; done) | (simp [F]; rfl) | (simp [F]; exact ⟨rfl, rfl⟩) | (simp [F]; exact ⟨rfl, rfl, rfl⟩)) (hl : cells.length = n * sz := by first | (simp [F]; done) | omega | (simp [F]; omega))
    (k : RunL z P N ops l (putA ρ (some d) (.sl sz cells n .shut)) { σ with rows := σ.rows.set q ⟨g + 1, [], none⟩ } K) : RunL z P N ops l ρ σ K :=
  runL_freeze d h hr (by omega) (by rw [List.drop_zero, List.take_of_length_le (by omega)]; exact k)

/-- What is spare behind a row is told no more. -/
theorem run_forget {c : Code} {Q : Exit → (Nat → AV) → St → Prop} (q : Nat) {g : Nat} {cells : List AV} {sp : Option Nat} (hr : σ.rows[q]? = some ⟨g, cells, sp⟩ := by first | rfl | (simp [F]; done) | (simp [F]; rfl) | (simp [F]; exact ⟨rfl, rfl⟩) | (simp [F]; exact ⟨rfl, rfl, rfl⟩))
    (k : Run z P N c ρ { σ with rows := σ.rows.set q ⟨g, cells, none⟩ } Q) : Run z P N c ρ σ Q := fun G w a R hR hK => by
  have h0 : WkS { σ with rows := σ.rows.set q ⟨g, cells, sp⟩ } { σ with rows := σ.rows.set q ⟨g, cells, none⟩ } :=
    WkS.setRow ⟨rfl, Nat.le_refl _, by rw [List.take_length]; exact WkL.refl _, fun s h => by cases h⟩
  have e : ({ σ with rows := σ.rows.set q ⟨g, cells, sp⟩ } : St) = σ := by
    have : σ.rows.set q ⟨g, cells, sp⟩ = σ.rows := by
      apply List.ext_getElem?
      intro j
      by_cases hj : q = j
      · subst hj
        have hlt := (List.getElem?_eq_some_iff.1 hr).1
        rw [List.getElem?_set_self hlt, hr]
      · rw [List.getElem?_set_ne hj]
    rw [this]
  rw [e] at h0
  exact k G w a R ⟨hR.s.wk h0, hR.defers, hR.size, hR.env⟩ hK

/-- What objects a call made are forgotten; its rows stay. -/
theorem callsA_gcO {f : FuncId} {args : List AV} {A : AV} {τ : St} (k : CallsA P f args σ (fun av σ' => av = A ∧ GoneO σ σ' ∧ σ.trimO σ' = τ)) (hA : A.noObj σ.objs.length = true) : CallsA P f args σ (fun av σ' => av = A ∧ σ' = τ) := by
  intro G w vs R hS hl hr hK
  refine k G w vs R hS hl hr (fun v av σ0 G' w' hq hE hS' hv => ?_)
  obtain ⟨rfl, hg, rfl⟩ := hq
  obtain ⟨h1, h2⟩ := hS.trimO hS' hE hg
  exact hK v _ _ _ w' ⟨rfl, rfl⟩ h1 h2 (hv.forgetO hE hS.tot hA)
/-- The same where only its answer's kind is told. -/
theorem callsA_gcOx {f : FuncId} {args : List AV} {Q : AV → St → Prop} (k : CallsA P f args σ (fun av σ' => av.noObj σ.objs.length = true ∧ GoneO σ σ' ∧ Q av (σ.trimO σ'))) : CallsA P f args σ Q := by
  intro G w vs R hS hl hr hK
  refine k G w vs R hS hl hr (fun v av σ0 G' w' hq hE hS' hv => ?_)
  obtain ⟨hA, hg, hq⟩ := hq
  obtain ⟨h1, h2⟩ := hS.trimO hS' hE hg
  exact hK v _ _ _ w' hq h1 h2 (hv.forgetO hE hS.tot hA)
end

/-- The end of a call that hands back rows. -/
theorem gco {av A : AV} {σ σ' τ : St} (hA : av = A := by first | rfl | (simp [F]; done)) (hg : GoneO σ σ' := by exact gk) (ht : σ.trimO σ' = τ := by first | rfl | (simp [F, St.trimO]; done)) : av = A ∧ GoneO σ σ' ∧ σ.trimO σ' = τ := ⟨hA, hg, ht⟩

end Go.Vm

/-
  Digits that are made right; numbers of digits.
-/
namespace Go.Vm
set_option linter.unnecessarySimpa false
set_option linter.unusedSimpArgs false
set_option linter.unusedVariables false
set_option exponentiation.threshold 600
open Go

/-- Digits hang on what is left of a number alone. -/
theorem digs_mod {b n x y : Nat} (hb : 0 < b) (h : x % b ^ n = y % b ^ n) : digs b n x = digs b n y := by
  have hy : digs b n (valD b (digs b n y)) = digs b n y := by
    have := digs_valD hb (digs_lt (n := n) (x := y) hb)
    rwa [digs_len] at this
  have hx : digs b n (valD b (digs b n x)) = digs b n x := by
    have := digs_valD hb (digs_lt (n := n) (x := x) hb)
    rwa [digs_len] at this
  rw [← hx, ← hy, valD_digs, valD_digs, h]

theorem valD_take_succ {b : Nat} {L : List Nat} {i : Nat} (h : i < L.length) : valD b (L.take (i + 1)) = valD b (L.take i) + b ^ i * L[i] := by
  rw [take_snoc h, valD_snoc]
  simp [Nat.min_eq_left (Nat.le_of_lt h)]

/-- A list of digits, the first ones made right. -/
def crA (b : Nat) (L : List Nat) (i : Nat) : List Nat := digs b i (valD b (L.take i)) ++ L.drop i
def crO (b : Nat) (L : List Nat) (i : Nat) : Nat := valD b (L.take i) / b ^ i
theorem crA_zero (b : Nat) (L : List Nat) : crA b L 0 = L := by simp [crA, digs]
theorem crO_zero (b : Nat) (L : List Nat) : crO b L 0 = 0 := by simp [crO]
theorem crA_len {b : Nat} {L : List Nat} {i : Nat} (h : i ≤ L.length) : (crA b L i).length = L.length := by simp [crA]; omega
theorem crA_get {b : Nat} {L : List Nat} {i : Nat} (h : i < L.length) : (crA b L i)[i]? = some L[i] := by
  unfold crA
  rw [List.getElem?_append_right (by simp)]
  simp [h]
theorem crO_next {b : Nat} {L : List Nat} {i : Nat} (hb : 0 < b) (h : i < L.length) : (crO b L i + L[i]) / b = crO b L (i + 1) := by
  unfold crO
  rw [valD_take_succ h, Nat.pow_succ, ← Nat.div_div_eq_div_mul, Nat.add_mul_div_left _ _ (Nat.pow_pos hb)]
theorem crA_set {b : Nat} {L : List Nat} {i : Nat} (hb : 0 < b) (h : i < L.length) : (crA b L i).set i ((crO b L i + L[i]) % b) = crA b L (i + 1) := by
  unfold crA crO
  rw [List.set_append_right _ _ (by simp), digs_snoc, valD_take_succ h, Nat.add_mul_div_left _ _ (Nat.pow_pos hb)]
  have e : L.drop i = L[i] :: L.drop (i + 1) := List.drop_eq_getElem_cons h
  simp only [digs_len, Nat.sub_self]
  rw [e, List.set_cons_zero, List.append_assoc]
  rw [digs_mod hb (show (valD b (L.take i) + b ^ i * L[i]) % b ^ i = valD b (L.take i) % b ^ i from Nat.add_mul_mod_self_left ..)]
  rfl
theorem crO_le {b m : Nat} {L : List Nat} (hb : 2 ≤ b) (hL : ∀ d ∈ L, d ≤ m) : ∀ i, i ≤ L.length → crO b L i ≤ m
  | 0, _ => by rw [crO_zero]; omega
  | i + 1, h => by
    have ih := crO_le hb hL i (by omega)
    rw [← crO_next (by omega) (by omega : i < L.length)]
    have hd := hL L[i] (List.getElem_mem _)
    refine Nat.le_trans (Nat.div_le_div_left (c := 2) hb (by omega)) ?_
    omega
theorem crA_all (b : Nat) (L : List Nat) : crA b L L.length ++ [crO b L L.length] = digs b L.length (valD b L) ++ [valD b L / b ^ L.length] := by
  simp [crA, crO]

theorem u64s_get_of {l : List Nat} {i n : Nat} (h : l[i]? = some n) : (u64s l)[i]? = some (.v (.int .u64 n)) := by simp [u64s, h]

/-- Cells of 16 bits, laid into limbs. -/
theorem digs_lay {T i q r d : Nat} (hq : q = i / 4) (hr : r = i % 4) (hi : i < 16) (hT : T < 65536 ^ i) (hd : d < 65536) :
    T / 18446744073709551616 ^ q % 18446744073709551616 + d * 2 ^ (16 * r) < 18446744073709551616 ∧
    (digs 18446744073709551616 4 T).set q (T / 18446744073709551616 ^ q % 18446744073709551616 + d * 2 ^ (16 * r)) = digs 18446744073709551616 4 (T + 65536 ^ i * d) := by
  have hr4 : r < 4 := by omega
  have hq4 : q < 4 := by omega
  have e16 : ∀ n, (65536 : Nat) ^ n = 2 ^ (16 * n) := fun n => by rw [Nat.pow_mul]
  have eW : ∀ n, (18446744073709551616 : Nat) ^ n = 2 ^ (64 * n) := fun n => by rw [Nat.pow_mul]
  have e1 : (65536 : Nat) ^ i = 18446744073709551616 ^ q * 2 ^ (16 * r) := by
    rw [e16, eW, ← Nat.pow_add]; congr 1; omega
  have hM : T / 18446744073709551616 ^ q < 2 ^ (16 * r) := Nat.div_lt_of_lt_mul (by rw [← e1]; exact hT)
  have hp : (2 : Nat) ^ (16 * r) = 1 ∨ (2 : Nat) ^ (16 * r) = 65536 ∨ (2 : Nat) ^ (16 * r) = 4294967296 ∨ (2 : Nat) ^ (16 * r) = 281474976710656 := by
    have : r = 0 ∨ r = 1 ∨ r = 2 ∨ r = 3 := by omega
    rcases this with rfl | rfl | rfl | rfl <;> simp
  have hlt : T / 18446744073709551616 ^ q % 18446744073709551616 + d * 2 ^ (16 * r) < 18446744073709551616 := by
    generalize T / 18446744073709551616 ^ q = M at hM
    rcases hp with h | h | h | h <;> rw [h] at hM ⊢ <;> omega
  refine ⟨hlt, ?_⟩
  have hl1 : q < (digs 18446744073709551616 4 T).length := by simpa using hq4
  have hTl : T < 18446744073709551616 ^ 4 := Nat.lt_of_lt_of_le hT (by rw [e16, eW]; exact Nat.pow_le_pow_right (by omega) (by omega))
  refine digs_of (by decide) (fun x hx => ?_) (by simp) ?_
  · rcases List.mem_or_eq_of_mem_set hx with h | h
    · exact digs_lt (by decide) x h
    · rw [h]; exact hlt
  · have e := valD_set (b := 18446744073709551616) hl1 (T / 18446744073709551616 ^ q % 18446744073709551616 + d * 2 ^ (16 * r))
    rw [digs_get hq4, valD_digs, Nat.mod_eq_of_lt hTl, Nat.mul_add] at e
    have e2 : 18446744073709551616 ^ q * (d * 2 ^ (16 * r)) = 65536 ^ i * d := by rw [e1]; grind
    rw [e2] at e
    omega

/-- Digits behind some: all are nought, or the number is great. -/
theorem valD_small {b : Nat} {L : List Nat} {n : Nat} (hb : 0 < b) (h : valD b L < b ^ n) : ∀ j, n ≤ j → (hj : j < L.length) → L[j] = 0 := by
  intro j hn hj
  have hi : L = L.take j ++ L[j] :: L.drop (j + 1) := by rw [List.getElem_cons_drop, List.take_append_drop]
  have h3 : valD b L = valD b (L.take j) + b ^ j * (L[j] + b * valD b (L.drop (j + 1))) := by
    conv => lhs; rw [hi, valD_append]
    simp [valD, Nat.min_eq_left (Nat.le_of_lt hj)]
  have h4 : b ^ n ≤ b ^ j := Nat.pow_le_pow_right hb hn
  rcases Nat.eq_zero_or_pos L[j] with h0 | h0
  · exact h0
  · have h5 : b ^ j * 1 ≤ b ^ j * (L[j] + b * valD b (L.drop (j + 1))) := Nat.mul_le_mul_left _ (by omega)
    omega
theorem valD_big {b : Nat} {L : List Nat} {j n : Nat} (hb : 0 < b) (hn : n ≤ j) (hj : j < L.length) (h : 0 < L[j]) : ¬ valD b L < b ^ n := fun hlt => by
  have := valD_small hb hlt j hn hj
  omega
theorem valD_zeros {b : Nat} {L : List Nat} {n : Nat} (h : ∀ j, n ≤ j → (hj : j < L.length) → L[j] = 0) : valD b L = valD b (L.take n) := by
  conv => lhs; rw [← List.take_append_drop n L, valD_append]
  have : valD b (L.drop n) = 0 := by
    have e : L.drop n = List.replicate (L.length - n) 0 := by
      apply List.ext_getElem
      · simp
      · intro i h1 h2
        simp at h1 h2 ⊢
        exact h (n + i) (by omega) (by omega)
    rw [e, valD_zero]
  rw [this]; simp

/-- Sums, digit by digit. -/
def addm (L M : List Nat) (i : Nat) : List Nat := (List.zipWith (· + ·) L M).take i ++ L.drop i
theorem addm_zero (L M : List Nat) : addm L M 0 = L := by simp [addm]
theorem addm_len {L M : List Nat} {i : Nat} (h : L.length = M.length) (hi : i ≤ L.length) : (addm L M i).length = L.length := by simp [addm]; omega
theorem addm_get {L M : List Nat} {i : Nat} (h : L.length = M.length) (hi : i < L.length) : (addm L M i)[i]? = some L[i] := by
  unfold addm
  rw [List.getElem?_append_right (by simp; omega)]
  have : i - (List.take i (List.zipWith (· + ·) L M)).length = 0 := by simp; omega
  rw [this]; simp [hi]
theorem addm_set {L M : List Nat} {i : Nat} (h : L.length = M.length) (hi : i < L.length) : (addm L M i).set i (L[i] + M[i]) = addm L M (i + 1) := by
  unfold addm
  have hl : (List.take i (List.zipWith (· + ·) L M)).length = i := by simp; omega
  rw [List.set_append_right _ _ (by omega), hl, Nat.sub_self]
  have e : L.drop i = L[i] :: L.drop (i + 1) := List.drop_eq_getElem_cons hi
  rw [e, List.set_cons_zero, take_snoc (by simp; omega)]
  simp
theorem addm_all {L M : List Nat} (h : L.length = M.length) : addm L M L.length = List.zipWith (· + ·) L M := by
  unfold addm
  rw [List.take_of_length_le (by simp; omega), List.drop_of_length_le (Nat.le_refl _), List.append_nil]
theorem valD_zip (b : Nat) : ∀ L M : List Nat, L.length = M.length → valD b (List.zipWith (· + ·) L M) = valD b L + valD b M
  | [], [], _ => rfl
  | x :: L, y :: M, h => by
    simp only [List.zipWith_cons_cons, valD, valD_zip b L M (by simpa using h), Nat.mul_add]
    omega
theorem zip_le {L M : List Nat} {m : Nat} (hL : ∀ d ∈ L, d < m) (hM : ∀ d ∈ M, d < m) : ∀ d ∈ List.zipWith (· + ·) L M, d ≤ 2 * m := by
  intro d hd
  obtain ⟨i, hi, rfl⟩ := List.getElem_of_mem hd
  simp at hi
  have h1 := hL L[i] (List.getElem_mem _)
  have h2 := hM M[i] (List.getElem_mem _)
  simp; omega

/-- A limb of a product is put. -/
theorem times_step16 {P : List Nat} {m X Y c : Nat} (hP : ∀ d ∈ P, d < 65536) (hm : m < P.length) (hc : c < 65536) (hX : X < 65536) (hY : Y < 65536) :
    (∀ d ∈ P.set m ((X * Y + P[m] + c) % 65536), d < 65536) ∧ (X * Y + P[m] + c) / 65536 < 65536 ∧
    valD 65536 (P.set m ((X * Y + P[m] + c) % 65536)) + 65536 ^ (m + 1) * ((X * Y + P[m] + c) / 65536) = valD 65536 P + 65536 ^ m * (X * Y + c) := by
  have hp := hP _ (List.getElem_mem hm)
  refine ⟨fun d hd => ?_, ?_, ?_⟩
  · rcases List.mem_or_eq_of_mem_set hd with h | h
    · exact hP d h
    · rw [h]; exact Nat.mod_lt _ (by decide)
  · have h1 : X ≤ 65535 := by omega
    have h2 : Y ≤ 65535 := by omega
    have := Nat.mul_le_mul h1 h2
    omega
  · have h1 := valD_set (b := 65536) hm ((X * Y + P[m] + c) % 65536)
    generalize valD 65536 (P.set m ((X * Y + P[m] + c) % 65536)) = v at *
    generalize valD 65536 P = v0 at *
    rw [Nat.pow_succ, Nat.mul_assoc]
    have h2 := Nat.div_add_mod (X * Y + P[m] + c) 65536
    generalize (X * Y + P[m] + c) / 65536 = q at *
    generalize (X * Y + P[m] + c) % 65536 = r at *
    generalize 65536 ^ m = B at *
    have h3 : B * (65536 * q) + B * r = B * (X * Y + c) + B * P[m] := by rw [← Nat.mul_add, h2, ← Nat.mul_add]; congr 1; omega
    omega

/-- Where a row of a product stands. -/
def TimesInvH (x y i X k : Nat) (P : List Nat) (c : Nat) : Prop :=
  P.length = 32 ∧ (∀ d ∈ P, d < 65536) ∧ c < 65536 ∧
    valD 65536 P + 65536 ^ (i + k) * c = (x % 65536 ^ i) * y + 65536 ^ i * (X * (y % 65536 ^ k)) ∧
    ∀ j, i + k ≤ j → P[j]? = (digs 65536 32 ((x % 65536 ^ i) * y))[j]?

theorem times_first16 {x y i X : Nat} (hi : i ≤ 16) (hy : y < 65536 ^ 16) : TimesInvH x y i X 0 (digs 65536 32 ((x % 65536 ^ i) * y)) 0 := by
  refine ⟨by simp, digs_lt (by decide), by decide, ?_, fun j _ => rfl⟩
  rw [valD_digs, Nat.mod_eq_of_lt (part_lt (by decide) hy (by omega))]
  simp [Nat.mod_one]

theorem times_next16 {x y i X k p c s c' : Nat} {P : List Nat} (h : TimesInvH x y i X k P c) (hi : i < 16) (hk : k < 16) (hX : X < 65536) (hp : P[i + k]? = some p) {Y : Nat} (hY : y / 65536 ^ k % 65536 = Y)
    (hs : s = (X * Y + p + c) % 65536) (hc : c' = (X * Y + p + c) / 65536) : TimesInvH x y i X (k + 1) (P.set (i + k) s) c' := by
  obtain ⟨h1, h2, h3, h4, h5⟩ := h
  obtain ⟨hl, rfl⟩ := List.getElem?_eq_some_iff.1 hp
  have hY2 : Y < 65536 := by rw [← hY]; exact Nat.mod_lt _ (by decide)
  obtain ⟨e1, e2, e3⟩ := times_step16 h2 hl h3 hX hY2
  subst hs hc
  refine ⟨by simp [h1], e1, e2, ?_, fun j hj => ?_⟩
  · rw [← Nat.add_assoc, e3, mod_digit, hY, Nat.mul_add (65536 ^ (i + k)), Nat.add_comm (65536 ^ (i + k) * (X * Y)), ← Nat.add_assoc, h4, Nat.pow_add]
    generalize 65536 ^ i = A
    generalize 65536 ^ k = B
    generalize y % B = z
    grind
  · rw [List.getElem?_set_ne (by omega)]
    exact h5 j (by omega)

theorem times_zero16 {x y i X c : Nat} {P : List Nat} (h : TimesInvH x y i X 16 P c) (hi : i < 16) (hy : y < 65536 ^ 16) : P[i + 16]? = some 0 := by
  rw [h.2.2.2.2 (i + 16) (Nat.le_refl _), digs_get? (by omega), Nat.div_eq_of_lt (part_lt (by decide) hy (Nat.le_refl _))]

theorem times_last16 {x y i X c : Nat} {P : List Nat} (h : TimesInvH x y i X 16 P c) (hi : i < 16) (hX : x / 65536 ^ i % 65536 = X) (hy : y < 65536 ^ 16) :
    P.set (i + 16) c = digs 65536 32 ((x % 65536 ^ (i + 1)) * y) := by
  obtain ⟨h1, h2, h3, h4, h5⟩ := h
  have hl : i + 16 < P.length := by omega
  have h0 : P[i + 16] = 0 := by
    have := h5 (i + 16) (Nat.le_refl _)
    rw [List.getElem?_eq_getElem hl, digs_get? (by omega), Nat.div_eq_of_lt (part_lt (by decide) hy (Nat.le_refl _))] at this
    simpa using this
  refine digs_of (by decide) (fun d hd => ?_) (by simp [h1]) ?_
  · rcases List.mem_or_eq_of_mem_set hd with h | h
    · exact h2 d h
    · rw [h]; exact h3
  · have e := valD_set (b := 65536) hl c
    rw [h0, Nat.mul_zero, Nat.add_zero] at e
    rw [e, h4, Nat.mod_eq_of_lt hy, mod_digit _ x i, hX]
    generalize 65536 ^ i = A
    grind


theorem zeros64 {P : Program} {e : TypeId} (h : ti P e = some ⟨false, 1, 8, .int .u64 0⟩) (n : Nat) : zerosA P e n = some (u64s (List.replicate n 0)) := by
  have hz : zeroA P e = some (.v (.int .u64 0)) := by simp [zeroA, h, ofValue, ofCell, plain]
  have hz1 : (Value.int .u64 0).oneCell' = true := rfl
  simp only [zerosA, h, hz, AV.cells]
  simp [AV.isCell]
  apply List.ext_getElem
  · simp [u64s]
  · intro i h1 h2
    simp [u64s, Nat.mod_one]

/-- A bit of a digit. -/
theorem bit_gen {x w q r j : Nat} (hr : r < w) (hj : j = w * q + r) : x / (2 ^ w) ^ q % 2 ^ w / 2 ^ r % 2 = x / 2 ^ j % 2 := by
  rw [← Nat.pow_mul, hj, Nat.pow_add, ← Nat.div_div_eq_div_mul]
  generalize x / 2 ^ (w * q) = y
  obtain ⟨s, rfl⟩ : ∃ s, w = r + (s + 1) := ⟨w - r - 1, by omega⟩
  rw [Nat.pow_add, Nat.mod_mul_right_div_self, Nat.pow_succ, Nat.mul_comm (2 ^ s) 2, Nat.mod_mul_right_mod]
theorem digs_bit16 {Q j q r M : Nat} (hM : M = Q / 65536 ^ q % 65536) (hr : r < 16) (hj : j = 16 * q + r) (hq : q < 32) (hb : Q / 2 ^ j % 2 = 0) (hl : Q + 2 ^ j < 2 ^ 512) :
    M + 2 ^ r < 65536 ∧ (digs 65536 32 Q).set q (M + 2 ^ r) = digs 65536 32 (Q + 2 ^ j) := by
  have hm2 : M / 2 ^ r % 2 = 0 := by rw [hM]; exact (bit_gen (w := 16) hr hj).trans hb
  have hMl : M < 65536 := by rw [hM]; exact Nat.mod_lt _ (by decide)
  have hlt : M + 2 ^ r < 65536 := by
    have e := Nat.div_add_mod M (2 ^ r)
    have e2 := Nat.mod_lt M (Nat.two_pow_pos r)
    obtain ⟨s, hs⟩ : ∃ s, 16 = r + (s + 1) := ⟨15 - r, by omega⟩
    have hW : 65536 = 2 ^ r * (2 * 2 ^ s) := by
      rw [show (65536 : Nat) = 2 ^ 16 from rfl]; conv => lhs; rw [hs, Nat.pow_add, Nat.pow_succ, Nat.mul_comm (2 ^ s)]
    have h3 : M / 2 ^ r < 2 * 2 ^ s := Nat.div_lt_of_lt_mul (by rw [← hW]; exact hMl)
    have h5 := Nat.mul_le_mul_left (2 ^ r) (show M / 2 ^ r + 2 ≤ 2 * 2 ^ s by omega)
    rw [Nat.mul_add] at h5
    rw [hW]; omega
  have hl1 : q < (digs 65536 32 Q).length := by simpa using hq
  refine ⟨hlt, digs_of (by decide) (fun d hd => ?_) (by simp) ?_⟩
  · rcases List.mem_or_eq_of_mem_set hd with h | h
    · exact digs_lt (by decide) d h
    · rw [h]; exact hlt
  · have e := valD_set (b := 65536) hl1 (M + 2 ^ r)
    have hQ : Q < 65536 ^ 32 := by
      have h8 : (65536 : Nat) ^ 32 = 2 ^ 512 := by rw [show (65536 : Nat) = 2 ^ 16 from rfl, ← Nat.pow_mul]
      rw [h8]; exact Nat.lt_of_le_of_lt (Nat.le_add_right _ _) hl
    rw [digs_get hq, ← hM, valD_digs, Nat.mod_eq_of_lt hQ] at e
    have e2 : 65536 ^ q * 2 ^ r = 2 ^ j := by rw [show (65536 : Nat) = 2 ^ 16 from rfl, ← Nat.pow_mul, ← Nat.pow_add, hj]
    rw [Nat.mul_add, e2] at e
    omega
theorem digs_more {b n x : Nat} (h : x < b ^ n) : digs b (n + 1) x = digs b n x ++ [0] := by
  rw [digs_snoc, Nat.div_eq_of_lt h, Nat.zero_mod]
theorem digs_sub {b n x y : Nat} (hb : 0 < b) (hy : y ≤ x) : digs b n (x + b ^ n - y) = digs b n (x - y) :=
  digs_mod hb (by rw [show x + b ^ n - y = x - y + b ^ n by omega, Nat.add_mod_right])
theorem digs_all0 {b n x : Nat} (hx : x < b ^ n) (h : ∀ j, j < n → x / b ^ j % b = 0) : x = 0 := by
  have e : digs b n x = List.replicate n 0 := by
    apply List.ext_getElem
    · simp
    · intro i h1 h2
      simp at h1
      rw [digs_get h1, h i h1]; simp
  have := valD_digs b x n
  rw [e, valD_zero, Nat.mod_eq_of_lt hx] at this
  omega

end Go.Vm

/-
  Plans: what they are, when they are right.
-/
namespace Go.Vm
open Go

/-- A part of a plan: a length, its coins. -/
structure Per where
  l : Nat
  c : List Coin
deriving DecidableEq

/-- A plan. -/
structure Pln where
  k : UInt8
  s : Nat
  e : Nat
  tot : List Coin
  ps : List Per
deriving DecidableEq

def coinsV (l : List Coin) : AV := .sl 5 (coinsC l) l.length .shut
def perC (p : Per) : List AV := [.v (.int .u64 p.l), .sl 5 (coinsC p.c) p.c.length .shut]
def persC (l : List Per) : List AV := l.flatMap perC
def plnC (p : Pln) : List AV := [.v (.int .u8 p.k.toNat), .v (.int .u64 p.s), .v (.int .u64 p.e), .sl 5 (coinsC p.tot) p.tot.length .shut, .sl 2 (persC p.ps) p.ps.length .shut]
@[simp] theorem persC_nil : persC [] = [] := rfl
@[simp] theorem persC_len (l : List Per) : (persC l).length = l.length * 2 := flat_length perC 2 (fun _ => rfl) l
theorem persC_at {l : List Per} {i : Nat} (h : i < l.length) : (persC l).drop (i * 2) = perC l[i] ++ restC perC l i := flat_at perC 2 (fun _ => rfl) l i h
theorem persC_noObj (n : Nat) : ∀ l : List Per, noObjL n (persC l) = true := noObjL_flat (fun p => by simp [perC, noObjL, AV.noObj, coinsC, noObjL_flat, coinC, numA])
theorem persC_under (B : Bd) : ∀ l : List Per, underL B (persC l) = true := underL_flat (fun p => by simp [perC, underL, AV.under, coinsC, underL_flat, coinC, numA])
theorem persC_append (l m : List Per) : persC l ++ persC m = persC (l ++ m) := by simp [persC]
theorem persC_drop (l : List Per) (i : Nat) : (persC l).drop (i * 2) = persC (l.drop i) := by
  by_cases h : i < l.length
  · have e : l = l.take i ++ l.drop i := (List.take_append_drop i l).symm
    conv => lhs; rw [e]
    rw [← persC_append, List.drop_append_of_le_length (by simp; omega), List.drop_of_length_le (by simp; omega), List.nil_append]
  · rw [List.drop_of_length_le (by simp; omega), List.drop_of_length_le (by omega)]; rfl

/-- Numbers of a plan within their kinds, lists within their bound. -/
def Pln.Ok (p : Pln) : Prop := p.s < 2 ^ 64 ∧ p.e < 2 ^ 64 ∧ p.tot.length ≤ 9223372036854775807 ∧ p.ps.length ≤ 9223372036854775807 ∧ ∀ x ∈ p.ps, x.l < 2 ^ 64 ∧ x.c.length ≤ 9223372036854775807

/-- The sum of the first parts' coins, and if every sum fits. -/
def perSum : List Per → List Coin → Option (List Coin)
  | [], a => some a
  | x :: l, a => if cAddE a x.c = 0 then perSum l (cAddL a x.c) else none

/-- What plan.periods looks at, part by part. -/
def perOk : List Per → Nat → List Coin → Option (Nat × List Coin)
  | [], e, a => some (e, a)
  | x :: l, e, a => if x.l = 0 ∨ 2 ^ 40 < x.l ∨ 2 ^ 40 < e ∨ ¬ (x.c ≠ [] ∧ Right x.c) then none else if cAddE a x.c = 0 then perOk l (e + x.l) (cAddL a x.c) else none
def perB (p : Pln) : Bool := decide (p.ps.length ≤ 16) && decide (perOk p.ps p.s [] = some (p.e, p.tot))
def rightB (p : Pln) : Bool :=
  if p.k = 0 then decide (p = ⟨0, 0, 0, [], []⟩)
  else if ¬ (p.tot ≠ [] ∧ Right p.tot) ∨ 2 ^ 40 < p.e then false
  else if p.k = 1 then decide (p.s < p.e ∧ p.ps = [])
  else if p.k = 2 then decide (p.s = 0 ∧ p.ps = [])
  else if p.k = 4 then decide (p.s = 0 ∧ p.e = 0 ∧ p.ps = [])
  else if p.k = 3 ∨ p.k = 5 then perB p
  else false

/-- Where plan.periods stands. -/
structure PerQ where
  i : Nat
  e : Nat
  a : List Coin

section
variable {P : Program} {z : Zone} {N : Nat} {σ : St} {ρ : Nat → AV}
/-- A nil list told less sharply. -/
theorem run_nilsh {c : Code} {Q : Exit → (Nat → AV) → St → Prop} (d sz : Nat) {s : Nat} (h : ρ d = .sl s [] 0 .full := by first | rfl | (simp [F]; done))
    (k : Run z P N c (putA ρ (some d) (.sl sz [] 0 .shut)) σ Q) : Run z P N c ρ σ Q := run_wk (fun i => by
  rw [putA_get]; split
  · rename_i e; subst e; rw [h]; exact Wk.nil _ _ _
  · exact Wk.refl _) k
end

end Go.Vm

/-
  The document's right plans are the right plans.
-/
namespace Go.Vm
open Go

/-- What the document looks at, part by part. -/
def perOk2 : List Per → Nat → List Coin → Option (Nat × List Coin)
  | [], e, a => some (e, a)
  | x :: l, e, a => if x.l = 0 ∨ e < x.l ∨ x.c = [] ∨ ¬ Right x.c then none else if cAddE a x.c = 0 then perOk2 l (e - x.l) (cAddL a x.c) else none

theorem perOk_two : ∀ (l : List Per) (E : Nat) (a : List Coin) (e : Nat) (t : List Coin), e ≤ 2 ^ 40 → (perOk l E a = some (e, t) ↔ E ≤ e ∧ perOk2 l (e - E) a = some (0, t))
  | [], E, a, e, t, he => by
    simp only [perOk, perOk2, Option.some.injEq, Prod.mk.injEq]
    constructor
    · rintro ⟨h1, h2⟩; exact ⟨by omega, by omega, h2⟩
    · rintro ⟨h1, h2, h3⟩; exact ⟨by omega, h3⟩
  | x :: l, E, a, e, t, he => by
    have ih := perOk_two l (E + x.l) (cAddL a x.c) e t he
    have e1 : e - (E + x.l) = e - E - x.l := by omega
    rw [e1] at ih
    have e2 : x.l ≤ e - E ∧ E ≤ e ↔ E + x.l ≤ e := by omega
    simp only [perOk, perOk2]
    by_cases h0 : x.l = 0
    · rw [if_pos (.inl h0), if_pos (.inl h0)]; simp
    by_cases h1 : x.c = []
    · rw [if_pos (.inr (.inr (.inr (fun h => h.1 h1)))), if_pos (.inr (.inr (.inl h1)))]; simp
    by_cases h2 : Right x.c
    · by_cases h3 : cAddE a x.c = 0
      · rw [if_pos h3, if_pos h3]
        by_cases h4 : E + x.l ≤ e
        · rw [if_neg (by rintro (h | h | h | h); exact h0 h; omega; omega; exact h ⟨h1, h2⟩), if_neg (by rintro (h | h | h | h); exact h0 h; omega; exact h1 h; exact h h2), ih]
          constructor
          · rintro ⟨_, h⟩; exact ⟨by omega, h⟩
          · rintro ⟨_, h⟩; exact ⟨h4, h⟩
        · constructor
          · intro h
            split at h
            · cases h
            · exact absurd (ih.1 h).1 h4
          · rintro ⟨h5, h⟩
            split at h
            · cases h
            · rename_i hn
              exact absurd (by omega : E + x.l ≤ e) h4
      · rw [if_neg h3, if_neg h3]
        constructor
        · intro h; split at h <;> cases h
        · rintro ⟨_, h⟩; split at h <;> cases h
    · rw [if_pos (.inr (.inr (.inr (fun h => h2 h.2)))), if_pos (.inr (.inr (.inr h2)))]; simp

theorem perB_two {p : Pln} (he : p.e ≤ 2 ^ 40) (ht : p.tot ≠ []) : perB p = (decide (p.ps ≠ []) && decide (p.ps.length ≤ 16) && decide (p.s ≤ p.e) && decide (perOk2 p.ps (p.e - p.s) [] = some (0, p.tot))) := by
  unfold perB
  have h := perOk_two p.ps p.s [] p.e p.tot he
  by_cases h0 : p.ps = []
  · have : ¬ perOk p.ps p.s [] = some (p.e, p.tot) := by
      rw [h0]; simp only [perOk, Option.some.injEq, Prod.mk.injEq]
      rintro ⟨_, h2⟩; exact ht h2.symm
    rw [decide_eq_false this]; simp [h0]
  · rw [Bool.eq_iff_iff]
    simp only [Bool.and_eq_true, decide_eq_true_eq, h]
    constructor
    · rintro ⟨a, b, c⟩; exact ⟨⟨⟨h0, a⟩, b⟩, c⟩
    · rintro ⟨⟨⟨_, a⟩, b⟩, c⟩; exact ⟨a, b, c⟩

end Go.Vm

/-
  What a plan gives by a time.
-/
namespace Go.Vm
open Go

/-- How many parts are over by a time. -/
def overN : List Per → Nat → Nat → Nat
  | [], _, _ => 0
  | x :: l, E, t => if t < E + x.l then 0 else overN l (E + x.l) t + 1
theorem overN_le : ∀ (l : List Per) (E t : Nat), overN l E t ≤ l.length
  | [], _, _ => Nat.le_refl _
  | x :: l, E, t => by
    unfold overN
    split
    · exact Nat.zero_le _
    · have := overN_le l (E + x.l) t; simp; omega
/-- The lengths' sum. -/
def lenS : List Per → Nat
  | [] => 0
  | x :: l => x.l + lenS l
/-- The sum of the parts' coins, as it is added up. -/
def sumL : List Per → List Coin → List Coin
  | [], a => a
  | x :: l, a => sumL l (cAddL a x.c)
theorem right_sumL : ∀ (l : List Per) (a : List Coin), Right a → Right (sumL l a)
  | [], _, h => h
  | _ :: l, _, _ => right_sumL l _ (right_cAdd _ _)
/-- A coin's part that is given by a time. -/
def partN (c : Coin) (s e t : Nat) : Nat := c.n.v * (t - s) / (e - s)
theorem partN_lt {c : Coin} {s e t : Nat} (h : t ≤ e) : partN c s e t < 2 ^ 256 := by
  unfold partN
  have h1 : c.n.v * (t - s) ≤ c.n.v * (e - s) := Nat.mul_le_mul_left _ (by omega)
  have h2 : c.n.v * (t - s) / (e - s) ≤ c.n.v := by
    by_cases h0 : e - s = 0
    · rw [h0]; simp
    · exact Nat.le_trans (Nat.div_le_div_right h1) (by rw [Nat.mul_div_cancel _ (by omega)]; exact Nat.le_refl _)
  have := c.n.h
  omega
def partL (s e t : Nat) : List Coin → List Coin
  | [] => []
  | c :: l => oneL c.d (Num.of (partN c s e t)) ++ partL s e t l
theorem partL_snoc (s e t : Nat) (c : Coin) : ∀ l, partL s e t (l ++ [c]) = partL s e t l ++ oneL c.d (Num.of (partN c s e t))
  | [] => by simp [partL]
  | x :: l => by simp [partL, partL_snoc s e t c l]
theorem partL_len (s e t : Nat) : ∀ l, (partL s e t l).length ≤ l.length
  | [] => Nat.le_refl _
  | c :: l => by
    have := partL_len s e t l
    simp only [partL, List.length_append, List.length_cons]
    have : (oneL c.d (Num.of (partN c s e t))).length ≤ 1 := by unfold oneL; split <;> simp
    omega
theorem persC_take (l : List Per) (i : Nat) : (persC l).take (i * 2) = persC (l.take i) := by
  conv => lhs; rw [← List.take_append_drop i l, ← persC_append]
  by_cases h : i ≤ l.length
  · rw [List.take_append_of_le_length (by simp; omega), List.take_of_length_le (by simp; omega)]
  · rw [List.drop_of_length_le (by omega), persC_nil, List.append_nil, List.take_of_length_le (by simp; omega)]
def vestL (p : Pln) (t : Nat) : List Coin :=
  if p.k = 3 ∨ p.k = 5 then sumL (p.ps.take (overN p.ps p.s t)) []
  else if (¬ p.k = 1 ∧ ¬ p.k = 2) ∨ (p.k = 1 ∧ t ≤ p.s) then []
  else if p.e ≤ t then p.tot
  else if p.k = 2 then []
  else partL p.s p.e t p.tot

end Go.Vm

/-
  Arguments: numbers, lists of coins, plans.
-/
namespace Go.Vm
set_option linter.unnecessarySimpa false
set_option linter.unusedVariables false
open Go

theorem leavesF_mono {go go' : TypeId → Option (List TypeId)} (h : ∀ t l, go t = some l → go' t = some l) : ∀ (fs : List Field) (acc ls : List TypeId), leavesF go fs acc = some ls → leavesF go' fs acc = some ls
  | [], acc, ls, e => e
  | f :: fs, acc, ls, e => by
    simp only [leavesF] at e ⊢
    split at e
    · rename_i hf
      rw [if_pos hf]
      cases hg : go f.type with
      | none => rw [hg] at e; cases e
      | some l =>
        rw [hg] at e
        rw [h _ _ hg]
        exact leavesF_mono h fs _ ls e
    · cases e

theorem leaves_succ {P : Program} : ∀ (n : Nat) (t : TypeId) (l : List TypeId), leaves P n t = some l → leaves P (n + 1) t = some l
  | 0, t, l, h => by simp [leaves] at h
  | n + 1, t, l, h => by
    have ih := leaves_succ (P := P) n
    rw [leaves] at h ⊢
    split at h
    · exact h
    · exact h
    · exact h
    · rename_i e hu
      cases hg : leaves P n e with
      | none => rw [hg] at h; cases h
      | some l' => rw [hg] at h; simp only [ih _ _ hg]; exact h
    · rename_i fs hu
      cases hg : leavesF (leaves P n) fs.toList [] with
      | none => rw [hg] at h; cases h
      | some l' => rw [hg] at h; simp only [leavesF_mono ih _ _ _ hg]; exact h
    · rename_i k e hu
      cases hg : leaves P n e with
      | none => rw [hg] at h; cases h
      | some l' => rw [hg] at h; simp only [ih _ _ hg]; exact h
    · cases h

theorem leaves_add {P : Program} {n : Nat} {t : TypeId} {l : List TypeId} (h : leaves P n t = some l) : ∀ k, leaves P (n + k) t = some l
  | 0 => h
  | k + 1 => leaves_succ _ _ _ (leaves_add h k)
theorem leaves_one {P : Program} {n m : Nat} {t : TypeId} {l l' : List TypeId} (h : leaves P n t = some l) (h' : leaves P m t = some l') : l = l' := by
  have h1 := leaves_add h m
  have h2 := leaves_add h' n
  rw [Nat.add_comm] at h2
  rw [h1] at h2
  exact Option.some.inj h2

theorem join4' {a b c d : Nat} (ha : a < 2 ^ 64) (hb : b < 2 ^ 64) (hc : c < 2 ^ 64) (hd : d < 2 ^ 64) : ∃ x, x < 2 ^ 256 ∧ limb x 0 = a ∧ limb x 1 = b ∧ limb x 2 = c ∧ limb x 3 = d := by
  refine ⟨a + 2 ^ 64 * (b + 2 ^ 64 * (c + 2 ^ 64 * d)), ?_, ?_, ?_, ?_, ?_⟩ <;> (try simp only [limb, Nat.reduceMul, Nat.reducePow]) <;> omega

theorem u64_of' {P : Program} {u : TypeId} {a : AV} (hu : P.underlying u = some (.int .u64)) (w : WC P u a) : ∃ n : Nat, n < 2 ^ 64 ∧ a = .v (.int .u64 n) := by
  cases w with
  | bool h => rw [hu] at h; cases h
  | string h _ => rw [hu] at h; cases h
  | slice h _ _ _ _ => rw [hu] at h; cases h
  | int h hw =>
    rename_i k n
    rw [hu] at h
    cases h
    have m1 : IntKind.u64.min = 0 := rfl
    have m2 : IntKind.u64.max = 18446744073709551615 := rfl
    simp [Lit.wf, m1, m2] at hw
    exact ⟨n.toNat, by omega, by congr 2; omega⟩
theorem u8_of {P : Program} {u : TypeId} {a : AV} (hu : P.underlying u = some (.int .u8)) (w : WC P u a) : ∃ b : UInt8, a = .v (.int .u8 b.toNat) := by
  cases w with
  | bool h => rw [hu] at h; cases h
  | string h _ => rw [hu] at h; cases h
  | slice h _ _ _ _ => rw [hu] at h; cases h
  | int h hw =>
    rename_i k n
    rw [hu] at h
    cases h
    have m1 : IntKind.u8.min = 0 := rfl
    have m2 : IntKind.u8.max = 255 := rfl
    simp [Lit.wf, m1, m2] at hw
    refine ⟨UInt8.ofNat n.toNat, ?_⟩
    have e : (UInt8.ofNat n.toNat).toNat = n.toNat := toNat_u8 (by omega)
    rw [e]
    congr 2; omega

theorem num_of {P : Program} {u : TypeId} {a b c d : AV} (hu : P.underlying u = some (.int .u64)) (ha : WC P u a) (hb : WC P u b) (hc : WC P u c) (hd : WC P u d) : ∃ x : Num, [a, b, c, d] = numA x.v := by
  obtain ⟨na, ga, rfl⟩ := u64_of' hu ha
  obtain ⟨nb, gb, rfl⟩ := u64_of' hu hb
  obtain ⟨nc, gc, rfl⟩ := u64_of' hu hc
  obtain ⟨nd, gd, rfl⟩ := u64_of' hu hd
  obtain ⟨x, hx, x0, x1, x2, x3⟩ := join4' ga gb gc gd
  exact ⟨⟨x, hx⟩, by simp [numA, x0, x1, x2, x3]⟩

/-- Cells that come in groups of one kind. -/
theorem groups {P : Program} {α : Type} {f : α → List AV} {ls : List TypeId} (hl : 0 < ls.length) (hf : ∀ a, (f a).length = ls.length)
    (one : ∀ cs : List AV, cs.length = ls.length → (∀ (j : Nat) a u, cs[j]? = some a → ls[j]? = some u → WC P u a) → ∃ x, cs = f x) :
    ∀ (n : Nat) (cs : List AV), cs.length = n * ls.length → (∀ (j : Nat) a u, cs[j]? = some a → ls[j % ls.length]? = some u → WC P u a) → ∃ l : List α, l.length = n ∧ cs = l.flatMap f
  | 0, cs, h, _ => ⟨[], rfl, by simpa using h⟩
  | n + 1, cs, h, hc => by
    have hle : ls.length ≤ cs.length := by rw [h, Nat.add_mul]; omega
    obtain ⟨x, hx⟩ := one (cs.take ls.length) (by simp; omega) (fun j a u ha hu => by
      have hj : j < ls.length := (List.getElem?_eq_some_iff.1 hu).1
      rw [List.getElem?_take, if_pos hj] at ha
      exact hc j a u ha (by rw [Nat.mod_eq_of_lt hj]; exact hu))
    obtain ⟨l, hln, hl2⟩ := groups hl hf one n (cs.drop ls.length) (by rw [List.length_drop, h, Nat.add_mul]; omega) (fun j a u ha hu => by
      rw [List.getElem?_drop] at ha
      exact hc (ls.length + j) a u ha (by rw [Nat.add_mod_left]; exact hu))
    exact ⟨x :: l, by simp [hln], by rw [List.flatMap_cons, ← hx, ← hl2, List.take_append_drop]⟩

theorem coins_of {P : Program} {t e tb u : TypeId} {k : Nat} {a : AV} (ht : P.underlying t = some (.slice e)) (hle : leaves P k e = some [tb, u, u, u, u]) (hb : P.underlying tb = some (.int .u8)) (hu : P.underlying u = some (.int .u64)) (w : WC P t a) : ∃ L : List Coin, a = .sl 5 (coinsC L) L.length .shut := by
  cases w with
  | bool h => rw [ht] at h; cases h
  | string h _ => rw [ht] at h; cases h
  | int h _ => rw [ht] at h; cases h
  | slice h hls hl hn hc =>
    rw [ht] at h
    cases h
    rename_i fuel ls cs n
    obtain rfl := leaves_one hle hls
    obtain ⟨L, hL, rfl⟩ := groups (f := coinC) (ls := [tb, u, u, u, u]) (by simp) (fun _ => rfl) (fun cs h1 h2 => by
      obtain ⟨a0, a1, a2, a3, a4, rfl⟩ : ∃ a0 a1 a2 a3 a4, cs = [a0, a1, a2, a3, a4] := by
        match cs, h1 with
        | [a0, a1, a2, a3, a4], _ => exact ⟨a0, a1, a2, a3, a4, rfl⟩
      obtain ⟨b, hb⟩ := u8_of hb (h2 0 a0 tb rfl rfl)
      obtain ⟨x, hx⟩ := num_of hu (h2 1 a1 u rfl rfl) (h2 2 a2 u rfl rfl) (h2 3 a3 u rfl rfl) (h2 4 a4 u rfl rfl)
      exact ⟨⟨b, x⟩, by rw [hb, hx]; rfl⟩) n cs hl hc
    exact ⟨L, by rw [← hL]; rfl⟩

theorem wc_len {P : Program} {t : TypeId} {sz n : Nat} {cs : List AV} {tl : Tail} (w : WC P t (.sl sz cs n tl)) : n ≤ 9223372036854775807 := by
  generalize hx : AV.sl sz cs n tl = x at w
  cases w with
  | bool h => cases hx
  | string h _ => cases hx
  | int h _ => cases hx
  | slice h hls hl hn hc => cases hx; exact hn

theorem pers_of {P : Program} {t e u tc ec tb : TypeId} {k k2 : Nat} {a : AV} (ht : P.underlying t = some (.slice e)) (hle : leaves P k e = some [u, tc]) (hu : P.underlying u = some (.int .u64)) (hb : P.underlying tb = some (.int .u8)) {un : TypeId} (hun : P.underlying un = some (.int .u64))
    (htc : P.underlying tc = some (.slice ec)) (hlc : leaves P k2 ec = some [tb, un, un, un, un]) (w : WC P t a) : ∃ L : List Per, a = .sl 2 (persC L) L.length .shut ∧ L.length ≤ 9223372036854775807 ∧ ∀ x ∈ L, x.l < 2 ^ 64 ∧ x.c.length ≤ 9223372036854775807 := by
  have w0 := w
  cases w with
  | bool h => rw [ht] at h; cases h
  | string h _ => rw [ht] at h; cases h
  | int h _ => rw [ht] at h; cases h
  | slice h hls hl hn hc =>
    rw [ht] at h
    cases h
    rename_i fuel ls cs n
    obtain rfl := leaves_one hle hls
    obtain ⟨L, hL, rfl⟩ := groups (α := { x : Per // x.l < 2 ^ 64 ∧ x.c.length ≤ 9223372036854775807 }) (f := fun x => perC x.1) (ls := [u, tc]) (by simp) (fun _ => rfl) (fun cs h1 h2 => by
      obtain ⟨a0, a1, rfl⟩ : ∃ a0 a1, cs = [a0, a1] := by
        match cs, h1 with
        | [a0, a1], _ => exact ⟨a0, a1, rfl⟩
      obtain ⟨m, hm, e0⟩ := u64_of' hu (h2 0 a0 u rfl rfl)
      have w1 := h2 1 a1 tc rfl rfl
      obtain ⟨M, hM⟩ := coins_of htc hlc hb hun w1
      subst hM
      exact ⟨⟨⟨m, M⟩, hm, wc_len w1⟩, by rw [e0]; rfl⟩) n cs hl hc
    refine ⟨L.map Subtype.val, ?_, by rw [List.length_map, hL]; exact hn, fun x hx => ?_⟩
    · rw [List.length_map, hL]
      show AV.sl 2 _ n .shut = _
      congr 1
      simp [persC]
    · obtain ⟨y, _, rfl⟩ := List.mem_map.1 hx
      exact y.2

theorem pln_of {P : Program} {tk u tc tp e ec tb un : TypeId} {k k2 : Nat} {l : List AV} (h1 : l.length = [tk, u, u, tc, tp].length) (h2 : ∀ (j : Nat) a v, l[j]? = some a → [tk, u, u, tc, tp][j]? = some v → WC P v a) (hk : P.underlying tk = some (.int .u8)) (hu : P.underlying u = some (.int .u64)) (hb : P.underlying tb = some (.int .u8)) (hun : P.underlying un = some (.int .u64))
    (htc : P.underlying tc = some (.slice ec)) (hlc : leaves P k2 ec = some [tb, un, un, un, un]) (htp : P.underlying tp = some (.slice e)) (hle : leaves P k e = some [u, tc]) : ∃ p : Pln, l = plnC p ∧ p.Ok := by
  obtain ⟨a0, a1, a2, a3, a4, rfl⟩ : ∃ a0 a1 a2 a3 a4, l = [a0, a1, a2, a3, a4] := by
    match l, h1 with
    | [a0, a1, a2, a3, a4], _ => exact ⟨a0, a1, a2, a3, a4, rfl⟩
  obtain ⟨b, e0⟩ := u8_of hk (h2 0 a0 _ rfl rfl)
  obtain ⟨s, hs, e1⟩ := u64_of' hu (h2 1 a1 _ rfl rfl)
  obtain ⟨n, hn, e2⟩ := u64_of' hu (h2 2 a2 _ rfl rfl)
  have w3 := h2 3 a3 _ rfl rfl
  obtain ⟨M, e3⟩ := coins_of htc hlc hb hun w3
  subst e3
  obtain ⟨L, e4, hL, h5⟩ := pers_of htp hle hu hb hun htc hlc (h2 4 a4 _ rfl rfl)
  exact ⟨⟨b, s, n, M, L⟩, by rw [e0, e1, e2, e4]; rfl, hs, hn, wc_len w3, hL, h5⟩

end Go.Vm
