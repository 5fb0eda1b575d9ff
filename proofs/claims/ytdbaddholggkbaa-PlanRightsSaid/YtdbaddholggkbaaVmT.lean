import Derived.Test.YtdbaddholggkbaaVmN
/-
  Numbers and coins as plain data, and how they lie in cells.
-/
namespace Go.Vm
set_option linter.unnecessarySimpa false
set_option linter.unusedSimpArgs false
set_option linter.unusedVariables false
open Go

/-! ### Lists of things that take so many cells each -/
section
variable {α : Type} (f : α → List AV) (k : Nat)

/-- What lies behind element i. -/
def restC (l : List α) (i : Nat) : List AV := (l.drop (i + 1)).flatMap f

theorem flat_length (hf : ∀ a, (f a).length = k) (l : List α) : (l.flatMap f).length = l.length * k := by
  induction l with
  | nil => simp
  | cons a l ih => simp [ih, hf, Nat.add_mul, Nat.add_comm]

theorem flat_drop (hf : ∀ a, (f a).length = k) : ∀ (l : List α) (i : Nat), (l.flatMap f).drop (i * k) = (l.drop i).flatMap f
  | l, 0 => by simp
  | [], i + 1 => by simp
  | a :: l, i + 1 => by
    have h := hf a
    have e : (i + 1) * k = (f a).length + i * k := by rw [h, Nat.add_mul]; omega
    rw [List.flatMap_cons, e, List.drop_append, List.drop_eq_nil_of_le (by omega)]
    simp [flat_drop hf l i]

theorem flat_take (hf : ∀ a, (f a).length = k) : ∀ (l : List α) (i : Nat), (l.flatMap f).take (i * k) = (l.take i).flatMap f
  | l, 0 => by simp
  | [], i + 1 => by simp
  | a :: l, i + 1 => by
    have h := hf a
    have e : (i + 1) * k = (f a).length + i * k := by rw [h, Nat.add_mul]; omega
    rw [List.flatMap_cons, e, List.take_append, List.take_of_length_le (by omega)]
    simp [flat_take hf l i]

theorem flat_at (hf : ∀ a, (f a).length = k) (l : List α) (i : Nat) (h : i < l.length) : (l.flatMap f).drop (i * k) = f l[i] ++ restC f l i := by
  rw [flat_drop f k hf, List.drop_eq_getElem_cons h, List.flatMap_cons]
  rfl

theorem flat_set (hf : ∀ a, (f a).length = k) (l : List α) (i : Nat) (h : i < l.length) (x : α) : splice (l.flatMap f) (i * k) (f x) = (l.set i x).flatMap f := by
  unfold splice
  rw [flat_take f k hf, hf x, show i * k + k = (i + 1) * k by rw [Nat.add_mul]; omega, flat_drop f k hf, List.set_eq_take_append_cons_drop, if_pos h]
  simp
end

theorem noObjL_flat {α : Type} {f : α → List AV} {n : Nat} (h : ∀ a, noObjL n (f a) = true) : ∀ l : List α, noObjL n (l.flatMap f) = true
  | [] => rfl
  | a :: l => by rw [List.flatMap_cons, noObjL_append, h a, noObjL_flat h l]; rfl
theorem underL_flat {α : Type} {f : α → List AV} {B : Bd} (h : ∀ a, underL B (f a) = true) : ∀ l : List α, underL B (l.flatMap f) = true
  | [] => rfl
  | a :: l => by rw [List.flatMap_cons, underL_append, h a, underL_flat h l]; rfl

@[simp] theorem noObjL_bytes (n : Nat) : ∀ p : List UInt8, noObjL n (bytesA p) = true
  | [] => rfl
  | b :: p => by
    have := noObjL_bytes n p
    simp only [bytesA, List.map_cons, noObjL, AV.noObj, Bool.true_and] at this ⊢
    exact this
@[simp] theorem underL_bytes' (B : Bd) (p : List UInt8) : underL B (bytesA p) = true := under_bytes B p

/-! ### Numbers of 256 bits -/
@[ext] structure Num where
  v : Nat
  h : v < 2 ^ 256
  deriving DecidableEq

def Num.zero : Num := ⟨0, by decide⟩

theorem limb_sum {x : Nat} (h : x < 2 ^ 256) : x = limb x 0 + 2 ^ 64 * limb x 1 + 2 ^ 128 * limb x 2 + 2 ^ 192 * limb x 3 := by
  unfold limb
  simp only [Nat.mul_zero, Nat.pow_zero, Nat.div_one, Nat.mul_one, show 64 * 2 = 128 from rfl, show 64 * 3 = 192 from rfl]
  have e1 : x / 2 ^ 128 = x / 2 ^ 64 / 2 ^ 64 := by rw [Nat.div_div_eq_div_mul, ← Nat.pow_add]
  have e2 : x / 2 ^ 192 = x / 2 ^ 64 / 2 ^ 64 / 2 ^ 64 := by rw [Nat.div_div_eq_div_mul, Nat.div_div_eq_div_mul, ← Nat.pow_add, ← Nat.pow_add]
  rw [e1, e2]
  have h3 : x / 2 ^ 64 / 2 ^ 64 / 2 ^ 64 < 2 ^ 64 := by
    rw [Nat.div_div_eq_div_mul, Nat.div_div_eq_div_mul, ← Nat.pow_add, ← Nat.pow_add, Nat.div_lt_iff_lt_mul (by decide), ← Nat.pow_add]
    exact h
  omega

theorem limb_inj {x y : Nat} (hx : x < 2 ^ 256) (hy : y < 2 ^ 256) (h0 : limb x 0 = limb y 0) (h1 : limb x 1 = limb y 1) (h2 : limb x 2 = limb y 2) (h3 : limb x 3 = limb y 3) : x = y := by
  rw [limb_sum hx, limb_sum hy, h0, h1, h2, h3]

@[simp] theorem fits_num (x : Nat) : fitsK [some .u64, some .u64, some .u64, some .u64] (numA x) = true := rfl
@[simp] theorem fits_num0 : fitsK [some .u64, some .u64, some .u64, some .u64] [.v (.int .u64 0), .v (.int .u64 0), .v (.int .u64 0), .v (.int .u64 0)] = true := rfl

theorem cellsEq_numA (x y : Nat) : cellsEqA (numA x) (numA y) = decide (limb x 0 = limb y 0 ∧ limb x 1 = limb y 1 ∧ limb x 2 = limb y 2 ∧ limb x 3 = limb y 3) := by
  rw [Bool.eq_iff_iff]
  simp only [numA, cellsEqA, Bool.and_true, Bool.and_eq_true, beq_iff_eq, decide_eq_true_eq]
  omega

@[simp] theorem cellsEq_num (x y : Num) : cellsEqA (numA x.v) (numA y.v) = decide (x = y) := by
  rw [cellsEq_numA, Bool.eq_iff_iff]
  simp only [decide_eq_true_eq]
  exact ⟨fun ⟨h0, h1, h2, h3⟩ => Num.ext (limb_inj x.h y.h h0 h1 h2 h3), fun e => by subst e; simp⟩
@[simp] theorem cellsEq_num0 (x : Num) : cellsEqA (numA x.v) [.v (.int .u64 0), .v (.int .u64 0), .v (.int .u64 0), .v (.int .u64 0)] = decide (x.v = 0) := by
  have := cellsEq_num x Num.zero
  rw [show numA Num.zero.v = [.v (.int .u64 0), .v (.int .u64 0), .v (.int .u64 0), .v (.int .u64 0)] from rfl] at this
  rw [this, Bool.eq_iff_iff]
  simp only [decide_eq_true_eq]
  exact ⟨fun e => by rw [e]; rfl, fun e => Num.ext e⟩

@[simp] theorem noObjL_num (n x : Nat) : noObjL n (numA x) = true := rfl
@[simp] theorem underL_num (B : Bd) (x : Nat) : underL B (numA x) = true := rfl
@[simp] theorem gcOL_num (n x : Nat) : gcOL n (numA x) = numA x := rfl
@[simp] theorem all_num (x : Nat) : (numA x).all AV.isCell = true := rfl
@[simp] theorem numA_take_app (x : Nat) (r : List AV) : (numA x ++ r).take 4 = numA x := rfl
@[simp] theorem numA_drop_app (x : Nat) (r : List AV) : (numA x ++ r).drop 4 = r := rfl

/-! ### Coins -/
@[ext] structure Coin where
  d : UInt8
  n : Num
  deriving DecidableEq

def coinC (c : Coin) : List AV := .v (.int .u8 c.d.toNat) :: numA c.n.v
def coinsC (l : List Coin) : List AV := l.flatMap coinC

theorem coinC_len (c : Coin) : (coinC c).length = 5 := rfl
@[simp] theorem coinsC_len (l : List Coin) : (coinsC l).length = l.length * 5 := flat_length _ _ coinC_len l
@[simp] theorem coinsC_nil : coinsC [] = [] := rfl
theorem coinsC_append (l m : List Coin) : coinsC l ++ coinsC m = coinsC (l ++ m) := by simp [coinsC]
theorem coinsC_snoc (l : List Coin) (c : Coin) : coinsC l ++ coinC c = coinsC (l ++ [c]) := by simp [coinsC]
theorem coinsC_at {l : List Coin} {i : Nat} (h : i < l.length) : (coinsC l).drop (i * 5) = coinC l[i] ++ restC coinC l i := flat_at _ _ coinC_len l i h
@[simp] theorem noObjL_coins (n : Nat) (l : List Coin) : noObjL n (coinsC l) = true := noObjL_flat (fun _ => rfl) l
@[simp] theorem underL_coins (B : Bd) (l : List Coin) : underL B (coinsC l) = true := underL_flat (fun _ => rfl) l
@[simp] theorem fits_coin (c : Coin) : fitsK [some .u8, some .u64, some .u64, some .u64, some .u64] (coinC c) = true := rfl
@[simp] theorem cellsEq_coin (c d : Coin) : cellsEqA (coinC c) (coinC d) = decide (c = d) := by
  have h := cellsEq_num c.n d.n
  show ((c.d.toNat : Int) == d.d.toNat && cellsEqA (numA c.n.v) (numA d.n.v)) = _
  rw [h, Bool.eq_iff_iff]
  simp only [Bool.and_eq_true, beq_iff_eq, decide_eq_true_eq]
  constructor
  · rintro ⟨h1, h2⟩
    exact Coin.ext (UInt8.toNat_inj.1 (by omega)) h2
  · rintro rfl; exact ⟨rfl, rfl⟩
theorem coinC_app_take (c : Coin) (r : List AV) : (coinC c ++ r).take 5 = coinC c := rfl

/-- May a list of coins be? -/
def Right (l : List Coin) : Prop := (∀ c ∈ l, c.d.toNat < 8 ∧ c.n.v ≠ 0) ∧ l.Pairwise (fun a b => a.d.toNat < b.d.toNat)
instance (l : List Coin) : Decidable (Right l) := by unfold Right; infer_instance

theorem right_nil : Right [] := by simp [Right]
theorem right_snoc {l : List Coin} {c : Coin} : Right (l ++ [c]) ↔ Right l ∧ (c.d.toNat < 8 ∧ c.n.v ≠ 0) ∧ ∀ b ∈ l, b.d.toNat < c.d.toNat := by
  unfold Right
  rw [List.pairwise_append]
  simp only [List.mem_append, List.mem_singleton, List.pairwise_cons, List.Pairwise.nil]
  constructor
  · rintro ⟨h1, h2, _, h3⟩
    exact ⟨⟨fun x hx => h1 x (.inl hx), h2⟩, h1 c (.inr rfl), fun b hb => h3 b hb c rfl⟩
  · rintro ⟨⟨h1, h2⟩, h3, h4⟩
    refine ⟨fun x hx => hx.elim (h1 x) (fun e => e ▸ h3), h2, by simp, fun a ha b hb => ?_⟩
    subst hb; exact h4 a ha
theorem right_take {l : List Coin} (h : Right l) (i : Nat) : Right (l.take i) :=
  ⟨fun c hc => h.1 c (List.mem_of_mem_take hc), h.2.sublist (List.take_sublist i l)⟩
/-- Where the last one is less, all are. -/
theorem right_last {l : List Coin} (h : Right l) {b c : Coin} (hb : l.getLast? = some b) (hc : b.d.toNat < c.d.toNat) : ∀ a ∈ l, a.d.toNat < c.d.toNat := by
  obtain ⟨m, rfl⟩ := List.getLast?_eq_some_iff.1 hb
  have h2 := (right_snoc.1 h).2.2
  intro a ha
  rcases List.mem_append.1 ha with h1 | h1
  · exact Nat.lt_trans (h2 a h1) hc
  · simp at h1; subst h1; exact hc

theorem take_snoc {α : Type} {l : List α} {i : Nat} (h : i < l.length) : l.take (i + 1) = l.take i ++ [l[i]] := by
  rw [List.take_succ_eq_append_getElem h]

@[simp] theorem fits_coin' (d : Int) (x : Nat) : fitsK [some .u8, some .u64, some .u64, some .u64, some .u64] (.v (.int .u8 d) :: numA x) = true := rfl
@[simp] theorem cellsEq_coin' (c d : Coin) : cellsEqA (.v (.int .u8 c.d.toNat) :: numA c.n.v) (.v (.int .u8 d.d.toNat) :: numA d.n.v) = decide (c = d) := cellsEq_coin c d

/-- What is kept in mind is looked at again, behind an operation that turned the state. -/
theorem later_list {D : List Nat} {o : Oper} {X : Nat → Prop} (l : List Nat) (h : (later D o == l) = true) (k : ∀ j ∈ l, X j) : ∀ j, j ∈ later D o → X j := by
  rw [eq_of_beq h]; exact k
theorem fact_of {P : Program} {ops : Array Oper} {ρ : Nat → AV} {σ : St} {j x : Nat} {o : Oper} (h : ops[j]? = some o) (hd : o.dst = some x) (hw : wantedA ops o ρ = some true) (ho : opA P ρ σ o.op = some (ρ x, σ)) : Fact P ops ρ σ j := ⟨o, x, h, hd, .inl ⟨hw, ho⟩⟩
theorem fact2 {P : Program} {ops : Array Oper} {ρ : Nat → AV} {σ : St} {j x : Nat} {o : Oper} (h : ops[j]? = some o) (hd : o.dst = some x) (hb : wantedA ops o ρ = some true ∧ opA P ρ σ o.op = some (ρ x, σ)) : Fact P ops ρ σ j := ⟨o, x, h, hd, .inl hb⟩

/-- runD_pure' whose checks pay themselves. -/
theorem rp {z : Zone} {P : Program} {N : Nat} {σ : St} {ops : Array Oper} {S D : List Nat} {ρ0 ρ : Nat → AV} {Q : (Nat → AV) → St → Prop} (i : Nat) {o : Oper} {x : Tmp} (ho : ops[i]? = some o) (hx : o.dst = some x)
    (hb : (ready ops S i && (S.all fun j => dstOf ops j != some x) && fresh ops D x && !(o.looksAt ops).contains x && covers ops D o) = true)
    (k : match wantedA ops o ρ with
      | some b => (b = true → match opA P ρ σ o.op with
          | some (v, σ') => σ' = σ ∧ RunD z P N ops (i :: S) (i :: D) ρ0 (putA ρ (some x) v) σ Q
          | none => False) ∧ (b = false → RunD z P N ops (i :: S) (i :: D) ρ0 (putA ρ (some x) undefA) σ Q)
      | none => False) : RunD z P N ops S D ρ0 ρ σ Q := by
  simp only [Bool.and_eq_true, Bool.not_eq_true'] at hb
  obtain ⟨⟨⟨⟨h1, h2⟩, h3⟩, h4⟩, h5⟩ := hb
  exact runD_pure' i h1 ho hx h2 h3 h4 h5 k

/-- The bounds that a walk pays by omega, in one. -/
theorem wC : (∀ {n : Int}, -9223372036854775808 ≤ n ∧ n < 9223372036854775808 → IntKind.i64.wrap n = n) ∧ (∀ {n : Int}, 0 ≤ n ∧ n < 18446744073709551616 → IntKind.u64.wrap n = n) ∧ (∀ {n : Int}, 0 ≤ n ∧ n < 4294967296 → IntKind.u32.wrap n = n) ∧
    (∀ {n : Int}, 0 ≤ n ∧ n < 65536 → IntKind.u16.wrap n = n) ∧ (∀ {n : Int}, 0 ≤ n ∧ n < 256 → IntKind.u8.wrap n = n) ∧ (∀ {l : List Coin} {i : Nat} (h : i < l.length), (coinsC l).drop (i * 5) = coinC l[i] ++ restC coinC l i) :=
  ⟨wrap_i64c, wrap_u64c, wrap_u32c, wrap_u16c, wrap_u8c, coinsC_at⟩

end Go.Vm
