import Derived.Test.YtdbaddholggkbaaZ7
import Derived.Test.YtdbaddholggkbaaZ13
import Derived.Test.YtdbaddholggkbaaZ10
/-
  The document's reader: numbers.
-/
namespace Go.Proofs.Ytdbaddholggkbaa
set_option linter.unnecessarySimpa false
open Go Go.Vm
set_option linter.unusedSimpArgs false
set_option linter.unusedVariables false
set_option maxRecDepth 100000
attribute [local simp] evalL wantedA isCall opA evalA evalAll evalsA evalOpt ofValue ofCell plain binA_eql_pn binA_neq_pn binA_gtr binA_lss binA_geq binA_leq binA_add binA_sub binA_eql binA_neq binA_or binA_shl binA_shr binA_mul binA_quo binA_rem binA_agg_eql binA_agg_neq convA_int unA_not fieldAddrA loadA partA pickA_true pickA_false pickA_bb lenA builtinA storeA splice AV.cells AV.isCell sliceA boundA intA callOf indexAddrA newObjA buildA fillA zeroA ofCells buildSliceA indexA fieldA coinsC_at coinC inC

theorem limb_plus {x b k q r : Nat} (hb : b < 256) (hr : r < 8) (hk : 8 * q + r = k) (hx : x % 256 ^ (k + 1) = 0) : limb x q ||| b <<< (8 * r) = limb x q + b * 2 ^ (8 * r) ∧ x ||| b <<< (8 * k) = x + b * 256 ^ k ∧ limb x q + b * 2 ^ (8 * r) < 18446744073709551616 := by
  have e256 : ∀ n, (256 : Nat) ^ n = 2 ^ (8 * n) := fun n => by rw [Nat.pow_mul]
  obtain ⟨y, hy⟩ : ∃ y, x = 256 ^ (k + 1) * y := ⟨x / 256 ^ (k + 1), by have := Nat.div_add_mod x (256 ^ (k + 1)); omega⟩
  have h1 : x ||| b <<< (8 * k) = x + b * 256 ^ k := by
    have hlt : b <<< (8 * k) < 2 ^ (8 * (k + 1)) := by
      rw [Nat.shiftLeft_eq, show 8 * (k + 1) = 8 + 8 * k by omega, Nat.pow_add]
      exact Nat.mul_lt_mul_of_pos_right hb (Nat.pow_pos (by omega))
    have := Nat.shiftLeft_add_eq_or_of_lt hlt y
    rw [Nat.shiftLeft_eq, ← e256, Nat.mul_comm, ← hy] at this
    rw [← this, Nat.shiftLeft_eq, e256]
  obtain ⟨z, hz, hz2⟩ : ∃ z, limb x q = z * 2 ^ (8 * r + 8) ∧ z * 2 ^ (8 * r + 8) < 2 ^ 64 := by
    have e1 : x = 2 ^ (64 * q) * (2 ^ (8 * r + 8) * y) := by
      rw [hy, e256, ← Nat.mul_assoc, ← Nat.pow_add]
      congr 2; omega
    have e2 : x / 2 ^ (64 * q) = 2 ^ (8 * r + 8) * y := by
      rw [e1, Nat.mul_div_cancel_left _ (Nat.pow_pos (by omega))]
    have e3 : limb x q = 2 ^ (8 * r + 8) * (y % 2 ^ (64 - (8 * r + 8))) := by
      unfold limb
      rw [e2]
      conv => lhs; rw [show (2 : Nat) ^ 64 = 2 ^ (8 * r + 8) * 2 ^ (64 - (8 * r + 8)) by rw [← Nat.pow_add]; congr 1; omega]
      rw [Nat.mul_mod_mul_left]
    refine ⟨y % 2 ^ (64 - (8 * r + 8)), by rw [e3, Nat.mul_comm], ?_⟩
    rw [Nat.mul_comm, ← e3]
    exact limb_lt x q
  have hlt : b <<< (8 * r) < 2 ^ (8 * r + 8) := by
    rw [Nat.shiftLeft_eq, show 8 * r + 8 = 8 + 8 * r by omega, Nat.pow_add]
    exact Nat.mul_lt_mul_of_pos_right hb (Nat.pow_pos (by omega))
  have h2 : limb x q ||| b <<< (8 * r) = limb x q + b * 2 ^ (8 * r) := by
    have := Nat.shiftLeft_add_eq_or_of_lt hlt z
    rw [Nat.shiftLeft_eq, ← hz] at this
    rw [← this, Nat.shiftLeft_eq]
  refine ⟨h2, h1, ?_⟩
  rw [← h2]
  have hs : b <<< (8 * r) < 2 ^ 64 := Nat.lt_of_lt_of_le hlt (Nat.pow_le_pow_right (by omega) (by omega))
  exact Nat.or_lt_two_pow (n := 64) (limb_lt x q) hs

theorem numA_plus {x b k q r : Nat} (hb : b < 256) (hq : q < 4) (hr : r < 8) (hk : 8 * q + r = k) (hx : x % 256 ^ (k + 1) = 0) :
    (numA x).take q ++ .v (.int .u64 ((limb x q + b * 2 ^ (8 * r) : Nat) : Int)) :: (numA x).drop (q + 1) = numA (x + b * 256 ^ k) := by
  obtain ⟨h1, h2, _⟩ := limb_plus hb hr hk hx
  have := numA_put (x := x) hb hq hr hk
  rw [h1, h2] at this
  exact this

theorem be_take_step {p : List UInt8} {i : Nat} (h : i < p.length) : be (p.take (i + 1)) * 256 ^ (p.length - (i + 1)) = be (p.take i) * 256 ^ (p.length - i) + p[i].toNat * 256 ^ (p.length - 1 - i) := by
  rw [take_snoc h, be_snoc, Nat.add_mul, show p.length - i = (p.length - (i + 1)) + 1 by omega, Nat.pow_succ, show p.length - 1 - i = p.length - (i + 1) by omega, Nat.mul_assoc, Nat.mul_comm 256]

theorem num_long {p : List UInt8} (h : 32 < p.length) : numOk p = false := by simp [numOk]; intro; omega
theorem num_zero {p : List UInt8} (h : 0 < p.length) (h0 : p[0].toNat = 0) : numOk p = false := by
  cases p with
  | nil => simp at h
  | cons b l =>
    have : b = 0 := UInt8.toNat_inj.1 h0
    simp [numOk, this]
theorem num_fine {p : List UInt8} (hl : p.length ≤ 32) (h : 0 < p.length) (h0 : ¬ p[0].toNat = 0) : numOk p = true := by
  cases p with
  | nil => simp at h
  | cons b l =>
    have : ¬ b = 0 := fun e => h0 (by simp [e])
    simp [numOk, this]
    simpa using hl

set_option maxHeartbeats 1600000 in
attribute [local simp] undefA List.getElem?_cons_zero List.getElem?_cons_succ in
theorem rread_ok {σ : St} {p : List UInt8} {tl : Tail} (hl : p.length ≤ 1000000) :
    CallsA Try.prog 137 [.sl 1 (bytesA p) p.length tl] σ (fun av σ' => av = .tup [.agg (numA (numOf p)), .v (.bool (numOk p))] ∧ σ = σ') := by
  refine callsA_gcS ?_ rfl
  have F := True.intro
  refine callsA_body Try.func137 rfl rfl rfl ?_; refine sr fun _ hJ2 => ?_; refine hJ2 _ _ ?_; refine sq fun K3 hK3 => ?_; refine sr fun _ hJ5 => ?_; refine gs 10 (fun g1_3 => ?_) (fun g1_3 => ?_)
  · try exact nope g1_3
    all_goals
     replace F := wf F g1_3; (iterate 9 refine no2 (k := ?_)); refine hJ5 _ _ ?_; refine ct ?_; refine sr fun _ hJ7 => ?_; refine hJ7 _ _ ?_; refine run_ret ?_; (try simp only [Then, InBlock, NoGoto]); refine answer_cell_tmp rfl (.inr rfl) ?_
     have e : numOk p = false := num_long (by omega)
     simp [F]
     simp only [numOf, e]
     rw [← numA_zero]
     exact Wk.refl _
  try exact nope g1_3
  all_goals
   replace F := wf F g1_3; (iterate 4 refine go2 (k := ?_)); refine gs 14 (fun g1_7 => ?_) (fun g1_7 => ?_)
   · try exact nope g1_7
     all_goals
      replace F := wf F g1_7; (iterate 5 refine go2 (k := ?_)); refine hJ5 _ _ ?_; refine cs (fun c20 => ?_) (fun c20 => ?_)
      · try exact nope c20
        all_goals
         replace F := wf F c20; refine sr fun _ hJ9 => ?_; refine hJ9 _ _ ?_; refine run_ret ?_; (try simp only [Then, InBlock, NoGoto]); refine answer_cell_tmp rfl (.inr rfl) ?_
         have e : numOk p = false := num_zero (by omega) (by simp [F])
         simp [F]
         simp only [numOf, e]
         rw [← numA_zero]
         exact Wk.refl _
      try exact nope c20
      all_goals
       replace F := wf F c20
       have h : p.length ≤ 32 := by omega
       refine run_skip ?_; refine hK3 _ _ ?_; refine sr fun _ hJ11 => ?_; refine hJ11 _ _ ?_; refine sq fun K12 hK12 => ?_; refine sr fun _ hJ14 => ?_; refine hJ14 _ _ ?_; refine run_block_k ?_; refine run_loopF (X := Nat) [0, 2, 3, 4] (fun i ρ σ1 => (i ≤ p.length) ∧ (ρ 5 = .v (.int .i64 i)) ∧ (σ1 = { σ with objs := σ.objs ++ [numA 0, numA (be (p.take i) * 256 ^ (p.length - i))] })) (fun i => p.length - i) (0) ?st1 ?rd1
       case st1 =>
        refine ⟨lp, lp, ?_⟩
        · simp [numA_zero]
       case rd1 =>
        rintro i ρ1 σ1 hF1 ⟨hi, h5, hσ⟩; obtain rfl := hσ.symm
        have f1 := keepL hF1
        (try simp [KeepL, F] at f1); replace F := aF h5 F; (try replace F := aF f1 F); refine sq fun K15 hK15 => ?_; refine sr fun _ hJ17 => ?_; refine hJ17 _ _ ?_; refine cs (fun c25 => ?_) (fun c25 => ?_)
        · (try exact nope c25); all_goals have c25p := c25; try simp [F] at c25p
          all_goals
           replace F := aF c25 F; (try replace F := aF c25p F); refine run_skip ?_; refine hK15 _ _ ?_; refine sq fun K18 hK18 => ?_; refine run_block_k ?_; refine sq fun K19 hK19 => ?_
           obtain ⟨k, hk⟩ : ∃ k, k = p.length - 1 - i := ⟨_, rfl⟩
           have hk2 : k < 32 := by omega
           have hw : IntKind.i64.wrap (IntKind.i64.wrap ((p.length : Int) - 1) - i) = (k : Int) := by rw [wrap_i64 ((p.length : Int) - 1) (by omega) (by omega), wrap_i64 _ (by omega) (by omega)]; omega
           obtain ⟨q, hq⟩ : ∃ q, q = k / 8 := ⟨_, rfl⟩
           obtain ⟨r, hr⟩ : ∃ r, r = k % 8 := ⟨_, rfl⟩
           have hqr : 8 * q + r = k := by omega
           have hq4 : q < 4 := by omega
           have hr8 : r < 8 := by omega
           have hb := p[i].toNat_lt
           have hqq : IntKind.i64.wrap ((k : Int).tdiv 8) = (q : Int) := by rw [Int.tdiv_eq_ediv_of_nonneg (by omega), wrap_i64 _ (by omega) (by omega)]; omega
           have hrr : (k : Int).tmod 8 = (r : Int) := by rw [Int.tmod_eq_emod_of_nonneg (by omega)]; omega
           have hm8 : IntKind.i64.wrap (8 * (r : Int)) = 8 * (r : Int) := wrap_i64 _ (by omega) (by omega)
           have hq2 : IntKind.i64.wrap ((k : Int) / 8) = (q : Int) := by rw [wrap_i64 _ (by omega) (by omega)]; omega
           have hr2 : (k : Int) % 8 = (r : Int) := by omega
           have hnn : ¬ 8 * (r : Int) < 0 := by omega
           have hsl : p[i].toNat * 2 ^ (8 * r) < 18446744073709551616 := by have := shl_byte hb hr8; rwa [Nat.shiftLeft_eq] at this
           have hsh : IntKind.u64.wrap ((p[i].toNat : Int) * 2 ^ (min (8 * (r : Int)).toNat 64)) = ((p[i].toNat * 2 ^ (8 * r) : Nat) : Int) := by rw [show min (8 * (r : Int)).toNat 64 = 8 * r by omega, show ((p[i].toNat : Int) * 2 ^ (8 * r)) = ((p[i].toNat * 2 ^ (8 * r) : Nat) : Int) by simp, wrap_u64, Nat.mod_eq_of_lt hsl]
           have hx : (be (p.take i) * 256 ^ (p.length - i)) % 256 ^ (k + 1) = 0 := by rw [show p.length - i = k + 1 by omega, Nat.mul_mod_left]
           have hstep := be_take_step c25p
           rw [← hk] at hstep
           generalize be (p.take i) * 256 ^ (p.length - i) = x at *
           have hpl := numA_plus hb hq4 hr8 hqr hx
           obtain ⟨_, _, hlp⟩ := limb_plus hb hr8 hqr hx
           have hget := numA_get x hq4
           have hq5 : (q : Int) < 4 := by omega
           have hq6 : q + 1 ≤ 4 := hq4
           generalize p[i].toNat * 2 ^ (8 * r) = s at *
           have hws : IntKind.u64.wrap ((limb x q : Int) + s) = ((limb x q + s : Nat) : Int) := by rw [← Int.natCast_add, wrap_u64, Nat.mod_eq_of_lt hlp]
           replace F := aF hw F; replace F := aF hqq F; replace F := aF hrr F; replace F := aF hq2 F; replace F := aF hr2 F; replace F := aF hm8 F; replace F := aF hnn F; replace F := aF hsh F; replace F := aF hget F; replace F := aF hq4 F; replace F := aF hq5 F; replace F := aF hq6 F; replace F := aF hws F; refine rg' (h := fun J20 hJ20 => ?_); refine hJ20 _ _ ?_; refine hK19 _ _ ?_
           refine run_draw (by kernel_rfl) fun J21 hJ21 => ?_
           refine rp2 0 (k := ?_); refine rp2 1 (k := ?_); refine rp2 2 (k := ?_); refine rp2 3 (k := ?_); refine rp2 4 (k := ?_); refine rp2 5 (k := ?_); refine rp2 6 (k := ?_); refine rp2 7 (k := ?_); refine rp2 8 (k := ?_); refine rp2 9 (k := ?_); refine rp2 10 (k := ?_); refine rp2 11 (k := ?_); refine rp2 12 (k := ?_); refine rp2 13 (k := ?_); refine rp2 14 (k := ?_); refine dop 15 rfl ?_; (repeat (first | simp [F] | simp (disch := omega) only [wC, if_pos, if_neg])); refine ⟨ln, ?_⟩; refine dd ?_; refine hJ21 _ _ ?_; refine hK18 _ _ ?_; refine rg' (h := fun J22 hJ22 => ?_); refine hJ22 _ _ ?_; refine ⟨(i + 1), ⟨kp, lp, lp, ?_⟩, lp⟩
           · simp only [Int.natCast_add] at hpl
             rw [hpl, hstep]
        (try exact nope c25); all_goals have c25p := c25; try simp [F] at c25p
        all_goals
         replace F := aF c25 F; (try replace F := aF c25p F); refine run_exit ?_; refine hK12 _ _ ?_; refine sr fun _ hJ24 => ?_; refine hJ24 _ _ ?_; refine run_ret ?_; (try simp only [Then, InBlock, NoGoto]); refine answer_cell_tmp rfl (.inr rfl) ?_
         have e : numOk p = true := num_fine (by omega) (by omega) (by simp [F])
         simp [F]
         simp only [numOf, e, if_true]
         rw [List.take_of_length_le (by omega)]
         exact Wk.refl _
   try exact nope g1_7
   all_goals
    replace F := wf F g1_7; (iterate 4 refine no2 (k := ?_)); refine go2 (k := ?_); refine hJ5 _ _ ?_; refine cf ?_; refine run_skip ?_; refine hK3 _ _ ?_; refine sr fun _ hJ26 => ?_; refine hJ26 _ _ ?_; refine sq fun K27 hK27 => ?_; refine sr fun _ hJ29 => ?_; refine hJ29 _ _ ?_; refine run_block_k ?_; refine run_loopF (X := Nat) [0, 2, 3, 4] (fun i ρ σ1 => (i ≤ p.length) ∧ (ρ 5 = .v (.int .i64 i)) ∧ (σ1 = { σ with objs := σ.objs ++ [numA 0, numA (be (p.take i) * 256 ^ (p.length - i))] })) (fun i => p.length - i) (0) ?st1 ?rd1
    case st1 =>
     refine ⟨lp, lp, ?_⟩
     · simp [numA_zero]
    case rd1 =>
     rintro i ρ1 σ1 hF1 ⟨hi, h5, hσ⟩; obtain rfl := hσ.symm
     have f1 := keepL hF1
     (try simp [KeepL, F] at f1); replace F := aF h5 F; (try replace F := aF f1 F); refine sq fun K30 hK30 => ?_; refine sr fun _ hJ32 => ?_; refine hJ32 _ _ ?_; refine cs (fun c25 => ?_) (fun c25 => ?_)
     · (try exact nope c25); all_goals have c25p := c25; try simp [F] at c25p
       all_goals
        replace F := aF c25 F; (try replace F := aF c25p F); refine run_skip ?_; refine hK30 _ _ ?_; refine sq fun K33 hK33 => ?_; refine run_block_k ?_; refine sq fun K34 hK34 => ?_
        obtain ⟨k, hk⟩ : ∃ k, k = p.length - 1 - i := ⟨_, rfl⟩
        have hk2 : k < 32 := by omega
        have hw : IntKind.i64.wrap (IntKind.i64.wrap ((p.length : Int) - 1) - i) = (k : Int) := by rw [wrap_i64 ((p.length : Int) - 1) (by omega) (by omega), wrap_i64 _ (by omega) (by omega)]; omega
        obtain ⟨q, hq⟩ : ∃ q, q = k / 8 := ⟨_, rfl⟩
        obtain ⟨r, hr⟩ : ∃ r, r = k % 8 := ⟨_, rfl⟩
        have hqr : 8 * q + r = k := by omega
        have hq4 : q < 4 := by omega
        have hr8 : r < 8 := by omega
        have hb := p[i].toNat_lt
        have hqq : IntKind.i64.wrap ((k : Int).tdiv 8) = (q : Int) := by rw [Int.tdiv_eq_ediv_of_nonneg (by omega), wrap_i64 _ (by omega) (by omega)]; omega
        have hrr : (k : Int).tmod 8 = (r : Int) := by rw [Int.tmod_eq_emod_of_nonneg (by omega)]; omega
        have hm8 : IntKind.i64.wrap (8 * (r : Int)) = 8 * (r : Int) := wrap_i64 _ (by omega) (by omega)
        have hq2 : IntKind.i64.wrap ((k : Int) / 8) = (q : Int) := by rw [wrap_i64 _ (by omega) (by omega)]; omega
        have hr2 : (k : Int) % 8 = (r : Int) := by omega
        have hnn : ¬ 8 * (r : Int) < 0 := by omega
        have hsl : p[i].toNat * 2 ^ (8 * r) < 18446744073709551616 := by have := shl_byte hb hr8; rwa [Nat.shiftLeft_eq] at this
        have hsh : IntKind.u64.wrap ((p[i].toNat : Int) * 2 ^ (min (8 * (r : Int)).toNat 64)) = ((p[i].toNat * 2 ^ (8 * r) : Nat) : Int) := by rw [show min (8 * (r : Int)).toNat 64 = 8 * r by omega, show ((p[i].toNat : Int) * 2 ^ (8 * r)) = ((p[i].toNat * 2 ^ (8 * r) : Nat) : Int) by simp, wrap_u64, Nat.mod_eq_of_lt hsl]
        have hx : (be (p.take i) * 256 ^ (p.length - i)) % 256 ^ (k + 1) = 0 := by rw [show p.length - i = k + 1 by omega, Nat.mul_mod_left]
        have hstep := be_take_step c25p
        rw [← hk] at hstep
        generalize be (p.take i) * 256 ^ (p.length - i) = x at *
        have hpl := numA_plus hb hq4 hr8 hqr hx
        obtain ⟨_, _, hlp⟩ := limb_plus hb hr8 hqr hx
        have hget := numA_get x hq4
        have hq5 : (q : Int) < 4 := by omega
        have hq6 : q + 1 ≤ 4 := hq4
        generalize p[i].toNat * 2 ^ (8 * r) = s at *
        have hws : IntKind.u64.wrap ((limb x q : Int) + s) = ((limb x q + s : Nat) : Int) := by rw [← Int.natCast_add, wrap_u64, Nat.mod_eq_of_lt hlp]
        replace F := aF hw F; replace F := aF hqq F; replace F := aF hrr F; replace F := aF hq2 F; replace F := aF hr2 F; replace F := aF hm8 F; replace F := aF hnn F; replace F := aF hsh F; replace F := aF hget F; replace F := aF hq4 F; replace F := aF hq5 F; replace F := aF hq6 F; replace F := aF hws F; refine rg' (h := fun J35 hJ35 => ?_); refine hJ35 _ _ ?_; refine hK34 _ _ ?_
        refine run_draw (by kernel_rfl) fun J36 hJ36 => ?_
        refine rp2 0 (k := ?_); refine rp2 1 (k := ?_); refine rp2 2 (k := ?_); refine rp2 3 (k := ?_); refine rp2 4 (k := ?_); refine rp2 5 (k := ?_); refine rp2 6 (k := ?_); refine rp2 7 (k := ?_); refine rp2 8 (k := ?_); refine rp2 9 (k := ?_); refine rp2 10 (k := ?_); refine rp2 11 (k := ?_); refine rp2 12 (k := ?_); refine rp2 13 (k := ?_); refine rp2 14 (k := ?_); refine dop 15 rfl ?_; (repeat (first | simp [F] | simp (disch := omega) only [wC, if_pos, if_neg])); refine ⟨ln, ?_⟩; refine dd ?_; refine hJ36 _ _ ?_; refine hK33 _ _ ?_; refine rg' (h := fun J37 hJ37 => ?_); refine hJ37 _ _ ?_; refine ⟨(i + 1), ⟨kp, lp, lp, ?_⟩, lp⟩
        · simp only [Int.natCast_add] at hpl
          rw [hpl, hstep]
     (try exact nope c25); all_goals have c25p := c25; try simp [F] at c25p
     all_goals
      replace F := aF c25 F; (try replace F := aF c25p F); refine run_exit ?_; refine hK27 _ _ ?_; refine sr fun _ hJ39 => ?_; refine hJ39 _ _ ?_; refine run_ret ?_; (try simp only [Then, InBlock, NoGoto]); refine answer_cell_tmp rfl (.inr rfl) ?_; simp [F]
      exact Wk.refl _

theorem rread_at {σ : St} {p : List UInt8} {n : Nat} {tl : Tail} (h : p.length = n) (hl : p.length ≤ 1000000) :
    CallsA Try.prog 137 [.sl 1 (bytesA p) n tl] σ (fun av σ' => av = .tup [.agg (numA (numOf p)), .v (.bool (numOk p))] ∧ σ = σ') := by
  subst h; exact rread_ok hl

theorem callsA_gcI {σ : St} {P : Program} {f : FuncId} {args : List AV} {A : AV} {ι : Type} {Pi : ι → Prop} {x : ι → List AV} {id : Nat} (k : CallsA P f args σ (fun av σ' => ∃ i, Pi i ∧ Wk av A ∧ ∃ l m r, σ' = { σ with objs := σ.objs.set id (x i) ++ l, toks := σ.toks ++ m, rows := σ.rows ++ r }))
    (hA : A.under σ.bd = true) (hx : ∀ i, underL σ.bd (x i) = true) : CallsA P f args σ (fun av σ' => av = A ∧ ∃ i, Pi i ∧ σ' = { σ with objs := σ.objs.set id (x i) }) := by
  refine callsA_gc k (fun av σ0 ⟨i, hi, hw, l, m, r, h⟩ => ?_)
  subst h
  refine ⟨A, hw, hA, by simp, by simp, by simp, rfl, fun id' cs hid hc => ?_, fun j r0 hj hr => ?_, rfl, i, hi, ?_⟩
  · simp only at hc
    rw [List.getElem?_append_left (by simpa using hid)] at hc
    by_cases e : id = id'
    · subst e
      rw [List.getElem?_set_self hid] at hc
      cases hc; exact .inr (hx i)
    · rw [List.getElem?_set_ne e] at hc; exact .inl hc
  · simp only at hr
    rw [List.getElem?_append_left hj] at hr
    exact .inl ⟨r0, hr, rfl⟩
  · simp [St.trim]

theorem inC_under (B : Bd) (p : List UInt8) (k : Nat) (b : Bool) : underL B (inC p .shut k b) = true := by simp [inC, underL, AV.under]

theorem takeB_yes {p : List UInt8} {k n : Nat} (h : k + n ≤ p.length) : takeB n (some (p.drop k)) = (p.drop k).take n := by
  have h1 : n ≤ (p.drop k).length := by simp; omega
  show (if n ≤ (p.drop k).length then (p.drop k).take n else []) = _
  rw [if_pos h1]

set_option maxHeartbeats 1600000 in
attribute [local simp] undefA List.getElem?_cons_zero List.getElem?_cons_succ in
theorem inNum_ok {σ : St} {id k : Nat} {p : List UInt8} {s : Option (List UInt8)} (h : σ.objs[id]? = some (inC p .shut k s.isNone)) (hp : p.length ≤ 1000000) (hk : At p k s) :
    CallsA Try.prog 111 [.ptr id 0] σ (fun av σ' => av = .agg (numA (numOf (numB s))) ∧ ∃ k', At p k' (numS s) ∧ σ' = { σ with objs := σ.objs.set id (inC p .shut k' (numS s).isNone) }) := by
  refine callsA_gcI (x := fun k' => inC p .shut k' (numS s).isNone) ?_ rfl (fun _ => inC_under _ _ _ _)
  have hs := set_self_of h
  have hlt := lt_of_get h
  have hm := be_lt1 (takeB_len 1 s)
  have hw : IntKind.i64.wrap ((be (takeB 1 s) : Nat) : Int) = (be (takeB 1 s) : Nat) := wrap_i64 _ (by omega) (by omega)
  have ho1 : ∀ r, (σ.objs ++ r)[id]? = some (inC p .shut k s.isNone) := fun r => by rw [List.getElem?_append_left hlt]; exact h
  have ho2 : ∀ x r, (σ.objs.set id x ++ r)[id]? = some x := fun x r => by rw [List.getElem?_append_left (by simpa using hlt)]; exact hs x
  have ho3 : ∀ x r, (σ.objs ++ r).set id x = σ.objs.set id x ++ r := fun x r => List.set_append_left _ _ hlt
  have ho4 : ∀ x y r, (σ.objs.set id y ++ r).set id x = σ.objs.set id x ++ r := fun x y r => by rw [List.set_append_left _ _ (by simpa using hlt), List.set_set]
  have F := And.intro h (And.intro hs (And.intro hw (And.intro ho1 (And.intro ho2 (And.intro ho3 (And.intro ho4 (True.intro)))))))
  refine callsA_body Try.func111 rfl rfl rfl ?_; refine sr fun _ hJ2 => ?_; refine hJ2 _ _ ?_; refine sr fun _ hJ4 => ?_; refine ca (c := inByte_ok (ho1 _) hp hk) (k := ?_); rintro _ _ ⟨rfl, k1, hk1, rfl⟩; (repeat (first | simp [F] | simp (disch := omega) only [wC, if_pos, if_neg])); refine hJ4 _ _ ?_; refine sq fun K5 hK5 => ?_; refine sq fun K6 hK6 => ?_
  have hk1' : k1 ≤ p.length := hk1.1
  have hw2 : IntKind.i64.wrap ((p.length : Int) - k1) = ((p.length - k1 : Nat) : Int) := by rw [wrap_i64 _ (by omega) (by omega)]; omega
  replace F := aF hw2 F
  refine run_draw (by kernel_rfl) fun J7 hJ7 => ?_
  refine rp2 0 (k := ?_); refine rp2 1 (k := ?_); refine rp2 2 (k := ?_); refine rp2 3 (k := ?_); refine rp2 4 (k := ?_); refine gd 13 (fun g2_4 => ?_) (fun g2_4 => ?_)
  · (try exact nope g2_4); all_goals have g2_4p := g2_4; try simp [F] at g2_4p
    all_goals
     replace F := aF g2_4 F; (try replace F := aF g2_4p F); refine rp2 5 (k := ?_); refine rp2 6 (k := ?_); refine rp2 7 (k := ?_); refine rp2 8 (k := ?_); refine rp2 9 (k := ?_); refine rp2 10 (k := ?_); refine rp2 11 (k := ?_); refine rp2 12 (k := ?_); refine rp2 13 (k := ?_); refine rp2 14 (k := ?_); refine rp2 15 (k := ?_); refine rp2 16 (k := ?_); refine rp2 17 (k := ?_); refine dd ?_; refine hJ7 _ _ ?_; refine hK6 _ _ ?_; refine ct ?_; refine sr fun _ hJ9 => ?_; refine hJ9 _ _ ?_; refine sr fun _ hJ11 => ?_; refine hJ11 _ _ ?_; refine run_ret ?_; (try simp only [Then, InBlock, NoGoto]); refine answer_cell rfl (.inr rfl) ?_
     have h0 : takeS 1 s = none := g2_4p
     have e1 : numB s = [] := (by simp [numB, h0, takeB])
     have e2 : numS s = none := (by rw [numS, h0]; simp [takeS])
     simp [F]
     refine ⟨k1, ⟨hk1.1, .inl e2⟩, ?_⟩
     rw [e1, e2]
     exact ⟨Wk.refl _, _, rfl⟩
  (try exact nope g2_4); all_goals have g2_4p := g2_4; try simp [F] at g2_4p
  all_goals
   replace F := aF g2_4 F; (try replace F := aF g2_4p F); refine rp2 5 (k := ?_); refine rp2 6 (k := ?_); refine rp2 7 (k := ?_); refine rp2 8 (k := ?_); refine rp2 9 (k := ?_); refine rp2 10 (k := ?_); refine rp2 11 (k := ?_); refine rp2 12 (k := ?_); refine rp2 13 (k := ?_); refine rp2 14 (k := ?_); refine rp2 15 (k := ?_); refine rp2 16 (k := ?_); refine rp2 17 (k := ?_); refine dd ?_; refine hJ7 _ _ ?_; refine hK6 _ _ ?_; refine cs (fun c26 => ?_) (fun c26 => ?_)
   · try exact nope c26
     all_goals
      replace F := wf F c26; refine sr fun _ hJ13 => ?_; refine hJ13 _ _ ?_; refine sr fun _ hJ15 => ?_; refine hJ15 _ _ ?_; refine run_ret ?_; (try simp only [Then, InBlock, NoGoto]); refine answer_cell rfl (.inr rfl) ?_
      have h0 : takeS 1 s = some (p.drop k1) := hk1.2.resolve_left (by intro e; simp [e] at g2_4p)
      have e1 : numB s = [] := (by rw [numB, h0]; exact takeB_no hk1' (by omega))
      have e2 : numS s = none := (by rw [numS, e1, h0]; exact takeS_no hk1' (by omega))
      simp [F]
      refine ⟨k1, ⟨hk1.1, .inl e2⟩, ?_⟩
      rw [e1, e2]
      exact ⟨Wk.refl _, _, rfl⟩
   try exact nope c26
   all_goals
    replace F := wf F c26; refine run_skip ?_; refine hK5 _ _ ?_; refine sq fun K16 hK16 => ?_
    have hn1 : ((k1 : Int) + (be (takeB 1 s) : Nat)).toNat - k1 = be (takeB 1 s) := by omega
    replace F := aF hn1 F; replace F := aF bytesA_drop F; replace F := aF bytesA_take F
    refine run_draw (by kernel_rfl) fun J17 hJ17 => ?_
    refine rp2 0 (k := ?_); refine rp2 1 (k := ?_); refine rp2 2 (k := ?_); refine rp2 3 (k := ?_); refine rp2 4 (k := ?_); refine rp2 5 (k := ?_); refine rp2 6 (k := ?_); refine rp2 7 (k := ?_); refine rp2 8 (k := ?_); refine rp2 9 (k := ?_); refine rp2 10 (k := ?_); refine rp2 11 (k := ?_); refine rp2 12 (k := ?_); refine rp2 13 (k := ?_); refine rp2 14 (k := ?_); refine d2 15 19 ?_ ?_
    · refine ac 15 rfl (c := rread_at (p := (p.drop k1).take (be (takeB 1 s))) (n := be (takeB 1 s)) (tl := .shut) (by simp; omega) (by simp; omega)) (k := ?_)
      rintro _ _ ⟨rfl, rfl⟩
      refine ⟨by first | exact fun _ _ h => h | (refine later_list [13, 12, 11, 10, 9, 8, 7, 6, 5, 4, 3, 2, 1, 0] (by kernel_rfl) (fc2 ?_ <| fc2 ?_ <| fc2 ?_ <| fc2 ?_ <| fc2 ?_ <| fc2 ?_ <| fc2 ?_ <| fc2 ?_ <| fc2 ?_ <| fc2 ?_ <| fc2 ?_ <| fc2 ?_ <| fc2 ?_ <| fc2 ?_ <| fn0) <;> constructor <;> first | rfl | (simp [F]; done)), ?_⟩
      (repeat (first | simp [F] | simp (disch := omega) only [wC, if_pos, if_neg])); refine rp2 16 (k := ?_); refine rp2 17 (k := ?_); refine rp2 18 (k := ?_); refine dop 19 rfl ?_; repeat (first | simp [F] | simp (disch := omega) only [wC, if_pos, if_neg])
      refine ⟨by first | exact later_more _ (by kernel_rfl) | exact later_more2 (by kernel_rfl) rfl, ?_⟩
      refine dop 20 rfl ?_; repeat (first | simp [F] | simp (disch := omega) only [wC, if_pos, if_neg])
      refine ⟨later_tmp (by kernel_rfl), ?_⟩
      refine rp2 21 (k := ?_); refine dd ?_; refine hJ17 _ _ ?_; refine hK16 _ _ ?_; refine sr fun _ hJ19 => ?_; refine hJ19 _ _ ?_; refine sr fun _ hJ21 => ?_; refine hJ21 _ _ ?_; refine sr fun _ hJ23 => ?_; refine hJ23 _ _ ?_; refine run_ret ?_; (try simp only [Then, InBlock, NoGoto]); refine answer_cell rfl (.inr rfl) ?_
      have h0 : takeS 1 s = some (p.drop k1) := hk1.2.resolve_left (by intro e; simp [e] at g2_4p)
      have e1 : numB s = (p.drop k1).take (be (takeB 1 s)) := (by rw [numB, h0]; exact takeB_yes (by omega))
      have e2 : numS s = if numOk (numB s) then some (p.drop (k1 + be (takeB 1 s))) else none := (by rw [numS, h0, takeS_some (by omega)])
      rw [← e1]
      simp [F]
      refine ⟨k1 + be (takeB 1 s), ⟨by omega, ?_⟩, Wk.refl _, ?_⟩
      · rw [e2]; cases numOk (numB s) <;> simp
      · rw [e2]; cases numOk (numB s) <;> simp
    · refine ao 19 rfl ?_; repeat (first | simp [F] | simp (disch := omega) only [wC, if_pos, if_neg])
      refine ⟨by first | exact later_more _ (by kernel_rfl) | exact later_more2 (by kernel_rfl) rfl, ?_⟩
      refine dc 15 rfl (c := rread_at (p := (p.drop k1).take (be (takeB 1 s))) (n := be (takeB 1 s)) (tl := .shut) (by simp; omega) (by simp; omega)) (k := ?_)
      rintro _ _ ⟨rfl, rfl⟩
      refine ⟨by first | exact fun _ _ h => h | (refine later_list [13, 12, 11, 10, 9, 8, 7, 6, 5, 4, 3, 2, 1, 0] (by kernel_rfl) (fc2 ?_ <| fc2 ?_ <| fc2 ?_ <| fc2 ?_ <| fc2 ?_ <| fc2 ?_ <| fc2 ?_ <| fc2 ?_ <| fc2 ?_ <| fc2 ?_ <| fc2 ?_ <| fc2 ?_ <| fc2 ?_ <| fc2 ?_ <| fn0) <;> constructor <;> first | rfl | (simp [F]; done)), ?_⟩
      (repeat (first | simp [F] | simp (disch := omega) only [wC, if_pos, if_neg])); refine rp2 16 (k := ?_); refine rp2 17 (k := ?_); refine rp2 18 (k := ?_); refine dop 20 rfl ?_; repeat (first | simp [F] | simp (disch := omega) only [wC, if_pos, if_neg])
      refine ⟨later_tmp (by kernel_rfl), ?_⟩
      refine rp2 21 (k := ?_); refine dd ?_; refine hJ17 _ _ ?_; refine hK16 _ _ ?_; refine sr fun _ hJ25 => ?_; refine hJ25 _ _ ?_; refine sr fun _ hJ27 => ?_; refine hJ27 _ _ ?_; refine sr fun _ hJ29 => ?_; refine hJ29 _ _ ?_; refine run_ret ?_; (try simp only [Then, InBlock, NoGoto]); refine answer_cell rfl (.inr rfl) ?_
      have h0 : takeS 1 s = some (p.drop k1) := hk1.2.resolve_left (by intro e; simp [e] at g2_4p)
      have e1 : numB s = (p.drop k1).take (be (takeB 1 s)) := (by rw [numB, h0]; exact takeB_yes (by omega))
      have e2 : numS s = if numOk (numB s) then some (p.drop (k1 + be (takeB 1 s))) else none := (by rw [numS, h0, takeS_some (by omega)])
      rw [← e1]
      simp [F]
      refine ⟨k1 + be (takeB 1 s), ⟨by omega, ?_⟩, Wk.refl _, ?_⟩
      · rw [e2]; cases numOk (numB s) <;> simp
      · rw [e2]; cases numOk (numB s) <;> simp
end Go.Proofs.Ytdbaddholggkbaa

/-
  Lists of coins: what both readers make of a list's bytes.
-/
namespace Go.Proofs.Ytdbaddholggkbaa
set_option linter.unnecessarySimpa false
open Go Go.Vm
set_option linter.unusedSimpArgs false
set_option linter.unusedVariables false
set_option maxRecDepth 100000
attribute [local simp] evalL wantedA isCall opA evalA evalAll evalsA evalOpt ofValue ofCell plain binA_eql_pn binA_neq_pn binA_gtr binA_lss binA_geq binA_leq binA_add binA_sub binA_eql binA_neq binA_or binA_shl binA_shr binA_mul binA_quo binA_rem binA_agg_eql binA_agg_neq convA_int unA_not fieldAddrA loadA partA pickA_true pickA_false pickA_bb lenA builtinA storeA splice AV.cells AV.isCell sliceA boundA intA callOf indexAddrA newObjA buildA fillA zeroA ofCells indexA fieldA coinsC_at

def byteS (s : Option (List UInt8)) : UInt8 := (takeB 1 s).headD 0
theorem be_byteS (s : Option (List UInt8)) : be (takeB 1 s) = (byteS s).toNat := by
  have h := takeB_len 1 s
  unfold byteS
  match takeB 1 s, h with
  | [], _ => rfl
  | [b], _ => simp [be]
  | _ :: _ :: _, h => simp at h

theorem numOf_lt (p : List UInt8) : numOf p < 2 ^ 256 := by
  unfold numOf
  split
  · rename_i h
    simp only [numOk, Bool.and_eq_true, decide_eq_true_eq] at h
    exact Nat.lt_of_lt_of_le (be_lt p) (Nat.le_trans (Nat.pow_le_pow_right (by omega) h.1) (by decide))
  · decide

def numN (s : Option (List UInt8)) : Num := ⟨numOf (numB s), numOf_lt _⟩
def coinS (s : Option (List UInt8)) : Coin := ⟨byteS s, numN (takeS 1 s)⟩

def coinsGo : Nat → Option (List UInt8) → List Coin → List Coin × Option (List UInt8)
  | 0, s, l => (l, s)
  | _ + 1, none, l => (l, none)
  | m + 1, some p, l => coinsGo m (numS (takeS 1 (some p))) (l ++ [coinS (some p)])

theorem coinsGo_more {m : Nat} {s : Option (List UInt8)} {l : List Coin} (hm : 0 < m) (hs : ¬ s = none) : coinsGo m s l = coinsGo (m - 1) (numS (takeS 1 s)) (l ++ [coinS s]) := by
  match m, s, hm, hs with
  | m + 1, some p, _, _ => rfl
theorem coinsGo_stop {m : Nat} {s : Option (List UInt8)} {l : List Coin} (h : m = 0 ∨ s = none) : coinsGo m s l = (l, s) := by
  match m, s, h with
  | 0, _, _ => rfl
  | m + 1, none, _ => rfl

def coinsR (s : Option (List UInt8)) : List Coin × Option (List UInt8) := coinsGo (be (takeB 1 s)) (takeS 1 s) []
def coinsS (s : Option (List UInt8)) : Option (List UInt8) := if Right (coinsR s).1 then (coinsR s).2 else none
def coinsL (s : Option (List UInt8)) : List Coin := if coinsS s = none then [] else (coinsR s).1

def slA (k : Nat) (l : List Coin) : AV := if l = [] then .sl 0 [] 0 .full else .sl 5 (coinsC l) l.length (.own k)
def tkA (l : List Coin) : List Nat := if l = [] then [] else [l.length]

theorem wk_slA (k : Nat) (l : List Coin) : Wk (slA k l) (.sl 5 (coinsC l) l.length .shut) := by
  unfold slA
  split
  · rename_i h; subst h; exact Wk.nil _ _ _
  · exact Wk.shut _ _ _ _

@[simp] theorem slA_nil (k : Nat) : slA k [] = .sl 0 [] 0 .full := rfl
@[simp] theorem tkA_nil : tkA [] = [] := rfl

theorem right_slA {σ : St} {k : Nat} {l : List Coin} (hl : l.length ≤ 1000000) : CallsA Try.prog 97 [slA k l] σ (fun av σ' => av = .v (.bool (decide (Right l))) ∧ σ = σ') :=
  callsA_wk (.cons (wk_slA k l) .nil) (right_ok (by omega))
theorem rright_slA {σ : St} {k : Nat} {l : List Coin} (hl : l.length ≤ 1000000) : CallsA Try.prog 29 [slA k l] σ (fun av σ' => av = .v (.bool (decide (Right l))) ∧ σ = σ') :=
  callsA_wk (.cons (wk_slA k l) .nil) (rright_ok (by omega))

theorem right_nilA {σ : St} : CallsA Try.prog 97 [.sl 0 [] 0 .full] σ (fun av σ' => av = .v (.bool true) ∧ σ = σ') := by
  have := right_slA (σ := σ) (k := 0) (l := []) (by simp)
  have e : decide (Right []) = true := by decide
  rw [e] at this
  exact this
theorem coinS_cells (s : Option (List UInt8)) : AV.v (.int .u8 (be (takeB 1 s) : Nat)) :: numA (numOf (numB (takeS 1 s))) = coinC (coinS s) := by
  rw [be_byteS]; rfl
theorem build_coin (c : Coin) : buildSliceA Try.prog 23 1 [(0, .agg (coinC c))] = some (.sl 5 (coinC c) 1 .full) := by kernel_rfl
class Small (l : List Coin) : Prop where
  h : l.length ≤ 1000

theorem append_slA {l : List Coin} [hsm : Small l] {c : Coin} {objs : List (List AV)} {tk : List Nat} {gl : Nat → Option (List AV)} {rows : List RowSt} :
    appendA Try.prog 23 (slA tk.length l) (.sl 5 (coinC c) 1 .full) ⟨objs, tk ++ tkA l, gl, rows⟩ = some (slA tk.length (l ++ [c]), ⟨objs, tk ++ tkA (l ++ [c]), gl, rows⟩) := by
  have hl := hsm.h
  by_cases h : l = []
  · subst h
    simp [slA, tkA, appendA, readA, roomA, maxLen, coinsC]
    rfl
  · have h1 : (l.length + 1) * 40 ≤ 140737488355328 := by omega
    have h2 : l.length + 1 ≤ 9223372036854775807 := by omega
    simp [slA, tkA, h, appendA, readA, roomA, maxLen, h1, h2, coinsC_snoc]
    rfl
theorem append_nilA {c : Coin} {σ : St} : appendA Try.prog 23 (.sl 0 [] 0 .full) (.sl 5 (coinC c) 1 .full) σ = some (slA σ.toks.length [c], { σ with toks := σ.toks ++ tkA [c] }) := by
  have : Small [] := ⟨by simp⟩
  have := append_slA (l := []) (c := c) (objs := σ.objs) (tk := σ.toks) (gl := σ.gl) (rows := σ.rows)
  simpa using this

structure CSt where
  m : Nat
  s : Option (List UInt8)
  l : List Coin

theorem coinsR_none {s : Option (List UInt8)} {L : List Coin} {S : Option (List UInt8)} (h : coinsR s = (L, S)) (h2 : ¬ Right L ∨ S = none) : coinsL s = [] ∧ coinsS s = none := by
  have e : coinsS s = none := by
    unfold coinsS
    rw [h]
    rcases h2 with h2 | h2
    · rw [if_neg h2]
    · simp [h2]
  exact ⟨by simp [coinsL, e], e⟩
theorem coinsR_some {s : Option (List UInt8)} {L : List Coin} {S : Option (List UInt8)} (h : coinsR s = (L, S)) (h1 : Right L) (h2 : ¬ S = none) : coinsL s = L ∧ coinsS s = S := by
  have e : coinsS s = S := by
    unfold coinsS
    rw [h, if_pos h1]
  exact ⟨by rw [coinsL, e, if_neg h2, h], e⟩

set_option maxHeartbeats 1600000 in
attribute [local simp] undefA List.getElem?_cons_zero List.getElem?_cons_succ coinS_cells build_coin append_nilA append_slA in
theorem rcoins_raw {σ : St} {id : Nat} {s : Option (List UInt8)} (h : σ.objs[id]? = some (rd s)) :
    CallsA Try.prog 82 [.ptr id 0] σ (fun av σ' => av = .sl 5 (coinsC (coinsL s)) (coinsL s).length .shut ∧ σ' = { σ with objs := σ.objs.set id (rd (coinsS s)) }) := by
  refine callsA_gc_obj (Q := fun av σ' => Wk av (.sl 5 (coinsC (coinsL s)) (coinsL s).length .shut) ∧ ∃ l m r, σ' = { σ with objs := σ.objs.set id (rd (coinsS s)) ++ l, toks := σ.toks ++ m, rows := σ.rows ++ r }) ?_ (fun av σ' h => h) (by simp [AV.under]) (rd_under _ _)
  have hs := set_self_of h
  have hm := be_lt1 (takeB_len 1 s)
  have F := And.intro h (And.intro hs (True.intro))
  refine callsA_body Try.func82 rfl rfl rfl ?_; refine sr fun _ hJ2 => ?_; refine hJ2 _ _ ?_; refine run_scope_jumpsF 0 (X := CSt) [0] (fun q ρ σ1 => (q.m + q.l.length ≤ 255) ∧ (coinsGo q.m q.s q.l = coinsR s) ∧ (ρ 4 = .v (.int .u8 q.m)) ∧ (ρ 3 = slA σ.toks.length q.l) ∧ (σ1 = { σ with objs := σ.objs.set id (rd q.s), toks := σ.toks ++ tkA q.l })) (fun q => q.m) rfl ?first ?pass
  case first =>
   refine sr fun _ hJ4 => ?_; refine hJ4 _ _ ?_; refine sr fun _ hJ6 => ?_
   refine cb (c := byte_ok (by first | exact h | exact hs _)) (k := ?_)
   refine hJ6 _ _ ?_; refine sq fun K7 hK7 => ?_; refine run_label ?_; refine hK7 _ _ ?_; refine sq fun K8 hK8 => ?_; refine sr fun _ hJ10 => ?_; refine gs 10 (fun g3_2 => ?_) (fun g3_2 => ?_)
   · (try exact nope g3_2); all_goals have g3_2p := g3_2; try simp [F] at g3_2p
     all_goals
      replace F := aF g3_2 F; (try replace F := aF g3_2p F); refine go2 (k := ?_); refine cb (c := bad_ok (hs _)) (k := ?_); refine go2 (k := ?_); refine hJ10 _ _ ?_; refine cs (fun c14 => ?_) (fun c14 => ?_)
      · (try exact nope c14); all_goals have c14p := c14; try simp [F] at c14p
        all_goals
         replace F := aF c14 F; (try replace F := aF c14p F); refine sr fun _ hJ12 => ?_
         refine cb (c := byte_ok (by first | exact h | exact hs _)) (k := ?_)
         refine hJ12 _ _ ?_; refine sq fun K13 hK13 => ?_; (try have : Small q.l := ⟨by omega⟩); refine rg' (h := fun J14 hJ14 => ?_); refine cb (c := num_ok (hs _)) (k := ?_); refine hJ14 _ _ ?_; refine hK13 _ _ ?_; refine sr fun _ hJ16 => ?_; refine hJ16 _ _ ?_; refine run_goto ?_; refine ⟨rfl, (⟨be (takeB 1 s) - 1, numS (takeS 1 (takeS 1 s)), [coinS (takeS 1 s)]⟩), ⟨kp, lp, ?_, lp, lp, lp⟩⟩
         · exact (coinsGo_more (l := []) g3_2p (by intro e; simp [e] at c14p)).symm
      (try exact nope c14); all_goals have c14p := c14; try simp [F] at c14p
      all_goals
       replace F := aF c14 F; (try replace F := aF c14p F); refine run_skip ?_; refine hK8 _ _ ?_; refine sq fun K17 hK17 => ?_; refine sr fun _ hJ19 => ?_
       refine cb (c := (by first | exact right_nilA | exact right_slA (by omega))) (k := ?_)
       refine hJ19 _ _ ?_; refine cs (fun c28 => ?_) (fun c28 => ?_)
       · try exact nope c28
         all_goals
          replace F := wf F c28; refine rg' (h := fun J20 hJ20 => ?_); refine cb (c := fail_ok (hs _)) (k := ?_); refine hJ20 _ _ ?_; refine hK17 _ _ ?_; refine sq fun K21 hK21 => ?_; refine sr fun _ hJ23 => ?_; refine cb (c := bad_ok (hs _)) (k := ?_); refine hJ23 _ _ ?_; refine cs (fun c32 => ?_) (fun c32 => ?_)
          · try exact nope c32
            all_goals
             replace F := wf F c32; refine sr fun _ hJ25 => ?_; refine hJ25 _ _ ?_; refine ra ?_
             have e : coinsR s = (q.l, q.s) := by rw [← hg]; exact coinsGo_stop (by first | (left; simp at g3_2; omega) | (right; simpa using c14))
             obtain ⟨e1, e2⟩ := coinsR_none e (.inl (by simpa using c28))
             rw [e1, e2]
             exact ⟨Wk.nil _ _ _, [], tkA q.l, [], by simp⟩
          try exact nope c32
          all_goals
           replace F := wf F c32; refine run_skip ?_; refine hK21 _ _ ?_; refine sr fun _ hJ27 => ?_; refine hJ27 _ _ ?_; refine ra ?_
           have e : coinsR s = (q.l, q.s) := by rw [← hg]; exact coinsGo_stop (by first | (left; simp at g3_2; omega) | (right; simpa using c14))
           obtain ⟨e1, e2⟩ := coinsR_none e (.inl (by simpa using c28))
           rw [e1, e2]
           exact ⟨Wk.nil _ _ _, [], tkA q.l, [], by simp⟩
       try exact nope c28
       all_goals
        replace F := wf F c28; refine run_skip ?_; refine hK17 _ _ ?_; refine sq fun K28 hK28 => ?_; refine sr fun _ hJ30 => ?_; refine cb (c := bad_ok (hs _)) (k := ?_); refine hJ30 _ _ ?_; refine cs (fun c32 => ?_) (fun c32 => ?_)
        · try exact nope c32
          all_goals
           replace F := wf F c32; refine sr fun _ hJ32 => ?_; refine hJ32 _ _ ?_; refine ra ?_
           first | (obtain ⟨e1, e2⟩ := coinsR_none (L := q.l) (S := q.s) (by rw [← hg]; exact coinsGo_stop (.inr (by simpa using c14))) (.inr (by simpa using c14)); rw [e1, e2]; exact ⟨Wk.nil _ _ _, [], tkA q.l, [], by simp⟩) | (have h0 : takeS 1 s = none := (by simpa using c14); obtain ⟨e1, e2⟩ := coinsR_none (by rw [coinsR, coinsGo_stop (.inr h0)]) (.inr h0); rw [e1, e2]; exact ⟨Wk.nil _ _ _, [], [], [], by simp⟩)
        try exact nope c32
        all_goals
         replace F := wf F c32; refine run_skip ?_; refine hK28 _ _ ?_; refine sr fun _ hJ34 => ?_; refine hJ34 _ _ ?_; refine ra ?_
         first | (obtain ⟨e1, e2⟩ := coinsR_none (L := q.l) (S := q.s) (by rw [← hg]; exact coinsGo_stop (.inr (by simpa using c14))) (.inr (by simpa using c14)); rw [e1, e2]; exact ⟨Wk.nil _ _ _, [], tkA q.l, [], by simp⟩) | (have h0 : takeS 1 s = none := (by simpa using c14); obtain ⟨e1, e2⟩ := coinsR_none (by rw [coinsR, coinsGo_stop (.inr h0)]) (.inr h0); rw [e1, e2]; exact ⟨Wk.nil _ _ _, [], [], [], by simp⟩)
   (try exact nope g3_2); all_goals have g3_2p := g3_2; try simp [F] at g3_2p
   all_goals
    replace F := aF g3_2 F; (try replace F := aF g3_2p F); (iterate 3 refine no2 (k := ?_)); refine hJ10 _ _ ?_; refine cf ?_; refine run_skip ?_; refine hK8 _ _ ?_; refine sq fun K35 hK35 => ?_; refine sr fun _ hJ37 => ?_
    refine cb (c := (by first | exact right_nilA | exact right_slA (by omega))) (k := ?_)
    refine hJ37 _ _ ?_; refine cs (fun c28 => ?_) (fun c28 => ?_)
    · try exact nope c28
      all_goals
       replace F := wf F c28; refine rg' (h := fun J38 hJ38 => ?_); refine cb (c := fail_ok (hs _)) (k := ?_); refine hJ38 _ _ ?_; refine hK35 _ _ ?_; refine sq fun K39 hK39 => ?_; refine sr fun _ hJ41 => ?_; refine cb (c := bad_ok (hs _)) (k := ?_); refine hJ41 _ _ ?_; refine cs (fun c32 => ?_) (fun c32 => ?_)
       · try exact nope c32
         all_goals
          replace F := wf F c32; refine sr fun _ hJ43 => ?_; refine hJ43 _ _ ?_; refine ra ?_
          have e : coinsR s = (q.l, q.s) := by rw [← hg]; exact coinsGo_stop (by first | (left; simp at g3_2; omega) | (right; simpa using c14))
          obtain ⟨e1, e2⟩ := coinsR_none e (.inl (by simpa using c28))
          rw [e1, e2]
          exact ⟨Wk.nil _ _ _, [], tkA q.l, [], by simp⟩
       try exact nope c32
       all_goals
        replace F := wf F c32; refine run_skip ?_; refine hK39 _ _ ?_; refine sr fun _ hJ45 => ?_; refine hJ45 _ _ ?_; refine ra ?_
        have e : coinsR s = (q.l, q.s) := by rw [← hg]; exact coinsGo_stop (by first | (left; simp at g3_2; omega) | (right; simpa using c14))
        obtain ⟨e1, e2⟩ := coinsR_none e (.inl (by simpa using c28))
        rw [e1, e2]
        exact ⟨Wk.nil _ _ _, [], tkA q.l, [], by simp⟩
    try exact nope c28
    all_goals
     replace F := wf F c28; refine run_skip ?_; refine hK35 _ _ ?_; refine sq fun K46 hK46 => ?_; refine sr fun _ hJ48 => ?_; refine cb (c := bad_ok (hs _)) (k := ?_); refine hJ48 _ _ ?_; refine cs (fun c32 => ?_) (fun c32 => ?_)
     · try exact nope c32
       all_goals
        replace F := wf F c32; refine sr fun _ hJ50 => ?_; refine hJ50 _ _ ?_; refine ra ?_
        first | (obtain ⟨e1, e2⟩ := coinsR_none (L := q.l) (S := q.s) (by rw [← hg]; exact coinsGo_stop (.inr (by simpa using c32))) (.inr (by simpa using c32)); rw [e1, e2]; exact ⟨Wk.nil _ _ _, [], tkA q.l, [], by simp⟩) | (have h0 : takeS 1 s = none := (by simpa using c32); obtain ⟨e1, e2⟩ := coinsR_none (by rw [coinsR, coinsGo_stop (.inr h0)]) (.inr h0); rw [e1, e2]; exact ⟨Wk.nil _ _ _, [], [], [], by simp⟩)
     try exact nope c32
     all_goals
      replace F := wf F c32; refine run_skip ?_; refine hK46 _ _ ?_; refine sr fun _ hJ52 => ?_; refine hJ52 _ _ ?_; refine ra ?_
      first | (obtain ⟨e1, e2⟩ := coinsR_some (L := q.l) (S := q.s) (by rw [← hg]; exact coinsGo_stop (.inl (by simp at g3_2; omega))) (by simpa using c28) (by intro e; simp [e] at c32); rw [e1, e2]; exact ⟨wk_slA _ _, [], tkA q.l, [], by simp⟩) | (have h0 : be (takeB 1 s) = 0 := (by simp at g3_2; omega); obtain ⟨e1, e2⟩ := coinsR_some (by rw [coinsR, coinsGo_stop (.inl h0)]) (by decide) (by intro e; simp [e] at c32); rw [e1, e2]; exact ⟨Wk.nil _ _ _, [], [], [], by simp⟩)
  case pass =>
   rintro q ρgoto σ1 hFgoto ⟨hm, hg, h4, h3, hσ⟩; obtain rfl := hσ.symm
   have fgoto := keepL hFgoto
   (try simp [KeepL, F] at fgoto); replace F := aF h4 F; replace F := aF h3 F; (try replace F := aF fgoto F); refine sq fun K53 hK53 => ?_; refine run_skip ?_; refine hK53 _ _ ?_; refine sq fun K54 hK54 => ?_; refine sr fun _ hJ56 => ?_; refine gs 10 (fun g3_2 => ?_) (fun g3_2 => ?_)
   · (try exact nope g3_2); all_goals have g3_2p := g3_2; try simp [F] at g3_2p
     all_goals
      replace F := aF g3_2 F; (try replace F := aF g3_2p F); refine go2 (k := ?_); refine cb (c := bad_ok (hs _)) (k := ?_); refine go2 (k := ?_); refine hJ56 _ _ ?_; refine cs (fun c14 => ?_) (fun c14 => ?_)
      · (try exact nope c14); all_goals have c14p := c14; try simp [F] at c14p
        all_goals
         replace F := aF c14 F; (try replace F := aF c14p F); refine sr fun _ hJ58 => ?_
         refine cb (c := byte_ok (by first | exact h | exact hs _)) (k := ?_)
         refine hJ58 _ _ ?_; refine sq fun K59 hK59 => ?_; (try have : Small q.l := ⟨by omega⟩); refine rg' (h := fun J60 hJ60 => ?_); refine cb (c := num_ok (hs _)) (k := ?_); refine hJ60 _ _ ?_; refine hK59 _ _ ?_; refine sr fun _ hJ62 => ?_; refine hJ62 _ _ ?_; refine run_goto ?_; refine ⟨rfl, (⟨q.m - 1, numS (takeS 1 q.s), q.l ++ [coinS q.s]⟩), ⟨kp, ?_, ?_, lp, lp, ?_⟩, ?_⟩
         · simp
           omega
         · rw [← hg]
           exact (coinsGo_more g3_2p (by intro e; simp [e] at c14p)).symm
         · rfl
         · simp
           omega
      (try exact nope c14); all_goals have c14p := c14; try simp [F] at c14p
      all_goals
       replace F := aF c14 F; (try replace F := aF c14p F); refine run_skip ?_; refine hK54 _ _ ?_; refine sq fun K63 hK63 => ?_; refine sr fun _ hJ65 => ?_
       refine cb (c := (by first | exact right_nilA | exact right_slA (by omega))) (k := ?_)
       refine hJ65 _ _ ?_; refine cs (fun c28 => ?_) (fun c28 => ?_)
       · try exact nope c28
         all_goals
          replace F := wf F c28; refine rg' (h := fun J66 hJ66 => ?_); refine cb (c := fail_ok (hs _)) (k := ?_); refine hJ66 _ _ ?_; refine hK63 _ _ ?_; refine sq fun K67 hK67 => ?_; refine sr fun _ hJ69 => ?_; refine cb (c := bad_ok (hs _)) (k := ?_); refine hJ69 _ _ ?_; refine cs (fun c32 => ?_) (fun c32 => ?_)
          · try exact nope c32
            all_goals
             replace F := wf F c32; refine sr fun _ hJ71 => ?_; refine hJ71 _ _ ?_; refine ra ?_
             have e : coinsR s = (q.l, q.s) := by rw [← hg]; exact coinsGo_stop (by first | (left; simp at g3_2; omega) | (right; simpa using c14))
             obtain ⟨e1, e2⟩ := coinsR_none e (.inl (by simpa using c28))
             rw [e1, e2]
             exact ⟨Wk.nil _ _ _, [], tkA q.l, [], by simp⟩
          try exact nope c32
          all_goals
           replace F := wf F c32; refine run_skip ?_; refine hK67 _ _ ?_; refine sr fun _ hJ73 => ?_; refine hJ73 _ _ ?_; refine ra ?_
           have e : coinsR s = (q.l, q.s) := by rw [← hg]; exact coinsGo_stop (by first | (left; simp at g3_2; omega) | (right; simpa using c14))
           obtain ⟨e1, e2⟩ := coinsR_none e (.inl (by simpa using c28))
           rw [e1, e2]
           exact ⟨Wk.nil _ _ _, [], tkA q.l, [], by simp⟩
       try exact nope c28
       all_goals
        replace F := wf F c28; refine run_skip ?_; refine hK63 _ _ ?_; refine sq fun K74 hK74 => ?_; refine sr fun _ hJ76 => ?_; refine cb (c := bad_ok (hs _)) (k := ?_); refine hJ76 _ _ ?_; refine cs (fun c32 => ?_) (fun c32 => ?_)
        · try exact nope c32
          all_goals
           replace F := wf F c32; refine sr fun _ hJ78 => ?_; refine hJ78 _ _ ?_; refine ra ?_
           first | (obtain ⟨e1, e2⟩ := coinsR_none (L := q.l) (S := q.s) (by rw [← hg]; exact coinsGo_stop (.inr (by simpa using c14))) (.inr (by simpa using c14)); rw [e1, e2]; exact ⟨Wk.nil _ _ _, [], tkA q.l, [], by simp⟩) | (have h0 : takeS 1 s = none := (by simpa using c14); obtain ⟨e1, e2⟩ := coinsR_none (by rw [coinsR, coinsGo_stop (.inr h0)]) (.inr h0); rw [e1, e2]; exact ⟨Wk.nil _ _ _, [], [], [], by simp⟩)
        try exact nope c32
        all_goals
         replace F := wf F c32; refine run_skip ?_; refine hK74 _ _ ?_; refine sr fun _ hJ80 => ?_; refine hJ80 _ _ ?_; refine ra ?_
         first | (obtain ⟨e1, e2⟩ := coinsR_none (L := q.l) (S := q.s) (by rw [← hg]; exact coinsGo_stop (.inr (by simpa using c14))) (.inr (by simpa using c14)); rw [e1, e2]; exact ⟨Wk.nil _ _ _, [], tkA q.l, [], by simp⟩) | (have h0 : takeS 1 s = none := (by simpa using c14); obtain ⟨e1, e2⟩ := coinsR_none (by rw [coinsR, coinsGo_stop (.inr h0)]) (.inr h0); rw [e1, e2]; exact ⟨Wk.nil _ _ _, [], [], [], by simp⟩)
   (try exact nope g3_2); all_goals have g3_2p := g3_2; try simp [F] at g3_2p
   all_goals
    replace F := aF g3_2 F; (try replace F := aF g3_2p F); (iterate 3 refine no2 (k := ?_)); refine hJ56 _ _ ?_; refine cf ?_; refine run_skip ?_; refine hK54 _ _ ?_; refine sq fun K81 hK81 => ?_; refine sr fun _ hJ83 => ?_
    refine cb (c := (by first | exact right_nilA | exact right_slA (by omega))) (k := ?_)
    refine hJ83 _ _ ?_; refine cs (fun c28 => ?_) (fun c28 => ?_)
    · try exact nope c28
      all_goals
       replace F := wf F c28; refine rg' (h := fun J84 hJ84 => ?_); refine cb (c := fail_ok (hs _)) (k := ?_); refine hJ84 _ _ ?_; refine hK81 _ _ ?_; refine sq fun K85 hK85 => ?_; refine sr fun _ hJ87 => ?_; refine cb (c := bad_ok (hs _)) (k := ?_); refine hJ87 _ _ ?_; refine cs (fun c32 => ?_) (fun c32 => ?_)
       · try exact nope c32
         all_goals
          replace F := wf F c32; refine sr fun _ hJ89 => ?_; refine hJ89 _ _ ?_; refine ra ?_
          have e : coinsR s = (q.l, q.s) := by rw [← hg]; exact coinsGo_stop (by first | (left; simp at g3_2; omega) | (right; simpa using c14))
          obtain ⟨e1, e2⟩ := coinsR_none e (.inl (by simpa using c28))
          rw [e1, e2]
          exact ⟨Wk.nil _ _ _, [], tkA q.l, [], by simp⟩
       try exact nope c32
       all_goals
        replace F := wf F c32; refine run_skip ?_; refine hK85 _ _ ?_; refine sr fun _ hJ91 => ?_; refine hJ91 _ _ ?_; refine ra ?_
        have e : coinsR s = (q.l, q.s) := by rw [← hg]; exact coinsGo_stop (by first | (left; simp at g3_2; omega) | (right; simpa using c14))
        obtain ⟨e1, e2⟩ := coinsR_none e (.inl (by simpa using c28))
        rw [e1, e2]
        exact ⟨Wk.nil _ _ _, [], tkA q.l, [], by simp⟩
    try exact nope c28
    all_goals
     replace F := wf F c28; refine run_skip ?_; refine hK81 _ _ ?_; refine sq fun K92 hK92 => ?_; refine sr fun _ hJ94 => ?_; refine cb (c := bad_ok (hs _)) (k := ?_); refine hJ94 _ _ ?_; refine cs (fun c32 => ?_) (fun c32 => ?_)
     · try exact nope c32
       all_goals
        replace F := wf F c32; refine sr fun _ hJ96 => ?_; refine hJ96 _ _ ?_; refine ra ?_
        first | (obtain ⟨e1, e2⟩ := coinsR_none (L := q.l) (S := q.s) (by rw [← hg]; exact coinsGo_stop (.inr (by simpa using c32))) (.inr (by simpa using c32)); rw [e1, e2]; exact ⟨Wk.nil _ _ _, [], tkA q.l, [], by simp⟩) | (have h0 : takeS 1 s = none := (by simpa using c32); obtain ⟨e1, e2⟩ := coinsR_none (by rw [coinsR, coinsGo_stop (.inr h0)]) (.inr h0); rw [e1, e2]; exact ⟨Wk.nil _ _ _, [], [], [], by simp⟩)
     try exact nope c32
     all_goals
      replace F := wf F c32; refine run_skip ?_; refine hK92 _ _ ?_; refine sr fun _ hJ98 => ?_; refine hJ98 _ _ ?_; refine ra ?_
      first | (obtain ⟨e1, e2⟩ := coinsR_some (L := q.l) (S := q.s) (by rw [← hg]; exact coinsGo_stop (.inl (by simp at g3_2; omega))) (by simpa using c28) (by intro e; simp [e] at c32); rw [e1, e2]; exact ⟨wk_slA _ _, [], tkA q.l, [], by simp⟩) | (have h0 : be (takeB 1 s) = 0 := (by simp at g3_2; omega); obtain ⟨e1, e2⟩ := coinsR_some (by rw [coinsR, coinsGo_stop (.inl h0)]) (by decide) (by intro e; simp [e] at c32); rw [e1, e2]; exact ⟨Wk.nil _ _ _, [], [], [], by simp⟩)

theorem coinsGo_len : ∀ (m : Nat) (s : Option (List UInt8)) (l : List Coin), (coinsGo m s l).1.length ≤ m + l.length
  | 0, _, _ => by simp [coinsGo]
  | m + 1, none, l => by simp [coinsGo]
  | m + 1, some p, l => by
    have := coinsGo_len m (numS (takeS 1 (some p))) (l ++ [coinS (some p)])
    simp only [coinsGo, List.length_append, List.length_cons, List.length_nil] at this ⊢
    omega
theorem coinsL_le (s : Option (List UInt8)) : (coinsL s).length ≤ 255 := by
  unfold coinsL
  split
  · simp
  · have := coinsGo_len (be (takeB 1 s)) (takeS 1 s) []
    have hm := be_lt1 (takeB_len 1 s)
    simp only [List.length_nil] at this
    unfold coinsR
    omega

end Go.Proofs.Ytdbaddholggkbaa

/-
  The codec's writer, whatever it holds.
-/
namespace Go.Proofs.Ytdbaddholggkbaa
set_option linter.unnecessarySimpa false
open Go Go.Vm
set_option linter.unusedSimpArgs false
set_option linter.unusedVariables false
set_option maxRecDepth 100000
attribute [local simp] evalL wantedA isCall opA evalA evalAll evalsA evalOpt ofValue ofCell plain binA_eql_pn binA_neq_pn binA_gtr binA_lss binA_geq binA_leq binA_add binA_sub binA_eql binA_neq binA_or binA_shl binA_shr binA_mul binA_quo binA_rem binA_agg_eql binA_agg_neq convA_int unA_not fieldAddrA loadA partA pickA_true pickA_false pickA_bb lenA builtinA storeA splice AV.cells AV.isCell sliceA boundA intA callOf indexAddrA newObjA buildA fillA zeroA ofCells buildSliceA indexA fieldA coinsC_at

theorem callsA_gcO {σ : St} {P : Program} {f : FuncId} {args : List AV} {Q Q' : AV → St → Prop} (k : CallsA P f args σ Q) (h : ∀ av σ0, Q av σ0 → GoneO σ σ0 ∧ Q' (av.gcO σ.objs.length) (σ.trimO σ0)) : CallsA P f args σ Q' := by
  intro G w vs R hS hl hr hK
  refine k G w vs R hS hl hr (fun v av σ0 G' w' hq hE hS' hv => ?_)
  obtain ⟨hg, hq'⟩ := h av σ0 hq
  obtain ⟨hE2, hS2⟩ := hS.trimO hS' hE hg
  exact hK v _ _ _ _ hq' hE2 hS2 (hv.gcO hE hS.tot)

theorem callsA_gcOI {σ : St} {P : Program} {f : FuncId} {args : List AV} {A : AV} {ι : Type} {Pi : ι → Prop} {τ : ι → St} (k : CallsA P f args σ (fun av σ' => ∃ i, Pi i ∧ av = A ∧ ∃ l, σ' = { τ i with objs := (τ i).objs ++ l }))
    (hA : A.gcO σ.objs.length = A) (hl : ∀ i, (τ i).objs.length = σ.objs.length) (hgl : ∀ i, (τ i).gl = σ.gl) (hkp : ∀ i, Kp σ.objs.length σ.objs (τ i).objs) (hkr : ∀ i, KpR σ.objs.length σ.rows (τ i).rows) : CallsA P f args σ (fun av σ' => av = A ∧ ∃ i, Pi i ∧ σ' = τ i) := by
  refine callsA_gcO k (fun av σ0 ⟨i, hi, hv, l, h⟩ => ?_)
  subst h hv
  refine ⟨gone_kp (hgl i) (kp_more (hkp i)) (hkr i), hA, i, hi, ?_⟩
  have := hl i
  simp [St.trimO, ← this]

/-! ### What a writer holds -/
def wrA (k : Nat) (l : List UInt8) : AV := if l = [] then .sl 0 [] 0 .full else .sl 1 (bytesA l) l.length (.own k)
def Tk (tk : List Nat) (k : Nat) (l : List UInt8) : Prop := l = [] ∨ tk[k]? = some l.length

structure Wr (tk : List Nat) (k : Nat) (l : List UInt8) (tk' : List Nat) (k' : Nat) (l' : List UInt8) : Prop where
  tok : Tk tk' k' l'
  len : tk.length ≤ tk'.length
  keep : ∀ (j v : Nat), (l = [] ∨ j ≠ k) → tk[j]? = some v → tk'[j]? = some v
  own : l' = [] ∨ (k' = k ∧ l ≠ []) ∨ tk.length ≤ k'

theorem Wr.refl {tk : List Nat} {k : Nat} {l : List UInt8} (h : Tk tk k l) : Wr tk k l tk k l := ⟨h, Nat.le_refl _, fun _ _ _ h => h, by
  by_cases e : l = []
  · exact .inl e
  · exact .inr (.inl ⟨rfl, e⟩)⟩

theorem lt_get {l : List Nat} {i v : Nat} (h : l[i]? = some v) : i < l.length := (List.getElem?_eq_some_iff.1 h).1

theorem Wr.trans {tk tk1 tk2 : List Nat} {k k1 k2 : Nat} {l l1 l2 : List UInt8} (h : Wr tk k l tk1 k1 l1) (g : Wr tk1 k1 l1 tk2 k2 l2) : Wr tk k l tk2 k2 l2 := by
  refine ⟨g.tok, Nat.le_trans h.len g.len, fun j v hj hv => g.keep j v ?_ (h.keep j v hj hv), ?_⟩
  · have hlt := lt_get hv
    rcases h.own with e | ⟨e, e2⟩ | e
    · exact .inl e
    · rcases hj with hj | hj
      · exact absurd hj e2
      · exact .inr (by omega)
    · exact .inr (by omega)
  · rcases g.own with e | ⟨e, e2⟩ | e
    · exact .inl e
    · rcases h.own with e3 | ⟨e3, e4⟩ | e3
      · exact absurd e3 e2
      · exact .inr (.inl ⟨by omega, e4⟩)
      · exact .inr (.inr (by omega))
    · have := h.len
      exact .inr (.inr (by omega))

theorem Wr.pre {tk tk' : List Nat} {k k' : Nat} {l' : List UInt8} (h : Wr tk k [] tk' k' l') : ∃ m, tk' = tk ++ m := by
  refine ⟨tk'.drop tk.length, ?_⟩; refine List.ext_getElem? fun i => ?_
  by_cases hi : i < tk.length
  · rw [List.getElem?_append_left hi]
    rw [List.getElem?_eq_getElem hi]
    exact h.keep i _ (.inl rfl) (List.getElem?_eq_getElem hi)
  · rw [List.getElem?_append_right (by omega), List.getElem?_drop]
    congr 1; omega

theorem noObj_wrA' (n k : Nat) (l : List UInt8) : AV.noObj n (wrA k l) = true := by
  unfold wrA
  split <;> simp [noObjL, AV.noObj]
theorem noObj_wrA (n k : Nat) (l : List UInt8) : noObjL n [wrA k l] = true := by
  unfold wrA
  split <;> simp [noObjL, AV.noObj]

def WP (id : Nat) (σ : St) (k : Nat) (l q : List UInt8) : AV → St → Prop := fun av σ' => av = .ptr id 0 ∧ ∃ k' tk', Wr σ.toks k l tk' k' (l ++ q) ∧ σ' = { σ with objs := σ.objs.set id [wrA k' (l ++ q)], toks := tk' }

theorem lay_ok {σ : St} {id k : Nat} {l q : List UInt8} {tq : Tail} (h : σ.objs[id]? = some [wrA k l]) (ht : Tk σ.toks k l) (hne : l ++ q ≠ []) (hl : l.length ≤ 1000000) (hq : q.length ≤ 1000000) :
    CallsA Try.prog 129 [.ptr id 0, .sl 1 (bytesA q) q.length tq] σ (WP id σ k l q) := by
  by_cases e : l = []
  · subst e
    refine callsA_mono (lay_new (by simpa [wrA] using h) hq) (fun av σ' ⟨h1, h2⟩ => ⟨h1, σ.toks.length, σ.toks ++ [q.length], ⟨.inr ?_, ?_, fun j v _ hj => ?_, .inr (.inr (Nat.le_refl _))⟩, ?_⟩)
    · simp
    · simp
    · rw [List.getElem?_append_left (lt_get hj)]; exact hj
    · rw [h2]; simp at hne; simp [wrA, hne]
  · have hk := ht.resolve_left e
    refine callsA_mono (lay_more (by simpa [wrA, e] using h) hk hl hq) (fun av σ' ⟨h1, h2⟩ => ⟨h1, k, σ.toks.set k (l ++ q).length, ⟨.inr (set_self_of hk _), by simp, fun j v hj hv => ?_, .inr (.inl ⟨rfl, e⟩)⟩, ?_⟩)
    · rw [List.getElem?_set_ne (Ne.symm (hj.resolve_left e))]; exact hv
    · rw [h2]; simp [wrA, e]

set_option maxHeartbeats 1600000 in
attribute [local simp] undefA List.getElem?_cons_zero List.getElem?_cons_succ in
theorem wbyte_ok {σ : St} {id k : Nat} {l : List UInt8} {b : UInt8} (h : σ.objs[id]? = some [wrA k l]) (ht : Tk σ.toks k l) (hl : l.length ≤ 1000000) :
    CallsA Try.prog 88 [.ptr id 0, .v (.int .u8 b.toNat)] σ (WP id σ k l [b]) := by
  have hv : (Value.int IntKind.u8 0).cells.size = 1 := rfl
  have F := And.intro hv (True.intro)
  refine callsA_body Try.func88 rfl rfl rfl ?_; refine sr fun _ hJ2 => ?_; refine hJ2 _ _ ?_; refine sr fun _ hJ4 => ?_
  refine ca (c := lay_ok (q := [b]) h ht (by simp) hl (by simp)) (k := ?_)
  rintro _ _ ⟨rfl, k1, tk1, hw1, rfl⟩; (repeat (first | simp [F] | simp (disch := omega) only [wC, if_pos, if_neg])); refine hJ4 _ _ ?_; refine ra ?_; exact ⟨rfl, k1, tk1, hw1, rfl⟩

set_option maxHeartbeats 1600000 in
attribute [local simp] undefA List.getElem?_cons_zero List.getElem?_cons_succ in
theorem wflag_ok {σ : St} {id k : Nat} {l : List UInt8} {b : Bool} (h : σ.objs[id]? = some [wrA k l]) (ht : Tk σ.toks k l) (hl : l.length ≤ 1000000) :
    CallsA Try.prog 105 [.ptr id 0, .v (.bool b)] σ (WP id σ k l [if b then 1 else 0]) := by
  have hv : (Value.int IntKind.u8 0).cells.size = 1 := rfl
  have F := And.intro hv (True.intro)
  refine callsA_body Try.func105 rfl rfl rfl ?_; refine sr fun _ hJ2 => ?_; refine hJ2 _ _ ?_; refine sq fun K3 hK3 => ?_; refine sr fun _ hJ5 => ?_; refine hJ5 _ _ ?_; refine cs (fun c5 => ?_) (fun c5 => ?_)
  · try exact nope c5
    all_goals
     replace F := wf F c5; refine sr fun _ hJ7 => ?_
     refine ca (c := lay_ok (q := [1]) h ht (by simp) hl (by simp)) (k := ?_)
     rintro _ _ ⟨rfl, k1, tk1, hw1, rfl⟩; (repeat (first | simp [F] | simp (disch := omega) only [wC, if_pos, if_neg])); refine hJ7 _ _ ?_; refine ra ?_
     have e : b = true := (by simpa using c5)
     subst e
     exact ⟨rfl, k1, tk1, hw1, rfl⟩
  try exact nope c5
  all_goals
   replace F := wf F c5; refine run_skip ?_; refine hK3 _ _ ?_; refine sr fun _ hJ9 => ?_
   refine ca (c := lay_ok (q := [0]) h ht (by simp) hl (by simp)) (k := ?_)
   rintro _ _ ⟨rfl, k1, tk1, hw1, rfl⟩; (repeat (first | simp [F] | simp (disch := omega) only [wC, if_pos, if_neg])); refine hJ9 _ _ ?_; refine ra ?_
   have e : b = false := (by simpa using c5)
   subst e
   exact ⟨rfl, k1, tk1, hw1, rfl⟩

def encN (x : Nat) : List UInt8 := UInt8.ofNat (natBytes x).length :: natBytes x

set_option maxHeartbeats 1600000 in
attribute [local simp] undefA List.getElem?_cons_zero List.getElem?_cons_succ in
theorem wnum_ok {σ : St} {id k x : Nat} {l : List UInt8} (h : σ.objs[id]? = some [wrA k l]) (ht : Tk σ.toks k l) (hx : x < 2 ^ 256) (hl : l.length ≤ 900000) :
    CallsA Try.prog 103 [.ptr id 0, .agg (numA x)] σ (WP id σ k l (encN x)) := by
  have hlt := lt_of_get h
  refine callsA_mono (callsA_gcOI (A := .ptr id 0) (Pi := fun i : Nat × List Nat => Wr σ.toks k l i.2 i.1 (l ++ encN x)) (τ := fun i => { σ with objs := σ.objs.set id [wrA i.1 (l ++ encN x)], toks := i.2 }) ?_ (by simp [AV.gcO, hlt]) (fun _ => by simp) (fun _ => rfl) (fun _ => kp_set (kp_refl _) (noObj_wrA _ _ _)) (fun _ => kpr_refl _)) (fun av σ' ⟨h1, i, h2, h3⟩ => ⟨h1, i.1, i.2, h2, h3⟩)
  have hs := set_self_of h
  have hlen : (natBytes x).length ≤ 32 := natBytes_len x 32 (by simpa using hx)
  obtain ⟨c, hc⟩ : ∃ c, c = UInt8.ofNat (natBytes x).length := ⟨_, rfl⟩
  have hcn : c.toNat = (natBytes x).length := by rw [hc]; exact toNat_ofNat (by omega)
  have hw : IntKind.u8.wrap ((natBytes x).length : Int) = (c.toNat : Int) := by rw [wrap_u8, hcn, Nat.mod_eq_of_lt (by omega)]
  have ho1 : ∀ r, (σ.objs ++ r)[id]? = some [wrA k l] := fun r => by rw [List.getElem?_append_left hlt]; exact h
  have ho2 : ∀ x r, (σ.objs.set id x ++ r)[id]? = some x := fun x r => by rw [List.getElem?_append_left (by simpa using hlt)]; exact hs x
  have ho3 : ∀ x r, (σ.objs ++ r).set id x = σ.objs.set id x ++ r := fun x r => List.set_append_left _ _ hlt
  have ho4 : ∀ x y r, (σ.objs.set id y ++ r).set id x = σ.objs.set id x ++ r := fun x y r => by rw [List.set_append_left _ _ (by simpa using hlt), List.set_set]
  have hv : (Value.int IntKind.u8 0).cells.size = 1 := rfl
  have F := And.intro hw (And.intro hv (And.intro ho1 (And.intro ho2 (And.intro ho3 (And.intro ho4 (True.intro))))))
  refine callsA_body Try.func103 rfl rfl rfl ?_; refine sr fun _ hJ2 => ?_; refine hJ2 _ _ ?_; refine sr fun _ hJ4 => ?_; refine cb (c := bytes_ok hx) (k := ?_); refine hJ4 _ _ ?_; refine sr fun _ hJ6 => ?_
  refine ca (c := lay_ok (q := [c]) (ho1 _) ht (by simp) (by omega) (by simp)) (k := ?_)
  rintro _ _ ⟨rfl, k1, tk1, hw1, rfl⟩; repeat (first | simp [F] | simp (disch := omega) only [wC, if_pos, if_neg])
  refine ca (c := lay_ok (l := l ++ [c]) (k := k1) (ho2 _ _) hw1.tok (by simp) (by simp; omega) (by omega)) (k := ?_)
  rintro _ _ ⟨rfl, k2, tk2, hw2, rfl⟩; (repeat (first | simp [F] | simp (disch := omega) only [wC, if_pos, if_neg])); refine hJ6 _ _ ?_; refine ra ?_
  have e : l ++ [c] ++ natBytes x = l ++ encN x := (by simp [encN, hc])
  rw [e] at hw2
  have e2 : c :: natBytes x = encN x := (by simp [encN, hc])
  simp only [e2]
  exact ⟨(k2, tk2), hw1.trans hw2, rfl, _, rfl⟩

def nBytes (size n : Nat) : List UInt8 := (List.range size).map fun j => UInt8.ofNat (n / 2 ^ (8 * (size - 1 - j)) % 256)
theorem nBytes_len (size n : Nat) : (nBytes size n).length = size := by simp [nBytes]

structure WSt where
  j : Nat
  k : Nat
  tk : List Nat

set_option maxHeartbeats 1600000 in
attribute [local simp] undefA List.getElem?_cons_zero List.getElem?_cons_succ in
theorem wnumber_ok {σ : St} {id k n size : Nat} {l : List UInt8} (h : σ.objs[id]? = some [wrA k l]) (ht : Tk σ.toks k l) (hn : n < 2 ^ 64) (hsz : size ≤ 8) (hl : l.length ≤ 900000) :
    CallsA Try.prog 87 [.ptr id 0, .v (.int .u64 n), .v (.int .i64 size)] σ (WP id σ k l (nBytes size n)) := by
  have hs := set_self_of h
  have hs0 := St.set_same h
  have hv : (Value.int IntKind.u8 0).cells.size = 1 := rfl
  have F := And.intro hv (True.intro)
  refine callsA_body Try.func87 rfl rfl rfl ?_; refine sr fun _ hJ2 => ?_; refine hJ2 _ _ ?_; refine sq fun K3 hK3 => ?_; refine sr fun _ hJ5 => ?_; refine hJ5 _ _ ?_; refine run_block_k ?_; refine run_loopF (X := WSt) [1, 6] (fun q ρ σ1 => (q.j ≤ size) ∧ (Wr σ.toks k l q.tk q.k (l ++ (nBytes size n).take q.j)) ∧ (ρ 0 = .ptr id 0) ∧ (ρ 7 = .v (.int .i64 ((size : Int) - 1 - q.j))) ∧ (σ1 = { σ with objs := σ.objs.set id [wrA q.k (l ++ (nBytes size n).take q.j)], toks := q.tk })) (fun q => size - q.j) (⟨0, k, σ.toks⟩) ?st1 ?rd1
  case st1 =>
   refine ⟨lp, ?_, lp, lp, ?_⟩
   · simpa using Wr.refl ht
   · simpa using hs0.symm
  case rd1 =>
   rintro q ρ1 σ1 hF1 ⟨hj, hw, h0, h7, hσ⟩; obtain rfl := hσ.symm
   have f1 := keepL hF1
   (try simp [KeepL, F] at f1); replace F := aF h0 F; replace F := aF h7 F; (try replace F := aF f1 F); refine sq fun K6 hK6 => ?_; refine sr fun _ hJ8 => ?_; refine hJ8 _ _ ?_; refine cs (fun c11 => ?_) (fun c11 => ?_)
   · try exact nope c11
     all_goals
      replace F := wf F c11; refine run_skip ?_; refine hK6 _ _ ?_; refine sq fun K9 hK9 => ?_; refine run_block_k ?_
      obtain ⟨i, hi⟩ : ∃ i, i = size - 1 - q.j := ⟨_, rfl⟩
      have he : (size : Int) - 1 - q.j = (i : Int) := by omega
      have hi8 : i < 8 := by omega
      obtain ⟨b, hb⟩ : ∃ b, b = UInt8.ofNat (n / 2 ^ (8 * i) % 256) := ⟨_, rfl⟩
      have hbn : b.toNat = n / 2 ^ (8 * i) % 256 := by rw [hb]; exact toNat_ofNat (by omega)
      have hnx : (nBytes size n).take (q.j + 1) = (nBytes size n).take q.j ++ [b] := by rw [take_snoc (by rw [nBytes_len]; omega)]; simp [nBytes, hb, hi]
      have htl : ((nBytes size n).take q.j).length ≤ 8 := by simp [nBytes_len]; omega
      have hnn : ¬ 8 * (i : Int) < 0 := by omega
      have hsh : Int.fdiv (n : Int) (2 ^ (min (8 * (i : Int)).toNat 64)) = ((n / 2 ^ (8 * i) : Nat) : Int) := by rw [show min (8 * (i : Int)).toNat 64 = 8 * i by omega, Int.fdiv_eq_ediv_of_nonneg _ (by exact Int.le_of_lt (Int.pow_pos (by omega)))]; simp
      have hcv : IntKind.u8.wrap ((n / 2 ^ (8 * i) : Nat) : Int) = (b.toNat : Int) := by rw [wrap_u8, hbn]
      generalize n / 2 ^ (8 * i) = z at *
      replace F := aF he F; replace F := aF hnn F; replace F := aF hsh F; replace F := aF hcv F; refine rg' (h := fun J10 hJ10 => ?_)
      refine ca (c := lay_ok (q := [b]) (hs _) hw.tok (by simp) (by simp; omega) (by simp)) (k := ?_)
      rintro _ _ ⟨rfl, k1, tk1, hw1, rfl⟩; (repeat (first | simp [F] | simp (disch := omega) only [wC, if_pos, if_neg])); refine hJ10 _ _ ?_; refine hK9 _ _ ?_; refine rg' (h := fun J11 hJ11 => ?_); refine hJ11 _ _ ?_; refine ⟨(⟨q.j + 1, k1, tk1⟩), ⟨kp, lp, ?_, lp, ?_, ?_⟩, lp⟩
      · have hq2 := hw.trans hw1
        rw [List.append_assoc, ← hnx] at hq2
        exact hq2
      · simp
        omega
      · simp [hnx]
   try exact nope c11
   all_goals
    replace F := wf F c11; refine run_exit ?_; refine hK3 _ _ ?_; refine sr fun _ hJ13 => ?_; refine hJ13 _ _ ?_; refine ra ?_
    have hfull : (nBytes size n).take q.j = nBytes size n := List.take_of_length_le (by rw [nBytes_len]; simp at c11; omega)
    rw [hfull] at hw
    rw [hfull]
    exact ⟨by simp [F], q.k, q.tk, hw, rfl⟩

set_option maxHeartbeats 1600000 in
attribute [local simp] undefA List.getElem?_cons_zero List.getElem?_cons_succ in
theorem wshort_ok {σ : St} {id k n : Nat} {l : List UInt8} (h : σ.objs[id]? = some [wrA k l]) (ht : Tk σ.toks k l) (hn : n < 2 ^ 16) (hl : l.length ≤ 900000) :
    CallsA Try.prog 104 [.ptr id 0, .v (.int .u16 n)] σ (WP id σ k l (nBytes 2 n)) := by
  have F := True.intro
  refine callsA_body Try.func104 rfl rfl rfl ?_; refine sr fun _ hJ2 => ?_; refine hJ2 _ _ ?_; refine sr fun _ hJ4 => ?_
  refine ca (c := wnumber_ok (size := 2) h ht (by omega) (by omega) hl) (k := ?_)
  rintro _ _ ⟨rfl, k1, tk1, hw1, rfl⟩; (repeat (first | simp [F] | simp (disch := omega) only [wC, if_pos, if_neg])); refine hJ4 _ _ ?_; refine ra ?_; exact ⟨rfl, k1, tk1, hw1, rfl⟩

set_option maxHeartbeats 1600000 in
attribute [local simp] undefA List.getElem?_cons_zero List.getElem?_cons_succ in
theorem wlong_ok {σ : St} {id k n : Nat} {l : List UInt8} (h : σ.objs[id]? = some [wrA k l]) (ht : Tk σ.toks k l) (hn : n < 2 ^ 64) (hl : l.length ≤ 900000) :
    CallsA Try.prog 39 [.ptr id 0, .v (.int .u64 n)] σ (WP id σ k l (nBytes 8 n)) := by
  have F := True.intro
  refine callsA_body Try.func39 rfl rfl rfl ?_; refine sr fun _ hJ2 => ?_; refine hJ2 _ _ ?_; refine sr fun _ hJ4 => ?_
  refine ca (c := wnumber_ok (size := 8) h ht hn (by omega) hl) (k := ?_)
  rintro _ _ ⟨rfl, k1, tk1, hw1, rfl⟩; (repeat (first | simp [F] | simp (disch := omega) only [wC, if_pos, if_neg])); refine hJ4 _ _ ?_; refine ra ?_; exact ⟨rfl, k1, tk1, hw1, rfl⟩

def encC (c : Coin) : List UInt8 := c.d :: encN c.n.v
def encCs (l : List Coin) : List UInt8 := l.flatMap encC
def encL (l : List Coin) : List UInt8 := UInt8.ofNat l.length :: encCs l

theorem encC_len (c : Coin) : (encC c).length ≤ 34 := by
  have := natBytes_len c.n.v 32 (by simpa using c.n.h)
  simp [encC, encN]; omega
theorem encCs_len : ∀ l : List Coin, (encCs l).length ≤ 34 * l.length
  | [] => by simp [encCs]
  | c :: l => by
    have h1 := encC_len c
    have h2 := encCs_len l
    simp [encCs] at h2 ⊢
    omega
theorem encCs_snoc (l : List Coin) (c : Coin) : encCs (l ++ [c]) = encCs l ++ encC c := by simp [encCs]

set_option maxHeartbeats 1600000 in
attribute [local simp] undefA List.getElem?_cons_zero List.getElem?_cons_succ noObj_wrA noObj_wrA' coinC in
theorem wcoins_ok {σ : St} {id k : Nat} {l : List UInt8} {L : List Coin} {tL : Tail} (h : σ.objs[id]? = some [wrA k l]) (ht : Tk σ.toks k l) (hL : L.length ≤ 255) (hl : l.length ≤ 500000) :
    CallsA Try.prog 89 [.ptr id 0, .sl 5 (coinsC L) L.length tL] σ (WP id σ k l (encL L)) := by
  have hlt := lt_of_get h
  refine callsA_mono (callsA_gcOI (A := .ptr id 0) (Pi := fun i : Nat × List Nat => Wr σ.toks k l i.2 i.1 (l ++ encL L)) (τ := fun i => { σ with objs := σ.objs.set id [wrA i.1 (l ++ encL L)], toks := i.2 }) ?_ (by simp [AV.gcO, hlt]) (fun _ => by simp) (fun _ => rfl) (fun _ => kp_set (kp_refl _) (noObj_wrA _ _ _)) (fun _ => kpr_refl _)) (fun av σ' ⟨h1, i, h2, h3⟩ => ⟨h1, i.1, i.2, h2, h3⟩)
  have hs := set_self_of h
  obtain ⟨c, hc⟩ : ∃ c, c = UInt8.ofNat L.length := ⟨_, rfl⟩
  have hcn : c.toNat = L.length := by rw [hc]; exact toNat_ofNat (by omega)
  have hw : IntKind.u8.wrap (L.length : Int) = (c.toNat : Int) := by rw [wrap_u8, hcn, Nat.mod_eq_of_lt (by omega)]
  have ho1 : ∀ r, (σ.objs ++ r)[id]? = some [wrA k l] := fun r => by rw [List.getElem?_append_left hlt]; exact h
  have ho2 : ∀ x r, (σ.objs.set id x ++ r)[id]? = some x := fun x r => by rw [List.getElem?_append_left (by simpa using hlt)]; exact hs x
  have ho3 : ∀ x r, (σ.objs ++ r).set id x = σ.objs.set id x ++ r := fun x r => List.set_append_left _ _ hlt
  have ho4 : ∀ x y r, (σ.objs.set id y ++ r).set id x = σ.objs.set id x ++ r := fun x y r => by rw [List.set_append_left _ _ (by simpa using hlt), List.set_set]
  have hv : (Value.int IntKind.u8 0).cells.size = 1 := rfl
  have F := And.intro hw (And.intro hv (And.intro ho1 (And.intro ho2 (And.intro ho3 (And.intro ho4 (And.intro hlt (True.intro)))))))
  refine callsA_body Try.func89 rfl rfl rfl ?_; refine sr fun _ hJ2 => ?_; refine hJ2 _ _ ?_; refine sr fun _ hJ4 => ?_
  refine ca (c := lay_ok (q := [c]) h ht (by simp) (by omega) (by simp)) (k := ?_)
  rintro _ _ ⟨rfl, k1, tk1, hw1, rfl⟩; (repeat (first | simp [F] | simp (disch := omega) only [wC, if_pos, if_neg])); refine hJ4 _ _ ?_; refine sq fun K5 hK5 => ?_; refine sr fun _ hJ7 => ?_; refine hJ7 _ _ ?_; refine run_block_k ?_; refine run_loopG (X := WSt) [4, 13, 14] (fun q ρ σ1 => (q.j ≤ L.length) ∧ (Wr σ.toks k l q.tk q.k (l ++ c :: encCs (L.take q.j))) ∧ (ρ 0 = .ptr id 0) ∧ (ρ 15 = .v (.int .i64 q.j)) ∧ (σ1 = { σ with objs := σ.objs.set id [wrA q.k (l ++ c :: encCs (L.take q.j))], toks := q.tk })) (fun q => L.length - q.j) (⟨0, k1, tk1⟩) ?st1 ?rd1
  case st1 =>
   refine ⟨lp, ?_, lp, lp, ?_⟩
   · simpa [encCs] using hw1
   · simp [encCs]
  case rd1 =>
   rintro q ρ1 σ1 hF1 ⟨hj, hq, h0, h15, hσ⟩; obtain rfl := hσ.symm
   have f1 := keepL hF1
   (try simp [KeepL, F] at f1); replace F := aF h0 F; replace F := aF h15 F; (try replace F := aF f1 F); refine sr fun _ hJ9 => ?_; refine hJ9 _ _ ?_; refine sq fun K10 hK10 => ?_; refine cs (fun c16 => ?_) (fun c16 => ?_)
   · try exact nope c16
     all_goals
      replace F := wf F c16; refine run_skip ?_; refine hK10 _ _ ?_; refine sq fun K11 hK11 => ?_; refine run_block_k ?_; refine sr fun _ hJ13 => ?_; refine hJ13 _ _ ?_
      have hel := encCs_len (L.take q.j)
      have htl : (L.take q.j).length ≤ 255 := by simp; omega
      refine run_draw (by kernel_rfl) fun J14 hJ14 => ?_
      refine rp2 0 (k := ?_); refine rp2 1 (k := ?_); refine rp2 2 (k := ?_); refine rp2 3 (k := ?_); refine rp2 5 (k := ?_); refine rp2 6 (k := ?_)
      refine dc 4 rfl (c := lay_ok (l := l ++ c :: encCs (L.take q.j)) (q := [L[q.j].d]) (ho2 _ _) hq.tok (by simp) (by simp; omega) (by simp)) (k := ?_)
      rintro _ _ ⟨rfl, k2, tk2, hw2, rfl⟩
      refine ⟨by first | exact fun _ _ h => h | (refine later_list [6, 5, 2, 1] (by kernel_rfl) (fc2 ?_ <| fc2 ?_ <| fc2 ?_ <| fc2 ?_ <| fn0) <;> constructor <;> first | rfl | (simp [F]; done)), ?_⟩
      repeat (first | simp [F] | simp (disch := omega) only [wC, if_pos, if_neg])
      refine dc 7 rfl (c := wnum_ok (l := l ++ c :: (encCs (L.take q.j) ++ [L[q.j].d])) (x := L[q.j].n.v) (ho2 _ _) (by simpa using hw2.tok) L[q.j].n.h (by simp; omega)) (k := ?_)
      rintro _ _ ⟨rfl, k3, tk3, hw3, rfl⟩
      refine ⟨by first | exact fun _ _ h => h | (refine later_list [5, 2, 1] (by kernel_rfl) (fc2 ?_ <| fc2 ?_ <| fc2 ?_ <| fn0) <;> constructor <;> first | rfl | (simp [F]; done)), ?_⟩
      (repeat (first | simp [F] | simp (disch := omega) only [wC, if_pos, if_neg])); refine dop 8 rfl ?_; (repeat (first | simp [F] | simp (disch := omega) only [wC, if_pos, if_neg])); (try refine ⟨ln, ?_⟩); refine dd ?_; refine hJ14 _ _ ?_; refine hK11 _ _ ?_; refine rg' (h := fun J15 hJ15 => ?_); refine hJ15 _ _ ?_
      have e3 : encCs (L.take (q.j + 1)) = encCs (L.take q.j) ++ L[q.j].d :: encN L[q.j].n.v := by rw [take_snoc (by simp at c16; omega), encCs_snoc]; rfl
      simp only [List.append_assoc, List.cons_append, List.nil_append] at hw2 hw3
      refine ⟨gk, (⟨q.j + 1, k3, tk3⟩), ⟨kpG, lpG, ?_, lpG, lpG, ?_⟩, lpG⟩
      · simp only [e3]
        exact (hq.trans hw2).trans hw3
      · simp [St.trimO, e3]
   try exact nope c16
   all_goals
    replace F := wf F c16; refine run_exit ?_; refine hK5 _ _ ?_; refine sr fun _ hJ17 => ?_; refine hJ17 _ _ ?_; refine ra ?_
    have hfull : L.take q.j = L := List.take_of_length_le (by simp at c16; omega)
    rw [hfull] at hq
    rw [hfull]
    have e2 : c :: encCs L = encL L := (by simp [encL, hc])
    rw [e2] at hq
    simp only [e2]
    exact ⟨(q.k, q.tk), hq, by simp [F], [], by simp⟩

end Go.Proofs.Ytdbaddholggkbaa
