import Derived.Test.YtdbaddholggkbaaZ7
import Derived.Test.YtdbaddholggkbaaZ12
import Derived.Test.YtdbaddholggkbaaZ11
/-
  The document's numbers: the long division.
-/
namespace Go.Proofs.Ytdbaddholggkbaa
set_option linter.unnecessarySimpa false
set_option maxRecDepth 100000
set_option exponentiation.threshold 600
open Go Go.Vm
set_option linter.unusedSimpArgs false
set_option linter.unusedVariables false

attribute [local simp] evalL wantedA isCall opA evalA evalAll evalsA evalOpt ofValue ofCell plain binA_eql_pn binA_neq_pn binA_gtr binA_lss binA_geq binA_leq binA_add binA_sub binA_eql binA_neq binA_orI binA_andI binA_shl binA_shr binA_mul binA_quo binA_rem binA_agg_eql binA_agg_neq convA_int unA_not fieldAddrA loadA partA pickA_true pickA_false pickA_bb lenA builtinA makeA zeros64 storeA splice readA rowAppA zc64 appendA roomA maxLen AV.cells AV.isCell sliceA boundA intA callOf indexAddrA newObjA buildA fillA zeroA ofCells buildSliceA indexA fieldA numA_len4 numA_take4 numA_drop4 set_appN get_appN take_appN List.getElem?_cons_zero List.getElem?_cons_succ

theorem less_dig {n x y i X Y : Nat} (hx : x < 65536 ^ n) (hy : y < 65536 ^ n) (hi : i < n) (h : ∀ j, i < j → j < n → x / 65536 ^ j % 65536 = y / 65536 ^ j % 65536) (hX : X = x / 65536 ^ i % 65536) (hY : Y = y / 65536 ^ i % 65536) (hne : X ≠ Y) : decide (X < Y) = decide (x < y) := by
  rcases Nat.lt_or_gt_of_ne hne with h2 | h2
  · have := cmp_lt (b := 65536) (n := n) (by omega) hx hy hi h (by rw [← hX, ← hY]; exact h2)
    simp [h2, this]
  · have := cmp_lt (b := 65536) (n := n) (by omega) hy hx hi (fun j h1 h2 => (h j h1 h2).symm) (by rw [← hX, ← hY]; exact h2)
    rw [decide_eq_false (by omega), decide_eq_false (by omega)]

set_option maxHeartbeats 1600000 in
attribute [local simp] undefA List.getElem?_cons_zero List.getElem?_cons_succ in
theorem less_ok {σ : St} {k g n x y : Nat} {sp : Option Nat} {tl : Tail} (hr : σ.rows[k]? = some ⟨g, u64s (digs 65536 n x), sp⟩) (hn : n ≤ 1000) (hx : x < 65536 ^ n) (hy : y < 65536 ^ n) :
    CallsA Try.prog 143 [.row k g 0 1 n, .sl 1 (u64s (digs 65536 n y)) n tl] σ (fun av σ' => av = .v (.bool (decide (x < y))) ∧ σ = σ') := by
  have F := And.intro hr (True.intro)
  refine callsA_body Try.func143 rfl rfl rfl ?_
  refine sq fun K1 hK1 => ?_
  refine rg' (h := fun J2 hJ2 => ?_)
  refine hJ2 _ _ ?_
  refine hK1 _ _ ?_
  refine sq fun K3 hK3 => ?_
  refine sq fun K4 hK4 => ?_
  refine rg' (h := fun J5 hJ5 => ?_)
  refine hJ5 _ _ ?_
  refine hK4 _ _ ?_
  refine run_block_k ?_
  refine run_loopF (X := Nat) [0, 1] (fun m ρ σ1 => (m ≤ n) ∧ (∀ j, m ≤ j → j < n → x / 65536 ^ j % 65536 = y / 65536 ^ j % 65536) ∧ (ρ 5 = .v (.int .i64 ((m : Int) - 1))) ∧ (σ1 = σ)) (fun m => m) (n) ?st1 ?rd1
  case st1 =>
   refine ⟨lp, ?_, lp, lp⟩
   · intro j h1 h2
     omega
  case rd1 =>
   rintro m ρ1 σ1 hF1 ⟨hm, hE, h5, hσ⟩
   obtain rfl := hσ.symm
   have f1 := keepL hF1
   try simp [KeepL, F] at f1
   replace F := And.intro h5 F
   try replace F := And.intro f1 F
   refine sq fun K6 hK6 => ?_
   refine sq fun K7 hK7 => ?_
   refine rg' (h := fun J8 hJ8 => ?_)
   refine hJ8 _ _ ?_
   refine hK7 _ _ ?_
   refine cs (fun c10 => ?_) (fun c10 => ?_)
   · try exact nope c10
     all_goals have c10p := c10
     all_goals try simp [F] at c10p
     all_goals
      replace F := And.intro c10 F
      try replace F := And.intro c10p F
      refine run_skip ?_
      refine hK6 _ _ ?_
      refine sq fun K9 hK9 => ?_
      refine run_block_k ?_
      refine sq fun K10 hK10 => ?_
      obtain ⟨i, rfl⟩ : ∃ i, m = i + 1 := ⟨m - 1, by simp at c10; omega⟩
      have hi : ((i + 1 : Nat) : Int) - 1 = (i : Int) := by omega
      rw [hi] at h5 F
      have hin : i < n := by omega
      have hgx := digU_get (b := 65536) (x := x) hin
      have hgy := digU_get (b := 65536) (x := y) hin
      have hii : (i : Int) < n := by omega
      obtain ⟨X, hX⟩ : ∃ X, X = x / 65536 ^ i % 65536 := ⟨_, rfl⟩
      obtain ⟨Y, hY⟩ : ∃ Y, Y = y / 65536 ^ i % 65536 := ⟨_, rfl⟩
      rw [← hX] at hgx
      rw [← hY] at hgy
      obtain ⟨_, hgx2⟩ := List.getElem?_eq_some_iff.1 hgx
      obtain ⟨_, hgy2⟩ := List.getElem?_eq_some_iff.1 hgy
      have hdy : List.drop i (u64s (digs 65536 n y)) = .v (.int .u64 Y) :: List.drop (i + 1) (u64s (digs 65536 n y)) := by rw [List.drop_eq_getElem_cons (by simpa using hin), hgy2]
      replace F := And.intro hgx F
      replace F := And.intro hgy F
      replace F := And.intro hgx2 F
      replace F := And.intro hgy2 F
      replace F := And.intro hdy F
      replace F := And.intro hin F
      replace F := And.intro hii F
      refine run_draw (by kernel_rfl) fun J11 hJ11 => ?_
      refine rp2 0 (k := ?_)
      refine rp2 1 (k := ?_)
      refine rp2 2 (k := ?_)
      refine rp2 3 (k := ?_)
      refine rp2 4 (k := ?_)
      refine rp2 5 (k := ?_)
      refine rp2 6 (k := ?_)
      refine rp2 7 (k := ?_)
      refine rp2 8 (k := ?_)
      refine dd ?_
      refine hJ11 _ _ ?_
      refine hK10 _ _ ?_
      refine cs (fun c21 => ?_) (fun c21 => ?_)
      · try exact nope c21
        all_goals have c21p := c21
        all_goals try simp [F] at c21p
        all_goals
         replace F := And.intro c21 F
         try replace F := And.intro c21p F
         have hd : decide (X < Y) = decide (x < y) := less_dig hx hy hin (fun j h1 h2 => hE j h1 h2) hX hY (by have h := c21; simp at h; omega)
         replace F := And.intro hd F
         refine sq fun K12 hK12 => ?_
         refine run_draw (by kernel_rfl) fun J13 hJ13 => ?_
         refine rp2 0 (k := ?_)
         refine rp2 1 (k := ?_)
         refine rp2 2 (k := ?_)
         refine rp2 3 (k := ?_)
         refine rp2 4 (k := ?_)
         refine rp2 5 (k := ?_)
         refine rp2 6 (k := ?_)
         refine rp2 7 (k := ?_)
         refine rp2 8 (k := ?_)
         refine rp2 9 (k := ?_)
         refine dd ?_
         refine hJ13 _ _ ?_
         refine hK12 _ _ ?_
         refine run_ret ?_
         try simp only [Then, InBlock, NoGoto]
         refine answer_tmp rfl (.inr rfl) ?_
         exact rt
      try exact nope c21
      all_goals have c21p := c21
      all_goals try simp [F] at c21p
      all_goals
       replace F := And.intro c21 F
       try replace F := And.intro c21p F
       refine run_skip ?_
       refine hK9 _ _ ?_
       refine rg' (h := fun J14 hJ14 => ?_)
       refine hJ14 _ _ ?_
       refine ⟨(i), ⟨kp, lp, ?_, lp, lp⟩, lp⟩
       · intro j h1 h2
         by_cases hj : j = i
         · subst hj; rw [← hX, ← hY]; have h := c21; simp at h; omega
         · exact hE j (by omega) h2
   try exact nope c10
   all_goals have c10p := c10
   all_goals try simp [F] at c10p
   all_goals
    replace F := And.intro c10 F
    try replace F := And.intro c10p F
    obtain rfl : m = 0 := by simp at c10; omega
    have hxy : x = y := by have := high_eq' (b := 65536) (n := n) (i := 0) (by omega) hx hy (by omega) hE; simpa using this
    have hcI : decide (x < y) = false := by rw [hxy]; simp
    replace F := And.intro hcI F
    refine run_exit ?_
    refine hK3 _ _ ?_
    refine sq fun K15 hK15 => ?_
    refine rg' (h := fun J16 hJ16 => ?_)
    refine hJ16 _ _ ?_
    refine hK15 _ _ ?_
    refine run_ret ?_
    try simp only [Then, InBlock, NoGoto]
    refine answer_tmp rfl (.inr rfl) ?_
    exact rt

set_option maxHeartbeats 1600000 in
attribute [local simp] undefA List.getElem?_cons_zero List.getElem?_cons_succ u64s_noObj in
theorem by_raw {σ : St} {N c : Nat} {tl : Tail} (hN : N < 2 ^ 512) (hc : c < 2 ^ 256) (hc0 : 0 < c) :
    CallsA Try.prog 119 [.sl 1 (u64s (digs 65536 32 N)) 32 tl, .agg (numA c)] σ (fun av σ' => av = .tup [.row σ.rows.length 0 0 1 32, .v (.bool (decide (N % c ≠ 0)))] ∧ σ' = { σ with rows := σ.rows ++ [⟨0, u64s (digs 65536 32 (N / c)), some 0⟩, ⟨18, [], none⟩, ⟨0, u64s (digs 65536 17 (N % c)), some 0⟩] }) := by
  refine callsA_gcO ?_ rfl
  have e16 : ∀ n, (65536 : Nat) ^ n = 2 ^ (16 * n) := fun n => by rw [Nat.pow_mul]
  have hc16 : c < 65536 ^ 16 := by rw [e16]; exact hc
  have hc17 : c < 65536 ^ 17 := Nat.lt_of_lt_of_le hc16 (Nat.pow_le_pow_right (by omega) (by omega))
  have h257 : (65536 : Nat) ^ 17 = 65536 * 2 ^ 256 := by rw [Nat.pow_succ, e16, Nat.mul_comm]
  have hby : u64s (digs 65536 16 c) ++ [.v (.int .u64 0)] = u64s (digs 65536 17 c) := by rw [digs_more hc16, ← u64s_snoc] <;> rfl
  have htk : List.take 16 (u64s (digs 65536 16 c)) = u64s (digs 65536 16 c) := List.take_of_length_le (by simp)
  have F := And.intro hby (And.intro htk (True.intro))
  refine callsA_body Try.func119 rfl rfl rfl ?_
  refine sq fun K1 hK1 => ?_
  refine rg' (h := fun J2 hJ2 => ?_)
  refine hJ2 _ _ ?_
  refine hK1 _ _ ?_
  refine sq fun K3 hK3 => ?_
  refine rg' (h := fun J4 hJ4 => ?_)
  refine hJ4 _ _ ?_
  refine hK3 _ _ ?_
  refine sq fun K5 hK5 => ?_
  refine rg' (h := fun J6 hJ6 => ?_)
  refine ca (c := digits_ok (x := c)) (k := ?_)
  rintro _ _ ⟨rfl, rfl⟩
  repeat (first | simp [F] | simp (disch := omega) only [wC, if_pos, if_neg])
  refine hJ6 _ _ ?_
  refine hK5 _ _ ?_
  refine sq fun K7 hK7 => ?_
  refine run_fz 7 1 (k := ?_)
  refine rg' (h := fun J8 hJ8 => ?_)
  refine hJ8 _ _ ?_
  refine hK7 _ _ ?_
  refine sq fun K9 hK9 => ?_
  refine sq fun K10 hK10 => ?_
  refine rg' (h := fun J11 hJ11 => ?_)
  refine hJ11 _ _ ?_
  refine hK10 _ _ ?_
  refine run_block_k ?_
  refine run_loopF (X := Nat) [0, 4, 5, 6, 7, 8] (fun n ρ σ1 => (n ≤ 512) ∧ (ρ 9 = .v (.int .i64 ((n : Int) - 1))) ∧ (σ1 = { σ with objs := σ.objs ++ [numA c], rows := σ.rows ++ [⟨0, u64s (digs 65536 32 (N / 2 ^ n / c * 2 ^ n)), some 0⟩, ⟨18, [], none⟩, ⟨0, u64s (digs 65536 17 (N / 2 ^ n % c)), some 0⟩] })) (fun n => n) (512) ?st1 ?rd1
  case st1 =>
   refine ⟨lp, lp, ?_⟩
   · rw [Nat.div_eq_of_lt hN]
     simp [digs_zero]
  case rd1 =>
   rintro n ρ1 σ1 hF1 ⟨hn, h9, hσ⟩
   obtain rfl := hσ.symm
   have f1 := keepL hF1
   try simp [KeepL, F] at f1
   replace F := And.intro h9 F
   try replace F := And.intro f1 F
   refine sq fun K12 hK12 => ?_
   refine sq fun K13 hK13 => ?_
   refine rg' (h := fun J14 hJ14 => ?_)
   refine hJ14 _ _ ?_
   refine hK13 _ _ ?_
   refine cs (fun c30 => ?_) (fun c30 => ?_)
   · try exact nope c30
     all_goals have c30p := c30
     all_goals try simp [F] at c30p
     all_goals
      replace F := And.intro c30 F
      try replace F := And.intro c30p F
      refine run_skip ?_
      refine hK12 _ _ ?_
      refine sq fun K15 hK15 => ?_
      refine run_block_k ?_
      refine sq fun K16 hK16 => ?_
      obtain ⟨j, rfl⟩ : ∃ j, n = j + 1 := ⟨n - 1, by simp at c30; omega⟩
      have hj : ((j + 1 : Nat) : Int) - 1 = (j : Int) := by omega
      rw [hj] at h9 F
      obtain ⟨q, hq⟩ : ∃ q, q = j / 16 := ⟨_, rfl⟩
      obtain ⟨r, hr⟩ : ∃ r, r = j % 16 := ⟨_, rfl⟩
      have e1 : (j : Int) / 16 = (q : Int) := by omega
      have e2 : (j : Int) % 16 = (r : Int) := by omega
      have hq32 : q < 32 := by omega
      have hq32i : (q : Int) < 32 := by omega
      have hr16 : r < 16 := by omega
      have e3 : (j : Int).tdiv 16 = (q : Int) := by rw [Int.tdiv_eq_ediv_of_nonneg (by omega)]; exact e1
      have e4 : (j : Int).tmod 16 = (r : Int) := by rw [Int.tmod_eq_emod_of_nonneg (by omega)]; exact e2
      obtain ⟨L, hL⟩ : ∃ L, L = N / 65536 ^ q % 65536 := ⟨_, rfl⟩
      have hgL : (u64s (digs 65536 32 N))[q]? = some (.v (.int .u64 L)) := by rw [hL]; exact digU_get hq32
      obtain ⟨_, hgL2⟩ := List.getElem?_eq_some_iff.1 hgL
      have hdL : List.drop q (u64s (digs 65536 32 N)) = .v (.int .u64 L) :: List.drop (q + 1) (u64s (digs 65536 32 N)) := by rw [List.drop_eq_getElem_cons (by simpa using hq32), hgL2]
      have hmin : min r 64 = r := by omega
      obtain ⟨B, hB⟩ : ∃ B, B = N / 2 ^ j % 2 := ⟨_, rfl⟩
      have hLr : L / 2 ^ r % 2 = B := by rw [hL, hB]; exact bit_gen (w := 16) hr16 (by omega)
      have hbit : ((L : Int).fdiv (2 ^ r)).tmod 2 = (B : Int) := by rw [pow2_cast, fdiv_nat, Int.tmod_eq_emod_of_nonneg (Int.natCast_nonneg _), ← hLr]; rfl
      obtain ⟨R, hR⟩ : ∃ R, R = N / 2 ^ (j + 1) % c := ⟨_, rfl⟩
      have hRl : R < c := by rw [hR]; exact Nat.mod_lt _ hc0
      obtain ⟨hd1, hd2, hd3⟩ := div_round (x := N) (c := c) (j := j) hc0
      rw [← hR, ← hB] at hd1 hd2 hd3
      obtain ⟨Q, hQ⟩ : ∃ Q, Q = N / 2 ^ (j + 1) / c * 2 ^ (j + 1) := ⟨_, rfl⟩
      rw [← hQ, ← hR]
      have hB1 : B ≤ 1 := by omega
      obtain ⟨T, hT⟩ : ∃ T, T = 2 * R + B := ⟨_, rfl⟩
      rw [← hT] at hd1 hd2 hd3
      have hTl : T < 65536 ^ 17 := by omega
      have hR17 : R < 65536 ^ 17 := by omega
      replace F := And.intro e1 F
      replace F := And.intro e2 F
      replace F := And.intro e3 F
      replace F := And.intro e4 F
      replace F := And.intro hq32 F
      replace F := And.intro hq32i F
      replace F := And.intro hr16 F
      replace F := And.intro hgL F
      replace F := And.intro hgL2 F
      replace F := And.intro hdL F
      replace F := And.intro hmin F
      replace F := And.intro hbit F
      refine rg' (h := fun J17 hJ17 => ?_)
      refine hJ17 _ _ ?_
      refine hK16 _ _ ?_
      refine sq fun K18 hK18 => ?_
      refine sq fun K19 hK19 => ?_
      refine rg' (h := fun J20 hJ20 => ?_)
      refine hJ20 _ _ ?_
      refine hK19 _ _ ?_
      refine run_block_k ?_
      refine run_loopF (X := Nat) [0, 4, 5, 6, 7, 8, 9, 29, 30, 33, 34, 35, 36, 37, 38, 39, 40, 41] (fun k ρ σ1 => (k ≤ 17) ∧ (ρ 10 = .v (.int .u64 (shc 65536 R B k : Nat))) ∧ (ρ 11 = .v (.int .i64 k)) ∧ (σ1 = { σ with objs := σ.objs ++ [numA c], rows := σ.rows ++ [⟨0, u64s (digs 65536 32 Q), some 0⟩, ⟨18, [], none⟩, ⟨0, u64s (mix 65536 17 k T R), some 0⟩] })) (fun k => 17 - k) (0) ?st2 ?rd2
      case st2 =>
       refine ⟨lp, ?_, lp, ?_⟩
       · simp [shc_zero]
       · rw [mix_zero]
      case rd2 =>
       rintro k ρ2 σ1 hF2 ⟨hk, h10, h11, hσ2⟩
       obtain rfl := hσ2.symm
       have f2 := keepL hF2
       try simp [KeepL, F] at f2
       replace F := And.intro h10 F
       replace F := And.intro h11 F
       try replace F := And.intro f2 F
       refine sq fun K21 hK21 => ?_
       refine sq fun K22 hK22 => ?_
       refine rg' (h := fun J23 hJ23 => ?_)
       refine hJ23 _ _ ?_
       refine hK22 _ _ ?_
       refine cs (fun c43 => ?_) (fun c43 => ?_)
       · try exact nope c43
         all_goals have c43p := c43
         all_goals try simp [F] at c43p
         all_goals
          replace F := And.intro c43 F
          try replace F := And.intro c43p F
          refine run_skip ?_
          refine hK21 _ _ ?_
          refine sq fun K24 hK24 => ?_
          refine run_block_k ?_
          refine sq fun K25 hK25 => ?_
          have hk17 : k < 17 := by simp at c43; omega
          have hgx := mixU_get (b := 65536) (s := T) (x := R) hk17
          have hml := mix_len (b := 65536) (s := T) (x := R) (Nat.le_of_lt hk17)
          obtain ⟨p, hp⟩ : ∃ p, p = R / 65536 ^ k % 65536 := ⟨_, rfl⟩
          rw [← hp] at hgx
          obtain ⟨_, hgx2⟩ := List.getElem?_eq_some_iff.1 hgx
          have hpl : p < 65536 := by rw [hp]; exact Nat.mod_lt _ (by decide)
          obtain ⟨u, hu⟩ : ∃ u, u = shc 65536 R B k := ⟨_, rfl⟩
          have hul : u ≤ 1 := by rw [hu]; exact shc_le (by decide) hB1
          rw [← hu] at h10 F
          obtain ⟨v, hv⟩ : ∃ v, v = 2 * p + u := ⟨_, rfl⟩
          have hve : (p : Int) * 2 + u = (v : Int) := by omega
          obtain ⟨m, hm⟩ : ∃ m, m = v % 65536 := ⟨_, rfl⟩
          obtain ⟨w, hw⟩ : ∃ w, w = v / 65536 := ⟨_, rfl⟩
          have hn6 : (v : Int).tmod 65536 = (m : Int) := by rw [Int.tmod_eq_emod_of_nonneg (by omega)]; omega
          have hn7 : (v : Int).tdiv 65536 = (w : Int) := by rw [Int.tdiv_eq_ediv_of_nonneg (by omega)]; omega
          have hn8 : (v : Int) % 65536 = (m : Int) := by omega
          have hn9 : (v : Int) / 65536 = (w : Int) := by omega
          have hk5 : (k : Int) < 17 := by omega
          have hdg : m = T / 65536 ^ k % 65536 := by rw [hm, hv, hT, hp, hu]; exact shc_dig (by decide)
          have hnx : w = shc 65536 R B (k + 1) := by rw [hw, hv, hp, hu]; exact shc_next (by decide)
          have hset := mixU_set (b := 65536) (s := T) (x := R) hk17
          rw [← hdg] at hset
          replace F := And.intro hgx F
          replace F := And.intro hgx2 F
          replace F := And.intro hml F
          replace F := And.intro hve F
          replace F := And.intro hn6 F
          replace F := And.intro hn7 F
          replace F := And.intro hn8 F
          replace F := And.intro hn9 F
          replace F := And.intro hk17 F
          replace F := And.intro hk5 F
          refine rg' (h := fun J26 hJ26 => ?_)
          refine hJ26 _ _ ?_
          refine hK25 _ _ ?_
          refine sq fun K27 hK27 => ?_
          refine rg' (h := fun J28 hJ28 => ?_)
          refine hJ28 _ _ ?_
          refine hK27 _ _ ?_
          refine rg' (h := fun J29 hJ29 => ?_)
          refine hJ29 _ _ ?_
          refine hK24 _ _ ?_
          refine rg' (h := fun J30 hJ30 => ?_)
          refine hJ30 _ _ ?_
          refine ⟨(k + 1), ⟨kp, lp, ?_, lp, ?_⟩, lp⟩
          · simp [F, hnx]
          · simp [F, hset]
       try exact nope c43
       all_goals have c43p := c43
       all_goals try simp [F] at c43p
       all_goals
        replace F := And.intro c43 F
        try replace F := And.intro c43p F
        obtain rfl : k = 17 := by simp at c43; omega
        rw [mix_all]
        refine run_exit ?_
        refine hK18 _ _ ?_
        refine sq fun K31 hK31 => ?_
        refine sq fun K32 hK32 => ?_
        refine rg' (h := fun J33 hJ33 => ?_)
        refine ca (c := less_ok (k := σ.rows.length + 2) (g := 0) (n := 17) (x := T) (y := c) (sp := some 0) (by simp [get_appN]) (by omega) hTl hc17) (k := ?_)
        rintro _ _ ⟨rfl, rfl⟩
        repeat (first | simp [F] | simp (disch := omega) only [wC, if_pos, if_neg])
        refine hJ33 _ _ ?_
        refine hK32 _ _ ?_
        refine cs (fun c62 => ?_) (fun c62 => ?_)
        · try exact nope c62
          all_goals have c62p := c62
          all_goals try simp [F] at c62p
          all_goals
           replace F := And.intro c62 F
           try replace F := And.intro c62p F
           have hcT : T < c := by simpa using c62
           obtain ⟨hd4, hd5⟩ := hd1 hcT
           have hQ2 : N / 2 ^ j / c * 2 ^ j = Q := by rw [hd4, hQ, Nat.pow_succ]; grind
           replace F := And.intro hd5 (And.intro hQ2 F)
           refine run_exit ?_
           refine hK15 _ _ ?_
           refine rg' (h := fun J34 hJ34 => ?_)
           refine hJ34 _ _ ?_
           refine ⟨(j), ⟨kp, lp, lp, lp⟩, lp⟩
        try exact nope c62
        all_goals have c62p := c62
        all_goals try simp [F] at c62p
        all_goals
         replace F := And.intro c62 F
         try replace F := And.intro c62p F
         have hcT : c ≤ T := by simpa using c62
         obtain ⟨hd4, hd5⟩ := hd2 hcT
         obtain ⟨s4, hs4⟩ : ∃ s4, s4 = T + 65536 ^ 17 - c := ⟨_, rfl⟩
         refine run_skip ?_
         refine hK31 _ _ ?_
         refine sq fun K35 hK35 => ?_
         refine rg' (h := fun J36 hJ36 => ?_)
         refine hJ36 _ _ ?_
         refine hK35 _ _ ?_
         refine sq fun K37 hK37 => ?_
         refine sq fun K38 hK38 => ?_
         refine rg' (h := fun J39 hJ39 => ?_)
         refine hJ39 _ _ ?_
         refine hK38 _ _ ?_
         refine run_block_k ?_
         refine run_loopF (X := Nat) [0, 4, 5, 6, 7, 8, 9, 10, 11, 29, 30, 33, 34, 35, 36, 37, 38, 39, 40, 41, 42, 43, 60, 61, 62] (fun k ρ σ1 => (k ≤ 17) ∧ (ρ 13 = .v (.int .u64 (subb 65536 T c k : Nat))) ∧ (ρ 14 = .v (.int .i64 k)) ∧ (σ1 = { σ with objs := σ.objs ++ [numA c], rows := σ.rows ++ [⟨0, u64s (digs 65536 32 Q), some 0⟩, ⟨18, [], none⟩, ⟨0, u64s (mix 65536 17 k s4 T), some 0⟩] })) (fun k => 17 - k) (0) ?st3 ?rd3
         case st3 =>
          refine ⟨lp, ?_, lp, ?_⟩
          · simp [subb_zero]
          · rw [mix_zero]
         case rd3 =>
          rintro k ρ3 σ1 hF3 ⟨hk, h13, h14, hσ3⟩
          obtain rfl := hσ3.symm
          have f3 := keepL hF3
          try simp [KeepL, F] at f3
          replace F := And.intro h13 F
          replace F := And.intro h14 F
          try replace F := And.intro f3 F
          refine sq fun K40 hK40 => ?_
          refine sq fun K41 hK41 => ?_
          refine rg' (h := fun J42 hJ42 => ?_)
          refine hJ42 _ _ ?_
          refine hK41 _ _ ?_
          refine cs (fun c64 => ?_) (fun c64 => ?_)
          · try exact nope c64
            all_goals have c64p := c64
            all_goals try simp [F] at c64p
            all_goals
             replace F := And.intro c64 F
             try replace F := And.intro c64p F
             refine run_skip ?_
             refine hK40 _ _ ?_
             refine sq fun K43 hK43 => ?_
             refine run_block_k ?_
             refine sq fun K44 hK44 => ?_
             have hk17 : k < 17 := by simp at c64; omega
             have hgx := mixU_get (b := 65536) (s := s4) (x := T) hk17
             have hgy := digU_get (b := 65536) (x := c) hk17
             have hml := mix_len (b := 65536) (s := s4) (x := T) (Nat.le_of_lt hk17)
             obtain ⟨p, hp⟩ : ∃ p, p = T / 65536 ^ k % 65536 := ⟨_, rfl⟩
             obtain ⟨y, hy⟩ : ∃ y, y = c / 65536 ^ k % 65536 := ⟨_, rfl⟩
             rw [← hp] at hgx
             rw [← hy] at hgy
             obtain ⟨_, hgx2⟩ := List.getElem?_eq_some_iff.1 hgx
             obtain ⟨_, hgy2⟩ := List.getElem?_eq_some_iff.1 hgy
             have hk5 : (k : Int) < 17 := by omega
             have hdy : List.drop k (u64s (digs 65536 17 c)) = .v (.int .u64 y) :: List.drop (k + 1) (u64s (digs 65536 17 c)) := by rw [List.drop_eq_getElem_cons (by simpa using hk17), hgy2]
             have hpl : p < 65536 := by rw [hp]; exact Nat.mod_lt _ (by decide)
             have hyl : y < 65536 := by rw [hy]; exact Nat.mod_lt _ (by decide)
             obtain ⟨u, hu⟩ : ∃ u, u = subb 65536 T c k := ⟨_, rfl⟩
             have hul : u ≤ 1 := by rw [hu]; exact subb_le _ _ _ _
             rw [← hu] at h13 F
             obtain ⟨v, hv⟩ : ∃ v, v = p + 65536 - y - u := ⟨_, rfl⟩
             have hve : (p : Int) + 65536 - y - u = (v : Int) := by omega
             obtain ⟨m, hm⟩ : ∃ m, m = v % 65536 := ⟨_, rfl⟩
             obtain ⟨w, hw⟩ : ∃ w, w = v / 65536 := ⟨_, rfl⟩
             obtain ⟨u2, hu2⟩ : ∃ u2, u2 = 1 - w := ⟨_, rfl⟩
             have hw1 : w ≤ 1 := by omega
             have hn6 : (v : Int).tmod 65536 = (m : Int) := by rw [Int.tmod_eq_emod_of_nonneg (by omega)]; omega
             have hn7 : (v : Int).tdiv 65536 = (w : Int) := by rw [Int.tdiv_eq_ediv_of_nonneg (by omega)]; omega
             have hn8 : (v : Int) % 65536 = (m : Int) := by omega
             have hn9 : (v : Int) / 65536 = (w : Int) := by omega
             have hdg : m = s4 / 65536 ^ k % 65536 := by rw [hm, hv, hs4, hp, hy, hu]; exact subb_dig (by decide) hk17 hTl hc17
             have hc3 : u2 = subb 65536 T c (k + 1) := by rw [← subb_next (by decide), ← hp, ← hy, ← hu]; split <;> omega
             have hset := mixU_set (b := 65536) (s := s4) (x := T) hk17
             rw [← hdg] at hset
             replace F := And.intro hgx F
             replace F := And.intro hgy F
             replace F := And.intro hgx2 F
             replace F := And.intro hgy2 F
             replace F := And.intro hdy F
             replace F := And.intro hml F
             replace F := And.intro hve F
             replace F := And.intro hn6 F
             replace F := And.intro hn7 F
             replace F := And.intro hn8 F
             replace F := And.intro hn9 F
             replace F := And.intro hk17 F
             replace F := And.intro hk5 F
             refine run_draw (by kernel_rfl) fun J45 hJ45 => ?_
             refine rp2 0 (k := ?_)
             refine rp2 1 (k := ?_)
             refine rp2 2 (k := ?_)
             refine rp2 3 (k := ?_)
             refine rp2 4 (k := ?_)
             refine rp2 5 (k := ?_)
             refine rp2 6 (k := ?_)
             refine rp2 7 (k := ?_)
             refine rp2 8 (k := ?_)
             refine rp2 9 (k := ?_)
             refine rp2 10 (k := ?_)
             refine rp2 11 (k := ?_)
             refine rp2 12 (k := ?_)
             refine dd ?_
             refine hJ45 _ _ ?_
             refine hK44 _ _ ?_
             refine sq fun K46 hK46 => ?_
             refine rg' (h := fun J47 hJ47 => ?_)
             refine hJ47 _ _ ?_
             refine hK46 _ _ ?_
             refine rg' (h := fun J48 hJ48 => ?_)
             refine hJ48 _ _ ?_
             refine hK43 _ _ ?_
             refine rg' (h := fun J49 hJ49 => ?_)
             refine hJ49 _ _ ?_
             refine ⟨(k + 1), ⟨kp, lp, ?_, lp, ?_⟩, lp⟩
             · simp only [putA_get]
               repeat (first | simp [F] | simp (disch := omega) only [wC, if_pos, if_neg])
               rw [← hc3]
               omega
             · simp [F, hset]
          try exact nope c64
          all_goals have c64p := c64
          all_goals try simp [F] at c64p
          all_goals
           replace F := And.intro c64 F
           try replace F := And.intro c64p F
           obtain rfl : k = 17 := by simp at c64; omega
           rw [mix_all, hs4, digs_sub (by omega) hcT, ← hd5]
           refine run_exit ?_
           refine hK37 _ _ ?_
           obtain ⟨M, hM⟩ : ∃ M, M = Q / 65536 ^ q % 65536 := ⟨_, rfl⟩
           have hgM := digU_get (b := 65536) (x := Q) hq32
           rw [← hM] at hgM
           obtain ⟨_, hgM2⟩ := List.getElem?_eq_some_iff.1 hgM
           have hQ0 : Q / 2 ^ j % 2 = 0 := by rw [hQ, Nat.pow_succ, show N / (2 ^ j * 2) / c * (2 ^ j * 2) = 2 ^ j * (N / (2 ^ j * 2) / c * 2) by grind, Nat.mul_div_cancel_left _ (Nat.two_pow_pos j)]; omega
           have hQ2 : N / 2 ^ j / c * 2 ^ j = Q + 2 ^ j := by rw [hd4, hQ, Nat.pow_succ]; grind
           have hQl : Q + 2 ^ j < 2 ^ 512 := by rw [← hQ2]; exact Nat.lt_of_le_of_lt (Nat.le_trans (Nat.mul_le_mul_right _ (Nat.div_le_self _ _)) (Nat.div_mul_le_self _ _)) hN
           obtain ⟨hb1, hb3⟩ := digs_bit16 hM hr16 (show j = 16 * q + r by omega) hq32 hQ0 hQl
           obtain ⟨E, hE⟩ : ∃ E, E = 2 ^ r := ⟨_, rfl⟩
           rw [← hE] at hb1 hb3
           have hsl : IntKind.u64.wrap (2 ^ r) = (E : Int) := by rw [pow2_cast, ← hE]; exact wrapN (by omega)
           obtain ⟨M2, hM2⟩ : ∃ M2, M2 = M + E := ⟨_, rfl⟩
           have hadM : IntKind.u64.wrap ((M : Int) + E) = (M2 : Int) := by rw [show (M : Int) + E = (M2 : Int) by omega]; exact wrapN (by omega)
           rw [← hM2] at hb3
           have hset := u64s_set (digs 65536 32 Q) q M2 (by simpa using hq32)
           rw [hb3] at hset
           replace F := And.intro hgM F
           replace F := And.intro hgM2 F
           replace F := And.intro hsl F
           replace F := And.intro hadM F
           replace F := And.intro hQ2 F
           replace F := And.intro hset F
           refine run_draw (by kernel_rfl) fun J50 hJ50 => ?_
           refine rp2 0 (k := ?_)
           refine rp2 1 (k := ?_)
           refine rp2 2 (k := ?_)
           refine rp2 3 (k := ?_)
           refine rp2 4 (k := ?_)
           refine rp2 5 (k := ?_)
           refine rp2 6 (k := ?_)
           refine rp2 7 (k := ?_)
           refine rp2 8 (k := ?_)
           refine rp2 9 (k := ?_)
           refine dop 10 rfl ?_
           repeat (first | simp [F] | simp (disch := omega) only [wC, if_pos, if_neg])
           refine ⟨ln, ?_⟩
           refine dd ?_
           refine hJ50 _ _ ?_
           refine hK15 _ _ ?_
           refine rg' (h := fun J51 hJ51 => ?_)
           refine hJ51 _ _ ?_
           refine ⟨(j), ⟨kp, lp, lp, lp⟩, lp⟩
   try exact nope c30
   all_goals have c30p := c30
   all_goals try simp [F] at c30p
   all_goals
    replace F := And.intro c30 F
    try replace F := And.intro c30p F
    obtain rfl : n = 0 := by simp at c30; omega
    have e0 : N / 2 ^ 0 / c * 2 ^ 0 = N / c := by simp
    have e1 : N / 2 ^ 0 % c = N % c := by simp
    rw [e0, e1]
    obtain ⟨R, hR⟩ : ∃ R, R = N % c := ⟨_, rfl⟩
    rw [← hR]
    have hR17 : R < 65536 ^ 17 := by have := Nat.mod_lt N hc0; omega
    refine run_exit ?_
    refine hK9 _ _ ?_
    refine sq fun K52 hK52 => ?_
    refine sq fun K53 hK53 => ?_
    refine rg' (h := fun J54 hJ54 => ?_)
    refine hJ54 _ _ ?_
    refine hK53 _ _ ?_
    refine run_block_k ?_
    refine run_loopF (X := Nat) [6, 8] (fun k ρ σ1 => (k ≤ 17) ∧ (∀ i, i < k → R / 65536 ^ i % 65536 = 0) ∧ (ρ 16 = .v (.int .i64 k)) ∧ (σ1 = { σ with objs := σ.objs ++ [numA c], rows := σ.rows ++ [⟨0, u64s (digs 65536 32 (N / c)), some 0⟩, ⟨18, [], none⟩, ⟨0, u64s (digs 65536 17 R), some 0⟩] })) (fun k => 17 - k) (0) ?st4 ?rd4
    case st4 =>
     refine ⟨lp, ?_, lp, lp⟩
     · intro i h
       omega
    case rd4 =>
     rintro k ρ4 σ1 hF4 ⟨hk, hz, h16, hσ4⟩
     obtain rfl := hσ4.symm
     have f4 := keepL hF4
     try simp [KeepL, F] at f4
     replace F := And.intro h16 F
     try replace F := And.intro f4 F
     refine sq fun K55 hK55 => ?_
     refine sq fun K56 hK56 => ?_
     refine rg' (h := fun J57 hJ57 => ?_)
     refine hJ57 _ _ ?_
     refine hK56 _ _ ?_
     refine cs (fun c98 => ?_) (fun c98 => ?_)
     · try exact nope c98
       all_goals have c98p := c98
       all_goals try simp [F] at c98p
       all_goals
        replace F := And.intro c98 F
        try replace F := And.intro c98p F
        refine run_skip ?_
        refine hK55 _ _ ?_
        refine sq fun K58 hK58 => ?_
        refine run_block_k ?_
        refine sq fun K59 hK59 => ?_
        have hk17 : k < 17 := by simp at c98; omega
        have hgx := digU_get (b := 65536) (x := R) hk17
        obtain ⟨p, hp⟩ : ∃ p, p = R / 65536 ^ k % 65536 := ⟨_, rfl⟩
        rw [← hp] at hgx
        obtain ⟨_, hgx2⟩ := List.getElem?_eq_some_iff.1 hgx
        have hk5 : (k : Int) < 17 := by omega
        replace F := And.intro hgx F
        replace F := And.intro hgx2 F
        replace F := And.intro hk17 F
        replace F := And.intro hk5 F
        refine rg' (h := fun J60 hJ60 => ?_)
        refine hJ60 _ _ ?_
        refine hK59 _ _ ?_
        refine cs (fun c105 => ?_) (fun c105 => ?_)
        · try exact nope c105
          all_goals have c105p := c105
          all_goals try simp [F] at c105p
          all_goals
           replace F := And.intro c105 F
           try replace F := And.intro c105p F
           have hR0 : ¬ R = 0 := by intro e; have h := c105; simp at h; rw [e] at hp; simp at hp; omega
           replace F := And.intro hR0 F
           refine sq fun K61 hK61 => ?_
           refine rg' (h := fun J62 hJ62 => ?_)
           refine hJ62 _ _ ?_
           refine hK61 _ _ ?_
           refine run_ret ?_
           try simp only [Then, InBlock, NoGoto]
           refine answer_tmp2 rfl (.inr rfl) ?_
           rw [← hR]
           exact gco
        try exact nope c105
        all_goals have c105p := c105
        all_goals try simp [F] at c105p
        all_goals
         replace F := And.intro c105 F
         try replace F := And.intro c105p F
         refine run_skip ?_
         refine hK58 _ _ ?_
         refine rg' (h := fun J63 hJ63 => ?_)
         refine hJ63 _ _ ?_
         refine ⟨(k + 1), ⟨kp, lp, ?_, lp, lp⟩, lp⟩
         · intro i h
           by_cases hi : i = k
           · subst hi; rw [← hp]; have h := c105; simp at h; omega
           · exact hz i (by omega)
     try exact nope c98
     all_goals have c98p := c98
     all_goals try simp [F] at c98p
     all_goals
      replace F := And.intro c98 F
      try replace F := And.intro c98p F
      obtain rfl : k = 17 := by simp at c98; omega
      have hR0 : R = 0 := digs_all0 hR17 hz
      subst hR0
      refine run_exit ?_
      refine hK52 _ _ ?_
      refine sq fun K64 hK64 => ?_
      refine rg' (h := fun J65 hJ65 => ?_)
      refine hJ65 _ _ ?_
      refine hK64 _ _ ?_
      refine run_ret ?_
      try simp only [Then, InBlock, NoGoto]
      refine answer_tmp2 rfl (.inr rfl) ?_
      rw [← hR]
      exact gco

end Go.Proofs.Ytdbaddholggkbaa

/-
  The document's numbers: a product by a number.
-/
namespace Go.Proofs.Ytdbaddholggkbaa
set_option linter.unnecessarySimpa false
set_option maxRecDepth 100000
set_option exponentiation.threshold 600
open Go Go.Vm
set_option linter.unusedSimpArgs false
set_option linter.unusedVariables false

attribute [local simp] evalL wantedA isCall opA evalA evalAll evalsA evalOpt ofValue ofCell plain binA_eql_pn binA_neq_pn binA_gtr binA_lss binA_geq binA_leq binA_add binA_sub binA_eql binA_neq binA_orI binA_andI binA_shl binA_shr binA_mul binA_quo binA_rem binA_agg_eql binA_agg_neq convA_int unA_not fieldAddrA loadA partA pickA_true pickA_false pickA_bb lenA builtinA makeA zeros64 storeA splice readA rowAppA zc64 appendA roomA maxLen AV.cells AV.isCell sliceA boundA intA callOf indexAddrA newObjA buildA fillA zeroA ofCells buildSliceA indexA fieldA numA_len4 numA_take4 numA_drop4 set_appN get_appN take_appN List.getElem?_cons_zero List.getElem?_cons_succ

theorem valD_inc {Q : Nat} (hQ : Q < 2 ^ 512) : valD 65536 ((digs 65536 32 Q).set 0 (Q % 65536 + 1)) = Q + 1 := by
  have h8 : (65536 : Nat) ^ 32 = 2 ^ 512 := by rw [show (65536 : Nat) = 2 ^ 16 from rfl, ← Nat.pow_mul]
  have e := valD_set (b := 65536) (l := digs 65536 32 Q) (i := 0) (by simp) (Q % 65536 + 1)
  rw [digs_get (by omega), valD_digs, h8, Nat.mod_eq_of_lt hQ] at e
  simp at e
  omega

theorem set_le {n Q i m : Nat} (hm : m ≤ 65536) : ∀ d ∈ (digs 65536 n Q).set i m, d ≤ 4611686018427387904 := by
  intro d hd
  rcases List.mem_or_eq_of_mem_set hd with h | h
  · have := digs_lt (b := 65536) (by decide) d h; omega
  · omega

set_option maxHeartbeats 1600000 in
attribute [local simp] undefA List.getElem?_cons_zero List.getElem?_cons_succ numA_zero4 in
theorem rmuldiv_ok {σ : St} {a b c : Nat} {up : Bool} (ha : a < 2 ^ 256) (hb : b < 2 ^ 256) (hc : c < 2 ^ 256) :
    CallsA Try.prog 69 [.agg (numA a), .agg (numA b), .agg (numA c), .v (.bool up)] σ (fun av σ' => av = .tup [.agg (numA (mdN a b c up)), .v (.int .i64 (mdE a b c up : Nat))] ∧ σ = σ') := by
  refine callsA_gcS ?_ (by simp [AV.under, underL, numA])
  have hP := prod_lt ha hb
  obtain ⟨Q, hQ⟩ : ∃ Q, Q = a * b / c := ⟨_, rfl⟩
  have hQl : Q < 2 ^ 512 := by rw [hQ]; exact Nat.lt_of_le_of_lt (Nat.div_le_self _ _) hP
  obtain ⟨V, hV⟩ : ∃ V, V = mdQ a b c up := ⟨_, rfl⟩
  have F := True.intro
  refine callsA_body Try.func69 rfl rfl rfl ?_
  refine sq fun K1 hK1 => ?_
  refine rg' (h := fun J2 hJ2 => ?_)
  refine hJ2 _ _ ?_
  refine hK1 _ _ ?_
  refine sq fun K3 hK3 => ?_
  refine sq fun K4 hK4 => ?_
  refine rg' (h := fun J5 hJ5 => ?_)
  refine ca (c := zero_ok (x := ⟨c, hc⟩)) (k := ?_)
  rintro _ _ ⟨rfl, rfl⟩
  repeat (first | simp [F] | simp (disch := omega) only [wC, if_pos, if_neg])
  refine hJ5 _ _ ?_
  refine hK4 _ _ ?_
  refine cs (fun c15 => ?_) (fun c15 => ?_)
  · try exact nope c15
    all_goals have c15p := c15
    all_goals try simp [F] at c15p
    all_goals
     replace F := And.intro c15 F
     try replace F := And.intro c15p F
     have h0 : c = 0 := by simpa using c15
     subst h0
     have e1 : mdN a b 0 up = 0 := by simp [mdN]
     have e2 : mdE a b 0 up = 1 := by simp [mdE]
     replace F := And.intro e1 (And.intro e2 F)
     refine sq fun K6 hK6 => ?_
     refine rg' (h := fun J7 hJ7 => ?_)
     refine hJ7 _ _ ?_
     refine hK6 _ _ ?_
     refine run_ret ?_
     try simp only [Then, InBlock, NoGoto]
     refine acell2 (h := ?_)
     exact gcr
  try exact nope c15
  all_goals have c15p := c15
  all_goals try simp [F] at c15p
  all_goals
   replace F := And.intro c15 F
   try replace F := And.intro c15p F
   have h0 : ¬ c = 0 := by simpa using c15
   have e1 : mdN a b c up = if V < 2 ^ 256 then V else 0 := by rw [hV]; exact if_neg h0
   have e2 : mdE a b c up = if V < 2 ^ 256 then 0 else 2 := by rw [hV]; exact if_neg h0
   replace F := And.intro e1 (And.intro e2 F)
   refine run_skip ?_
   refine hK3 _ _ ?_
   refine sq fun K8 hK8 => ?_
   refine run_draw (by kernel_rfl) fun J9 hJ9 => ?_
   refine rp2 0 (k := ?_)
   refine rp2 1 (k := ?_)
   refine rp2 3 (k := ?_)
   refine dc 2 rfl (c := wide_ok ha hb) (k := ?_)
   rintro _ _ ⟨rfl, rfl⟩
   refine ⟨by first | exact fun _ _ h => h | (refine later_list [3] (by kernel_rfl) (List.forall_mem_cons.2 ⟨fun _ => fact2 rfl rfl ?_, fun _ h => absurd h List.not_mem_nil⟩) <;> constructor <;> first | rfl | (simp [F]; done)), ?_⟩
   repeat (first | simp [F] | simp (disch := omega) only [wC, if_pos, if_neg])
   refine dc 4 rfl (c := by_raw hP hc (by omega)) (k := ?_)
   rintro _ _ ⟨rfl, rfl⟩
   refine ⟨ln, ?_⟩
   repeat (first | simp [F] | simp (disch := omega) only [wC, if_pos, if_neg])
   refine rp2 5 (k := ?_)
   refine rp2 6 (k := ?_)
   refine rp2 7 (k := ?_)
   refine rp2 8 (k := ?_)
   refine rp2 9 (k := ?_)
   refine dd ?_
   refine hJ9 _ _ ?_
   refine hK8 _ _ ?_
   refine sq fun K10 hK10 => ?_
   refine sq fun K11 hK11 => ?_
   rw [← hQ]
   refine run_forget σ.rows.length (k := ?_)
   have hgQ : (u64s (digs 65536 32 Q))[0]? = some (.v (.int .u64 (Q % 65536 : Nat))) := by have := digU_get (b := 65536) (x := Q) (show 0 < 32 by omega); simpa using this
   obtain ⟨M, hM⟩ : ∃ M, M = Q % 65536 := ⟨_, rfl⟩
   rw [← hM] at hgQ
   obtain ⟨_, hgQ2⟩ := List.getElem?_eq_some_iff.1 hgQ
   have hset := u64s_set (digs 65536 32 Q) 0 (M + 1) (by simp)
   obtain ⟨L, hL⟩ : ∃ L, L = (digs 65536 32 Q).set 0 (M + 1) := ⟨_, rfl⟩
   rw [← hL] at hset
   have hLl : L.length = 32 := by rw [hL]; simp
   have hLv : valD 65536 L = Q + 1 := by rw [hL, hM]; exact valD_inc hQl
   have hLm : ∀ d ∈ L, d ≤ 4611686018427387904 := by rw [hL]; exact set_le (by omega)
   have hMw : IntKind.u64.wrap ((M : Int) + 1) = ((M + 1 : Nat) : Int) := by rw [wrap_u64c (by omega)]; rfl
   obtain ⟨M1, hM1⟩ : ∃ M1, M1 = M + 1 := ⟨_, rfl⟩
   rw [← hM1] at hset hMw
   simp only [List.take_zero, List.nil_append, Nat.zero_add, List.drop_one] at hset
   replace F := And.intro hset F
   replace F := And.intro hgQ F
   replace F := And.intro hgQ2 F
   replace F := And.intro hMw F
   replace F := And.intro hLl F
   refine rg' (h := fun J12 hJ12 => ?_)
   refine gs 26 (fun g4_1 => ?_) (fun g4_1 => ?_)
   · try exact nope g4_1
     all_goals have g4_1p := g4_1
     all_goals try simp [F] at g4_1p
     all_goals
      replace F := And.intro g4_1 F
      try replace F := And.intro g4_1p F
      refine go2 (k := ?_)
      refine hJ12 _ _ ?_
      refine hK11 _ _ ?_
      refine cs (fun c28 => ?_) (fun c28 => ?_)
      · try exact nope c28
        all_goals have c28p := c28
        all_goals try simp [F] at c28p
        all_goals
         replace F := And.intro c28 F
         try replace F := And.intro c28p F
         have hr : up = true ∧ ¬ a * b % c = 0 := ⟨by first | exact c28 | simpa using c28, by simpa using g4_1⟩
         have hVq : V = Q + 1 := by rw [hV, hQ]; unfold mdQ; rw [if_pos ⟨hr.1, hr.2⟩]
         obtain ⟨hu, _⟩ := hr
         subst hu
         refine sq fun K13 hK13 => ?_
         refine rg' (h := fun J14 hJ14 => ?_)
         refine hJ14 _ _ ?_
         refine hK13 _ _ ?_
         refine rg' (h := fun J15 hJ15 => ?_)
         refine ca (c := carry_ok (k := σ.rows.length) (g := 0) (n := 32) (L := L) (by simp) hLl (by omega) hLm) (k := ?_)
         rintro _ _ ⟨rfl, rfl⟩
         rw [hLv, ← hVq]
         repeat (first | simp [F] | simp (disch := omega) only [wC, if_pos, if_neg])
         refine hJ15 _ _ ?_
         refine hK10 _ _ ?_
         refine sq fun K16 hK16 => ?_
         refine run_fz 10 1 (k := ?_)
         refine rg' (h := fun J17 hJ17 => ?_)
         refine ca (c := rof_ok (L := digs 65536 32 V ++ [V / 65536 ^ 32]) (n := 33) (by simp) (by omega) (by omega) (by rw [List.take_append_of_le_length (by simp)]; intro d hd; exact digs_lt (by decide) d (List.mem_of_mem_take hd))) (k := ?_)
         rintro _ _ ⟨rfl, rfl⟩
         try rw [valD_whole]
         try rw [valD_digs, show (65536 : Nat) ^ 32 = 2 ^ 512 by rw [show (65536 : Nat) = 2 ^ 16 from rfl, ← Nat.pow_mul], Nat.mod_eq_of_lt hQl, ← hVq]
         repeat (first | simp [F] | simp (disch := omega) only [wC, if_pos, if_neg])
         refine hJ17 _ _ ?_
         refine hK16 _ _ ?_
         refine sq fun K18 hK18 => ?_
         refine sq fun K19 hK19 => ?_
         refine rg' (h := fun J20 hJ20 => ?_)
         refine hJ20 _ _ ?_
         refine hK19 _ _ ?_
         refine cs (fun c42 => ?_) (fun c42 => ?_)
         · try exact nope c42
           all_goals have c42p := c42
           all_goals try simp [F] at c42p
           all_goals
            replace F := And.intro c42 F
            try replace F := And.intro c42p F
            have hbig : ¬ V < 2 ^ 256 := by have h := c42; simp at h; omega
            simp only [Nat.reducePow] at hbig
            replace F := And.intro hbig F
            refine sq fun K21 hK21 => ?_
            refine rg' (h := fun J22 hJ22 => ?_)
            refine hJ22 _ _ ?_
            refine hK21 _ _ ?_
            refine run_ret ?_
            try simp only [Then, InBlock, NoGoto]
            refine acell2 (h := ?_)
            exact gcr
         try exact nope c42
         all_goals have c42p := c42
         all_goals try simp [F] at c42p
         all_goals
          replace F := And.intro c42 F
          try replace F := And.intro c42p F
          have hfit : V < 2 ^ 256 := by have h := c42; simp at h; omega
          simp only [Nat.reducePow] at hfit
          replace F := And.intro hfit F
          refine run_skip ?_
          refine hK18 _ _ ?_
          refine sq fun K23 hK23 => ?_
          refine rg' (h := fun J24 hJ24 => ?_)
          refine hJ24 _ _ ?_
          refine hK23 _ _ ?_
          refine run_ret ?_
          try simp only [Then, InBlock, NoGoto]
          refine acell2 (h := ?_)
          exact gcr
      try exact nope c28
      all_goals have c28p := c28
      all_goals try simp [F] at c28p
      all_goals
       replace F := And.intro c28 F
       try replace F := And.intro c28p F
       have hVq : V = Q := by rw [hV, hQ]; unfold mdQ; rw [if_neg]; omega; rintro ⟨h1, h2⟩; simp_all
       have hu : up = false := by first | exact c28 | simpa using c28
       subst hu
       refine run_skip ?_
       refine hK10 _ _ ?_
       refine sq fun K25 hK25 => ?_
       refine run_fz 10 1 (k := ?_)
       refine rg' (h := fun J26 hJ26 => ?_)
       refine ca (c := rof_ok (L := digs 65536 32 Q) (n := 32) (by simp) (by omega) (by omega) (by intro d hd; exact digs_lt (by decide) d (List.mem_of_mem_take hd))) (k := ?_)
       rintro _ _ ⟨rfl, rfl⟩
       try rw [valD_whole]
       try rw [valD_digs, show (65536 : Nat) ^ 32 = 2 ^ 512 by rw [show (65536 : Nat) = 2 ^ 16 from rfl, ← Nat.pow_mul], Nat.mod_eq_of_lt hQl, ← hVq]
       repeat (first | simp [F] | simp (disch := omega) only [wC, if_pos, if_neg])
       refine hJ26 _ _ ?_
       refine hK25 _ _ ?_
       refine sq fun K27 hK27 => ?_
       refine sq fun K28 hK28 => ?_
       refine rg' (h := fun J29 hJ29 => ?_)
       refine hJ29 _ _ ?_
       refine hK28 _ _ ?_
       refine cs (fun c42 => ?_) (fun c42 => ?_)
       · try exact nope c42
         all_goals have c42p := c42
         all_goals try simp [F] at c42p
         all_goals
          replace F := And.intro c42 F
          try replace F := And.intro c42p F
          have hbig : ¬ V < 2 ^ 256 := by have h := c42; simp at h; omega
          simp only [Nat.reducePow] at hbig
          replace F := And.intro hbig F
          refine sq fun K30 hK30 => ?_
          refine rg' (h := fun J31 hJ31 => ?_)
          refine hJ31 _ _ ?_
          refine hK30 _ _ ?_
          refine run_ret ?_
          try simp only [Then, InBlock, NoGoto]
          refine acell2 (h := ?_)
          exact gcr
       try exact nope c42
       all_goals have c42p := c42
       all_goals try simp [F] at c42p
       all_goals
        replace F := And.intro c42 F
        try replace F := And.intro c42p F
        have hfit : V < 2 ^ 256 := by have h := c42; simp at h; omega
        simp only [Nat.reducePow] at hfit
        replace F := And.intro hfit F
        refine run_skip ?_
        refine hK27 _ _ ?_
        refine sq fun K32 hK32 => ?_
        refine rg' (h := fun J33 hJ33 => ?_)
        refine hJ33 _ _ ?_
        refine hK32 _ _ ?_
        refine run_ret ?_
        try simp only [Then, InBlock, NoGoto]
        refine acell2 (h := ?_)
        exact gcr
   try exact nope g4_1
   all_goals have g4_1p := g4_1
   all_goals try simp [F] at g4_1p
   all_goals
    replace F := And.intro g4_1 F
    try replace F := And.intro g4_1p F
    have hVq : V = Q := by have h := g4_1; simp at h; rw [hV, hQ]; unfold mdQ; rw [if_neg (fun h2 => h2.2 h)]; rfl
    refine no2 (k := ?_)
    refine hJ12 _ _ ?_
    refine hK11 _ _ ?_
    refine cf ?_
    refine run_skip ?_
    refine hK10 _ _ ?_
    refine sq fun K34 hK34 => ?_
    refine run_fz 10 1 (k := ?_)
    refine rg' (h := fun J35 hJ35 => ?_)
    refine ca (c := rof_ok (L := digs 65536 32 Q) (n := 32) (by simp) (by omega) (by omega) (by intro d hd; exact digs_lt (by decide) d (List.mem_of_mem_take hd))) (k := ?_)
    rintro _ _ ⟨rfl, rfl⟩
    try rw [valD_whole]
    try rw [valD_digs, show (65536 : Nat) ^ 32 = 2 ^ 512 by rw [show (65536 : Nat) = 2 ^ 16 from rfl, ← Nat.pow_mul], Nat.mod_eq_of_lt hQl, ← hVq]
    repeat (first | simp [F] | simp (disch := omega) only [wC, if_pos, if_neg])
    refine hJ35 _ _ ?_
    refine hK34 _ _ ?_
    refine sq fun K36 hK36 => ?_
    refine sq fun K37 hK37 => ?_
    refine rg' (h := fun J38 hJ38 => ?_)
    refine hJ38 _ _ ?_
    refine hK37 _ _ ?_
    refine cs (fun c42 => ?_) (fun c42 => ?_)
    · try exact nope c42
      all_goals have c42p := c42
      all_goals try simp [F] at c42p
      all_goals
       replace F := And.intro c42 F
       try replace F := And.intro c42p F
       have hbig : ¬ V < 2 ^ 256 := by have h := c42; simp at h; omega
       simp only [Nat.reducePow] at hbig
       replace F := And.intro hbig F
       refine sq fun K39 hK39 => ?_
       refine rg' (h := fun J40 hJ40 => ?_)
       refine hJ40 _ _ ?_
       refine hK39 _ _ ?_
       refine run_ret ?_
       try simp only [Then, InBlock, NoGoto]
       refine acell2 (h := ?_)
       exact gcr
    try exact nope c42
    all_goals have c42p := c42
    all_goals try simp [F] at c42p
    all_goals
     replace F := And.intro c42 F
     try replace F := And.intro c42p F
     have hfit : V < 2 ^ 256 := by have h := c42; simp at h; omega
     simp only [Nat.reducePow] at hfit
     replace F := And.intro hfit F
     refine run_skip ?_
     refine hK36 _ _ ?_
     refine sq fun K41 hK41 => ?_
     refine rg' (h := fun J42 hJ42 => ?_)
     refine hJ42 _ _ ?_
     refine hK41 _ _ ?_
     refine run_ret ?_
     try simp only [Then, InBlock, NoGoto]
     refine acell2 (h := ?_)
     exact gcr

end Go.Proofs.Ytdbaddholggkbaa

/-
  The document's coins.
-/
namespace Go.Proofs.Ytdbaddholggkbaa
set_option linter.unnecessarySimpa false
set_option maxRecDepth 100000
open Go Go.Vm
set_option linter.unusedSimpArgs false
set_option linter.unusedVariables false

attribute [local simp] evalL wantedA isCall opA evalA evalAll evalsA evalOpt ofValue ofCell plain binA_eql_pn binA_neq_pn binA_gtr binA_lss binA_geq binA_leq binA_add binA_sub binA_eql binA_neq binA_orI binA_andI binA_shl binA_shr binA_mul binA_quo binA_rem binA_agg_eql binA_agg_neq convA_int unA_not fieldAddrA loadA partA pickA_true pickA_false pickA_bb lenA builtinA storeA splice AV.cells AV.isCell sliceA boundA intA callOf indexAddrA newObjA buildA fillA zeroA ofCells buildSliceA indexA fieldA numA_len4 numA_take4 numA_drop4 set_appN get_appN take_appN List.getElem?_cons_zero List.getElem?_cons_succ makeA zeros64

set_option maxHeartbeats 1600000 in
attribute [local simp] undefA List.getElem?_cons_zero List.getElem?_cons_succ in
theorem rlist_ok {σ : St} {f : Nat → Nat} (hf : ∀ d, d < 8 → f d < 2 ^ 256) :
    CallsA Try.prog 71 [.agg (purA (purF f))] σ (fun av σ' => av = .sl 5 (coinsC (lstF f 8)) (lstF f 8).length .shut ∧ σ = σ') := by
  refine callsA_gcS ?_ (by simp [AV.under])
  have hpl : (purA (purF f)).length = 32 := by rw [purA_len]; simp
  have F := And.intro hpl (True.intro)
  refine callsA_body Try.func71 rfl rfl rfl ?_
  refine sq fun K1 hK1 => ?_
  refine rg' (h := fun J2 hJ2 => ?_)
  refine hJ2 _ _ ?_
  refine hK1 _ _ ?_
  refine sq fun K3 hK3 => ?_
  refine rg' (h := fun J4 hJ4 => ?_)
  refine hJ4 _ _ ?_
  refine hK3 _ _ ?_
  refine sq fun K5 hK5 => ?_
  refine sq fun K6 hK6 => ?_
  refine rg' (h := fun J7 hJ7 => ?_)
  refine hJ7 _ _ ?_
  refine hK6 _ _ ?_
  refine run_block_k ?_
  refine run_loopF (X := Nat) [1, 2] (fun d ρ σ1 => (d ≤ 8) ∧ (ρ 3 = grA σ.toks.length 5 (neB (lstF f d)) (coinsC (lstF f d)) (lstF f d).length) ∧ (ρ 4 = .v (.int .i64 d)) ∧ (σ1 = { σ with objs := σ.objs ++ [purA (purF f)], toks := σ.toks ++ grT (neB (lstF f d)) (lstF f d).length })) (fun d => 8 - d) (0) ?st1 ?rd1
  case st1 =>
   refine ⟨lp, ?_, lp, ?_⟩
   · rfl
   · simp [lstF]
  case rd1 =>
   rintro d ρ1 σ1 hF1 ⟨hj, h3, h4, hσ⟩
   obtain rfl := hσ.symm
   have f1 := keepL hF1
   try simp [KeepL, F] at f1
   replace F := And.intro h3 F
   replace F := And.intro h4 F
   try replace F := And.intro f1 F
   refine sq fun K8 hK8 => ?_
   refine sq fun K9 hK9 => ?_
   refine rg' (h := fun J10 hJ10 => ?_)
   refine hJ10 _ _ ?_
   refine hK9 _ _ ?_
   refine cs (fun c6 => ?_) (fun c6 => ?_)
   · try exact nope c6
     all_goals have c6p := c6
     all_goals try simp [F] at c6p
     all_goals
      replace F := And.intro c6 F
      try replace F := And.intro c6p F
      refine run_skip ?_
      refine hK8 _ _ ?_
      refine sq fun K11 hK11 => ?_
      refine run_block_k ?_
      refine sq fun K12 hK12 => ?_
      have hd8 : d < 8 := by simp at c6; omega
      have hat := purA_at (P := purF f) (d := d) (by simpa using hd8)
      rw [purF_get hd8] at hat
      have hb1 : d * 4 + 4 ≤ 32 := by omega
      have hd5 : (d : Int) < 8 := by omega
      have hw8 : IntKind.u8.wrap (d : Int) = (d : Int) := wrap_u8c ⟨by omega, by omega⟩
      obtain ⟨c, hc⟩ : ∃ c : Coin, c = ⟨UInt8.ofNat d, Num.of (f d)⟩ := ⟨_, rfl⟩
      have hcn : c.n.v = f d := by rw [hc]; exact Num.of_v (hf d hd8)
      have hcd : (c.d.toNat : Int) = (d : Int) := by rw [hc]; simp only [toNat_u8 (show d < 256 by omega)]
      have hcoin : AV.v (.int .u8 (d : Int)) :: numA (f d) = coinC c := by rw [coinC, hcd, hcn]
      obtain ⟨L, hL⟩ : ∃ L, L = lstF f d := ⟨_, rfl⟩
      have hLl : L.length ≤ 8 := by rw [hL]; exact Nat.le_trans (lstF_len _ _) hj
      rw [← hL] at h3 F
      rw [← hL]
      have hb0 : neB L = false → coinsC L = [] ∧ L.length = 0 := fun h => by rw [neB_no h]; simp
      have happ : ∀ objs, appendA Try.prog 23 (grA σ.toks.length 5 (neB L) (coinsC L) L.length) (.sl 5 (coinC c) 1 .full) ⟨objs, σ.toks ++ grT (neB L) L.length, σ.gl, σ.rows⟩ = some (grA σ.toks.length 5 true (coinsC L ++ coinC c) (L.length + 1), ⟨objs, σ.toks ++ grT true (L.length + 1), σ.gl, σ.rows⟩) := fun objs => append_gr elemT_23 ti_86 (by decide) rfl hb0 (.inl rfl) (by simp [roomA]; omega) (by simp [maxLen]; omega)
      have hcl : (coinC c).length = 5 := rfl
      have hca : (coinC c).all AV.isCell = true := rfl
      have hdr : ∀ f : Nat → AV, List.drop 5 (List.map f (List.range 5)) = [] := fun _ => rfl
      replace F := And.intro hcl F
      replace F := And.intro hca F
      replace F := And.intro hdr F
      replace F := And.intro hat F
      replace F := And.intro hb1 F
      replace F := And.intro hd5 F
      replace F := And.intro hd8 F
      replace F := And.intro hw8 F
      replace F := And.intro hcoin F
      replace F := And.intro happ F
      refine rg' (h := fun J13 hJ13 => ?_)
      refine ca (c := zero_ok (x := ⟨f d, hf d hd8⟩)) (k := ?_)
      rintro _ _ ⟨rfl, rfl⟩
      repeat (first | simp [F] | simp (disch := omega) only [wC, if_pos, if_neg])
      refine hJ13 _ _ ?_
      refine hK12 _ _ ?_
      refine cs (fun c13 => ?_) (fun c13 => ?_)
      · try exact nope c13
        all_goals have c13p := c13
        all_goals try simp [F] at c13p
        all_goals
         replace F := And.intro c13 F
         try replace F := And.intro c13p F
         have hnx : lstF f (d + 1) = L ++ [c] := by rw [hL, hc]; simp only [lstF]; rw [if_neg (by simpa using c13)]
         refine rg' (h := fun J14 hJ14 => ?_)
         refine hJ14 _ _ ?_
         refine hK11 _ _ ?_
         refine rg' (h := fun J15 hJ15 => ?_)
         refine hJ15 _ _ ?_
         refine ⟨(d + 1), ⟨kp, lp, ?_, lp, ?_⟩, lp⟩
         · rw [hnx, ← coinsC_snoc]
           simp [F]
         · rw [hnx]
           simp [F]
      try exact nope c13
      all_goals have c13p := c13
      all_goals try simp [F] at c13p
      all_goals
       replace F := And.intro c13 F
       try replace F := And.intro c13p F
       have hnx : lstF f (d + 1) = L := by rw [hL]; simp only [lstF]; rw [if_pos (by simpa using c13), List.append_nil]
       refine run_skip ?_
       refine hK11 _ _ ?_
       refine rg' (h := fun J16 hJ16 => ?_)
       refine hJ16 _ _ ?_
       refine ⟨(d + 1), ⟨kp, lp, ?_, lp, ?_⟩, lp⟩
       · rw [hnx]
         simp [F]
       · rw [hnx]
   try exact nope c6
   all_goals have c6p := c6
   all_goals try simp [F] at c6p
   all_goals
    replace F := And.intro c6 F
    try replace F := And.intro c6p F
    obtain rfl : d = 8 := by simp at c6; omega
    refine run_exit ?_
    refine hK5 _ _ ?_
    refine sq fun K17 hK17 => ?_
    refine rg' (h := fun J18 hJ18 => ?_)
    refine hJ18 _ _ ?_
    refine hK17 _ _ ?_
    refine run_ret ?_
    try simp only [Then, InBlock, NoGoto]
    refine answer_tmp rfl (.inr rfl) ?_
    refine gcr (hA := by simp only [putA_get]; simp [F]; exact wk_grA (fun h => by rw [neB_no h]; simp))

end Go.Proofs.Ytdbaddholggkbaa

/-
  The document's coins: sums, rests.
-/
namespace Go.Proofs.Ytdbaddholggkbaa
set_option linter.unnecessarySimpa false
set_option maxRecDepth 100000
open Go Go.Vm
set_option linter.unusedSimpArgs false
set_option linter.unusedVariables false

attribute [local simp] evalL wantedA isCall opA evalA evalAll evalsA evalOpt ofValue ofCell plain binA_eql_pn binA_neq_pn binA_gtr binA_lss binA_geq binA_leq binA_add binA_sub binA_eql binA_neq binA_orI binA_andI binA_shl binA_shr binA_mul binA_quo binA_rem binA_agg_eql binA_agg_neq convA_int unA_not fieldAddrA loadA partA pickA_true pickA_false pickA_bb lenA builtinA storeA splice AV.cells AV.isCell sliceA boundA intA callOf indexAddrA newObjA buildA fillA zeroA ofCells buildSliceA indexA fieldA numA_len4 numA_take4 numA_drop4 set_appN get_appN take_appN List.getElem?_cons_zero List.getElem?_cons_succ makeA zeros64

theorem pur_len (g : Nat → Nat) : (purA (purF g)).length = 32 := by rw [purA_len]; simp
theorem pur_take (g : Nat → Nat) : (purA (purF g)).take 32 = purA (purF g) := List.take_of_length_le (by rw [pur_len]; decide)
theorem pur_drop (g : Nat → Nat) : (purA (purF g)).drop 32 = [] := List.drop_of_length_le (by rw [pur_len]; decide)
theorem pur_cell (g : Nat → Nat) : ∀ x ∈ purA (purF g), x.isCell = true := by simpa using purA_isCell (purF g)

theorem pur_all (g : Nat → Nat) : (∀ x, x ∈ purA (purF g) → x.isCell = true) = True := eq_true (pur_cell g)

set_option maxHeartbeats 1600000 in
attribute [local simp] undefA List.getElem?_cons_zero List.getElem?_cons_succ in
theorem rpof_ok {σ : St} {l : List Coin} {tl : Tail} (hl : Right l) :
    CallsA Try.prog 76 [.sl 5 (coinsC l) l.length tl] σ (fun av σ' => av = .agg (purA (purF (amt l))) ∧ σ = σ') := by
  refine callsA_gcS ?_ (by simp [AV.under, purA_under])
  have hl8 := right_len hl
  have hPl := pur_len
  have hPt := pur_take
  have hPd := pur_drop
  have hPc := pur_cell
  simp only [AV.isCell] at hPc
  have F := And.intro hPl (And.intro hPt (And.intro hPd (And.intro hPc (True.intro))))
  refine callsA_body Try.func76 rfl rfl rfl ?_
  refine sq fun K1 hK1 => ?_
  refine rg' (h := fun J2 hJ2 => ?_)
  refine hJ2 _ _ ?_
  refine hK1 _ _ ?_
  refine sq fun K3 hK3 => ?_
  refine rg' (h := fun J4 hJ4 => ?_)
  refine hJ4 _ _ ?_
  refine hK3 _ _ ?_
  refine sq fun K5 hK5 => ?_
  refine sq fun K6 hK6 => ?_
  refine rg' (h := fun J7 hJ7 => ?_)
  refine hJ7 _ _ ?_
  refine hK6 _ _ ?_
  refine run_block_k ?_
  refine run_loopF (X := Nat) [0, 2, 3] (fun i ρ σ1 => (i ≤ l.length) ∧ (ρ 4 = .v (.int .i64 i)) ∧ (σ1 = { σ with objs := σ.objs ++ [purA (purF fun _ => 0), purA (purF (amt (l.take i)))] })) (fun i => l.length - i) (0) ?st1 ?rd1
  case st1 =>
   refine ⟨lp, lp, ?_⟩
   · simp only [List.take_zero, show amt [] = fun _ => 0 from rfl, purA_zero]
  case rd1 =>
   rintro i ρ1 σ1 hF1 ⟨hi, h4, hσ⟩
   obtain rfl := hσ.symm
   have f1 := keepL hF1
   try simp [KeepL, F] at f1
   replace F := And.intro h4 F
   try replace F := And.intro f1 F
   refine sq fun K8 hK8 => ?_
   refine sq fun K9 hK9 => ?_
   refine rg' (h := fun J10 hJ10 => ?_)
   refine hJ10 _ _ ?_
   refine hK9 _ _ ?_
   refine cs (fun c8 => ?_) (fun c8 => ?_)
   · try exact nope c8
     all_goals have c8p := c8
     all_goals try simp [F] at c8p
     all_goals
      replace F := And.intro c8 F
      try replace F := And.intro c8p F
      refine run_skip ?_
      refine hK8 _ _ ?_
      refine sq fun K11 hK11 => ?_
      refine run_block_k ?_
      have hlt : i < l.length := by simp at c8; omega
      have hat := coinsC_at hlt
      simp only [coinC] at hat
      have hb1 : i * 5 + 5 ≤ l.length * 5 := by omega
      obtain ⟨c, hc⟩ : ∃ c, c = l[i] := ⟨_, rfl⟩
      rw [← hc] at hat
      have htk : l.take (i + 1) = l.take i ++ [c] := by rw [hc]; exact (List.take_append_getElem hlt).symm
      have hR : Right (l.take i ++ [c]) := by rw [← htk]; exact right_take hl _
      have hd8 : c.d.toNat < 8 := (right_snoc.1 hR).2.1.1
      obtain ⟨d, hd⟩ : ∃ d, d = c.d.toNat := ⟨_, rfl⟩
      rw [← hd] at hat hd8
      have hd5 : (d : Int) < 8 := by omega
      have hb2 : d * 4 + 4 ≤ 32 := by omega
      obtain ⟨f, hf⟩ : ∃ f, f = amt (l.take i) := ⟨_, rfl⟩
      rw [← hf]
      have hset := purA_set (P := purF f) (d := d) (by simpa using hd8) c.n.v
      rw [purF_set] at hset
      have hnx : purF (fun j => if j = d then c.n.v else f j) = purF (amt (l.take (i + 1))) := purF_congr (fun j _ => by rw [htk, amt_snoc hR, ← hd, hf])
      rw [hnx] at hset
      replace F := And.intro hat F
      replace F := And.intro hb1 F
      replace F := And.intro hset F
      replace F := And.intro hd8 F
      replace F := And.intro hd5 F
      replace F := And.intro hb2 F
      refine run_draw (by kernel_rfl) fun J12 hJ12 => ?_
      refine rp2 0 (k := ?_)
      refine rp2 1 (k := ?_)
      refine rp2 2 (k := ?_)
      refine rp2 3 (k := ?_)
      refine rp2 4 (k := ?_)
      refine rp2 5 (k := ?_)
      refine rp2 6 (k := ?_)
      refine rp2 7 (k := ?_)
      refine rp2 8 (k := ?_)
      refine rp2 9 (k := ?_)
      refine rp2 10 (k := ?_)
      refine dop 11 rfl ?_
      repeat (first | simp [F] | simp (disch := omega) only [wC, if_pos, if_neg])
      refine ⟨ln, ?_⟩
      refine dd ?_
      refine hJ12 _ _ ?_
      refine hK11 _ _ ?_
      refine rg' (h := fun J13 hJ13 => ?_)
      refine hJ13 _ _ ?_
      refine ⟨(i + 1), ⟨kp, lp, lp, lp⟩, lp⟩
   try exact nope c8
   all_goals have c8p := c8
   all_goals try simp [F] at c8p
   all_goals
    replace F := And.intro c8 F
    try replace F := And.intro c8p F
    have hend : l.take i = l := List.take_of_length_le (by simp at c8; omega)
    rw [hend]
    refine run_exit ?_
    refine hK5 _ _ ?_
    refine sq fun K14 hK14 => ?_
    refine rg' (h := fun J15 hJ15 => ?_)
    refine hJ15 _ _ ?_
    refine hK14 _ _ ?_
    refine run_ret ?_
    try simp only [Then, InBlock, NoGoto]
    refine acell (h := ?_)
    exact gcr

theorem addF_next (fa fb : Nat → Nat) (d j : Nat) : (if j = d then fa d + fb d else if j < d then fa j + fb j else fa j) = if j < d + 1 then fa j + fb j else fa j := by
  by_cases h : j = d
  · subst h; simp
  · by_cases h2 : j < d
    · rw [if_neg h, if_pos h2, if_pos (by omega)]
    · rw [if_neg h, if_neg h2, if_neg (by omega)]

set_option maxHeartbeats 1600000 in
attribute [local simp] undefA List.getElem?_cons_zero List.getElem?_cons_succ in
theorem rpadd_ok {σ : St} {a b : List Coin} {ta tb : Tail} (ha : Right a) (hb : Right b) :
    CallsA Try.prog 27 [.sl 5 (coinsC a) a.length ta, .sl 5 (coinsC b) b.length tb] σ (fun av σ' => av = .tup [.sl 5 (coinsC (cAddL a b)) (cAddL a b).length .shut, .v (.bool (decide (cAddE a b = 0)))] ∧ σ = σ') := by
  refine callsA_gcS ?_ (by simp [AV.under, underL])
  have hPl := pur_len
  have hPt := pur_take
  have hPd := pur_drop
  have hPn : ∀ n g, noObjL n (purA (purF g)) = true := fun n g => purA_noObj n _
  have hPc := pur_all
  simp only [AV.isCell] at hPc
  obtain ⟨fa, hfa⟩ : ∃ fa, fa = amt a := ⟨_, rfl⟩
  obtain ⟨fb, hfb⟩ : ∃ fb, fb = amt b := ⟨_, rfl⟩
  obtain ⟨fs, hfs⟩ : ∃ fs : Nat → Nat → Nat, fs = fun d j => if j < d then fa j + fb j else fa j := ⟨_, rfl⟩
  have hfs0 : fs 0 = fa := by rw [hfs]; funext j; simp
  have hla : ∀ d, fa d < 2 ^ 256 := fun d => by rw [hfa]; exact amt_lt _ _
  have hlb : ∀ d, fb d < 2 ^ 256 := fun d => by rw [hfb]; exact amt_lt _ _
  have F := And.intro hPl (And.intro hPt (And.intro hPd (And.intro hPc (And.intro hPn (True.intro)))))
  refine callsA_body Try.func27 rfl rfl rfl ?_
  refine sq fun K1 hK1 => ?_
  refine rg' (h := fun J2 hJ2 => ?_)
  refine hJ2 _ _ ?_
  refine hK1 _ _ ?_
  refine sq fun K3 hK3 => ?_
  refine rg' (h := fun J4 hJ4 => ?_)
  refine ca (c := (hfa ▸ rpof_ok ha)) (k := ?_)
  rintro _ _ ⟨rfl, rfl⟩
  repeat (first | simp [F] | simp (disch := omega) only [wC, if_pos, if_neg])
  refine ca (c := (hfb ▸ rpof_ok hb)) (k := ?_)
  rintro _ _ ⟨rfl, rfl⟩
  repeat (first | simp [F] | simp (disch := omega) only [wC, if_pos, if_neg])
  refine hJ4 _ _ ?_
  refine hK3 _ _ ?_
  refine sq fun K5 hK5 => ?_
  refine sq fun K6 hK6 => ?_
  refine rg' (h := fun J7 hJ7 => ?_)
  refine hJ7 _ _ ?_
  refine hK6 _ _ ?_
  refine run_block_k ?_
  refine run_loopG (X := Nat) [6, 7] (fun d ρ σ1 => (d ≤ 8) ∧ (∀ j, j < d → fa j + fb j < 2 ^ 256) ∧ (ρ 8 = .v (.int .i64 d)) ∧ (σ1 = { σ with objs := σ.objs ++ [purA (purF (fs d)), purA (purF fb)] })) (fun d => 8 - d) (0) ?st1 ?rd1
  case st1 =>
   refine ⟨lp, ?_, lp, ?_⟩
   · intro j hj
     exact absurd hj (Nat.not_lt_zero j)
   · rw [hfs0]
  case rd1 =>
   rintro d ρ1 σ1 hF1 ⟨hd, hE, h8, hσ⟩
   obtain rfl := hσ.symm
   have f1 := keepL hF1
   try simp [KeepL, F] at f1
   replace F := And.intro h8 F
   try replace F := And.intro f1 F
   refine sq fun K8 hK8 => ?_
   refine sq fun K9 hK9 => ?_
   refine rg' (h := fun J10 hJ10 => ?_)
   refine hJ10 _ _ ?_
   refine hK9 _ _ ?_
   refine cs (fun c16 => ?_) (fun c16 => ?_)
   · try exact nope c16
     all_goals have c16p := c16
     all_goals try simp [F] at c16p
     all_goals
      replace F := And.intro c16 F
      try replace F := And.intro c16p F
      refine run_skip ?_
      refine hK8 _ _ ?_
      refine sq fun K11 hK11 => ?_
      refine run_block_k ?_
      refine sq fun K12 hK12 => ?_
      have hd8 : d < 8 := by simp at c16; omega
      have hd5 : (d : Int) < 8 := by omega
      have hb2 : d * 4 + 4 ≤ 32 := by omega
      have hata := purA_at (P := purF (fs d)) (d := d) (by simpa using hd8)
      rw [purF_get hd8] at hata
      have hatb := purA_at (P := purF fb) (d := d) (by simpa using hd8)
      rw [purF_get hd8] at hatb
      have hfd : fs d d = fa d := by rw [hfs]; simp
      rw [hfd] at hata
      have hset := purA_set (P := purF (fs d)) (d := d) (by simpa using hd8) (fa d + fb d)
      rw [purF_set] at hset
      have hnx : (fun j => if j = d then fa d + fb d else fs d j) = fs (d + 1) := by rw [hfs]; funext j; simp only; exact addF_next fa fb d j
      rw [hnx] at hset
      replace F := And.intro hata F
      replace F := And.intro hatb F
      replace F := And.intro hset F
      replace F := And.intro hd8 F
      replace F := And.intro hd5 F
      replace F := And.intro hb2 F
      refine run_draw (by kernel_rfl) fun J13 hJ13 => ?_
      refine rp2 0 (k := ?_)
      refine rp2 1 (k := ?_)
      refine rp2 2 (k := ?_)
      refine rp2 3 (k := ?_)
      refine rp2 4 (k := ?_)
      refine rp2 5 (k := ?_)
      refine d2 6 10 ?_ ?_
      · refine ac 6 rfl (c := radd_ok (hla d) (hlb d)) (k := ?_)
        rintro _ _ ⟨rfl, rfl⟩
        refine ⟨by first | exact fun _ _ h => h | (refine later_list [4, 3, 1, 0] (by kernel_rfl) (List.forall_mem_cons.2 ⟨fun _ => fact2 rfl rfl ?_, List.forall_mem_cons.2 ⟨fun _ => fact2 rfl rfl ?_, List.forall_mem_cons.2 ⟨fun _ => fact2 rfl rfl ?_, List.forall_mem_cons.2 ⟨fun _ => fact2 rfl rfl ?_, fun _ h => absurd h List.not_mem_nil⟩⟩⟩⟩) <;> constructor <;> first | rfl | (simp [F]; done)), ?_⟩
        repeat (first | simp [F] | simp (disch := omega) only [wC, if_pos, if_neg])
        refine rp2 7 (k := ?_)
        refine rp2 8 (k := ?_)
        refine rp2 9 (k := ?_)
        refine dop 10 rfl ?_
        repeat (first | simp [F] | simp (disch := omega) only [wC, if_pos, if_neg])
        refine ⟨by first | exact later_more _ (by kernel_rfl) | exact later_more2 (by kernel_rfl) rfl, ?_⟩
        refine dop 11 rfl ?_
        repeat (first | simp [F] | simp (disch := omega) only [wC, if_pos, if_neg])
        refine ⟨later_tmp (by kernel_rfl), ?_⟩
        refine rp2 12 (k := ?_)
        refine dd ?_
        refine hJ13 _ _ ?_
        refine hK12 _ _ ?_
        refine sq fun K14 hK14 => ?_
        refine sq fun K15 hK15 => ?_
        refine rg' (h := fun J16 hJ16 => ?_)
        refine hJ16 _ _ ?_
        refine hK15 _ _ ?_
        refine cs (fun c30 => ?_) (fun c30 => ?_)
        · try exact nope c30
          all_goals have c30p := c30
          all_goals try simp [F] at c30p
          all_goals
           replace F := And.intro c30 F
           try replace F := And.intro c30p F
           have hs : ¬ fa d + fb d < 2 ^ 256 := by simpa using c30
           have he : ¬ cAddE a b = 0 := fun h => hs (by have := cAddE_zero.1 h d hd8; rw [hfa, hfb]; exact this)
           have hL := cAddL_no he
           replace F := And.intro hL (And.intro he F)
           refine sq fun K17 hK17 => ?_
           refine rg' (h := fun J18 hJ18 => ?_)
           refine hJ18 _ _ ?_
           refine hK17 _ _ ?_
           refine run_ret ?_
           try simp only [Then, InBlock, NoGoto]
           refine answer_tmp2 rfl (.inr rfl) ?_
           rw [hL, decide_eq_false he]
           exact gcr (hA := WkL.tup (.cons (Wk.nil _ _ _) (.cons (Wk.refl _) .nil)))
        try exact nope c30
        all_goals have c30p := c30
        all_goals try simp [F] at c30p
        all_goals
         replace F := And.intro c30 F
         try replace F := And.intro c30p F
         have hs : fa d + fb d < 2 ^ 256 := by simpa using c30
         have hs2 : addN (fa d) (fb d) = fa d + fb d := if_pos hs
         replace F := And.intro hs2 F
         refine run_skip ?_
         refine hK14 _ _ ?_
         refine rg' (h := fun J19 hJ19 => ?_)
         refine hJ19 _ _ ?_
         refine hK11 _ _ ?_
         refine rg' (h := fun J20 hJ20 => ?_)
         refine hJ20 _ _ ?_
         refine ⟨gk, (d + 1), ⟨kpG, lpG, ?_, lpG, lpG⟩, lpG⟩
         · intro j hj
           rcases Nat.lt_or_ge j d with h | h
           · exact hE j h
           · obtain rfl : j = d := by omega
             exact hs
      · refine ao 10 rfl ?_
        repeat (first | simp [F] | simp (disch := omega) only [wC, if_pos, if_neg])
        refine ⟨by first | exact later_more _ (by kernel_rfl) | exact later_more2 (by kernel_rfl) rfl, ?_⟩
        refine dc 6 rfl (c := radd_ok (hla d) (hlb d)) (k := ?_)
        rintro _ _ ⟨rfl, rfl⟩
        refine ⟨by first | exact fun _ _ h => h | (refine later_list [4, 3, 1, 0] (by kernel_rfl) (List.forall_mem_cons.2 ⟨fun _ => fact2 rfl rfl ?_, List.forall_mem_cons.2 ⟨fun _ => fact2 rfl rfl ?_, List.forall_mem_cons.2 ⟨fun _ => fact2 rfl rfl ?_, List.forall_mem_cons.2 ⟨fun _ => fact2 rfl rfl ?_, fun _ h => absurd h List.not_mem_nil⟩⟩⟩⟩) <;> constructor <;> first | rfl | (simp [F]; done)), ?_⟩
        repeat (first | simp [F] | simp (disch := omega) only [wC, if_pos, if_neg])
        refine rp2 7 (k := ?_)
        refine rp2 8 (k := ?_)
        refine rp2 9 (k := ?_)
        refine dop 11 rfl ?_
        repeat (first | simp [F] | simp (disch := omega) only [wC, if_pos, if_neg])
        refine ⟨later_tmp (by kernel_rfl), ?_⟩
        refine rp2 12 (k := ?_)
        refine dd ?_
        refine hJ13 _ _ ?_
        refine hK12 _ _ ?_
        refine sq fun K21 hK21 => ?_
        refine sq fun K22 hK22 => ?_
        refine rg' (h := fun J23 hJ23 => ?_)
        refine hJ23 _ _ ?_
        refine hK22 _ _ ?_
        refine cs (fun c30 => ?_) (fun c30 => ?_)
        · try exact nope c30
          all_goals have c30p := c30
          all_goals try simp [F] at c30p
          all_goals
           replace F := And.intro c30 F
           try replace F := And.intro c30p F
           have hs : ¬ fa d + fb d < 2 ^ 256 := by simpa using c30
           have he : ¬ cAddE a b = 0 := fun h => hs (by have := cAddE_zero.1 h d hd8; rw [hfa, hfb]; exact this)
           have hL := cAddL_no he
           replace F := And.intro hL (And.intro he F)
           refine sq fun K24 hK24 => ?_
           refine rg' (h := fun J25 hJ25 => ?_)
           refine hJ25 _ _ ?_
           refine hK24 _ _ ?_
           refine run_ret ?_
           try simp only [Then, InBlock, NoGoto]
           refine answer_tmp2 rfl (.inr rfl) ?_
           rw [hL, decide_eq_false he]
           exact gcr (hA := WkL.tup (.cons (Wk.nil _ _ _) (.cons (Wk.refl _) .nil)))
        try exact nope c30
        all_goals have c30p := c30
        all_goals try simp [F] at c30p
        all_goals
         replace F := And.intro c30 F
         try replace F := And.intro c30p F
         have hs : fa d + fb d < 2 ^ 256 := by simpa using c30
         have hs2 : addN (fa d) (fb d) = fa d + fb d := if_pos hs
         replace F := And.intro hs2 F
         refine run_skip ?_
         refine hK21 _ _ ?_
         refine rg' (h := fun J26 hJ26 => ?_)
         refine hJ26 _ _ ?_
         refine hK11 _ _ ?_
         refine rg' (h := fun J27 hJ27 => ?_)
         refine hJ27 _ _ ?_
         refine ⟨gk, (d + 1), ⟨kpG, lpG, ?_, lpG, lpG⟩, lpG⟩
         · intro j hj
           rcases Nat.lt_or_ge j d with h | h
           · exact hE j h
           · obtain rfl : j = d := by omega
             exact hs
   try exact nope c16
   all_goals have c16p := c16
   all_goals try simp [F] at c16p
   all_goals
    replace F := And.intro c16 F
    try replace F := And.intro c16p F
    obtain rfl : d = 8 := by simp at c16; omega
    have he : cAddE a b = 0 := cAddE_zero.2 (fun d hd => by have := hE d hd; rw [hfa, hfb] at this; exact this)
    have hL : lstF (fs 8) 8 = cAddL a b := by rw [cAddL_yes he, hfs, hfa, hfb]; exact lstF_congr (fun i hi => by simp [hi])
    have hf8 : ∀ d, d < 8 → fs 8 d < 2 ^ 256 := fun d hd => by rw [hfs]; simp only [if_pos hd]; exact hE d hd
    replace F := And.intro he F
    refine run_exit ?_
    refine hK5 _ _ ?_
    refine sq fun K28 hK28 => ?_
    refine rg' (h := fun J29 hJ29 => ?_)
    refine ca (c := (hL ▸ rlist_ok hf8)) (k := ?_)
    rintro _ _ ⟨rfl, rfl⟩
    repeat (first | simp [F] | simp (disch := omega) only [wC, if_pos, if_neg])
    refine hJ29 _ _ ?_
    refine hK28 _ _ ?_
    refine run_ret ?_
    try simp only [Then, InBlock, NoGoto]
    refine answer_tmp2 rfl (.inr rfl) ?_
    exact gcr

end Go.Proofs.Ytdbaddholggkbaa

/-
  The document's coins: rests, comparisons.
-/
namespace Go.Proofs.Ytdbaddholggkbaa
set_option linter.unnecessarySimpa false
set_option maxRecDepth 100000
open Go Go.Vm
set_option linter.unusedSimpArgs false
set_option linter.unusedVariables false

attribute [local simp] evalL wantedA isCall opA evalA evalAll evalsA evalOpt ofValue ofCell plain binA_eql_pn binA_neq_pn binA_gtr binA_lss binA_geq binA_leq binA_add binA_sub binA_eql binA_neq binA_orI binA_andI binA_shl binA_shr binA_mul binA_quo binA_rem binA_agg_eql binA_agg_neq convA_int unA_not fieldAddrA loadA partA pickA_true pickA_false pickA_bb lenA builtinA storeA splice AV.cells AV.isCell sliceA boundA intA callOf indexAddrA newObjA buildA fillA zeroA ofCells buildSliceA indexA fieldA numA_len4 numA_take4 numA_drop4 set_appN get_appN take_appN List.getElem?_cons_zero List.getElem?_cons_succ makeA zeros64

theorem restF_next (fa fb : Nat → Nat) (d j : Nat) : (if j = d then fa d - fb d else if j < d then fa j - fb j else fa j) = if j < d + 1 then fa j - fb j else fa j := by
  by_cases h : j = d
  · subst h; simp
  · by_cases h2 : j < d
    · rw [if_neg h, if_pos h2, if_pos (by omega)]
    · rw [if_neg h, if_neg h2, if_neg (by omega)]

set_option maxHeartbeats 1600000 in
attribute [local simp] undefA List.getElem?_cons_zero List.getElem?_cons_succ in
theorem rprest_ok {σ : St} {a b : List Coin} {ta tb : Tail} (ha : Right a) (hb : Right b) :
    CallsA Try.prog 75 [.sl 5 (coinsC a) a.length ta, .sl 5 (coinsC b) b.length tb] σ (fun av σ' => av = .sl 5 (coinsC (cRest a b)) (cRest a b).length .shut ∧ σ = σ') := by
  refine callsA_gcS ?_ (by simp [AV.under, underL])
  have hPl := pur_len
  have hPt := pur_take
  have hPd := pur_drop
  have hPn : ∀ n g, noObjL n (purA (purF g)) = true := fun n g => purA_noObj n _
  have hPc := pur_all
  simp only [AV.isCell] at hPc
  obtain ⟨fa, hfa⟩ : ∃ fa, fa = amt a := ⟨_, rfl⟩
  obtain ⟨fb, hfb⟩ : ∃ fb, fb = amt b := ⟨_, rfl⟩
  have hla : ∀ d, fa d < 2 ^ 256 := fun d => by rw [hfa]; exact amt_lt _ _
  have hlb : ∀ d, fb d < 2 ^ 256 := fun d => by rw [hfb]; exact amt_lt _ _
  obtain ⟨fs, hfs⟩ : ∃ fs : Nat → Nat → Nat, fs = fun d j => if j < d then fa j - fb j else fa j := ⟨_, rfl⟩
  have hfs0 : fs 0 = fa := by rw [hfs]; funext j; simp
  have F := And.intro hPl (And.intro hPt (And.intro hPd (And.intro hPc (And.intro hPn (True.intro)))))
  refine callsA_body Try.func75 rfl rfl rfl ?_
  refine sq fun K1 hK1 => ?_
  refine rg' (h := fun J2 hJ2 => ?_)
  refine hJ2 _ _ ?_
  refine hK1 _ _ ?_
  refine sq fun K3 hK3 => ?_
  refine rg' (h := fun J4 hJ4 => ?_)
  refine ca (c := (hfa ▸ rpof_ok ha)) (k := ?_)
  rintro _ _ ⟨rfl, rfl⟩
  repeat (first | simp [F] | simp (disch := omega) only [wC, if_pos, if_neg])
  refine ca (c := (hfb ▸ rpof_ok hb)) (k := ?_)
  rintro _ _ ⟨rfl, rfl⟩
  repeat (first | simp [F] | simp (disch := omega) only [wC, if_pos, if_neg])
  refine hJ4 _ _ ?_
  refine hK3 _ _ ?_
  refine sq fun K5 hK5 => ?_
  refine sq fun K6 hK6 => ?_
  refine rg' (h := fun J7 hJ7 => ?_)
  refine hJ7 _ _ ?_
  refine hK6 _ _ ?_
  refine run_block_k ?_
  refine run_loopF (X := Nat) [4, 5, 6] (fun d ρ σ1 => (d ≤ 8) ∧ (ρ 7 = .v (.int .i64 d)) ∧ (σ1 = { σ with objs := σ.objs ++ [purA (purF (fs d)), purA (purF fb)] })) (fun d => 8 - d) (0) ?st1 ?rd1
  case st1 =>
   refine ⟨lp, lp, ?_⟩
   · rw [hfs0]
  case rd1 =>
   rintro d ρ1 σ1 hF1 ⟨hd, h8, hσ⟩
   obtain rfl := hσ.symm
   have f1 := keepL hF1
   try simp [KeepL, F] at f1
   replace F := And.intro h8 F
   try replace F := And.intro f1 F
   refine sq fun K8 hK8 => ?_
   refine sq fun K9 hK9 => ?_
   refine rg' (h := fun J10 hJ10 => ?_)
   refine hJ10 _ _ ?_
   refine hK9 _ _ ?_
   refine cs (fun c13 => ?_) (fun c13 => ?_)
   · try exact nope c13
     all_goals have c13p := c13
     all_goals try simp [F] at c13p
     all_goals
      replace F := And.intro c13 F
      try replace F := And.intro c13p F
      refine run_skip ?_
      refine hK8 _ _ ?_
      refine sq fun K11 hK11 => ?_
      refine run_block_k ?_
      have hd8 : d < 8 := by simp at c13; omega
      have hd5 : (d : Int) < 8 := by omega
      have hb2 : d * 4 + 4 ≤ 32 := by omega
      have hata := purA_at (P := purF (fs d)) (d := d) (by simpa using hd8)
      rw [purF_get hd8] at hata
      have hatb := purA_at (P := purF fb) (d := d) (by simpa using hd8)
      rw [purF_get hd8] at hatb
      have hfd : fs d d = fa d := by rw [hfs]; simp
      rw [hfd] at hata
      have hset := purA_set (P := purF (fs d)) (d := d) (by simpa using hd8) (fa d - fb d)
      rw [purF_set] at hset
      have hnx : (fun j => if j = d then fa d - fb d else fs d j) = fs (d + 1) := by rw [hfs]; funext j; simp only; exact restF_next fa fb d j
      rw [hnx] at hset
      replace F := And.intro hata F
      replace F := And.intro hatb F
      replace F := And.intro hset F
      replace F := And.intro hd8 F
      replace F := And.intro hd5 F
      replace F := And.intro hb2 F
      refine run_draw (by kernel_rfl) fun J12 hJ12 => ?_
      refine rp2 0 (k := ?_)
      refine rp2 1 (k := ?_)
      refine rp2 2 (k := ?_)
      refine rp2 3 (k := ?_)
      refine rp2 4 (k := ?_)
      refine rp2 5 (k := ?_)
      refine rp2 6 (k := ?_)
      refine dc 7 rfl (c := rrest_ok (hla d) (hlb d)) (k := ?_)
      rintro _ _ ⟨rfl, rfl⟩
      refine ⟨by first | exact fun _ _ h => h | (refine later_list [5, 4, 2, 1, 0] (by kernel_rfl) (List.forall_mem_cons.2 ⟨fun _ => fact2 rfl rfl ?_, List.forall_mem_cons.2 ⟨fun _ => fact2 rfl rfl ?_, List.forall_mem_cons.2 ⟨fun _ => fact2 rfl rfl ?_, List.forall_mem_cons.2 ⟨fun _ => fact2 rfl rfl ?_, List.forall_mem_cons.2 ⟨fun _ => fact2 rfl rfl ?_, fun _ h => absurd h List.not_mem_nil⟩⟩⟩⟩⟩) <;> constructor <;> first | rfl | (simp [F]; done)), ?_⟩
      repeat (first | simp [F] | simp (disch := omega) only [wC, if_pos, if_neg])
      refine rp2 8 (k := ?_)
      refine dop 9 rfl ?_
      repeat (first | simp [F] | simp (disch := omega) only [wC, if_pos, if_neg])
      refine ⟨ln, ?_⟩
      refine dd ?_
      refine hJ12 _ _ ?_
      refine hK11 _ _ ?_
      refine rg' (h := fun J13 hJ13 => ?_)
      refine hJ13 _ _ ?_
      refine ⟨(d + 1), ⟨kp, lp, lp, lp⟩, lp⟩
   try exact nope c13
   all_goals have c13p := c13
   all_goals try simp [F] at c13p
   all_goals
    replace F := And.intro c13 F
    try replace F := And.intro c13p F
    obtain rfl : d = 8 := by simp at c13; omega
    have hL : lstF (fs 8) 8 = cRest a b := by rw [cRest_eq, hfs, hfa, hfb]; exact lstF_congr (fun i hi => by simp [hi])
    have hf8 : ∀ d, d < 8 → fs 8 d < 2 ^ 256 := fun d hd => by rw [hfs]; simp only [if_pos hd]; exact Nat.lt_of_le_of_lt (Nat.sub_le _ _) (hla d)
    refine run_exit ?_
    refine hK5 _ _ ?_
    refine sq fun K14 hK14 => ?_
    refine rg' (h := fun J15 hJ15 => ?_)
    refine ca (c := (hL ▸ rlist_ok hf8)) (k := ?_)
    rintro _ _ ⟨rfl, rfl⟩
    repeat (first | simp [F] | simp (disch := omega) only [wC, if_pos, if_neg])
    refine hJ15 _ _ ?_
    refine hK14 _ _ ?_
    refine run_ret ?_
    try simp only [Then, InBlock, NoGoto]
    refine answer_tmp rfl (.inr rfl) ?_
    exact gcr

end Go.Proofs.Ytdbaddholggkbaa

/-
  The same coins..
-/
namespace Go.Proofs.Ytdbaddholggkbaa
set_option linter.unnecessarySimpa false
set_option maxRecDepth 100000
open Go Go.Vm
set_option linter.unusedSimpArgs false
set_option linter.unusedVariables false

attribute [local simp] evalL wantedA isCall opA evalA evalAll evalsA evalOpt ofValue ofCell plain binA_eql_pn binA_neq_pn binA_gtr binA_lss binA_geq binA_leq binA_add binA_sub binA_eql binA_neq binA_orI binA_andI binA_shl binA_shr binA_mul binA_quo binA_rem binA_agg_eql binA_agg_neq convA_int unA_not fieldAddrA loadA partA pickA_true pickA_false pickA_bb lenA builtinA storeA splice AV.cells AV.isCell sliceA boundA intA callOf indexAddrA newObjA buildA fillA zeroA ofCells buildSliceA indexA fieldA numA_len4 numA_take4 numA_drop4 set_appN get_appN take_appN List.getElem?_cons_zero List.getElem?_cons_succ makeA zeros64

set_option maxHeartbeats 1600000 in
attribute [local simp] undefA List.getElem?_cons_zero List.getElem?_cons_succ in
theorem cequal_ok {σ : St} {a b : List Coin} {ta tb : Tail} (hla : a.length ≤ 9223372036854775807) (hlb : b.length ≤ 9223372036854775807) :
    CallsA Try.prog 131 [.sl 5 (coinsC a) a.length ta, .sl 5 (coinsC b) b.length tb] σ (fun av σ' => av = .v (.bool (decide (a = b))) ∧ σ = σ') := by
  have hcl : ∀ c, (coinC c).length = 5 := fun _ => rfl
  have hct : ∀ c R, List.take 5 (coinC c ++ R) = coinC c := fun _ _ => rfl
  have F := And.intro hcl (And.intro hct (True.intro))
  refine callsA_body Try.func131 rfl rfl rfl ?_
  refine sq fun K1 hK1 => ?_
  refine rg' (h := fun J2 hJ2 => ?_)
  refine hJ2 _ _ ?_
  refine hK1 _ _ ?_
  refine sq fun K3 hK3 => ?_
  refine sq fun K4 hK4 => ?_
  refine rg' (h := fun J5 hJ5 => ?_)
  refine hJ5 _ _ ?_
  refine hK4 _ _ ?_
  refine cs (fun c10 => ?_) (fun c10 => ?_)
  · try exact nope c10
    all_goals have c10p := c10
    all_goals try simp [F] at c10p
    all_goals
     replace F := And.intro c10 F
     try replace F := And.intro c10p F
     have hne : ¬ a = b := fun e => by subst e; simp at c10
     replace F := And.intro hne F
     refine sq fun K6 hK6 => ?_
     refine rg' (h := fun J7 hJ7 => ?_)
     refine hJ7 _ _ ?_
     refine hK6 _ _ ?_
     refine run_ret ?_
     try simp only [Then, InBlock, NoGoto]
     refine answer_tmp rfl (.inr rfl) ?_
     exact rt
  try exact nope c10
  all_goals have c10p := c10
  all_goals try simp [F] at c10p
  all_goals
   replace F := And.intro c10 F
   try replace F := And.intro c10p F
   refine run_skip ?_
   refine hK3 _ _ ?_
   refine sq fun K8 hK8 => ?_
   refine sq fun K9 hK9 => ?_
   have hlen : a.length = b.length := by have h := c10; simp at h; omega
   refine rg' (h := fun J10 hJ10 => ?_)
   refine hJ10 _ _ ?_
   refine hK9 _ _ ?_
   refine run_block_k ?_
   refine run_loopF (X := Nat) [0, 1, 12] (fun i ρ σ1 => (i ≤ a.length) ∧ (a.take i = b.take i) ∧ (ρ 13 = .v (.int .i64 i)) ∧ (σ1 = σ)) (fun i => a.length - i) (0) ?st1 ?rd1
   case st1 =>
    refine ⟨lp, ?_, lp, ?_⟩
    · rfl
    · rfl
   case rd1 =>
    rintro i ρ1 σ1 hF1 ⟨hi, hE, h13, hσ⟩
    obtain rfl := hσ.symm
    have f1 := keepL hF1
    try simp [KeepL, F] at f1
    replace F := And.intro h13 F
    try replace F := And.intro f1 F
    refine sq fun K11 hK11 => ?_
    refine rg' (h := fun J12 hJ12 => ?_)
    refine hJ12 _ _ ?_
    refine hK11 _ _ ?_
    refine sq fun K13 hK13 => ?_
    refine cs (fun c14 => ?_) (fun c14 => ?_)
    · try exact nope c14
      all_goals have c14p := c14
      all_goals try simp [F] at c14p
      all_goals
       replace F := And.intro c14 F
       try replace F := And.intro c14p F
       refine run_skip ?_
       refine hK13 _ _ ?_
       refine sq fun K14 hK14 => ?_
       refine run_block_k ?_
       refine sq fun K15 hK15 => ?_
       have hlt : i < a.length := by simp at c14; omega
       have hltb : i < b.length := by omega
       have hat := coinsC_at hlt
       have hatb := coinsC_at hltb
       have hb1 : i * 5 + 5 ≤ a.length * 5 := by omega
       have hb2 : i * 5 + 5 ≤ b.length * 5 := by omega
       obtain ⟨x, hx⟩ : ∃ x, x = a[i] := ⟨_, rfl⟩
       obtain ⟨y, hy⟩ : ∃ y, y = b[i] := ⟨_, rfl⟩
       rw [← hx] at hat
       rw [← hy] at hatb
       have hta : a.take (i + 1) = a.take i ++ [x] := by rw [hx]; exact (List.take_append_getElem hlt).symm
       have htb : b.take (i + 1) = b.take i ++ [y] := by rw [hy]; exact (List.take_append_getElem hltb).symm
       replace F := And.intro hlt F
       replace F := And.intro hltb F
       replace F := And.intro hat F
       replace F := And.intro hatb F
       replace F := And.intro hb1 F
       replace F := And.intro hb2 F
       refine rg' (h := fun J16 hJ16 => ?_)
       refine hJ16 _ _ ?_
       refine hK15 _ _ ?_
       refine sq fun K17 hK17 => ?_
       refine run_draw (by kernel_rfl) fun J18 hJ18 => ?_
       refine rp2 0 (k := ?_)
       refine rp2 1 (k := ?_)
       refine rp2 2 (k := ?_)
       refine rp2 3 (k := ?_)
       refine rp2 4 (k := ?_)
       refine rp2 5 (k := ?_)
       refine rp2 6 (k := ?_)
       refine rp2 7 (k := ?_)
       refine rp2 8 (k := ?_)
       refine dd ?_
       refine hJ18 _ _ ?_
       refine hK17 _ _ ?_
       refine cs (fun c24 => ?_) (fun c24 => ?_)
       · try exact nope c24
         all_goals have c24p := c24
         all_goals try simp [F] at c24p
         all_goals
          replace F := And.intro c24 F
          try replace F := And.intro c24p F
          have hne : ¬ a = b := fun e => by subst e; rw [← hx] at hy; subst hy; simp at c24
          replace F := And.intro hne F
          refine sq fun K19 hK19 => ?_
          refine rg' (h := fun J20 hJ20 => ?_)
          refine hJ20 _ _ ?_
          refine hK19 _ _ ?_
          refine run_ret ?_
          try simp only [Then, InBlock, NoGoto]
          refine answer_tmp rfl (.inr rfl) ?_
          exact rt
       try exact nope c24
       all_goals have c24p := c24
       all_goals try simp [F] at c24p
       all_goals
        replace F := And.intro c24 F
        try replace F := And.intro c24p F
        have hxy : x = y := by simpa using c24
        refine run_skip ?_
        refine hK14 _ _ ?_
        refine rg' (h := fun J21 hJ21 => ?_)
        refine hJ21 _ _ ?_
        refine ⟨(i + 1), ⟨kp, lp, ?_, lp, lp⟩, lp⟩
        · rw [hta, htb, hE, hxy]
    try exact nope c14
    all_goals have c14p := c14
    all_goals try simp [F] at c14p
    all_goals
     replace F := And.intro c14 F
     try replace F := And.intro c14p F
     have he : a = b := by have h := c14; simp at h; rw [List.take_of_length_le (by omega), List.take_of_length_le (by omega)] at hE; exact hE
     replace F := And.intro he F
     refine run_exit ?_
     refine hK8 _ _ ?_
     refine sq fun K22 hK22 => ?_
     refine rg' (h := fun J23 hJ23 => ?_)
     refine hJ23 _ _ ?_
     refine hK22 _ _ ?_
     refine run_ret ?_
     try simp only [Then, InBlock, NoGoto]
     refine answer_tmp rfl (.inr rfl) ?_
     exact rt

set_option maxHeartbeats 1600000 in
attribute [local simp] undefA List.getElem?_cons_zero List.getElem?_cons_succ in
theorem csame_ok {σ : St} {a b : List Coin} {ta tb : Tail} (hla : a.length ≤ 9223372036854775807) (hlb : b.length ≤ 9223372036854775807) :
    CallsA Try.prog 92 [.sl 5 (coinsC a) a.length ta, .sl 5 (coinsC b) b.length tb] σ (fun av σ' => av = .v (.bool (decide (a = b))) ∧ σ = σ') := by
  have F := True.intro
  refine callsA_body Try.func92 rfl rfl rfl ?_
  refine sq fun K1 hK1 => ?_
  refine rg' (h := fun J2 hJ2 => ?_)
  refine hJ2 _ _ ?_
  refine hK1 _ _ ?_
  refine sq fun K3 hK3 => ?_
  refine rg' (h := fun J4 hJ4 => ?_)
  refine ca (c := cequal_ok hla hlb) (k := ?_)
  rintro _ _ ⟨rfl, rfl⟩
  repeat (first | simp [F] | simp (disch := omega) only [wC, if_pos, if_neg])
  refine hJ4 _ _ ?_
  refine hK3 _ _ ?_
  refine run_ret ?_
  try simp only [Then, InBlock, NoGoto]
  refine answer_tmp rfl (.inr rfl) ?_
  exact rt

set_option maxHeartbeats 1600000 in
attribute [local simp] undefA List.getElem?_cons_zero List.getElem?_cons_succ in
theorem psome_ok {σ : St} {l : List Coin} {tl : Tail} (hl : l.length ≤ 9223372036854775807) :
    CallsA Try.prog 60 [.sl 5 (coinsC l) l.length tl] σ (fun av σ' => av = .v (.bool (decide (l ≠ [] ∧ Right l))) ∧ σ = σ') := by
  have h0 : 0 < l.length ↔ l ≠ [] := List.length_pos_iff
  have F := And.intro h0 (True.intro)
  refine callsA_body Try.func60 rfl rfl rfl ?_
  refine sq fun K1 hK1 => ?_
  refine rg' (h := fun J2 hJ2 => ?_)
  refine hJ2 _ _ ?_
  refine hK1 _ _ ?_
  refine sq fun K3 hK3 => ?_
  refine rg' (h := fun J4 hJ4 => ?_)
  refine gs 6 (fun g1_3 => ?_) (fun g1_3 => ?_)
  · try exact nope g1_3
    all_goals have g1_3p := g1_3
    all_goals try simp [F] at g1_3p
    all_goals
     replace F := And.intro g1_3 F
     try replace F := And.intro g1_3p F
     refine go2 (k := ?_)
     refine ca (c := right_ok hl) (k := ?_)
     rintro _ _ ⟨rfl, rfl⟩
     repeat (first | simp [F] | simp (disch := omega) only [wC, if_pos, if_neg])
     refine hJ4 _ _ ?_
     refine hK3 _ _ ?_
     refine run_ret ?_
     try simp only [Then, InBlock, NoGoto]
     refine answer_tmp rfl (.inr rfl) ?_
     exact rt
  try exact nope g1_3
  all_goals have g1_3p := g1_3
  all_goals try simp [F] at g1_3p
  all_goals
   replace F := And.intro g1_3 F
   try replace F := And.intro g1_3p F
   refine no2 (k := ?_)
   refine no2 (k := ?_)
   refine hJ4 _ _ ?_
   refine hK3 _ _ ?_
   refine run_ret ?_
   try simp only [Then, InBlock, NoGoto]
   refine answer_tmp rfl (.inr rfl) ?_
   exact rt

end Go.Proofs.Ytdbaddholggkbaa

/-
  Plans: what they are, when they are right.
-/
namespace Go.Vm
open Go

/-- A part of a plan: a length, its coins. -/
structure Per where
  l : Nat
  c : List Coin
deriving DecidableEq

/-- A plan. -/
structure Pln where
  k : UInt8
  s : Nat
  e : Nat
  tot : List Coin
  ps : List Per
deriving DecidableEq

def perC (p : Per) : List AV := [.v (.int .u64 p.l), .sl 5 (coinsC p.c) p.c.length .shut]
def persC (l : List Per) : List AV := l.flatMap perC
def plnC (p : Pln) : List AV := [.v (.int .u8 p.k.toNat), .v (.int .u64 p.s), .v (.int .u64 p.e), .sl 5 (coinsC p.tot) p.tot.length .shut, .sl 2 (persC p.ps) p.ps.length .shut]
@[simp] theorem persC_nil : persC [] = [] := rfl
@[simp] theorem persC_len (l : List Per) : (persC l).length = l.length * 2 := flat_length perC 2 (fun _ => rfl) l
theorem persC_at {l : List Per} {i : Nat} (h : i < l.length) : (persC l).drop (i * 2) = perC l[i] ++ restC perC l i := flat_at perC 2 (fun _ => rfl) l i h
theorem persC_noObj (n : Nat) : ∀ l : List Per, noObjL n (persC l) = true := noObjL_flat (fun p => by simp [perC, noObjL, AV.noObj, coinsC, noObjL_flat, coinC, numA])
theorem persC_under (B : Bd) : ∀ l : List Per, underL B (persC l) = true := underL_flat (fun p => by simp [perC, underL, AV.under, coinsC, underL_flat, coinC, numA])
theorem persC_append (l m : List Per) : persC l ++ persC m = persC (l ++ m) := by simp [persC]
/-- Numbers of a plan within their kinds, lists within their bound. -/
def Pln.Ok (p : Pln) : Prop := p.s < 2 ^ 64 ∧ p.e < 2 ^ 64 ∧ p.tot.length ≤ 9223372036854775807 ∧ p.ps.length ≤ 9223372036854775807 ∧ ∀ x ∈ p.ps, x.l < 2 ^ 64 ∧ x.c.length ≤ 9223372036854775807

/-- What plan.periods looks at, part by part. -/
def perOk : List Per → Nat → List Coin → Option (Nat × List Coin)
  | [], e, a => some (e, a)
  | x :: l, e, a => if x.l = 0 ∨ 2 ^ 40 < x.l ∨ 2 ^ 40 < e ∨ ¬ (x.c ≠ [] ∧ Right x.c) then none else if cAddE a x.c = 0 then perOk l (e + x.l) (cAddL a x.c) else none
def perB (p : Pln) : Bool := decide (p.ps.length ≤ 16) && decide (perOk p.ps p.s [] = some (p.e, p.tot))
def rightB (p : Pln) : Bool :=
  if p.k = 0 then decide (p = ⟨0, 0, 0, [], []⟩)
  else if ¬ (p.tot ≠ [] ∧ Right p.tot) ∨ 2 ^ 40 < p.e then false
  else if p.k = 1 then decide (p.s < p.e ∧ p.ps = [])
  else if p.k = 2 then decide (p.s = 0 ∧ p.ps = [])
  else if p.k = 4 then decide (p.s = 0 ∧ p.e = 0 ∧ p.ps = [])
  else if p.k = 3 ∨ p.k = 5 then perB p
  else false

/-- Where plan.periods stands. -/
structure PerQ where
  i : Nat
  e : Nat
  a : List Coin

section
variable {P : Program} {z : Zone} {N : Nat} {σ : St} {ρ : Nat → AV}
/-- A nil list told less sharply. -/
theorem run_nilsh {c : Code} {Q : Exit → (Nat → AV) → St → Prop} (d sz : Nat) {s : Nat} (h : ρ d = .sl s [] 0 .full := by first | rfl | (simp [F]; done))
    (k : Run z P N c (putA ρ (some d) (.sl sz [] 0 .shut)) σ Q) : Run z P N c ρ σ Q := run_wk (fun i => by
  rw [putA_get]; split
  · rename_i e; subst e; rw [h]; exact Wk.nil _ _ _
  · exact Wk.refl _) k
end

end Go.Vm

/-
  The same plans..
-/
namespace Go.Proofs.Ytdbaddholggkbaa
set_option linter.unnecessarySimpa false
set_option maxRecDepth 100000
open Go Go.Vm
set_option linter.unusedSimpArgs false
set_option linter.unusedVariables false

attribute [local simp] evalL wantedA isCall opA evalA evalAll evalsA evalOpt ofValue ofCell plain binA_eql_pn binA_neq_pn binA_gtr binA_lss binA_geq binA_leq binA_add binA_sub binA_eql binA_neq binA_orI binA_andI binA_shl binA_shr binA_mul binA_quo binA_rem binA_agg_eql binA_agg_neq convA_int unA_not fieldAddrA loadA partA pickA_true pickA_false pickA_bb lenA builtinA storeA splice AV.cells AV.isCell sliceA boundA intA callOf indexAddrA newObjA buildA fillA zeroA ofCells buildSliceA indexA fieldA numA_len4 numA_take4 numA_drop4 set_appN get_appN take_appN List.getElem?_cons_zero List.getElem?_cons_succ makeA zeros64

set_option maxHeartbeats 1600000 in
attribute [local simp] undefA List.getElem?_cons_zero List.getElem?_cons_succ in
theorem psame1_ok {σ : St} {x y : Per} (hx : x.c.length ≤ 9223372036854775807) (hy : y.c.length ≤ 9223372036854775807) :
    CallsA Try.prog 94 [.agg (perC x), .agg (perC y)] σ (fun av σ' => av = .v (.bool (decide (x = y))) ∧ σ = σ') := by
  refine callsA_gcS ?_ rfl
  obtain ⟨l, c⟩ := x
  obtain ⟨l2, c2⟩ := y
  simp only [Per.mk.injEq, perC, Bool.decide_and]
  have F := True.intro
  refine callsA_body Try.func94 rfl rfl rfl ?_
  refine sq fun K1 hK1 => ?_
  refine rg' (h := fun J2 hJ2 => ?_)
  refine hJ2 _ _ ?_
  refine hK1 _ _ ?_
  refine sq fun K3 hK3 => ?_
  refine rg' (h := fun J4 hJ4 => ?_)
  refine gs 10 (fun g1_5 => ?_) (fun g1_5 => ?_)
  · try exact nope g1_5
    all_goals have g1_5p := g1_5
    all_goals try simp [F] at g1_5p
    all_goals
     replace F := And.intro g1_5 F
     try replace F := And.intro g1_5p F
     have hl : l = l2 := by have h := g1_5; simp at h; omega
     replace F := And.intro hl F
     refine go2 (k := ?_)
     refine go2 (k := ?_)
     refine go2 (k := ?_)
     refine go2 (k := ?_)
     refine ca (c := csame_ok hx hy) (k := ?_)
     rintro _ _ ⟨rfl, rfl⟩
     repeat (first | simp [F] | simp (disch := omega) only [wC, if_pos, if_neg])
     refine hJ4 _ _ ?_
     refine hK3 _ _ ?_
     refine run_ret ?_
     try simp only [Then, InBlock, NoGoto]
     refine answer_tmp rfl (.inr rfl) ?_
     exact gcr
  try exact nope g1_5
  all_goals have g1_5p := g1_5
  all_goals try simp [F] at g1_5p
  all_goals
   replace F := And.intro g1_5 F
   try replace F := And.intro g1_5p F
   have hl : ¬ l = l2 := by have h := g1_5; simp at h; omega
   replace F := And.intro hl F
   refine no2 (k := ?_)
   refine no2 (k := ?_)
   refine no2 (k := ?_)
   refine no2 (k := ?_)
   refine no2 (k := ?_)
   refine hJ4 _ _ ?_
   refine hK3 _ _ ?_
   refine run_ret ?_
   try simp only [Then, InBlock, NoGoto]
   refine answer_tmp rfl (.inr rfl) ?_
   exact gcr

set_option maxHeartbeats 1600000 in
attribute [local simp] undefA List.getElem?_cons_zero List.getElem?_cons_succ perC persC_noObj in
theorem pequal_ok {σ : St} {a b : List Per} {ta tb : Tail} (hla : a.length ≤ 9223372036854775807) (hlb : b.length ≤ 9223372036854775807) (ha : ∀ x ∈ a, x.c.length ≤ 9223372036854775807) (hb : ∀ x ∈ b, x.c.length ≤ 9223372036854775807) :
    CallsA Try.prog 93 [.sl 2 (persC a) a.length ta, .sl 2 (persC b) b.length tb, .fn 94 []] σ (fun av σ' => av = .v (.bool (decide (a = b))) ∧ σ = σ') := by
  refine callsA_gcS ?_ rfl
  have F := True.intro
  refine callsA_body Try.func93 rfl rfl rfl ?_
  refine sq fun K1 hK1 => ?_
  refine rg' (h := fun J2 hJ2 => ?_)
  refine hJ2 _ _ ?_
  refine hK1 _ _ ?_
  refine sq fun K3 hK3 => ?_
  refine sq fun K4 hK4 => ?_
  refine rg' (h := fun J5 hJ5 => ?_)
  refine hJ5 _ _ ?_
  refine hK4 _ _ ?_
  refine cs (fun c14 => ?_) (fun c14 => ?_)
  · try exact nope c14
    all_goals have c14p := c14
    all_goals try simp [F] at c14p
    all_goals
     replace F := And.intro c14 F
     try replace F := And.intro c14p F
     have hne : ¬ a = b := fun e => by subst e; simp at c14
     replace F := And.intro hne F
     refine sq fun K6 hK6 => ?_
     refine rg' (h := fun J7 hJ7 => ?_)
     refine hJ7 _ _ ?_
     refine hK6 _ _ ?_
     refine run_ret ?_
     try simp only [Then, InBlock, NoGoto]
     refine answer_tmp rfl (.inr rfl) ?_
     exact gcr
  try exact nope c14
  all_goals have c14p := c14
  all_goals try simp [F] at c14p
  all_goals
   replace F := And.intro c14 F
   try replace F := And.intro c14p F
   refine run_skip ?_
   refine hK3 _ _ ?_
   refine sq fun K8 hK8 => ?_
   refine sq fun K9 hK9 => ?_
   have hlen : a.length = b.length := by have h := c14; simp at h; omega
   refine rg' (h := fun J10 hJ10 => ?_)
   refine hJ10 _ _ ?_
   refine hK9 _ _ ?_
   refine run_block_k ?_
   refine run_loopG (X := Nat) [1, 2, 15, 16] (fun i ρ σ1 => (i ≤ a.length) ∧ (a.take i = b.take i) ∧ (ρ 17 = .v (.int .i64 i)) ∧ (σ1 = σ)) (fun i => a.length - i) (0) ?st1 ?rd1
   case st1 =>
    refine ⟨lp, ?_, lp, ?_⟩
    · rfl
    · rfl
   case rd1 =>
    rintro i ρ1 σ1 hF1 ⟨hi, hE, h13, hσ⟩
    obtain rfl := hσ.symm
    have f1 := keepL hF1
    try simp [KeepL, F] at f1
    replace F := And.intro h13 F
    try replace F := And.intro f1 F
    refine sq fun K11 hK11 => ?_
    refine rg' (h := fun J12 hJ12 => ?_)
    refine hJ12 _ _ ?_
    refine hK11 _ _ ?_
    refine sq fun K13 hK13 => ?_
    refine cs (fun c18 => ?_) (fun c18 => ?_)
    · try exact nope c18
      all_goals have c18p := c18
      all_goals try simp [F] at c18p
      all_goals
       replace F := And.intro c18 F
       try replace F := And.intro c18p F
       refine run_skip ?_
       refine hK13 _ _ ?_
       refine sq fun K14 hK14 => ?_
       refine run_block_k ?_
       refine sq fun K15 hK15 => ?_
       have hlt : i < a.length := by simp at c18; omega
       have hltb : i < b.length := by omega
       have hat := persC_at hlt
       have hatb := persC_at hltb
       have hb1 : i * 2 + 2 ≤ a.length * 2 := by omega
       have hb2 : i * 2 + 2 ≤ b.length * 2 := by omega
       obtain ⟨x, hx⟩ : ∃ x, x = a[i] := ⟨_, rfl⟩
       obtain ⟨y, hy⟩ : ∃ y, y = b[i] := ⟨_, rfl⟩
       rw [← hx] at hat
       rw [← hy] at hatb
       have hta : a.take (i + 1) = a.take i ++ [x] := by rw [hx]; exact (List.take_append_getElem hlt).symm
       have htb : b.take (i + 1) = b.take i ++ [y] := by rw [hy]; exact (List.take_append_getElem hltb).symm
       have hxl := ha x (by rw [hx]; exact List.getElem_mem _)
       have hyl := hb y (by rw [hy]; exact List.getElem_mem _)
       replace F := And.intro hlt F
       replace F := And.intro hltb F
       replace F := And.intro hat F
       replace F := And.intro hatb F
       replace F := And.intro hb1 F
       replace F := And.intro hb2 F
       refine rg' (h := fun J16 hJ16 => ?_)
       refine hJ16 _ _ ?_
       refine hK15 _ _ ?_
       refine sq fun K17 hK17 => ?_
       refine rg' (h := fun J18 hJ18 => ?_)
       refine hJ18 _ _ ?_
       refine hK17 _ _ ?_
       refine sq fun K19 hK19 => ?_
       refine rg' (h := fun J20 hJ20 => ?_)
       refine ca (c := (psame1_ok (x := x) (y := y) hxl hyl)) (k := ?_)
       rintro _ _ ⟨rfl, rfl⟩
       repeat (first | simp [F] | simp (disch := omega) only [wC, if_pos, if_neg])
       refine hJ20 _ _ ?_
       refine hK19 _ _ ?_
       refine cs (fun c30 => ?_) (fun c30 => ?_)
       · try exact nope c30
         all_goals have c30p := c30
         all_goals try simp [F] at c30p
         all_goals
          replace F := And.intro c30 F
          try replace F := And.intro c30p F
          have hne : ¬ a = b := fun e => by subst e; rw [← hx] at hy; subst hy; simp at c30
          replace F := And.intro hne F
          refine sq fun K21 hK21 => ?_
          refine rg' (h := fun J22 hJ22 => ?_)
          refine hJ22 _ _ ?_
          refine hK21 _ _ ?_
          refine run_ret ?_
          try simp only [Then, InBlock, NoGoto]
          refine answer_tmp rfl (.inr rfl) ?_
          exact gcr
       try exact nope c30
       all_goals have c30p := c30
       all_goals try simp [F] at c30p
       all_goals
        replace F := And.intro c30 F
        try replace F := And.intro c30p F
        have hxy : x = y := by simpa using c30
        refine run_skip ?_
        refine hK14 _ _ ?_
        refine rg' (h := fun J23 hJ23 => ?_)
        refine hJ23 _ _ ?_
        refine ⟨gk, (i + 1), ⟨kpG, lpG, ?_, lpG, lpG⟩, lpG⟩
        · rw [hta, htb, hE, hxy]
    try exact nope c18
    all_goals have c18p := c18
    all_goals try simp [F] at c18p
    all_goals
     replace F := And.intro c18 F
     try replace F := And.intro c18p F
     have he : a = b := by have h := c18; simp at h; rw [List.take_of_length_le (by omega), List.take_of_length_le (by omega)] at hE; exact hE
     replace F := And.intro he F
     refine run_exit ?_
     refine hK8 _ _ ?_
     refine sq fun K24 hK24 => ?_
     refine rg' (h := fun J25 hJ25 => ?_)
     refine hJ25 _ _ ?_
     refine hK24 _ _ ?_
     refine run_ret ?_
     try simp only [Then, InBlock, NoGoto]
     refine answer_tmp rfl (.inr rfl) ?_
     exact gcr

end Go.Proofs.Ytdbaddholggkbaa

/-
  Right plans..
-/
namespace Go.Proofs.Ytdbaddholggkbaa
set_option linter.unnecessarySimpa false
set_option maxRecDepth 100000
open Go Go.Vm
set_option linter.unusedSimpArgs false
set_option linter.unusedVariables false

attribute [local simp] evalL wantedA isCall opA evalA evalAll evalsA evalOpt ofValue ofCell plain binA_eql_pn binA_neq_pn binA_gtr binA_lss binA_geq binA_leq binA_add binA_sub binA_eql binA_neq binA_orI binA_andI binA_shl binA_shr binA_mul binA_quo binA_rem binA_agg_eql binA_agg_neq convA_int unA_not fieldAddrA loadA partA pickA_true pickA_false pickA_bb lenA builtinA storeA splice AV.cells AV.isCell sliceA boundA intA callOf indexAddrA newObjA buildA fillA zeroA ofCells buildSliceA indexA fieldA numA_len4 numA_take4 numA_drop4 set_appN get_appN take_appN List.getElem?_cons_zero List.getElem?_cons_succ makeA zeros64

set_option maxHeartbeats 1600000 in
attribute [local simp] undefA List.getElem?_cons_zero List.getElem?_cons_succ in
theorem plsame_ok {σ : St} {a b : Pln} (ha : a.Ok) (hb : b.Ok) :
    CallsA Try.prog 47 [.agg (plnC a), .agg (plnC b)] σ (fun av σ' => av = .v (.bool (decide (a = b))) ∧ σ = σ') := by
  refine callsA_gcS ?_ rfl
  obtain ⟨ak, a1, a2, a3, a4⟩ := a
  obtain ⟨bk, b1, b2, b3, b4⟩ := b
  obtain ⟨ha1, ha2, ha3, ha4, ha5⟩ := ha
  obtain ⟨hb1, hb2, hb3, hb4, hb5⟩ := hb
  simp only [Pln.mk.injEq, plnC, Bool.decide_and] at *
  have F := True.intro
  refine callsA_body Try.func47 rfl rfl rfl ?_
  refine sq fun K1 hK1 => ?_
  refine rg' (h := fun J2 hJ2 => ?_)
  refine hJ2 _ _ ?_
  refine hK1 _ _ ?_
  refine sq fun K3 hK3 => ?_
  refine rg' (h := fun J4 hJ4 => ?_)
  refine gs 10 (fun g1_5 => ?_) (fun g1_5 => ?_)
  · try exact nope g1_5
    all_goals have g1_5p := g1_5
    all_goals try simp [F] at g1_5p
    all_goals
     replace F := And.intro g1_5 F
     try replace F := And.intro g1_5p F
     have hl1 : ak = bk := by have h := g1_5; simp at h; exact UInt8.toNat_inj.1 (by omega)
     replace F := And.intro hl1 F
     refine go2 (k := ?_)
     refine go2 (k := ?_)
     refine go2 (k := ?_)
     refine go2 (k := ?_)
     refine go2 (k := ?_)
     refine gs 17 (fun g1_12 => ?_) (fun g1_12 => ?_)
     · try exact nope g1_12
       all_goals have g1_12p := g1_12
       all_goals try simp [F] at g1_12p
       all_goals
        replace F := And.intro g1_12 F
        try replace F := And.intro g1_12p F
        have hl2 : a1 = b1 := by have h := g1_12; simp at h; omega
        replace F := And.intro hl2 F
        refine go2 (k := ?_)
        refine go2 (k := ?_)
        refine go2 (k := ?_)
        refine go2 (k := ?_)
        refine go2 (k := ?_)
        refine gs 24 (fun g1_19 => ?_) (fun g1_19 => ?_)
        · try exact nope g1_19
          all_goals have g1_19p := g1_19
          all_goals try simp [F] at g1_19p
          all_goals
           replace F := And.intro g1_19 F
           try replace F := And.intro g1_19p F
           have hl3 : a2 = b2 := by have h := g1_19; simp at h; omega
           replace F := And.intro hl3 F
           refine go2 (k := ?_)
           refine go2 (k := ?_)
           refine go2 (k := ?_)
           refine go2 (k := ?_)
           refine ca (c := csame_ok ha3 hb3) (k := ?_)
           rintro _ _ ⟨rfl, rfl⟩
           repeat (first | simp [F] | simp (disch := omega) only [wC, if_pos, if_neg])
           refine gs 31 (fun g1_26 => ?_) (fun g1_26 => ?_)
           · try exact nope g1_26
             all_goals have g1_26p := g1_26
             all_goals try simp [F] at g1_26p
             all_goals
              replace F := And.intro g1_26 F
              try replace F := And.intro g1_26p F
              refine go2 (k := ?_)
              refine go2 (k := ?_)
              refine go2 (k := ?_)
              refine go2 (k := ?_)
              refine ca (c := pequal_ok ha4 hb4 (fun x hx ↦ (ha5 x hx).2) (fun x hx ↦ (hb5 x hx).2)) (k := ?_)
              rintro _ _ ⟨rfl, rfl⟩
              repeat (first | simp [F] | simp (disch := omega) only [wC, if_pos, if_neg])
              refine hJ4 _ _ ?_
              refine hK3 _ _ ?_
              refine run_ret ?_
              try simp only [Then, InBlock, NoGoto]
              refine answer_tmp rfl (.inr rfl) ?_
              exact gcr
           try exact nope g1_26
           all_goals have g1_26p := g1_26
           all_goals try simp [F] at g1_26p
           all_goals
            replace F := And.intro g1_26 F
            try replace F := And.intro g1_26p F
            refine no2 (k := ?_)
            refine no2 (k := ?_)
            refine no2 (k := ?_)
            refine no2 (k := ?_)
            refine no2 (k := ?_)
            refine hJ4 _ _ ?_
            refine hK3 _ _ ?_
            refine run_ret ?_
            try simp only [Then, InBlock, NoGoto]
            refine answer_tmp rfl (.inr rfl) ?_
            exact gcr
        try exact nope g1_19
        all_goals have g1_19p := g1_19
        all_goals try simp [F] at g1_19p
        all_goals
         replace F := And.intro g1_19 F
         try replace F := And.intro g1_19p F
         have hl3 : ¬ a2 = b2 := by have h := g1_19; simp at h; omega
         replace F := And.intro hl3 F
         refine no2 (k := ?_)
         refine no2 (k := ?_)
         refine no2 (k := ?_)
         refine no2 (k := ?_)
         refine no2 (k := ?_)
         refine no2 (k := ?_)
         refine no2 (k := ?_)
         refine no2 (k := ?_)
         refine no2 (k := ?_)
         refine no2 (k := ?_)
         refine hJ4 _ _ ?_
         refine hK3 _ _ ?_
         refine run_ret ?_
         try simp only [Then, InBlock, NoGoto]
         refine answer_tmp rfl (.inr rfl) ?_
         exact gcr
     try exact nope g1_12
     all_goals have g1_12p := g1_12
     all_goals try simp [F] at g1_12p
     all_goals
      replace F := And.intro g1_12 F
      try replace F := And.intro g1_12p F
      have hl2 : ¬ a1 = b1 := by have h := g1_12; simp at h; omega
      replace F := And.intro hl2 F
      refine no2 (k := ?_)
      refine no2 (k := ?_)
      refine no2 (k := ?_)
      refine no2 (k := ?_)
      refine no2 (k := ?_)
      refine no2 (k := ?_)
      refine no2 (k := ?_)
      refine no2 (k := ?_)
      refine no2 (k := ?_)
      refine no2 (k := ?_)
      refine no2 (k := ?_)
      refine no2 (k := ?_)
      refine no2 (k := ?_)
      refine no2 (k := ?_)
      refine no2 (k := ?_)
      refine hJ4 _ _ ?_
      refine hK3 _ _ ?_
      refine run_ret ?_
      try simp only [Then, InBlock, NoGoto]
      refine answer_tmp rfl (.inr rfl) ?_
      exact gcr
  try exact nope g1_5
  all_goals have g1_5p := g1_5
  all_goals try simp [F] at g1_5p
  all_goals
   replace F := And.intro g1_5 F
   try replace F := And.intro g1_5p F
   have hl1 : ¬ ak = bk := by have h := g1_5; simp at h; intro e; subst e; exact h rfl
   replace F := And.intro hl1 F
   refine no2 (k := ?_)
   refine no2 (k := ?_)
   refine no2 (k := ?_)
   refine no2 (k := ?_)
   refine no2 (k := ?_)
   refine no2 (k := ?_)
   refine no2 (k := ?_)
   refine no2 (k := ?_)
   refine no2 (k := ?_)
   refine no2 (k := ?_)
   refine no2 (k := ?_)
   refine no2 (k := ?_)
   refine no2 (k := ?_)
   refine no2 (k := ?_)
   refine no2 (k := ?_)
   refine no2 (k := ?_)
   refine no2 (k := ?_)
   refine no2 (k := ?_)
   refine no2 (k := ?_)
   refine no2 (k := ?_)
   refine hJ4 _ _ ?_
   refine hK3 _ _ ?_
   refine run_ret ?_
   try simp only [Then, InBlock, NoGoto]
   refine answer_tmp rfl (.inr rfl) ?_
   exact gcr

end Go.Proofs.Ytdbaddholggkbaa

/-
  Right plans..
-/
namespace Go.Proofs.Ytdbaddholggkbaa
set_option linter.unnecessarySimpa false
set_option maxRecDepth 100000
open Go Go.Vm
set_option linter.unusedSimpArgs false
set_option linter.unusedVariables false

attribute [local simp] evalL wantedA isCall opA evalA evalAll evalsA evalOpt ofValue ofCell plain binA_eql_pn binA_neq_pn binA_gtr binA_lss binA_geq binA_leq binA_add binA_sub binA_eql binA_neq binA_orI binA_andI binA_shl binA_shr binA_mul binA_quo binA_rem binA_agg_eql binA_agg_neq convA_int unA_not fieldAddrA loadA partA pickA_true pickA_false pickA_bb lenA builtinA storeA splice AV.cells AV.isCell sliceA boundA intA callOf indexAddrA newObjA buildA fillA zeroA ofCells buildSliceA indexA fieldA numA_len4 numA_take4 numA_drop4 set_appN get_appN take_appN List.getElem?_cons_zero List.getElem?_cons_succ makeA zeros64

set_option maxHeartbeats 1600000 in
attribute [local simp] undefA List.getElem?_cons_zero List.getElem?_cons_succ perC persC_noObj in
theorem periods_ok {σ : St} {p : Pln} (hp : p.Ok) (he : p.e ≤ 2 ^ 40) :
    CallsA Try.prog 61 [.agg (plnC p)] σ (fun av σ' => av = .v (.bool (perB p)) ∧ σ = σ') := by
  refine callsA_gcS ?_ rfl
  obtain ⟨pk, ps, pe, pt, pp⟩ := p
  obtain ⟨k1, k2, k3, k4, h5⟩ := hp
  simp only [plnC, perB] at *
  have F := True.intro
  refine callsA_body Try.func61 rfl rfl rfl ?_
  refine sq fun K1 hK1 => ?_
  refine rg' (h := fun J2 hJ2 => ?_)
  refine hJ2 _ _ ?_
  refine hK1 _ _ ?_
  refine sq fun K3 hK3 => ?_
  refine sq fun K4 hK4 => ?_
  refine rg' (h := fun J5 hJ5 => ?_)
  refine hJ5 _ _ ?_
  refine hK4 _ _ ?_
  refine cs (fun c11 => ?_) (fun c11 => ?_)
  · try exact nope c11
    all_goals have c11p := c11
    all_goals try simp [F] at c11p
    all_goals
     replace F := And.intro c11 F
     try replace F := And.intro c11p F
     have hbig : ¬ pp.length ≤ 16 := by have h := c11; simp at h; omega
     replace F := And.intro hbig F
     refine sq fun K6 hK6 => ?_
     refine rg' (h := fun J7 hJ7 => ?_)
     refine hJ7 _ _ ?_
     refine hK6 _ _ ?_
     refine run_ret ?_
     try simp only [Then, InBlock, NoGoto]
     refine answer_tmp rfl (.inr rfl) ?_
     exact gcr
  try exact nope c11
  all_goals have c11p := c11
  all_goals try simp [F] at c11p
  all_goals
   replace F := And.intro c11 F
   try replace F := And.intro c11p F
   have hbig : pp.length ≤ 16 := by have h := c11; simp at h; omega
   replace F := And.intro hbig F
   refine run_skip ?_
   refine hK3 _ _ ?_
   refine sq fun K8 hK8 => ?_
   refine rg' (h := fun J9 hJ9 => ?_)
   refine hJ9 _ _ ?_
   refine hK8 _ _ ?_
   refine sq fun K10 hK10 => ?_
   refine rg' (h := fun J11 hJ11 => ?_)
   refine hJ11 _ _ ?_
   refine hK10 _ _ ?_
   refine sq fun K12 hK12 => ?_
   refine sq fun K13 hK13 => ?_
   refine run_nilsh 4 5 (k := ?_)
   refine rg' (h := fun J14 hJ14 => ?_)
   refine hJ14 _ _ ?_
   refine hK13 _ _ ?_
   refine run_block_k ?_
   refine run_loopG (X := PerQ) [1, 15, 16] (fun q ρ σ1 => (q.i ≤ pp.length) ∧ (perOk pp ps [] = perOk (pp.drop q.i) q.e q.a) ∧ (q.e < 2 ^ 64) ∧ (q.a.length ≤ 8) ∧ (ρ 3 = .v (.int .u64 q.e)) ∧ (ρ 4 = .sl 5 (coinsC q.a) q.a.length .shut) ∧ (ρ 17 = .v (.int .i64 q.i)) ∧ (σ1 = { σ with objs := σ.objs ++ [[.v (.int .u8 pk.toNat), .v (.int .u64 ps), .v (.int .u64 pe), .sl 5 (coinsC pt) pt.length .shut, .sl 2 (persC pp) pp.length .shut]] })) (fun q => pp.length - q.i) (⟨0, ps, []⟩) ?st1 ?rd1
   case st1 =>
    refine ⟨lp, ?_, lp, lp, lp, lp, lp, ?_⟩
    · rfl
    · rfl
   case rd1 =>
    rintro q ρ1 σ1 hF1 ⟨hi, hE, hqe, hqa, h3, h4, h17, hσ⟩
    obtain rfl := hσ.symm
    have f1 := keepL hF1
    try simp [KeepL, F] at f1
    replace F := And.intro h3 F
    replace F := And.intro h4 F
    replace F := And.intro h17 F
    try replace F := And.intro f1 F
    refine sq fun K15 hK15 => ?_
    refine rg' (h := fun J16 hJ16 => ?_)
    refine hJ16 _ _ ?_
    refine hK15 _ _ ?_
    refine sq fun K17 hK17 => ?_
    refine cs (fun c18 => ?_) (fun c18 => ?_)
    · try exact nope c18
      all_goals have c18p := c18
      all_goals try simp [F] at c18p
      all_goals
       replace F := And.intro c18 F
       try replace F := And.intro c18p F
       refine run_skip ?_
       refine hK17 _ _ ?_
       refine sq fun K18 hK18 => ?_
       refine run_block_k ?_
       refine sq fun K19 hK19 => ?_
       obtain ⟨i, E, S⟩ := q
       simp only at hi hE hqe hqa h3 h4 h17
       have hlt : i < pp.length := by simp at c18; omega
       have hat := persC_at hlt
       have hb1 : i * 2 + 2 ≤ pp.length * 2 := by omega
       have hx5 := h5 _ (List.getElem_mem hlt)
       have hcons : pp.drop i = pp[i] :: pp.drop (i + 1) := List.drop_eq_getElem_cons hlt
       obtain ⟨x, hx⟩ : ∃ x, x = pp[i] := ⟨_, rfl⟩
       rw [← hx] at hat hx5 hcons
       rw [hcons] at hE
       obtain ⟨xl, xc⟩ := x
       obtain ⟨hxl, hxc⟩ := hx5
       simp only at hxl hxc
       simp only [perOk] at hE
       replace F := And.intro hlt F
       replace F := And.intro hat F
       replace F := And.intro hb1 F
       refine rg' (h := fun J20 hJ20 => ?_)
       refine hJ20 _ _ ?_
       refine hK19 _ _ ?_
       refine sq fun K21 hK21 => ?_
       refine sq fun K22 hK22 => ?_
       refine rg' (h := fun J23 hJ23 => ?_)
       refine gs 24 (fun g8_3 => ?_) (fun g8_3 => ?_)
       · try exact nope g8_3
         all_goals have g8_3p := g8_3
         all_goals try simp [F] at g8_3p
         all_goals
          replace F := And.intro g8_3 F
          try replace F := And.intro g8_3p F
          have hbad : perOk pp ps [] = none := by rw [hE]; exact if_pos (.inl (by have h := g8_3; simp at h; omega))
          replace F := And.intro hbad F
          refine no2 (k := ?_)
          refine no2 (k := ?_)
          refine no2 (k := ?_)
          refine no2 (k := ?_)
          refine no2 (k := ?_)
          refine no2 (k := ?_)
          refine no2 (k := ?_)
          refine no2 (k := ?_)
          refine no2 (k := ?_)
          refine hJ23 _ _ ?_
          refine hK22 _ _ ?_
          refine ct ?_
          refine sq fun K24 hK24 => ?_
          refine rg' (h := fun J25 hJ25 => ?_)
          refine hJ25 _ _ ?_
          refine hK24 _ _ ?_
          refine run_ret ?_
          try simp only [Then, InBlock, NoGoto]
          refine answer_tmp rfl (.inr rfl) ?_
          exact gcr
       try exact nope g8_3
       all_goals have g8_3p := g8_3
       all_goals try simp [F] at g8_3p
       all_goals
        replace F := And.intro g8_3 F
        try replace F := And.intro g8_3p F
        refine go2 (k := ?_)
        refine go2 (k := ?_)
        refine go2 (k := ?_)
        refine gs 29 (fun g8_8 => ?_) (fun g8_8 => ?_)
        · try exact nope g8_8
          all_goals have g8_8p := g8_8
          all_goals try simp [F] at g8_8p
          all_goals
           replace F := And.intro g8_8 F
           try replace F := And.intro g8_8p F
           have hbad : perOk pp ps [] = none := by rw [hE]; exact if_pos (.inr (.inl (by have h := g8_8; simp at h; omega)))
           replace F := And.intro hbad F
           refine no2 (k := ?_)
           refine no2 (k := ?_)
           refine no2 (k := ?_)
           refine no2 (k := ?_)
           refine no2 (k := ?_)
           refine no2 (k := ?_)
           refine hJ23 _ _ ?_
           refine hK22 _ _ ?_
           refine ct ?_
           refine sq fun K26 hK26 => ?_
           refine rg' (h := fun J27 hJ27 => ?_)
           refine hJ27 _ _ ?_
           refine hK26 _ _ ?_
           refine run_ret ?_
           try simp only [Then, InBlock, NoGoto]
           refine answer_tmp rfl (.inr rfl) ?_
           exact gcr
        try exact nope g8_8
        all_goals have g8_8p := g8_8
        all_goals try simp [F] at g8_8p
        all_goals
         replace F := And.intro g8_8 F
         try replace F := And.intro g8_8p F
         refine go2 (k := ?_)
         refine go2 (k := ?_)
         refine gs 33 (fun g8_12 => ?_) (fun g8_12 => ?_)
         · try exact nope g8_12
           all_goals have g8_12p := g8_12
           all_goals try simp [F] at g8_12p
           all_goals
            replace F := And.intro g8_12 F
            try replace F := And.intro g8_12p F
            have hbad : perOk pp ps [] = none := by rw [hE]; exact if_pos (.inr (.inr (.inl (by have h := g8_12; simp at h; omega))))
            replace F := And.intro hbad F
            refine no2 (k := ?_)
            refine no2 (k := ?_)
            refine no2 (k := ?_)
            refine no2 (k := ?_)
            refine hJ23 _ _ ?_
            refine hK22 _ _ ?_
            refine ct ?_
            refine sq fun K28 hK28 => ?_
            refine rg' (h := fun J29 hJ29 => ?_)
            refine hJ29 _ _ ?_
            refine hK28 _ _ ?_
            refine run_ret ?_
            try simp only [Then, InBlock, NoGoto]
            refine answer_tmp rfl (.inr rfl) ?_
            exact gcr
         try exact nope g8_12
         all_goals have g8_12p := g8_12
         all_goals try simp [F] at g8_12p
         all_goals
          replace F := And.intro g8_12 F
          try replace F := And.intro g8_12p F
          refine go2 (k := ?_)
          refine go2 (k := ?_)
          refine ca (c := psome_ok hxc) (k := ?_)
          rintro _ _ ⟨rfl, rfl⟩
          repeat (first | simp [F] | simp (disch := omega) only [wC, if_pos, if_neg])
          refine go2 (k := ?_)
          refine hJ23 _ _ ?_
          refine hK22 _ _ ?_
          refine cs (fun c38 => ?_) (fun c38 => ?_)
          · try exact nope c38
            all_goals have c38p := c38
            all_goals try simp [F] at c38p
            all_goals
             replace F := And.intro c38 F
             try replace F := And.intro c38p F
             have hbad : perOk pp ps [] = none := by rw [hE]; exact if_pos (.inr (.inr (.inr (by have h := c38; simp at h; intro hh; rcases h with h | h; exact hh.1 h; exact h hh.2))))
             replace F := And.intro hbad F
             refine sq fun K30 hK30 => ?_
             refine rg' (h := fun J31 hJ31 => ?_)
             refine hJ31 _ _ ?_
             refine hK30 _ _ ?_
             refine run_ret ?_
             try simp only [Then, InBlock, NoGoto]
             refine answer_tmp rfl (.inr rfl) ?_
             exact gcr
          try exact nope c38
          all_goals have c38p := c38
          all_goals try simp [F] at c38p
          all_goals
           replace F := And.intro c38 F
           try replace F := And.intro c38p F
           have n1 : ¬ xl = 0 := by have h := g8_3; simp at h; omega
           have n2 : ¬ 2 ^ 40 < xl := by have h := g8_8; simp at h; omega
           have n3 : ¬ 2 ^ 40 < E := by have h := g8_12; simp at h; omega
           have n4 : ¬ ¬ (xc ≠ [] ∧ Right xc) := by have h := c38; simp at h; exact fun hn => hn ⟨h.1, h.2⟩
           have hgood : ¬ (xl = 0 ∨ 2 ^ 40 < xl ∨ 2 ^ 40 < E ∨ ¬ (xc ≠ [] ∧ Right xc)) := fun h => h.elim n1 (fun h => h.elim n2 (fun h => h.elim n3 n4))
           have hw2 : E + xl < 2 ^ 64 := by omega
           obtain ⟨S2, hS2⟩ : ∃ S2, S2 = cAddL S xc := ⟨_, rfl⟩
           have hS2l : S2.length ≤ 8 := by rw [hS2]; exact right_len (right_cAdd _ _)
           rw [← hS2] at hE
           rw [if_neg hgood] at hE
           have hw : IntKind.u64.wrap ((E : Int) + xl) = ((E + xl : Nat) : Int) := by rw [wrap_u64c (by omega)]; rfl
           replace F := And.intro hw F
           refine run_skip ?_
           refine hK21 _ _ ?_
           refine sq fun K32 hK32 => ?_
           refine rg' (h := fun J33 hJ33 => ?_)
           refine hJ33 _ _ ?_
           refine hK32 _ _ ?_
           refine sq fun K34 hK34 => ?_
           refine rg' (h := fun J35 hJ35 => ?_)
           refine hJ35 _ _ ?_
           refine hK34 _ _ ?_
           refine sq fun K36 hK36 => ?_
           refine rg' (h := fun J37 hJ37 => ?_)
           refine ca (c := (hS2 ▸ cadd_ok (by omega) hxc)) (k := ?_)
           rintro _ _ ⟨rfl, rfl⟩
           repeat (first | simp [F] | simp (disch := omega) only [wC, if_pos, if_neg])
           refine hJ37 _ _ ?_
           refine hK36 _ _ ?_
           refine sq fun K38 hK38 => ?_
           refine rg' (h := fun J39 hJ39 => ?_)
           refine hJ39 _ _ ?_
           refine hK38 _ _ ?_
           refine cs (fun c51 => ?_) (fun c51 => ?_)
           · try exact nope c51
             all_goals have c51p := c51
             all_goals try simp [F] at c51p
             all_goals
              replace F := And.intro c51 F
              try replace F := And.intro c51p F
              have hne : ¬ cAddE S xc = 0 := by have h := c51; simp at h; omega
              rw [if_neg hne] at hE
              replace F := And.intro hE F
              refine sq fun K40 hK40 => ?_
              refine rg' (h := fun J41 hJ41 => ?_)
              refine hJ41 _ _ ?_
              refine hK40 _ _ ?_
              refine run_ret ?_
              try simp only [Then, InBlock, NoGoto]
              refine answer_tmp rfl (.inr rfl) ?_
              exact gcr
           try exact nope c51
           all_goals have c51p := c51
           all_goals try simp [F] at c51p
           all_goals
            replace F := And.intro c51 F
            try replace F := And.intro c51p F
            have hye : cAddE S xc = 0 := by have h := c51; simp at h; omega
            rw [if_pos hye] at hE
            refine run_skip ?_
            refine hK18 _ _ ?_
            refine rg' (h := fun J42 hJ42 => ?_)
            refine hJ42 _ _ ?_
            refine ⟨gk, (⟨i + 1, E + xl, S2⟩), ⟨kpG, lpG, ?_, ?_, ?_, lpG, lpG, lpG, lpG⟩, lpG⟩
            · exact hE
            · exact hw2
            · exact hS2l
    try exact nope c18
    all_goals have c18p := c18
    all_goals try simp [F] at c18p
    all_goals
     replace F := And.intro c18 F
     try replace F := And.intro c18p F
     have hend : perOk pp ps [] = some (q.e, q.a) := by rw [hE, List.drop_of_length_le (by have h := c18; simp at h; omega)]; rfl
     replace F := And.intro hend F
     refine run_exit ?_
     refine hK12 _ _ ?_
     refine sq fun K43 hK43 => ?_
     refine rg' (h := fun J44 hJ44 => ?_)
     refine gs 57 (fun g16_4 => ?_) (fun g16_4 => ?_)
     · try exact nope g16_4
       all_goals have g16_4p := g16_4
       all_goals try simp [F] at g16_4p
       all_goals
        replace F := And.intro g16_4 F
        try replace F := And.intro g16_4p F
        have hee : q.e = pe := by have h := g16_4; simp at h; omega
        replace F := And.intro hee F
        refine go2 (k := ?_)
        refine go2 (k := ?_)
        refine go2 (k := ?_)
        refine ca (c := csame_ok (by omega) k3) (k := ?_)
        rintro _ _ ⟨rfl, rfl⟩
        repeat (first | simp [F] | simp (disch := omega) only [wC, if_pos, if_neg])
        refine hJ44 _ _ ?_
        refine hK43 _ _ ?_
        refine run_ret ?_
        try simp only [Then, InBlock, NoGoto]
        refine answer_tmp rfl (.inr rfl) ?_
        exact gcr
     try exact nope g16_4
     all_goals have g16_4p := g16_4
     all_goals try simp [F] at g16_4p
     all_goals
      replace F := And.intro g16_4 F
      try replace F := And.intro g16_4p F
      have hee : ¬ q.e = pe := by have h := g16_4; simp at h; omega
      replace F := And.intro hee F
      refine no2 (k := ?_)
      refine no2 (k := ?_)
      refine no2 (k := ?_)
      refine no2 (k := ?_)
      refine hJ44 _ _ ?_
      refine hK43 _ _ ?_
      refine run_ret ?_
      try simp only [Then, InBlock, NoGoto]
      refine answer_tmp rfl (.inr rfl) ?_
      exact gcr

end Go.Proofs.Ytdbaddholggkbaa

/-
  Right plans..
-/
namespace Go.Proofs.Ytdbaddholggkbaa
set_option linter.unnecessarySimpa false
set_option maxRecDepth 100000
open Go Go.Vm
set_option linter.unusedSimpArgs false
set_option linter.unusedVariables false

attribute [local simp] evalL wantedA isCall opA evalA evalAll evalsA evalOpt ofValue ofCell plain binA_eql_pn binA_neq_pn binA_gtr binA_lss binA_geq binA_leq binA_add binA_sub binA_eql binA_neq binA_orI binA_andI binA_shl binA_shr binA_mul binA_quo binA_rem binA_agg_eql binA_agg_neq convA_int unA_not fieldAddrA loadA partA pickA_true pickA_false pickA_bb lenA builtinA storeA splice AV.cells AV.isCell sliceA boundA intA callOf indexAddrA newObjA buildA fillA zeroA ofCells buildSliceA indexA fieldA numA_len4 numA_take4 numA_drop4 set_appN get_appN take_appN List.getElem?_cons_zero List.getElem?_cons_succ makeA zeros64

theorem okZero : (⟨0, 0, 0, [], []⟩ : Pln).Ok := ⟨by decide, by decide, by decide, by decide, fun x hx => absurd hx (by simp)⟩

theorem plsame0_ok {σ : St} {a : Pln} (ha : a.Ok) :
    CallsA Try.prog 47 [.agg (plnC a), .agg [.v (.int .u8 0), .v (.int .u64 0), .v (.int .u64 0), .sl 0 [] 0 .full, .sl 0 [] 0 .full]] σ (fun av σ' => av = .v (.bool (decide (a = ⟨0, 0, 0, [], []⟩))) ∧ σ = σ') :=
  callsA_wk (.cons (Wk.refl _) (.cons (WkL.agg (.cons (Wk.refl _) (.cons (Wk.refl _) (.cons (Wk.refl _) (.cons (Wk.nil _ _ _) (.cons (Wk.nil _ _ _) .nil)))))) .nil)) (plsame_ok ha okZero)

set_option maxHeartbeats 1600000 in
attribute [local simp] undefA List.getElem?_cons_zero List.getElem?_cons_succ perC plnC persC_noObj in
theorem plright_ok {σ : St} {p : Pln} (hp : p.Ok) :
    CallsA Try.prog 18 [.agg (plnC p)] σ (fun av σ' => av = .v (.bool (rightB p)) ∧ σ = σ') := by
  refine callsA_gcS ?_ rfl
  have hsame := plsame0_ok (σ := σ) hp
  obtain ⟨pk, ps, pe, pt, pp⟩ := p
  have hp0 := hp
  obtain ⟨k1, k2, k3, k4, h5⟩ := hp
  have hnil : ((pp.length : Int) == 0) = decide (pp = []) := by cases pp <;> simp <;> omega
  have hkn : ∀ n : UInt8, pk = n ↔ (pk.toNat : Int) = (n.toNat : Int) := fun n => ⟨fun e => by rw [e], fun e => UInt8.toNat_inj.1 (Int.ofNat_inj.1 e)⟩
  simp only [plnC] at *
  have F := And.intro hnil (True.intro)
  refine callsA_body Try.func18 rfl rfl rfl ?_
  refine sq fun K1 hK1 => ?_
  refine rg' (h := fun J2 hJ2 => ?_)
  refine hJ2 _ _ ?_
  refine hK1 _ _ ?_
  refine sq fun K3 hK3 => ?_
  refine sq fun K4 hK4 => ?_
  refine rg' (h := fun J5 hJ5 => ?_)
  refine hJ5 _ _ ?_
  refine hK4 _ _ ?_
  refine cs (fun c5 => ?_) (fun c5 => ?_)
  · try exact nope c5
    all_goals have c5p := c5
    all_goals try simp [F] at c5p
    all_goals
     replace F := And.intro c5 F
     try replace F := And.intro c5p F
     have hk0 : pk = 0 := (hkn 0).2 (by have h := c5; simp at h; simpa using h)
     have hB : rightB ⟨pk, ps, pe, pt, pp⟩ = decide ((⟨pk, ps, pe, pt, pp⟩ : Pln) = ⟨0, 0, 0, [], []⟩) := by rw [rightB, if_pos hk0]
     replace F := And.intro hB F
     refine sq fun K6 hK6 => ?_
     refine rg' (h := fun J7 hJ7 => ?_)
     refine ca (c := plsame0_ok hp0) (k := ?_)
     rintro _ _ ⟨rfl, rfl⟩
     repeat (first | simp [F] | simp (disch := omega) only [wC, if_pos, if_neg])
     refine hJ7 _ _ ?_
     refine hK6 _ _ ?_
     refine run_ret ?_
     try simp only [Then, InBlock, NoGoto]
     refine answer_tmp rfl (.inr rfl) ?_
     exact gcr
  try exact nope c5
  all_goals have c5p := c5
  all_goals try simp [F] at c5p
  all_goals
   replace F := And.intro c5 F
   try replace F := And.intro c5p F
   have hk0 : ¬ pk = 0 := fun e => by rw [hkn] at e; have h := c5; simp at h; exact h (by simpa using e)
   refine run_skip ?_
   refine hK3 _ _ ?_
   refine sq fun K8 hK8 => ?_
   refine sq fun K9 hK9 => ?_
   refine rg' (h := fun J10 hJ10 => ?_)
   refine ca (c := psome_ok k3) (k := ?_)
   rintro _ _ ⟨rfl, rfl⟩
   repeat (first | simp [F] | simp (disch := omega) only [wC, if_pos, if_neg])
   refine gs 13 (fun g3_4 => ?_) (fun g3_4 => ?_)
   · try exact nope g3_4
     all_goals have g3_4p := g3_4
     all_goals try simp [F] at g3_4p
     all_goals
      replace F := And.intro g3_4 F
      try replace F := And.intro g3_4p F
      have hB : rightB ⟨pk, ps, pe, pt, pp⟩ = false := by rw [rightB, if_neg hk0, if_pos (.inl (by have h := g3_4; simp at h; intro hh; rcases h with h | h; exact hh.1 h; exact h hh.2))]
      replace F := And.intro hB F
      refine no2 (k := ?_)
      refine no2 (k := ?_)
      refine no2 (k := ?_)
      refine hJ10 _ _ ?_
      refine hK9 _ _ ?_
      refine ct ?_
      refine sq fun K11 hK11 => ?_
      refine rg' (h := fun J12 hJ12 => ?_)
      refine hJ12 _ _ ?_
      refine hK11 _ _ ?_
      refine run_ret ?_
      try simp only [Then, InBlock, NoGoto]
      refine answer_tmp rfl (.inr rfl) ?_
      exact gcr
   try exact nope g3_4
   all_goals have g3_4p := g3_4
   all_goals try simp [F] at g3_4p
   all_goals
    replace F := And.intro g3_4 F
    try replace F := And.intro g3_4p F
    refine go2 (k := ?_)
    refine go2 (k := ?_)
    refine go2 (k := ?_)
    refine hJ10 _ _ ?_
    refine hK9 _ _ ?_
    refine cs (fun c17 => ?_) (fun c17 => ?_)
    · try exact nope c17
      all_goals have c17p := c17
      all_goals try simp [F] at c17p
      all_goals
       replace F := And.intro c17 F
       try replace F := And.intro c17p F
       have hB : rightB ⟨pk, ps, pe, pt, pp⟩ = false := by rw [rightB, if_neg hk0, if_pos (.inr (by show 2 ^ 40 < pe; have h := c17; simp at h; omega))]
       replace F := And.intro hB F
       refine sq fun K13 hK13 => ?_
       refine rg' (h := fun J14 hJ14 => ?_)
       refine hJ14 _ _ ?_
       refine hK13 _ _ ?_
       refine run_ret ?_
       try simp only [Then, InBlock, NoGoto]
       refine answer_tmp rfl (.inr rfl) ?_
       exact gcr
    try exact nope c17
    all_goals have c17p := c17
    all_goals try simp [F] at c17p
    all_goals
     replace F := And.intro c17 F
     try replace F := And.intro c17p F
     have hs1 : ¬ pt = [] := by have h := g3_4; simp at h; exact h.1
     have hs2 : Right pt := by have h := g3_4; simp at h; exact h.2
     have hs3 : pe ≤ 1099511627776 := by have h := c17; simp at h; omega
     have hs3' : ¬ 1099511627776 < pe := by omega
     replace F := And.intro hs1 (And.intro hs2 (And.intro hs3 (And.intro hs3' F)))
     refine run_skip ?_
     refine hK8 _ _ ?_
     refine sq fun K15 hK15 => ?_
     refine sq fun K16 hK16 => ?_
     refine rg' (h := fun J17 hJ17 => ?_)
     refine hJ17 _ _ ?_
     refine hK16 _ _ ?_
     refine run_block_k ?_
     refine sq fun K18 hK18 => ?_
     refine rg' (h := fun J19 hJ19 => ?_)
     refine hJ19 _ _ ?_
     refine hK18 _ _ ?_
     refine cs (fun c20 => ?_) (fun c20 => ?_)
     · try exact nope c20
       all_goals have c20p := c20
       all_goals try simp [F] at c20p
       all_goals
        replace F := And.intro c20 F
        try replace F := And.intro c20p F
        refine sq fun K20 hK20 => ?_
        refine rg' (h := fun J21 hJ21 => ?_)
        refine gs 27 (fun g7_5 => ?_) (fun g7_5 => ?_)
        · try exact nope g7_5
          all_goals have g7_5p := g7_5
          all_goals try simp [F] at g7_5p
          all_goals
           replace F := And.intro g7_5 F
           try replace F := And.intro g7_5p F
           have h1 : ps < pe := by have h := g7_5; simp at h; omega
           have hB : rightB ⟨pk, ps, pe, pt, pp⟩ = decide (pp = []) := by rw [rightB]; simp [hkn, F, h1]
           replace F := And.intro hB F
           refine go2 (k := ?_)
           refine go2 (k := ?_)
           refine go2 (k := ?_)
           refine go2 (k := ?_)
           refine hJ21 _ _ ?_
           refine hK20 _ _ ?_
           refine run_ret ?_
           try simp only [Then, InBlock, NoGoto]
           refine answer_tmp rfl (.inr rfl) ?_
           exact gcr
        try exact nope g7_5
        all_goals have g7_5p := g7_5
        all_goals try simp [F] at g7_5p
        all_goals
         replace F := And.intro g7_5 F
         try replace F := And.intro g7_5p F
         have h1 : ¬ ps < pe := by have h := g7_5; simp at h; omega
         have hB : rightB ⟨pk, ps, pe, pt, pp⟩ = false := by rw [rightB]; simp [hkn, F, h1]
         replace F := And.intro hB F
         refine no2 (k := ?_)
         refine no2 (k := ?_)
         refine no2 (k := ?_)
         refine no2 (k := ?_)
         refine hJ21 _ _ ?_
         refine hK20 _ _ ?_
         refine run_ret ?_
         try simp only [Then, InBlock, NoGoto]
         refine answer_tmp rfl (.inr rfl) ?_
         exact gcr
     try exact nope c20
     all_goals have c20p := c20
     all_goals try simp [F] at c20p
     all_goals
      replace F := And.intro c20 F
      try replace F := And.intro c20p F
      refine sq fun K22 hK22 => ?_
      refine rg' (h := fun J23 hJ23 => ?_)
      refine hJ23 _ _ ?_
      refine hK22 _ _ ?_
      refine cs (fun c33 => ?_) (fun c33 => ?_)
      · try exact nope c33
        all_goals have c33p := c33
        all_goals try simp [F] at c33p
        all_goals
         replace F := And.intro c33 F
         try replace F := And.intro c33p F
         refine sq fun K24 hK24 => ?_
         refine rg' (h := fun J25 hJ25 => ?_)
         refine gs 38 (fun g9_3 => ?_) (fun g9_3 => ?_)
         · try exact nope g9_3
           all_goals have g9_3p := g9_3
           all_goals try simp [F] at g9_3p
           all_goals
            replace F := And.intro g9_3 F
            try replace F := And.intro g9_3p F
            have h1 : ps = 0 := by have h := g9_3; simp at h; omega
            have hB : rightB ⟨pk, 0, pe, pt, pp⟩ = decide (pp = []) := by rw [rightB]; simp [hkn, F, h1]
            replace F := And.intro hB F
            refine go2 (k := ?_)
            refine go2 (k := ?_)
            refine go2 (k := ?_)
            refine go2 (k := ?_)
            refine hJ25 _ _ ?_
            refine hK24 _ _ ?_
            refine run_ret ?_
            try simp only [Then, InBlock, NoGoto]
            refine answer_tmp rfl (.inr rfl) ?_
            exact gcr
         try exact nope g9_3
         all_goals have g9_3p := g9_3
         all_goals try simp [F] at g9_3p
         all_goals
          replace F := And.intro g9_3 F
          try replace F := And.intro g9_3p F
          have h1 : ¬ ps = 0 := by have h := g9_3; simp at h; omega
          have hB : rightB ⟨pk, ps, pe, pt, pp⟩ = false := by rw [rightB]; simp [hkn, F, h1]
          replace F := And.intro hB F
          refine no2 (k := ?_)
          refine no2 (k := ?_)
          refine no2 (k := ?_)
          refine no2 (k := ?_)
          refine hJ25 _ _ ?_
          refine hK24 _ _ ?_
          refine run_ret ?_
          try simp only [Then, InBlock, NoGoto]
          refine answer_tmp rfl (.inr rfl) ?_
          exact gcr
      try exact nope c33
      all_goals have c33p := c33
      all_goals try simp [F] at c33p
      all_goals
       replace F := And.intro c33 F
       try replace F := And.intro c33p F
       refine sq fun K26 hK26 => ?_
       refine rg' (h := fun J27 hJ27 => ?_)
       refine hJ27 _ _ ?_
       refine hK26 _ _ ?_
       refine cs (fun c44 => ?_) (fun c44 => ?_)
       · try exact nope c44
         all_goals have c44p := c44
         all_goals try simp [F] at c44p
         all_goals
          replace F := And.intro c44 F
          try replace F := And.intro c44p F
          refine sq fun K28 hK28 => ?_
          refine rg' (h := fun J29 hJ29 => ?_)
          refine gs 49 (fun g11_3 => ?_) (fun g11_3 => ?_)
          · try exact nope g11_3
            all_goals have g11_3p := g11_3
            all_goals try simp [F] at g11_3p
            all_goals
             replace F := And.intro g11_3 F
             try replace F := And.intro g11_3p F
             have h1 : ps = 0 := by have h := g11_3; simp at h; omega
             replace F := And.intro h1 F
             refine go2 (k := ?_)
             refine go2 (k := ?_)
             refine go2 (k := ?_)
             refine gs 54 (fun g11_8 => ?_) (fun g11_8 => ?_)
             · try exact nope g11_8
               all_goals have g11_8p := g11_8
               all_goals try simp [F] at g11_8p
               all_goals
                replace F := And.intro g11_8 F
                try replace F := And.intro g11_8p F
                have h2 : pe = 0 := by have h := g11_8; simp at h; omega
                have hB : rightB ⟨pk, 0, 0, pt, pp⟩ = decide (pp = []) := by rw [rightB]; simp [hkn, F]
                replace F := And.intro hB F
                refine go2 (k := ?_)
                refine go2 (k := ?_)
                refine go2 (k := ?_)
                refine go2 (k := ?_)
                refine hJ29 _ _ ?_
                refine hK28 _ _ ?_
                refine run_ret ?_
                try simp only [Then, InBlock, NoGoto]
                refine answer_tmp rfl (.inr rfl) ?_
                exact gcr
             try exact nope g11_8
             all_goals have g11_8p := g11_8
             all_goals try simp [F] at g11_8p
             all_goals
              replace F := And.intro g11_8 F
              try replace F := And.intro g11_8p F
              have h2 : ¬ pe = 0 := by have h := g11_8; simp at h; omega
              have hB : rightB ⟨pk, 0, pe, pt, pp⟩ = false := by rw [rightB]; simp [hkn, F, h2]
              replace F := And.intro hB F
              refine no2 (k := ?_)
              refine no2 (k := ?_)
              refine no2 (k := ?_)
              refine no2 (k := ?_)
              refine hJ29 _ _ ?_
              refine hK28 _ _ ?_
              refine run_ret ?_
              try simp only [Then, InBlock, NoGoto]
              refine answer_tmp rfl (.inr rfl) ?_
              exact gcr
          try exact nope g11_3
          all_goals have g11_3p := g11_3
          all_goals try simp [F] at g11_3p
          all_goals
           replace F := And.intro g11_3 F
           try replace F := And.intro g11_3p F
           have h1 : ¬ ps = 0 := by have h := g11_3; simp at h; omega
           have hB : rightB ⟨pk, ps, pe, pt, pp⟩ = false := by rw [rightB]; simp [hkn, F, h1]
           replace F := And.intro hB F
           refine no2 (k := ?_)
           refine no2 (k := ?_)
           refine no2 (k := ?_)
           refine no2 (k := ?_)
           refine no2 (k := ?_)
           refine no2 (k := ?_)
           refine no2 (k := ?_)
           refine hJ29 _ _ ?_
           refine hK28 _ _ ?_
           refine run_ret ?_
           try simp only [Then, InBlock, NoGoto]
           refine answer_tmp rfl (.inr rfl) ?_
           exact gcr
       try exact nope c44
       all_goals have c44p := c44
       all_goals try simp [F] at c44p
       all_goals
        replace F := And.intro c44 F
        try replace F := And.intro c44p F
        refine sq fun K30 hK30 => ?_
        refine sq fun K31 hK31 => ?_
        refine rg' (h := fun J32 hJ32 => ?_)
        refine hJ32 _ _ ?_
        refine hK31 _ _ ?_
        refine cs (fun c60 => ?_) (fun c60 => ?_)
        · try exact nope c60
          all_goals have c60p := c60
          all_goals try simp [F] at c60p
          all_goals
           replace F := And.intro c60 F
           try replace F := And.intro c60p F
           refine run_skip ?_
           refine hK30 _ _ ?_
           refine cs (fun c60 => ?_) (fun c60 => ?_)
           · try exact nope c60
             all_goals have c60p := c60
             all_goals try simp [F] at c60p
             all_goals
              replace F := And.intro c60 F
              try replace F := And.intro c60p F
              refine sq fun K33 hK33 => ?_
              have h35 : (pk.toNat : Int) = 3 ∨ (pk.toNat : Int) = 5 := by have h := c60; simp at h; first | exact .inl (by simpa using h) | exact .inr (by simpa using h)
              have hB : rightB ⟨pk, ps, pe, pt, pp⟩ = perB ⟨pk, ps, pe, pt, pp⟩ := by rw [rightB]; rcases h35 with h35 | h35 <;> simp [hkn, hs1, hs2, hs3', h35]
              replace F := And.intro hB F
              refine rg' (h := fun J34 hJ34 => ?_)
              refine ca (c := periods_ok hp0 (by show pe ≤ 2 ^ 40; omega)) (k := ?_)
              rintro _ _ ⟨rfl, rfl⟩
              repeat (first | simp [F] | simp (disch := omega) only [wC, if_pos, if_neg])
              refine hJ34 _ _ ?_
              refine hK33 _ _ ?_
              refine run_ret ?_
              try simp only [Then, InBlock, NoGoto]
              refine answer_tmp rfl (.inr rfl) ?_
              exact gcr
           try exact nope c60
           all_goals have c60p := c60
           all_goals try simp [F] at c60p
           all_goals
            replace F := And.intro c60 F
            try replace F := And.intro c60p F
            refine run_skip ?_
            refine hK15 _ _ ?_
            refine sq fun K35 hK35 => ?_
            have hB : rightB ⟨pk, ps, pe, pt, pp⟩ = false := by rw [rightB]; simp [hkn, F]
            replace F := And.intro hB F
            refine rg' (h := fun J36 hJ36 => ?_)
            refine hJ36 _ _ ?_
            refine hK35 _ _ ?_
            refine run_ret ?_
            try simp only [Then, InBlock, NoGoto]
            refine answer_tmp rfl (.inr rfl) ?_
            exact gcr
        try exact nope c60
        all_goals have c60p := c60
        all_goals try simp [F] at c60p
        all_goals
         replace F := And.intro c60 F
         try replace F := And.intro c60p F
         refine rg' (h := fun J37 hJ37 => ?_)
         refine hJ37 _ _ ?_
         refine hK30 _ _ ?_
         refine cs (fun c60 => ?_) (fun c60 => ?_)
         · try exact nope c60
           all_goals have c60p := c60
           all_goals try simp [F] at c60p
           all_goals
            replace F := And.intro c60 F
            try replace F := And.intro c60p F
            refine sq fun K38 hK38 => ?_
            have h35 : (pk.toNat : Int) = 3 ∨ (pk.toNat : Int) = 5 := by have h := c60; simp at h; first | exact .inl (by simpa using h) | exact .inr (by simpa using h)
            have hB : rightB ⟨pk, ps, pe, pt, pp⟩ = perB ⟨pk, ps, pe, pt, pp⟩ := by rw [rightB]; rcases h35 with h35 | h35 <;> simp [hkn, hs1, hs2, hs3', h35]
            replace F := And.intro hB F
            refine rg' (h := fun J39 hJ39 => ?_)
            refine ca (c := periods_ok hp0 (by show pe ≤ 2 ^ 40; omega)) (k := ?_)
            rintro _ _ ⟨rfl, rfl⟩
            repeat (first | simp [F] | simp (disch := omega) only [wC, if_pos, if_neg])
            refine hJ39 _ _ ?_
            refine hK38 _ _ ?_
            refine run_ret ?_
            try simp only [Then, InBlock, NoGoto]
            refine answer_tmp rfl (.inr rfl) ?_
            exact gcr
         try exact nope c60
         all_goals have c60p := c60
         all_goals try simp [F] at c60p
         all_goals
          replace F := And.intro c60 F
          try replace F := And.intro c60p F
          refine run_skip ?_
          refine hK15 _ _ ?_
          refine sq fun K40 hK40 => ?_
          have hB : rightB ⟨pk, ps, pe, pt, pp⟩ = false := by rw [rightB]; simp [hkn, F]
          replace F := And.intro hB F
          refine rg' (h := fun J41 hJ41 => ?_)
          refine hJ41 _ _ ?_
          refine hK40 _ _ ?_
          refine run_ret ?_
          try simp only [Then, InBlock, NoGoto]
          refine answer_tmp rfl (.inr rfl) ?_
          exact gcr

end Go.Proofs.Ytdbaddholggkbaa

/-
  What a plan gives by a time.
-/
namespace Go.Vm
open Go

/-- How many parts are over by a time. -/
def overN : List Per → Nat → Nat → Nat
  | [], _, _ => 0
  | x :: l, E, t => if t < E + x.l then 0 else overN l (E + x.l) t + 1
theorem overN_le : ∀ (l : List Per) (E t : Nat), overN l E t ≤ l.length
  | [], _, _ => Nat.le_refl _
  | x :: l, E, t => by
    unfold overN
    split
    · exact Nat.zero_le _
    · have := overN_le l (E + x.l) t; simp; omega
/-- The lengths' sum. -/
def lenS : List Per → Nat
  | [] => 0
  | x :: l => x.l + lenS l
/-- The sum of the parts' coins, as it is added up. -/
def sumL : List Per → List Coin → List Coin
  | [], a => a
  | x :: l, a => sumL l (cAddL a x.c)
theorem right_sumL : ∀ (l : List Per) (a : List Coin), Right a → Right (sumL l a)
  | [], _, h => h
  | _ :: l, _, _ => right_sumL l _ (right_cAdd _ _)
/-- A coin's part that is given by a time. -/
def partN (c : Coin) (s e t : Nat) : Nat := c.n.v * (t - s) / (e - s)
theorem partN_lt {c : Coin} {s e t : Nat} (h : t ≤ e) : partN c s e t < 2 ^ 256 := by
  unfold partN
  have h1 : c.n.v * (t - s) ≤ c.n.v * (e - s) := Nat.mul_le_mul_left _ (by omega)
  have h2 : c.n.v * (t - s) / (e - s) ≤ c.n.v := by
    by_cases h0 : e - s = 0
    · rw [h0]; simp
    · exact Nat.le_trans (Nat.div_le_div_right h1) (by rw [Nat.mul_div_cancel _ (by omega)]; exact Nat.le_refl _)
  have := c.n.h
  omega
def partL (s e t : Nat) : List Coin → List Coin
  | [] => []
  | c :: l => oneL c.d (Num.of (partN c s e t)) ++ partL s e t l
theorem partL_snoc (s e t : Nat) (c : Coin) : ∀ l, partL s e t (l ++ [c]) = partL s e t l ++ oneL c.d (Num.of (partN c s e t))
  | [] => by simp [partL]
  | x :: l => by simp [partL, partL_snoc s e t c l]
theorem partL_len (s e t : Nat) : ∀ l, (partL s e t l).length ≤ l.length
  | [] => Nat.le_refl _
  | c :: l => by
    have := partL_len s e t l
    simp only [partL, List.length_append, List.length_cons]
    have : (oneL c.d (Num.of (partN c s e t))).length ≤ 1 := by unfold oneL; split <;> simp
    omega
theorem persC_take (l : List Per) (i : Nat) : (persC l).take (i * 2) = persC (l.take i) := by
  conv => lhs; rw [← List.take_append_drop i l, ← persC_append]
  by_cases h : i ≤ l.length
  · rw [List.take_append_of_le_length (by simp; omega), List.take_of_length_le (by simp; omega)]
  · rw [List.drop_of_length_le (by omega), persC_nil, List.append_nil, List.take_of_length_le (by simp; omega)]
def vestL (p : Pln) (t : Nat) : List Coin :=
  if p.k = 3 ∨ p.k = 5 then sumL (p.ps.take (overN p.ps p.s t)) []
  else if (¬ p.k = 1 ∧ ¬ p.k = 2) ∨ (p.k = 1 ∧ t ≤ p.s) then []
  else if p.e ≤ t then p.tot
  else if p.k = 2 then []
  else partL p.s p.e t p.tot

end Go.Vm

/-
  What a plan gives: sums, lists..
-/
namespace Go.Proofs.Ytdbaddholggkbaa
set_option linter.unnecessarySimpa false
set_option maxRecDepth 100000
open Go Go.Vm
set_option linter.unusedSimpArgs false
set_option linter.unusedVariables false

attribute [local simp] evalL wantedA isCall opA evalA evalAll evalsA evalOpt ofValue ofCell plain binA_eql_pn binA_neq_pn binA_gtr binA_lss binA_geq binA_leq binA_add binA_sub binA_eql binA_neq binA_orI binA_andI binA_shl binA_shr binA_mul binA_quo binA_rem binA_agg_eql binA_agg_neq convA_int unA_not fieldAddrA loadA partA pickA_true pickA_false pickA_bb lenA builtinA storeA splice AV.cells AV.isCell sliceA boundA intA callOf indexAddrA newObjA buildA fillA zeroA ofCells buildSliceA indexA fieldA numA_len4 numA_take4 numA_drop4 set_appN get_appN take_appN List.getElem?_cons_zero List.getElem?_cons_succ makeA zeros64

section
attribute [local simp] readA rowAppA appendA roomA maxLen
set_option maxHeartbeats 1600000 in
attribute [local simp] undefA List.getElem?_cons_zero List.getElem?_cons_succ in
theorem cclone_ok {σ : St} {l : List Coin} {tl : Tail} (hl : l.length ≤ 1000000) :
    CallsA Try.prog 65 [.sl 5 (coinsC l) l.length tl] σ (fun av σ' => av = .sl 5 (coinsC l) l.length .shut ∧ σ = σ') := by
  refine callsA_gcS ?_ (by simp [AV.under])
  have h1 : l.length * 40 ≤ 140737488355328 := by omega
  have h2 : l.length ≤ 9223372036854775807 := by omega
  have F := And.intro h1 (And.intro h2 (True.intro))
  refine callsA_body Try.func65 rfl rfl rfl ?_
  refine sq fun K1 hK1 => ?_
  refine rg' (h := fun J2 hJ2 => ?_)
  refine hJ2 _ _ ?_
  refine hK1 _ _ ?_
  refine sq fun K3 hK3 => ?_
  refine sq fun K4 hK4 => ?_
  refine rg' (h := fun J5 hJ5 => ?_)
  refine sn rfl rfl (fun b4 hb4 => ?_)
  repeat (first | simp [F] | simp (disch := omega) only [wC, if_pos, if_neg])
  refine hJ5 _ _ ?_
  refine hK4 _ _ ?_
  refine cs (fun c4 => ?_) (fun c4 => ?_)
  · try exact nope c4
    all_goals have c4p := c4
    all_goals try simp [F] at c4p
    all_goals
     replace F := And.intro c4 F
     try replace F := And.intro c4p F
     have hl0 : l = [] := by cases l with | nil => rfl | cons x l => (exfalso; simp_all)
     subst hl0
     refine sq fun K6 hK6 => ?_
     refine rg' (h := fun J7 hJ7 => ?_)
     refine hJ7 _ _ ?_
     refine hK6 _ _ ?_
     refine run_ret ?_
     try simp only [Then, InBlock, NoGoto]
     refine answer_tmp rfl (.inr rfl) ?_
     exact gcr
  try exact nope c4
  all_goals have c4p := c4
  all_goals try simp [F] at c4p
  all_goals
   replace F := And.intro c4 F
   try replace F := And.intro c4p F
   refine run_skip ?_
   refine hK3 _ _ ?_
   refine sq fun K8 hK8 => ?_
   refine rg' (h := fun J9 hJ9 => ?_)
   refine hJ9 _ _ ?_
   refine hK8 _ _ ?_
   refine run_ret ?_
   try simp only [Then, InBlock, NoGoto]
   refine answer_tmp rfl (.inr rfl) ?_
   exact gcr
end

set_option maxHeartbeats 1600000 in
attribute [local simp] undefA List.getElem?_cons_zero List.getElem?_cons_succ perC persC_noObj in
theorem psum_ok {σ : St} {l : List Per} {tl : Tail} (hl : l.length ≤ 9223372036854775807) (h5 : ∀ x ∈ l, x.c.length ≤ 9223372036854775807) :
    CallsA Try.prog 63 [.sl 2 (persC l) l.length tl] σ (fun av σ' => av = .sl 5 (coinsC (sumL l [])) (sumL l []).length .shut ∧ σ = σ') := by
  refine callsA_gcS ?_ (by simp [AV.under])
  have F := True.intro
  refine callsA_body Try.func63 rfl rfl rfl ?_
  refine sq fun K1 hK1 => ?_
  refine rg' (h := fun J2 hJ2 => ?_)
  refine hJ2 _ _ ?_
  refine hK1 _ _ ?_
  refine sq fun K3 hK3 => ?_
  refine rg' (h := fun J4 hJ4 => ?_)
  refine hJ4 _ _ ?_
  refine hK3 _ _ ?_
  refine sq fun K5 hK5 => ?_
  refine sq fun K6 hK6 => ?_
  refine run_nilsh 3 5 (k := ?_)
  refine rg' (h := fun J7 hJ7 => ?_)
  refine hJ7 _ _ ?_
  refine hK6 _ _ ?_
  refine run_block_k ?_
  refine run_loopG (X := PerQ) [2, 6, 7] (fun q ρ σ1 => (q.i ≤ l.length) ∧ (sumL l [] = sumL (l.drop q.i) q.a) ∧ (q.a.length ≤ 8) ∧ (ρ 3 = .sl 5 (coinsC q.a) q.a.length .shut) ∧ (ρ 8 = .v (.int .i64 q.i)) ∧ (σ1 = σ)) (fun q => l.length - q.i) (⟨0, 0, []⟩) ?st1 ?rd1
  case st1 =>
   refine ⟨lp, ?_, lp, lp, lp, ?_⟩
   · rfl
   · rfl
  case rd1 =>
   rintro q ρ1 σ1 hF1 ⟨hi, hE, hqa, h4, h17, hσ⟩
   obtain rfl := hσ.symm
   have f1 := keepL hF1
   try simp [KeepL, F] at f1
   replace F := And.intro h4 F
   replace F := And.intro h17 F
   try replace F := And.intro f1 F
   refine sq fun K8 hK8 => ?_
   refine rg' (h := fun J9 hJ9 => ?_)
   refine hJ9 _ _ ?_
   refine hK8 _ _ ?_
   refine sq fun K10 hK10 => ?_
   refine cs (fun c9 => ?_) (fun c9 => ?_)
   · try exact nope c9
     all_goals have c9p := c9
     all_goals try simp [F] at c9p
     all_goals
      replace F := And.intro c9 F
      try replace F := And.intro c9p F
      refine run_skip ?_
      refine hK10 _ _ ?_
      refine sq fun K11 hK11 => ?_
      refine run_block_k ?_
      refine sq fun K12 hK12 => ?_
      obtain ⟨i, E, S⟩ := q
      simp only at hi hE hqa h4 h17
      have hlt : i < l.length := by simp at c9; omega
      have hat := persC_at hlt
      have hb1 : i * 2 + 2 ≤ l.length * 2 := by omega
      have hxc := h5 _ (List.getElem_mem hlt)
      have hcons : l.drop i = l[i] :: l.drop (i + 1) := List.drop_eq_getElem_cons hlt
      obtain ⟨x, hx⟩ : ∃ x, x = l[i] := ⟨_, rfl⟩
      rw [← hx] at hat hxc hcons
      rw [hcons] at hE
      obtain ⟨xl, xc⟩ := x
      simp only at hxc
      simp only [sumL] at hE
      obtain ⟨S2, hS2⟩ : ∃ S2, S2 = cAddL S xc := ⟨_, rfl⟩
      have hS2l : S2.length ≤ 8 := by rw [hS2]; exact right_len (right_cAdd _ _)
      rw [← hS2] at hE
      replace F := And.intro hlt F
      replace F := And.intro hat F
      replace F := And.intro hb1 F
      refine rg' (h := fun J13 hJ13 => ?_)
      refine hJ13 _ _ ?_
      refine hK12 _ _ ?_
      refine rg' (h := fun J14 hJ14 => ?_)
      refine ca (c := (hS2 ▸ cadd_ok (by omega) hxc)) (k := ?_)
      rintro _ _ ⟨rfl, rfl⟩
      repeat (first | simp [F] | simp (disch := omega) only [wC, if_pos, if_neg])
      refine hJ14 _ _ ?_
      refine hK11 _ _ ?_
      refine rg' (h := fun J15 hJ15 => ?_)
      refine hJ15 _ _ ?_
      refine ⟨gk, (⟨i + 1, E, S2⟩), ⟨kpG, lpG, ?_, ?_, lpG, lpG, lpG⟩, lpG⟩
      · exact hE
      · exact hS2l
   try exact nope c9
   all_goals have c9p := c9
   all_goals try simp [F] at c9p
   all_goals
    replace F := And.intro c9 F
    try replace F := And.intro c9p F
    have hend : sumL l [] = q.a := by rw [hE, List.drop_of_length_le (by have h := c9; simp at h; omega)]; rfl
    replace F := And.intro hend F
    refine run_exit ?_
    refine hK5 _ _ ?_
    refine sq fun K16 hK16 => ?_
    refine rg' (h := fun J17 hJ17 => ?_)
    refine hJ17 _ _ ?_
    refine hK16 _ _ ?_
    refine run_ret ?_
    try simp only [Then, InBlock, NoGoto]
    refine answer_tmp rfl (.inr rfl) ?_
    exact gcr

set_option maxHeartbeats 1600000 in
attribute [local simp] undefA List.getElem?_cons_zero List.getElem?_cons_succ perC plnC persC_noObj in
theorem pover_ok {σ : St} {p : Pln} {t : Nat} (hp : p.Ok) (hs : p.s + lenS p.ps < 2 ^ 64) :
    CallsA Try.prog 64 [.agg (plnC p), .v (.int .u64 t)] σ (fun av σ' => av = .sl 2 (persC (p.ps.take (overN p.ps p.s t))) (overN p.ps p.s t) .shut ∧ σ = σ') := by
  refine callsA_gcS ?_ (by simp [AV.under, persC_under])
  obtain ⟨pk, ps, pe, pt, pp⟩ := p
  obtain ⟨k1, k2, k3, k4, h5⟩ := hp
  simp only at hs k4 k1 h5
  have F := True.intro
  refine callsA_body Try.func64 rfl rfl rfl ?_
  refine sq fun K1 hK1 => ?_
  refine rg' (h := fun J2 hJ2 => ?_)
  refine hJ2 _ _ ?_
  refine hK1 _ _ ?_
  refine sq fun K3 hK3 => ?_
  refine rg' (h := fun J4 hJ4 => ?_)
  refine hJ4 _ _ ?_
  refine hK3 _ _ ?_
  refine sq fun K5 hK5 => ?_
  refine sq fun K6 hK6 => ?_
  refine rg' (h := fun J7 hJ7 => ?_)
  refine hJ7 _ _ ?_
  refine hK6 _ _ ?_
  refine run_block_k ?_
  refine run_loopG (X := PerQ) [1, 2, 11, 12] (fun q ρ σ1 => (q.i ≤ pp.length) ∧ (overN pp ps t = overN (pp.drop q.i) q.e t + q.i) ∧ (q.e + lenS (pp.drop q.i) < 2 ^ 64) ∧ (ρ 5 = .v (.int .u64 q.e)) ∧ (ρ 13 = .v (.int .i64 q.i)) ∧ (σ1 = { σ with objs := σ.objs ++ [[.v (.int .u8 pk.toNat), .v (.int .u64 ps), .v (.int .u64 pe), .sl 5 (coinsC pt) pt.length .shut, .sl 2 (persC pp) pp.length .shut]] })) (fun q => pp.length - q.i) (⟨0, ps, []⟩) ?st1 ?rd1
  case st1 =>
   refine ⟨lp, ?_, ?_, lp, lp, ?_⟩
   · rfl
   · exact hs
   · rfl
  case rd1 =>
   rintro q ρ1 σ1 hF1 ⟨hi, hE, hqe, h4, h17, hσ⟩
   obtain rfl := hσ.symm
   have f1 := keepL hF1
   try simp [KeepL, F] at f1
   replace F := And.intro h4 F
   replace F := And.intro h17 F
   try replace F := And.intro f1 F
   refine sq fun K8 hK8 => ?_
   refine rg' (h := fun J9 hJ9 => ?_)
   refine hJ9 _ _ ?_
   refine hK8 _ _ ?_
   refine sq fun K10 hK10 => ?_
   refine cs (fun c14 => ?_) (fun c14 => ?_)
   · try exact nope c14
     all_goals have c14p := c14
     all_goals try simp [F] at c14p
     all_goals
      replace F := And.intro c14 F
      try replace F := And.intro c14p F
      refine run_skip ?_
      refine hK10 _ _ ?_
      refine sq fun K11 hK11 => ?_
      refine run_block_k ?_
      refine sq fun K12 hK12 => ?_
      obtain ⟨i, E, S⟩ := q
      simp only at hi hE hqe h4 h17
      have hlt : i < pp.length := by simp at c14; omega
      have hat := persC_at hlt
      have hb1 : i * 2 + 2 ≤ pp.length * 2 := by omega
      have hcons : pp.drop i = pp[i] :: pp.drop (i + 1) := List.drop_eq_getElem_cons hlt
      obtain ⟨x, hx⟩ : ∃ x, x = pp[i] := ⟨_, rfl⟩
      rw [← hx] at hat hcons
      rw [hcons] at hE hqe
      obtain ⟨xl, xc⟩ := x
      simp only [overN] at hE
      simp only [lenS] at hqe
      have hw : IntKind.u64.wrap ((E : Int) + xl) = ((E + xl : Nat) : Int) := by rw [wrap_u64c (by omega)]; rfl
      replace F := And.intro hlt F
      replace F := And.intro hat F
      replace F := And.intro hb1 F
      replace F := And.intro hw F
      refine rg' (h := fun J13 hJ13 => ?_)
      refine hJ13 _ _ ?_
      refine hK12 _ _ ?_
      refine sq fun K14 hK14 => ?_
      refine rg' (h := fun J15 hJ15 => ?_)
      refine hJ15 _ _ ?_
      refine hK14 _ _ ?_
      refine sq fun K16 hK16 => ?_
      refine rg' (h := fun J17 hJ17 => ?_)
      refine hJ17 _ _ ?_
      refine hK16 _ _ ?_
      refine cs (fun c24 => ?_) (fun c24 => ?_)
      · try exact nope c24
        all_goals have c24p := c24
        all_goals try simp [F] at c24p
        all_goals
         replace F := And.intro c24 F
         try replace F := And.intro c24p F
         have h1 : t < E + xl := by have h := c24; simp at h; omega
         rw [if_pos h1, Nat.zero_add] at hE
         have hpt := persC_take pp i
         replace F := And.intro hE (And.intro hpt F)
         refine sq fun K18 hK18 => ?_
         refine rg' (h := fun J19 hJ19 => ?_)
         refine hJ19 _ _ ?_
         refine hK18 _ _ ?_
         refine run_ret ?_
         try simp only [Then, InBlock, NoGoto]
         refine answer_tmp rfl (.inr rfl) ?_
         exact gcr
      try exact nope c24
      all_goals have c24p := c24
      all_goals try simp [F] at c24p
      all_goals
       replace F := And.intro c24 F
       try replace F := And.intro c24p F
       have h1 : ¬ t < E + xl := by have h := c24; simp at h; omega
       rw [if_neg h1] at hE
       have hE2 : overN pp ps t = overN (pp.drop (i + 1)) (E + xl) t + (i + 1) := by rw [hE]; omega
       have hqe2 : E + xl + lenS (pp.drop (i + 1)) < 2 ^ 64 := by omega
       refine run_skip ?_
       refine hK11 _ _ ?_
       refine rg' (h := fun J20 hJ20 => ?_)
       refine hJ20 _ _ ?_
       refine ⟨gk, (⟨i + 1, E + xl, []⟩), ⟨kpG, lpG, ?_, ?_, lpG, lpG, lpG⟩, lpG⟩
       · exact hE2
       · exact hqe2
   try exact nope c14
   all_goals have c14p := c14
   all_goals try simp [F] at c14p
   all_goals
    replace F := And.intro c14 F
    try replace F := And.intro c14p F
    have hii : q.i = pp.length := by have h := c14; simp at h; omega
    have hend : overN pp ps t = pp.length := by rw [hE, List.drop_of_length_le (by omega)]; simp [overN, hii]
    have htk : pp.take pp.length = pp := List.take_length
    replace F := And.intro hend (And.intro htk F)
    refine run_exit ?_
    refine hK5 _ _ ?_
    refine sq fun K21 hK21 => ?_
    refine rg' (h := fun J22 hJ22 => ?_)
    refine hJ22 _ _ ?_
    refine hK21 _ _ ?_
    refine run_ret ?_
    try simp only [Then, InBlock, NoGoto]
    refine answer_tmp rfl (.inr rfl) ?_
    exact gcr

end Go.Proofs.Ytdbaddholggkbaa
