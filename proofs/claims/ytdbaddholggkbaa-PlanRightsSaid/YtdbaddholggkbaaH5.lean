import Derived.Test.YtdbaddholggkbaaVmU
import Derived.Test.YtdbaddholggkbaaH4
import Derived.Test.YtdbaddholggkbaaVmMS
/-
  The document's numbers: the long division.
-/
namespace Go.Proofs.Ytdbaddholggkbaa
set_option linter.unnecessarySimpa false
set_option maxRecDepth 100000
set_option exponentiation.threshold 600
open Go Go.Vm
set_option linter.unusedSimpArgs false
set_option linter.unusedVariables false


attribute [local simp] evalL wantedA isCall opA evalA evalAll evalsA evalOpt ofValue ofCell plain binA_eql_pn binA_neq_pn binA_gtr binA_lss binA_geq binA_leq binA_add binA_sub binA_eql binA_neq binA_orI binA_andI binA_shl binA_shr binA_mul binA_quo binA_rem binA_agg_eql binA_agg_neq convA_int unA_not fieldAddrA loadA partA pickA_true pickA_false pickA_bb lenA builtinA makeA zeros64 storeA splice readA rowAppA zc64 appendA roomA maxLen AV.cells AV.isCell sliceA boundA intA callOf indexAddrA newObjA buildA fillA zeroA ofCells buildSliceA indexA fieldA numA_len4 numA_take4 numA_drop4 set_appN get_appN take_appN List.getElem?_cons_zero List.getElem?_cons_succ

theorem less_dig {n x y i X Y : Nat} (hx : x < 65536 ^ n) (hy : y < 65536 ^ n) (hi : i < n) (h : ∀ j, i < j → j < n → x / 65536 ^ j % 65536 = y / 65536 ^ j % 65536) (hX : X = x / 65536 ^ i % 65536) (hY : Y = y / 65536 ^ i % 65536) (hne : X ≠ Y) : decide (X < Y) = decide (x < y) := by
  rcases Nat.lt_or_gt_of_ne hne with h2 | h2
  · have := cmp_lt (b := 65536) (n := n) (by omega) hx hy hi h (by rw [← hX, ← hY]; exact h2)
    simp [h2, this]
  · have := cmp_lt (b := 65536) (n := n) (by omega) hy hx hi (fun j h1 h2 => (h j h1 h2).symm) (by rw [← hX, ← hY]; exact h2)
    rw [decide_eq_false (by omega), decide_eq_false (by omega)]

set_option maxHeartbeats 1600000 in
attribute [local simp] undefA List.getElem?_cons_zero List.getElem?_cons_succ in
theorem less_ok {σ : St} {k g n x y : Nat} {sp : Option Nat} {tl : Tail} (hr : σ.rows[k]? = some ⟨g, u64s (digs 65536 n x), sp⟩) (hn : n ≤ 1000) (hx : x < 65536 ^ n) (hy : y < 65536 ^ n) :
    CallsA Try.prog 143 [.row k g 0 1 n, .sl 1 (u64s (digs 65536 n y)) n tl] σ (fun av σ' => av = .v (.bool (decide (x < y))) ∧ σ = σ') := by
  have F := And.intro hr (True.intro)
  refine callsA_body Try.func143 rfl rfl rfl ?_
  refine sq fun K1 hK1 => ?_
  refine rg' (h := fun J2 hJ2 => ?_)
  refine hJ2 _ _ ?_
  refine hK1 _ _ ?_
  refine sq fun K3 hK3 => ?_
  refine sq fun K4 hK4 => ?_
  refine rg' (h := fun J5 hJ5 => ?_)
  refine hJ5 _ _ ?_
  refine hK4 _ _ ?_
  refine run_block_k ?_
  refine run_loopF (X := Nat) [0, 1] (fun m ρ σ1 => (m ≤ n) ∧ (∀ j, m ≤ j → j < n → x / 65536 ^ j % 65536 = y / 65536 ^ j % 65536) ∧ (ρ 5 = .v (.int .i64 ((m : Int) - 1))) ∧ (σ1 = σ)) (fun m => m) (n) ?st1 ?rd1
  case st1 =>
   refine ⟨lp, ?_, lp, lp⟩
   · intro j h1 h2
     omega
  case rd1 =>
   rintro m ρ1 σ1 hF1 ⟨hm, hE, h5, hσ⟩
   obtain rfl := hσ.symm
   have f1 := keepL hF1
   try simp [KeepL, F] at f1
   replace F := And.intro h5 F
   try replace F := And.intro f1 F
   refine sq fun K6 hK6 => ?_
   refine sq fun K7 hK7 => ?_
   refine rg' (h := fun J8 hJ8 => ?_)
   refine hJ8 _ _ ?_
   refine hK7 _ _ ?_
   refine cs (fun c10 => ?_) (fun c10 => ?_)
   · try exact nope c10
     all_goals have c10p := c10
     all_goals try simp [F] at c10p
     all_goals
      replace F := And.intro c10 F
      try replace F := And.intro c10p F
      refine run_skip ?_
      refine hK6 _ _ ?_
      refine sq fun K9 hK9 => ?_
      refine run_block_k ?_
      refine sq fun K10 hK10 => ?_
      obtain ⟨i, rfl⟩ : ∃ i, m = i + 1 := ⟨m - 1, by simp at c10; omega⟩
      have hi : ((i + 1 : Nat) : Int) - 1 = (i : Int) := by omega
      rw [hi] at h5 F
      have hin : i < n := by omega
      have hgx := digU_get (b := 65536) (x := x) hin
      have hgy := digU_get (b := 65536) (x := y) hin
      have hii : (i : Int) < n := by omega
      obtain ⟨X, hX⟩ : ∃ X, X = x / 65536 ^ i % 65536 := ⟨_, rfl⟩
      obtain ⟨Y, hY⟩ : ∃ Y, Y = y / 65536 ^ i % 65536 := ⟨_, rfl⟩
      rw [← hX] at hgx
      rw [← hY] at hgy
      obtain ⟨_, hgx2⟩ := List.getElem?_eq_some_iff.1 hgx
      obtain ⟨_, hgy2⟩ := List.getElem?_eq_some_iff.1 hgy
      have hdy : List.drop i (u64s (digs 65536 n y)) = .v (.int .u64 Y) :: List.drop (i + 1) (u64s (digs 65536 n y)) := by rw [List.drop_eq_getElem_cons (by simpa using hin), hgy2]
      replace F := And.intro hgx F
      replace F := And.intro hgy F
      replace F := And.intro hgx2 F
      replace F := And.intro hgy2 F
      replace F := And.intro hdy F
      replace F := And.intro hin F
      replace F := And.intro hii F
      refine run_draw (by kernel_rfl) fun J11 hJ11 => ?_
      refine rp2 0 (k := ?_)
      refine rp2 1 (k := ?_)
      refine rp2 2 (k := ?_)
      refine rp2 3 (k := ?_)
      refine rp2 4 (k := ?_)
      refine rp2 5 (k := ?_)
      refine rp2 6 (k := ?_)
      refine rp2 7 (k := ?_)
      refine rp2 8 (k := ?_)
      refine dd ?_
      refine hJ11 _ _ ?_
      refine hK10 _ _ ?_
      refine cs (fun c21 => ?_) (fun c21 => ?_)
      · try exact nope c21
        all_goals have c21p := c21
        all_goals try simp [F] at c21p
        all_goals
         replace F := And.intro c21 F
         try replace F := And.intro c21p F
         have hd : decide (X < Y) = decide (x < y) := less_dig hx hy hin (fun j h1 h2 => hE j h1 h2) hX hY (by have h := c21; simp at h; omega)
         replace F := And.intro hd F
         refine sq fun K12 hK12 => ?_
         refine run_draw (by kernel_rfl) fun J13 hJ13 => ?_
         refine rp2 0 (k := ?_)
         refine rp2 1 (k := ?_)
         refine rp2 2 (k := ?_)
         refine rp2 3 (k := ?_)
         refine rp2 4 (k := ?_)
         refine rp2 5 (k := ?_)
         refine rp2 6 (k := ?_)
         refine rp2 7 (k := ?_)
         refine rp2 8 (k := ?_)
         refine rp2 9 (k := ?_)
         refine dd ?_
         refine hJ13 _ _ ?_
         refine hK12 _ _ ?_
         refine run_ret ?_
         try simp only [Then, InBlock, NoGoto]
         refine answer_tmp rfl (.inr rfl) ?_
         exact rt
      try exact nope c21
      all_goals have c21p := c21
      all_goals try simp [F] at c21p
      all_goals
       replace F := And.intro c21 F
       try replace F := And.intro c21p F
       refine run_skip ?_
       refine hK9 _ _ ?_
       refine rg' (h := fun J14 hJ14 => ?_)
       refine hJ14 _ _ ?_
       refine ⟨(i), ⟨kp, lp, ?_, lp, lp⟩, lp⟩
       · intro j h1 h2
         by_cases hj : j = i
         · subst hj; rw [← hX, ← hY]; have h := c21; simp at h; omega
         · exact hE j (by omega) h2
   try exact nope c10
   all_goals have c10p := c10
   all_goals try simp [F] at c10p
   all_goals
    replace F := And.intro c10 F
    try replace F := And.intro c10p F
    obtain rfl : m = 0 := by simp at c10; omega
    have hxy : x = y := by have := high_eq' (b := 65536) (n := n) (i := 0) (by omega) hx hy (by omega) hE; simpa using this
    have hcI : decide (x < y) = false := by rw [hxy]; simp
    replace F := And.intro hcI F
    refine run_exit ?_
    refine hK3 _ _ ?_
    refine sq fun K15 hK15 => ?_
    refine rg' (h := fun J16 hJ16 => ?_)
    refine hJ16 _ _ ?_
    refine hK15 _ _ ?_
    refine run_ret ?_
    try simp only [Then, InBlock, NoGoto]
    refine answer_tmp rfl (.inr rfl) ?_
    exact rt

set_option maxHeartbeats 1600000 in
attribute [local simp] undefA List.getElem?_cons_zero List.getElem?_cons_succ u64s_noObj in
theorem by_raw {σ : St} {N c : Nat} {tl : Tail} (hN : N < 2 ^ 512) (hc : c < 2 ^ 256) (hc0 : 0 < c) :
    CallsA Try.prog 119 [.sl 1 (u64s (digs 65536 32 N)) 32 tl, .agg (numA c)] σ (fun av σ' => av = .tup [.row σ.rows.length 0 0 1 32, .v (.bool (decide (N % c ≠ 0)))] ∧ σ' = { σ with rows := σ.rows ++ [⟨0, u64s (digs 65536 32 (N / c)), some 0⟩, ⟨18, [], none⟩, ⟨0, u64s (digs 65536 17 (N % c)), some 0⟩] }) := by
  refine callsA_gcO ?_ rfl
  have e16 : ∀ n, (65536 : Nat) ^ n = 2 ^ (16 * n) := fun n => by rw [Nat.pow_mul]
  have hc16 : c < 65536 ^ 16 := by rw [e16]; exact hc
  have hc17 : c < 65536 ^ 17 := Nat.lt_of_lt_of_le hc16 (Nat.pow_le_pow_right (by omega) (by omega))
  have h257 : (65536 : Nat) ^ 17 = 65536 * 2 ^ 256 := by rw [Nat.pow_succ, e16, Nat.mul_comm]
  have hby : u64s (digs 65536 16 c) ++ [.v (.int .u64 0)] = u64s (digs 65536 17 c) := by rw [digs_more hc16, ← u64s_snoc] <;> rfl
  have htk : List.take 16 (u64s (digs 65536 16 c)) = u64s (digs 65536 16 c) := List.take_of_length_le (by simp)
  have F := And.intro hby (And.intro htk (True.intro))
  refine callsA_body Try.func119 rfl rfl rfl ?_
  refine sq fun K1 hK1 => ?_
  refine rg' (h := fun J2 hJ2 => ?_)
  refine hJ2 _ _ ?_
  refine hK1 _ _ ?_
  refine sq fun K3 hK3 => ?_
  refine rg' (h := fun J4 hJ4 => ?_)
  refine hJ4 _ _ ?_
  refine hK3 _ _ ?_
  refine sq fun K5 hK5 => ?_
  refine rg' (h := fun J6 hJ6 => ?_)
  refine ca (c := digits_ok (x := c)) (k := ?_)
  rintro _ _ ⟨rfl, rfl⟩
  repeat (first | simp [F] | simp (disch := omega) only [wC, if_pos, if_neg])
  refine hJ6 _ _ ?_
  refine hK5 _ _ ?_
  refine sq fun K7 hK7 => ?_
  refine run_fz 7 1 (k := ?_)
  refine rg' (h := fun J8 hJ8 => ?_)
  refine hJ8 _ _ ?_
  refine hK7 _ _ ?_
  refine sq fun K9 hK9 => ?_
  refine sq fun K10 hK10 => ?_
  refine rg' (h := fun J11 hJ11 => ?_)
  refine hJ11 _ _ ?_
  refine hK10 _ _ ?_
  refine run_block_k ?_
  refine run_loopF (X := Nat) [0, 4, 5, 6, 7, 8] (fun n ρ σ1 => (n ≤ 512) ∧ (ρ 9 = .v (.int .i64 ((n : Int) - 1))) ∧ (σ1 = { σ with objs := σ.objs ++ [numA c], rows := σ.rows ++ [⟨0, u64s (digs 65536 32 (N / 2 ^ n / c * 2 ^ n)), some 0⟩, ⟨18, [], none⟩, ⟨0, u64s (digs 65536 17 (N / 2 ^ n % c)), some 0⟩] })) (fun n => n) (512) ?st1 ?rd1
  case st1 =>
   refine ⟨lp, lp, ?_⟩
   · rw [Nat.div_eq_of_lt hN]
     simp [digs_zero]
  case rd1 =>
   rintro n ρ1 σ1 hF1 ⟨hn, h9, hσ⟩
   obtain rfl := hσ.symm
   have f1 := keepL hF1
   try simp [KeepL, F] at f1
   replace F := And.intro h9 F
   try replace F := And.intro f1 F
   refine sq fun K12 hK12 => ?_
   refine sq fun K13 hK13 => ?_
   refine rg' (h := fun J14 hJ14 => ?_)
   refine hJ14 _ _ ?_
   refine hK13 _ _ ?_
   refine cs (fun c30 => ?_) (fun c30 => ?_)
   · try exact nope c30
     all_goals have c30p := c30
     all_goals try simp [F] at c30p
     all_goals
      replace F := And.intro c30 F
      try replace F := And.intro c30p F
      refine run_skip ?_
      refine hK12 _ _ ?_
      refine sq fun K15 hK15 => ?_
      refine run_block_k ?_
      refine sq fun K16 hK16 => ?_
      obtain ⟨j, rfl⟩ : ∃ j, n = j + 1 := ⟨n - 1, by simp at c30; omega⟩
      have hj : ((j + 1 : Nat) : Int) - 1 = (j : Int) := by omega
      rw [hj] at h9 F
      obtain ⟨q, hq⟩ : ∃ q, q = j / 16 := ⟨_, rfl⟩
      obtain ⟨r, hr⟩ : ∃ r, r = j % 16 := ⟨_, rfl⟩
      have e1 : (j : Int) / 16 = (q : Int) := by omega
      have e2 : (j : Int) % 16 = (r : Int) := by omega
      have hq32 : q < 32 := by omega
      have hq32i : (q : Int) < 32 := by omega
      have hr16 : r < 16 := by omega
      have e3 : (j : Int).tdiv 16 = (q : Int) := by rw [Int.tdiv_eq_ediv_of_nonneg (by omega)]; exact e1
      have e4 : (j : Int).tmod 16 = (r : Int) := by rw [Int.tmod_eq_emod_of_nonneg (by omega)]; exact e2
      obtain ⟨L, hL⟩ : ∃ L, L = N / 65536 ^ q % 65536 := ⟨_, rfl⟩
      have hgL : (u64s (digs 65536 32 N))[q]? = some (.v (.int .u64 L)) := by rw [hL]; exact digU_get hq32
      obtain ⟨_, hgL2⟩ := List.getElem?_eq_some_iff.1 hgL
      have hdL : List.drop q (u64s (digs 65536 32 N)) = .v (.int .u64 L) :: List.drop (q + 1) (u64s (digs 65536 32 N)) := by rw [List.drop_eq_getElem_cons (by simpa using hq32), hgL2]
      have hmin : min r 64 = r := by omega
      obtain ⟨B, hB⟩ : ∃ B, B = N / 2 ^ j % 2 := ⟨_, rfl⟩
      have hLr : L / 2 ^ r % 2 = B := by rw [hL, hB]; exact bit_gen (w := 16) hr16 (by omega)
      have hbit : ((L : Int).fdiv (2 ^ r)).tmod 2 = (B : Int) := by rw [pow2_cast, fdiv_nat, Int.tmod_eq_emod_of_nonneg (Int.natCast_nonneg _), ← hLr]; rfl
      obtain ⟨R, hR⟩ : ∃ R, R = N / 2 ^ (j + 1) % c := ⟨_, rfl⟩
      have hRl : R < c := by rw [hR]; exact Nat.mod_lt _ hc0
      obtain ⟨hd1, hd2, hd3⟩ := div_round (x := N) (c := c) (j := j) hc0
      rw [← hR, ← hB] at hd1 hd2 hd3
      obtain ⟨Q, hQ⟩ : ∃ Q, Q = N / 2 ^ (j + 1) / c * 2 ^ (j + 1) := ⟨_, rfl⟩
      rw [← hQ, ← hR]
      have hB1 : B ≤ 1 := by omega
      obtain ⟨T, hT⟩ : ∃ T, T = 2 * R + B := ⟨_, rfl⟩
      rw [← hT] at hd1 hd2 hd3
      have hTl : T < 65536 ^ 17 := by omega
      have hR17 : R < 65536 ^ 17 := by omega
      replace F := And.intro e1 F
      replace F := And.intro e2 F
      replace F := And.intro e3 F
      replace F := And.intro e4 F
      replace F := And.intro hq32 F
      replace F := And.intro hq32i F
      replace F := And.intro hr16 F
      replace F := And.intro hgL F
      replace F := And.intro hgL2 F
      replace F := And.intro hdL F
      replace F := And.intro hmin F
      replace F := And.intro hbit F
      refine rg' (h := fun J17 hJ17 => ?_)
      refine hJ17 _ _ ?_
      refine hK16 _ _ ?_
      refine sq fun K18 hK18 => ?_
      refine sq fun K19 hK19 => ?_
      refine rg' (h := fun J20 hJ20 => ?_)
      refine hJ20 _ _ ?_
      refine hK19 _ _ ?_
      refine run_block_k ?_
      refine run_loopF (X := Nat) [0, 4, 5, 6, 7, 8, 9, 29, 30, 33, 34, 35, 36, 37, 38, 39, 40, 41] (fun k ρ σ1 => (k ≤ 17) ∧ (ρ 10 = .v (.int .u64 (shc 65536 R B k : Nat))) ∧ (ρ 11 = .v (.int .i64 k)) ∧ (σ1 = { σ with objs := σ.objs ++ [numA c], rows := σ.rows ++ [⟨0, u64s (digs 65536 32 Q), some 0⟩, ⟨18, [], none⟩, ⟨0, u64s (mix 65536 17 k T R), some 0⟩] })) (fun k => 17 - k) (0) ?st2 ?rd2
      case st2 =>
       refine ⟨lp, ?_, lp, ?_⟩
       · simp [shc_zero]
       · rw [mix_zero]
      case rd2 =>
       rintro k ρ2 σ1 hF2 ⟨hk, h10, h11, hσ2⟩
       obtain rfl := hσ2.symm
       have f2 := keepL hF2
       try simp [KeepL, F] at f2
       replace F := And.intro h10 F
       replace F := And.intro h11 F
       try replace F := And.intro f2 F
       refine sq fun K21 hK21 => ?_
       refine sq fun K22 hK22 => ?_
       refine rg' (h := fun J23 hJ23 => ?_)
       refine hJ23 _ _ ?_
       refine hK22 _ _ ?_
       refine cs (fun c43 => ?_) (fun c43 => ?_)
       · try exact nope c43
         all_goals have c43p := c43
         all_goals try simp [F] at c43p
         all_goals
          replace F := And.intro c43 F
          try replace F := And.intro c43p F
          refine run_skip ?_
          refine hK21 _ _ ?_
          refine sq fun K24 hK24 => ?_
          refine run_block_k ?_
          refine sq fun K25 hK25 => ?_
          have hk17 : k < 17 := by simp at c43; omega
          have hgx := mixU_get (b := 65536) (s := T) (x := R) hk17
          have hml := mix_len (b := 65536) (s := T) (x := R) (Nat.le_of_lt hk17)
          obtain ⟨p, hp⟩ : ∃ p, p = R / 65536 ^ k % 65536 := ⟨_, rfl⟩
          rw [← hp] at hgx
          obtain ⟨_, hgx2⟩ := List.getElem?_eq_some_iff.1 hgx
          have hpl : p < 65536 := by rw [hp]; exact Nat.mod_lt _ (by decide)
          obtain ⟨u, hu⟩ : ∃ u, u = shc 65536 R B k := ⟨_, rfl⟩
          have hul : u ≤ 1 := by rw [hu]; exact shc_le (by decide) hB1
          rw [← hu] at h10 F
          obtain ⟨v, hv⟩ : ∃ v, v = 2 * p + u := ⟨_, rfl⟩
          have hve : (p : Int) * 2 + u = (v : Int) := by omega
          obtain ⟨m, hm⟩ : ∃ m, m = v % 65536 := ⟨_, rfl⟩
          obtain ⟨w, hw⟩ : ∃ w, w = v / 65536 := ⟨_, rfl⟩
          have hn6 : (v : Int).tmod 65536 = (m : Int) := by rw [Int.tmod_eq_emod_of_nonneg (by omega)]; omega
          have hn7 : (v : Int).tdiv 65536 = (w : Int) := by rw [Int.tdiv_eq_ediv_of_nonneg (by omega)]; omega
          have hn8 : (v : Int) % 65536 = (m : Int) := by omega
          have hn9 : (v : Int) / 65536 = (w : Int) := by omega
          have hk5 : (k : Int) < 17 := by omega
          have hdg : m = T / 65536 ^ k % 65536 := by rw [hm, hv, hT, hp, hu]; exact shc_dig (by decide)
          have hnx : w = shc 65536 R B (k + 1) := by rw [hw, hv, hp, hu]; exact shc_next (by decide)
          have hset := mixU_set (b := 65536) (s := T) (x := R) hk17
          rw [← hdg] at hset
          replace F := And.intro hgx F
          replace F := And.intro hgx2 F
          replace F := And.intro hml F
          replace F := And.intro hve F
          replace F := And.intro hn6 F
          replace F := And.intro hn7 F
          replace F := And.intro hn8 F
          replace F := And.intro hn9 F
          replace F := And.intro hk17 F
          replace F := And.intro hk5 F
          refine rg' (h := fun J26 hJ26 => ?_)
          refine hJ26 _ _ ?_
          refine hK25 _ _ ?_
          refine sq fun K27 hK27 => ?_
          refine rg' (h := fun J28 hJ28 => ?_)
          refine hJ28 _ _ ?_
          refine hK27 _ _ ?_
          refine rg' (h := fun J29 hJ29 => ?_)
          refine hJ29 _ _ ?_
          refine hK24 _ _ ?_
          refine rg' (h := fun J30 hJ30 => ?_)
          refine hJ30 _ _ ?_
          refine ⟨(k + 1), ⟨kp, lp, ?_, lp, ?_⟩, lp⟩
          · simp [F, hnx]
          · simp [F, hset]
       try exact nope c43
       all_goals have c43p := c43
       all_goals try simp [F] at c43p
       all_goals
        replace F := And.intro c43 F
        try replace F := And.intro c43p F
        obtain rfl : k = 17 := by simp at c43; omega
        rw [mix_all]
        refine run_exit ?_
        refine hK18 _ _ ?_
        refine sq fun K31 hK31 => ?_
        refine sq fun K32 hK32 => ?_
        refine rg' (h := fun J33 hJ33 => ?_)
        refine ca (c := less_ok (k := σ.rows.length + 2) (g := 0) (n := 17) (x := T) (y := c) (sp := some 0) (by simp [get_appN]) (by omega) hTl hc17) (k := ?_)
        rintro _ _ ⟨rfl, rfl⟩
        repeat (first | simp [F] | simp (disch := omega) only [wC, if_pos, if_neg])
        refine hJ33 _ _ ?_
        refine hK32 _ _ ?_
        refine cs (fun c62 => ?_) (fun c62 => ?_)
        · try exact nope c62
          all_goals have c62p := c62
          all_goals try simp [F] at c62p
          all_goals
           replace F := And.intro c62 F
           try replace F := And.intro c62p F
           have hcT : T < c := by simpa using c62
           obtain ⟨hd4, hd5⟩ := hd1 hcT
           have hQ2 : N / 2 ^ j / c * 2 ^ j = Q := by rw [hd4, hQ, Nat.pow_succ]; grind
           replace F := And.intro hd5 (And.intro hQ2 F)
           refine run_exit ?_
           refine hK15 _ _ ?_
           refine rg' (h := fun J34 hJ34 => ?_)
           refine hJ34 _ _ ?_
           refine ⟨(j), ⟨kp, lp, lp, lp⟩, lp⟩
        try exact nope c62
        all_goals have c62p := c62
        all_goals try simp [F] at c62p
        all_goals
         replace F := And.intro c62 F
         try replace F := And.intro c62p F
         have hcT : c ≤ T := by simpa using c62
         obtain ⟨hd4, hd5⟩ := hd2 hcT
         obtain ⟨s4, hs4⟩ : ∃ s4, s4 = T + 65536 ^ 17 - c := ⟨_, rfl⟩
         refine run_skip ?_
         refine hK31 _ _ ?_
         refine sq fun K35 hK35 => ?_
         refine rg' (h := fun J36 hJ36 => ?_)
         refine hJ36 _ _ ?_
         refine hK35 _ _ ?_
         refine sq fun K37 hK37 => ?_
         refine sq fun K38 hK38 => ?_
         refine rg' (h := fun J39 hJ39 => ?_)
         refine hJ39 _ _ ?_
         refine hK38 _ _ ?_
         refine run_block_k ?_
         refine run_loopF (X := Nat) [0, 4, 5, 6, 7, 8, 9, 10, 11, 29, 30, 33, 34, 35, 36, 37, 38, 39, 40, 41, 42, 43, 60, 61, 62] (fun k ρ σ1 => (k ≤ 17) ∧ (ρ 13 = .v (.int .u64 (subb 65536 T c k : Nat))) ∧ (ρ 14 = .v (.int .i64 k)) ∧ (σ1 = { σ with objs := σ.objs ++ [numA c], rows := σ.rows ++ [⟨0, u64s (digs 65536 32 Q), some 0⟩, ⟨18, [], none⟩, ⟨0, u64s (mix 65536 17 k s4 T), some 0⟩] })) (fun k => 17 - k) (0) ?st3 ?rd3
         case st3 =>
          refine ⟨lp, ?_, lp, ?_⟩
          · simp [subb_zero]
          · rw [mix_zero]
         case rd3 =>
          rintro k ρ3 σ1 hF3 ⟨hk, h13, h14, hσ3⟩
          obtain rfl := hσ3.symm
          have f3 := keepL hF3
          try simp [KeepL, F] at f3
          replace F := And.intro h13 F
          replace F := And.intro h14 F
          try replace F := And.intro f3 F
          refine sq fun K40 hK40 => ?_
          refine sq fun K41 hK41 => ?_
          refine rg' (h := fun J42 hJ42 => ?_)
          refine hJ42 _ _ ?_
          refine hK41 _ _ ?_
          refine cs (fun c64 => ?_) (fun c64 => ?_)
          · try exact nope c64
            all_goals have c64p := c64
            all_goals try simp [F] at c64p
            all_goals
             replace F := And.intro c64 F
             try replace F := And.intro c64p F
             refine run_skip ?_
             refine hK40 _ _ ?_
             refine sq fun K43 hK43 => ?_
             refine run_block_k ?_
             refine sq fun K44 hK44 => ?_
             have hk17 : k < 17 := by simp at c64; omega
             have hgx := mixU_get (b := 65536) (s := s4) (x := T) hk17
             have hgy := digU_get (b := 65536) (x := c) hk17
             have hml := mix_len (b := 65536) (s := s4) (x := T) (Nat.le_of_lt hk17)
             obtain ⟨p, hp⟩ : ∃ p, p = T / 65536 ^ k % 65536 := ⟨_, rfl⟩
             obtain ⟨y, hy⟩ : ∃ y, y = c / 65536 ^ k % 65536 := ⟨_, rfl⟩
             rw [← hp] at hgx
             rw [← hy] at hgy
             obtain ⟨_, hgx2⟩ := List.getElem?_eq_some_iff.1 hgx
             obtain ⟨_, hgy2⟩ := List.getElem?_eq_some_iff.1 hgy
             have hk5 : (k : Int) < 17 := by omega
             have hdy : List.drop k (u64s (digs 65536 17 c)) = .v (.int .u64 y) :: List.drop (k + 1) (u64s (digs 65536 17 c)) := by rw [List.drop_eq_getElem_cons (by simpa using hk17), hgy2]
             have hpl : p < 65536 := by rw [hp]; exact Nat.mod_lt _ (by decide)
             have hyl : y < 65536 := by rw [hy]; exact Nat.mod_lt _ (by decide)
             obtain ⟨u, hu⟩ : ∃ u, u = subb 65536 T c k := ⟨_, rfl⟩
             have hul : u ≤ 1 := by rw [hu]; exact subb_le _ _ _ _
             rw [← hu] at h13 F
             obtain ⟨v, hv⟩ : ∃ v, v = p + 65536 - y - u := ⟨_, rfl⟩
             have hve : (p : Int) + 65536 - y - u = (v : Int) := by omega
             obtain ⟨m, hm⟩ : ∃ m, m = v % 65536 := ⟨_, rfl⟩
             obtain ⟨w, hw⟩ : ∃ w, w = v / 65536 := ⟨_, rfl⟩
             obtain ⟨u2, hu2⟩ : ∃ u2, u2 = 1 - w := ⟨_, rfl⟩
             have hw1 : w ≤ 1 := by omega
             have hn6 : (v : Int).tmod 65536 = (m : Int) := by rw [Int.tmod_eq_emod_of_nonneg (by omega)]; omega
             have hn7 : (v : Int).tdiv 65536 = (w : Int) := by rw [Int.tdiv_eq_ediv_of_nonneg (by omega)]; omega
             have hn8 : (v : Int) % 65536 = (m : Int) := by omega
             have hn9 : (v : Int) / 65536 = (w : Int) := by omega
             have hdg : m = s4 / 65536 ^ k % 65536 := by rw [hm, hv, hs4, hp, hy, hu]; exact subb_dig (by decide) hk17 hTl hc17
             have hc3 : u2 = subb 65536 T c (k + 1) := by rw [← subb_next (by decide), ← hp, ← hy, ← hu]; split <;> omega
             have hset := mixU_set (b := 65536) (s := s4) (x := T) hk17
             rw [← hdg] at hset
             replace F := And.intro hgx F
             replace F := And.intro hgy F
             replace F := And.intro hgx2 F
             replace F := And.intro hgy2 F
             replace F := And.intro hdy F
             replace F := And.intro hml F
             replace F := And.intro hve F
             replace F := And.intro hn6 F
             replace F := And.intro hn7 F
             replace F := And.intro hn8 F
             replace F := And.intro hn9 F
             replace F := And.intro hk17 F
             replace F := And.intro hk5 F
             refine run_draw (by kernel_rfl) fun J45 hJ45 => ?_
             refine rp2 0 (k := ?_)
             refine rp2 1 (k := ?_)
             refine rp2 2 (k := ?_)
             refine rp2 3 (k := ?_)
             refine rp2 4 (k := ?_)
             refine rp2 5 (k := ?_)
             refine rp2 6 (k := ?_)
             refine rp2 7 (k := ?_)
             refine rp2 8 (k := ?_)
             refine rp2 9 (k := ?_)
             refine rp2 10 (k := ?_)
             refine rp2 11 (k := ?_)
             refine rp2 12 (k := ?_)
             refine dd ?_
             refine hJ45 _ _ ?_
             refine hK44 _ _ ?_
             refine sq fun K46 hK46 => ?_
             refine rg' (h := fun J47 hJ47 => ?_)
             refine hJ47 _ _ ?_
             refine hK46 _ _ ?_
             refine rg' (h := fun J48 hJ48 => ?_)
             refine hJ48 _ _ ?_
             refine hK43 _ _ ?_
             refine rg' (h := fun J49 hJ49 => ?_)
             refine hJ49 _ _ ?_
             refine ⟨(k + 1), ⟨kp, lp, ?_, lp, ?_⟩, lp⟩
             · simp only [putA_get]
               repeat (first | simp [F] | simp (disch := omega) only [wC, if_pos, if_neg])
               rw [← hc3]
               omega
             · simp [F, hset]
          try exact nope c64
          all_goals have c64p := c64
          all_goals try simp [F] at c64p
          all_goals
           replace F := And.intro c64 F
           try replace F := And.intro c64p F
           obtain rfl : k = 17 := by simp at c64; omega
           rw [mix_all, hs4, digs_sub (by omega) hcT, ← hd5]
           refine run_exit ?_
           refine hK37 _ _ ?_
           obtain ⟨M, hM⟩ : ∃ M, M = Q / 65536 ^ q % 65536 := ⟨_, rfl⟩
           have hgM := digU_get (b := 65536) (x := Q) hq32
           rw [← hM] at hgM
           obtain ⟨_, hgM2⟩ := List.getElem?_eq_some_iff.1 hgM
           have hQ0 : Q / 2 ^ j % 2 = 0 := by rw [hQ, Nat.pow_succ, show N / (2 ^ j * 2) / c * (2 ^ j * 2) = 2 ^ j * (N / (2 ^ j * 2) / c * 2) by grind, Nat.mul_div_cancel_left _ (Nat.two_pow_pos j)]; omega
           have hQ2 : N / 2 ^ j / c * 2 ^ j = Q + 2 ^ j := by rw [hd4, hQ, Nat.pow_succ]; grind
           have hQl : Q + 2 ^ j < 2 ^ 512 := by rw [← hQ2]; exact Nat.lt_of_le_of_lt (Nat.le_trans (Nat.mul_le_mul_right _ (Nat.div_le_self _ _)) (Nat.div_mul_le_self _ _)) hN
           obtain ⟨hb1, hb3⟩ := digs_bit16 hM hr16 (show j = 16 * q + r by omega) hq32 hQ0 hQl
           obtain ⟨E, hE⟩ : ∃ E, E = 2 ^ r := ⟨_, rfl⟩
           rw [← hE] at hb1 hb3
           have hsl : IntKind.u64.wrap (2 ^ r) = (E : Int) := by rw [pow2_cast, ← hE]; exact wrapN (by omega)
           obtain ⟨M2, hM2⟩ : ∃ M2, M2 = M + E := ⟨_, rfl⟩
           have hadM : IntKind.u64.wrap ((M : Int) + E) = (M2 : Int) := by rw [show (M : Int) + E = (M2 : Int) by omega]; exact wrapN (by omega)
           rw [← hM2] at hb3
           have hset := u64s_set (digs 65536 32 Q) q M2 (by simpa using hq32)
           rw [hb3] at hset
           replace F := And.intro hgM F
           replace F := And.intro hgM2 F
           replace F := And.intro hsl F
           replace F := And.intro hadM F
           replace F := And.intro hQ2 F
           replace F := And.intro hset F
           refine run_draw (by kernel_rfl) fun J50 hJ50 => ?_
           refine rp2 0 (k := ?_)
           refine rp2 1 (k := ?_)
           refine rp2 2 (k := ?_)
           refine rp2 3 (k := ?_)
           refine rp2 4 (k := ?_)
           refine rp2 5 (k := ?_)
           refine rp2 6 (k := ?_)
           refine rp2 7 (k := ?_)
           refine rp2 8 (k := ?_)
           refine rp2 9 (k := ?_)
           refine dop 10 rfl ?_
           repeat (first | simp [F] | simp (disch := omega) only [wC, if_pos, if_neg])
           refine ⟨ln, ?_⟩
           refine dd ?_
           refine hJ50 _ _ ?_
           refine hK15 _ _ ?_
           refine rg' (h := fun J51 hJ51 => ?_)
           refine hJ51 _ _ ?_
           refine ⟨(j), ⟨kp, lp, lp, lp⟩, lp⟩
   try exact nope c30
   all_goals have c30p := c30
   all_goals try simp [F] at c30p
   all_goals
    replace F := And.intro c30 F
    try replace F := And.intro c30p F
    obtain rfl : n = 0 := by simp at c30; omega
    have e0 : N / 2 ^ 0 / c * 2 ^ 0 = N / c := by simp
    have e1 : N / 2 ^ 0 % c = N % c := by simp
    rw [e0, e1]
    obtain ⟨R, hR⟩ : ∃ R, R = N % c := ⟨_, rfl⟩
    rw [← hR]
    have hR17 : R < 65536 ^ 17 := by have := Nat.mod_lt N hc0; omega
    refine run_exit ?_
    refine hK9 _ _ ?_
    refine sq fun K52 hK52 => ?_
    refine sq fun K53 hK53 => ?_
    refine rg' (h := fun J54 hJ54 => ?_)
    refine hJ54 _ _ ?_
    refine hK53 _ _ ?_
    refine run_block_k ?_
    refine run_loopF (X := Nat) [6, 8] (fun k ρ σ1 => (k ≤ 17) ∧ (∀ i, i < k → R / 65536 ^ i % 65536 = 0) ∧ (ρ 16 = .v (.int .i64 k)) ∧ (σ1 = { σ with objs := σ.objs ++ [numA c], rows := σ.rows ++ [⟨0, u64s (digs 65536 32 (N / c)), some 0⟩, ⟨18, [], none⟩, ⟨0, u64s (digs 65536 17 R), some 0⟩] })) (fun k => 17 - k) (0) ?st4 ?rd4
    case st4 =>
     refine ⟨lp, ?_, lp, lp⟩
     · intro i h
       omega
    case rd4 =>
     rintro k ρ4 σ1 hF4 ⟨hk, hz, h16, hσ4⟩
     obtain rfl := hσ4.symm
     have f4 := keepL hF4
     try simp [KeepL, F] at f4
     replace F := And.intro h16 F
     try replace F := And.intro f4 F
     refine sq fun K55 hK55 => ?_
     refine sq fun K56 hK56 => ?_
     refine rg' (h := fun J57 hJ57 => ?_)
     refine hJ57 _ _ ?_
     refine hK56 _ _ ?_
     refine cs (fun c98 => ?_) (fun c98 => ?_)
     · try exact nope c98
       all_goals have c98p := c98
       all_goals try simp [F] at c98p
       all_goals
        replace F := And.intro c98 F
        try replace F := And.intro c98p F
        refine run_skip ?_
        refine hK55 _ _ ?_
        refine sq fun K58 hK58 => ?_
        refine run_block_k ?_
        refine sq fun K59 hK59 => ?_
        have hk17 : k < 17 := by simp at c98; omega
        have hgx := digU_get (b := 65536) (x := R) hk17
        obtain ⟨p, hp⟩ : ∃ p, p = R / 65536 ^ k % 65536 := ⟨_, rfl⟩
        rw [← hp] at hgx
        obtain ⟨_, hgx2⟩ := List.getElem?_eq_some_iff.1 hgx
        have hk5 : (k : Int) < 17 := by omega
        replace F := And.intro hgx F
        replace F := And.intro hgx2 F
        replace F := And.intro hk17 F
        replace F := And.intro hk5 F
        refine rg' (h := fun J60 hJ60 => ?_)
        refine hJ60 _ _ ?_
        refine hK59 _ _ ?_
        refine cs (fun c105 => ?_) (fun c105 => ?_)
        · try exact nope c105
          all_goals have c105p := c105
          all_goals try simp [F] at c105p
          all_goals
           replace F := And.intro c105 F
           try replace F := And.intro c105p F
           have hR0 : ¬ R = 0 := by intro e; have h := c105; simp at h; rw [e] at hp; simp at hp; omega
           replace F := And.intro hR0 F
           refine sq fun K61 hK61 => ?_
           refine rg' (h := fun J62 hJ62 => ?_)
           refine hJ62 _ _ ?_
           refine hK61 _ _ ?_
           refine run_ret ?_
           try simp only [Then, InBlock, NoGoto]
           refine answer_tmp2 rfl (.inr rfl) ?_
           rw [← hR]
           exact gco
        try exact nope c105
        all_goals have c105p := c105
        all_goals try simp [F] at c105p
        all_goals
         replace F := And.intro c105 F
         try replace F := And.intro c105p F
         refine run_skip ?_
         refine hK58 _ _ ?_
         refine rg' (h := fun J63 hJ63 => ?_)
         refine hJ63 _ _ ?_
         refine ⟨(k + 1), ⟨kp, lp, ?_, lp, lp⟩, lp⟩
         · intro i h
           by_cases hi : i = k
           · subst hi; rw [← hp]; have h := c105; simp at h; omega
           · exact hz i (by omega)
     try exact nope c98
     all_goals have c98p := c98
     all_goals try simp [F] at c98p
     all_goals
      replace F := And.intro c98 F
      try replace F := And.intro c98p F
      obtain rfl : k = 17 := by simp at c98; omega
      have hR0 : R = 0 := digs_all0 hR17 hz
      subst hR0
      refine run_exit ?_
      refine hK52 _ _ ?_
      refine sq fun K64 hK64 => ?_
      refine rg' (h := fun J65 hJ65 => ?_)
      refine hJ65 _ _ ?_
      refine hK64 _ _ ?_
      refine run_ret ?_
      try simp only [Then, InBlock, NoGoto]
      refine answer_tmp2 rfl (.inr rfl) ?_
      rw [← hR]
      exact gco

end Go.Proofs.Ytdbaddholggkbaa
