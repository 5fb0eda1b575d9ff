import Derived.Test.YtdbaddholggkbaaVmU
import Derived.Test.YtdbaddholggkbaaG4
/-
  Numbers: the long division.
-/
namespace Go.Proofs.Ytdbaddholggkbaa
set_option linter.unnecessarySimpa false
set_option maxRecDepth 100000
set_option exponentiation.threshold 600
open Go Go.Vm
set_option linter.unusedSimpArgs false
set_option linter.unusedVariables false

attribute [local simp] evalL wantedA isCall opA evalA evalAll evalsA evalOpt ofValue ofCell plain binA_eql_pn binA_neq_pn binA_gtr binA_lss binA_geq binA_leq binA_add binA_sub binA_eql binA_neq binA_orI binA_andI binA_shl binA_shr binA_mul binA_quo binA_rem binA_agg_eql binA_agg_neq convA_int unA_not fieldAddrA loadA partA pickA_true pickA_false pickA_bb lenA builtinA storeA splice AV.cells AV.isCell sliceA boundA intA callOf indexAddrA newObjA buildA fillA zeroA ofCells buildSliceA indexA fieldA numA_len4 numA_take4 numA_drop4 set_appN get_appN List.getElem?_cons_zero List.getElem?_cons_succ

theorem cmpI_ge {T c : Nat} (h : 0 ≤ cmpI T c) : c ≤ T := by
  unfold cmpI at h; split at h <;> omega
theorem cmpI_lt {T c : Nat} (h : ¬ 0 ≤ cmpI T c) : T < c := by
  unfold cmpI at h
  split at h
  · assumption
  · split at h <;> omega

set_option maxHeartbeats 1600000 in
attribute [local simp] undefA List.getElem?_cons_zero List.getElem?_cons_succ prodA_take8 prodA_drop8 prodA_len in
theorem by_ok {σ : St} {x c : Nat} (hx : x < 2 ^ 512) (hc : c < 2 ^ 256) (hc0 : 0 < c) :
    CallsA Try.prog 116 [.agg (prodA x), .agg (numA c)] σ (fun av σ' => av = .tup [.agg (prodA (x / c)), .agg (numA (x % c))] ∧ σ = σ') := by
  refine callsA_gcS ?_ (by simp [AV.under, underL, prodA, u64s_under, numA])
  have F := True.intro
  refine callsA_body Try.func116 rfl rfl rfl ?_
  refine sq fun K1 hK1 => ?_
  refine rg' (h := fun J2 hJ2 => ?_)
  refine hJ2 _ _ ?_
  refine hK1 _ _ ?_
  refine sq fun K3 hK3 => ?_
  refine rg' (h := fun J4 hJ4 => ?_)
  refine hJ4 _ _ ?_
  refine hK3 _ _ ?_
  refine sq fun K5 hK5 => ?_
  refine rg' (h := fun J6 hJ6 => ?_)
  refine hJ6 _ _ ?_
  refine hK5 _ _ ?_
  refine sq fun K7 hK7 => ?_
  refine sq fun K8 hK8 => ?_
  refine rg' (h := fun J9 hJ9 => ?_)
  refine hJ9 _ _ ?_
  refine hK8 _ _ ?_
  refine run_block_k ?_
  refine run_loopF (X := Nat) [2, 3, 4, 5, 6, 7] (fun n ρ σ1 => (n ≤ 512) ∧ (ρ 8 = .v (.int .i64 ((n : Int) - 1))) ∧ (σ1 = { σ with objs := σ.objs ++ [prodA x, numA c, prodA 0, numA 0, prodA (x / 2 ^ n / c * 2 ^ n), numA (x / 2 ^ n % c)] })) (fun n => n) (512) ?st1 ?rd1
  case st1 =>
   refine ⟨lp, lp, ?_⟩
   · rw [Nat.div_eq_of_lt hx]
     simp [prodA_zero, numA_zero4]
  case rd1 =>
   rintro n ρ1 σ1 hF1 ⟨hn, h8, hσ⟩
   obtain rfl := hσ.symm
   have f1 := keepL hF1
   try simp [KeepL, F] at f1
   replace F := And.intro h8 F
   try replace F := And.intro f1 F
   refine sq fun K10 hK10 => ?_
   refine sq fun K11 hK11 => ?_
   refine rg' (h := fun J12 hJ12 => ?_)
   refine hJ12 _ _ ?_
   refine hK11 _ _ ?_
   refine cs (fun c11 => ?_) (fun c11 => ?_)
   · try exact nope c11
     all_goals have c11p := c11
     all_goals try simp [F] at c11p
     all_goals
      replace F := And.intro c11 F
      try replace F := And.intro c11p F
      refine run_skip ?_
      refine hK10 _ _ ?_
      refine sq fun K13 hK13 => ?_
      refine run_block_k ?_
      refine sq fun K14 hK14 => ?_
      obtain ⟨j, rfl⟩ : ∃ j, n = j + 1 := ⟨n - 1, by simp at c11; omega⟩
      have hj : ((j + 1 : Nat) : Int) - 1 = (j : Int) := by omega
      rw [hj] at h8 F
      obtain ⟨q, hq⟩ : ∃ q, q = j / 64 := ⟨_, rfl⟩
      obtain ⟨r, hr⟩ : ∃ r, r = j % 64 := ⟨_, rfl⟩
      have e1 : (j : Int) / 64 = (q : Int) := by omega
      have e2 : (j : Int) % 64 = (r : Int) := by omega
      have hq8 : q < 8 := by omega
      have hq8i : (q : Int) < 8 := by omega
      have hr64 : r < 64 := by omega
      have e3 : (j : Int).tdiv 64 = (q : Int) := by rw [Int.tdiv_eq_ediv_of_nonneg (by omega)]; exact e1
      have e4 : (j : Int).tmod 64 = (r : Int) := by rw [Int.tmod_eq_emod_of_nonneg (by omega)]; exact e2
      obtain ⟨L, hL⟩ : ∃ L, L = x / 18446744073709551616 ^ q % 18446744073709551616 := ⟨_, rfl⟩
      have hgx : (prodA x)[q]? = some (.v (.int .u64 L)) := by rw [hL]; exact digU_get hq8
      obtain ⟨_, hgx2⟩ := List.getElem?_eq_some_iff.1 hgx
      replace F := And.intro e1 F
      replace F := And.intro e2 F
      replace F := And.intro e3 F
      replace F := And.intro e4 F
      replace F := And.intro hq8 F
      replace F := And.intro hq8i F
      replace F := And.intro hr64 F
      replace F := And.intro hgx F
      replace F := And.intro hgx2 F
      refine rg' (h := fun J15 hJ15 => ?_)
      obtain ⟨B, hB⟩ : ∃ B, B = x / 2 ^ j % 2 := ⟨_, rfl⟩
      have hbit := andI_bit hL hr64 (show j = 64 * q + r by omega)
      rw [← hB] at hbit
      obtain ⟨R, hR⟩ : ∃ R, R = x / 2 ^ (j + 1) % c := ⟨_, rfl⟩
      have hRl : R < c := by rw [hR]; exact Nat.mod_lt _ hc0
      obtain ⟨hd1, hd2, hd3⟩ := div_round (x := x) (c := c) (j := j) hc0
      rw [← hR, ← hB] at hd1 hd2 hd3
      obtain ⟨Q, hQ⟩ : ∃ Q, Q = x / 2 ^ (j + 1) / c * 2 ^ (j + 1) := ⟨_, rfl⟩
      rw [← hQ, ← hR]
      obtain ⟨T, hT⟩ : ∃ T, T = 2 * R + B := ⟨_, rfl⟩
      rw [← hT] at hd1 hd2 hd3
      replace F := And.intro hbit F
      refine ca (c := shift_ok (id := σ.objs.length + 5) (x := R) (e := B) (by simp [get_appN]) (by omega) (by omega)) (k := ?_)
      rintro _ _ ⟨rfl, rfl⟩
      rw [← hT]
      repeat (first | simp [F] | simp (disch := omega) only [wC, if_pos, if_neg])
      refine hJ15 _ _ ?_
      refine hK14 _ _ ?_
      refine sq fun K16 hK16 => ?_
      refine rg' (h := fun J17 hJ17 => ?_)
      refine gs 25 (fun g7_2 => ?_) (fun g7_2 => ?_)
      · try exact nope g7_2
        all_goals have g7_2p := g7_2
        all_goals try simp [F] at g7_2p
        all_goals
         replace F := And.intro g7_2 F
         try replace F := And.intro g7_2p F
         have hcT : c ≤ T := by have h := g7_2; simp only [bne_iff_ne, ne_eq] at h; omega
         have hsn : subN (T % 2 ^ 256) c = T - c := by unfold subN; omega
         obtain ⟨hd4, hd5⟩ := hd2 hcT
         refine no2 (k := ?_)
         refine no2 (k := ?_)
         refine no2 (k := ?_)
         refine no2 (k := ?_)
         refine hJ17 _ _ ?_
         refine hK16 _ _ ?_
         refine ct ?_
         refine sq fun K18 hK18 => ?_
         refine rg' (h := fun J19 hJ19 => ?_)
         refine ca (c := nsub_mod (x := T) (y := c) hc) (k := ?_)
         rintro _ _ ⟨rfl, rfl⟩
         repeat (first | simp [F] | simp (disch := omega) only [wC, if_pos, if_neg])
         refine hJ19 _ _ ?_
         refine hK18 _ _ ?_
         rw [hsn]
         obtain ⟨M, hM⟩ : ∃ M, M = Q / 18446744073709551616 ^ q % 18446744073709551616 := ⟨_, rfl⟩
         have hgM : (prodA Q)[q]? = some (.v (.int .u64 M)) := by rw [hM]; exact digU_get hq8
         obtain ⟨_, hgM2⟩ := List.getElem?_eq_some_iff.1 hgM
         have hQ0 : Q / 2 ^ j % 2 = 0 := by rw [hQ, Nat.pow_succ, show x / (2 ^ j * 2) / c * (2 ^ j * 2) = 2 ^ j * (x / (2 ^ j * 2) / c * 2) by grind, Nat.mul_div_cancel_left _ (Nat.two_pow_pos j)]; omega
         have hQ2 : x / 2 ^ j / c * 2 ^ j = Q + 2 ^ j := by rw [hd4, hQ, Nat.pow_succ]; grind
         have hQl : Q + 2 ^ j < 2 ^ 512 := by rw [← hQ2]; exact Nat.lt_of_le_of_lt (Nat.le_trans (Nat.mul_le_mul_right _ (Nat.div_le_self _ _)) (Nat.div_mul_le_self _ _)) hx
         obtain ⟨hb1, hb2, hb3⟩ := digs_bit hM hr64 (show j = 64 * q + r by omega) hq8 hQ0 hQl
         have hsl := shl_bit' hr64
         obtain ⟨E, hE⟩ : ∃ E, E = 2 ^ r := ⟨_, rfl⟩
         rw [← hE] at hb1 hb2 hb3 hsl
         have hoM := orI_nat (a := M) (b := E) (by omega) (by omega)
         rw [hb2] at hoM
         obtain ⟨M2, hM2⟩ : ∃ M2, M2 = M + E := ⟨_, rfl⟩
         rw [← hM2] at hoM hb3
         have hset := u64s_set (digs 18446744073709551616 8 Q) q M2 (by simpa using hq8)
         rw [hb3] at hset
         replace F := And.intro hgM F
         replace F := And.intro hgM2 F
         replace F := And.intro hsl F
         replace F := And.intro hoM F
         replace F := And.intro hd5 F
         replace F := And.intro hQ2 F
         refine run_draw (by kernel_rfl) fun J20 hJ20 => ?_
         refine rp2 0 (k := ?_)
         refine rp2 1 (k := ?_)
         refine rp2 2 (k := ?_)
         refine rp2 3 (k := ?_)
         refine rp2 4 (k := ?_)
         refine rp2 5 (k := ?_)
         refine rp2 6 (k := ?_)
         refine rp2 7 (k := ?_)
         refine rp2 8 (k := ?_)
         refine dop 9 rfl ?_
         repeat (first | simp [F] | simp (disch := omega) only [wC, if_pos, if_neg])
         refine ⟨ln, ?_⟩
         refine dd ?_
         refine hJ20 _ _ ?_
         refine hK13 _ _ ?_
         refine rg' (h := fun J21 hJ21 => ?_)
         refine hJ21 _ _ ?_
         refine ⟨(j), ⟨kp, lp, lp, ?_⟩, lp⟩
         · simp [F]
           exact hset
      try exact nope g7_2
      all_goals have g7_2p := g7_2
      all_goals try simp [F] at g7_2p
      all_goals
       replace F := And.intro g7_2 F
       try replace F := And.intro g7_2p F
       have hT0 : T < 2 ^ 256 := by have h := g7_2; simp only [bne_eq_false_iff_eq] at h; omega
       refine go2 (k := ?_)
       refine go2 (k := ?_)
       refine ca (c := cmp_ok (x := T) (y := c) hT0 hc) (k := ?_)
       rintro _ _ ⟨rfl, rfl⟩
       repeat (first | simp [F] | simp (disch := omega) only [wC, if_pos, if_neg])
       refine go2 (k := ?_)
       refine hJ17 _ _ ?_
       refine hK16 _ _ ?_
       refine cs (fun c30 => ?_) (fun c30 => ?_)
       · try exact nope c30
         all_goals have c30p := c30
         all_goals try simp [F] at c30p
         all_goals
          replace F := And.intro c30 F
          try replace F := And.intro c30p F
          have hcT : c ≤ T := by have h := c30; simp only [decide_eq_true_eq] at h; exact cmpI_ge h
          have hsn : subN (T % 2 ^ 256) c = T - c := by unfold subN; omega
          obtain ⟨hd4, hd5⟩ := hd2 hcT
          refine sq fun K22 hK22 => ?_
          refine rg' (h := fun J23 hJ23 => ?_)
          refine ca (c := nsub_mod (x := T) (y := c) hc) (k := ?_)
          rintro _ _ ⟨rfl, rfl⟩
          repeat (first | simp [F] | simp (disch := omega) only [wC, if_pos, if_neg])
          refine hJ23 _ _ ?_
          refine hK22 _ _ ?_
          rw [hsn]
          obtain ⟨M, hM⟩ : ∃ M, M = Q / 18446744073709551616 ^ q % 18446744073709551616 := ⟨_, rfl⟩
          have hgM : (prodA Q)[q]? = some (.v (.int .u64 M)) := by rw [hM]; exact digU_get hq8
          obtain ⟨_, hgM2⟩ := List.getElem?_eq_some_iff.1 hgM
          have hQ0 : Q / 2 ^ j % 2 = 0 := by rw [hQ, Nat.pow_succ, show x / (2 ^ j * 2) / c * (2 ^ j * 2) = 2 ^ j * (x / (2 ^ j * 2) / c * 2) by grind, Nat.mul_div_cancel_left _ (Nat.two_pow_pos j)]; omega
          have hQ2 : x / 2 ^ j / c * 2 ^ j = Q + 2 ^ j := by rw [hd4, hQ, Nat.pow_succ]; grind
          have hQl : Q + 2 ^ j < 2 ^ 512 := by rw [← hQ2]; exact Nat.lt_of_le_of_lt (Nat.le_trans (Nat.mul_le_mul_right _ (Nat.div_le_self _ _)) (Nat.div_mul_le_self _ _)) hx
          obtain ⟨hb1, hb2, hb3⟩ := digs_bit hM hr64 (show j = 64 * q + r by omega) hq8 hQ0 hQl
          have hsl := shl_bit' hr64
          obtain ⟨E, hE⟩ : ∃ E, E = 2 ^ r := ⟨_, rfl⟩
          rw [← hE] at hb1 hb2 hb3 hsl
          have hoM := orI_nat (a := M) (b := E) (by omega) (by omega)
          rw [hb2] at hoM
          obtain ⟨M2, hM2⟩ : ∃ M2, M2 = M + E := ⟨_, rfl⟩
          rw [← hM2] at hoM hb3
          have hset := u64s_set (digs 18446744073709551616 8 Q) q M2 (by simpa using hq8)
          rw [hb3] at hset
          replace F := And.intro hgM F
          replace F := And.intro hgM2 F
          replace F := And.intro hsl F
          replace F := And.intro hoM F
          replace F := And.intro hd5 F
          replace F := And.intro hQ2 F
          refine run_draw (by kernel_rfl) fun J24 hJ24 => ?_
          refine rp2 0 (k := ?_)
          refine rp2 1 (k := ?_)
          refine rp2 2 (k := ?_)
          refine rp2 3 (k := ?_)
          refine rp2 4 (k := ?_)
          refine rp2 5 (k := ?_)
          refine rp2 6 (k := ?_)
          refine rp2 7 (k := ?_)
          refine rp2 8 (k := ?_)
          refine dop 9 rfl ?_
          repeat (first | simp [F] | simp (disch := omega) only [wC, if_pos, if_neg])
          refine ⟨ln, ?_⟩
          refine dd ?_
          refine hJ24 _ _ ?_
          refine hK13 _ _ ?_
          refine rg' (h := fun J25 hJ25 => ?_)
          refine hJ25 _ _ ?_
          refine ⟨(j), ⟨kp, lp, lp, ?_⟩, lp⟩
          · simp [F]
            exact hset
       try exact nope c30
       all_goals have c30p := c30
       all_goals try simp [F] at c30p
       all_goals
        replace F := And.intro c30 F
        try replace F := And.intro c30p F
        have hcT : T < c := by have h := c30; simp only [decide_eq_false_iff_not] at h; exact cmpI_lt h
        obtain ⟨hd4, hd5⟩ := hd1 hcT
        have hQ2 : x / 2 ^ j / c * 2 ^ j = Q := by rw [hd4, hQ, Nat.pow_succ]; grind
        replace F := And.intro hd5 (And.intro hQ2 F)
        refine run_skip ?_
        refine hK13 _ _ ?_
        refine rg' (h := fun J26 hJ26 => ?_)
        refine hJ26 _ _ ?_
        refine ⟨(j), ⟨kp, lp, lp, lp⟩, lp⟩
   try exact nope c11
   all_goals have c11p := c11
   all_goals try simp [F] at c11p
   all_goals
    replace F := And.intro c11 F
    try replace F := And.intro c11p F
    obtain rfl : n = 0 := by simp at c11; omega
    have e0 : x / 2 ^ 0 / c * 2 ^ 0 = x / c := by simp
    have e1 : x / 2 ^ 0 % c = x % c := by simp
    rw [e0, e1]
    refine run_exit ?_
    refine hK7 _ _ ?_
    refine sq fun K27 hK27 => ?_
    refine run_draw (by kernel_rfl) fun J28 hJ28 => ?_
    refine rp2 0 (k := ?_)
    refine rp2 1 (k := ?_)
    refine dop 2 rfl ?_
    repeat (first | simp [F] | simp (disch := omega) only [wC, if_pos, if_neg])
    refine ⟨by first | exact fun _ _ h => h | (refine later_list [1] (by kernel_rfl) (List.forall_mem_cons.2 ⟨fun _ => fact2 rfl rfl ?_, fun _ h => absurd h List.not_mem_nil⟩) <;> constructor <;> first | rfl | (simp [F]; done)), ?_⟩
    refine dop 3 rfl ?_
    repeat (first | simp [F] | simp (disch := omega) only [wC, if_pos, if_neg])
    refine ⟨ln, ?_⟩
    refine dd ?_
    refine hJ28 _ _ ?_
    refine hK27 _ _ ?_
    refine run_ret ?_
    try simp only [Then, InBlock, NoGoto]
    refine acell22 (h := ?_)
    exact gcr

end Go.Proofs.Ytdbaddholggkbaa
