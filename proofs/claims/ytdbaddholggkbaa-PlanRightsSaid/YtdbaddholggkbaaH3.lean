import Derived.Test.YtdbaddholggkbaaVmU
import Derived.Test.YtdbaddholggkbaaH2
import Derived.Test.YtdbaddholggkbaaVmMS
/-
  The document's numbers: sums, rests.
-/
namespace Go.Proofs.Ytdbaddholggkbaa
set_option linter.unnecessarySimpa false
set_option maxRecDepth 100000
open Go Go.Vm
set_option linter.unusedSimpArgs false
set_option linter.unusedVariables false


attribute [local simp] evalL wantedA isCall opA evalA evalAll evalsA evalOpt ofValue ofCell plain binA_eql_pn binA_neq_pn binA_gtr binA_lss binA_geq binA_leq binA_add binA_sub binA_eql binA_neq binA_orI binA_andI binA_shl binA_shr binA_mul binA_quo binA_rem binA_agg_eql binA_agg_neq convA_int unA_not fieldAddrA loadA partA pickA_true pickA_false pickA_bb lenA builtinA storeA splice readA rowAppA zc64 appendA roomA maxLen AV.cells AV.isCell sliceA boundA intA callOf indexAddrA newObjA buildA fillA zeroA ofCells buildSliceA indexA fieldA numA_len4 numA_take4 numA_drop4 set_appN get_appN take_appN List.getElem?_cons_zero List.getElem?_cons_succ

theorem valD_whole (b n V : Nat) : valD b (digs b n V ++ [V / b ^ n]) = V := by
  rw [valD_snoc, valD_digs, digs_len, Nat.mod_add_div]

set_option maxHeartbeats 1600000 in
attribute [local simp] undefA List.getElem?_cons_zero List.getElem?_cons_succ u64s_noObj in
theorem radd_ok {σ : St} {x y : Nat} (hx : x < 2 ^ 256) (hy : y < 2 ^ 256) :
    CallsA Try.prog 77 [.agg (numA x), .agg (numA y)] σ (fun av σ' => av = .tup [.agg (numA (addN x y)), .v (.bool (decide (x + y < 2 ^ 256)))] ∧ σ = σ') := by
  refine callsA_gcS ?_ (by simp [AV.under, underL, numA])
  have e256 : (65536 : Nat) ^ 16 = 2 ^ 256 := by rw [show (65536 : Nat) = 2 ^ 16 from rfl, ← Nat.pow_mul]
  have hx4 : x < 65536 ^ 16 := by rw [e256]; exact hx
  have hy4 : y < 65536 ^ 16 := by rw [e256]; exact hy
  obtain ⟨X, hX⟩ : ∃ X, X = digs 65536 16 x := ⟨_, rfl⟩
  obtain ⟨Y, hY⟩ : ∃ Y, Y = digs 65536 16 y := ⟨_, rfl⟩
  have hXl : X.length = 16 := by rw [hX]; simp
  have hYl : Y.length = 16 := by rw [hY]; simp
  have hXm : ∀ d ∈ X, d < 65536 := by rw [hX]; exact digs_lt (by decide)
  have hYm : ∀ d ∈ Y, d < 65536 := by rw [hY]; exact digs_lt (by decide)
  have hXY : X.length = Y.length := by omega
  have hvs : valD 65536 (addm X Y 16) = x + y := by
    rw [show 16 = X.length by omega, addm_all hXY, valD_zip _ _ _ hXY, hX, hY, valD_digs, valD_digs, Nat.mod_eq_of_lt hx4, Nat.mod_eq_of_lt hy4]
  have F := True.intro
  refine callsA_body Try.func77 rfl rfl rfl ?_
  refine sq fun K1 hK1 => ?_
  refine rg' (h := fun J2 hJ2 => ?_)
  refine hJ2 _ _ ?_
  refine hK1 _ _ ?_
  refine sq fun K3 hK3 => ?_
  refine run_draw (by kernel_rfl) fun J4 hJ4 => ?_
  refine rp2 0 (k := ?_)
  refine rp2 2 (k := ?_)
  refine dc 1 rfl (c := digits_ok (x := x)) (k := ?_)
  rintro _ _ ⟨rfl, rfl⟩
  refine ⟨by first | exact fun _ _ h => h | (refine later_list [2] (by kernel_rfl) (List.forall_mem_cons.2 ⟨fun _ => fact2 rfl rfl ?_, fun _ h => absurd h List.not_mem_nil⟩) <;> constructor <;> first | rfl | (simp [F]; done)), ?_⟩
  repeat (first | simp [F] | simp (disch := omega) only [wC, if_pos, if_neg])
  refine dc 3 rfl (c := digits_sl (x := y)) (k := ?_)
  rintro _ _ ⟨rfl, rfl⟩
  refine ⟨ln, ?_⟩
  repeat (first | simp [F] | simp (disch := omega) only [wC, if_pos, if_neg])
  refine rp2 4 (k := ?_)
  refine rp2 5 (k := ?_)
  refine dd ?_
  refine hJ4 _ _ ?_
  refine hK3 _ _ ?_
  refine sq fun K5 hK5 => ?_
  refine sq fun K6 hK6 => ?_
  refine rg' (h := fun J7 hJ7 => ?_)
  refine hJ7 _ _ ?_
  refine hK6 _ _ ?_
  refine run_block_k ?_
  refine run_loopF (X := Nat) [4, 5, 6, 7] (fun i ρ σ1 => (i ≤ 16) ∧ (ρ 8 = .v (.int .i64 i)) ∧ (σ1 = { σ with objs := σ.objs ++ [numA x, numA y, numA 0], rows := σ.rows ++ [⟨16, u64s (addm X Y i), none⟩] })) (fun i => 16 - i) (0) ?st1 ?rd1
  case st1 =>
   refine ⟨lp, lp, ?_⟩
   · rw [addm_zero, hX]; simp [numA_zero4]
  case rd1 =>
   rintro i ρ1 σ1 hF1 ⟨hi, h8, hσ⟩
   obtain rfl := hσ.symm
   have f1 := keepL hF1
   try simp [KeepL, F] at f1
   replace F := And.intro h8 F
   try replace F := And.intro f1 F
   refine sq fun K8 hK8 => ?_
   refine sq fun K9 hK9 => ?_
   refine rg' (h := fun J10 hJ10 => ?_)
   refine hJ10 _ _ ?_
   refine hK9 _ _ ?_
   refine cs (fun c14 => ?_) (fun c14 => ?_)
   · try exact nope c14
     all_goals have c14p := c14
     all_goals try simp [F] at c14p
     all_goals
      replace F := And.intro c14 F
      try replace F := And.intro c14p F
      refine run_skip ?_
      refine hK8 _ _ ?_
      refine sq fun K11 hK11 => ?_
      refine run_block_k ?_
      have hi16 : i < 16 := by simp at c14; omega
      obtain ⟨p, hp⟩ : ∃ p, p = X[i] := ⟨_, rfl⟩
      obtain ⟨q, hq⟩ : ∃ q, q = Y[i] := ⟨_, rfl⟩
      have hgx : (u64s (addm X Y i))[i]? = some (.v (.int .u64 p)) := by rw [hp]; exact u64s_get_of (addm_get hXY (by omega))
      have hgy : (u64s (digs 65536 16 y))[i]? = some (.v (.int .u64 q)) := by rw [← hY, hq]; exact u64s_get_of (List.getElem?_eq_getElem (by omega))
      obtain ⟨_, hgx2⟩ := List.getElem?_eq_some_iff.1 hgx
      obtain ⟨_, hgy2⟩ := List.getElem?_eq_some_iff.1 hgy
      have hdy : List.drop i (u64s (digs 65536 16 y)) = .v (.int .u64 q) :: List.drop (i + 1) (u64s (digs 65536 16 y)) := by rw [List.drop_eq_getElem_cons (by simpa using hi16), hgy2]
      have hpl : p < 65536 := by rw [hp]; exact hXm _ (List.getElem_mem _)
      have hql : q < 65536 := by rw [hq]; exact hYm _ (List.getElem_mem _)
      have hal := addm_len hXY (show i ≤ X.length by omega)
      rw [hXl] at hal
      obtain ⟨s, hs⟩ : ∃ s, s = p + q := ⟨_, rfl⟩
      have hsw : IntKind.u64.wrap ((p : Int) + q) = (s : Int) := by rw [show (p : Int) + q = (s : Int) by omega]; exact wrapN (by omega)
      have hset := u64s_set (addm X Y i) i s (by omega)
      rw [hs, hp, hq, addm_set hXY (by omega), ← hp, ← hq, ← hs] at hset
      have hii : (i : Int) < 16 := by omega
      replace F := And.intro hgx F
      replace F := And.intro hgy F
      replace F := And.intro hgx2 F
      replace F := And.intro hgy2 F
      replace F := And.intro hdy F
      replace F := And.intro hal F
      replace F := And.intro hsw F
      replace F := And.intro hi16 F
      replace F := And.intro hii F
      refine run_draw (by kernel_rfl) fun J12 hJ12 => ?_
      refine rp2 0 (k := ?_)
      refine rp2 1 (k := ?_)
      refine rp2 2 (k := ?_)
      refine rp2 3 (k := ?_)
      refine rp2 4 (k := ?_)
      refine rp2 5 (k := ?_)
      refine rp2 6 (k := ?_)
      refine rp2 7 (k := ?_)
      refine rp2 8 (k := ?_)
      refine rp2 9 (k := ?_)
      refine dop 10 rfl ?_
      repeat (first | simp [F] | simp (disch := omega) only [wC, if_pos, if_neg])
      refine ⟨ln, ?_⟩
      refine dd ?_
      refine hJ12 _ _ ?_
      refine hK11 _ _ ?_
      refine rg' (h := fun J13 hJ13 => ?_)
      refine hJ13 _ _ ?_
      refine ⟨(i + 1), ⟨kp, lp, lp, ?_⟩, lp⟩
      · simp [F, hset]
   try exact nope c14
   all_goals have c14p := c14
   all_goals try simp [F] at c14p
   all_goals
    replace F := And.intro c14 F
    try replace F := And.intro c14p F
    obtain rfl : i = 16 := by simp at c14; omega
    have hal := addm_len hXY (show 16 ≤ X.length by omega)
    rw [hXl] at hal
    have hsm : ∀ d ∈ addm X Y 16, d ≤ 4611686018427387904 := by rw [show addm X Y 16 = List.zipWith (· + ·) X Y by rw [← addm_all hXY, hXl]]; intro d hd; have := zip_le hXm hYm d hd; omega
    refine run_exit ?_
    refine hK5 _ _ ?_
    refine sq fun K14 hK14 => ?_
    refine rg' (h := fun J15 hJ15 => ?_)
    refine ca (c := carry_ok (k := σ.rows.length) (g := 16) (n := 16) (L := addm X Y 16) (by simp) hal (by omega) hsm) (k := ?_)
    rintro _ _ ⟨rfl, rfl⟩
    rw [hvs]
    repeat (first | simp [F] | simp (disch := omega) only [wC, if_pos, if_neg])
    refine runL_fz 28 1 (k := ?_)
    refine ca (c := rof_ok (L := digs 65536 16 (x + y) ++ [(x + y) / 65536 ^ 16]) (n := 17) (by simp) (by omega) (by omega) (by rw [List.take_append_of_le_length (by simp), List.take_of_length_le (by simp)]; exact digs_lt (by decide))) (k := ?_)
    rintro _ _ ⟨rfl, rfl⟩
    rw [valD_whole]
    have hN : (if x + y < 2 ^ 256 then x + y else 0) = addN x y := rfl
    rw [hN]
    repeat (first | simp [F] | simp (disch := omega) only [wC, if_pos, if_neg])
    refine hJ15 _ _ ?_
    refine hK14 _ _ ?_
    refine run_ret ?_
    try simp only [Then, InBlock, NoGoto]
    refine acell2 (h := ?_)
    exact gcr

set_option maxHeartbeats 1600000 in
attribute [local simp] undefA List.getElem?_cons_zero List.getElem?_cons_succ u64s_noObj in
theorem rrest_ok {σ : St} {x y : Nat} (hx : x < 2 ^ 256) (hy : y < 2 ^ 256) :
    CallsA Try.prog 126 [.agg (numA x), .agg (numA y)] σ (fun av σ' => av = .agg (numA (x - y)) ∧ σ = σ') := by
  refine callsA_gcS ?_ (by simp [AV.under, underL, numA])
  have e256 : (65536 : Nat) ^ 16 = 2 ^ 256 := by rw [show (65536 : Nat) = 2 ^ 16 from rfl, ← Nat.pow_mul]
  have hx4 : x < 65536 ^ 16 := by rw [e256]; exact hx
  have hy4 : y < 65536 ^ 16 := by rw [e256]; exact hy
  obtain ⟨s4, hs4⟩ : ∃ s4, s4 = x + 65536 ^ 16 - y := ⟨_, rfl⟩
  have F := True.intro
  refine callsA_body Try.func126 rfl rfl rfl ?_
  refine sq fun K1 hK1 => ?_
  refine rg' (h := fun J2 hJ2 => ?_)
  refine hJ2 _ _ ?_
  refine hK1 _ _ ?_
  refine sq fun K3 hK3 => ?_
  refine sq fun K4 hK4 => ?_
  refine rg' (h := fun J5 hJ5 => ?_)
  refine ca (c := rcmp_ok hx hy) (k := ?_)
  rintro _ _ ⟨rfl, rfl⟩
  repeat (first | simp [F] | simp (disch := omega) only [wC, if_pos, if_neg])
  refine hJ5 _ _ ?_
  refine hK4 _ _ ?_
  refine cs (fun c15 => ?_) (fun c15 => ?_)
  · try exact nope c15
    all_goals have c15p := c15
    all_goals try simp [F] at c15p
    all_goals
     replace F := And.intro c15 F
     try replace F := And.intro c15p F
     have h0 : x - y = 0 := by have h := c15; simp only [decide_eq_true_eq] at h; unfold cmpI at h; split at h <;> first | omega | (split at h <;> omega)
     replace F := And.intro h0 (And.intro numA_zero4 F)
     refine sq fun K6 hK6 => ?_
     refine rg' (h := fun J7 hJ7 => ?_)
     refine hJ7 _ _ ?_
     refine hK6 _ _ ?_
     refine run_ret ?_
     try simp only [Then, InBlock, NoGoto]
     refine acell (h := ?_)
     exact gcr
  try exact nope c15
  all_goals have c15p := c15
  all_goals try simp [F] at c15p
  all_goals
   replace F := And.intro c15 F
   try replace F := And.intro c15p F
   have hyx : y < x := by have h := c15; simp only [decide_eq_false_iff_not] at h; unfold cmpI at h; split at h <;> first | omega | (split at h <;> omega)
   refine run_skip ?_
   refine hK3 _ _ ?_
   refine sq fun K8 hK8 => ?_
   refine run_draw (by kernel_rfl) fun J9 hJ9 => ?_
   refine rp2 0 (k := ?_)
   refine rp2 2 (k := ?_)
   refine dc 1 rfl (c := digits_ok (x := x)) (k := ?_)
   rintro _ _ ⟨rfl, rfl⟩
   refine ⟨by first | exact fun _ _ h => h | (refine later_list [2] (by kernel_rfl) (List.forall_mem_cons.2 ⟨fun _ => fact2 rfl rfl ?_, fun _ h => absurd h List.not_mem_nil⟩) <;> constructor <;> first | rfl | (simp [F]; done)), ?_⟩
   repeat (first | simp [F] | simp (disch := omega) only [wC, if_pos, if_neg])
   refine dc 3 rfl (c := digits_sl (x := y)) (k := ?_)
   rintro _ _ ⟨rfl, rfl⟩
   refine ⟨ln, ?_⟩
   repeat (first | simp [F] | simp (disch := omega) only [wC, if_pos, if_neg])
   refine rp2 4 (k := ?_)
   refine rp2 5 (k := ?_)
   refine dd ?_
   refine hJ9 _ _ ?_
   refine hK8 _ _ ?_
   refine sq fun K10 hK10 => ?_
   refine rg' (h := fun J11 hJ11 => ?_)
   refine hJ11 _ _ ?_
   refine hK10 _ _ ?_
   refine sq fun K12 hK12 => ?_
   refine sq fun K13 hK13 => ?_
   refine rg' (h := fun J14 hJ14 => ?_)
   refine hJ14 _ _ ?_
   refine hK13 _ _ ?_
   refine run_block_k ?_
   refine run_loopF (X := Nat) [4, 5, 6] (fun i ρ σ1 => (i ≤ 16) ∧ (ρ 7 = .v (.int .u64 (subb 65536 x y i : Nat))) ∧ (ρ 8 = .v (.int .i64 i)) ∧ (σ1 = { σ with objs := σ.objs ++ [numA x, numA y, numA 0], rows := σ.rows ++ [⟨16, u64s (mix 65536 16 i s4 x), none⟩] })) (fun i => 16 - i) (0) ?st1 ?rd1
   case st1 =>
    refine ⟨lp, ?_, lp, ?_⟩
    · simp [subb_zero]
    · rw [mix_zero]; simp [numA_zero4]
   case rd1 =>
    rintro i ρ1 σ1 hF1 ⟨hi, h7, h8, hσ⟩
    obtain rfl := hσ.symm
    have f1 := keepL hF1
    try simp [KeepL, F] at f1
    replace F := And.intro h7 F
    replace F := And.intro h8 F
    try replace F := And.intro f1 F
    refine sq fun K15 hK15 => ?_
    refine sq fun K16 hK16 => ?_
    refine rg' (h := fun J17 hJ17 => ?_)
    refine hJ17 _ _ ?_
    refine hK16 _ _ ?_
    refine cs (fun c22 => ?_) (fun c22 => ?_)
    · try exact nope c22
      all_goals have c22p := c22
      all_goals try simp [F] at c22p
      all_goals
       replace F := And.intro c22 F
       try replace F := And.intro c22p F
       refine run_skip ?_
       refine hK15 _ _ ?_
       refine sq fun K18 hK18 => ?_
       refine run_block_k ?_
       refine sq fun K19 hK19 => ?_
       have hi16 : i < 16 := by simp at c22; omega
       have hgx := mixU_get (b := 65536) (s := s4) (x := x) hi16
       have hgy := digU_get (b := 65536) (x := y) hi16
       have hml := mix_len (b := 65536) (s := s4) (x := x) (Nat.le_of_lt hi16)
       obtain ⟨p, hp⟩ : ∃ p, p = x / 65536 ^ i % 65536 := ⟨_, rfl⟩
       obtain ⟨q, hq⟩ : ∃ q, q = y / 65536 ^ i % 65536 := ⟨_, rfl⟩
       rw [← hp] at hgx
       rw [← hq] at hgy
       obtain ⟨_, hgx2⟩ := List.getElem?_eq_some_iff.1 hgx
       obtain ⟨_, hgy2⟩ := List.getElem?_eq_some_iff.1 hgy
       have hii : (i : Int) < 16 := by omega
       have hdy : List.drop i (u64s (digs 65536 16 y)) = .v (.int .u64 q) :: List.drop (i + 1) (u64s (digs 65536 16 y)) := by rw [List.drop_eq_getElem_cons (by simpa using hi16), hgy2]
       have hpl : p < 65536 := by rw [hp]; exact Nat.mod_lt _ (by decide)
       have hql : q < 65536 := by rw [hq]; exact Nat.mod_lt _ (by decide)
       obtain ⟨c, hc⟩ : ∃ c, c = subb 65536 x y i := ⟨_, rfl⟩
       have hcl : c ≤ 1 := by rw [hc]; exact subb_le _ _ _ _
       rw [← hc] at h7 F
       obtain ⟨n, hn⟩ : ∃ n, n = p + 65536 - q - c := ⟨_, rfl⟩
       have hne : (p : Int) + 65536 - q - c = (n : Int) := by omega
       obtain ⟨m, hm⟩ : ∃ m, m = n % 65536 := ⟨_, rfl⟩
       obtain ⟨v, hv⟩ : ∃ v, v = n / 65536 := ⟨_, rfl⟩
       obtain ⟨c2, hc2⟩ : ∃ c2, c2 = 1 - v := ⟨_, rfl⟩
       have hv1 : v ≤ 1 := by omega
       have hn6 : (n : Int).tmod 65536 = (m : Int) := by rw [Int.tmod_eq_emod_of_nonneg (by omega)]; omega
       have hn7 : (n : Int).tdiv 65536 = (v : Int) := by rw [Int.tdiv_eq_ediv_of_nonneg (by omega)]; omega
       have hn8 : (n : Int) % 65536 = (m : Int) := by omega
       have hn9 : (n : Int) / 65536 = (v : Int) := by omega
       have hw2 : IntKind.u64.wrap (1 - (v : Int)) = (c2 : Int) := by rw [wrap_u64c (by omega)]; omega
       have hdg : m = s4 / 65536 ^ i % 65536 := by rw [hm, hn, hs4, hp, hq, hc]; exact subb_dig (by decide) hi16 hx4 hy4
       have hc3 : c2 = subb 65536 x y (i + 1) := by rw [← subb_next (by decide), ← hp, ← hq, ← hc]; split <;> omega
       have hset := mixU_set (b := 65536) (s := s4) (x := x) hi16
       rw [← hdg] at hset
       replace F := And.intro hgx F
       replace F := And.intro hgy F
       replace F := And.intro hgx2 F
       replace F := And.intro hgy2 F
       replace F := And.intro hdy F
       replace F := And.intro hml F
       replace F := And.intro hne F
       replace F := And.intro hn6 F
       replace F := And.intro hn7 F
       replace F := And.intro hn8 F
       replace F := And.intro hn9 F
       replace F := And.intro hw2 F
       replace F := And.intro hi16 F
       replace F := And.intro hii F
       refine run_draw (by kernel_rfl) fun J20 hJ20 => ?_
       refine rp2 0 (k := ?_)
       refine rp2 1 (k := ?_)
       refine rp2 2 (k := ?_)
       refine rp2 3 (k := ?_)
       refine rp2 4 (k := ?_)
       refine rp2 5 (k := ?_)
       refine rp2 6 (k := ?_)
       refine rp2 7 (k := ?_)
       refine rp2 8 (k := ?_)
       refine rp2 9 (k := ?_)
       refine rp2 10 (k := ?_)
       refine rp2 11 (k := ?_)
       refine rp2 12 (k := ?_)
       refine dd ?_
       refine hJ20 _ _ ?_
       refine hK19 _ _ ?_
       refine sq fun K21 hK21 => ?_
       refine rg' (h := fun J22 hJ22 => ?_)
       refine hJ22 _ _ ?_
       refine hK21 _ _ ?_
       refine rg' (h := fun J23 hJ23 => ?_)
       refine hJ23 _ _ ?_
       refine hK18 _ _ ?_
       refine rg' (h := fun J24 hJ24 => ?_)
       refine hJ24 _ _ ?_
       refine ⟨(i + 1), ⟨kp, lp, ?_, lp, ?_⟩, lp⟩
       · simp only [putA_get]
         repeat (first | simp [F] | simp (disch := omega) only [wC, if_pos, if_neg])
         rw [← hc3]
         omega
       · simp [F, hset]
    try exact nope c22
    all_goals have c22p := c22
    all_goals try simp [F] at c22p
    all_goals
     replace F := And.intro c22 F
     try replace F := And.intro c22p F
     obtain rfl : i = 16 := by simp at c22; omega
     rw [mix_all]
     refine run_fz 5 1 (k := ?_)
     refine run_exit ?_
     refine hK12 _ _ ?_
     refine sq fun K25 hK25 => ?_
     have hv : valD 65536 (digs 65536 16 s4) = x - y := by rw [valD_digs, hs4, show x + 65536 ^ 16 - y = (x - y) + 65536 ^ 16 by omega, Nat.add_mod_right, Nat.mod_eq_of_lt (by omega)]
     refine rg' (h := fun J26 hJ26 => ?_)
     refine ca (c := rof_ok (L := digs 65536 16 s4) (n := 16) (by simp) (by omega) (by omega) (by rw [List.take_of_length_le (by simp)]; exact digs_lt (by decide))) (k := ?_)
     rintro _ _ ⟨rfl, rfl⟩
     rw [hv]
     have hfit : x - y < 2 ^ 256 := by omega
     rw [if_pos hfit]
     repeat (first | simp [F] | simp (disch := omega) only [wC, if_pos, if_neg])
     refine hJ26 _ _ ?_
     refine hK25 _ _ ?_
     refine sq fun K27 hK27 => ?_
     refine rg' (h := fun J28 hJ28 => ?_)
     refine hJ28 _ _ ?_
     refine hK27 _ _ ?_
     refine run_ret ?_
     try simp only [Then, InBlock, NoGoto]
     refine acell (h := ?_)
     exact gcr

end Go.Proofs.Ytdbaddholggkbaa
