import Derived.Test.YtdbaddholggkbaaVmU
import Derived.Test.YtdbaddholggkbaaH3
import Derived.Test.YtdbaddholggkbaaVmMS
/-
  The document's numbers: whole products.
-/
namespace Go.Proofs.Ytdbaddholggkbaa
set_option linter.unnecessarySimpa false
set_option maxRecDepth 100000
open Go Go.Vm
set_option linter.unusedSimpArgs false
set_option linter.unusedVariables false


attribute [local simp] evalL wantedA isCall opA evalA evalAll evalsA evalOpt ofValue ofCell plain binA_eql_pn binA_neq_pn binA_gtr binA_lss binA_geq binA_leq binA_add binA_sub binA_eql binA_neq binA_orI binA_andI binA_shl binA_shr binA_mul binA_quo binA_rem binA_agg_eql binA_agg_neq convA_int unA_not fieldAddrA loadA partA pickA_true pickA_false pickA_bb lenA builtinA makeA zeros64 storeA splice readA rowAppA zc64 appendA roomA maxLen AV.cells AV.isCell sliceA boundA intA callOf indexAddrA newObjA buildA fillA zeroA ofCells buildSliceA indexA fieldA numA_len4 numA_take4 numA_drop4 set_appN get_appN take_appN List.getElem?_cons_zero List.getElem?_cons_succ

set_option maxHeartbeats 1600000 in
attribute [local simp] undefA List.getElem?_cons_zero List.getElem?_cons_succ u64s_noObj in
theorem wide_ok {σ : St} {x y : Nat} (hx : x < 2 ^ 256) (hy : y < 2 ^ 256) :
    CallsA Try.prog 120 [.agg (numA x), .agg (numA y)] σ (fun av σ' => av = .sl 1 (u64s (digs 65536 32 (x * y))) 32 .shut ∧ σ = σ') := by
  refine callsA_gcS ?_ (by simp [AV.under, underL, u64s_under])
  have e256 : (65536 : Nat) ^ 16 = 2 ^ 256 := by rw [show (65536 : Nat) = 2 ^ 16 from rfl, ← Nat.pow_mul]
  have hx4 : x < 65536 ^ 16 := by rw [e256]; exact hx
  have hy4 : y < 65536 ^ 16 := by rw [e256]; exact hy
  have F := True.intro
  refine callsA_body Try.func120 rfl rfl rfl ?_
  refine sq fun K1 hK1 => ?_
  refine rg' (h := fun J2 hJ2 => ?_)
  refine hJ2 _ _ ?_
  refine hK1 _ _ ?_
  refine sq fun K3 hK3 => ?_
  refine run_draw (by kernel_rfl) fun J4 hJ4 => ?_
  refine rp2 0 (k := ?_)
  refine rp2 2 (k := ?_)
  refine dc 1 rfl (c := digits_sl) (k := ?_)
  rintro _ _ ⟨rfl, rfl⟩
  refine ⟨by first | exact fun _ _ h => h | (refine later_list [2] (by kernel_rfl) (List.forall_mem_cons.2 ⟨fun _ => fact2 rfl rfl ?_, fun _ h => absurd h List.not_mem_nil⟩) <;> constructor <;> first | rfl | (simp [F]; done)), ?_⟩
  repeat (first | simp [F] | simp (disch := omega) only [wC, if_pos, if_neg])
  refine dc 3 rfl (c := digits_sl) (k := ?_)
  rintro _ _ ⟨rfl, rfl⟩
  refine ⟨ln, ?_⟩
  repeat (first | simp [F] | simp (disch := omega) only [wC, if_pos, if_neg])
  refine rp2 4 (k := ?_)
  refine rp2 5 (k := ?_)
  refine dd ?_
  refine hJ4 _ _ ?_
  refine hK3 _ _ ?_
  refine sq fun K5 hK5 => ?_
  refine rg' (h := fun J6 hJ6 => ?_)
  refine hJ6 _ _ ?_
  refine hK5 _ _ ?_
  refine sq fun K7 hK7 => ?_
  refine sq fun K8 hK8 => ?_
  refine rg' (h := fun J9 hJ9 => ?_)
  refine hJ9 _ _ ?_
  refine hK8 _ _ ?_
  refine run_block_k ?_
  refine run_loopF (X := Nat) [4, 5, 6, 7] (fun i ρ σ1 => (i ≤ 16) ∧ (ρ 8 = .v (.int .i64 i)) ∧ (σ1 = { σ with objs := σ.objs ++ [numA x, numA y], rows := σ.rows ++ [⟨0, u64s (digs 65536 32 ((x % 65536 ^ i) * y)), some 0⟩] })) (fun i => 16 - i) (0) ?st1 ?rd1
  case st1 =>
   refine ⟨lp, lp, ?_⟩
   · simp [Nat.mod_one, digs_zero]
  case rd1 =>
   rintro i ρ1 σ1 hF1 ⟨hi, h8, hσ⟩
   obtain rfl := hσ.symm
   have f1 := keepL hF1
   try simp [KeepL, F] at f1
   replace F := And.intro h8 F
   try replace F := And.intro f1 F
   refine sq fun K10 hK10 => ?_
   refine sq fun K11 hK11 => ?_
   refine rg' (h := fun J12 hJ12 => ?_)
   refine hJ12 _ _ ?_
   refine hK11 _ _ ?_
   refine cs (fun c18 => ?_) (fun c18 => ?_)
   · try exact nope c18
     all_goals have c18p := c18
     all_goals try simp [F] at c18p
     all_goals
      replace F := And.intro c18 F
      try replace F := And.intro c18p F
      refine run_skip ?_
      refine hK10 _ _ ?_
      refine sq fun K13 hK13 => ?_
      refine run_block_k ?_
      refine sq fun K14 hK14 => ?_
      have hi16 : i < 16 := by simp at c18; omega
      have hgx := digU_get (b := 65536) (x := x) hi16
      obtain ⟨X, hX⟩ : ∃ X, X = x / 65536 ^ i % 65536 := ⟨_, rfl⟩
      rw [← hX] at hgx
      obtain ⟨_, hgx2⟩ := List.getElem?_eq_some_iff.1 hgx
      have hi5 : (i : Int) < 16 := by omega
      have hXl : X < 65536 := by rw [hX]; exact Nat.mod_lt _ (by decide)
      have hdx : List.drop i (u64s (digs 65536 16 x)) = .v (.int .u64 X) :: List.drop (i + 1) (u64s (digs 65536 16 x)) := by rw [List.drop_eq_getElem_cons (by simpa using hi16), hgx2]
      replace F := And.intro hgx F
      replace F := And.intro hgx2 F
      replace F := And.intro hdx F
      replace F := And.intro hi16 F
      replace F := And.intro hi5 F
      refine rg' (h := fun J15 hJ15 => ?_)
      refine hJ15 _ _ ?_
      refine hK14 _ _ ?_
      refine sq fun K16 hK16 => ?_
      refine sq fun K17 hK17 => ?_
      refine rg' (h := fun J18 hJ18 => ?_)
      refine hJ18 _ _ ?_
      refine hK17 _ _ ?_
      refine run_block_k ?_
      refine run_loopF (X := TS) [4, 5, 6, 7, 8, 17, 18] (fun q ρ σ1 => (q.k ≤ 16) ∧ (TimesInvH x y i X q.k q.P q.c) ∧ (ρ 9 = .v (.int .u64 q.c)) ∧ (ρ 10 = .v (.int .i64 q.k)) ∧ (σ1 = { σ with objs := σ.objs ++ [numA x, numA y], rows := σ.rows ++ [⟨0, u64s q.P, some 0⟩] })) (fun q => 16 - q.k) (⟨0, digs 65536 32 ((x % 65536 ^ i) * y), 0⟩) ?st2 ?rd2
      case st2 =>
       refine ⟨lp, ?_, lp, lp, ?_⟩
       · exact times_first16 hi hy4
       · rfl
      case rd2 =>
       rintro q ρ2 σ1 hF2 ⟨hk, hT, h9, h10, hσ2⟩
       obtain rfl := hσ2.symm
       have f2 := keepL hF2
       try simp [KeepL, F] at f2
       replace F := And.intro h9 F
       replace F := And.intro h10 F
       try replace F := And.intro f2 F
       refine sq fun K19 hK19 => ?_
       refine sq fun K20 hK20 => ?_
       refine rg' (h := fun J21 hJ21 => ?_)
       refine hJ21 _ _ ?_
       refine hK20 _ _ ?_
       refine cs (fun c22 => ?_) (fun c22 => ?_)
       · try exact nope c22
         all_goals have c22p := c22
         all_goals try simp [F] at c22p
         all_goals
          replace F := And.intro c22 F
          try replace F := And.intro c22p F
          refine run_skip ?_
          refine hK19 _ _ ?_
          refine sq fun K22 hK22 => ?_
          refine run_block_k ?_
          refine sq fun K23 hK23 => ?_
          have hk16 : q.k < 16 := by simp at c22; omega
          have hgy := digU_get (b := 65536) (x := y) hk16
          obtain ⟨Y, hY⟩ : ∃ Y, Y = y / 65536 ^ q.k % 65536 := ⟨_, rfl⟩
          rw [← hY] at hgy
          obtain ⟨_, hgy2⟩ := List.getElem?_eq_some_iff.1 hgy
          have hk5 : (q.k : Int) < 16 := by omega
          have hYl : Y < 65536 := by rw [hY]; exact Nat.mod_lt _ (by decide)
          have hdy : List.drop q.k (u64s (digs 65536 16 y)) = .v (.int .u64 Y) :: List.drop (q.k + 1) (u64s (digs 65536 16 y)) := by rw [List.drop_eq_getElem_cons (by simpa using hk16), hgy2]
          have hPl := hT.1
          obtain ⟨p, hp⟩ : ∃ p, q.P[i + q.k]? = some p := ⟨_, List.getElem?_eq_getElem (by omega)⟩
          have hp2 := (List.getElem?_eq_some_iff.1 hp).2
          have hgp : (u64s q.P)[i + q.k]? = some (.v (.int .u64 p)) := u64s_get_of hp
          obtain ⟨_, hgp2⟩ := List.getElem?_eq_some_iff.1 hgp
          have hpl : p < 65536 := hT.2.1 p (List.mem_of_getElem? hp)
          have hcl := hT.2.2.1
          have htn : ((i : Int) + (q.k : Int)).toNat = i + q.k := by omega
          obtain ⟨M, hM⟩ : ∃ M, M = X * Y := ⟨_, rfl⟩
          have hMl : M ≤ 65535 * 65535 := by rw [hM]; exact Nat.mul_le_mul (by omega) (by omega)
          have hMw : IntKind.u64.wrap ((X : Int) * Y) = (M : Int) := by rw [wrapM, ← hM, Nat.mod_eq_of_lt (by omega)]
          obtain ⟨n, hn⟩ : ∃ n, n = M + p + q.c := ⟨_, rfl⟩
          have hne : (p : Int) + M + q.c = (n : Int) := by omega
          obtain ⟨m, hm⟩ : ∃ m, m = n % 65536 := ⟨_, rfl⟩
          obtain ⟨v, hv⟩ : ∃ v, v = n / 65536 := ⟨_, rfl⟩
          have hn6 : (n : Int).tmod 65536 = (m : Int) := by rw [Int.tmod_eq_emod_of_nonneg (by omega)]; omega
          have hn7 : (n : Int).tdiv 65536 = (v : Int) := by rw [Int.tdiv_eq_ediv_of_nonneg (by omega)]; omega
          have hn8 : (n : Int) % 65536 = (m : Int) := by omega
          have hn9 : (n : Int) / 65536 = (v : Int) := by omega
          have hib : (i : Int) + q.k < 32 := by omega
          have hib2 : (0 : Int) ≤ (i : Int) + q.k := by omega
          have hib3 : i + q.k < 32 := by omega
          have hset := u64s_set q.P (i + q.k) m (by omega)
          replace F := And.intro hgy F
          replace F := And.intro hgy2 F
          replace F := And.intro hdy F
          replace F := And.intro hk16 F
          replace F := And.intro hk5 F
          replace F := And.intro hgp F
          replace F := And.intro hgp2 F
          replace F := And.intro htn F
          replace F := And.intro hPl F
          replace F := And.intro hib F
          replace F := And.intro hib2 F
          replace F := And.intro hib3 F
          replace F := And.intro hMw F
          replace F := And.intro hne F
          replace F := And.intro hn6 F
          replace F := And.intro hn7 F
          replace F := And.intro hn8 F
          replace F := And.intro hn9 F
          refine run_draw (by kernel_rfl) fun J24 hJ24 => ?_
          refine rp2 0 (k := ?_)
          refine rp2 1 (k := ?_)
          refine rp2 2 (k := ?_)
          refine rp2 3 (k := ?_)
          refine rp2 4 (k := ?_)
          refine rp2 5 (k := ?_)
          refine rp2 6 (k := ?_)
          refine rp2 7 (k := ?_)
          refine rp2 8 (k := ?_)
          refine rp2 9 (k := ?_)
          refine rp2 10 (k := ?_)
          refine rp2 11 (k := ?_)
          refine rp2 12 (k := ?_)
          refine rp2 13 (k := ?_)
          refine rp2 14 (k := ?_)
          refine rp2 15 (k := ?_)
          refine rp2 16 (k := ?_)
          refine rp2 17 (k := ?_)
          refine rp2 18 (k := ?_)
          refine dd ?_
          refine hJ24 _ _ ?_
          refine hK23 _ _ ?_
          refine sq fun K25 hK25 => ?_
          refine rg' (h := fun J26 hJ26 => ?_)
          refine hJ26 _ _ ?_
          refine hK25 _ _ ?_
          refine rg' (h := fun J27 hJ27 => ?_)
          refine hJ27 _ _ ?_
          refine hK22 _ _ ?_
          refine rg' (h := fun J28 hJ28 => ?_)
          refine hJ28 _ _ ?_
          refine ⟨(⟨q.k + 1, q.P.set (i + q.k) m, v⟩), ⟨kp, lp, ?_, lp, lp, ?_⟩, lp⟩
          · exact times_next16 (s := m) (c' := v) hT hi16 hk16 hXl hp hY.symm (by omega) (by omega)
          · simp [F, hset]
       try exact nope c22
       all_goals have c22p := c22
       all_goals try simp [F] at c22p
       all_goals
        replace F := And.intro c22 F
        try replace F := And.intro c22p F
        have hk16 : q.k = 16 := by simp at c22; omega
        rw [hk16] at hT
        have hlast := times_last16 hT hi16 hX.symm hy4
        have hPl := hT.1
        have hcl := hT.2.2.1
        have hset := u64s_set q.P (i + 16) q.c (by omega)
        have hgp : (u64s q.P)[i + 16]? = some (.v (.int .u64 (0 : Nat))) := u64s_get_of (times_zero16 hT hi16 hy4)
        obtain ⟨_, hgp2⟩ := List.getElem?_eq_some_iff.1 hgp
        have hib : (i : Int) + 16 < 32 := by omega
        have hib3 : i + 16 < 32 := by omega
        have htn : ((i : Int) + 16).toNat = i + 16 := by omega
        have hib2 : (0 : Int) ≤ (i : Int) + 16 := by omega
        rw [hlast] at hset
        replace F := And.intro hib (And.intro hib3 (And.intro htn (And.intro hib2 (And.intro hPl (And.intro hgp (And.intro hgp2 F))))))
        refine run_exit ?_
        refine hK16 _ _ ?_
        refine rg' (h := fun J29 hJ29 => ?_)
        refine hJ29 _ _ ?_
        refine hK13 _ _ ?_
        refine rg' (h := fun J30 hJ30 => ?_)
        refine hJ30 _ _ ?_
        refine ⟨(i + 1), ⟨kp, lp, lp, ?_⟩, lp⟩
        · simp [F, hset]
   try exact nope c18
   all_goals have c18p := c18
   all_goals try simp [F] at c18p
   all_goals
    replace F := And.intro c18 F
    try replace F := And.intro c18p F
    obtain rfl : i = 16 := by simp at c18; omega
    have hxm : x % 65536 ^ 16 = x := Nat.mod_eq_of_lt hx4
    rw [hxm]
    refine run_exit ?_
    refine hK7 _ _ ?_
    refine sq fun K31 hK31 => ?_
    refine run_fz 7 1 (k := ?_)
    refine rg' (h := fun J32 hJ32 => ?_)
    refine hJ32 _ _ ?_
    refine hK31 _ _ ?_
    refine run_ret ?_
    try simp only [Then, InBlock, NoGoto]
    refine answer_tmp rfl (.inr rfl) ?_
    exact gcr

end Go.Proofs.Ytdbaddholggkbaa
