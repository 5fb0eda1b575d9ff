import Derived.Test.YtdbaddholggkbaaVmU
import Derived.Test.YtdbaddholggkbaaG3
/-
  Numbers: whole products.
-/
namespace Go.Proofs.Ytdbaddholggkbaa
set_option linter.unnecessarySimpa false
set_option maxRecDepth 100000
open Go Go.Vm
set_option linter.unusedSimpArgs false
set_option linter.unusedVariables false

attribute [local simp] evalL wantedA isCall opA evalA evalAll evalsA evalOpt ofValue ofCell plain binA_eql_pn binA_neq_pn binA_gtr binA_lss binA_geq binA_leq binA_add binA_sub binA_eql binA_neq binA_or binA_and binA_shl binA_shr binA_mul binA_quo binA_rem binA_agg_eql binA_agg_neq convA_int unA_not fieldAddrA loadA partA pickA_true pickA_false pickA_bb lenA builtinA storeA splice AV.cells AV.isCell sliceA boundA intA callOf indexAddrA newObjA buildA fillA zeroA ofCells buildSliceA indexA fieldA numA_len4 numA_take4 numA_drop4 List.getElem?_cons_zero List.getElem?_cons_succ

structure TS where
  k : Nat
  P : List Nat
  c : Nat

set_option maxHeartbeats 1600000 in
attribute [local simp] undefA List.getElem?_cons_zero List.getElem?_cons_succ prodA_take8 prodA_drop8 prodA_len in
theorem times_ok {σ : St} {x y : Nat} (hx : x < 2 ^ 256) (hy : y < 2 ^ 256) :
    CallsA Try.prog 115 [.agg (numA x), .agg (numA y)] σ (fun av σ' => av = .agg (prodA (x * y)) ∧ σ = σ') := by
  refine callsA_gcS ?_ (by simp [AV.under, underL, prodA, u64s_under])
  have hx4 : x < 18446744073709551616 ^ 4 := hx
  have hy4 : y < 18446744073709551616 ^ 4 := hy
  have F := True.intro
  refine callsA_body Try.func115 rfl rfl rfl ?_
  refine sq fun K1 hK1 => ?_
  refine rg' (h := fun J2 hJ2 => ?_)
  refine hJ2 _ _ ?_
  refine hK1 _ _ ?_
  refine sq fun K3 hK3 => ?_
  refine rg' (h := fun J4 hJ4 => ?_)
  refine hJ4 _ _ ?_
  refine hK3 _ _ ?_
  refine sq fun K5 hK5 => ?_
  refine sq fun K6 hK6 => ?_
  refine rg' (h := fun J7 hJ7 => ?_)
  refine hJ7 _ _ ?_
  refine hK6 _ _ ?_
  refine run_block_k ?_
  refine run_loopF (X := Nat) [3, 4, 5, 14] (fun i ρ σ1 => (i ≤ 4) ∧ (ρ 15 = .v (.int .i64 i)) ∧ (σ1 = { σ with objs := σ.objs ++ [numA x, numA y, prodA 0, prodA ((x % 18446744073709551616 ^ i) * y)] })) (fun i => 4 - i) (0) ?st1 ?rd1
  case st1 =>
   refine ⟨lp, lp, ?_⟩
   · simp [Nat.mod_one, prodA_zero]
  case rd1 =>
   rintro i ρ1 σ1 hF1 ⟨hi, h15, hσ⟩
   obtain rfl := hσ.symm
   have f1 := keepL hF1
   try simp [KeepL, F] at f1
   replace F := And.intro h15 F
   try replace F := And.intro f1 F
   refine sq fun K8 hK8 => ?_
   refine rg' (h := fun J9 hJ9 => ?_)
   refine hJ9 _ _ ?_
   refine hK8 _ _ ?_
   refine sq fun K10 hK10 => ?_
   refine cs (fun c16 => ?_) (fun c16 => ?_)
   · try exact nope c16
     all_goals have c16p := c16
     all_goals try simp [F] at c16p
     all_goals
      replace F := And.intro c16 F
      try replace F := And.intro c16p F
      refine run_skip ?_
      refine hK10 _ _ ?_
      refine sq fun K11 hK11 => ?_
      refine run_block_k ?_
      refine sq fun K12 hK12 => ?_
      have hi4 : i < 4 := by simp at c16; omega
      have hgx : (numA x)[i]? = some (.v (.int .u64 (x / 18446744073709551616 ^ i % 18446744073709551616 : Nat))) := by rw [numA_digs]; exact digU_get hi4
      generalize hX : x / 18446744073709551616 ^ i % 18446744073709551616 = X at hgx
      obtain ⟨_, hgx2⟩ := List.getElem?_eq_some_iff.1 hgx
      have hi5 : (i : Int) < 4 := by omega
      have hXl : X < 18446744073709551616 := by rw [← hX]; exact Nat.mod_lt _ (by decide)
      replace F := And.intro hgx F
      replace F := And.intro hgx2 F
      replace F := And.intro hi4 F
      replace F := And.intro hi5 F
      refine rg' (h := fun J13 hJ13 => ?_)
      refine hJ13 _ _ ?_
      refine hK12 _ _ ?_
      refine sq fun K14 hK14 => ?_
      refine rg' (h := fun J15 hJ15 => ?_)
      refine hJ15 _ _ ?_
      refine hK14 _ _ ?_
      refine sq fun K16 hK16 => ?_
      refine sq fun K17 hK17 => ?_
      refine rg' (h := fun J18 hJ18 => ?_)
      refine hJ18 _ _ ?_
      refine hK17 _ _ ?_
      refine run_block_k ?_
      refine run_loopF (X := TS) [3, 4, 5, 6, 7, 14, 15, 16, 17, 18, 19] (fun q ρ σ1 => (q.k ≤ 4) ∧ (TimesInv x y i X q.k q.P q.c) ∧ (ρ 8 = .v (.int .u64 q.c)) ∧ (ρ 20 = .v (.int .i64 q.k)) ∧ (σ1 = { σ with objs := σ.objs ++ [numA x, numA y, prodA 0, u64s q.P] })) (fun q => 4 - q.k) (⟨0, digs 18446744073709551616 8 ((x % 18446744073709551616 ^ i) * y), 0⟩) ?st2 ?rd2
      case st2 =>
       refine ⟨lp, ?_, lp, lp, ?_⟩
       · exact times_first hi hy4
       · rfl
      case rd2 =>
       rintro q ρ2 σ1 hF2 ⟨hk, hT, h8, h20, hσ2⟩
       obtain rfl := hσ2.symm
       have f2 := keepL hF2
       try simp [KeepL, F] at f2
       replace F := And.intro h8 F
       replace F := And.intro h20 F
       try replace F := And.intro f2 F
       refine sq fun K19 hK19 => ?_
       refine rg' (h := fun J20 hJ20 => ?_)
       refine hJ20 _ _ ?_
       refine hK19 _ _ ?_
       refine sq fun K21 hK21 => ?_
       refine cs (fun c21 => ?_) (fun c21 => ?_)
       · try exact nope c21
         all_goals have c21p := c21
         all_goals try simp [F] at c21p
         all_goals
          replace F := And.intro c21 F
          try replace F := And.intro c21p F
          refine run_skip ?_
          refine hK21 _ _ ?_
          refine sq fun K22 hK22 => ?_
          refine run_block_k ?_
          refine sq fun K23 hK23 => ?_
          have hk4 : q.k < 4 := by simp at c21; omega
          have hgy : (numA y)[q.k]? = some (.v (.int .u64 (y / 18446744073709551616 ^ q.k % 18446744073709551616 : Nat))) := by rw [numA_digs]; exact digU_get hk4
          generalize hY : y / 18446744073709551616 ^ q.k % 18446744073709551616 = Y at hgy
          obtain ⟨_, hgy2⟩ := List.getElem?_eq_some_iff.1 hgy
          have hk5 : (q.k : Int) < 4 := by omega
          have hYl : Y < 18446744073709551616 := by rw [← hY]; exact Nat.mod_lt _ (by decide)
          have hPl := hT.1
          obtain ⟨p, hp⟩ : ∃ p, q.P[i + q.k]? = some p := ⟨_, List.getElem?_eq_getElem (by omega)⟩
          have hp2 := (List.getElem?_eq_some_iff.1 hp).2
          have hgp : (u64s q.P)[i + q.k]? = some (.v (.int .u64 p)) := by simp [u64s, hp]
          obtain ⟨_, hgp2⟩ := List.getElem?_eq_some_iff.1 hgp
          have hpl : p < 18446744073709551616 := hT.2.1 p (List.mem_of_getElem? hp)
          have hcl := hT.2.2.1
          have htn : ((i : Int) + (q.k : Int)).toNat = i + q.k := by omega
          have hXY := Nat.mul_le_mul (show X ≤ 18446744073709551615 by omega) (show Y ≤ 18446744073709551615 by omega)
          have hib : (i : Int) + q.k < 8 := by omega
          have hib2 : (0 : Int) ≤ (i : Int) + q.k := by omega
          have hib3 : i + q.k < 8 := by omega
          replace F := And.intro hgy F
          replace F := And.intro hgy2 F
          replace F := And.intro hk4 F
          replace F := And.intro hk5 F
          replace F := And.intro hgp F
          replace F := And.intro hgp2 F
          replace F := And.intro htn F
          replace F := And.intro hPl F
          replace F := And.intro hib F
          replace F := And.intro hib2 F
          replace F := And.intro hib3 F
          refine rg' (h := fun J24 hJ24 => ?_)
          refine hJ24 _ _ ?_
          refine hK23 _ _ ?_
          refine sq fun K25 hK25 => ?_
          refine rg' (h := fun J26 hJ26 => ?_)
          refine ca (c := mul64_ok (x := X) (y := Y) st st) (k := ?_)
          rintro _ _ ⟨⟨hh, ll, hh1, hl1, rfl⟩, rfl⟩
          repeat (first | simp [F] | simp (disch := omega) only [wC, if_pos, if_neg])
          refine hJ26 _ _ ?_
          refine hK25 _ _ ?_
          refine sq fun K27 hK27 => ?_
          refine rg' (h := fun J28 hJ28 => ?_)
          refine hJ28 _ _ ?_
          refine hK27 _ _ ?_
          refine sq fun K29 hK29 => ?_
          refine rg' (h := fun J30 hJ30 => ?_)
          refine ce (c := add64_ok (x := ll) (y := p) (c := 0) (by omega)) (k := ?_)
          rintro _ _ ⟨s1, c1, hs1, hc1, rfl⟩ rfl
          repeat (first | simp [F] | simp (disch := omega) only [wC, if_pos, if_neg])
          refine hJ30 _ _ ?_
          refine hK29 _ _ ?_
          refine sq fun K31 hK31 => ?_
          refine rg' (h := fun J32 hJ32 => ?_)
          refine hJ32 _ _ ?_
          refine hK31 _ _ ?_
          refine sq fun K33 hK33 => ?_
          refine rg' (h := fun J34 hJ34 => ?_)
          refine ce (c := add64_ok (x := s1) (y := q.c) (c := 0) (by omega)) (k := ?_)
          rintro _ _ ⟨s2, c2, hs2, hc2, rfl⟩ rfl
          repeat (first | simp [F] | simp (disch := omega) only [wC, if_pos, if_neg])
          refine hJ34 _ _ ?_
          refine hK33 _ _ ?_
          refine rg' (h := fun J35 hJ35 => ?_)
          refine hJ35 _ _ ?_
          refine hK22 _ _ ?_
          refine rg' (h := fun J36 hJ36 => ?_)
          refine hJ36 _ _ ?_
          refine ⟨(⟨q.k + 1, q.P.set (i + q.k) s2, hh + c1 + c2⟩), ⟨kp, lp, ?_, lp, lp, ?_⟩, lp⟩
          · exact times_next (s := s2) (c' := hh + c1 + c2) hT hi4 hk4 hXl hp hY (by omega) (by omega)
          · have hset := u64s_set q.P (i + q.k) s2 (by omega)
            simp [F]
            exact hset
       try exact nope c21
       all_goals have c21p := c21
       all_goals try simp [F] at c21p
       all_goals
        replace F := And.intro c21 F
        try replace F := And.intro c21p F
        have hk4 : q.k = 4 := by simp at c21; omega
        rw [hk4] at hT
        have hlast := times_last hT hi4 hX hy4
        have hPl := hT.1
        have hset := u64s_set q.P (i + 4) q.c (by omega)
        have hib : (i : Int) + 4 < 8 := by omega
        have hib3 : i + 4 < 8 := by omega
        have htn : ((i : Int) + 4).toNat = i + 4 := by omega
        have hib2 : (0 : Int) ≤ (i : Int) + 4 := by omega
        rw [hlast] at hset
        replace F := And.intro hib (And.intro hib3 (And.intro htn (And.intro hib2 (And.intro hPl F))))
        refine run_exit ?_
        refine hK16 _ _ ?_
        refine rg' (h := fun J37 hJ37 => ?_)
        refine hJ37 _ _ ?_
        refine hK11 _ _ ?_
        refine rg' (h := fun J38 hJ38 => ?_)
        refine hJ38 _ _ ?_
        refine ⟨(i + 1), ⟨kp, lp, lp, ?_⟩, lp⟩
        · simp [F]
          exact hset
   try exact nope c16
   all_goals have c16p := c16
   all_goals try simp [F] at c16p
   all_goals
    replace F := And.intro c16 F
    try replace F := And.intro c16p F
    obtain rfl : i = 4 := by simp at c16; omega
    have hxm : x % 18446744073709551616 ^ 4 = x := Nat.mod_eq_of_lt hx4
    rw [hxm]
    refine run_exit ?_
    refine hK5 _ _ ?_
    refine sq fun K39 hK39 => ?_
    refine rg' (h := fun J40 hJ40 => ?_)
    refine hJ40 _ _ ?_
    refine hK39 _ _ ?_
    refine run_ret ?_
    try simp only [Then, InBlock, NoGoto]
    refine acell (h := ?_)
    exact gcr

end Go.Proofs.Ytdbaddholggkbaa
