import Derived.Test.YtdbaddholggkbaaVmU
import Derived.Test.YtdbaddholggkbaaG7
import Derived.Test.YtdbaddholggkbaaVmMS
/-
  The document's numbers: digits of 16 bits.
-/
namespace Go.Proofs.Ytdbaddholggkbaa
set_option linter.unnecessarySimpa false
set_option maxRecDepth 100000
open Go Go.Vm
set_option linter.unusedSimpArgs false
set_option linter.unusedVariables false


theorem zc64 : zeroCell ⟨false, 1, 8, .int .u64 0⟩ = true := rfl

attribute [local simp] evalL wantedA isCall opA evalA evalAll evalsA evalOpt ofValue ofCell plain binA_eql_pn binA_neq_pn binA_gtr binA_lss binA_geq binA_leq binA_add binA_sub binA_eql binA_neq binA_orI binA_andI binA_shl binA_shr binA_mul binA_quo binA_rem binA_agg_eql binA_agg_neq convA_int unA_not fieldAddrA loadA partA pickA_true pickA_false pickA_bb lenA builtinA storeA splice readA rowAppA zc64 appendA roomA maxLen AV.cells AV.isCell sliceA boundA intA callOf indexAddrA newObjA buildA fillA zeroA ofCells buildSliceA indexA fieldA numA_len4 numA_take4 numA_drop4 set_appN get_appN take_appN List.getElem?_cons_zero List.getElem?_cons_succ

theorem digit16 {x i : Nat} : x / 18446744073709551616 ^ (i / 4) % 18446744073709551616 / 2 ^ (16 * (i % 4)) % 65536 = x / 65536 ^ i % 65536 := by
  have e : ∀ n, (65536 : Nat) ^ n = 2 ^ (16 * n) := fun n => by rw [Nat.pow_mul]
  have hW : ∀ n, (18446744073709551616 : Nat) ^ n = 2 ^ (64 * n) := fun n => by rw [Nat.pow_mul]
  rw [e, hW]
  have h1 : 16 * i = 64 * (i / 4) + 16 * (i % 4) := by omega
  rw [h1, Nat.pow_add, ← Nat.div_div_eq_div_mul]
  generalize x / 2 ^ (64 * (i / 4)) = y
  have h2 : i % 4 < 4 := Nat.mod_lt _ (by omega)
  obtain ⟨m, hm⟩ : ∃ m, m = i % 4 := ⟨_, rfl⟩
  rw [← hm] at h2 ⊢
  have : m = 0 ∨ m = 1 ∨ m = 2 ∨ m = 3 := by omega
  rcases this with rfl | rfl | rfl | rfl <;> simp <;> omega

set_option maxHeartbeats 1600000 in
attribute [local simp] undefA List.getElem?_cons_zero List.getElem?_cons_succ u64s_noObj in
theorem digits_ok {σ : St} {x : Nat} :
    CallsA Try.prog 127 [.agg (numA x)] σ (fun av σ' => av = .row σ.rows.length 16 0 1 16 ∧ σ' = { σ with rows := σ.rows ++ [⟨16, u64s (digs 65536 16 x), none⟩] }) := by
  refine callsA_gcO ?_ rfl
  have F := True.intro
  refine callsA_body Try.func127 rfl rfl rfl ?_
  refine sq fun K1 hK1 => ?_
  refine rg' (h := fun J2 hJ2 => ?_)
  refine hJ2 _ _ ?_
  refine hK1 _ _ ?_
  refine sq fun K3 hK3 => ?_
  refine rg' (h := fun J4 hJ4 => ?_)
  refine hJ4 _ _ ?_
  refine hK3 _ _ ?_
  refine sq fun K5 hK5 => ?_
  refine sq fun K6 hK6 => ?_
  refine run_nilrow 3 1 (k := ?_)
  refine rg' (h := fun J7 hJ7 => ?_)
  refine hJ7 _ _ ?_
  refine hK6 _ _ ?_
  refine run_block_k ?_
  refine run_loopF (X := Nat) [1, 2] (fun i ρ σ1 => (i ≤ 16) ∧ (ρ 3 = .row σ.rows.length i 0 1 i) ∧ (ρ 4 = .v (.int .i64 i)) ∧ (σ1 = { σ with objs := σ.objs ++ [numA x], rows := σ.rows ++ [⟨i, u64s (digs 65536 i x), none⟩] })) (fun i => 16 - i) (0) ?st1 ?rd1
  case st1 =>
   refine ⟨lp, lp, lp, ?_⟩
   · simp [digs, u64s]
  case rd1 =>
   rintro i ρ1 σ1 hF1 ⟨hi, h3, h4, hσ⟩
   obtain rfl := hσ.symm
   have f1 := keepL hF1
   try simp [KeepL, F] at f1
   replace F := And.intro h3 F
   replace F := And.intro h4 F
   try replace F := And.intro f1 F
   refine sq fun K8 hK8 => ?_
   refine sq fun K9 hK9 => ?_
   refine rg' (h := fun J10 hJ10 => ?_)
   refine hJ10 _ _ ?_
   refine hK9 _ _ ?_
   refine cs (fun c6 => ?_) (fun c6 => ?_)
   · try exact nope c6
     all_goals have c6p := c6
     all_goals try simp [F] at c6p
     all_goals
      replace F := And.intro c6 F
      try replace F := And.intro c6p F
      refine run_skip ?_
      refine hK8 _ _ ?_
      refine sq fun K11 hK11 => ?_
      refine run_block_k ?_
      have hi16 : i < 16 := by simp at c6; omega
      obtain ⟨q, hq⟩ : ∃ q, q = i / 4 := ⟨_, rfl⟩
      obtain ⟨r, hr⟩ : ∃ r, r = i % 4 := ⟨_, rfl⟩
      have e1 : (i : Int) / 4 = (q : Int) := by omega
      have e2 : (i : Int) % 4 = (r : Int) := by omega
      have hq4 : q < 4 := by omega
      have hq4i : (q : Int) < 4 := by omega
      have e3 : (i : Int).tdiv 4 = (q : Int) := by rw [Int.tdiv_eq_ediv_of_nonneg (by omega)]; exact e1
      have e4 : (i : Int).tmod 4 = (r : Int) := by rw [Int.tmod_eq_emod_of_nonneg (by omega)]; exact e2
      obtain ⟨L, hL⟩ : ∃ L, L = x / 18446744073709551616 ^ q % 18446744073709551616 := ⟨_, rfl⟩
      have hgx : (numA x)[q]? = some (.v (.int .u64 L)) := by rw [hL, numA_digs]; exact digU_get hq4
      obtain ⟨_, hgx2⟩ := List.getElem?_eq_some_iff.1 hgx
      have hneg : ¬ (16 * (r : Int) < 0) := by omega
      have htn : (16 * (r : Int)).toNat = 16 * r := by omega
      have hmn : min (16 * r) 64 = 16 * r := by omega
      obtain ⟨V, hV⟩ : ∃ V, V = x / 65536 ^ i % 65536 := ⟨_, rfl⟩
      have hval : ((L : Int).fdiv (2 ^ (16 * r))).tmod 65536 = (V : Int) := by rw [pow2_cast, fdiv_nat, hV, ← digit16, ← hq, ← hr, ← hL, Int.tmod_eq_emod_of_nonneg (Int.natCast_nonneg _)]; rfl
      have hb1 : (i + 1) * 8 ≤ 140737488355328 := by omega
      have hb2 : i ≤ 9223372036854775806 := by omega
      have htk : List.take i (u64s (digs 65536 i x)) = u64s (digs 65536 i x) := List.take_of_length_le (by simp)
      have hsn : u64s (digs 65536 i x) ++ [.v (.int .u64 V)] = u64s (digs 65536 (i + 1) x) := by rw [u64s_snoc, hV, ← digs_snoc]
      replace F := And.intro hneg F
      replace F := And.intro htn F
      replace F := And.intro hmn F
      replace F := And.intro hval F
      replace F := And.intro hb1 F
      replace F := And.intro hb2 F
      replace F := And.intro htk F
      replace F := And.intro hsn F
      replace F := And.intro e1 F
      replace F := And.intro e2 F
      replace F := And.intro e3 F
      replace F := And.intro e4 F
      replace F := And.intro hq4 F
      replace F := And.intro hq4i F
      replace F := And.intro hgx F
      replace F := And.intro hgx2 F
      replace F := And.intro hi16 F
      refine rg' (h := fun J12 hJ12 => ?_)
      refine hJ12 _ _ ?_
      refine hK11 _ _ ?_
      refine rg' (h := fun J13 hJ13 => ?_)
      refine hJ13 _ _ ?_
      refine ⟨(i + 1), ⟨kp, lp, lp, lp, lp⟩, lp⟩
   try exact nope c6
   all_goals have c6p := c6
   all_goals try simp [F] at c6p
   all_goals
    replace F := And.intro c6 F
    try replace F := And.intro c6p F
    obtain rfl : i = 16 := by simp at c6; omega
    refine run_exit ?_
    refine hK5 _ _ ?_
    refine sq fun K14 hK14 => ?_
    refine rg' (h := fun J15 hJ15 => ?_)
    refine hJ15 _ _ ?_
    refine hK14 _ _ ?_
    refine run_ret ?_
    try simp only [Then, InBlock, NoGoto]
    refine answer_tmp rfl (.inr rfl) ?_
    exact gco

theorem digits_sl {σ : St} {x : Nat} :
    CallsA Try.prog 127 [.agg (numA x)] σ (fun av σ' => av = .sl 1 (u64s (digs 65536 16 x)) 16 .shut ∧ σ = σ') :=
  callsA_mono (callsA_freeze_ret (callsA_mono digits_ok (fun av σ' ⟨h1, h2⟩ => ⟨16, none, h1, h2⟩)) (by simp) (u64s_under _ _)) (fun av σ' ⟨h1, h2⟩ => ⟨h1, h2.symm⟩)

set_option maxHeartbeats 1600000 in
attribute [local simp] undefA List.getElem?_cons_zero List.getElem?_cons_succ in
theorem carry_ok {σ : St} {k g n : Nat} {L : List Nat} (hr : σ.rows[k]? = some ⟨g, u64s L, none⟩) (hn : L.length = n) (hn2 : n ≤ 1000) (hL : ∀ d ∈ L, d ≤ 4611686018427387904) :
    CallsA Try.prog 121 [.row k g 0 1 n] σ (fun av σ' => av = .row k (g + 1) 0 1 (n + 1) ∧ σ' = { σ with rows := σ.rows.set k ⟨g + 1, u64s (digs 65536 n (valD 65536 L) ++ [valD 65536 L / 65536 ^ n]), none⟩ }) := by
  subst hn
  have hs := fun x => set_self_of hr x
  have hss : ∀ x y : RowSt, (σ.rows.set k x).set k y = σ.rows.set k y := fun x y => List.set_set _
  have F := And.intro hs (And.intro hss (True.intro))
  refine callsA_body Try.func121 rfl rfl rfl ?_
  refine sq fun K1 hK1 => ?_
  refine rg' (h := fun J2 hJ2 => ?_)
  refine hJ2 _ _ ?_
  refine hK1 _ _ ?_
  refine sq fun K3 hK3 => ?_
  refine rg' (h := fun J4 hJ4 => ?_)
  refine hJ4 _ _ ?_
  refine hK3 _ _ ?_
  refine sq fun K5 hK5 => ?_
  refine sq fun K6 hK6 => ?_
  refine rg' (h := fun J7 hJ7 => ?_)
  refine hJ7 _ _ ?_
  refine hK6 _ _ ?_
  refine run_block_k ?_
  refine run_loopF (X := Nat) [0, 2] (fun i ρ σ1 => (i ≤ L.length) ∧ (ρ 3 = .v (.int .u64 (crO 65536 L i : Nat))) ∧ (ρ 4 = .v (.int .i64 i)) ∧ (σ1 = { σ with rows := σ.rows.set k ⟨g, u64s (crA 65536 L i), none⟩ })) (fun i => L.length - i) (0) ?st1 ?rd1
  case st1 =>
   refine ⟨lp, ?_, lp, ?_⟩
   · simp [crO_zero]
   · rw [crA_zero, Ytdbaddholggkbaa.set_same hr]
  case rd1 =>
   rintro i ρ1 σ1 hF1 ⟨hi, h3, h4, hσ⟩
   obtain rfl := hσ.symm
   have f1 := keepL hF1
   try simp [KeepL, F] at f1
   replace F := And.intro h3 F
   replace F := And.intro h4 F
   try replace F := And.intro f1 F
   refine sq fun K8 hK8 => ?_
   refine sq fun K9 hK9 => ?_
   refine rg' (h := fun J10 hJ10 => ?_)
   refine hJ10 _ _ ?_
   refine hK9 _ _ ?_
   refine cs (fun c8 => ?_) (fun c8 => ?_)
   · try exact nope c8
     all_goals have c8p := c8
     all_goals try simp [F] at c8p
     all_goals
      replace F := And.intro c8 F
      try replace F := And.intro c8p F
      refine run_skip ?_
      refine hK8 _ _ ?_
      refine sq fun K11 hK11 => ?_
      refine run_block_k ?_
      refine sq fun K12 hK12 => ?_
      have hlt : i < L.length := by simp at c8; omega
      obtain ⟨d, hd⟩ : ∃ d, d = L[i] := ⟨_, rfl⟩
      have hgx : (u64s (crA 65536 L i))[i]? = some (.v (.int .u64 d)) := by rw [hd]; exact u64s_get_of (crA_get hlt)
      obtain ⟨_, hgx2⟩ := List.getElem?_eq_some_iff.1 hgx
      have hcl := crA_len (b := 65536) hi
      have hdl : d ≤ 4611686018427387904 := by rw [hd]; exact hL _ (List.getElem_mem _)
      have hcO := crO_le (b := 65536) (by omega) hL i hi
      obtain ⟨c, hc⟩ : ∃ c, c = crO 65536 L i := ⟨_, rfl⟩
      rw [← hc] at h3 F hcO
      have hsum : IntKind.u64.wrap ((c : Int) + d) = ((c + d : Nat) : Int) := by rw [wrap_u64c (by omega)]; push_cast; rfl
      obtain ⟨s, hsd⟩ : ∃ s, s = c + d := ⟨_, rfl⟩
      rw [← hsd] at hsum
      have hs6 : (s : Int).tmod 65536 = ((s % 65536 : Nat) : Int) := by rw [Int.tmod_eq_emod_of_nonneg (by omega)]; rfl
      obtain ⟨m, hm⟩ : ∃ m, m = s % 65536 := ⟨_, rfl⟩
      obtain ⟨v, hv⟩ : ∃ v, v = s / 65536 := ⟨_, rfl⟩
      rw [← hm] at hs6
      have hs7 : (s : Int).tdiv 65536 = (v : Int) := by rw [Int.tdiv_eq_ediv_of_nonneg (by omega), hv]; rfl
      have hs8 : (s : Int) / 65536 = (v : Int) := by omega
      have hs9 : (s : Int) % 65536 = (m : Int) := by omega
      have hlti : (i : Int) < L.length := by omega
      have hset := u64s_set (crA 65536 L i) i m (by rw [hcl]; exact hlt)
      have hcs : (crA 65536 L i).set i m = crA 65536 L (i + 1) := by rw [hm, hsd, hc, hd]; exact crA_set (by omega) hlt
      rw [hcs] at hset
      have hvn : v = crO 65536 L (i + 1) := by rw [hv, hsd, hc, hd]; exact crO_next (by omega) hlt
      replace F := And.intro hgx F
      replace F := And.intro hgx2 F
      replace F := And.intro hcl F
      replace F := And.intro hlt F
      replace F := And.intro hlti F
      replace F := And.intro hsum F
      replace F := And.intro hs6 F
      replace F := And.intro hs7 F
      replace F := And.intro hs8 F
      replace F := And.intro hs9 F
      refine rg' (h := fun J13 hJ13 => ?_)
      refine hJ13 _ _ ?_
      refine hK12 _ _ ?_
      refine sq fun K14 hK14 => ?_
      refine rg' (h := fun J15 hJ15 => ?_)
      refine hJ15 _ _ ?_
      refine hK14 _ _ ?_
      refine rg' (h := fun J16 hJ16 => ?_)
      refine hJ16 _ _ ?_
      refine hK11 _ _ ?_
      refine rg' (h := fun J17 hJ17 => ?_)
      refine hJ17 _ _ ?_
      refine ⟨(i + 1), ⟨kp, lp, ?_, lp, ?_⟩, lp⟩
      · simp [F, hvn]
      · simp [F, hset]
   try exact nope c8
   all_goals have c8p := c8
   all_goals try simp [F] at c8p
   all_goals
    replace F := And.intro c8 F
    try replace F := And.intro c8p F
    obtain rfl : i = L.length := by simp at c8; omega
    have hb1 : (L.length + 1) * 8 ≤ 140737488355328 := by omega
    have hb2 : L.length ≤ 9223372036854775806 := by omega
    have hcl := crA_len (b := 65536) (Nat.le_refl L.length)
    have htk : List.take L.length (u64s (crA 65536 L L.length)) = u64s (crA 65536 L L.length) := List.take_of_length_le (by simp [hcl])
    have hall : u64s (crA 65536 L L.length) ++ [.v (.int .u64 (crO 65536 L L.length : Nat))] = u64s (digs 65536 L.length (valD 65536 L) ++ [valD 65536 L / 65536 ^ L.length]) := by rw [u64s_snoc, crA_all]
    replace F := And.intro hb1 (And.intro hb2 (And.intro hcl (And.intro htk (And.intro hall F))))
    refine run_exit ?_
    refine hK5 _ _ ?_
    refine sq fun K18 hK18 => ?_
    refine rg' (h := fun J19 hJ19 => ?_)
    refine hJ19 _ _ ?_
    refine hK18 _ _ ?_
    refine run_ret ?_
    try simp only [Then, InBlock, NoGoto]
    refine answer_tmp rfl (.inr rfl) ?_
    exact rt

end Go.Proofs.Ytdbaddholggkbaa
