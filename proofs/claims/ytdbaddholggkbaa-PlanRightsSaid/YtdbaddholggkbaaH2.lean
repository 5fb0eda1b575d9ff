import Derived.Test.YtdbaddholggkbaaVmU
import Derived.Test.YtdbaddholggkbaaH1
import Derived.Test.YtdbaddholggkbaaVmMS
/-
  The document's numbers: what digits are; sums.
-/
namespace Go.Proofs.Ytdbaddholggkbaa
set_option linter.unnecessarySimpa false
set_option maxRecDepth 100000
open Go Go.Vm
set_option linter.unusedSimpArgs false
set_option linter.unusedVariables false


attribute [local simp] evalL wantedA isCall opA evalA evalAll evalsA evalOpt ofValue ofCell plain binA_eql_pn binA_neq_pn binA_gtr binA_lss binA_geq binA_leq binA_add binA_sub binA_eql binA_neq binA_orI binA_andI binA_shl binA_shr binA_mul binA_quo binA_rem binA_agg_eql binA_agg_neq convA_int unA_not fieldAddrA loadA partA pickA_true pickA_false pickA_bb lenA builtinA storeA splice readA rowAppA zc64 appendA roomA maxLen AV.cells AV.isCell sliceA boundA intA callOf indexAddrA newObjA buildA fillA zeroA ofCells buildSliceA indexA fieldA numA_len4 numA_take4 numA_drop4 set_appN get_appN take_appN List.getElem?_cons_zero List.getElem?_cons_succ

set_option maxHeartbeats 1600000 in
attribute [local simp] undefA List.getElem?_cons_zero List.getElem?_cons_succ numA_zero4 in
theorem rof_ok {σ : St} {L : List Nat} {n : Nat} {tl : Tail} (hn : L.length = n) (h16 : 16 ≤ n) (hl : n ≤ 1000) (hL : ∀ d ∈ L.take 16, d < 65536) :
    CallsA Try.prog 122 [.sl 1 (u64s L) n tl] σ (fun av σ' => av = .tup [.agg (numA (if valD 65536 L < 2 ^ 256 then valD 65536 L else 0)), .v (.bool (decide (valD 65536 L < 2 ^ 256)))] ∧ σ = σ') := by
  refine callsA_gcS ?_ (by simp [AV.under, underL, numA])
  have e256 : (65536 : Nat) ^ 16 = 2 ^ 256 := by rw [show (65536 : Nat) = 2 ^ 16 from rfl, ← Nat.pow_mul]
  subst hn
  have F := True.intro
  refine callsA_body Try.func122 rfl rfl rfl ?_
  refine sq fun K1 hK1 => ?_
  refine rg' (h := fun J2 hJ2 => ?_)
  refine hJ2 _ _ ?_
  refine hK1 _ _ ?_
  refine sq fun K3 hK3 => ?_
  refine rg' (h := fun J4 hJ4 => ?_)
  refine hJ4 _ _ ?_
  refine hK3 _ _ ?_
  refine sq fun K5 hK5 => ?_
  refine sq fun K6 hK6 => ?_
  refine rg' (h := fun J7 hJ7 => ?_)
  refine hJ7 _ _ ?_
  refine hK6 _ _ ?_
  refine run_block_k ?_
  refine run_loopF (X := Nat) [0, 2, 4] (fun i ρ σ1 => (i ≤ L.length) ∧ (∀ j, 16 ≤ j → j < i → L[j]? = some 0) ∧ (ρ 5 = .v (.int .i64 i)) ∧ (σ1 = { σ with objs := σ.objs ++ [numA 0, numA (valD 65536 (L.take (min i 16)))] })) (fun i => L.length - i) (0) ?st1 ?rd1
  case st1 =>
   refine ⟨lp, ?_, lp, ?_⟩
   · intro j h1 h2
     omega
   · simp [numA_zero4]
  case rd1 =>
   rintro i ρ1 σ1 hF1 ⟨hi, hz, h5, hσ⟩
   obtain rfl := hσ.symm
   have f1 := keepL hF1
   try simp [KeepL, F] at f1
   replace F := And.intro h5 F
   try replace F := And.intro f1 F
   refine sq fun K8 hK8 => ?_
   refine sq fun K9 hK9 => ?_
   refine rg' (h := fun J10 hJ10 => ?_)
   refine hJ10 _ _ ?_
   refine hK9 _ _ ?_
   refine cs (fun c9 => ?_) (fun c9 => ?_)
   · try exact nope c9
     all_goals have c9p := c9
     all_goals try simp [F] at c9p
     all_goals
      replace F := And.intro c9 F
      try replace F := And.intro c9p F
      refine run_skip ?_
      refine hK8 _ _ ?_
      refine sq fun K11 hK11 => ?_
      refine run_block_k ?_
      refine sq fun K12 hK12 => ?_
      refine sq fun K13 hK13 => ?_
      have hlt : i < L.length := by simp at c9; omega
      obtain ⟨d, hd⟩ : ∃ d, d = L[i] := ⟨_, rfl⟩
      have hgd : L[i]? = some d := by rw [hd]; exact List.getElem?_eq_getElem hlt
      have hgx : (u64s L)[i]? = some (.v (.int .u64 d)) := u64s_get_of hgd
      obtain ⟨_, hgx2⟩ := List.getElem?_eq_some_iff.1 hgx
      have hlti : (i : Int) < L.length := by omega
      have hdr : List.drop i (u64s L) = .v (.int .u64 d) :: List.drop (i + 1) (u64s L) := by rw [List.drop_eq_getElem_cons (by simpa using hlt), hgx2]
      replace F := And.intro hgx F
      replace F := And.intro hgx2 F
      replace F := And.intro hlt F
      replace F := And.intro hlti F
      replace F := And.intro hdr F
      refine rg' (h := fun J14 hJ14 => ?_)
      refine gs 14 (fun g5_2 => ?_) (fun g5_2 => ?_)
      · try exact nope g5_2
        all_goals have g5_2p := g5_2
        all_goals try simp [F] at g5_2p
        all_goals
         replace F := And.intro g5_2 F
         try replace F := And.intro g5_2p F
         refine go2 (k := ?_)
         refine go2 (k := ?_)
         refine go2 (k := ?_)
         refine go2 (k := ?_)
         refine go2 (k := ?_)
         refine hJ14 _ _ ?_
         refine hK13 _ _ ?_
         refine cs (fun c20 => ?_) (fun c20 => ?_)
         · try exact nope c20
           all_goals have c20p := c20
           all_goals try simp [F] at c20p
           all_goals
            replace F := And.intro c20 F
            try replace F := And.intro c20p F
            have hbig : ¬ valD 65536 L < 2 ^ 256 := by rw [← e256]; exact valD_big (by omega) (by have h := g5_2; simp at h; omega) hlt (by rw [← hd]; have h := c20; simp at h; omega)
            replace F := And.intro hbig (And.intro (if_neg hbig : (if valD 65536 L < 2 ^ 256 then valD 65536 L else 0) = 0) F)
            refine sq fun K15 hK15 => ?_
            refine rg' (h := fun J16 hJ16 => ?_)
            refine hJ16 _ _ ?_
            refine hK15 _ _ ?_
            refine run_ret ?_
            try simp only [Then, InBlock, NoGoto]
            refine acell2 (h := ?_)
            exact gcr
         try exact nope c20
         all_goals have c20p := c20
         all_goals try simp [F] at c20p
         all_goals
          replace F := And.intro c20 F
          try replace F := And.intro c20p F
          refine run_skip ?_
          refine hK12 _ _ ?_
          refine sq fun K17 hK17 => ?_
          refine rg' (h := fun J18 hJ18 => ?_)
          refine hJ18 _ _ ?_
          refine hK17 _ _ ?_
          refine cs (fun c23 => ?_) (fun c23 => ?_)
          · try exact nope c23
            all_goals have c23p := c23
            all_goals try simp [F] at c23p
            all_goals
             replace F := And.intro c23 F
             try replace F := And.intro c23p F
             have hi16 : i < 16 := by have h := c23; simp at h; omega
             have hm1 : min i 16 = i := by omega
             have hm2 : min (i + 1) 16 = i + 1 := by omega
             obtain ⟨T, hT⟩ : ∃ T, T = valD 65536 (L.take i) := ⟨_, rfl⟩
             have hTl : T < 65536 ^ i := by rw [hT]; have := valD_lt (b := 65536) (l := L.take i) (fun x hx => hL x (by rw [List.mem_take_iff_getElem] at hx ⊢; obtain ⟨k, hk, e⟩ := hx; exact ⟨k, by omega, e⟩)); rwa [List.length_take, Nat.min_eq_left (by omega)] at this
             have hdl : d < 65536 := hL d (by rw [hd, List.mem_take_iff_getElem]; exact ⟨i, by omega, rfl⟩)
             rw [hm1, ← hT]
             obtain ⟨q, hq⟩ : ∃ q, q = i / 4 := ⟨_, rfl⟩
             obtain ⟨r, hr⟩ : ∃ r, r = i % 4 := ⟨_, rfl⟩
             have e1 : (i : Int) / 4 = (q : Int) := by omega
             have e2 : (i : Int) % 4 = (r : Int) := by omega
             have hq4 : q < 4 := by omega
             have hq4i : (q : Int) < 4 := by omega
             have e3 : (i : Int).tdiv 4 = (q : Int) := by rw [Int.tdiv_eq_ediv_of_nonneg (by omega)]; exact e1
             have e4 : (i : Int).tmod 4 = (r : Int) := by rw [Int.tmod_eq_emod_of_nonneg (by omega)]; exact e2
             have hneg : ¬ (16 * (r : Int) < 0) := by omega
             have htn : (16 * (r : Int)).toNat = 16 * r := by omega
             have hmn : min (16 * r) 64 = 16 * r := by omega
             obtain ⟨hy1, hy2⟩ := digs_lay hq hr hi16 hTl hdl
             obtain ⟨M, hM⟩ : ∃ M, M = T / 18446744073709551616 ^ q % 18446744073709551616 := ⟨_, rfl⟩
             rw [← hM] at hy1 hy2
             have hgM : (numA T)[q]? = some (.v (.int .u64 M)) := by rw [hM, numA_digs]; exact digU_get hq4
             obtain ⟨_, hgM2⟩ := List.getElem?_eq_some_iff.1 hgM
             obtain ⟨S, hS⟩ : ∃ S, S = d * 2 ^ (16 * r) := ⟨_, rfl⟩
             rw [← hS] at hy1 hy2
             have hsh : IntKind.u64.wrap ((d : Int) * 2 ^ (16 * r)) = (S : Int) := by rw [pow2_cast, show (d : Int) * ((2 ^ (16 * r) : Nat) : Int) = ((d * 2 ^ (16 * r) : Nat) : Int) by push_cast; rfl, ← hS]; exact wrapN (by omega)
             obtain ⟨A, hA⟩ : ∃ A, A = M + S := ⟨_, rfl⟩
             rw [← hA] at hy1 hy2
             have had : IntKind.u64.wrap ((M : Int) + S) = (A : Int) := by rw [show (M : Int) + S = (A : Int) by omega]; exact wrapN hy1
             have hset := u64s_set (digs 18446744073709551616 4 T) q A (by simpa using hq4)
             rw [hy2, ← numA_digs, ← numA_digs] at hset
             have hnx : valD 65536 (L.take (i + 1)) = T + 65536 ^ i * d := by rw [valD_take_succ hlt, ← hT, hd]
             replace F := And.intro hm2 F
             replace F := And.intro e1 F
             replace F := And.intro e2 F
             replace F := And.intro e3 F
             replace F := And.intro e4 F
             replace F := And.intro hneg F
             replace F := And.intro htn F
             replace F := And.intro hmn F
             replace F := And.intro hq4 F
             replace F := And.intro hq4i F
             replace F := And.intro hgM F
             replace F := And.intro hgM2 F
             replace F := And.intro hsh F
             replace F := And.intro had F
             refine run_draw (by kernel_rfl) fun J19 hJ19 => ?_
             refine rp2 0 (k := ?_)
             refine rp2 1 (k := ?_)
             refine rp2 2 (k := ?_)
             refine rp2 3 (k := ?_)
             refine rp2 4 (k := ?_)
             refine rp2 5 (k := ?_)
             refine rp2 6 (k := ?_)
             refine rp2 7 (k := ?_)
             refine rp2 8 (k := ?_)
             refine rp2 9 (k := ?_)
             refine rp2 10 (k := ?_)
             refine rp2 11 (k := ?_)
             refine rp2 12 (k := ?_)
             refine rp2 13 (k := ?_)
             refine dop 14 rfl ?_
             repeat (first | simp [F] | simp (disch := omega) only [wC, if_pos, if_neg])
             refine ⟨ln, ?_⟩
             refine dd ?_
             refine hJ19 _ _ ?_
             refine hK11 _ _ ?_
             refine rg' (h := fun J20 hJ20 => ?_)
             refine hJ20 _ _ ?_
             refine ⟨(i + 1), ⟨kp, lp, ?_, lp, ?_⟩, lp⟩
             · intro j h1 h2
               by_cases hj : j = i
               · subst hj; first | omega | (rw [hgd, hd0])
               · exact hz j h1 (by omega)
             · simp [F]
               rw [hnx]
               exact hset
          try exact nope c23
          all_goals have c23p := c23
          all_goals try simp [F] at c23p
          all_goals
           replace F := And.intro c23 F
           try replace F := And.intro c23p F
           have hd0 : d = 0 := by have h := c20; simp at h; omega
           have hi16 : 16 ≤ i := by have h := c23; simp at h; omega
           have hm1 : min i 16 = 16 := by omega
           have hm2 : min (i + 1) 16 = 16 := by omega
           replace F := And.intro hm1 (And.intro hm2 F)
           refine run_skip ?_
           refine hK11 _ _ ?_
           refine rg' (h := fun J21 hJ21 => ?_)
           refine hJ21 _ _ ?_
           refine ⟨(i + 1), ⟨kp, lp, ?_, lp, lp⟩, lp⟩
           · intro j h1 h2
             by_cases hj : j = i
             · subst hj; first | omega | (rw [hgd, hd0])
             · exact hz j h1 (by omega)
      try exact nope g5_2
      all_goals have g5_2p := g5_2
      all_goals try simp [F] at g5_2p
      all_goals
       replace F := And.intro g5_2 F
       try replace F := And.intro g5_2p F
       refine no2 (k := ?_)
       refine no2 (k := ?_)
       refine no2 (k := ?_)
       refine no2 (k := ?_)
       refine no2 (k := ?_)
       refine hJ14 _ _ ?_
       refine hK13 _ _ ?_
       refine cf ?_
       refine run_skip ?_
       refine hK12 _ _ ?_
       refine sq fun K22 hK22 => ?_
       refine rg' (h := fun J23 hJ23 => ?_)
       refine hJ23 _ _ ?_
       refine hK22 _ _ ?_
       refine cs (fun c23 => ?_) (fun c23 => ?_)
       · try exact nope c23
         all_goals have c23p := c23
         all_goals try simp [F] at c23p
         all_goals
          replace F := And.intro c23 F
          try replace F := And.intro c23p F
          have hi16 : i < 16 := by have h := c23; simp at h; omega
          have hm1 : min i 16 = i := by omega
          have hm2 : min (i + 1) 16 = i + 1 := by omega
          obtain ⟨T, hT⟩ : ∃ T, T = valD 65536 (L.take i) := ⟨_, rfl⟩
          have hTl : T < 65536 ^ i := by rw [hT]; have := valD_lt (b := 65536) (l := L.take i) (fun x hx => hL x (by rw [List.mem_take_iff_getElem] at hx ⊢; obtain ⟨k, hk, e⟩ := hx; exact ⟨k, by omega, e⟩)); rwa [List.length_take, Nat.min_eq_left (by omega)] at this
          have hdl : d < 65536 := hL d (by rw [hd, List.mem_take_iff_getElem]; exact ⟨i, by omega, rfl⟩)
          rw [hm1, ← hT]
          obtain ⟨q, hq⟩ : ∃ q, q = i / 4 := ⟨_, rfl⟩
          obtain ⟨r, hr⟩ : ∃ r, r = i % 4 := ⟨_, rfl⟩
          have e1 : (i : Int) / 4 = (q : Int) := by omega
          have e2 : (i : Int) % 4 = (r : Int) := by omega
          have hq4 : q < 4 := by omega
          have hq4i : (q : Int) < 4 := by omega
          have e3 : (i : Int).tdiv 4 = (q : Int) := by rw [Int.tdiv_eq_ediv_of_nonneg (by omega)]; exact e1
          have e4 : (i : Int).tmod 4 = (r : Int) := by rw [Int.tmod_eq_emod_of_nonneg (by omega)]; exact e2
          have hneg : ¬ (16 * (r : Int) < 0) := by omega
          have htn : (16 * (r : Int)).toNat = 16 * r := by omega
          have hmn : min (16 * r) 64 = 16 * r := by omega
          obtain ⟨hy1, hy2⟩ := digs_lay hq hr hi16 hTl hdl
          obtain ⟨M, hM⟩ : ∃ M, M = T / 18446744073709551616 ^ q % 18446744073709551616 := ⟨_, rfl⟩
          rw [← hM] at hy1 hy2
          have hgM : (numA T)[q]? = some (.v (.int .u64 M)) := by rw [hM, numA_digs]; exact digU_get hq4
          obtain ⟨_, hgM2⟩ := List.getElem?_eq_some_iff.1 hgM
          obtain ⟨S, hS⟩ : ∃ S, S = d * 2 ^ (16 * r) := ⟨_, rfl⟩
          rw [← hS] at hy1 hy2
          have hsh : IntKind.u64.wrap ((d : Int) * 2 ^ (16 * r)) = (S : Int) := by rw [pow2_cast, show (d : Int) * ((2 ^ (16 * r) : Nat) : Int) = ((d * 2 ^ (16 * r) : Nat) : Int) by push_cast; rfl, ← hS]; exact wrapN (by omega)
          obtain ⟨A, hA⟩ : ∃ A, A = M + S := ⟨_, rfl⟩
          rw [← hA] at hy1 hy2
          have had : IntKind.u64.wrap ((M : Int) + S) = (A : Int) := by rw [show (M : Int) + S = (A : Int) by omega]; exact wrapN hy1
          have hset := u64s_set (digs 18446744073709551616 4 T) q A (by simpa using hq4)
          rw [hy2, ← numA_digs, ← numA_digs] at hset
          have hnx : valD 65536 (L.take (i + 1)) = T + 65536 ^ i * d := by rw [valD_take_succ hlt, ← hT, hd]
          replace F := And.intro hm2 F
          replace F := And.intro e1 F
          replace F := And.intro e2 F
          replace F := And.intro e3 F
          replace F := And.intro e4 F
          replace F := And.intro hneg F
          replace F := And.intro htn F
          replace F := And.intro hmn F
          replace F := And.intro hq4 F
          replace F := And.intro hq4i F
          replace F := And.intro hgM F
          replace F := And.intro hgM2 F
          replace F := And.intro hsh F
          replace F := And.intro had F
          refine run_draw (by kernel_rfl) fun J24 hJ24 => ?_
          refine rp2 0 (k := ?_)
          refine rp2 1 (k := ?_)
          refine rp2 2 (k := ?_)
          refine rp2 3 (k := ?_)
          refine rp2 4 (k := ?_)
          refine rp2 5 (k := ?_)
          refine rp2 6 (k := ?_)
          refine rp2 7 (k := ?_)
          refine rp2 8 (k := ?_)
          refine rp2 9 (k := ?_)
          refine rp2 10 (k := ?_)
          refine rp2 11 (k := ?_)
          refine rp2 12 (k := ?_)
          refine rp2 13 (k := ?_)
          refine dop 14 rfl ?_
          repeat (first | simp [F] | simp (disch := omega) only [wC, if_pos, if_neg])
          refine ⟨ln, ?_⟩
          refine dd ?_
          refine hJ24 _ _ ?_
          refine hK11 _ _ ?_
          refine rg' (h := fun J25 hJ25 => ?_)
          refine hJ25 _ _ ?_
          refine ⟨(i + 1), ⟨kp, lp, ?_, lp, ?_⟩, lp⟩
          · intro j h1 h2
            by_cases hj : j = i
            · subst hj; first | omega | (rw [hgd, hd0])
            · exact hz j h1 (by omega)
          · simp [F]
            rw [hnx]
            exact hset
       try exact nope c23
       all_goals have c23p := c23
       all_goals try simp [F] at c23p
       all_goals
        replace F := And.intro c23 F
        try replace F := And.intro c23p F
        have hd0 : d = 0 := by have h := c20; simp at h; omega
        have hi16 : 16 ≤ i := by have h := c23; simp at h; omega
        have hm1 : min i 16 = 16 := by omega
        have hm2 : min (i + 1) 16 = 16 := by omega
        replace F := And.intro hm1 (And.intro hm2 F)
        refine run_skip ?_
        refine hK11 _ _ ?_
        refine rg' (h := fun J26 hJ26 => ?_)
        refine hJ26 _ _ ?_
        refine ⟨(i + 1), ⟨kp, lp, ?_, lp, lp⟩, lp⟩
        · intro j h1 h2
          by_cases hj : j = i
          · subst hj; first | omega | (rw [hgd, hd0])
          · exact hz j h1 (by omega)
   try exact nope c9
   all_goals have c9p := c9
   all_goals try simp [F] at c9p
   all_goals
    replace F := And.intro c9 F
    try replace F := And.intro c9p F
    obtain rfl : i = L.length := by simp at c9; omega
    have hm1 : min L.length 16 = 16 := by omega
    have hv : valD 65536 L = valD 65536 (L.take 16) := valD_zeros (fun j h1 h2 => by have := hz j h1 h2; rw [List.getElem?_eq_getElem h2] at this; simpa using this)
    have hfit : valD 65536 L < 2 ^ 256 := by rw [hv, ← e256]; have := valD_lt (b := 65536) (l := L.take 16) hL; rwa [List.length_take, Nat.min_eq_left h16] at this
    rw [hm1, ← hv]
    replace F := And.intro hfit (And.intro hm1 F)
    refine run_exit ?_
    refine hK5 _ _ ?_
    refine sq fun K27 hK27 => ?_
    refine rg' (h := fun J28 hJ28 => ?_)
    refine hJ28 _ _ ?_
    refine hK27 _ _ ?_
    refine run_ret ?_
    try simp only [Then, InBlock, NoGoto]
    refine acell2 (h := ?_)
    exact gcr

set_option maxHeartbeats 1600000 in
attribute [local simp] undefA List.getElem?_cons_zero List.getElem?_cons_succ in
theorem rsmall_ok {σ : St} {n : Nat} (hn : n < 2 ^ 64) : CallsA Try.prog 70 [.v (.int .u64 n)] σ (fun av σ' => av = .agg (numA n) ∧ σ = σ') := by
  refine callsA_gcS ?_ (by simp [AV.under, underL, numA])
  have F := True.intro
  refine callsA_body Try.func70 rfl rfl rfl ?_
  refine sq fun K1 hK1 => ?_
  refine rg' (h := fun J2 hJ2 => ?_)
  refine hJ2 _ _ ?_
  refine hK1 _ _ ?_
  refine sq fun K3 hK3 => ?_
  have h0 := numA_small hn
  replace F := And.intro h0 F
  refine rg' (h := fun J4 hJ4 => ?_)
  refine hJ4 _ _ ?_
  refine hK3 _ _ ?_
  refine run_ret ?_
  try simp only [Then, InBlock, NoGoto]
  refine acell (h := ?_)
  exact gcr

theorem cmpI_less {b n x y i : Nat} (hb : 0 < b) (hx : x < b ^ n) (hy : y < b ^ n) (hi : i < n) (h : ∀ j, i < j → j < n → x / b ^ j % b = y / b ^ j % b) (hl : x / b ^ i % b < y / b ^ i % b) : cmpI x y = -1 := if_pos (cmp_lt hb hx hy hi h hl)
theorem cmpI_more {b n x y i : Nat} (hb : 0 < b) (hx : x < b ^ n) (hy : y < b ^ n) (hi : i < n) (h : ∀ j, i < j → j < n → x / b ^ j % b = y / b ^ j % b) (hl : y / b ^ i % b < x / b ^ i % b) : cmpI x y = 1 := by
  have := cmp_lt hb hy hx hi (fun j h1 h2 => (h j h1 h2).symm) hl
  unfold cmpI; rw [if_neg (by omega), if_pos this]
theorem cmpI_self (x : Nat) : cmpI x x = 0 := by simp [cmpI]

set_option maxHeartbeats 1600000 in
attribute [local simp] undefA List.getElem?_cons_zero List.getElem?_cons_succ in
theorem rcmp_ok {σ : St} {x y : Nat} (hx : x < 2 ^ 256) (hy : y < 2 ^ 256) :
    CallsA Try.prog 78 [.agg (numA x), .agg (numA y)] σ (fun av σ' => av = .v (.int .i64 (cmpI x y)) ∧ σ = σ') := by
  refine callsA_gcS ?_ rfl
  have e256 : (65536 : Nat) ^ 16 = 2 ^ 256 := by rw [show (65536 : Nat) = 2 ^ 16 from rfl, ← Nat.pow_mul]
  have hx4 : x < 65536 ^ 16 := by rw [e256]; exact hx
  have hy4 : y < 65536 ^ 16 := by rw [e256]; exact hy
  have F := True.intro
  refine callsA_body Try.func78 rfl rfl rfl ?_
  refine sq fun K1 hK1 => ?_
  refine rg' (h := fun J2 hJ2 => ?_)
  refine hJ2 _ _ ?_
  refine hK1 _ _ ?_
  refine sq fun K3 hK3 => ?_
  refine run_draw (by kernel_rfl) fun J4 hJ4 => ?_
  refine rp2 0 (k := ?_)
  refine rp2 2 (k := ?_)
  refine dc 1 rfl (c := digits_sl) (k := ?_)
  rintro _ _ ⟨rfl, rfl⟩
  refine ⟨by first | exact fun _ _ h => h | (refine later_list [2] (by kernel_rfl) (List.forall_mem_cons.2 ⟨fun _ => fact2 rfl rfl ?_, fun _ h => absurd h List.not_mem_nil⟩) <;> constructor <;> first | rfl | (simp [F]; done)), ?_⟩
  repeat (first | simp [F] | simp (disch := omega) only [wC, if_pos, if_neg])
  refine dc 3 rfl (c := digits_sl) (k := ?_)
  rintro _ _ ⟨rfl, rfl⟩
  refine ⟨ln, ?_⟩
  repeat (first | simp [F] | simp (disch := omega) only [wC, if_pos, if_neg])
  refine rp2 4 (k := ?_)
  refine rp2 5 (k := ?_)
  refine dd ?_
  refine hJ4 _ _ ?_
  refine hK3 _ _ ?_
  refine sq fun K5 hK5 => ?_
  refine sq fun K6 hK6 => ?_
  refine rg' (h := fun J7 hJ7 => ?_)
  refine hJ7 _ _ ?_
  refine hK6 _ _ ?_
  refine run_block_k ?_
  refine run_loopF (X := Nat) [5, 6] (fun n ρ σ1 => (n ≤ 16) ∧ (∀ j, n ≤ j → j < 16 → x / 65536 ^ j % 65536 = y / 65536 ^ j % 65536) ∧ (ρ 7 = .v (.int .i64 ((n : Int) - 1))) ∧ (σ1 = { σ with objs := σ.objs ++ [numA x, numA y] })) (fun n => n) (16) ?st1 ?rd1
  case st1 =>
   refine ⟨lp, ?_, lp, lp⟩
   · intro j h1 h2
     omega
  case rd1 =>
   rintro n ρ1 σ1 hF1 ⟨hn, hE, h7, hσ⟩
   obtain rfl := hσ.symm
   have f1 := keepL hF1
   try simp [KeepL, F] at f1
   replace F := And.intro h7 F
   try replace F := And.intro f1 F
   refine sq fun K8 hK8 => ?_
   refine sq fun K9 hK9 => ?_
   refine rg' (h := fun J10 hJ10 => ?_)
   refine hJ10 _ _ ?_
   refine hK9 _ _ ?_
   refine cs (fun c13 => ?_) (fun c13 => ?_)
   · try exact nope c13
     all_goals have c13p := c13
     all_goals try simp [F] at c13p
     all_goals
      replace F := And.intro c13 F
      try replace F := And.intro c13p F
      refine run_skip ?_
      refine hK8 _ _ ?_
      refine sq fun K11 hK11 => ?_
      refine run_block_k ?_
      refine sq fun K12 hK12 => ?_
      refine sq fun K13 hK13 => ?_
      obtain ⟨i, rfl⟩ : ∃ i, n = i + 1 := ⟨n - 1, by simp at c13; omega⟩
      have hi : ((i + 1 : Nat) : Int) - 1 = (i : Int) := by omega
      rw [hi] at h7 F
      have hi16 : i < 16 := by omega
      have hgx := digU_get (b := 65536) (x := x) hi16
      have hgy := digU_get (b := 65536) (x := y) hi16
      have hii : (i : Int) < 16 := by omega
      obtain ⟨X, hX⟩ : ∃ X, X = x / 65536 ^ i % 65536 := ⟨_, rfl⟩
      obtain ⟨Y, hY⟩ : ∃ Y, Y = y / 65536 ^ i % 65536 := ⟨_, rfl⟩
      rw [← hX] at hgx
      rw [← hY] at hgy
      obtain ⟨_, hgx2⟩ := List.getElem?_eq_some_iff.1 hgx
      obtain ⟨_, hgy2⟩ := List.getElem?_eq_some_iff.1 hgy
      have hdx : List.drop i (u64s (digs 65536 16 x)) = .v (.int .u64 X) :: List.drop (i + 1) (u64s (digs 65536 16 x)) := by rw [List.drop_eq_getElem_cons (by simpa using hi16), hgx2]
      have hdy : List.drop i (u64s (digs 65536 16 y)) = .v (.int .u64 Y) :: List.drop (i + 1) (u64s (digs 65536 16 y)) := by rw [List.drop_eq_getElem_cons (by simpa using hi16), hgy2]
      replace F := And.intro hgx F
      replace F := And.intro hgy F
      replace F := And.intro hgx2 F
      replace F := And.intro hgy2 F
      replace F := And.intro hdx F
      replace F := And.intro hdy F
      replace F := And.intro hi16 F
      replace F := And.intro hii F
      refine run_draw (by kernel_rfl) fun J14 hJ14 => ?_
      refine rp2 0 (k := ?_)
      refine rp2 1 (k := ?_)
      refine rp2 2 (k := ?_)
      refine rp2 3 (k := ?_)
      refine rp2 4 (k := ?_)
      refine rp2 5 (k := ?_)
      refine rp2 6 (k := ?_)
      refine rp2 7 (k := ?_)
      refine rp2 8 (k := ?_)
      refine dd ?_
      refine hJ14 _ _ ?_
      refine hK13 _ _ ?_
      refine cs (fun c24 => ?_) (fun c24 => ?_)
      · try exact nope c24
        all_goals have c24p := c24
        all_goals try simp [F] at c24p
        all_goals
         replace F := And.intro c24 F
         try replace F := And.intro c24p F
         have hcI := cmpI_less (b := 65536) (n := 16) (by omega) hx4 hy4 hi16 (fun j h1 h2 => hE j h1 h2) (by rw [← hX, ← hY]; have h := c24; simp at h; exact h)
         replace F := And.intro hcI F
         refine sq fun K15 hK15 => ?_
         refine rg' (h := fun J16 hJ16 => ?_)
         refine hJ16 _ _ ?_
         refine hK15 _ _ ?_
         refine run_ret ?_
         try simp only [Then, InBlock, NoGoto]
         refine answer_tmp rfl (.inr rfl) ?_
         exact gcr
      try exact nope c24
      all_goals have c24p := c24
      all_goals try simp [F] at c24p
      all_goals
       replace F := And.intro c24 F
       try replace F := And.intro c24p F
       refine run_skip ?_
       refine hK12 _ _ ?_
       refine sq fun K17 hK17 => ?_
       refine run_draw (by kernel_rfl) fun J18 hJ18 => ?_
       refine rp2 0 (k := ?_)
       refine rp2 1 (k := ?_)
       refine rp2 2 (k := ?_)
       refine rp2 3 (k := ?_)
       refine rp2 4 (k := ?_)
       refine rp2 5 (k := ?_)
       refine rp2 6 (k := ?_)
       refine rp2 7 (k := ?_)
       refine rp2 8 (k := ?_)
       refine dd ?_
       refine hJ18 _ _ ?_
       refine hK17 _ _ ?_
       refine cs (fun c33 => ?_) (fun c33 => ?_)
       · try exact nope c33
         all_goals have c33p := c33
         all_goals try simp [F] at c33p
         all_goals
          replace F := And.intro c33 F
          try replace F := And.intro c33p F
          have hcI := cmpI_more (b := 65536) (n := 16) (by omega) hx4 hy4 hi16 (fun j h1 h2 => hE j h1 h2) (by rw [← hX, ← hY]; have h := c33; simp at h; exact h)
          replace F := And.intro hcI F
          refine sq fun K19 hK19 => ?_
          refine rg' (h := fun J20 hJ20 => ?_)
          refine hJ20 _ _ ?_
          refine hK19 _ _ ?_
          refine run_ret ?_
          try simp only [Then, InBlock, NoGoto]
          refine answer_tmp rfl (.inr rfl) ?_
          exact gcr
       try exact nope c33
       all_goals have c33p := c33
       all_goals try simp [F] at c33p
       all_goals
        replace F := And.intro c33 F
        try replace F := And.intro c33p F
        refine run_skip ?_
        refine hK11 _ _ ?_
        refine rg' (h := fun J21 hJ21 => ?_)
        refine hJ21 _ _ ?_
        refine ⟨(i), ⟨kp, lp, ?_, lp, lp⟩, lp⟩
        · intro j h1 h2
          by_cases hj : j = i
          · subst hj; rw [← hX, ← hY]; have h := c24; have h' := c33; simp at h h'; omega
          · exact hE j (by omega) h2
   try exact nope c13
   all_goals have c13p := c13
   all_goals try simp [F] at c13p
   all_goals
    replace F := And.intro c13 F
    try replace F := And.intro c13p F
    obtain rfl : n = 0 := by simp at c13; omega
    have hxy : x = y := by have := high_eq' (b := 65536) (n := 16) (i := 0) (by omega) hx4 hy4 (by omega) hE; simpa using this
    have hcI : cmpI x y = 0 := by rw [hxy]; exact cmpI_self y
    replace F := And.intro hcI F
    refine run_exit ?_
    refine hK5 _ _ ?_
    refine sq fun K22 hK22 => ?_
    refine rg' (h := fun J23 hJ23 => ?_)
    refine hJ23 _ _ ?_
    refine hK22 _ _ ?_
    refine run_ret ?_
    try simp only [Then, InBlock, NoGoto]
    refine answer_tmp rfl (.inr rfl) ?_
    exact gcr

end Go.Proofs.Ytdbaddholggkbaa
