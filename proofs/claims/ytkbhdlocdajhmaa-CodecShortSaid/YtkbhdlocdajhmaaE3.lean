import Derived.Test.YtkbhdlocdajhmaaE2
import Derived.Test.YtkbhdlocdajhmaaD5
/-
  Purses: what 'of' and 'List' make.
-/
namespace Go.Proofs.Ytkbhdlocdajhmaa
set_option linter.unnecessarySimpa false
open Go Go.Vm
set_option linter.unusedSimpArgs false
set_option linter.unusedVariables false
set_option maxRecDepth 100000

attribute [local simp] evalL wantedA isCall opA evalA evalAll evalsA evalOpt ofValue ofCell plain binA_eql_pn binA_neq_pn binA_gtr binA_lss binA_geq binA_leq binA_add binA_sub binA_eql binA_neq binA_or binA_shl binA_shr binA_mul binA_quo binA_rem binA_agg_eql binA_agg_neq convA_int unA_not fieldAddrA loadA partA pickA_true pickA_false pickA_bb lenA builtinA storeA splice AV.cells AV.isCell sliceA boundA intA callOf indexAddrA newObjA buildA fillA zeroA ofCells indexA fieldA coinsC_at

def purseA (P : List Num) : List AV := P.flatMap fun n => numA n.v
theorem purseA_len (P : List Num) : (purseA P).length = P.length * 4 := flat_length (fun n : Num => numA n.v) 4 (fun _ => rfl) P
theorem purseA_at {P : List Num} {d : Nat} (h : d < P.length) : (purseA P).drop (d * 4) = numA P[d].v ++ restC (fun n => numA n.v) P d := flat_at (fun n : Num => numA n.v) 4 (fun _ => rfl) P d h
theorem purseA_set {P : List Num} {d : Nat} (h : d < P.length) (n : Num) : (purseA P).take (d * 4) ++ (numA n.v ++ (purseA P).drop (d * 4 + 4)) = purseA (P.set d n) := by
  have := flat_set (fun n : Num => numA n.v) 4 (fun _ => rfl) P d h n
  unfold splice at this
  rw [List.append_assoc] at this
  exact this

def lstP (P : List Num) : Nat → List Coin
  | 0 => []
  | d + 1 => lstP P d ++ (match P[d]? with
    | some n => if n.v = 0 then [] else [⟨UInt8.ofNat d, n⟩]
    | none => [])
theorem lstP_len (P : List Num) : ∀ d, (lstP P d).length ≤ d
  | 0 => by simp [lstP]
  | d + 1 => by
    have := lstP_len P d
    simp only [lstP, List.length_append]
    split
    · split <;> simp <;> omega
    · simp; omega
theorem lstP_yes {P : List Num} {d : Nat} (h : d < P.length) (hz : ¬ P[d].v = 0) : lstP P (d + 1) = lstP P d ++ [⟨UInt8.ofNat d, P[d]⟩] := by
  simp [lstP, h, hz]
theorem lstP_no {P : List Num} {d : Nat} (h : d < P.length) (hz : P[d].v = 0) : lstP P (d + 1) = lstP P d := by
  simp [lstP, h, hz]

attribute [local simp] undefA List.getElem?_cons_zero List.getElem?_cons_succ in
theorem list_ok {σ : St} {P : List Num} (hP : P.length = 8) :
    CallsA Try.prog 58 [.agg (purseA P)] σ (fun av σ' => av = .sl 5 (coinsC (lstP P 8)) (lstP P 8).length .shut ∧ σ = σ') := by
  refine callsA_gcS ?_ (by simp [AV.under])
  have hpl : (purseA P).length = 32 := by rw [purseA_len, hP]
  refine callsA_body Try.func58 rfl rfl rfl ?_
  refine run_seq_k fun K1 hK1 => ?_
  refine run_region_k rfl fun J2 hJ2 => ?_
  repeat (first | simp [build_coin, append_slA, hpl] | simp (disch := omega) only [wC, if_pos, if_neg])
  refine hJ2 _ _ ?_
  refine hK1 _ _ ?_
  refine run_seq_k fun K3 hK3 => ?_
  refine run_region_k rfl fun J4 hJ4 => ?_
  repeat (first | simp [build_coin, append_slA, hpl] | simp (disch := omega) only [wC, if_pos, if_neg])
  refine hJ4 _ _ ?_
  refine hK3 _ _ ?_
  refine run_seq_k fun K5 hK5 => ?_
  refine run_seq_k fun K6 hK6 => ?_
  refine run_region_k rfl fun J7 hJ7 => ?_
  repeat (first | simp [build_coin, append_slA, hpl] | simp (disch := omega) only [wC, if_pos, if_neg])
  refine hJ7 _ _ ?_
  refine hK6 _ _ ?_
  refine run_block_k ?_
  refine run_loopF (X := Nat) [1, 2] (fun d ρ σ1 => (d ≤ 8) ∧ (ρ 3 = slA σ.toks.length (lstP P d)) ∧ (ρ 4 = .v (.int .i64 d)) ∧ (σ1 = { σ with objs := σ.objs ++ [purseA P], toks := σ.toks ++ tkA (lstP P d) })) (fun d => 8 - d) (0) ?st1 ?rd1
  case st1 =>
    refine ⟨?_, ?_, ?_, ?_⟩
    · first | rfl | omega | assumption | ((repeat (first | simp [build_coin, append_slA, hpl] | simp (disch := omega) only [wC, if_pos, if_neg])); first | done | omega) | (simp only [putA_get]; (repeat (first | simp (disch := omega) only [wC, if_pos, if_neg] | simp [build_coin, append_slA, hpl])); done)
    · simp [lstP]
    · first | rfl | omega | assumption | ((repeat (first | simp [build_coin, append_slA, hpl] | simp (disch := omega) only [wC, if_pos, if_neg])); first | done | omega) | (simp only [putA_get]; (repeat (first | simp (disch := omega) only [wC, if_pos, if_neg] | simp [build_coin, append_slA, hpl])); done)
    · simp [lstP]
  case rd1 =>
    rintro d ρ1 σ1 hF1 ⟨hj, h3, h4, hσ⟩
    obtain rfl := hσ.symm
    have f1_1 := hF1 1 (by decide)
    try simp [build_coin, append_slA, hpl] at f1_1
    have f1_2 := hF1 2 (by decide)
    try simp [build_coin, append_slA, hpl] at f1_2
    refine run_seq_k fun K8 hK8 => ?_
    refine run_seq_k fun K9 hK9 => ?_
    refine run_region_k rfl fun J10 hJ10 => ?_
    repeat (first | simp [build_coin, append_slA, hpl, h3, h4, f1_1, f1_2] | simp (disch := omega) only [wC, if_pos, if_neg])
    refine hJ10 _ _ ?_
    refine hK9 _ _ ?_
    refine run_cond_split (by first | rfl | (simp [build_coin, append_slA, hpl, h3, h4, f1_1, f1_2, evalA]; done)) (fun c6 => ?_) (fun c6 => ?_)
    · try (exfalso; have gq := c6; simp [build_coin, append_slA, hpl, h3, h4, f1_1, f1_2] at gq; first | done | omega)
      all_goals
       have c6p := c6
       try simp [build_coin, append_slA, hpl, h3, h4, f1_1, f1_2] at c6p
       all_goals (first | (have gq := c6p; skip) | have c6p : True := True.intro)
       all_goals
        refine run_skip ?_
        refine hK8 _ _ ?_
        refine run_seq_k fun K11 hK11 => ?_
        refine run_block_k ?_
        refine run_seq_k fun K12 hK12 => ?_
        have hd8 : d < P.length := by rw [hP]; simp at c6; omega
        have hdr := purseA_at hd8
        have hb1 : d * 4 + 4 ≤ 32 := by omega
        have hlt := lstP_len P d
        have : Small (lstP P d) := ⟨by omega⟩
        have hd5 : (d : Int) < 8 := by omega
        have hd6 : d < 8 := by omega
        have hcoin : AV.v (.int .u8 (d : Int)) :: numA P[d].v = coinC ⟨UInt8.ofNat d, P[d]⟩ := by simp [coinC]; omega
        refine run_region_k rfl fun J13 hJ13 => ?_
        repeat (first | simp [build_coin, append_slA, hpl, h3, h4, f1_1, f1_2, c6, c6p, hdr, hb1, hd5, hd6, hcoin] | simp (disch := omega) only [wC, if_pos, if_neg])
        refine runL_call' (b := true) (by first | rfl | (simp [build_coin, append_slA, hpl, h3, h4, f1_1, f1_2, c6, c6p, hdr, hb1, hd5, hd6, hcoin, wantedA]; done)) rfl rfl (by first | rfl | (simp [build_coin, append_slA, hpl, h3, h4, f1_1, f1_2, c6, c6p, hdr, hb1, hd5, hd6, hcoin, callOf]; done)) (by simp) (zero_ok) ?_
        rintro _ _ ⟨rfl, rfl⟩
        repeat (first | simp [build_coin, append_slA, hpl, h3, h4, f1_1, f1_2, c6, c6p, hdr, hb1, hd5, hd6, hcoin] | simp (disch := omega) only [wC, if_pos, if_neg])
        refine hJ13 _ _ ?_
        refine hK12 _ _ ?_
        refine run_cond_split (by first | rfl | (simp [build_coin, append_slA, hpl, h3, h4, f1_1, f1_2, c6, c6p, hdr, hb1, hd5, hd6, hcoin, evalA]; done)) (fun c13 => ?_) (fun c13 => ?_)
        · try (exfalso; have gq := c13; simp [build_coin, append_slA, hpl, h3, h4, f1_1, f1_2, c6, c6p, hdr, hb1, hd5, hd6, hcoin] at gq; first | done | omega)
          all_goals
           have c13p := c13
           try simp [build_coin, append_slA, hpl, h3, h4, f1_1, f1_2, c6, c6p, hdr, hb1, hd5, hd6, hcoin] at c13p
           all_goals (first | (have gq := c13p; skip) | have c13p : True := True.intro)
           all_goals
            refine run_region_k rfl fun J14 hJ14 => ?_
            repeat (first | simp [build_coin, append_slA, hpl, h3, h4, f1_1, f1_2, c6, c6p, hdr, hb1, hd5, hd6, hcoin, c13, c13p] | simp (disch := omega) only [wC, if_pos, if_neg])
            refine hJ14 _ _ ?_
            refine hK11 _ _ ?_
            refine run_region_k rfl fun J15 hJ15 => ?_
            repeat (first | simp [build_coin, append_slA, hpl, h3, h4, f1_1, f1_2, c6, c6p, hdr, hb1, hd5, hd6, hcoin, c13, c13p] | simp (disch := omega) only [wC, if_pos, if_neg])
            refine hJ15 _ _ ?_
            refine ⟨(d + 1), ⟨?_, ?_, ?_, ?_, ?_⟩, ?_⟩
            · (intro r hr; simp only [List.mem_cons, List.not_mem_nil, or_false] at hr; rcases hr with rfl | rfl <;> first | rfl | (simp [build_coin, append_slA, hpl, h3, h4, f1_1, f1_2, c6, c6p, hdr, hb1, hd5, hd6, hcoin, c13, c13p]; done))
            · first | rfl | omega | assumption | ((repeat (first | simp [build_coin, append_slA, hpl, h3, h4, f1_1, f1_2, c6, c6p, hdr, hb1, hd5, hd6, hcoin, c13, c13p] | simp (disch := omega) only [wC, if_pos, if_neg])); first | done | omega) | (simp only [putA_get]; (repeat (first | simp (disch := omega) only [wC, if_pos, if_neg] | simp [build_coin, append_slA, hpl, h3, h4, f1_1, f1_2, c6, c6p, hdr, hb1, hd5, hd6, hcoin, c13, c13p])); done)
            · simp [lstP_yes hd8 (by simpa using c13)]
            · first | rfl | omega | assumption | ((repeat (first | simp [build_coin, append_slA, hpl, h3, h4, f1_1, f1_2, c6, c6p, hdr, hb1, hd5, hd6, hcoin, c13, c13p] | simp (disch := omega) only [wC, if_pos, if_neg])); first | done | omega) | (simp only [putA_get]; (repeat (first | simp (disch := omega) only [wC, if_pos, if_neg] | simp [build_coin, append_slA, hpl, h3, h4, f1_1, f1_2, c6, c6p, hdr, hb1, hd5, hd6, hcoin, c13, c13p])); done)
            · simp [lstP_yes hd8 (by simpa using c13)]
            · first | rfl | omega | assumption | ((repeat (first | simp [build_coin, append_slA, hpl, h3, h4, f1_1, f1_2, c6, c6p, hdr, hb1, hd5, hd6, hcoin, c13, c13p] | simp (disch := omega) only [wC, if_pos, if_neg])); first | done | omega) | (simp only [putA_get]; (repeat (first | simp (disch := omega) only [wC, if_pos, if_neg] | simp [build_coin, append_slA, hpl, h3, h4, f1_1, f1_2, c6, c6p, hdr, hb1, hd5, hd6, hcoin, c13, c13p])); done)
        · try (exfalso; have gq := c13; simp [build_coin, append_slA, hpl, h3, h4, f1_1, f1_2, c6, c6p, hdr, hb1, hd5, hd6, hcoin] at gq; first | done | omega)
          all_goals
           have c13p := c13
           try simp [build_coin, append_slA, hpl, h3, h4, f1_1, f1_2, c6, c6p, hdr, hb1, hd5, hd6, hcoin] at c13p
           all_goals (first | (have gq := c13p; skip) | have c13p : True := True.intro)
           all_goals
            refine run_skip ?_
            refine hK11 _ _ ?_
            refine run_region_k rfl fun J16 hJ16 => ?_
            repeat (first | simp [build_coin, append_slA, hpl, h3, h4, f1_1, f1_2, c6, c6p, hdr, hb1, hd5, hd6, hcoin, c13, c13p] | simp (disch := omega) only [wC, if_pos, if_neg])
            refine hJ16 _ _ ?_
            refine ⟨(d + 1), ⟨?_, ?_, ?_, ?_, ?_⟩, ?_⟩
            · (intro r hr; simp only [List.mem_cons, List.not_mem_nil, or_false] at hr; rcases hr with rfl | rfl <;> first | rfl | (simp [build_coin, append_slA, hpl, h3, h4, f1_1, f1_2, c6, c6p, hdr, hb1, hd5, hd6, hcoin, c13, c13p]; done))
            · first | rfl | omega | assumption | ((repeat (first | simp [build_coin, append_slA, hpl, h3, h4, f1_1, f1_2, c6, c6p, hdr, hb1, hd5, hd6, hcoin, c13, c13p] | simp (disch := omega) only [wC, if_pos, if_neg])); first | done | omega) | (simp only [putA_get]; (repeat (first | simp (disch := omega) only [wC, if_pos, if_neg] | simp [build_coin, append_slA, hpl, h3, h4, f1_1, f1_2, c6, c6p, hdr, hb1, hd5, hd6, hcoin, c13, c13p])); done)
            · rw [lstP_no hd8 (by simpa using c13)]
              simp [build_coin, append_slA, hpl, h3, h4, f1_1, f1_2, c6, c6p, hdr, hb1, hd5, hd6, hcoin, c13, c13p]
            · first | rfl | omega | assumption | ((repeat (first | simp [build_coin, append_slA, hpl, h3, h4, f1_1, f1_2, c6, c6p, hdr, hb1, hd5, hd6, hcoin, c13, c13p] | simp (disch := omega) only [wC, if_pos, if_neg])); first | done | omega) | (simp only [putA_get]; (repeat (first | simp (disch := omega) only [wC, if_pos, if_neg] | simp [build_coin, append_slA, hpl, h3, h4, f1_1, f1_2, c6, c6p, hdr, hb1, hd5, hd6, hcoin, c13, c13p])); done)
            · rw [lstP_no hd8 (by simpa using c13)]
            · first | rfl | omega | assumption | ((repeat (first | simp [build_coin, append_slA, hpl, h3, h4, f1_1, f1_2, c6, c6p, hdr, hb1, hd5, hd6, hcoin, c13, c13p] | simp (disch := omega) only [wC, if_pos, if_neg])); first | done | omega) | (simp only [putA_get]; (repeat (first | simp (disch := omega) only [wC, if_pos, if_neg] | simp [build_coin, append_slA, hpl, h3, h4, f1_1, f1_2, c6, c6p, hdr, hb1, hd5, hd6, hcoin, c13, c13p])); done)
    · try (exfalso; have gq := c6; simp [build_coin, append_slA, hpl, h3, h4, f1_1, f1_2] at gq; first | done | omega)
      all_goals
       have c6p := c6
       try simp [build_coin, append_slA, hpl, h3, h4, f1_1, f1_2] at c6p
       all_goals (first | (have gq := c6p; skip) | have c6p : True := True.intro)
       all_goals
        refine run_exit ?_
        refine hK5 _ _ ?_
        refine run_seq_k fun K17 hK17 => ?_
        refine run_region_k rfl fun J18 hJ18 => ?_
        repeat (first | simp [build_coin, append_slA, hpl, h3, h4, f1_1, f1_2, c6, c6p] | simp (disch := omega) only [wC, if_pos, if_neg])
        refine hJ18 _ _ ?_
        refine hK17 _ _ ?_
        refine run_ret ?_
        try simp only [Then, InBlock, NoGoto]
        refine answer_tmp rfl (.inr rfl) ?_
        have hd8 : d = 8 := by simp at c6; omega
        subst hd8
        exact ⟨wk_slA _ _, [purseA P], tkA (lstP P 8), [], by simp⟩

def ofP (l : List Coin) : List Num := l.foldl (fun P c => P.set (c.d.toNat % 8) c.n) (List.replicate 8 Num.zero)
theorem ofP_snoc (l : List Coin) (c : Coin) : ofP (l ++ [c]) = (ofP l).set (c.d.toNat % 8) c.n := by simp [ofP]
theorem ofP_len (l : List Coin) : (ofP l).length = 8 := by
  have : ∀ (l : List Coin) (P : List Num), (l.foldl (fun P c => P.set (c.d.toNat % 8) c.n) P).length = P.length := by
    intro l
    induction l with
    | nil => intro P; rfl
    | cons c l ih => intro P; rw [List.foldl_cons, ih]; simp
  rw [ofP, this]; rfl

attribute [local simp] undefA List.getElem?_cons_zero List.getElem?_cons_succ in
theorem of_ok {σ : St} {l : List Coin} {tl : Tail} (hl : l.length ≤ 100000) :
    CallsA Try.prog 49 [.sl 5 (coinsC l) l.length tl] σ (fun av σ' => av = .sl 5 (coinsC (lstP (ofP l) 8)) (lstP (ofP l) 8).length .shut ∧ σ = σ') := by
  refine callsA_gcS ?_ (by simp [AV.under])
  refine callsA_body Try.func49 rfl rfl rfl ?_
  refine run_seq_k fun K1 hK1 => ?_
  refine run_region_k rfl fun J2 hJ2 => ?_
  repeat (first | simp [coinC] | simp (disch := omega) only [wC, if_pos, if_neg])
  refine hJ2 _ _ ?_
  refine hK1 _ _ ?_
  refine run_seq_k fun K3 hK3 => ?_
  refine run_region_k rfl fun J4 hJ4 => ?_
  repeat (first | simp [coinC] | simp (disch := omega) only [wC, if_pos, if_neg])
  refine hJ4 _ _ ?_
  refine hK3 _ _ ?_
  refine run_seq_k fun K5 hK5 => ?_
  refine run_seq_k fun K6 hK6 => ?_
  refine run_region_k rfl fun J7 hJ7 => ?_
  repeat (first | simp [coinC] | simp (disch := omega) only [wC, if_pos, if_neg])
  refine hJ7 _ _ ?_
  refine hK6 _ _ ?_
  refine run_block_k ?_
  refine run_loopF (X := Nat) [0, 2, 3] (fun i ρ σ1 => (i ≤ l.length) ∧ (ρ 4 = .v (.int .i64 i)) ∧ (σ1 = { σ with objs := σ.objs ++ [purseA (ofP (l.take i))] })) (fun i => l.length - i) (0) ?st1 ?rd1
  case st1 =>
    refine ⟨?_, ?_, ?_⟩
    · first | rfl | omega | assumption | ((repeat (first | simp [coinC] | simp (disch := omega) only [wC, if_pos, if_neg])); first | done | omega) | (simp only [putA_get]; (repeat (first | simp (disch := omega) only [wC, if_pos, if_neg] | simp [coinC])); done)
    · first | rfl | omega | assumption | ((repeat (first | simp [coinC] | simp (disch := omega) only [wC, if_pos, if_neg])); first | done | omega) | (simp only [putA_get]; (repeat (first | simp (disch := omega) only [wC, if_pos, if_neg] | simp [coinC])); done)
    · rfl
  case rd1 =>
    rintro i ρ1 σ1 hF1 ⟨hj, h4, hσ⟩
    obtain rfl := hσ.symm
    have f1_0 := hF1 0 (by decide)
    try simp [coinC] at f1_0
    have f1_2 := hF1 2 (by decide)
    try simp [coinC] at f1_2
    have f1_3 := hF1 3 (by decide)
    try simp [coinC] at f1_3
    refine run_seq_k fun K8 hK8 => ?_
    refine run_seq_k fun K9 hK9 => ?_
    refine run_region_k rfl fun J10 hJ10 => ?_
    repeat (first | simp [coinC, h4, f1_0, f1_2, f1_3] | simp (disch := omega) only [wC, if_pos, if_neg])
    refine hJ10 _ _ ?_
    refine hK9 _ _ ?_
    refine run_cond_split (by first | rfl | (simp [coinC, h4, f1_0, f1_2, f1_3, evalA]; done)) (fun c8 => ?_) (fun c8 => ?_)
    · try (exfalso; have gq := c8; simp [coinC, h4, f1_0, f1_2, f1_3] at gq; first | done | omega)
      all_goals
       have c8p := c8
       try simp [coinC, h4, f1_0, f1_2, f1_3] at c8p
       all_goals (first | (have gq := c8p; skip) | have c8p : True := True.intro)
       all_goals
        refine run_skip ?_
        refine hK8 _ _ ?_
        refine run_seq_k fun K11 hK11 => ?_
        refine run_block_k ?_
        obtain ⟨r, hr⟩ : ∃ r, r = l[i].d.toNat % 8 := ⟨_, rfl⟩
        have hr8 : r < 8 := by omega
        have hrr : (l[i].d.toNat : Int).tmod 8 = (r : Int) := by rw [Int.tmod_eq_emod_of_nonneg (by omega)]; omega
        have hrr2 : (l[i].d.toNat : Int) % 8 = (r : Int) := by omega
        have hr9 : (r : Int) < 8 := by omega
        have hlP := ofP_len (l.take i)
        have hpl : (purseA (ofP (l.take i))).length = 32 := by rw [purseA_len, hlP]
        have hset := purseA_set (P := ofP (l.take i)) (d := r) (by omega) l[i].n
        have hb1 : r * 4 + 4 ≤ 32 := by omega
        have hnx : ofP (l.take (i + 1)) = (ofP (l.take i)).set r l[i].n := by rw [take_snoc (by simp at c8; omega), ofP_snoc, hr]
        refine run_draw (by kernel_rfl) fun J12 hJ12 => ?_
        refine rp 0 rfl rfl (by kernel_rfl) ?_
        repeat (first | simp [coinC, h4, f1_0, f1_2, f1_3, c8, c8p, hrr, hrr2, hr8, hr9, hpl, hset, hb1] | simp (disch := omega) only [wC, if_pos, if_neg])
        refine rp 1 rfl rfl (by kernel_rfl) ?_
        repeat (first | simp [coinC, h4, f1_0, f1_2, f1_3, c8, c8p, hrr, hrr2, hr8, hr9, hpl, hset, hb1] | simp (disch := omega) only [wC, if_pos, if_neg])
        refine rp 2 rfl rfl (by kernel_rfl) ?_
        repeat (first | simp [coinC, h4, f1_0, f1_2, f1_3, c8, c8p, hrr, hrr2, hr8, hr9, hpl, hset, hb1] | simp (disch := omega) only [wC, if_pos, if_neg])
        refine rp 3 rfl rfl (by kernel_rfl) ?_
        repeat (first | simp [coinC, h4, f1_0, f1_2, f1_3, c8, c8p, hrr, hrr2, hr8, hr9, hpl, hset, hb1] | simp (disch := omega) only [wC, if_pos, if_neg])
        refine rp 4 rfl rfl (by kernel_rfl) ?_
        repeat (first | simp [coinC, h4, f1_0, f1_2, f1_3, c8, c8p, hrr, hrr2, hr8, hr9, hpl, hset, hb1] | simp (disch := omega) only [wC, if_pos, if_neg])
        refine rp 5 rfl rfl (by kernel_rfl) ?_
        repeat (first | simp [coinC, h4, f1_0, f1_2, f1_3, c8, c8p, hrr, hrr2, hr8, hr9, hpl, hset, hb1] | simp (disch := omega) only [wC, if_pos, if_neg])
        refine rp 6 rfl rfl (by kernel_rfl) ?_
        repeat (first | simp [coinC, h4, f1_0, f1_2, f1_3, c8, c8p, hrr, hrr2, hr8, hr9, hpl, hset, hb1] | simp (disch := omega) only [wC, if_pos, if_neg])
        refine rp 7 rfl rfl (by kernel_rfl) ?_
        repeat (first | simp [coinC, h4, f1_0, f1_2, f1_3, c8, c8p, hrr, hrr2, hr8, hr9, hpl, hset, hb1] | simp (disch := omega) only [wC, if_pos, if_neg])
        refine rp 8 rfl rfl (by kernel_rfl) ?_
        repeat (first | simp [coinC, h4, f1_0, f1_2, f1_3, c8, c8p, hrr, hrr2, hr8, hr9, hpl, hset, hb1] | simp (disch := omega) only [wC, if_pos, if_neg])
        refine rp 9 rfl rfl (by kernel_rfl) ?_
        repeat (first | simp [coinC, h4, f1_0, f1_2, f1_3, c8, c8p, hrr, hrr2, hr8, hr9, hpl, hset, hb1] | simp (disch := omega) only [wC, if_pos, if_neg])
        refine rp 10 rfl rfl (by kernel_rfl) ?_
        repeat (first | simp [coinC, h4, f1_0, f1_2, f1_3, c8, c8p, hrr, hrr2, hr8, hr9, hpl, hset, hb1] | simp (disch := omega) only [wC, if_pos, if_neg])
        refine rp 11 rfl rfl (by kernel_rfl) ?_
        repeat (first | simp [coinC, h4, f1_0, f1_2, f1_3, c8, c8p, hrr, hrr2, hr8, hr9, hpl, hset, hb1] | simp (disch := omega) only [wC, if_pos, if_neg])
        refine runD_op' 12 (by kernel_rfl) (by kernel_rfl) (by kernel_rfl) rfl (by kernel_rfl) (by kernel_rfl) (by kernel_rfl) ?_
        repeat (first | simp [coinC, h4, f1_0, f1_2, f1_3, c8, c8p, hrr, hrr2, hr8, hr9, hpl, hset, hb1] | simp (disch := omega) only [wC, if_pos, if_neg])
        refine ⟨later_nil (by kernel_rfl), ?_⟩
        refine runD_done (by kernel_rfl) (by kernel_rfl) (by kernel_rfl) ?_
        refine hJ12 _ _ ?_
        refine hK11 _ _ ?_
        refine run_region_k rfl fun J13 hJ13 => ?_
        repeat (first | simp [coinC, h4, f1_0, f1_2, f1_3, c8, c8p, hrr, hrr2, hr8, hr9, hpl, hset, hb1] | simp (disch := omega) only [wC, if_pos, if_neg])
        refine hJ13 _ _ ?_
        refine ⟨(i + 1), ⟨?_, ?_, ?_, ?_⟩, ?_⟩
        · (intro r hr; simp only [List.mem_cons, List.not_mem_nil, or_false] at hr; rcases hr with rfl | rfl | rfl <;> first | rfl | (simp [coinC, h4, f1_0, f1_2, f1_3, c8, c8p, hrr, hrr2, hr8, hr9, hpl, hset, hb1]; done))
        · first | rfl | omega | assumption | ((repeat (first | simp [coinC, h4, f1_0, f1_2, f1_3, c8, c8p, hrr, hrr2, hr8, hr9, hpl, hset, hb1] | simp (disch := omega) only [wC, if_pos, if_neg])); first | done | omega) | (simp only [putA_get]; (repeat (first | simp (disch := omega) only [wC, if_pos, if_neg] | simp [coinC, h4, f1_0, f1_2, f1_3, c8, c8p, hrr, hrr2, hr8, hr9, hpl, hset, hb1])); done)
        · first | rfl | omega | assumption | ((repeat (first | simp [coinC, h4, f1_0, f1_2, f1_3, c8, c8p, hrr, hrr2, hr8, hr9, hpl, hset, hb1] | simp (disch := omega) only [wC, if_pos, if_neg])); first | done | omega) | (simp only [putA_get]; (repeat (first | simp (disch := omega) only [wC, if_pos, if_neg] | simp [coinC, h4, f1_0, f1_2, f1_3, c8, c8p, hrr, hrr2, hr8, hr9, hpl, hset, hb1])); done)
        · simp [hnx]
        · first | rfl | omega | assumption | ((repeat (first | simp [coinC, h4, f1_0, f1_2, f1_3, c8, c8p, hrr, hrr2, hr8, hr9, hpl, hset, hb1] | simp (disch := omega) only [wC, if_pos, if_neg])); first | done | omega) | (simp only [putA_get]; (repeat (first | simp (disch := omega) only [wC, if_pos, if_neg] | simp [coinC, h4, f1_0, f1_2, f1_3, c8, c8p, hrr, hrr2, hr8, hr9, hpl, hset, hb1])); done)
    · try (exfalso; have gq := c8; simp [coinC, h4, f1_0, f1_2, f1_3] at gq; first | done | omega)
      all_goals
       have c8p := c8
       try simp [coinC, h4, f1_0, f1_2, f1_3] at c8p
       all_goals (first | (have gq := c8p; skip) | have c8p : True := True.intro)
       all_goals
        refine run_exit ?_
        refine hK5 _ _ ?_
        refine run_seq_k fun K14 hK14 => ?_
        have hfull : l.take i = l := List.take_of_length_le (by simp at c8; omega)
        rw [hfull]
        have hpl : (purseA (ofP l)).length = 32 := by rw [purseA_len, ofP_len]
        have htk : (purseA (ofP l)).take 32 = purseA (ofP l) := List.take_of_length_le (by omega)
        refine run_region_k rfl fun J15 hJ15 => ?_
        repeat (first | simp [coinC, h4, f1_0, f1_2, f1_3, c8, c8p, hpl, htk] | simp (disch := omega) only [wC, if_pos, if_neg])
        refine runL_call' (b := true) (by first | rfl | (simp [coinC, h4, f1_0, f1_2, f1_3, c8, c8p, hpl, htk, wantedA]; done)) rfl rfl (by first | rfl | (simp [coinC, h4, f1_0, f1_2, f1_3, c8, c8p, hpl, htk, callOf]; done)) (by simp) (list_ok (P := ofP l) (ofP_len _)) ?_
        rintro _ _ ⟨rfl, rfl⟩
        repeat (first | simp [coinC, h4, f1_0, f1_2, f1_3, c8, c8p, hpl, htk] | simp (disch := omega) only [wC, if_pos, if_neg])
        refine hJ15 _ _ ?_
        refine hK14 _ _ ?_
        refine run_ret ?_
        try simp only [Then, InBlock, NoGoto]
        refine answer_tmp rfl (.inr rfl) ?_
        exact ⟨by first | exact Wk.refl _ | (simp [coinC, h4, f1_0, f1_2, f1_3, c8, c8p, hpl, htk]; exact Wk.refl _) | (simp [*]; exact Wk.refl _) | exact Wk.shut _ _ _ _ | exact Wk.nil _ _ _, _, _, _, st_app (by first | rfl | exact (List.append_nil _).symm | (simp [coinC, h4, f1_0, f1_2, f1_3, c8, c8p, hpl, htk]; rfl) | (simp [coinC, h4, f1_0, f1_2, f1_3, c8, c8p, hpl, htk]; done)) (by first | rfl | exact (List.append_nil _).symm | (simp; rfl)) (by first | rfl | exact (List.append_nil _).symm | (simp; rfl)) rfl⟩

end Go.Proofs.Ytkbhdlocdajhmaa
