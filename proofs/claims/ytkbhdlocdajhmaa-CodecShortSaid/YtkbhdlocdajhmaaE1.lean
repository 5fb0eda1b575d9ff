import Derived.Test.YtkbhdlocdajhmaaW1
import Derived.Test.YtkbhdlocdajhmaaC9
/-
  The document's writer: numbers and lists of coins.
-/
namespace Go.Proofs.Ytkbhdlocdajhmaa
set_option linter.unnecessarySimpa false
open Go Go.Vm
set_option linter.unusedSimpArgs false
set_option linter.unusedVariables false
set_option maxRecDepth 100000

attribute [local simp] evalL wantedA isCall opA evalA evalAll evalsA evalOpt ofValue ofCell plain binA_eql_pn binA_neq_pn binA_gtr binA_lss binA_geq binA_leq binA_add binA_sub binA_eql binA_neq binA_or binA_shl binA_shr binA_mul binA_quo binA_rem binA_agg_eql binA_agg_neq convA_int unA_not fieldAddrA loadA partA pickA_true pickA_false pickA_bb lenA builtinA storeA splice AV.cells AV.isCell sliceA boundA intA callOf indexAddrA newObjA buildA fillA zeroA ofCells buildSliceA indexA fieldA coinsC_at

/-! ### Lists of bytes that are being made -/
def tkB (l : List UInt8) : List Nat := if l = [] then [] else [l.length]
@[simp] theorem tkB_nil : tkB [] = [] := rfl
theorem wrA_nil (k : Nat) : wrA k [] = .sl 0 [] 0 .full := rfl
class SmallB (l : List UInt8) : Prop where
  h : l.length ≤ 500000

theorem wk_wrA (k : Nat) (l : List UInt8) : Wk (wrA k l) (.sl 1 (bytesA l) l.length .shut) := by
  unfold wrA
  split
  · rename_i h; subst h; exact Wk.nil _ _ _
  · exact Wk.shut _ _ _ _

theorem append_wrA {l q : List UInt8} {tq : Tail} [hsm : SmallB l] {objs : List (List AV)} {tk : List Nat} {gl : Nat → Option (List AV)} {rows : List RowSt} (hq0 : q ≠ []) (hq : q.length ≤ 100000) :
    appendA Try.prog 22 (wrA tk.length l) (.sl 1 (bytesA q) q.length tq) ⟨objs, tk ++ tkB l, gl, rows⟩ = some (wrA tk.length (l ++ q), ⟨objs, tk ++ tkB (l ++ q), gl, rows⟩) := by
  have hl := hsm.h
  have hv : (Value.int IntKind.u8 0).cells.size = 1 := rfl
  by_cases h : l = []
  · subst h
    have h1 : q.length ≤ 140737488355328 := by omega
    have h2 : q.length ≤ 9223372036854775807 := by omega
    simp [wrA, tkB, appendA, readA, roomA, maxLen, hq0, h1, h2, hv]
  · have h1 : l.length + q.length ≤ 140737488355328 := by omega
    have h2 : l.length + q.length ≤ 9223372036854775807 := by omega
    simp [wrA, tkB, h, appendA, readA, roomA, maxLen, hq0, h1, h2, hv, bytesA_append]

theorem append_byte {l : List UInt8} {b : UInt8} [hsm : SmallB l] {objs : List (List AV)} {tk : List Nat} {gl : Nat → Option (List AV)} {rows : List RowSt} :
    appendA Try.prog 22 (wrA tk.length l) (.sl 1 [.v (.int .u8 b.toNat)] 1 .full) ⟨objs, tk ++ tkB l, gl, rows⟩ = some (wrA tk.length (l ++ [b]), ⟨objs, tk ++ tkB (l ++ [b]), gl, rows⟩) := append_wrA (q := [b]) (by simp) (by simp)

attribute [local simp] undefA List.getElem?_cons_zero List.getElem?_cons_succ in
theorem rflag_ok {σ : St} {b : Bool} : CallsA Try.prog 46 [.v (.bool b)] σ (fun av σ' => av = .sl 1 (bytesA [if b then 1 else 0]) 1 .full ∧ σ = σ') := by
  have hv : (Value.int IntKind.u8 0).cells.size = 1 := rfl
  refine callsA_body Try.func46 rfl rfl rfl ?_
  refine run_seq_k fun K1 hK1 => ?_
  refine run_region_k rfl fun J2 hJ2 => ?_
  repeat (first | simp [hv] | simp (disch := omega) only [wC, if_pos, if_neg])
  refine hJ2 _ _ ?_
  refine hK1 _ _ ?_
  refine run_seq_k fun K3 hK3 => ?_
  refine run_seq_k fun K4 hK4 => ?_
  refine run_region_k rfl fun J5 hJ5 => ?_
  repeat (first | simp [hv] | simp (disch := omega) only [wC, if_pos, if_neg])
  refine hJ5 _ _ ?_
  refine hK4 _ _ ?_
  refine run_cond_split (by first | rfl | (simp [hv, evalA]; done)) (fun c3 => ?_) (fun c3 => ?_)
  · try (exfalso; have gq := c3; simp [hv] at gq; first | done | omega)
    all_goals
     have c3p := c3
     try simp [hv] at c3p
     all_goals (first | (have gq := c3p; skip) | have c3p : True := True.intro)
     all_goals
      refine run_seq_k fun K6 hK6 => ?_
      refine run_region_k rfl fun J7 hJ7 => ?_
      repeat (first | simp [hv, c3, c3p] | simp (disch := omega) only [wC, if_pos, if_neg])
      refine hJ7 _ _ ?_
      refine hK6 _ _ ?_
      refine run_ret ?_
      try simp only [Then, InBlock, NoGoto]
      refine answer_tmp rfl (.inr rfl) ?_
      have e : b = true := (by simpa using c3)
      subst e
      exact ⟨rfl, rfl⟩
  · try (exfalso; have gq := c3; simp [hv] at gq; first | done | omega)
    all_goals
     have c3p := c3
     try simp [hv] at c3p
     all_goals (first | (have gq := c3p; skip) | have c3p : True := True.intro)
     all_goals
      refine run_skip ?_
      refine hK3 _ _ ?_
      refine run_seq_k fun K8 hK8 => ?_
      refine run_region_k rfl fun J9 hJ9 => ?_
      repeat (first | simp [hv, c3, c3p] | simp (disch := omega) only [wC, if_pos, if_neg])
      refine hJ9 _ _ ?_
      refine hK8 _ _ ?_
      refine run_ret ?_
      try simp only [Then, InBlock, NoGoto]
      refine answer_tmp rfl (.inr rfl) ?_
      have e : b = false := (by simpa using c3)
      subst e
      exact ⟨rfl, rfl⟩

attribute [local simp] undefA List.getElem?_cons_zero List.getElem?_cons_succ in
theorem rlong_ok {σ : St} {n size : Nat} (hn : n < 2 ^ 64) (hsz : size ≤ 8) :
    CallsA Try.prog 47 [.v (.int .u64 n), .v (.int .i64 size)] σ (fun av σ' => av = .sl 1 (bytesA (nBytes size n)) size .shut ∧ σ = σ') := by
  refine callsA_gcS ?_ (by simp [AV.under])
  have hv : (Value.int IntKind.u8 0).cells.size = 1 := rfl
  refine callsA_body Try.func47 rfl rfl rfl ?_
  refine run_seq_k fun K1 hK1 => ?_
  refine run_region_k rfl fun J2 hJ2 => ?_
  repeat (first | simp [hv, append_byte] | simp (disch := omega) only [wC, if_pos, if_neg])
  refine hJ2 _ _ ?_
  refine hK1 _ _ ?_
  refine run_seq_k fun K3 hK3 => ?_
  refine run_region_k rfl fun J4 hJ4 => ?_
  repeat (first | simp [hv, append_byte] | simp (disch := omega) only [wC, if_pos, if_neg])
  refine hJ4 _ _ ?_
  refine hK3 _ _ ?_
  refine run_seq_k fun K5 hK5 => ?_
  refine run_seq_k fun K6 hK6 => ?_
  refine run_region_k rfl fun J7 hJ7 => ?_
  repeat (first | simp [hv, append_byte] | simp (disch := omega) only [wC, if_pos, if_neg])
  refine hJ7 _ _ ?_
  refine hK6 _ _ ?_
  refine run_block_k ?_
  refine run_loopF (X := Nat) [0, 4] (fun q ρ σ1 => (q ≤ size) ∧ (ρ 5 = wrA σ.toks.length ((nBytes size n).take q)) ∧ (ρ 6 = .v (.int .i64 ((size : Int) - 1 - q))) ∧ (σ1 = { σ with toks := σ.toks ++ tkB ((nBytes size n).take q) })) (fun q => size - q) (0) ?st1 ?rd1
  case st1 =>
    refine ⟨?_, ?_, ?_, ?_⟩
    · first | rfl | omega | assumption | ((repeat (first | simp [hv, append_byte] | simp (disch := omega) only [wC, if_pos, if_neg])); first | done | omega) | (simp only [putA_get]; (repeat (first | simp (disch := omega) only [wC, if_pos, if_neg] | simp [hv, append_byte])); done)
    · simp [wrA_nil]
    · first | rfl | omega | assumption | ((repeat (first | simp [hv, append_byte] | simp (disch := omega) only [wC, if_pos, if_neg])); first | done | omega) | (simp only [putA_get]; (repeat (first | simp (disch := omega) only [wC, if_pos, if_neg] | simp [hv, append_byte])); done)
    · first | rfl | omega | assumption | ((repeat (first | simp [hv, append_byte] | simp (disch := omega) only [wC, if_pos, if_neg])); first | done | omega) | (simp only [putA_get]; (repeat (first | simp (disch := omega) only [wC, if_pos, if_neg] | simp [hv, append_byte])); done)
  case rd1 =>
    rintro q ρ1 σ1 hF1 ⟨hj, h5, h6, hσ⟩
    obtain rfl := hσ.symm
    have f1_0 := hF1 0 (by decide)
    try simp [hv, append_byte] at f1_0
    have f1_4 := hF1 4 (by decide)
    try simp [hv, append_byte] at f1_4
    refine run_seq_k fun K8 hK8 => ?_
    refine run_seq_k fun K9 hK9 => ?_
    refine run_region_k rfl fun J10 hJ10 => ?_
    repeat (first | simp [hv, append_byte, h5, h6, f1_0, f1_4] | simp (disch := omega) only [wC, if_pos, if_neg])
    refine hJ10 _ _ ?_
    refine hK9 _ _ ?_
    refine run_cond_split (by first | rfl | (simp [hv, append_byte, h5, h6, f1_0, f1_4, evalA]; done)) (fun c10 => ?_) (fun c10 => ?_)
    · try (exfalso; have gq := c10; simp [hv, append_byte, h5, h6, f1_0, f1_4] at gq; first | done | omega)
      all_goals
       have c10p := c10
       try simp [hv, append_byte, h5, h6, f1_0, f1_4] at c10p
       all_goals (first | (have gq := c10p; skip) | have c10p : True := True.intro)
       all_goals
        refine run_skip ?_
        refine hK8 _ _ ?_
        refine run_seq_k fun K11 hK11 => ?_
        refine run_block_k ?_
        obtain ⟨i, hi⟩ : ∃ i, i = size - 1 - q := ⟨_, rfl⟩
        have he : (size : Int) - 1 - q = (i : Int) := by omega
        have hi8 : i < 8 := by omega
        obtain ⟨b, hb⟩ : ∃ b, b = UInt8.ofNat (n / 2 ^ (8 * i) % 256) := ⟨_, rfl⟩
        have hbn : b.toNat = n / 2 ^ (8 * i) % 256 := by rw [hb]; exact toNat_ofNat (by omega)
        have hnx : (nBytes size n).take (q + 1) = (nBytes size n).take q ++ [b] := by rw [take_snoc (by rw [nBytes_len]; omega)]; simp [nBytes, hb, hi]
        have : SmallB ((nBytes size n).take q) := ⟨by simp [nBytes_len]; omega⟩
        have hnn : ¬ 8 * (i : Int) < 0 := by omega
        have hsh : Int.fdiv (n : Int) (2 ^ (min (8 * (i : Int)).toNat 64)) = ((n / 2 ^ (8 * i) : Nat) : Int) := by rw [show min (8 * (i : Int)).toNat 64 = 8 * i by omega, Int.fdiv_eq_ediv_of_nonneg _ (by exact Int.le_of_lt (Int.pow_pos (by omega)))]; simp
        have hcv : IntKind.u8.wrap ((n / 2 ^ (8 * i) : Nat) : Int) = (b.toNat : Int) := by rw [wrap_u8, hbn]
        generalize n / 2 ^ (8 * i) = z at *
        refine run_region_k rfl fun J12 hJ12 => ?_
        repeat (first | simp [hv, append_byte, h5, h6, f1_0, f1_4, c10, c10p, he, hnn, hsh, hcv] | simp (disch := omega) only [wC, if_pos, if_neg])
        refine hJ12 _ _ ?_
        refine hK11 _ _ ?_
        refine run_region_k rfl fun J13 hJ13 => ?_
        repeat (first | simp [hv, append_byte, h5, h6, f1_0, f1_4, c10, c10p, he, hnn, hsh, hcv] | simp (disch := omega) only [wC, if_pos, if_neg])
        refine hJ13 _ _ ?_
        refine ⟨(q + 1), ⟨?_, ?_, ?_, ?_, ?_⟩, ?_⟩
        · (intro r hr; simp only [List.mem_cons, List.not_mem_nil, or_false] at hr; rcases hr with rfl | rfl <;> first | rfl | (simp [hv, append_byte, h5, h6, f1_0, f1_4, c10, c10p, he, hnn, hsh, hcv]; done))
        · first | rfl | omega | assumption | ((repeat (first | simp [hv, append_byte, h5, h6, f1_0, f1_4, c10, c10p, he, hnn, hsh, hcv] | simp (disch := omega) only [wC, if_pos, if_neg])); first | done | omega) | (simp only [putA_get]; (repeat (first | simp (disch := omega) only [wC, if_pos, if_neg] | simp [hv, append_byte, h5, h6, f1_0, f1_4, c10, c10p, he, hnn, hsh, hcv])); done)
        · simp [hnx]
        · simp
          omega
        · simp [hnx]
        · first | rfl | omega | assumption | ((repeat (first | simp [hv, append_byte, h5, h6, f1_0, f1_4, c10, c10p, he, hnn, hsh, hcv] | simp (disch := omega) only [wC, if_pos, if_neg])); first | done | omega) | (simp only [putA_get]; (repeat (first | simp (disch := omega) only [wC, if_pos, if_neg] | simp [hv, append_byte, h5, h6, f1_0, f1_4, c10, c10p, he, hnn, hsh, hcv])); done)
    · try (exfalso; have gq := c10; simp [hv, append_byte, h5, h6, f1_0, f1_4] at gq; first | done | omega)
      all_goals
       have c10p := c10
       try simp [hv, append_byte, h5, h6, f1_0, f1_4] at c10p
       all_goals (first | (have gq := c10p; skip) | have c10p : True := True.intro)
       all_goals
        refine run_exit ?_
        refine hK5 _ _ ?_
        refine run_seq_k fun K14 hK14 => ?_
        refine run_region_k rfl fun J15 hJ15 => ?_
        repeat (first | simp [hv, append_byte, h5, h6, f1_0, f1_4, c10, c10p] | simp (disch := omega) only [wC, if_pos, if_neg])
        refine hJ15 _ _ ?_
        refine hK14 _ _ ?_
        refine run_ret ?_
        try simp only [Then, InBlock, NoGoto]
        refine answer_tmp rfl (.inr rfl) ?_
        have hfull : (nBytes size n).take q = nBytes size n := List.take_of_length_le (by rw [nBytes_len]; simp at c10; omega)
        have hwk := wk_wrA σ.toks.length (nBytes size n)
        rw [nBytes_len] at hwk
        rw [hfull]
        exact ⟨by simpa [hv, append_byte, h5, h6, f1_0, f1_4, c10, c10p, hfull] using hwk, [], tkB (nBytes size n), [], by simp⟩

/-! ### The sixteen digits of a number -/
def dgA (l : List Nat) : List AV := l.map fun d => .v (.int .u64 (d : Nat))
def slD (k : Nat) (l : List Nat) : AV := if l = [] then .sl 0 [] 0 .full else .sl 1 (dgA l) l.length (.own k)
def tkD (l : List Nat) : List Nat := if l = [] then [] else [l.length]
@[simp] theorem tkD_nil : tkD [] = [] := rfl
theorem slD_nil (k : Nat) : slD k [] = .sl 0 [] 0 .full := rfl
@[simp] theorem dgA_len (l : List Nat) : (dgA l).length = l.length := by simp [dgA]
theorem under_dgA (B : Bd) : ∀ l : List Nat, underL B (dgA l) = true
  | [] => rfl
  | d :: l => under_dgA B l
class SmallN (l : List Nat) : Prop where
  h : l.length ≤ 1000
theorem wk_slD (k : Nat) (l : List Nat) : Wk (slD k l) (.sl 1 (dgA l) l.length .shut) := by
  unfold slD
  split
  · rename_i h; subst h; exact Wk.nil _ _ _
  · exact Wk.shut _ _ _ _
theorem append_digit {l : List Nat} {d : Nat} [hsm : SmallN l] {objs : List (List AV)} {tk : List Nat} {gl : Nat → Option (List AV)} {rows : List RowSt} :
    appendA Try.prog 92 (slD tk.length l) (.sl 1 [.v (.int .u64 (d : Nat))] 1 .full) ⟨objs, tk ++ tkD l, gl, rows⟩ = some (slD tk.length (l ++ [d]), ⟨objs, tk ++ tkD (l ++ [d]), gl, rows⟩) := by
  have hl := hsm.h
  have hv : (Value.int IntKind.u64 0).cells.size = 1 := rfl
  by_cases h : l = []
  · subst h
    simp [slD, tkD, appendA, readA, roomA, maxLen, hv, dgA]
  · have h1 : (l.length + 1) * 8 ≤ 140737488355328 := by omega
    have h2 : l.length + 1 ≤ 9223372036854775807 := by omega
    simp [slD, tkD, h, appendA, readA, roomA, maxLen, h1, h2, hv, dgA]

def digs (x : Nat) : List Nat := (List.range 16).map fun i => x / 65536 ^ i % 65536
theorem digs_len (x : Nat) : (digs x).length = 16 := by simp [digs]
theorem limb_dig {x i : Nat} (hi : i < 16) : limb x (i / 4) / 2 ^ (16 * (i % 4)) % 65536 = x / 65536 ^ i % 65536 := by
  have e : (65536 : Nat) ^ i = 2 ^ (16 * i) := by rw [Nat.pow_mul]
  rw [e]
  apply Nat.eq_of_testBit_eq
  intro j
  rw [show (65536 : Nat) = 2 ^ 16 by rfl]
  simp only [Nat.testBit_mod_two_pow, Nat.testBit_div_two_pow, limb_bit]
  by_cases hj : j < 16
  · have h1 : 16 * (i % 4) + j < 64 := by omega
    have h2 : 64 * (i / 4) + (j + 16 * (i % 4)) = j + 16 * i := by omega
    simp [hj, h2]
    omega
  · simp [hj]

attribute [local simp] undefA List.getElem?_cons_zero List.getElem?_cons_succ in
theorem digits_ok {σ : St} {x : Nat} :
    CallsA Try.prog 61 [.agg (numA x)] σ (fun av σ' => av = .sl 1 (dgA (digs x)) 16 .shut ∧ σ = σ') := by
  refine callsA_gcS ?_ (by simp [AV.under, under_dgA])
  have hv : (Value.int IntKind.u64 0).cells.size = 1 := rfl
  refine callsA_body Try.func61 rfl rfl rfl ?_
  refine run_seq_k fun K1 hK1 => ?_
  refine run_region_k rfl fun J2 hJ2 => ?_
  repeat (first | simp [hv, append_digit] | simp (disch := omega) only [wC, if_pos, if_neg])
  refine hJ2 _ _ ?_
  refine hK1 _ _ ?_
  refine run_seq_k fun K3 hK3 => ?_
  refine run_region_k rfl fun J4 hJ4 => ?_
  repeat (first | simp [hv, append_digit] | simp (disch := omega) only [wC, if_pos, if_neg])
  refine hJ4 _ _ ?_
  refine hK3 _ _ ?_
  refine run_seq_k fun K5 hK5 => ?_
  refine run_seq_k fun K6 hK6 => ?_
  refine run_region_k rfl fun J7 hJ7 => ?_
  repeat (first | simp [hv, append_digit] | simp (disch := omega) only [wC, if_pos, if_neg])
  refine hJ7 _ _ ?_
  refine hK6 _ _ ?_
  refine run_block_k ?_
  refine run_loopF (X := Nat) [1, 2] (fun i ρ σ1 => (i ≤ 16) ∧ (ρ 3 = slD σ.toks.length ((digs x).take i)) ∧ (ρ 4 = .v (.int .i64 i)) ∧ (σ1 = { σ with objs := σ.objs ++ [numA x], toks := σ.toks ++ tkD ((digs x).take i) })) (fun i => 16 - i) (0) ?st1 ?rd1
  case st1 =>
    refine ⟨?_, ?_, ?_, ?_⟩
    · first | rfl | omega | assumption | ((repeat (first | simp [hv, append_digit] | simp (disch := omega) only [wC, if_pos, if_neg])); first | done | omega) | (simp only [putA_get]; (repeat (first | simp (disch := omega) only [wC, if_pos, if_neg] | simp [hv, append_digit])); done)
    · simp [slD_nil]
    · first | rfl | omega | assumption | ((repeat (first | simp [hv, append_digit] | simp (disch := omega) only [wC, if_pos, if_neg])); first | done | omega) | (simp only [putA_get]; (repeat (first | simp (disch := omega) only [wC, if_pos, if_neg] | simp [hv, append_digit])); done)
    · first | rfl | omega | assumption | ((repeat (first | simp [hv, append_digit] | simp (disch := omega) only [wC, if_pos, if_neg])); first | done | omega) | (simp only [putA_get]; (repeat (first | simp (disch := omega) only [wC, if_pos, if_neg] | simp [hv, append_digit])); done)
  case rd1 =>
    rintro i ρ1 σ1 hF1 ⟨hj, h3, h4, hσ⟩
    obtain rfl := hσ.symm
    have f1_1 := hF1 1 (by decide)
    try simp [hv, append_digit] at f1_1
    have f1_2 := hF1 2 (by decide)
    try simp [hv, append_digit] at f1_2
    refine run_seq_k fun K8 hK8 => ?_
    refine run_seq_k fun K9 hK9 => ?_
    refine run_region_k rfl fun J10 hJ10 => ?_
    repeat (first | simp [hv, append_digit, h3, h4, f1_1, f1_2] | simp (disch := omega) only [wC, if_pos, if_neg])
    refine hJ10 _ _ ?_
    refine hK9 _ _ ?_
    refine run_cond_split (by first | rfl | (simp [hv, append_digit, h3, h4, f1_1, f1_2, evalA]; done)) (fun c6 => ?_) (fun c6 => ?_)
    · try (exfalso; have gq := c6; simp [hv, append_digit, h3, h4, f1_1, f1_2] at gq; first | done | omega)
      all_goals
       have c6p := c6
       try simp [hv, append_digit, h3, h4, f1_1, f1_2] at c6p
       all_goals (first | (have gq := c6p; skip) | have c6p : True := True.intro)
       all_goals
        refine run_skip ?_
        refine hK8 _ _ ?_
        refine run_seq_k fun K11 hK11 => ?_
        refine run_block_k ?_
        obtain ⟨q, hq⟩ : ∃ q, q = i / 4 := ⟨_, rfl⟩
        obtain ⟨r, hr⟩ : ∃ r, r = i % 4 := ⟨_, rfl⟩
        have hq4 : q < 4 := by omega
        have hq5 : (q : Int) < 4 := by omega
        have hr8 : r < 4 := by omega
        have hqq : IntKind.i64.wrap ((i : Int).tdiv 4) = (q : Int) := by rw [Int.tdiv_eq_ediv_of_nonneg (by omega), wrap_i64 _ (by omega) (by omega)]; omega
        have hrr : (i : Int).tmod 4 = (r : Int) := by rw [Int.tmod_eq_emod_of_nonneg (by omega)]; omega
        have hq2 : IntKind.i64.wrap ((i : Int) / 4) = (q : Int) := by rw [wrap_i64 _ (by omega) (by omega)]; omega
        have hr2 : (i : Int) % 4 = (r : Int) := by omega
        have hnn : ¬ 16 * (r : Int) < 0 := by omega
        obtain ⟨m, hm⟩ : ∃ m, m = limb x q / 2 ^ (16 * r) := ⟨_, rfl⟩
        obtain ⟨y, hy⟩ : ∃ y, y = x / 65536 ^ i % 65536 := ⟨_, rfl⟩
        have hmy : m % 65536 = y := by rw [hm, hq, hr, hy]; exact limb_dig (by omega)
        have hsh : Int.fdiv ((limb x q : Nat) : Int) (2 ^ (min (16 * (r : Int)).toNat 64)) = (m : Int) := by rw [show min (16 * (r : Int)).toNat 64 = 16 * r by omega, Int.fdiv_eq_ediv_of_nonneg _ (by exact Int.le_of_lt (Int.pow_pos (by omega))), hm]; simp
        have hmd : (m : Int).tmod 65536 = (y : Int) := by rw [Int.tmod_eq_emod_of_nonneg (by omega)]; omega
        have hmd2 : (m : Int) % 65536 = (y : Int) := by omega
        have hget := numA_get x hq4
        have hnx : (digs x).take (i + 1) = (digs x).take i ++ [y] := by rw [take_snoc (by rw [digs_len]; omega)]; simp [digs, hy]
        have : SmallN ((digs x).take i) := ⟨by simp [digs_len]; omega⟩
        refine run_region_k rfl fun J12 hJ12 => ?_
        repeat (first | simp [hv, append_digit, h3, h4, f1_1, f1_2, c6, c6p, hqq, hrr, hq2, hr2, hq4, hq5, hnn, hsh, hmd, hmd2, hget] | simp (disch := omega) only [wC, if_pos, if_neg])
        refine hJ12 _ _ ?_
        refine hK11 _ _ ?_
        refine run_region_k rfl fun J13 hJ13 => ?_
        repeat (first | simp [hv, append_digit, h3, h4, f1_1, f1_2, c6, c6p, hqq, hrr, hq2, hr2, hq4, hq5, hnn, hsh, hmd, hmd2, hget] | simp (disch := omega) only [wC, if_pos, if_neg])
        refine hJ13 _ _ ?_
        refine ⟨(i + 1), ⟨?_, ?_, ?_, ?_, ?_⟩, ?_⟩
        · (intro r hr; simp only [List.mem_cons, List.not_mem_nil, or_false] at hr; rcases hr with rfl | rfl <;> first | rfl | (simp [hv, append_digit, h3, h4, f1_1, f1_2, c6, c6p, hqq, hrr, hq2, hr2, hq4, hq5, hnn, hsh, hmd, hmd2, hget]; done))
        · first | rfl | omega | assumption | ((repeat (first | simp [hv, append_digit, h3, h4, f1_1, f1_2, c6, c6p, hqq, hrr, hq2, hr2, hq4, hq5, hnn, hsh, hmd, hmd2, hget] | simp (disch := omega) only [wC, if_pos, if_neg])); first | done | omega) | (simp only [putA_get]; (repeat (first | simp (disch := omega) only [wC, if_pos, if_neg] | simp [hv, append_digit, h3, h4, f1_1, f1_2, c6, c6p, hqq, hrr, hq2, hr2, hq4, hq5, hnn, hsh, hmd, hmd2, hget])); done)
        · simp [hnx]
        · first | rfl | omega | assumption | ((repeat (first | simp [hv, append_digit, h3, h4, f1_1, f1_2, c6, c6p, hqq, hrr, hq2, hr2, hq4, hq5, hnn, hsh, hmd, hmd2, hget] | simp (disch := omega) only [wC, if_pos, if_neg])); first | done | omega) | (simp only [putA_get]; (repeat (first | simp (disch := omega) only [wC, if_pos, if_neg] | simp [hv, append_digit, h3, h4, f1_1, f1_2, c6, c6p, hqq, hrr, hq2, hr2, hq4, hq5, hnn, hsh, hmd, hmd2, hget])); done)
        · simp [hnx]
        · first | rfl | omega | assumption | ((repeat (first | simp [hv, append_digit, h3, h4, f1_1, f1_2, c6, c6p, hqq, hrr, hq2, hr2, hq4, hq5, hnn, hsh, hmd, hmd2, hget] | simp (disch := omega) only [wC, if_pos, if_neg])); first | done | omega) | (simp only [putA_get]; (repeat (first | simp (disch := omega) only [wC, if_pos, if_neg] | simp [hv, append_digit, h3, h4, f1_1, f1_2, c6, c6p, hqq, hrr, hq2, hr2, hq4, hq5, hnn, hsh, hmd, hmd2, hget])); done)
    · try (exfalso; have gq := c6; simp [hv, append_digit, h3, h4, f1_1, f1_2] at gq; first | done | omega)
      all_goals
       have c6p := c6
       try simp [hv, append_digit, h3, h4, f1_1, f1_2] at c6p
       all_goals (first | (have gq := c6p; skip) | have c6p : True := True.intro)
       all_goals
        refine run_exit ?_
        refine hK5 _ _ ?_
        refine run_seq_k fun K14 hK14 => ?_
        refine run_region_k rfl fun J15 hJ15 => ?_
        repeat (first | simp [hv, append_digit, h3, h4, f1_1, f1_2, c6, c6p] | simp (disch := omega) only [wC, if_pos, if_neg])
        refine hJ15 _ _ ?_
        refine hK14 _ _ ?_
        refine run_ret ?_
        try simp only [Then, InBlock, NoGoto]
        refine answer_tmp rfl (.inr rfl) ?_
        have hfull : (digs x).take i = digs x := List.take_of_length_le (by rw [digs_len]; simp at c6; omega)
        have hwk := wk_slD σ.toks.length (digs x)
        rw [digs_len] at hwk
        rw [hfull]
        exact ⟨by simpa [hv, append_digit, h3, h4, f1_1, f1_2, c6, c6p, hfull] using hwk, [numA x], tkD (digs x), [], by simp⟩

end Go.Proofs.Ytkbhdlocdajhmaa
