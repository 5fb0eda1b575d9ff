import Derived.Test.YtkbhdlocdajhmaaD2
/-
  The document's reader: numbers.
-/
namespace Go.Proofs.Ytkbhdlocdajhmaa
set_option linter.unnecessarySimpa false
open Go Go.Vm
set_option linter.unusedSimpArgs false
set_option linter.unusedVariables false
set_option maxRecDepth 100000

attribute [local simp] evalL wantedA isCall opA evalA evalAll evalsA evalOpt ofValue ofCell plain binA_eql_pn binA_neq_pn binA_gtr binA_lss binA_geq binA_leq binA_add binA_sub binA_eql binA_neq binA_or binA_shl binA_shr binA_mul binA_quo binA_rem binA_agg_eql binA_agg_neq convA_int unA_not fieldAddrA loadA partA pickA_true pickA_false pickA_bb lenA builtinA storeA splice AV.cells AV.isCell sliceA boundA intA callOf indexAddrA newObjA buildA fillA zeroA ofCells buildSliceA indexA fieldA coinsC_at coinC inC

theorem later_more2 {P : Program} {l r1 r2 : List (List AV)} {cs : List AV} {tk : List Nat} {gl : Nat → Option (List AV)} {rs : List RowSt} {ops : Array Oper} {D : List Nat} {o : Oper} {ρ : Nat → AV} (hp : ((later D o).all fun i => match ops[i]? with | some o => !isE o.op | none => true) = true) (e : r2 = r1 ++ [cs]) :
    ∀ j, j ∈ later D o → Fact P ops ρ ⟨l ++ r1, tk, gl, rs⟩ j → Fact P ops ρ ⟨l ++ r2, tk, gl, rs⟩ j := by
  subst e
  have := later_more (P := P) (σ := ⟨l ++ r1, tk, gl, rs⟩) (ops := ops) (D := D) (o := o) (ρ := ρ) cs hp
  simpa using this

/-- What an operation answers that looks at a temporary alone. -/
def isTmpOp : Op → Bool
  | .move (.tmp _) | .assign (.tmp _) | .extract (.tmp _) _ => true
  | _ => false

theorem opA_tmp {P : Program} {ρ : Nat → AV} {σ σ' : St} {op : Op} {v : AV} (h : isTmpOp op = true) (hv : opA P ρ σ op = some (v, σ)) : opA P ρ σ' op = some (v, σ') := by
  unfold isTmpOp at h
  split at h
  · simp [opA, evalA] at hv ⊢; exact hv
  · simp [opA, evalA] at hv ⊢; exact hv
  · rename_i x i
    simp only [opA, evalA] at hv ⊢
    cases hx : ρ x <;> simp [hx] at hv ⊢
    exact hv
  · cases h

theorem later_tmp {P : Program} {σ σ' : St} {ops : Array Oper} {D : List Nat} {o : Oper} {ρ : Nat → AV} (hp : ((later D o).all fun i => match ops[i]? with | some o => isTmpOp o.op | none => true) = true) :
    ∀ j, j ∈ later D o → Fact P ops ρ σ j → Fact P ops ρ σ' j := by
  intro j hj ⟨o', x, ho, hx, h⟩
  have hp := List.all_eq_true.1 hp j hj
  rw [ho] at hp
  exact ⟨o', x, ho, hx, h.imp (fun ⟨h1, h2⟩ => ⟨h1, opA_tmp hp h2⟩) id⟩

/-- A byte that is added where only noughts stand below and at it. -/
theorem limb_plus {x b k q r : Nat} (hb : b < 256) (hr : r < 8) (hk : 8 * q + r = k) (hx : x % 256 ^ (k + 1) = 0) : limb x q ||| b <<< (8 * r) = limb x q + b * 2 ^ (8 * r) ∧ x ||| b <<< (8 * k) = x + b * 256 ^ k ∧ limb x q + b * 2 ^ (8 * r) < 18446744073709551616 := by
  have e256 : ∀ n, (256 : Nat) ^ n = 2 ^ (8 * n) := fun n => by rw [Nat.pow_mul]
  obtain ⟨y, hy⟩ : ∃ y, x = 256 ^ (k + 1) * y := ⟨x / 256 ^ (k + 1), by have := Nat.div_add_mod x (256 ^ (k + 1)); omega⟩
  have h1 : x ||| b <<< (8 * k) = x + b * 256 ^ k := by
    have hlt : b <<< (8 * k) < 2 ^ (8 * (k + 1)) := by
      rw [Nat.shiftLeft_eq, show 8 * (k + 1) = 8 + 8 * k by omega, Nat.pow_add]
      exact Nat.mul_lt_mul_of_pos_right hb (Nat.pow_pos (by omega))
    have := Nat.shiftLeft_add_eq_or_of_lt hlt y
    rw [Nat.shiftLeft_eq, ← e256, Nat.mul_comm, ← hy] at this
    rw [← this, Nat.shiftLeft_eq, e256]
  obtain ⟨z, hz, hz2⟩ : ∃ z, limb x q = z * 2 ^ (8 * r + 8) ∧ z * 2 ^ (8 * r + 8) < 2 ^ 64 := by
    have e1 : x = 2 ^ (64 * q) * (2 ^ (8 * r + 8) * y) := by
      rw [hy, e256, ← Nat.mul_assoc, ← Nat.pow_add]
      congr 2; omega
    have e2 : x / 2 ^ (64 * q) = 2 ^ (8 * r + 8) * y := by
      rw [e1, Nat.mul_div_cancel_left _ (Nat.pow_pos (by omega))]
    have e3 : limb x q = 2 ^ (8 * r + 8) * (y % 2 ^ (64 - (8 * r + 8))) := by
      unfold limb
      rw [e2]
      conv => lhs; rw [show (2 : Nat) ^ 64 = 2 ^ (8 * r + 8) * 2 ^ (64 - (8 * r + 8)) by rw [← Nat.pow_add]; congr 1; omega]
      rw [Nat.mul_mod_mul_left]
    refine ⟨y % 2 ^ (64 - (8 * r + 8)), by rw [e3, Nat.mul_comm], ?_⟩
    rw [Nat.mul_comm, ← e3]
    exact limb_lt x q
  have hlt : b <<< (8 * r) < 2 ^ (8 * r + 8) := by
    rw [Nat.shiftLeft_eq, show 8 * r + 8 = 8 + 8 * r by omega, Nat.pow_add]
    exact Nat.mul_lt_mul_of_pos_right hb (Nat.pow_pos (by omega))
  have h2 : limb x q ||| b <<< (8 * r) = limb x q + b * 2 ^ (8 * r) := by
    have := Nat.shiftLeft_add_eq_or_of_lt hlt z
    rw [Nat.shiftLeft_eq, ← hz] at this
    rw [← this, Nat.shiftLeft_eq]
  refine ⟨h2, h1, ?_⟩
  rw [← h2]
  have hs : b <<< (8 * r) < 2 ^ 64 := Nat.lt_of_lt_of_le hlt (Nat.pow_le_pow_right (by omega) (by omega))
  exact Nat.or_lt_two_pow (n := 64) (limb_lt x q) hs

theorem numA_plus {x b k q r : Nat} (hb : b < 256) (hq : q < 4) (hr : r < 8) (hk : 8 * q + r = k) (hx : x % 256 ^ (k + 1) = 0) :
    (numA x).take q ++ .v (.int .u64 ((limb x q + b * 2 ^ (8 * r) : Nat) : Int)) :: (numA x).drop (q + 1) = numA (x + b * 256 ^ k) := by
  obtain ⟨h1, h2, _⟩ := limb_plus hb hr hk hx
  have := numA_put (x := x) hb hq hr hk
  rw [h1, h2] at this
  exact this

theorem be_take_step {p : List UInt8} {i : Nat} (h : i < p.length) : be (p.take (i + 1)) * 256 ^ (p.length - (i + 1)) = be (p.take i) * 256 ^ (p.length - i) + p[i].toNat * 256 ^ (p.length - 1 - i) := by
  rw [take_snoc h, be_snoc, Nat.add_mul, show p.length - i = (p.length - (i + 1)) + 1 by omega, Nat.pow_succ, show p.length - 1 - i = p.length - (i + 1) by omega, Nat.mul_assoc, Nat.mul_comm 256]

theorem num_long {p : List UInt8} (h : 32 < p.length) : numOk p = false := by simp [numOk]; intro; omega
theorem num_zero {p : List UInt8} (h : 0 < p.length) (h0 : p[0].toNat = 0) : numOk p = false := by
  cases p with
  | nil => simp at h
  | cons b l =>
    have : b = 0 := UInt8.toNat_inj.1 h0
    simp [numOk, this]
theorem num_fine {p : List UInt8} (hl : p.length ≤ 32) (h : 0 < p.length) (h0 : ¬ p[0].toNat = 0) : numOk p = true := by
  cases p with
  | nil => simp at h
  | cons b l =>
    have : ¬ b = 0 := fun e => h0 (by simp [e])
    simp [numOk, this]
    simpa using hl

attribute [local simp] undefA List.getElem?_cons_zero List.getElem?_cons_succ in
theorem rread_ok {σ : St} {p : List UInt8} {tl : Tail} (hl : p.length ≤ 1000000) :
    CallsA Try.prog 55 [.sl 1 (bytesA p) p.length tl] σ (fun av σ' => av = .tup [.agg (numA (numOf p)), .v (.bool (numOk p))] ∧ σ = σ') := by
  refine callsA_gcS ?_ rfl
  refine callsA_body Try.func55 rfl rfl rfl ?_
  refine run_seq_k fun K1 hK1 => ?_
  refine run_region_k rfl fun J2 hJ2 => ?_
  repeat (first | simp | simp (disch := omega) only [wC, if_pos, if_neg])
  refine hJ2 _ _ ?_
  refine hK1 _ _ ?_
  refine run_seq_k fun K3 hK3 => ?_
  refine run_seq_k fun K4 hK4 => ?_
  refine run_region_k rfl fun J5 hJ5 => ?_
  repeat (first | simp | simp (disch := omega) only [wC, if_pos, if_neg])
  refine runL_splitB 10 (by first | rfl | (simp; done)) (fun g1_3 => ?_) (fun g1_3 => ?_)
  · try (exfalso; have gq := g1_3; simp at gq; first | done | omega)
    all_goals
     have g1_3p := g1_3
     try simp at g1_3p
     all_goals (first | (have gq := g1_3p; skip) | have g1_3p : True := True.intro)
     all_goals
        refine runL_no (by first | rfl | (simp [g1_3, g1_3p, wantedA]; done)) rfl ?_
        repeat (first | simp [g1_3, g1_3p] | simp (disch := omega) only [wC, if_pos, if_neg])
        refine runL_no (by first | rfl | (simp [g1_3, g1_3p, wantedA]; done)) rfl ?_
        repeat (first | simp [g1_3, g1_3p] | simp (disch := omega) only [wC, if_pos, if_neg])
        refine runL_no (by first | rfl | (simp [g1_3, g1_3p, wantedA]; done)) rfl ?_
        repeat (first | simp [g1_3, g1_3p] | simp (disch := omega) only [wC, if_pos, if_neg])
        refine runL_no (by first | rfl | (simp [g1_3, g1_3p, wantedA]; done)) rfl ?_
        repeat (first | simp [g1_3, g1_3p] | simp (disch := omega) only [wC, if_pos, if_neg])
        refine runL_no (by first | rfl | (simp [g1_3, g1_3p, wantedA]; done)) rfl ?_
        repeat (first | simp [g1_3, g1_3p] | simp (disch := omega) only [wC, if_pos, if_neg])
        refine runL_no (by first | rfl | (simp [g1_3, g1_3p, wantedA]; done)) rfl ?_
        repeat (first | simp [g1_3, g1_3p] | simp (disch := omega) only [wC, if_pos, if_neg])
        refine runL_no (by first | rfl | (simp [g1_3, g1_3p, wantedA]; done)) rfl ?_
        repeat (first | simp [g1_3, g1_3p] | simp (disch := omega) only [wC, if_pos, if_neg])
        refine runL_no (by first | rfl | (simp [g1_3, g1_3p, wantedA]; done)) rfl ?_
        repeat (first | simp [g1_3, g1_3p] | simp (disch := omega) only [wC, if_pos, if_neg])
        refine runL_no (by first | rfl | (simp [g1_3, g1_3p, wantedA]; done)) rfl ?_
        repeat (first | simp [g1_3, g1_3p] | simp (disch := omega) only [wC, if_pos, if_neg])
        refine hJ5 _ _ ?_
        refine hK4 _ _ ?_
        refine run_cond_true (by first | rfl | (simp [g1_3, g1_3p, evalA]; done)) ?_
        refine run_seq_k fun K6 hK6 => ?_
        refine run_region_k rfl fun J7 hJ7 => ?_
        repeat (first | simp [g1_3, g1_3p] | simp (disch := omega) only [wC, if_pos, if_neg])
        refine hJ7 _ _ ?_
        refine hK6 _ _ ?_
        refine run_ret ?_
        try simp only [Then, InBlock, NoGoto]
        refine answer_cell_tmp rfl (.inr rfl) ?_
        have e : numOk p = false := num_long (by omega)
        simp [g1_3, g1_3p]
        simp only [numOf, e]
        rw [← numA_zero]
        exact Wk.refl _
  · try (exfalso; have gq := g1_3; simp at gq; first | done | omega)
    all_goals
     have g1_3p := g1_3
     try simp at g1_3p
     all_goals (first | (have gq := g1_3p; skip) | have g1_3p : True := True.intro)
     all_goals
        refine runL_go (by first | rfl | (simp [g1_3, g1_3p, wantedA]; done)) rfl ?_
        repeat (first | simp [g1_3, g1_3p] | simp (disch := omega) only [wC, if_pos, if_neg])
        refine runL_go (by first | rfl | (simp [g1_3, g1_3p, wantedA]; done)) rfl ?_
        repeat (first | simp [g1_3, g1_3p] | simp (disch := omega) only [wC, if_pos, if_neg])
        refine runL_go (by first | rfl | (simp [g1_3, g1_3p, wantedA]; done)) rfl ?_
        repeat (first | simp [g1_3, g1_3p] | simp (disch := omega) only [wC, if_pos, if_neg])
        refine runL_go (by first | rfl | (simp [g1_3, g1_3p, wantedA]; done)) rfl ?_
        repeat (first | simp [g1_3, g1_3p] | simp (disch := omega) only [wC, if_pos, if_neg])
        refine runL_splitB 14 (by first | rfl | (simp [g1_3, g1_3p]; done)) (fun g1_7 => ?_) (fun g1_7 => ?_)
        · try (exfalso; have gq := g1_7; simp [g1_3, g1_3p] at gq; first | done | omega)
          all_goals
           have g1_7p := g1_7
           try simp [g1_3, g1_3p] at g1_7p
           all_goals (first | (have gq := g1_7p; skip) | have g1_7p : True := True.intro)
           all_goals
              refine runL_go (by first | rfl | (simp [g1_3, g1_3p, g1_7, g1_7p, wantedA]; done)) rfl ?_
              repeat (first | simp [g1_3, g1_3p, g1_7, g1_7p] | simp (disch := omega) only [wC, if_pos, if_neg])
              refine runL_go (by first | rfl | (simp [g1_3, g1_3p, g1_7, g1_7p, wantedA]; done)) rfl ?_
              repeat (first | simp [g1_3, g1_3p, g1_7, g1_7p] | simp (disch := omega) only [wC, if_pos, if_neg])
              refine runL_go (by first | rfl | (simp [g1_3, g1_3p, g1_7, g1_7p, wantedA]; done)) rfl ?_
              repeat (first | simp [g1_3, g1_3p, g1_7, g1_7p] | simp (disch := omega) only [wC, if_pos, if_neg])
              refine runL_go (by first | rfl | (simp [g1_3, g1_3p, g1_7, g1_7p, wantedA]; done)) rfl ?_
              repeat (first | simp [g1_3, g1_3p, g1_7, g1_7p] | simp (disch := omega) only [wC, if_pos, if_neg])
              refine runL_go (by first | rfl | (simp [g1_3, g1_3p, g1_7, g1_7p, wantedA]; done)) rfl ?_
              repeat (first | simp [g1_3, g1_3p, g1_7, g1_7p] | simp (disch := omega) only [wC, if_pos, if_neg])
              refine hJ5 _ _ ?_
              refine hK4 _ _ ?_
              refine run_cond_split (by first | rfl | (simp [g1_3, g1_3p, g1_7, g1_7p, evalA]; done)) (fun c20 => ?_) (fun c20 => ?_)
              · try (exfalso; have gq := c20; simp [g1_3, g1_3p, g1_7, g1_7p] at gq; first | done | omega)
                all_goals
                 have c20p := c20
                 try simp [g1_3, g1_3p, g1_7, g1_7p] at c20p
                 all_goals (first | (have gq := c20p; skip) | have c20p : True := True.intro)
                 all_goals
                  refine run_seq_k fun K8 hK8 => ?_
                  refine run_region_k rfl fun J9 hJ9 => ?_
                  repeat (first | simp [g1_3, g1_3p, g1_7, g1_7p, c20, c20p] | simp (disch := omega) only [wC, if_pos, if_neg])
                  refine hJ9 _ _ ?_
                  refine hK8 _ _ ?_
                  refine run_ret ?_
                  try simp only [Then, InBlock, NoGoto]
                  refine answer_cell_tmp rfl (.inr rfl) ?_
                  have e : numOk p = false := num_zero (by omega) (by assumption)
                  simp [g1_3, g1_3p, g1_7, g1_7p, c20, c20p]
                  simp only [numOf, e]
                  rw [← numA_zero]
                  exact Wk.refl _
              · try (exfalso; have gq := c20; simp [g1_3, g1_3p, g1_7, g1_7p] at gq; first | done | omega)
                all_goals
                 have c20p := c20
                 try simp [g1_3, g1_3p, g1_7, g1_7p] at c20p
                 all_goals (first | (have gq := c20p; skip) | have c20p : True := True.intro)
                 all_goals
                  have h : p.length ≤ 32 := by omega
                  refine run_skip ?_
                  refine hK3 _ _ ?_
                  refine run_seq_k fun K10 hK10 => ?_
                  refine run_region_k rfl fun J11 hJ11 => ?_
                  repeat (first | simp [g1_3, g1_3p, g1_7, g1_7p, c20, c20p] | simp (disch := omega) only [wC, if_pos, if_neg])
                  refine hJ11 _ _ ?_
                  refine hK10 _ _ ?_
                  refine run_seq_k fun K12 hK12 => ?_
                  refine run_seq_k fun K13 hK13 => ?_
                  refine run_region_k rfl fun J14 hJ14 => ?_
                  repeat (first | simp [g1_3, g1_3p, g1_7, g1_7p, c20, c20p] | simp (disch := omega) only [wC, if_pos, if_neg])
                  refine hJ14 _ _ ?_
                  refine hK13 _ _ ?_
                  refine run_block_k ?_
                  refine run_loopF (X := Nat) [0, 2, 3, 4] (fun i ρ σ1 => (i ≤ p.length) ∧ (ρ 5 = .v (.int .i64 i)) ∧ (σ1 = { σ with objs := σ.objs ++ [numA 0, numA (be (p.take i) * 256 ^ (p.length - i))] })) (fun i => p.length - i) (0) ?st1 ?rd1
                  case st1 =>
                    refine ⟨?_, ?_, ?_⟩
                    · first | rfl | omega | assumption | ((repeat (first | simp [g1_3, g1_3p, g1_7, g1_7p, c20, c20p] | simp (disch := omega) only [wC, if_pos, if_neg])); first | done | omega) | (simp only [putA_get]; (repeat (first | simp (disch := omega) only [wC, if_pos, if_neg] | simp [g1_3, g1_3p, g1_7, g1_7p, c20, c20p])); done)
                    · first | rfl | omega | assumption | ((repeat (first | simp [g1_3, g1_3p, g1_7, g1_7p, c20, c20p] | simp (disch := omega) only [wC, if_pos, if_neg])); first | done | omega) | (simp only [putA_get]; (repeat (first | simp (disch := omega) only [wC, if_pos, if_neg] | simp [g1_3, g1_3p, g1_7, g1_7p, c20, c20p])); done)
                    · simp [numA_zero]
                  case rd1 =>
                    rintro i ρ1 σ1 hF1 ⟨hi, h5, hσ⟩
                    obtain rfl := hσ.symm
                    have f1_0 := hF1 0 (by decide)
                    try simp [g1_3, g1_3p, g1_7, g1_7p, c20, c20p] at f1_0
                    have f1_2 := hF1 2 (by decide)
                    try simp [g1_3, g1_3p, g1_7, g1_7p, c20, c20p] at f1_2
                    have f1_3 := hF1 3 (by decide)
                    try simp [g1_3, g1_3p, g1_7, g1_7p, c20, c20p] at f1_3
                    have f1_4 := hF1 4 (by decide)
                    try simp [g1_3, g1_3p, g1_7, g1_7p, c20, c20p] at f1_4
                    refine run_seq_k fun K15 hK15 => ?_
                    refine run_seq_k fun K16 hK16 => ?_
                    refine run_region_k rfl fun J17 hJ17 => ?_
                    repeat (first | simp [g1_3, g1_3p, g1_7, g1_7p, c20, c20p, h5, f1_0, f1_2, f1_3, f1_4] | simp (disch := omega) only [wC, if_pos, if_neg])
                    refine hJ17 _ _ ?_
                    refine hK16 _ _ ?_
                    refine run_cond_split (by first | rfl | (simp [g1_3, g1_3p, g1_7, g1_7p, c20, c20p, h5, f1_0, f1_2, f1_3, f1_4, evalA]; done)) (fun c25 => ?_) (fun c25 => ?_)
                    · try (exfalso; have gq := c25; simp [g1_3, g1_3p, g1_7, g1_7p, c20, c20p, h5, f1_0, f1_2, f1_3, f1_4] at gq; first | done | omega)
                      all_goals
                       have c25p := c25
                       try simp [g1_3, g1_3p, g1_7, g1_7p, c20, c20p, h5, f1_0, f1_2, f1_3, f1_4] at c25p
                       all_goals (first | (have gq := c25p; skip) | have c25p : True := True.intro)
                       all_goals
                        refine run_skip ?_
                        refine hK15 _ _ ?_
                        refine run_seq_k fun K18 hK18 => ?_
                        refine run_block_k ?_
                        refine run_seq_k fun K19 hK19 => ?_
                        obtain ⟨k, hk⟩ : ∃ k, k = p.length - 1 - i := ⟨_, rfl⟩
                        have hk2 : k < 32 := by omega
                        have hw : IntKind.i64.wrap (IntKind.i64.wrap ((p.length : Int) - 1) - i) = (k : Int) := by rw [wrap_i64 ((p.length : Int) - 1) (by omega) (by omega), wrap_i64 _ (by omega) (by omega)]; omega
                        obtain ⟨q, hq⟩ : ∃ q, q = k / 8 := ⟨_, rfl⟩
                        obtain ⟨r, hr⟩ : ∃ r, r = k % 8 := ⟨_, rfl⟩
                        have hqr : 8 * q + r = k := by omega
                        have hq4 : q < 4 := by omega
                        have hr8 : r < 8 := by omega
                        have hb := p[i].toNat_lt
                        have hqq : IntKind.i64.wrap ((k : Int).tdiv 8) = (q : Int) := by rw [Int.tdiv_eq_ediv_of_nonneg (by omega), wrap_i64 _ (by omega) (by omega)]; omega
                        have hrr : (k : Int).tmod 8 = (r : Int) := by rw [Int.tmod_eq_emod_of_nonneg (by omega)]; omega
                        have hm8 : IntKind.i64.wrap (8 * (r : Int)) = 8 * (r : Int) := wrap_i64 _ (by omega) (by omega)
                        have hq2 : IntKind.i64.wrap ((k : Int) / 8) = (q : Int) := by rw [wrap_i64 _ (by omega) (by omega)]; omega
                        have hr2 : (k : Int) % 8 = (r : Int) := by omega
                        have hnn : ¬ 8 * (r : Int) < 0 := by omega
                        have hsl : p[i].toNat * 2 ^ (8 * r) < 18446744073709551616 := by have := shl_byte hb hr8; rwa [Nat.shiftLeft_eq] at this
                        have hsh : IntKind.u64.wrap ((p[i].toNat : Int) * 2 ^ (min (8 * (r : Int)).toNat 64)) = ((p[i].toNat * 2 ^ (8 * r) : Nat) : Int) := by rw [show min (8 * (r : Int)).toNat 64 = 8 * r by omega, show ((p[i].toNat : Int) * 2 ^ (8 * r)) = ((p[i].toNat * 2 ^ (8 * r) : Nat) : Int) by simp, wrap_u64, Nat.mod_eq_of_lt hsl]
                        have hx : (be (p.take i) * 256 ^ (p.length - i)) % 256 ^ (k + 1) = 0 := by rw [show p.length - i = k + 1 by omega, Nat.mul_mod_left]
                        have hstep := be_take_step c25p
                        rw [← hk] at hstep
                        generalize be (p.take i) * 256 ^ (p.length - i) = x at *
                        have hpl := numA_plus hb hq4 hr8 hqr hx
                        obtain ⟨_, _, hlp⟩ := limb_plus hb hr8 hqr hx
                        have hget := numA_get x hq4
                        have hq5 : (q : Int) < 4 := by omega
                        have hq6 : q + 1 ≤ 4 := hq4
                        generalize p[i].toNat * 2 ^ (8 * r) = s at *
                        have hws : IntKind.u64.wrap ((limb x q : Int) + s) = ((limb x q + s : Nat) : Int) := by rw [← Int.natCast_add, wrap_u64, Nat.mod_eq_of_lt hlp]
                        refine run_region_k rfl fun J20 hJ20 => ?_
                        repeat (first | simp [g1_3, g1_3p, g1_7, g1_7p, c20, c20p, h5, f1_0, f1_2, f1_3, f1_4, c25, c25p, hw, hqq, hrr, hq2, hr2, hm8, hnn, hsh, hget, hq4, hq5, hq6, hws] | simp (disch := omega) only [wC, if_pos, if_neg])
                        refine hJ20 _ _ ?_
                        refine hK19 _ _ ?_
                        refine run_draw (by kernel_rfl) fun J21 hJ21 => ?_
                        refine rp 0 rfl rfl (by kernel_rfl) ?_
                        repeat (first | simp [g1_3, g1_3p, g1_7, g1_7p, c20, c20p, h5, f1_0, f1_2, f1_3, f1_4, c25, c25p, hw, hqq, hrr, hq2, hr2, hm8, hnn, hsh, hget, hq4, hq5, hq6, hws] | simp (disch := omega) only [wC, if_pos, if_neg])
                        refine rp 1 rfl rfl (by kernel_rfl) ?_
                        repeat (first | simp [g1_3, g1_3p, g1_7, g1_7p, c20, c20p, h5, f1_0, f1_2, f1_3, f1_4, c25, c25p, hw, hqq, hrr, hq2, hr2, hm8, hnn, hsh, hget, hq4, hq5, hq6, hws] | simp (disch := omega) only [wC, if_pos, if_neg])
                        refine rp 2 rfl rfl (by kernel_rfl) ?_
                        repeat (first | simp [g1_3, g1_3p, g1_7, g1_7p, c20, c20p, h5, f1_0, f1_2, f1_3, f1_4, c25, c25p, hw, hqq, hrr, hq2, hr2, hm8, hnn, hsh, hget, hq4, hq5, hq6, hws] | simp (disch := omega) only [wC, if_pos, if_neg])
                        refine rp 3 rfl rfl (by kernel_rfl) ?_
                        repeat (first | simp [g1_3, g1_3p, g1_7, g1_7p, c20, c20p, h5, f1_0, f1_2, f1_3, f1_4, c25, c25p, hw, hqq, hrr, hq2, hr2, hm8, hnn, hsh, hget, hq4, hq5, hq6, hws] | simp (disch := omega) only [wC, if_pos, if_neg])
                        refine rp 4 rfl rfl (by kernel_rfl) ?_
                        repeat (first | simp [g1_3, g1_3p, g1_7, g1_7p, c20, c20p, h5, f1_0, f1_2, f1_3, f1_4, c25, c25p, hw, hqq, hrr, hq2, hr2, hm8, hnn, hsh, hget, hq4, hq5, hq6, hws] | simp (disch := omega) only [wC, if_pos, if_neg])
                        refine rp 5 rfl rfl (by kernel_rfl) ?_
                        repeat (first | simp [g1_3, g1_3p, g1_7, g1_7p, c20, c20p, h5, f1_0, f1_2, f1_3, f1_4, c25, c25p, hw, hqq, hrr, hq2, hr2, hm8, hnn, hsh, hget, hq4, hq5, hq6, hws] | simp (disch := omega) only [wC, if_pos, if_neg])
                        refine rp 6 rfl rfl (by kernel_rfl) ?_
                        repeat (first | simp [g1_3, g1_3p, g1_7, g1_7p, c20, c20p, h5, f1_0, f1_2, f1_3, f1_4, c25, c25p, hw, hqq, hrr, hq2, hr2, hm8, hnn, hsh, hget, hq4, hq5, hq6, hws] | simp (disch := omega) only [wC, if_pos, if_neg])
                        refine rp 7 rfl rfl (by kernel_rfl) ?_
                        repeat (first | simp [g1_3, g1_3p, g1_7, g1_7p, c20, c20p, h5, f1_0, f1_2, f1_3, f1_4, c25, c25p, hw, hqq, hrr, hq2, hr2, hm8, hnn, hsh, hget, hq4, hq5, hq6, hws] | simp (disch := omega) only [wC, if_pos, if_neg])
                        refine rp 8 rfl rfl (by kernel_rfl) ?_
                        repeat (first | simp [g1_3, g1_3p, g1_7, g1_7p, c20, c20p, h5, f1_0, f1_2, f1_3, f1_4, c25, c25p, hw, hqq, hrr, hq2, hr2, hm8, hnn, hsh, hget, hq4, hq5, hq6, hws] | simp (disch := omega) only [wC, if_pos, if_neg])
                        refine rp 9 rfl rfl (by kernel_rfl) ?_
                        repeat (first | simp [g1_3, g1_3p, g1_7, g1_7p, c20, c20p, h5, f1_0, f1_2, f1_3, f1_4, c25, c25p, hw, hqq, hrr, hq2, hr2, hm8, hnn, hsh, hget, hq4, hq5, hq6, hws] | simp (disch := omega) only [wC, if_pos, if_neg])
                        refine rp 10 rfl rfl (by kernel_rfl) ?_
                        repeat (first | simp [g1_3, g1_3p, g1_7, g1_7p, c20, c20p, h5, f1_0, f1_2, f1_3, f1_4, c25, c25p, hw, hqq, hrr, hq2, hr2, hm8, hnn, hsh, hget, hq4, hq5, hq6, hws] | simp (disch := omega) only [wC, if_pos, if_neg])
                        refine rp 11 rfl rfl (by kernel_rfl) ?_
                        repeat (first | simp [g1_3, g1_3p, g1_7, g1_7p, c20, c20p, h5, f1_0, f1_2, f1_3, f1_4, c25, c25p, hw, hqq, hrr, hq2, hr2, hm8, hnn, hsh, hget, hq4, hq5, hq6, hws] | simp (disch := omega) only [wC, if_pos, if_neg])
                        refine rp 12 rfl rfl (by kernel_rfl) ?_
                        repeat (first | simp [g1_3, g1_3p, g1_7, g1_7p, c20, c20p, h5, f1_0, f1_2, f1_3, f1_4, c25, c25p, hw, hqq, hrr, hq2, hr2, hm8, hnn, hsh, hget, hq4, hq5, hq6, hws] | simp (disch := omega) only [wC, if_pos, if_neg])
                        refine rp 13 rfl rfl (by kernel_rfl) ?_
                        repeat (first | simp [g1_3, g1_3p, g1_7, g1_7p, c20, c20p, h5, f1_0, f1_2, f1_3, f1_4, c25, c25p, hw, hqq, hrr, hq2, hr2, hm8, hnn, hsh, hget, hq4, hq5, hq6, hws] | simp (disch := omega) only [wC, if_pos, if_neg])
                        refine rp 14 rfl rfl (by kernel_rfl) ?_
                        repeat (first | simp [g1_3, g1_3p, g1_7, g1_7p, c20, c20p, h5, f1_0, f1_2, f1_3, f1_4, c25, c25p, hw, hqq, hrr, hq2, hr2, hm8, hnn, hsh, hget, hq4, hq5, hq6, hws] | simp (disch := omega) only [wC, if_pos, if_neg])
                        refine runD_op' 15 (by kernel_rfl) (by kernel_rfl) (by kernel_rfl) rfl (by kernel_rfl) (by kernel_rfl) (by kernel_rfl) ?_
                        repeat (first | simp [g1_3, g1_3p, g1_7, g1_7p, c20, c20p, h5, f1_0, f1_2, f1_3, f1_4, c25, c25p, hw, hqq, hrr, hq2, hr2, hm8, hnn, hsh, hget, hq4, hq5, hq6, hws] | simp (disch := omega) only [wC, if_pos, if_neg])
                        refine ⟨later_nil (by kernel_rfl), ?_⟩
                        refine runD_done (by kernel_rfl) (by kernel_rfl) (by kernel_rfl) ?_
                        refine hJ21 _ _ ?_
                        refine hK18 _ _ ?_
                        refine run_region_k rfl fun J22 hJ22 => ?_
                        repeat (first | simp [g1_3, g1_3p, g1_7, g1_7p, c20, c20p, h5, f1_0, f1_2, f1_3, f1_4, c25, c25p, hw, hqq, hrr, hq2, hr2, hm8, hnn, hsh, hget, hq4, hq5, hq6, hws] | simp (disch := omega) only [wC, if_pos, if_neg])
                        refine hJ22 _ _ ?_
                        refine ⟨(i + 1), ⟨?_, ?_, ?_, ?_⟩, ?_⟩
                        · (intro r hr; simp only [List.mem_cons, List.not_mem_nil, or_false] at hr; rcases hr with rfl | rfl | rfl | rfl <;> first | rfl | (simp [g1_3, g1_3p, g1_7, g1_7p, c20, c20p, h5, f1_0, f1_2, f1_3, f1_4, c25, c25p, hw, hqq, hrr, hq2, hr2, hm8, hnn, hsh, hget, hq4, hq5, hq6, hws]; done))
                        · first | rfl | omega | assumption | ((repeat (first | simp [g1_3, g1_3p, g1_7, g1_7p, c20, c20p, h5, f1_0, f1_2, f1_3, f1_4, c25, c25p, hw, hqq, hrr, hq2, hr2, hm8, hnn, hsh, hget, hq4, hq5, hq6, hws] | simp (disch := omega) only [wC, if_pos, if_neg])); first | done | omega) | (simp only [putA_get]; (repeat (first | simp (disch := omega) only [wC, if_pos, if_neg] | simp [g1_3, g1_3p, g1_7, g1_7p, c20, c20p, h5, f1_0, f1_2, f1_3, f1_4, c25, c25p, hw, hqq, hrr, hq2, hr2, hm8, hnn, hsh, hget, hq4, hq5, hq6, hws])); done)
                        · first | rfl | omega | assumption | ((repeat (first | simp [g1_3, g1_3p, g1_7, g1_7p, c20, c20p, h5, f1_0, f1_2, f1_3, f1_4, c25, c25p, hw, hqq, hrr, hq2, hr2, hm8, hnn, hsh, hget, hq4, hq5, hq6, hws] | simp (disch := omega) only [wC, if_pos, if_neg])); first | done | omega) | (simp only [putA_get]; (repeat (first | simp (disch := omega) only [wC, if_pos, if_neg] | simp [g1_3, g1_3p, g1_7, g1_7p, c20, c20p, h5, f1_0, f1_2, f1_3, f1_4, c25, c25p, hw, hqq, hrr, hq2, hr2, hm8, hnn, hsh, hget, hq4, hq5, hq6, hws])); done)
                        · simp only [Int.natCast_add] at hpl
                          rw [hpl, hstep]
                        · first | rfl | omega | assumption | ((repeat (first | simp [g1_3, g1_3p, g1_7, g1_7p, c20, c20p, h5, f1_0, f1_2, f1_3, f1_4, c25, c25p, hw, hqq, hrr, hq2, hr2, hm8, hnn, hsh, hget, hq4, hq5, hq6, hws] | simp (disch := omega) only [wC, if_pos, if_neg])); first | done | omega) | (simp only [putA_get]; (repeat (first | simp (disch := omega) only [wC, if_pos, if_neg] | simp [g1_3, g1_3p, g1_7, g1_7p, c20, c20p, h5, f1_0, f1_2, f1_3, f1_4, c25, c25p, hw, hqq, hrr, hq2, hr2, hm8, hnn, hsh, hget, hq4, hq5, hq6, hws])); done)
                    · try (exfalso; have gq := c25; simp [g1_3, g1_3p, g1_7, g1_7p, c20, c20p, h5, f1_0, f1_2, f1_3, f1_4] at gq; first | done | omega)
                      all_goals
                       have c25p := c25
                       try simp [g1_3, g1_3p, g1_7, g1_7p, c20, c20p, h5, f1_0, f1_2, f1_3, f1_4] at c25p
                       all_goals (first | (have gq := c25p; skip) | have c25p : True := True.intro)
                       all_goals
                        refine run_exit ?_
                        refine hK12 _ _ ?_
                        refine run_seq_k fun K23 hK23 => ?_
                        refine run_region_k rfl fun J24 hJ24 => ?_
                        repeat (first | simp [g1_3, g1_3p, g1_7, g1_7p, c20, c20p, h5, f1_0, f1_2, f1_3, f1_4, c25, c25p] | simp (disch := omega) only [wC, if_pos, if_neg])
                        refine hJ24 _ _ ?_
                        refine hK23 _ _ ?_
                        refine run_ret ?_
                        try simp only [Then, InBlock, NoGoto]
                        refine answer_cell_tmp rfl (.inr rfl) ?_
                        have e : numOk p = true := num_fine (by omega) (by omega) (by assumption)
                        simp [g1_3, g1_3p, g1_7, g1_7p, c20, c20p, h5, f1_0, f1_2, f1_3, f1_4, c25, c25p]
                        simp only [numOf, e, if_true]
                        rw [List.take_of_length_le (by omega)]
                        exact Wk.refl _
        · try (exfalso; have gq := g1_7; simp [g1_3, g1_3p] at gq; first | done | omega)
          all_goals
           have g1_7p := g1_7
           try simp [g1_3, g1_3p] at g1_7p
           all_goals (first | (have gq := g1_7p; skip) | have g1_7p : True := True.intro)
           all_goals
              refine runL_no (by first | rfl | (simp [g1_3, g1_3p, g1_7, g1_7p, wantedA]; done)) rfl ?_
              repeat (first | simp [g1_3, g1_3p, g1_7, g1_7p] | simp (disch := omega) only [wC, if_pos, if_neg])
              refine runL_no (by first | rfl | (simp [g1_3, g1_3p, g1_7, g1_7p, wantedA]; done)) rfl ?_
              repeat (first | simp [g1_3, g1_3p, g1_7, g1_7p] | simp (disch := omega) only [wC, if_pos, if_neg])
              refine runL_no (by first | rfl | (simp [g1_3, g1_3p, g1_7, g1_7p, wantedA]; done)) rfl ?_
              repeat (first | simp [g1_3, g1_3p, g1_7, g1_7p] | simp (disch := omega) only [wC, if_pos, if_neg])
              refine runL_no (by first | rfl | (simp [g1_3, g1_3p, g1_7, g1_7p, wantedA]; done)) rfl ?_
              repeat (first | simp [g1_3, g1_3p, g1_7, g1_7p] | simp (disch := omega) only [wC, if_pos, if_neg])
              refine runL_go (by first | rfl | (simp [g1_3, g1_3p, g1_7, g1_7p, wantedA]; done)) rfl ?_
              repeat (first | simp [g1_3, g1_3p, g1_7, g1_7p] | simp (disch := omega) only [wC, if_pos, if_neg])
              refine hJ5 _ _ ?_
              refine hK4 _ _ ?_
              refine run_cond_false (by first | rfl | (simp [g1_3, g1_3p, g1_7, g1_7p, evalA]; done)) ?_
              refine run_skip ?_
              refine hK3 _ _ ?_
              refine run_seq_k fun K25 hK25 => ?_
              refine run_region_k rfl fun J26 hJ26 => ?_
              repeat (first | simp [g1_3, g1_3p, g1_7, g1_7p] | simp (disch := omega) only [wC, if_pos, if_neg])
              refine hJ26 _ _ ?_
              refine hK25 _ _ ?_
              refine run_seq_k fun K27 hK27 => ?_
              refine run_seq_k fun K28 hK28 => ?_
              refine run_region_k rfl fun J29 hJ29 => ?_
              repeat (first | simp [g1_3, g1_3p, g1_7, g1_7p] | simp (disch := omega) only [wC, if_pos, if_neg])
              refine hJ29 _ _ ?_
              refine hK28 _ _ ?_
              refine run_block_k ?_
              refine run_loopF (X := Nat) [0, 2, 3, 4] (fun i ρ σ1 => (i ≤ p.length) ∧ (ρ 5 = .v (.int .i64 i)) ∧ (σ1 = { σ with objs := σ.objs ++ [numA 0, numA (be (p.take i) * 256 ^ (p.length - i))] })) (fun i => p.length - i) (0) ?st1 ?rd1
              case st1 =>
                refine ⟨?_, ?_, ?_⟩
                · first | rfl | omega | assumption | ((repeat (first | simp [g1_3, g1_3p, g1_7, g1_7p] | simp (disch := omega) only [wC, if_pos, if_neg])); first | done | omega) | (simp only [putA_get]; (repeat (first | simp (disch := omega) only [wC, if_pos, if_neg] | simp [g1_3, g1_3p, g1_7, g1_7p])); done)
                · first | rfl | omega | assumption | ((repeat (first | simp [g1_3, g1_3p, g1_7, g1_7p] | simp (disch := omega) only [wC, if_pos, if_neg])); first | done | omega) | (simp only [putA_get]; (repeat (first | simp (disch := omega) only [wC, if_pos, if_neg] | simp [g1_3, g1_3p, g1_7, g1_7p])); done)
                · simp [numA_zero]
              case rd1 =>
                rintro i ρ1 σ1 hF1 ⟨hi, h5, hσ⟩
                obtain rfl := hσ.symm
                have f1_0 := hF1 0 (by decide)
                try simp [g1_3, g1_3p, g1_7, g1_7p] at f1_0
                have f1_2 := hF1 2 (by decide)
                try simp [g1_3, g1_3p, g1_7, g1_7p] at f1_2
                have f1_3 := hF1 3 (by decide)
                try simp [g1_3, g1_3p, g1_7, g1_7p] at f1_3
                have f1_4 := hF1 4 (by decide)
                try simp [g1_3, g1_3p, g1_7, g1_7p] at f1_4
                refine run_seq_k fun K30 hK30 => ?_
                refine run_seq_k fun K31 hK31 => ?_
                refine run_region_k rfl fun J32 hJ32 => ?_
                repeat (first | simp [g1_3, g1_3p, g1_7, g1_7p, h5, f1_0, f1_2, f1_3, f1_4] | simp (disch := omega) only [wC, if_pos, if_neg])
                refine hJ32 _ _ ?_
                refine hK31 _ _ ?_
                refine run_cond_split (by first | rfl | (simp [g1_3, g1_3p, g1_7, g1_7p, h5, f1_0, f1_2, f1_3, f1_4, evalA]; done)) (fun c25 => ?_) (fun c25 => ?_)
                · try (exfalso; have gq := c25; simp [g1_3, g1_3p, g1_7, g1_7p, h5, f1_0, f1_2, f1_3, f1_4] at gq; first | done | omega)
                  all_goals
                   have c25p := c25
                   try simp [g1_3, g1_3p, g1_7, g1_7p, h5, f1_0, f1_2, f1_3, f1_4] at c25p
                   all_goals (first | (have gq := c25p; skip) | have c25p : True := True.intro)
                   all_goals
                    refine run_skip ?_
                    refine hK30 _ _ ?_
                    refine run_seq_k fun K33 hK33 => ?_
                    refine run_block_k ?_
                    refine run_seq_k fun K34 hK34 => ?_
                    obtain ⟨k, hk⟩ : ∃ k, k = p.length - 1 - i := ⟨_, rfl⟩
                    have hk2 : k < 32 := by omega
                    have hw : IntKind.i64.wrap (IntKind.i64.wrap ((p.length : Int) - 1) - i) = (k : Int) := by rw [wrap_i64 ((p.length : Int) - 1) (by omega) (by omega), wrap_i64 _ (by omega) (by omega)]; omega
                    obtain ⟨q, hq⟩ : ∃ q, q = k / 8 := ⟨_, rfl⟩
                    obtain ⟨r, hr⟩ : ∃ r, r = k % 8 := ⟨_, rfl⟩
                    have hqr : 8 * q + r = k := by omega
                    have hq4 : q < 4 := by omega
                    have hr8 : r < 8 := by omega
                    have hb := p[i].toNat_lt
                    have hqq : IntKind.i64.wrap ((k : Int).tdiv 8) = (q : Int) := by rw [Int.tdiv_eq_ediv_of_nonneg (by omega), wrap_i64 _ (by omega) (by omega)]; omega
                    have hrr : (k : Int).tmod 8 = (r : Int) := by rw [Int.tmod_eq_emod_of_nonneg (by omega)]; omega
                    have hm8 : IntKind.i64.wrap (8 * (r : Int)) = 8 * (r : Int) := wrap_i64 _ (by omega) (by omega)
                    have hq2 : IntKind.i64.wrap ((k : Int) / 8) = (q : Int) := by rw [wrap_i64 _ (by omega) (by omega)]; omega
                    have hr2 : (k : Int) % 8 = (r : Int) := by omega
                    have hnn : ¬ 8 * (r : Int) < 0 := by omega
                    have hsl : p[i].toNat * 2 ^ (8 * r) < 18446744073709551616 := by have := shl_byte hb hr8; rwa [Nat.shiftLeft_eq] at this
                    have hsh : IntKind.u64.wrap ((p[i].toNat : Int) * 2 ^ (min (8 * (r : Int)).toNat 64)) = ((p[i].toNat * 2 ^ (8 * r) : Nat) : Int) := by rw [show min (8 * (r : Int)).toNat 64 = 8 * r by omega, show ((p[i].toNat : Int) * 2 ^ (8 * r)) = ((p[i].toNat * 2 ^ (8 * r) : Nat) : Int) by simp, wrap_u64, Nat.mod_eq_of_lt hsl]
                    have hx : (be (p.take i) * 256 ^ (p.length - i)) % 256 ^ (k + 1) = 0 := by rw [show p.length - i = k + 1 by omega, Nat.mul_mod_left]
                    have hstep := be_take_step c25p
                    rw [← hk] at hstep
                    generalize be (p.take i) * 256 ^ (p.length - i) = x at *
                    have hpl := numA_plus hb hq4 hr8 hqr hx
                    obtain ⟨_, _, hlp⟩ := limb_plus hb hr8 hqr hx
                    have hget := numA_get x hq4
                    have hq5 : (q : Int) < 4 := by omega
                    have hq6 : q + 1 ≤ 4 := hq4
                    generalize p[i].toNat * 2 ^ (8 * r) = s at *
                    have hws : IntKind.u64.wrap ((limb x q : Int) + s) = ((limb x q + s : Nat) : Int) := by rw [← Int.natCast_add, wrap_u64, Nat.mod_eq_of_lt hlp]
                    refine run_region_k rfl fun J35 hJ35 => ?_
                    repeat (first | simp [g1_3, g1_3p, g1_7, g1_7p, h5, f1_0, f1_2, f1_3, f1_4, c25, c25p, hw, hqq, hrr, hq2, hr2, hm8, hnn, hsh, hget, hq4, hq5, hq6, hws] | simp (disch := omega) only [wC, if_pos, if_neg])
                    refine hJ35 _ _ ?_
                    refine hK34 _ _ ?_
                    refine run_draw (by kernel_rfl) fun J36 hJ36 => ?_
                    refine rp 0 rfl rfl (by kernel_rfl) ?_
                    repeat (first | simp [g1_3, g1_3p, g1_7, g1_7p, h5, f1_0, f1_2, f1_3, f1_4, c25, c25p, hw, hqq, hrr, hq2, hr2, hm8, hnn, hsh, hget, hq4, hq5, hq6, hws] | simp (disch := omega) only [wC, if_pos, if_neg])
                    refine rp 1 rfl rfl (by kernel_rfl) ?_
                    repeat (first | simp [g1_3, g1_3p, g1_7, g1_7p, h5, f1_0, f1_2, f1_3, f1_4, c25, c25p, hw, hqq, hrr, hq2, hr2, hm8, hnn, hsh, hget, hq4, hq5, hq6, hws] | simp (disch := omega) only [wC, if_pos, if_neg])
                    refine rp 2 rfl rfl (by kernel_rfl) ?_
                    repeat (first | simp [g1_3, g1_3p, g1_7, g1_7p, h5, f1_0, f1_2, f1_3, f1_4, c25, c25p, hw, hqq, hrr, hq2, hr2, hm8, hnn, hsh, hget, hq4, hq5, hq6, hws] | simp (disch := omega) only [wC, if_pos, if_neg])
                    refine rp 3 rfl rfl (by kernel_rfl) ?_
                    repeat (first | simp [g1_3, g1_3p, g1_7, g1_7p, h5, f1_0, f1_2, f1_3, f1_4, c25, c25p, hw, hqq, hrr, hq2, hr2, hm8, hnn, hsh, hget, hq4, hq5, hq6, hws] | simp (disch := omega) only [wC, if_pos, if_neg])
                    refine rp 4 rfl rfl (by kernel_rfl) ?_
                    repeat (first | simp [g1_3, g1_3p, g1_7, g1_7p, h5, f1_0, f1_2, f1_3, f1_4, c25, c25p, hw, hqq, hrr, hq2, hr2, hm8, hnn, hsh, hget, hq4, hq5, hq6, hws] | simp (disch := omega) only [wC, if_pos, if_neg])
                    refine rp 5 rfl rfl (by kernel_rfl) ?_
                    repeat (first | simp [g1_3, g1_3p, g1_7, g1_7p, h5, f1_0, f1_2, f1_3, f1_4, c25, c25p, hw, hqq, hrr, hq2, hr2, hm8, hnn, hsh, hget, hq4, hq5, hq6, hws] | simp (disch := omega) only [wC, if_pos, if_neg])
                    refine rp 6 rfl rfl (by kernel_rfl) ?_
                    repeat (first | simp [g1_3, g1_3p, g1_7, g1_7p, h5, f1_0, f1_2, f1_3, f1_4, c25, c25p, hw, hqq, hrr, hq2, hr2, hm8, hnn, hsh, hget, hq4, hq5, hq6, hws] | simp (disch := omega) only [wC, if_pos, if_neg])
                    refine rp 7 rfl rfl (by kernel_rfl) ?_
                    repeat (first | simp [g1_3, g1_3p, g1_7, g1_7p, h5, f1_0, f1_2, f1_3, f1_4, c25, c25p, hw, hqq, hrr, hq2, hr2, hm8, hnn, hsh, hget, hq4, hq5, hq6, hws] | simp (disch := omega) only [wC, if_pos, if_neg])
                    refine rp 8 rfl rfl (by kernel_rfl) ?_
                    repeat (first | simp [g1_3, g1_3p, g1_7, g1_7p, h5, f1_0, f1_2, f1_3, f1_4, c25, c25p, hw, hqq, hrr, hq2, hr2, hm8, hnn, hsh, hget, hq4, hq5, hq6, hws] | simp (disch := omega) only [wC, if_pos, if_neg])
                    refine rp 9 rfl rfl (by kernel_rfl) ?_
                    repeat (first | simp [g1_3, g1_3p, g1_7, g1_7p, h5, f1_0, f1_2, f1_3, f1_4, c25, c25p, hw, hqq, hrr, hq2, hr2, hm8, hnn, hsh, hget, hq4, hq5, hq6, hws] | simp (disch := omega) only [wC, if_pos, if_neg])
                    refine rp 10 rfl rfl (by kernel_rfl) ?_
                    repeat (first | simp [g1_3, g1_3p, g1_7, g1_7p, h5, f1_0, f1_2, f1_3, f1_4, c25, c25p, hw, hqq, hrr, hq2, hr2, hm8, hnn, hsh, hget, hq4, hq5, hq6, hws] | simp (disch := omega) only [wC, if_pos, if_neg])
                    refine rp 11 rfl rfl (by kernel_rfl) ?_
                    repeat (first | simp [g1_3, g1_3p, g1_7, g1_7p, h5, f1_0, f1_2, f1_3, f1_4, c25, c25p, hw, hqq, hrr, hq2, hr2, hm8, hnn, hsh, hget, hq4, hq5, hq6, hws] | simp (disch := omega) only [wC, if_pos, if_neg])
                    refine rp 12 rfl rfl (by kernel_rfl) ?_
                    repeat (first | simp [g1_3, g1_3p, g1_7, g1_7p, h5, f1_0, f1_2, f1_3, f1_4, c25, c25p, hw, hqq, hrr, hq2, hr2, hm8, hnn, hsh, hget, hq4, hq5, hq6, hws] | simp (disch := omega) only [wC, if_pos, if_neg])
                    refine rp 13 rfl rfl (by kernel_rfl) ?_
                    repeat (first | simp [g1_3, g1_3p, g1_7, g1_7p, h5, f1_0, f1_2, f1_3, f1_4, c25, c25p, hw, hqq, hrr, hq2, hr2, hm8, hnn, hsh, hget, hq4, hq5, hq6, hws] | simp (disch := omega) only [wC, if_pos, if_neg])
                    refine rp 14 rfl rfl (by kernel_rfl) ?_
                    repeat (first | simp [g1_3, g1_3p, g1_7, g1_7p, h5, f1_0, f1_2, f1_3, f1_4, c25, c25p, hw, hqq, hrr, hq2, hr2, hm8, hnn, hsh, hget, hq4, hq5, hq6, hws] | simp (disch := omega) only [wC, if_pos, if_neg])
                    refine runD_op' 15 (by kernel_rfl) (by kernel_rfl) (by kernel_rfl) rfl (by kernel_rfl) (by kernel_rfl) (by kernel_rfl) ?_
                    repeat (first | simp [g1_3, g1_3p, g1_7, g1_7p, h5, f1_0, f1_2, f1_3, f1_4, c25, c25p, hw, hqq, hrr, hq2, hr2, hm8, hnn, hsh, hget, hq4, hq5, hq6, hws] | simp (disch := omega) only [wC, if_pos, if_neg])
                    refine ⟨later_nil (by kernel_rfl), ?_⟩
                    refine runD_done (by kernel_rfl) (by kernel_rfl) (by kernel_rfl) ?_
                    refine hJ36 _ _ ?_
                    refine hK33 _ _ ?_
                    refine run_region_k rfl fun J37 hJ37 => ?_
                    repeat (first | simp [g1_3, g1_3p, g1_7, g1_7p, h5, f1_0, f1_2, f1_3, f1_4, c25, c25p, hw, hqq, hrr, hq2, hr2, hm8, hnn, hsh, hget, hq4, hq5, hq6, hws] | simp (disch := omega) only [wC, if_pos, if_neg])
                    refine hJ37 _ _ ?_
                    refine ⟨(i + 1), ⟨?_, ?_, ?_, ?_⟩, ?_⟩
                    · (intro r hr; simp only [List.mem_cons, List.not_mem_nil, or_false] at hr; rcases hr with rfl | rfl | rfl | rfl <;> first | rfl | (simp [g1_3, g1_3p, g1_7, g1_7p, h5, f1_0, f1_2, f1_3, f1_4, c25, c25p, hw, hqq, hrr, hq2, hr2, hm8, hnn, hsh, hget, hq4, hq5, hq6, hws]; done))
                    · first | rfl | omega | assumption | ((repeat (first | simp [g1_3, g1_3p, g1_7, g1_7p, h5, f1_0, f1_2, f1_3, f1_4, c25, c25p, hw, hqq, hrr, hq2, hr2, hm8, hnn, hsh, hget, hq4, hq5, hq6, hws] | simp (disch := omega) only [wC, if_pos, if_neg])); first | done | omega) | (simp only [putA_get]; (repeat (first | simp (disch := omega) only [wC, if_pos, if_neg] | simp [g1_3, g1_3p, g1_7, g1_7p, h5, f1_0, f1_2, f1_3, f1_4, c25, c25p, hw, hqq, hrr, hq2, hr2, hm8, hnn, hsh, hget, hq4, hq5, hq6, hws])); done)
                    · first | rfl | omega | assumption | ((repeat (first | simp [g1_3, g1_3p, g1_7, g1_7p, h5, f1_0, f1_2, f1_3, f1_4, c25, c25p, hw, hqq, hrr, hq2, hr2, hm8, hnn, hsh, hget, hq4, hq5, hq6, hws] | simp (disch := omega) only [wC, if_pos, if_neg])); first | done | omega) | (simp only [putA_get]; (repeat (first | simp (disch := omega) only [wC, if_pos, if_neg] | simp [g1_3, g1_3p, g1_7, g1_7p, h5, f1_0, f1_2, f1_3, f1_4, c25, c25p, hw, hqq, hrr, hq2, hr2, hm8, hnn, hsh, hget, hq4, hq5, hq6, hws])); done)
                    · simp only [Int.natCast_add] at hpl
                      rw [hpl, hstep]
                    · first | rfl | omega | assumption | ((repeat (first | simp [g1_3, g1_3p, g1_7, g1_7p, h5, f1_0, f1_2, f1_3, f1_4, c25, c25p, hw, hqq, hrr, hq2, hr2, hm8, hnn, hsh, hget, hq4, hq5, hq6, hws] | simp (disch := omega) only [wC, if_pos, if_neg])); first | done | omega) | (simp only [putA_get]; (repeat (first | simp (disch := omega) only [wC, if_pos, if_neg] | simp [g1_3, g1_3p, g1_7, g1_7p, h5, f1_0, f1_2, f1_3, f1_4, c25, c25p, hw, hqq, hrr, hq2, hr2, hm8, hnn, hsh, hget, hq4, hq5, hq6, hws])); done)
                · try (exfalso; have gq := c25; simp [g1_3, g1_3p, g1_7, g1_7p, h5, f1_0, f1_2, f1_3, f1_4] at gq; first | done | omega)
                  all_goals
                   have c25p := c25
                   try simp [g1_3, g1_3p, g1_7, g1_7p, h5, f1_0, f1_2, f1_3, f1_4] at c25p
                   all_goals (first | (have gq := c25p; skip) | have c25p : True := True.intro)
                   all_goals
                    refine run_exit ?_
                    refine hK27 _ _ ?_
                    refine run_seq_k fun K38 hK38 => ?_
                    refine run_region_k rfl fun J39 hJ39 => ?_
                    repeat (first | simp [g1_3, g1_3p, g1_7, g1_7p, h5, f1_0, f1_2, f1_3, f1_4, c25, c25p] | simp (disch := omega) only [wC, if_pos, if_neg])
                    refine hJ39 _ _ ?_
                    refine hK38 _ _ ?_
                    refine run_ret ?_
                    try simp only [Then, InBlock, NoGoto]
                    refine answer_cell_tmp rfl (.inr rfl) ?_
                    simp [g1_3, g1_3p, g1_7, g1_7p, h5, f1_0, f1_2, f1_3, f1_4, c25, c25p]
                    exact Wk.refl _

theorem rread_at {σ : St} {p : List UInt8} {n : Nat} {tl : Tail} (h : p.length = n) (hl : p.length ≤ 1000000) :
    CallsA Try.prog 55 [.sl 1 (bytesA p) n tl] σ (fun av σ' => av = .tup [.agg (numA (numOf p)), .v (.bool (numOk p))] ∧ σ = σ') := by
  subst h; exact rread_ok hl

end Go.Proofs.Ytkbhdlocdajhmaa
