import Derived.Test.YtkbhdlocdajhmaaC6
import Derived.Test.YtkbhdlocdajhmaaVmT
/-
  Lists of coins: may they be? are they alike?
-/
namespace Go.Proofs.Ytkbhdlocdajhmaa
set_option linter.unnecessarySimpa false
open Go Go.Vm
set_option linter.unusedSimpArgs false
set_option linter.unusedVariables false

attribute [local simp] evalL wantedA isCall opA evalA evalAll evalsA evalOpt ofValue ofCell plain binA_eql_pn binA_neq_pn binA_gtr binA_lss binA_geq binA_leq binA_add binA_sub binA_eql binA_neq binA_or binA_shl binA_shr binA_mul binA_quo binA_rem binA_agg_eql binA_agg_neq convA_int unA_not fieldAddrA loadA partA pickA_true pickA_false pickA_bb lenA builtinA storeA splice AV.cells AV.isCell sliceA boundA intA callOf indexAddrA newObjA buildA fillA zeroA ofCells buildSliceA indexA fieldA coinsC_at coinC List.getElem?_cons_zero List.getElem?_cons_succ

attribute [local simp] undefA List.getElem?_cons_zero List.getElem?_cons_succ in
theorem zero_ok {σ : St} {x : Num} : CallsA Try.prog 60 [.agg (numA x.v)] σ (fun av σ' => av = .v (.bool (decide (x.v = 0))) ∧ σ = σ') := by
  have hz : decide (x.v = 0) = (((limb x.v 0 : Int) == 0) && ((limb x.v 1 : Int) == 0) && ((limb x.v 2 : Int) == 0) && ((limb x.v 3 : Int) == 0)) := by
    rw [← cellsEq_num0]
    simp [numA, cellsEqA, Bool.and_assoc]
  rw [hz]
  refine callsA_gcS ?_ rfl
  refine callsA_body Try.func60 rfl rfl rfl ?_
  refine run_seq_k fun K1 hK1 => ?_
  refine run_region_k rfl fun J2 hJ2 => ?_
  repeat (first | simp [numA] | simp (disch := omega) only [wC, if_pos, if_neg])
  refine hJ2 _ _ ?_
  refine hK1 _ _ ?_
  refine run_seq_k fun K3 hK3 => ?_
  refine run_region_k rfl fun J4 hJ4 => ?_
  repeat (first | simp [numA] | simp (disch := omega) only [wC, if_pos, if_neg])
  refine runL_splitB 6 (by first | rfl | (simp [numA]; done)) (fun g1_3 => ?_) (fun g1_3 => ?_)
  · try (exfalso; first | (revert g1_3; simp [numA]; done) | (have gq := g1_3; simp [numA] at gq; omega) | (have gq := g1_3; simp [numA] at gq; done))
    all_goals
      have g1_3p := g1_3
      try simp [numA] at g1_3p
      all_goals (first | (have gq := g1_3p; skip) | have g1_3p : True := True.intro)
      all_goals
        refine runL_go (by first | rfl | (simp [numA, g1_3, g1_3p, wantedA]; done)) rfl ?_
        repeat (first | simp [numA, g1_3, g1_3p] | simp (disch := omega) only [wC, if_pos, if_neg])
        refine runL_go (by first | rfl | (simp [numA, g1_3, g1_3p, wantedA]; done)) rfl ?_
        repeat (first | simp [numA, g1_3, g1_3p] | simp (disch := omega) only [wC, if_pos, if_neg])
        refine runL_go (by first | rfl | (simp [numA, g1_3, g1_3p, wantedA]; done)) rfl ?_
        repeat (first | simp [numA, g1_3, g1_3p] | simp (disch := omega) only [wC, if_pos, if_neg])
        refine runL_splitB 11 (by first | rfl | (simp [numA, g1_3, g1_3p]; done)) (fun g1_8 => ?_) (fun g1_8 => ?_)
        · try (exfalso; first | (revert g1_8; simp [numA, g1_3, g1_3p]; done) | (have gq := g1_8; simp [numA, g1_3, g1_3p] at gq; omega) | (have gq := g1_8; simp [numA, g1_3, g1_3p] at gq; done))
          all_goals
            have g1_8p := g1_8
            try simp [numA, g1_3, g1_3p] at g1_8p
            all_goals (first | (have gq := g1_8p; skip) | have g1_8p : True := True.intro)
            all_goals
              refine runL_go (by first | rfl | (simp [numA, g1_3, g1_3p, g1_8, g1_8p, wantedA]; done)) rfl ?_
              repeat (first | simp [numA, g1_3, g1_3p, g1_8, g1_8p] | simp (disch := omega) only [wC, if_pos, if_neg])
              refine runL_go (by first | rfl | (simp [numA, g1_3, g1_3p, g1_8, g1_8p, wantedA]; done)) rfl ?_
              repeat (first | simp [numA, g1_3, g1_3p, g1_8, g1_8p] | simp (disch := omega) only [wC, if_pos, if_neg])
              refine runL_go (by first | rfl | (simp [numA, g1_3, g1_3p, g1_8, g1_8p, wantedA]; done)) rfl ?_
              repeat (first | simp [numA, g1_3, g1_3p, g1_8, g1_8p] | simp (disch := omega) only [wC, if_pos, if_neg])
              refine runL_splitB 16 (by first | rfl | (simp [numA, g1_3, g1_3p, g1_8, g1_8p]; done)) (fun g1_13 => ?_) (fun g1_13 => ?_)
              · try (exfalso; first | (revert g1_13; simp [numA, g1_3, g1_3p, g1_8, g1_8p]; done) | (have gq := g1_13; simp [numA, g1_3, g1_3p, g1_8, g1_8p] at gq; omega) | (have gq := g1_13; simp [numA, g1_3, g1_3p, g1_8, g1_8p] at gq; done))
                all_goals
                  have g1_13p := g1_13
                  try simp [numA, g1_3, g1_3p, g1_8, g1_8p] at g1_13p
                  all_goals (first | (have gq := g1_13p; skip) | have g1_13p : True := True.intro)
                  all_goals
                    refine runL_go (by first | rfl | (simp [numA, g1_3, g1_3p, g1_8, g1_8p, g1_13, g1_13p, wantedA]; done)) rfl ?_
                    repeat (first | simp [numA, g1_3, g1_3p, g1_8, g1_8p, g1_13, g1_13p] | simp (disch := omega) only [wC, if_pos, if_neg])
                    refine runL_go (by first | rfl | (simp [numA, g1_3, g1_3p, g1_8, g1_8p, g1_13, g1_13p, wantedA]; done)) rfl ?_
                    repeat (first | simp [numA, g1_3, g1_3p, g1_8, g1_8p, g1_13, g1_13p] | simp (disch := omega) only [wC, if_pos, if_neg])
                    refine runL_go (by first | rfl | (simp [numA, g1_3, g1_3p, g1_8, g1_8p, g1_13, g1_13p, wantedA]; done)) rfl ?_
                    repeat (first | simp [numA, g1_3, g1_3p, g1_8, g1_8p, g1_13, g1_13p] | simp (disch := omega) only [wC, if_pos, if_neg])
                    refine hJ4 _ _ ?_
                    refine hK3 _ _ ?_
                    refine run_ret ?_
                    try simp only [Then, InBlock, NoGoto]
                    refine answer_tmp rfl (.inr rfl) ?_
                    exact ⟨by first | exact Wk.refl _ | (simp [numA, g1_3, g1_3p, g1_8, g1_8p, g1_13, g1_13p]; exact Wk.refl _) | (simp [*]; exact Wk.refl _) | exact Wk.shut _ _ _ _ | exact Wk.nil _ _ _, _, _, _, st_app (by first | rfl | exact (List.append_nil _).symm | (simp [numA, g1_3, g1_3p, g1_8, g1_8p, g1_13, g1_13p]; rfl) | (simp [numA, g1_3, g1_3p, g1_8, g1_8p, g1_13, g1_13p]; done)) (by first | rfl | exact (List.append_nil _).symm | (simp [numA, g1_3, g1_3p, g1_8, g1_8p, g1_13, g1_13p]; rfl)) (by first | rfl | exact (List.append_nil _).symm | (simp [numA, g1_3, g1_3p, g1_8, g1_8p, g1_13, g1_13p]; rfl)) rfl⟩
              · try (exfalso; first | (revert g1_13; simp [numA, g1_3, g1_3p, g1_8, g1_8p]; done) | (have gq := g1_13; simp [numA, g1_3, g1_3p, g1_8, g1_8p] at gq; omega) | (have gq := g1_13; simp [numA, g1_3, g1_3p, g1_8, g1_8p] at gq; done))
                all_goals
                  have g1_13p := g1_13
                  try simp [numA, g1_3, g1_3p, g1_8, g1_8p] at g1_13p
                  all_goals (first | (have gq := g1_13p; skip) | have g1_13p : True := True.intro)
                  all_goals
                    refine runL_no (by first | rfl | (simp [numA, g1_3, g1_3p, g1_8, g1_8p, g1_13, g1_13p, wantedA]; done)) rfl ?_
                    repeat (first | simp [numA, g1_3, g1_3p, g1_8, g1_8p, g1_13, g1_13p] | simp (disch := omega) only [wC, if_pos, if_neg])
                    refine runL_no (by first | rfl | (simp [numA, g1_3, g1_3p, g1_8, g1_8p, g1_13, g1_13p, wantedA]; done)) rfl ?_
                    repeat (first | simp [numA, g1_3, g1_3p, g1_8, g1_8p, g1_13, g1_13p] | simp (disch := omega) only [wC, if_pos, if_neg])
                    refine runL_no (by first | rfl | (simp [numA, g1_3, g1_3p, g1_8, g1_8p, g1_13, g1_13p, wantedA]; done)) rfl ?_
                    repeat (first | simp [numA, g1_3, g1_3p, g1_8, g1_8p, g1_13, g1_13p] | simp (disch := omega) only [wC, if_pos, if_neg])
                    refine hJ4 _ _ ?_
                    refine hK3 _ _ ?_
                    refine run_ret ?_
                    try simp only [Then, InBlock, NoGoto]
                    refine answer_tmp rfl (.inr rfl) ?_
                    exact ⟨by first | exact Wk.refl _ | (simp [numA, g1_3, g1_3p, g1_8, g1_8p, g1_13, g1_13p]; exact Wk.refl _) | (simp [*]; exact Wk.refl _) | exact Wk.shut _ _ _ _ | exact Wk.nil _ _ _, _, _, _, st_app (by first | rfl | exact (List.append_nil _).symm | (simp [numA, g1_3, g1_3p, g1_8, g1_8p, g1_13, g1_13p]; rfl) | (simp [numA, g1_3, g1_3p, g1_8, g1_8p, g1_13, g1_13p]; done)) (by first | rfl | exact (List.append_nil _).symm | (simp [numA, g1_3, g1_3p, g1_8, g1_8p, g1_13, g1_13p]; rfl)) (by first | rfl | exact (List.append_nil _).symm | (simp [numA, g1_3, g1_3p, g1_8, g1_8p, g1_13, g1_13p]; rfl)) rfl⟩
        · try (exfalso; first | (revert g1_8; simp [numA, g1_3, g1_3p]; done) | (have gq := g1_8; simp [numA, g1_3, g1_3p] at gq; omega) | (have gq := g1_8; simp [numA, g1_3, g1_3p] at gq; done))
          all_goals
            have g1_8p := g1_8
            try simp [numA, g1_3, g1_3p] at g1_8p
            all_goals (first | (have gq := g1_8p; skip) | have g1_8p : True := True.intro)
            all_goals
              refine runL_no (by first | rfl | (simp [numA, g1_3, g1_3p, g1_8, g1_8p, wantedA]; done)) rfl ?_
              repeat (first | simp [numA, g1_3, g1_3p, g1_8, g1_8p] | simp (disch := omega) only [wC, if_pos, if_neg])
              refine runL_no (by first | rfl | (simp [numA, g1_3, g1_3p, g1_8, g1_8p, wantedA]; done)) rfl ?_
              repeat (first | simp [numA, g1_3, g1_3p, g1_8, g1_8p] | simp (disch := omega) only [wC, if_pos, if_neg])
              refine runL_no (by first | rfl | (simp [numA, g1_3, g1_3p, g1_8, g1_8p, wantedA]; done)) rfl ?_
              repeat (first | simp [numA, g1_3, g1_3p, g1_8, g1_8p] | simp (disch := omega) only [wC, if_pos, if_neg])
              refine runL_no (by first | rfl | (simp [numA, g1_3, g1_3p, g1_8, g1_8p, wantedA]; done)) rfl ?_
              repeat (first | simp [numA, g1_3, g1_3p, g1_8, g1_8p] | simp (disch := omega) only [wC, if_pos, if_neg])
              refine runL_no (by first | rfl | (simp [numA, g1_3, g1_3p, g1_8, g1_8p, wantedA]; done)) rfl ?_
              repeat (first | simp [numA, g1_3, g1_3p, g1_8, g1_8p] | simp (disch := omega) only [wC, if_pos, if_neg])
              refine runL_no (by first | rfl | (simp [numA, g1_3, g1_3p, g1_8, g1_8p, wantedA]; done)) rfl ?_
              repeat (first | simp [numA, g1_3, g1_3p, g1_8, g1_8p] | simp (disch := omega) only [wC, if_pos, if_neg])
              refine hJ4 _ _ ?_
              refine hK3 _ _ ?_
              refine run_ret ?_
              try simp only [Then, InBlock, NoGoto]
              refine answer_tmp rfl (.inr rfl) ?_
              exact ⟨by first | exact Wk.refl _ | (simp [numA, g1_3, g1_3p, g1_8, g1_8p]; exact Wk.refl _) | (simp [*]; exact Wk.refl _) | exact Wk.shut _ _ _ _ | exact Wk.nil _ _ _, _, _, _, st_app (by first | rfl | exact (List.append_nil _).symm | (simp [numA, g1_3, g1_3p, g1_8, g1_8p]; rfl) | (simp [numA, g1_3, g1_3p, g1_8, g1_8p]; done)) (by first | rfl | exact (List.append_nil _).symm | (simp [numA, g1_3, g1_3p, g1_8, g1_8p]; rfl)) (by first | rfl | exact (List.append_nil _).symm | (simp [numA, g1_3, g1_3p, g1_8, g1_8p]; rfl)) rfl⟩
  · try (exfalso; first | (revert g1_3; simp [numA]; done) | (have gq := g1_3; simp [numA] at gq; omega) | (have gq := g1_3; simp [numA] at gq; done))
    all_goals
      have g1_3p := g1_3
      try simp [numA] at g1_3p
      all_goals (first | (have gq := g1_3p; skip) | have g1_3p : True := True.intro)
      all_goals
        refine runL_no (by first | rfl | (simp [numA, g1_3, g1_3p, wantedA]; done)) rfl ?_
        repeat (first | simp [numA, g1_3, g1_3p] | simp (disch := omega) only [wC, if_pos, if_neg])
        refine runL_no (by first | rfl | (simp [numA, g1_3, g1_3p, wantedA]; done)) rfl ?_
        repeat (first | simp [numA, g1_3, g1_3p] | simp (disch := omega) only [wC, if_pos, if_neg])
        refine runL_no (by first | rfl | (simp [numA, g1_3, g1_3p, wantedA]; done)) rfl ?_
        repeat (first | simp [numA, g1_3, g1_3p] | simp (disch := omega) only [wC, if_pos, if_neg])
        refine runL_no (by first | rfl | (simp [numA, g1_3, g1_3p, wantedA]; done)) rfl ?_
        repeat (first | simp [numA, g1_3, g1_3p] | simp (disch := omega) only [wC, if_pos, if_neg])
        refine runL_no (by first | rfl | (simp [numA, g1_3, g1_3p, wantedA]; done)) rfl ?_
        repeat (first | simp [numA, g1_3, g1_3p] | simp (disch := omega) only [wC, if_pos, if_neg])
        refine runL_no (by first | rfl | (simp [numA, g1_3, g1_3p, wantedA]; done)) rfl ?_
        repeat (first | simp [numA, g1_3, g1_3p] | simp (disch := omega) only [wC, if_pos, if_neg])
        refine runL_no (by first | rfl | (simp [numA, g1_3, g1_3p, wantedA]; done)) rfl ?_
        repeat (first | simp [numA, g1_3, g1_3p] | simp (disch := omega) only [wC, if_pos, if_neg])
        refine runL_no (by first | rfl | (simp [numA, g1_3, g1_3p, wantedA]; done)) rfl ?_
        repeat (first | simp [numA, g1_3, g1_3p] | simp (disch := omega) only [wC, if_pos, if_neg])
        refine runL_no (by first | rfl | (simp [numA, g1_3, g1_3p, wantedA]; done)) rfl ?_
        repeat (first | simp [numA, g1_3, g1_3p] | simp (disch := omega) only [wC, if_pos, if_neg])
        refine hJ4 _ _ ?_
        refine hK3 _ _ ?_
        refine run_ret ?_
        try simp only [Then, InBlock, NoGoto]
        refine answer_tmp rfl (.inr rfl) ?_
        exact ⟨by first | exact Wk.refl _ | (simp [numA, g1_3, g1_3p]; exact Wk.refl _) | (simp [*]; exact Wk.refl _) | exact Wk.shut _ _ _ _ | exact Wk.nil _ _ _, _, _, _, st_app (by first | rfl | exact (List.append_nil _).symm | (simp [numA, g1_3, g1_3p]; rfl) | (simp [numA, g1_3, g1_3p]; done)) (by first | rfl | exact (List.append_nil _).symm | (simp [numA, g1_3, g1_3p]; rfl)) (by first | rfl | exact (List.append_nil _).symm | (simp [numA, g1_3, g1_3p]; rfl)) rfl⟩

theorem right_no {l : List Coin} {k : Nat} (h : k < l.length) (hn : 8 ≤ l[k].d.toNat ∨ l[k].n.v = 0 ∨ ∃ j, ∃ e : k = j + 1, l[k].d.toNat ≤ (l[j]'(by omega)).d.toNat) : ¬ Right l := by
  intro hr
  have h1 := hr.1 l[k] (List.getElem_mem h)
  rcases hn with hn | hn | ⟨j, rfl, hn⟩
  · omega
  · exact h1.2 hn
  · have := List.pairwise_iff_getElem.1 hr.2 j (j + 1) (by omega) h (by omega)
    omega
theorem right_next {l : List Coin} {j : Nat} (h : j + 1 < l.length) (h1 : l[j + 1].d.toNat < 8) (h2 : ¬ l[j + 1].n.v = 0) (h3 : (l[j]'(by omega)).d.toNat < l[j + 1].d.toNat) (hR : Right (l.take (j + 1))) : Right (l.take (j + 1 + 1)) := by
  rw [take_snoc h, right_snoc]
  refine ⟨hR, ⟨h1, h2⟩, right_last hR ?_ h3⟩
  rw [take_snoc (by omega : j < l.length), List.getLast?_append]; rfl
theorem right_first {l : List Coin} (h : 0 < l.length) (h1 : l[0].d.toNat < 8) (h2 : ¬ l[0].n.v = 0) : Right (l.take 1) := by
  have := take_snoc h
  rw [Nat.zero_add] at this
  rw [this, right_snoc]
  exact ⟨by simpa using Go.Vm.right_nil, ⟨h1, h2⟩, by simp⟩

attribute [local simp] undefA List.getElem?_cons_zero List.getElem?_cons_succ in
theorem right_ok {σ : St} {l : List Coin} {tl : Tail} (hl : l.length ≤ 1000000) : CallsA Try.prog 38 [.sl 5 (coinsC l) l.length tl] σ (fun av σ' => av = .v (.bool (decide (Right l))) ∧ σ = σ') := by
  refine callsA_gcS ?_ rfl
  refine callsA_body Try.func38 rfl rfl rfl ?_
  refine run_seq_k fun K1 hK1 => ?_
  refine run_region_k rfl fun J2 hJ2 => ?_
  repeat (first | simp | simp (disch := omega) only [wC, if_pos, if_neg])
  refine hJ2 _ _ ?_
  refine hK1 _ _ ?_
  refine run_seq_k fun K3 hK3 => ?_
  refine run_seq_k fun K4 hK4 => ?_
  refine run_region_k rfl fun J5 hJ5 => ?_
  repeat (first | simp | simp (disch := omega) only [wC, if_pos, if_neg])
  refine hJ5 _ _ ?_
  refine hK4 _ _ ?_
  refine run_block_k ?_
  refine run_loopG (X := Nat) [0, 5, 6] (fun k ρ σ1 => (k ≤ l.length) ∧ (Right (l.take k)) ∧ (ρ 7 = .v (.int .i64 k)) ∧ (σ1 = σ)) (fun k => l.length - k) (0) ?st1 ?rd1
  case st1 =>
    refine ⟨?_, ?_, ?_, ?_⟩
    · first | rfl | (simp; done) | omega | assumption | (simp; omega) | (simp only [putA_get]; simp (disch := omega) only [wC, if_pos, if_neg]; simp; done) | (simp; simp (disch := omega) only [wC, if_pos, if_neg]; simp; done)
    · simpa using Go.Vm.right_nil
    · first | rfl | (simp; done) | omega | assumption | (simp; omega) | (simp only [putA_get]; simp (disch := omega) only [wC, if_pos, if_neg]; simp; done) | (simp; simp (disch := omega) only [wC, if_pos, if_neg]; simp; done)
    · first | rfl | (simp; done) | omega | assumption | (simp; omega) | (simp only [putA_get]; simp (disch := omega) only [wC, if_pos, if_neg]; simp; done) | (simp; simp (disch := omega) only [wC, if_pos, if_neg]; simp; done)
  case rd1 =>
    rintro k ρ1 σ1 hF1 ⟨hk, hR, h7, hs⟩
    obtain rfl := hs.symm
    have f1_0 := hF1 0 (by decide)
    try simp at f1_0
    have f1_5 := hF1 5 (by decide)
    try simp at f1_5
    have f1_6 := hF1 6 (by decide)
    try simp at f1_6
    refine run_seq_k fun K6 hK6 => ?_
    refine run_region_k rfl fun J7 hJ7 => ?_
    repeat (first | simp [h7, f1_0, f1_5, f1_6] | simp (disch := omega) only [wC, if_pos, if_neg])
    refine hJ7 _ _ ?_
    refine hK6 _ _ ?_
    refine run_seq_k fun K8 hK8 => ?_
    refine run_cond_split (by first | rfl | (simp [h7, f1_0, f1_5, f1_6, evalA]; done)) (fun c8 => ?_) (fun c8 => ?_)
    · try (exfalso; first | (revert c8; simp [h7, f1_0, f1_5, f1_6]; done) | (have gq := c8; simp [h7, f1_0, f1_5, f1_6] at gq; omega) | (have gq := c8; simp [h7, f1_0, f1_5, f1_6] at gq; done))
      all_goals
        have c8p := c8
        try simp [h7, f1_0, f1_5, f1_6] at c8p
        all_goals (first | (have gq := c8p; skip) | have c8p : True := True.intro)
        all_goals
          refine run_skip ?_
          refine hK8 _ _ ?_
          refine run_seq_k fun K9 hK9 => ?_
          refine run_block_k ?_
          refine run_seq_k fun K10 hK10 => ?_
          refine run_region_k rfl fun J11 hJ11 => ?_
          repeat (first | simp [h7, f1_0, f1_5, f1_6, c8, c8p] | simp (disch := omega) only [wC, if_pos, if_neg])
          refine hJ11 _ _ ?_
          refine hK10 _ _ ?_
          refine run_seq_k fun K12 hK12 => ?_
          refine run_draw (by kernel_rfl) fun J13 hJ13 => ?_
          refine runD_pure' 0 (by kernel_rfl) rfl rfl (by kernel_rfl) (by kernel_rfl) (by kernel_rfl) (by kernel_rfl) ?_
          repeat (first | simp [h7, f1_0, f1_5, f1_6, c8, c8p] | simp (disch := omega) only [wC, if_pos, if_neg])
          refine runD_pure' 1 (by kernel_rfl) rfl rfl (by kernel_rfl) (by kernel_rfl) (by kernel_rfl) (by kernel_rfl) ?_
          repeat (first | simp [h7, f1_0, f1_5, f1_6, c8, c8p] | simp (disch := omega) only [wC, if_pos, if_neg])
          refine runD_pure' 2 (by kernel_rfl) rfl rfl (by kernel_rfl) (by kernel_rfl) (by kernel_rfl) (by kernel_rfl) ?_
          repeat (first | simp [h7, f1_0, f1_5, f1_6, c8, c8p] | simp (disch := omega) only [wC, if_pos, if_neg])
          refine runD_pure' 3 (by kernel_rfl) rfl rfl (by kernel_rfl) (by kernel_rfl) (by kernel_rfl) (by kernel_rfl) ?_
          repeat (first | simp [h7, f1_0, f1_5, f1_6, c8, c8p] | simp (disch := omega) only [wC, if_pos, if_neg])
          refine runD_splitB 15 (by first | rfl | (simp [h7, f1_0, f1_5, f1_6, c8, c8p]; done)) (fun g4_3 => ?_) (fun g4_3 => ?_)
          · try (exfalso; first | (revert g4_3; simp [h7, f1_0, f1_5, f1_6, c8, c8p]; done) | (have gq := g4_3; simp [h7, f1_0, f1_5, f1_6, c8, c8p] at gq; omega) | (have gq := g4_3; simp [h7, f1_0, f1_5, f1_6, c8, c8p] at gq; done))
            all_goals
              have g4_3p := g4_3
              try simp [h7, f1_0, f1_5, f1_6, c8, c8p] at g4_3p
              all_goals (first | (have gq := g4_3p; skip) | have g4_3p : True := True.intro)
              all_goals
                refine runD_pure' 4 (by kernel_rfl) rfl rfl (by kernel_rfl) (by kernel_rfl) (by kernel_rfl) (by kernel_rfl) ?_
                repeat (first | simp [h7, f1_0, f1_5, f1_6, c8, c8p, g4_3, g4_3p] | simp (disch := omega) only [wC, if_pos, if_neg])
                refine runD_pure' 5 (by kernel_rfl) rfl rfl (by kernel_rfl) (by kernel_rfl) (by kernel_rfl) (by kernel_rfl) ?_
                repeat (first | simp [h7, f1_0, f1_5, f1_6, c8, c8p, g4_3, g4_3p] | simp (disch := omega) only [wC, if_pos, if_neg])
                refine runD_pure' 6 (by kernel_rfl) rfl rfl (by kernel_rfl) (by kernel_rfl) (by kernel_rfl) (by kernel_rfl) ?_
                repeat (first | simp [h7, f1_0, f1_5, f1_6, c8, c8p, g4_3, g4_3p] | simp (disch := omega) only [wC, if_pos, if_neg])
                refine runD_pure' 7 (by kernel_rfl) rfl rfl (by kernel_rfl) (by kernel_rfl) (by kernel_rfl) (by kernel_rfl) ?_
                repeat (first | simp [h7, f1_0, f1_5, f1_6, c8, c8p, g4_3, g4_3p] | simp (disch := omega) only [wC, if_pos, if_neg])
                refine runD_pure' 8 (by kernel_rfl) rfl rfl (by kernel_rfl) (by kernel_rfl) (by kernel_rfl) (by kernel_rfl) ?_
                repeat (first | simp [h7, f1_0, f1_5, f1_6, c8, c8p, g4_3, g4_3p] | simp (disch := omega) only [wC, if_pos, if_neg])
                refine runD_pure' 9 (by kernel_rfl) rfl rfl (by kernel_rfl) (by kernel_rfl) (by kernel_rfl) (by kernel_rfl) ?_
                repeat (first | simp [h7, f1_0, f1_5, f1_6, c8, c8p, g4_3, g4_3p] | simp (disch := omega) only [wC, if_pos, if_neg])
                refine runD_pure' 10 (by kernel_rfl) rfl rfl (by kernel_rfl) (by kernel_rfl) (by kernel_rfl) (by kernel_rfl) ?_
                repeat (first | simp [h7, f1_0, f1_5, f1_6, c8, c8p, g4_3, g4_3p] | simp (disch := omega) only [wC, if_pos, if_neg])
                refine runD_pure' 11 (by kernel_rfl) rfl rfl (by kernel_rfl) (by kernel_rfl) (by kernel_rfl) (by kernel_rfl) ?_
                repeat (first | simp [h7, f1_0, f1_5, f1_6, c8, c8p, g4_3, g4_3p] | simp (disch := omega) only [wC, if_pos, if_neg])
                refine runD_pure' 12 (by kernel_rfl) rfl rfl (by kernel_rfl) (by kernel_rfl) (by kernel_rfl) (by kernel_rfl) ?_
                repeat (first | simp [h7, f1_0, f1_5, f1_6, c8, c8p, g4_3, g4_3p] | simp (disch := omega) only [wC, if_pos, if_neg])
                refine runD_pure' 13 (by kernel_rfl) rfl rfl (by kernel_rfl) (by kernel_rfl) (by kernel_rfl) (by kernel_rfl) ?_
                repeat (first | simp [h7, f1_0, f1_5, f1_6, c8, c8p, g4_3, g4_3p] | simp (disch := omega) only [wC, if_pos, if_neg])
                refine runD_pure' 14 (by kernel_rfl) rfl rfl (by kernel_rfl) (by kernel_rfl) (by kernel_rfl) (by kernel_rfl) ?_
                repeat (first | simp [h7, f1_0, f1_5, f1_6, c8, c8p, g4_3, g4_3p] | simp (disch := omega) only [wC, if_pos, if_neg])
                refine runD_pure' 15 (by kernel_rfl) rfl rfl (by kernel_rfl) (by kernel_rfl) (by kernel_rfl) (by kernel_rfl) ?_
                repeat (first | simp [h7, f1_0, f1_5, f1_6, c8, c8p, g4_3, g4_3p] | simp (disch := omega) only [wC, if_pos, if_neg])
                refine runD_pure' 16 (by kernel_rfl) rfl rfl (by kernel_rfl) (by kernel_rfl) (by kernel_rfl) (by kernel_rfl) ?_
                repeat (first | simp [h7, f1_0, f1_5, f1_6, c8, c8p, g4_3, g4_3p] | simp (disch := omega) only [wC, if_pos, if_neg])
                refine runD_pure' 17 (by kernel_rfl) rfl rfl (by kernel_rfl) (by kernel_rfl) (by kernel_rfl) (by kernel_rfl) ?_
                repeat (first | simp [h7, f1_0, f1_5, f1_6, c8, c8p, g4_3, g4_3p] | simp (disch := omega) only [wC, if_pos, if_neg])
                refine runD_pure' 18 (by kernel_rfl) rfl rfl (by kernel_rfl) (by kernel_rfl) (by kernel_rfl) (by kernel_rfl) ?_
                repeat (first | simp [h7, f1_0, f1_5, f1_6, c8, c8p, g4_3, g4_3p] | simp (disch := omega) only [wC, if_pos, if_neg])
                refine runD_pure' 19 (by kernel_rfl) rfl rfl (by kernel_rfl) (by kernel_rfl) (by kernel_rfl) (by kernel_rfl) ?_
                repeat (first | simp [h7, f1_0, f1_5, f1_6, c8, c8p, g4_3, g4_3p] | simp (disch := omega) only [wC, if_pos, if_neg])
                refine runD_pure' 20 (by kernel_rfl) rfl rfl (by kernel_rfl) (by kernel_rfl) (by kernel_rfl) (by kernel_rfl) ?_
                repeat (first | simp [h7, f1_0, f1_5, f1_6, c8, c8p, g4_3, g4_3p] | simp (disch := omega) only [wC, if_pos, if_neg])
                refine runD_pure' 21 (by kernel_rfl) rfl rfl (by kernel_rfl) (by kernel_rfl) (by kernel_rfl) (by kernel_rfl) ?_
                repeat (first | simp [h7, f1_0, f1_5, f1_6, c8, c8p, g4_3, g4_3p] | simp (disch := omega) only [wC, if_pos, if_neg])
                refine runD_pure' 22 (by kernel_rfl) rfl rfl (by kernel_rfl) (by kernel_rfl) (by kernel_rfl) (by kernel_rfl) ?_
                repeat (first | simp [h7, f1_0, f1_5, f1_6, c8, c8p, g4_3, g4_3p] | simp (disch := omega) only [wC, if_pos, if_neg])
                refine runD_pure' 23 (by kernel_rfl) rfl rfl (by kernel_rfl) (by kernel_rfl) (by kernel_rfl) (by kernel_rfl) ?_
                repeat (first | simp [h7, f1_0, f1_5, f1_6, c8, c8p, g4_3, g4_3p] | simp (disch := omega) only [wC, if_pos, if_neg])
                refine runD_done (by kernel_rfl) (by kernel_rfl) (by kernel_rfl) ?_
                refine hJ13 _ _ ?_
                refine hK12 _ _ ?_
                refine run_cond_true (by first | rfl | (simp [h7, f1_0, f1_5, f1_6, c8, c8p, g4_3, g4_3p, evalA]; done)) ?_
                refine run_seq_k fun K14 hK14 => ?_
                refine run_region_k rfl fun J15 hJ15 => ?_
                repeat (first | simp [h7, f1_0, f1_5, f1_6, c8, c8p, g4_3, g4_3p] | simp (disch := omega) only [wC, if_pos, if_neg])
                refine hJ15 _ _ ?_
                refine hK14 _ _ ?_
                refine run_ret ?_
                try simp only [Then, InBlock, NoGoto]
                refine answer_tmp rfl (.inr rfl) ?_
                have hn : ¬ Right l := right_no c8p (.inl (by omega))
                exact ⟨by first | exact Wk.refl _ | (simp [h7, f1_0, f1_5, f1_6, c8, c8p, g4_3, g4_3p]; exact Wk.refl _) | (simp [*]; exact Wk.refl _) | exact Wk.shut _ _ _ _ | exact Wk.nil _ _ _, _, _, _, st_app (by first | rfl | exact (List.append_nil _).symm | (simp [h7, f1_0, f1_5, f1_6, c8, c8p, g4_3, g4_3p]; rfl) | (simp [h7, f1_0, f1_5, f1_6, c8, c8p, g4_3, g4_3p]; done)) (by first | rfl | exact (List.append_nil _).symm | (simp [h7, f1_0, f1_5, f1_6, c8, c8p, g4_3, g4_3p]; rfl)) (by first | rfl | exact (List.append_nil _).symm | (simp [h7, f1_0, f1_5, f1_6, c8, c8p, g4_3, g4_3p]; rfl)) rfl⟩
          · try (exfalso; first | (revert g4_3; simp [h7, f1_0, f1_5, f1_6, c8, c8p]; done) | (have gq := g4_3; simp [h7, f1_0, f1_5, f1_6, c8, c8p] at gq; omega) | (have gq := g4_3; simp [h7, f1_0, f1_5, f1_6, c8, c8p] at gq; done))
            all_goals
              have g4_3p := g4_3
              try simp [h7, f1_0, f1_5, f1_6, c8, c8p] at g4_3p
              all_goals (first | (have gq := g4_3p; skip) | have g4_3p : True := True.intro)
              all_goals
                refine runD_pure' 4 (by kernel_rfl) rfl rfl (by kernel_rfl) (by kernel_rfl) (by kernel_rfl) (by kernel_rfl) ?_
                repeat (first | simp [h7, f1_0, f1_5, f1_6, c8, c8p, g4_3, g4_3p] | simp (disch := omega) only [wC, if_pos, if_neg])
                refine runD_pure' 5 (by kernel_rfl) rfl rfl (by kernel_rfl) (by kernel_rfl) (by kernel_rfl) (by kernel_rfl) ?_
                repeat (first | simp [h7, f1_0, f1_5, f1_6, c8, c8p, g4_3, g4_3p] | simp (disch := omega) only [wC, if_pos, if_neg])
                refine runD_pure' 6 (by kernel_rfl) rfl rfl (by kernel_rfl) (by kernel_rfl) (by kernel_rfl) (by kernel_rfl) ?_
                repeat (first | simp [h7, f1_0, f1_5, f1_6, c8, c8p, g4_3, g4_3p] | simp (disch := omega) only [wC, if_pos, if_neg])
                refine runD_pure' 7 (by kernel_rfl) rfl rfl (by kernel_rfl) (by kernel_rfl) (by kernel_rfl) (by kernel_rfl) ?_
                repeat (first | simp [h7, f1_0, f1_5, f1_6, c8, c8p, g4_3, g4_3p] | simp (disch := omega) only [wC, if_pos, if_neg])
                refine runD_pure' 8 (by kernel_rfl) rfl rfl (by kernel_rfl) (by kernel_rfl) (by kernel_rfl) (by kernel_rfl) ?_
                repeat (first | simp [h7, f1_0, f1_5, f1_6, c8, c8p, g4_3, g4_3p] | simp (disch := omega) only [wC, if_pos, if_neg])
                refine runD_pure' 9 (by kernel_rfl) rfl rfl (by kernel_rfl) (by kernel_rfl) (by kernel_rfl) (by kernel_rfl) ?_
                repeat (first | simp [h7, f1_0, f1_5, f1_6, c8, c8p, g4_3, g4_3p] | simp (disch := omega) only [wC, if_pos, if_neg])
                refine runD_splitB 21 (by first | rfl | (simp [h7, f1_0, f1_5, f1_6, c8, c8p, g4_3, g4_3p]; done)) (fun g4_9 => ?_) (fun g4_9 => ?_)
                · try (exfalso; first | (revert g4_9; simp [h7, f1_0, f1_5, f1_6, c8, c8p, g4_3, g4_3p]; done) | (have gq := g4_9; simp [h7, f1_0, f1_5, f1_6, c8, c8p, g4_3, g4_3p] at gq; omega) | (have gq := g4_9; simp [h7, f1_0, f1_5, f1_6, c8, c8p, g4_3, g4_3p] at gq; done))
                  all_goals
                    have g4_9p := g4_9
                    try simp [h7, f1_0, f1_5, f1_6, c8, c8p, g4_3, g4_3p] at g4_9p
                    all_goals (first | (have gq := g4_9p; skip) | have g4_9p : True := True.intro)
                    all_goals
                      refine runD_pure' 10 (by kernel_rfl) rfl rfl (by kernel_rfl) (by kernel_rfl) (by kernel_rfl) (by kernel_rfl) ?_
                      repeat (first | simp [h7, f1_0, f1_5, f1_6, c8, c8p, g4_3, g4_3p, g4_9, g4_9p] | simp (disch := omega) only [wC, if_pos, if_neg])
                      refine runD_pure' 11 (by kernel_rfl) rfl rfl (by kernel_rfl) (by kernel_rfl) (by kernel_rfl) (by kernel_rfl) ?_
                      repeat (first | simp [h7, f1_0, f1_5, f1_6, c8, c8p, g4_3, g4_3p, g4_9, g4_9p] | simp (disch := omega) only [wC, if_pos, if_neg])
                      refine runD_pure' 12 (by kernel_rfl) rfl rfl (by kernel_rfl) (by kernel_rfl) (by kernel_rfl) (by kernel_rfl) ?_
                      repeat (first | simp [h7, f1_0, f1_5, f1_6, c8, c8p, g4_3, g4_3p, g4_9, g4_9p] | simp (disch := omega) only [wC, if_pos, if_neg])
                      refine runD_pure' 13 (by kernel_rfl) rfl rfl (by kernel_rfl) (by kernel_rfl) (by kernel_rfl) (by kernel_rfl) ?_
                      repeat (first | simp [h7, f1_0, f1_5, f1_6, c8, c8p, g4_3, g4_3p, g4_9, g4_9p] | simp (disch := omega) only [wC, if_pos, if_neg])
                      refine runD_pure' 14 (by kernel_rfl) rfl rfl (by kernel_rfl) (by kernel_rfl) (by kernel_rfl) (by kernel_rfl) ?_
                      repeat (first | simp [h7, f1_0, f1_5, f1_6, c8, c8p, g4_3, g4_3p, g4_9, g4_9p] | simp (disch := omega) only [wC, if_pos, if_neg])
                      refine runD_pure' 15 (by kernel_rfl) rfl rfl (by kernel_rfl) (by kernel_rfl) (by kernel_rfl) (by kernel_rfl) ?_
                      repeat (first | simp [h7, f1_0, f1_5, f1_6, c8, c8p, g4_3, g4_3p, g4_9, g4_9p] | simp (disch := omega) only [wC, if_pos, if_neg])
                      refine runD_pure' 16 (by kernel_rfl) rfl rfl (by kernel_rfl) (by kernel_rfl) (by kernel_rfl) (by kernel_rfl) ?_
                      repeat (first | simp [h7, f1_0, f1_5, f1_6, c8, c8p, g4_3, g4_3p, g4_9, g4_9p] | simp (disch := omega) only [wC, if_pos, if_neg])
                      refine runD_pure' 17 (by kernel_rfl) rfl rfl (by kernel_rfl) (by kernel_rfl) (by kernel_rfl) (by kernel_rfl) ?_
                      repeat (first | simp [h7, f1_0, f1_5, f1_6, c8, c8p, g4_3, g4_3p, g4_9, g4_9p] | simp (disch := omega) only [wC, if_pos, if_neg])
                      refine runD_pure' 18 (by kernel_rfl) rfl rfl (by kernel_rfl) (by kernel_rfl) (by kernel_rfl) (by kernel_rfl) ?_
                      repeat (first | simp [h7, f1_0, f1_5, f1_6, c8, c8p, g4_3, g4_3p, g4_9, g4_9p] | simp (disch := omega) only [wC, if_pos, if_neg])
                      refine runD_pure' 19 (by kernel_rfl) rfl rfl (by kernel_rfl) (by kernel_rfl) (by kernel_rfl) (by kernel_rfl) ?_
                      repeat (first | simp [h7, f1_0, f1_5, f1_6, c8, c8p, g4_3, g4_3p, g4_9, g4_9p] | simp (disch := omega) only [wC, if_pos, if_neg])
                      refine runD_pure' 20 (by kernel_rfl) rfl rfl (by kernel_rfl) (by kernel_rfl) (by kernel_rfl) (by kernel_rfl) ?_
                      repeat (first | simp [h7, f1_0, f1_5, f1_6, c8, c8p, g4_3, g4_3p, g4_9, g4_9p] | simp (disch := omega) only [wC, if_pos, if_neg])
                      refine runD_pure' 21 (by kernel_rfl) rfl rfl (by kernel_rfl) (by kernel_rfl) (by kernel_rfl) (by kernel_rfl) ?_
                      repeat (first | simp [h7, f1_0, f1_5, f1_6, c8, c8p, g4_3, g4_3p, g4_9, g4_9p] | simp (disch := omega) only [wC, if_pos, if_neg])
                      refine runD_pure' 22 (by kernel_rfl) rfl rfl (by kernel_rfl) (by kernel_rfl) (by kernel_rfl) (by kernel_rfl) ?_
                      repeat (first | simp [h7, f1_0, f1_5, f1_6, c8, c8p, g4_3, g4_3p, g4_9, g4_9p] | simp (disch := omega) only [wC, if_pos, if_neg])
                      refine runD_pure' 23 (by kernel_rfl) rfl rfl (by kernel_rfl) (by kernel_rfl) (by kernel_rfl) (by kernel_rfl) ?_
                      repeat (first | simp [h7, f1_0, f1_5, f1_6, c8, c8p, g4_3, g4_3p, g4_9, g4_9p] | simp (disch := omega) only [wC, if_pos, if_neg])
                      refine runD_done (by kernel_rfl) (by kernel_rfl) (by kernel_rfl) ?_
                      refine hJ13 _ _ ?_
                      refine hK12 _ _ ?_
                      refine run_cond_true (by first | rfl | (simp [h7, f1_0, f1_5, f1_6, c8, c8p, g4_3, g4_3p, g4_9, g4_9p, evalA]; done)) ?_
                      refine run_seq_k fun K16 hK16 => ?_
                      refine run_region_k rfl fun J17 hJ17 => ?_
                      repeat (first | simp [h7, f1_0, f1_5, f1_6, c8, c8p, g4_3, g4_3p, g4_9, g4_9p] | simp (disch := omega) only [wC, if_pos, if_neg])
                      refine hJ17 _ _ ?_
                      refine hK16 _ _ ?_
                      refine run_ret ?_
                      try simp only [Then, InBlock, NoGoto]
                      refine answer_tmp rfl (.inr rfl) ?_
                      have hn : ¬ Right l := right_no c8p (.inr (.inl g4_9p))
                      exact ⟨by first | exact Wk.refl _ | (simp [h7, f1_0, f1_5, f1_6, c8, c8p, g4_3, g4_3p, g4_9, g4_9p]; exact Wk.refl _) | (simp [*]; exact Wk.refl _) | exact Wk.shut _ _ _ _ | exact Wk.nil _ _ _, _, _, _, st_app (by first | rfl | exact (List.append_nil _).symm | (simp [h7, f1_0, f1_5, f1_6, c8, c8p, g4_3, g4_3p, g4_9, g4_9p]; rfl) | (simp [h7, f1_0, f1_5, f1_6, c8, c8p, g4_3, g4_3p, g4_9, g4_9p]; done)) (by first | rfl | exact (List.append_nil _).symm | (simp [h7, f1_0, f1_5, f1_6, c8, c8p, g4_3, g4_3p, g4_9, g4_9p]; rfl)) (by first | rfl | exact (List.append_nil _).symm | (simp [h7, f1_0, f1_5, f1_6, c8, c8p, g4_3, g4_3p, g4_9, g4_9p]; rfl)) rfl⟩
                · try (exfalso; first | (revert g4_9; simp [h7, f1_0, f1_5, f1_6, c8, c8p, g4_3, g4_3p]; done) | (have gq := g4_9; simp [h7, f1_0, f1_5, f1_6, c8, c8p, g4_3, g4_3p] at gq; omega) | (have gq := g4_9; simp [h7, f1_0, f1_5, f1_6, c8, c8p, g4_3, g4_3p] at gq; done))
                  all_goals
                    have g4_9p := g4_9
                    try simp [h7, f1_0, f1_5, f1_6, c8, c8p, g4_3, g4_3p] at g4_9p
                    all_goals (first | (have gq := g4_9p; skip) | have g4_9p : True := True.intro)
                    all_goals
                      refine runD_pure' 10 (by kernel_rfl) rfl rfl (by kernel_rfl) (by kernel_rfl) (by kernel_rfl) (by kernel_rfl) ?_
                      repeat (first | simp [h7, f1_0, f1_5, f1_6, c8, c8p, g4_3, g4_3p, g4_9, g4_9p] | simp (disch := omega) only [wC, if_pos, if_neg])
                      refine runD_pure' 11 (by kernel_rfl) rfl rfl (by kernel_rfl) (by kernel_rfl) (by kernel_rfl) (by kernel_rfl) ?_
                      repeat (first | simp [h7, f1_0, f1_5, f1_6, c8, c8p, g4_3, g4_3p, g4_9, g4_9p] | simp (disch := omega) only [wC, if_pos, if_neg])
                      refine runD_pure' 12 (by kernel_rfl) rfl rfl (by kernel_rfl) (by kernel_rfl) (by kernel_rfl) (by kernel_rfl) ?_
                      repeat (first | simp [h7, f1_0, f1_5, f1_6, c8, c8p, g4_3, g4_3p, g4_9, g4_9p] | simp (disch := omega) only [wC, if_pos, if_neg])
                      refine runD_splitB 24 (by first | rfl | (simp [h7, f1_0, f1_5, f1_6, c8, c8p, g4_3, g4_3p, g4_9, g4_9p]; done)) (fun g4_12 => ?_) (fun g4_12 => ?_)
                      · try (exfalso; first | (revert g4_12; simp [h7, f1_0, f1_5, f1_6, c8, c8p, g4_3, g4_3p, g4_9, g4_9p]; done) | (have gq := g4_12; simp [h7, f1_0, f1_5, f1_6, c8, c8p, g4_3, g4_3p, g4_9, g4_9p] at gq; omega) | (have gq := g4_12; simp [h7, f1_0, f1_5, f1_6, c8, c8p, g4_3, g4_3p, g4_9, g4_9p] at gq; done))
                        all_goals
                          have g4_12p := g4_12
                          try simp [h7, f1_0, f1_5, f1_6, c8, c8p, g4_3, g4_3p, g4_9, g4_9p] at g4_12p
                          all_goals (first | (have gq := g4_12p; skip) | have g4_12p : True := True.intro)
                          all_goals
                            obtain ⟨j, rfl⟩ : ∃ j, k = j + 1 := ⟨k - 1, by omega⟩
                            refine runD_pure' 13 (by kernel_rfl) rfl rfl (by kernel_rfl) (by kernel_rfl) (by kernel_rfl) (by kernel_rfl) ?_
                            repeat (first | simp [h7, f1_0, f1_5, f1_6, c8, c8p, g4_3, g4_3p, g4_9, g4_9p, g4_12, g4_12p] | simp (disch := omega) only [wC, if_pos, if_neg])
                            refine runD_pure' 14 (by kernel_rfl) rfl rfl (by kernel_rfl) (by kernel_rfl) (by kernel_rfl) (by kernel_rfl) ?_
                            repeat (first | simp [h7, f1_0, f1_5, f1_6, c8, c8p, g4_3, g4_3p, g4_9, g4_9p, g4_12, g4_12p] | simp (disch := omega) only [wC, if_pos, if_neg])
                            refine runD_pure' 15 (by kernel_rfl) rfl rfl (by kernel_rfl) (by kernel_rfl) (by kernel_rfl) (by kernel_rfl) ?_
                            repeat (first | simp [h7, f1_0, f1_5, f1_6, c8, c8p, g4_3, g4_3p, g4_9, g4_9p, g4_12, g4_12p] | simp (disch := omega) only [wC, if_pos, if_neg])
                            refine runD_pure' 16 (by kernel_rfl) rfl rfl (by kernel_rfl) (by kernel_rfl) (by kernel_rfl) (by kernel_rfl) ?_
                            repeat (first | simp [h7, f1_0, f1_5, f1_6, c8, c8p, g4_3, g4_3p, g4_9, g4_9p, g4_12, g4_12p] | simp (disch := omega) only [wC, if_pos, if_neg])
                            refine runD_pure' 17 (by kernel_rfl) rfl rfl (by kernel_rfl) (by kernel_rfl) (by kernel_rfl) (by kernel_rfl) ?_
                            repeat (first | simp [h7, f1_0, f1_5, f1_6, c8, c8p, g4_3, g4_3p, g4_9, g4_9p, g4_12, g4_12p] | simp (disch := omega) only [wC, if_pos, if_neg])
                            refine runD_pure' 18 (by kernel_rfl) rfl rfl (by kernel_rfl) (by kernel_rfl) (by kernel_rfl) (by kernel_rfl) ?_
                            repeat (first | simp [h7, f1_0, f1_5, f1_6, c8, c8p, g4_3, g4_3p, g4_9, g4_9p, g4_12, g4_12p] | simp (disch := omega) only [wC, if_pos, if_neg])
                            refine runD_pure' 19 (by kernel_rfl) rfl rfl (by kernel_rfl) (by kernel_rfl) (by kernel_rfl) (by kernel_rfl) ?_
                            repeat (first | simp [h7, f1_0, f1_5, f1_6, c8, c8p, g4_3, g4_3p, g4_9, g4_9p, g4_12, g4_12p] | simp (disch := omega) only [wC, if_pos, if_neg])
                            refine runD_pure' 20 (by kernel_rfl) rfl rfl (by kernel_rfl) (by kernel_rfl) (by kernel_rfl) (by kernel_rfl) ?_
                            repeat (first | simp [h7, f1_0, f1_5, f1_6, c8, c8p, g4_3, g4_3p, g4_9, g4_9p, g4_12, g4_12p] | simp (disch := omega) only [wC, if_pos, if_neg])
                            refine runD_pure' 21 (by kernel_rfl) rfl rfl (by kernel_rfl) (by kernel_rfl) (by kernel_rfl) (by kernel_rfl) ?_
                            repeat (first | simp [h7, f1_0, f1_5, f1_6, c8, c8p, g4_3, g4_3p, g4_9, g4_9p, g4_12, g4_12p] | simp (disch := omega) only [wC, if_pos, if_neg])
                            refine runD_pure' 22 (by kernel_rfl) rfl rfl (by kernel_rfl) (by kernel_rfl) (by kernel_rfl) (by kernel_rfl) ?_
                            repeat (first | simp [h7, f1_0, f1_5, f1_6, c8, c8p, g4_3, g4_3p, g4_9, g4_9p, g4_12, g4_12p] | simp (disch := omega) only [wC, if_pos, if_neg])
                            refine runD_pure' 23 (by kernel_rfl) rfl rfl (by kernel_rfl) (by kernel_rfl) (by kernel_rfl) (by kernel_rfl) ?_
                            repeat (first | simp [h7, f1_0, f1_5, f1_6, c8, c8p, g4_3, g4_3p, g4_9, g4_9p, g4_12, g4_12p] | simp (disch := omega) only [wC, if_pos, if_neg])
                            refine runD_done (by kernel_rfl) (by kernel_rfl) (by kernel_rfl) ?_
                            refine hJ13 _ _ ?_
                            refine hK12 _ _ ?_
                            refine run_cond_split (by first | rfl | (simp [h7, f1_0, f1_5, f1_6, c8, c8p, g4_3, g4_3p, g4_9, g4_9p, g4_12, g4_12p, evalA]; done)) (fun c35 => ?_) (fun c35 => ?_)
                            · try (exfalso; first | (revert c35; simp [h7, f1_0, f1_5, f1_6, c8, c8p, g4_3, g4_3p, g4_9, g4_9p, g4_12, g4_12p]; done) | (have gq := c35; simp [h7, f1_0, f1_5, f1_6, c8, c8p, g4_3, g4_3p, g4_9, g4_9p, g4_12, g4_12p] at gq; omega) | (have gq := c35; simp [h7, f1_0, f1_5, f1_6, c8, c8p, g4_3, g4_3p, g4_9, g4_9p, g4_12, g4_12p] at gq; done))
                              all_goals
                                have c35p := c35
                                try simp [h7, f1_0, f1_5, f1_6, c8, c8p, g4_3, g4_3p, g4_9, g4_9p, g4_12, g4_12p] at c35p
                                all_goals (first | (have gq := c35p; skip) | have c35p : True := True.intro)
                                all_goals
                                  refine run_seq_k fun K18 hK18 => ?_
                                  refine run_region_k rfl fun J19 hJ19 => ?_
                                  repeat (first | simp [h7, f1_0, f1_5, f1_6, c8, c8p, g4_3, g4_3p, g4_9, g4_9p, g4_12, g4_12p, c35, c35p] | simp (disch := omega) only [wC, if_pos, if_neg])
                                  refine hJ19 _ _ ?_
                                  refine hK18 _ _ ?_
                                  refine run_ret ?_
                                  try simp only [Then, InBlock, NoGoto]
                                  refine answer_tmp rfl (.inr rfl) ?_
                                  have hn : ¬ Right l := right_no c8p (.inr (.inr ⟨j, rfl, c35p⟩))
                                  exact ⟨by first | exact Wk.refl _ | (simp [h7, f1_0, f1_5, f1_6, c8, c8p, g4_3, g4_3p, g4_9, g4_9p, g4_12, g4_12p, c35, c35p]; exact Wk.refl _) | (simp [*]; exact Wk.refl _) | exact Wk.shut _ _ _ _ | exact Wk.nil _ _ _, _, _, _, st_app (by first | rfl | exact (List.append_nil _).symm | (simp [h7, f1_0, f1_5, f1_6, c8, c8p, g4_3, g4_3p, g4_9, g4_9p, g4_12, g4_12p, c35, c35p]; rfl) | (simp [h7, f1_0, f1_5, f1_6, c8, c8p, g4_3, g4_3p, g4_9, g4_9p, g4_12, g4_12p, c35, c35p]; done)) (by first | rfl | exact (List.append_nil _).symm | (simp [h7, f1_0, f1_5, f1_6, c8, c8p, g4_3, g4_3p, g4_9, g4_9p, g4_12, g4_12p, c35, c35p]; rfl)) (by first | rfl | exact (List.append_nil _).symm | (simp [h7, f1_0, f1_5, f1_6, c8, c8p, g4_3, g4_3p, g4_9, g4_9p, g4_12, g4_12p, c35, c35p]; rfl)) rfl⟩
                            · try (exfalso; first | (revert c35; simp [h7, f1_0, f1_5, f1_6, c8, c8p, g4_3, g4_3p, g4_9, g4_9p, g4_12, g4_12p]; done) | (have gq := c35; simp [h7, f1_0, f1_5, f1_6, c8, c8p, g4_3, g4_3p, g4_9, g4_9p, g4_12, g4_12p] at gq; omega) | (have gq := c35; simp [h7, f1_0, f1_5, f1_6, c8, c8p, g4_3, g4_3p, g4_9, g4_9p, g4_12, g4_12p] at gq; done))
                              all_goals
                                have c35p := c35
                                try simp [h7, f1_0, f1_5, f1_6, c8, c8p, g4_3, g4_3p, g4_9, g4_9p, g4_12, g4_12p] at c35p
                                all_goals (first | (have gq := c35p; skip) | have c35p : True := True.intro)
                                all_goals
                                  refine run_skip ?_
                                  refine hK9 _ _ ?_
                                  refine run_region_k rfl fun J20 hJ20 => ?_
                                  repeat (first | simp [h7, f1_0, f1_5, f1_6, c8, c8p, g4_3, g4_3p, g4_9, g4_9p, g4_12, g4_12p, c35, c35p] | simp (disch := omega) only [wC, if_pos, if_neg])
                                  refine hJ20 _ _ ?_
                                  refine ⟨gone_kp rfl (by repeat (first | exact kp_refl _ | exact Kp.nil _ | refine kp_app (by simp) ?_ ?_ | refine kp_more ?_ | refine kp_setset ?_ (by simp [h7, f1_0, f1_5, f1_6, c8, c8p, g4_3, g4_3p, g4_9, g4_9p, g4_12, g4_12p, c35, c35p, noObjL, AV.noObj]) | refine kp_set ?_ (by simp [h7, f1_0, f1_5, f1_6, c8, c8p, g4_3, g4_3p, g4_9, g4_9p, g4_12, g4_12p, c35, c35p, noObjL, AV.noObj]) | refine Kp.cons (by first | exact .inl rfl | (right; simp [h7, f1_0, f1_5, f1_6, c8, c8p, g4_3, g4_3p, g4_9, g4_9p, g4_12, g4_12p, c35, c35p, noObjL, AV.noObj])) ?_)) (by repeat (first | exact kpr_refl _ | refine kpr_set ?_ (by simp [h7, f1_0, f1_5, f1_6, c8, c8p, g4_3, g4_3p, g4_9, g4_9p, g4_12, g4_12p, c35, c35p, noObjL, AV.noObj]) | refine kpr_app ?_ (by simp [h7, f1_0, f1_5, f1_6, c8, c8p, g4_3, g4_3p, g4_9, g4_9p, g4_12, g4_12p, c35, c35p, noObjL, AV.noObj]))), (j + 1 + 1), ⟨?_, ?_, ?_, ?_, ?_⟩, ?_⟩
                                  · first | (simp [h7, f1_0, f1_5, f1_6, c8, c8p, g4_3, g4_3p, g4_9, g4_9p, g4_12, g4_12p, c35, c35p, AV.gcO, gcOL, noObjL, AV.noObj, St.trimO]; done) | (intro r hr; revert hr; simp [h7, f1_0, f1_5, f1_6, c8, c8p, g4_3, g4_3p, g4_9, g4_9p, g4_12, g4_12p, c35, c35p, AV.gcO, gcOL, noObjL, AV.noObj, St.trimO]; done) | (intro r hr; simp only [List.mem_cons, List.not_mem_nil, or_false] at hr; rcases hr with rfl | rfl | rfl <;> simp [h7, f1_0, f1_5, f1_6, c8, c8p, g4_3, g4_3p, g4_9, g4_9p, g4_12, g4_12p, c35, c35p, AV.gcO, gcOL, noObjL, AV.noObj, St.trimO] <;> done)
                                  · first | rfl | (simp [h7, f1_0, f1_5, f1_6, c8, c8p, g4_3, g4_3p, g4_9, g4_9p, g4_12, g4_12p, c35, c35p, AV.gcO, gcOL, noObjL, AV.noObj, St.trimO]; done) | omega | assumption | (simp [h7, f1_0, f1_5, f1_6, c8, c8p, g4_3, g4_3p, g4_9, g4_9p, g4_12, g4_12p, c35, c35p, AV.gcO, gcOL, noObjL, AV.noObj, St.trimO]; omega) | (simp only [putA_get]; simp (disch := omega) only [wC, if_pos, if_neg]; simp [h7, f1_0, f1_5, f1_6, c8, c8p, g4_3, g4_3p, g4_9, g4_9p, g4_12, g4_12p, c35, c35p, AV.gcO, gcOL, noObjL, AV.noObj, St.trimO]; done) | (simp [h7, f1_0, f1_5, f1_6, c8, c8p, g4_3, g4_3p, g4_9, g4_9p, g4_12, g4_12p, c35, c35p, AV.gcO, gcOL, noObjL, AV.noObj, St.trimO]; simp (disch := omega) only [wC, if_pos, if_neg]; simp [h7, f1_0, f1_5, f1_6, c8, c8p, g4_3, g4_3p, g4_9, g4_9p, g4_12, g4_12p, c35, c35p, AV.gcO, gcOL, noObjL, AV.noObj, St.trimO]; done)
                                  · exact right_next c8p (by omega) g4_9p c35p hR
                                  · first | rfl | (simp [h7, f1_0, f1_5, f1_6, c8, c8p, g4_3, g4_3p, g4_9, g4_9p, g4_12, g4_12p, c35, c35p, AV.gcO, gcOL, noObjL, AV.noObj, St.trimO]; done) | omega | assumption | (simp [h7, f1_0, f1_5, f1_6, c8, c8p, g4_3, g4_3p, g4_9, g4_9p, g4_12, g4_12p, c35, c35p, AV.gcO, gcOL, noObjL, AV.noObj, St.trimO]; omega) | (simp only [putA_get]; simp (disch := omega) only [wC, if_pos, if_neg]; simp [h7, f1_0, f1_5, f1_6, c8, c8p, g4_3, g4_3p, g4_9, g4_9p, g4_12, g4_12p, c35, c35p, AV.gcO, gcOL, noObjL, AV.noObj, St.trimO]; done) | (simp [h7, f1_0, f1_5, f1_6, c8, c8p, g4_3, g4_3p, g4_9, g4_9p, g4_12, g4_12p, c35, c35p, AV.gcO, gcOL, noObjL, AV.noObj, St.trimO]; simp (disch := omega) only [wC, if_pos, if_neg]; simp [h7, f1_0, f1_5, f1_6, c8, c8p, g4_3, g4_3p, g4_9, g4_9p, g4_12, g4_12p, c35, c35p, AV.gcO, gcOL, noObjL, AV.noObj, St.trimO]; done)
                                  · first | rfl | (simp [h7, f1_0, f1_5, f1_6, c8, c8p, g4_3, g4_3p, g4_9, g4_9p, g4_12, g4_12p, c35, c35p, AV.gcO, gcOL, noObjL, AV.noObj, St.trimO]; done) | omega | assumption | (simp [h7, f1_0, f1_5, f1_6, c8, c8p, g4_3, g4_3p, g4_9, g4_9p, g4_12, g4_12p, c35, c35p, AV.gcO, gcOL, noObjL, AV.noObj, St.trimO]; omega) | (simp only [putA_get]; simp (disch := omega) only [wC, if_pos, if_neg]; simp [h7, f1_0, f1_5, f1_6, c8, c8p, g4_3, g4_3p, g4_9, g4_9p, g4_12, g4_12p, c35, c35p, AV.gcO, gcOL, noObjL, AV.noObj, St.trimO]; done) | (simp [h7, f1_0, f1_5, f1_6, c8, c8p, g4_3, g4_3p, g4_9, g4_9p, g4_12, g4_12p, c35, c35p, AV.gcO, gcOL, noObjL, AV.noObj, St.trimO]; simp (disch := omega) only [wC, if_pos, if_neg]; simp [h7, f1_0, f1_5, f1_6, c8, c8p, g4_3, g4_3p, g4_9, g4_9p, g4_12, g4_12p, c35, c35p, AV.gcO, gcOL, noObjL, AV.noObj, St.trimO]; done)
                                  · first | rfl | (simp [h7, f1_0, f1_5, f1_6, c8, c8p, g4_3, g4_3p, g4_9, g4_9p, g4_12, g4_12p, c35, c35p]; done) | omega | assumption | (simp [h7, f1_0, f1_5, f1_6, c8, c8p, g4_3, g4_3p, g4_9, g4_9p, g4_12, g4_12p, c35, c35p]; omega) | (simp only [putA_get]; simp (disch := omega) only [wC, if_pos, if_neg]; simp [h7, f1_0, f1_5, f1_6, c8, c8p, g4_3, g4_3p, g4_9, g4_9p, g4_12, g4_12p, c35, c35p]; done) | (simp [h7, f1_0, f1_5, f1_6, c8, c8p, g4_3, g4_3p, g4_9, g4_9p, g4_12, g4_12p, c35, c35p]; simp (disch := omega) only [wC, if_pos, if_neg]; simp [h7, f1_0, f1_5, f1_6, c8, c8p, g4_3, g4_3p, g4_9, g4_9p, g4_12, g4_12p, c35, c35p]; done)
                      · try (exfalso; first | (revert g4_12; simp [h7, f1_0, f1_5, f1_6, c8, c8p, g4_3, g4_3p, g4_9, g4_9p]; done) | (have gq := g4_12; simp [h7, f1_0, f1_5, f1_6, c8, c8p, g4_3, g4_3p, g4_9, g4_9p] at gq; omega) | (have gq := g4_12; simp [h7, f1_0, f1_5, f1_6, c8, c8p, g4_3, g4_3p, g4_9, g4_9p] at gq; done))
                        all_goals
                          have g4_12p := g4_12
                          try simp [h7, f1_0, f1_5, f1_6, c8, c8p, g4_3, g4_3p, g4_9, g4_9p] at g4_12p
                          all_goals (first | (have gq := g4_12p; skip) | have g4_12p : True := True.intro)
                          all_goals
                            obtain rfl : k = 0 := by omega
                            refine runD_pure' 13 (by kernel_rfl) rfl rfl (by kernel_rfl) (by kernel_rfl) (by kernel_rfl) (by kernel_rfl) ?_
                            repeat (first | simp [h7, f1_0, f1_5, f1_6, c8, c8p, g4_3, g4_3p, g4_9, g4_9p, g4_12, g4_12p] | simp (disch := omega) only [wC, if_pos, if_neg])
                            refine runD_pure' 14 (by kernel_rfl) rfl rfl (by kernel_rfl) (by kernel_rfl) (by kernel_rfl) (by kernel_rfl) ?_
                            repeat (first | simp [h7, f1_0, f1_5, f1_6, c8, c8p, g4_3, g4_3p, g4_9, g4_9p, g4_12, g4_12p] | simp (disch := omega) only [wC, if_pos, if_neg])
                            refine runD_pure' 15 (by kernel_rfl) rfl rfl (by kernel_rfl) (by kernel_rfl) (by kernel_rfl) (by kernel_rfl) ?_
                            repeat (first | simp [h7, f1_0, f1_5, f1_6, c8, c8p, g4_3, g4_3p, g4_9, g4_9p, g4_12, g4_12p] | simp (disch := omega) only [wC, if_pos, if_neg])
                            refine runD_pure' 16 (by kernel_rfl) rfl rfl (by kernel_rfl) (by kernel_rfl) (by kernel_rfl) (by kernel_rfl) ?_
                            repeat (first | simp [h7, f1_0, f1_5, f1_6, c8, c8p, g4_3, g4_3p, g4_9, g4_9p, g4_12, g4_12p] | simp (disch := omega) only [wC, if_pos, if_neg])
                            refine runD_pure' 17 (by kernel_rfl) rfl rfl (by kernel_rfl) (by kernel_rfl) (by kernel_rfl) (by kernel_rfl) ?_
                            repeat (first | simp [h7, f1_0, f1_5, f1_6, c8, c8p, g4_3, g4_3p, g4_9, g4_9p, g4_12, g4_12p] | simp (disch := omega) only [wC, if_pos, if_neg])
                            refine runD_pure' 18 (by kernel_rfl) rfl rfl (by kernel_rfl) (by kernel_rfl) (by kernel_rfl) (by kernel_rfl) ?_
                            repeat (first | simp [h7, f1_0, f1_5, f1_6, c8, c8p, g4_3, g4_3p, g4_9, g4_9p, g4_12, g4_12p] | simp (disch := omega) only [wC, if_pos, if_neg])
                            refine runD_pure' 19 (by kernel_rfl) rfl rfl (by kernel_rfl) (by kernel_rfl) (by kernel_rfl) (by kernel_rfl) ?_
                            repeat (first | simp [h7, f1_0, f1_5, f1_6, c8, c8p, g4_3, g4_3p, g4_9, g4_9p, g4_12, g4_12p] | simp (disch := omega) only [wC, if_pos, if_neg])
                            refine runD_pure' 20 (by kernel_rfl) rfl rfl (by kernel_rfl) (by kernel_rfl) (by kernel_rfl) (by kernel_rfl) ?_
                            repeat (first | simp [h7, f1_0, f1_5, f1_6, c8, c8p, g4_3, g4_3p, g4_9, g4_9p, g4_12, g4_12p] | simp (disch := omega) only [wC, if_pos, if_neg])
                            refine runD_pure' 21 (by kernel_rfl) rfl rfl (by kernel_rfl) (by kernel_rfl) (by kernel_rfl) (by kernel_rfl) ?_
                            repeat (first | simp [h7, f1_0, f1_5, f1_6, c8, c8p, g4_3, g4_3p, g4_9, g4_9p, g4_12, g4_12p] | simp (disch := omega) only [wC, if_pos, if_neg])
                            refine runD_pure' 22 (by kernel_rfl) rfl rfl (by kernel_rfl) (by kernel_rfl) (by kernel_rfl) (by kernel_rfl) ?_
                            repeat (first | simp [h7, f1_0, f1_5, f1_6, c8, c8p, g4_3, g4_3p, g4_9, g4_9p, g4_12, g4_12p] | simp (disch := omega) only [wC, if_pos, if_neg])
                            refine runD_pure' 23 (by kernel_rfl) rfl rfl (by kernel_rfl) (by kernel_rfl) (by kernel_rfl) (by kernel_rfl) ?_
                            repeat (first | simp [h7, f1_0, f1_5, f1_6, c8, c8p, g4_3, g4_3p, g4_9, g4_9p, g4_12, g4_12p] | simp (disch := omega) only [wC, if_pos, if_neg])
                            refine runD_done (by kernel_rfl) (by kernel_rfl) (by kernel_rfl) ?_
                            refine hJ13 _ _ ?_
                            refine hK12 _ _ ?_
                            refine run_cond_false (by first | rfl | (simp [h7, f1_0, f1_5, f1_6, c8, c8p, g4_3, g4_3p, g4_9, g4_9p, g4_12, g4_12p, evalA]; done)) ?_
                            refine run_skip ?_
                            refine hK9 _ _ ?_
                            refine run_region_k rfl fun J21 hJ21 => ?_
                            repeat (first | simp [h7, f1_0, f1_5, f1_6, c8, c8p, g4_3, g4_3p, g4_9, g4_9p, g4_12, g4_12p] | simp (disch := omega) only [wC, if_pos, if_neg])
                            refine hJ21 _ _ ?_
                            refine ⟨gone_kp rfl (by repeat (first | exact kp_refl _ | exact Kp.nil _ | refine kp_app (by simp) ?_ ?_ | refine kp_more ?_ | refine kp_setset ?_ (by simp [h7, f1_0, f1_5, f1_6, c8, c8p, g4_3, g4_3p, g4_9, g4_9p, g4_12, g4_12p, noObjL, AV.noObj]) | refine kp_set ?_ (by simp [h7, f1_0, f1_5, f1_6, c8, c8p, g4_3, g4_3p, g4_9, g4_9p, g4_12, g4_12p, noObjL, AV.noObj]) | refine Kp.cons (by first | exact .inl rfl | (right; simp [h7, f1_0, f1_5, f1_6, c8, c8p, g4_3, g4_3p, g4_9, g4_9p, g4_12, g4_12p, noObjL, AV.noObj])) ?_)) (by repeat (first | exact kpr_refl _ | refine kpr_set ?_ (by simp [h7, f1_0, f1_5, f1_6, c8, c8p, g4_3, g4_3p, g4_9, g4_9p, g4_12, g4_12p, noObjL, AV.noObj]) | refine kpr_app ?_ (by simp [h7, f1_0, f1_5, f1_6, c8, c8p, g4_3, g4_3p, g4_9, g4_9p, g4_12, g4_12p, noObjL, AV.noObj]))), (1), ⟨?_, ?_, ?_, ?_, ?_⟩, ?_⟩
                            · first | (simp [h7, f1_0, f1_5, f1_6, c8, c8p, g4_3, g4_3p, g4_9, g4_9p, g4_12, g4_12p, AV.gcO, gcOL, noObjL, AV.noObj, St.trimO]; done) | (intro r hr; revert hr; simp [h7, f1_0, f1_5, f1_6, c8, c8p, g4_3, g4_3p, g4_9, g4_9p, g4_12, g4_12p, AV.gcO, gcOL, noObjL, AV.noObj, St.trimO]; done) | (intro r hr; simp only [List.mem_cons, List.not_mem_nil, or_false] at hr; rcases hr with rfl | rfl | rfl <;> simp [h7, f1_0, f1_5, f1_6, c8, c8p, g4_3, g4_3p, g4_9, g4_9p, g4_12, g4_12p, AV.gcO, gcOL, noObjL, AV.noObj, St.trimO] <;> done)
                            · first | rfl | (simp [h7, f1_0, f1_5, f1_6, c8, c8p, g4_3, g4_3p, g4_9, g4_9p, g4_12, g4_12p, AV.gcO, gcOL, noObjL, AV.noObj, St.trimO]; done) | omega | assumption | (simp [h7, f1_0, f1_5, f1_6, c8, c8p, g4_3, g4_3p, g4_9, g4_9p, g4_12, g4_12p, AV.gcO, gcOL, noObjL, AV.noObj, St.trimO]; omega) | (simp only [putA_get]; simp (disch := omega) only [wC, if_pos, if_neg]; simp [h7, f1_0, f1_5, f1_6, c8, c8p, g4_3, g4_3p, g4_9, g4_9p, g4_12, g4_12p, AV.gcO, gcOL, noObjL, AV.noObj, St.trimO]; done) | (simp [h7, f1_0, f1_5, f1_6, c8, c8p, g4_3, g4_3p, g4_9, g4_9p, g4_12, g4_12p, AV.gcO, gcOL, noObjL, AV.noObj, St.trimO]; simp (disch := omega) only [wC, if_pos, if_neg]; simp [h7, f1_0, f1_5, f1_6, c8, c8p, g4_3, g4_3p, g4_9, g4_9p, g4_12, g4_12p, AV.gcO, gcOL, noObjL, AV.noObj, St.trimO]; done)
                            · exact right_first c8p (by omega) g4_9p
                            · first | rfl | (simp [h7, f1_0, f1_5, f1_6, c8, c8p, g4_3, g4_3p, g4_9, g4_9p, g4_12, g4_12p, AV.gcO, gcOL, noObjL, AV.noObj, St.trimO]; done) | omega | assumption | (simp [h7, f1_0, f1_5, f1_6, c8, c8p, g4_3, g4_3p, g4_9, g4_9p, g4_12, g4_12p, AV.gcO, gcOL, noObjL, AV.noObj, St.trimO]; omega) | (simp only [putA_get]; simp (disch := omega) only [wC, if_pos, if_neg]; simp [h7, f1_0, f1_5, f1_6, c8, c8p, g4_3, g4_3p, g4_9, g4_9p, g4_12, g4_12p, AV.gcO, gcOL, noObjL, AV.noObj, St.trimO]; done) | (simp [h7, f1_0, f1_5, f1_6, c8, c8p, g4_3, g4_3p, g4_9, g4_9p, g4_12, g4_12p, AV.gcO, gcOL, noObjL, AV.noObj, St.trimO]; simp (disch := omega) only [wC, if_pos, if_neg]; simp [h7, f1_0, f1_5, f1_6, c8, c8p, g4_3, g4_3p, g4_9, g4_9p, g4_12, g4_12p, AV.gcO, gcOL, noObjL, AV.noObj, St.trimO]; done)
                            · first | rfl | (simp [h7, f1_0, f1_5, f1_6, c8, c8p, g4_3, g4_3p, g4_9, g4_9p, g4_12, g4_12p, AV.gcO, gcOL, noObjL, AV.noObj, St.trimO]; done) | omega | assumption | (simp [h7, f1_0, f1_5, f1_6, c8, c8p, g4_3, g4_3p, g4_9, g4_9p, g4_12, g4_12p, AV.gcO, gcOL, noObjL, AV.noObj, St.trimO]; omega) | (simp only [putA_get]; simp (disch := omega) only [wC, if_pos, if_neg]; simp [h7, f1_0, f1_5, f1_6, c8, c8p, g4_3, g4_3p, g4_9, g4_9p, g4_12, g4_12p, AV.gcO, gcOL, noObjL, AV.noObj, St.trimO]; done) | (simp [h7, f1_0, f1_5, f1_6, c8, c8p, g4_3, g4_3p, g4_9, g4_9p, g4_12, g4_12p, AV.gcO, gcOL, noObjL, AV.noObj, St.trimO]; simp (disch := omega) only [wC, if_pos, if_neg]; simp [h7, f1_0, f1_5, f1_6, c8, c8p, g4_3, g4_3p, g4_9, g4_9p, g4_12, g4_12p, AV.gcO, gcOL, noObjL, AV.noObj, St.trimO]; done)
                            · first | rfl | (simp [h7, f1_0, f1_5, f1_6, c8, c8p, g4_3, g4_3p, g4_9, g4_9p, g4_12, g4_12p]; done) | omega | assumption | (simp [h7, f1_0, f1_5, f1_6, c8, c8p, g4_3, g4_3p, g4_9, g4_9p, g4_12, g4_12p]; omega) | (simp only [putA_get]; simp (disch := omega) only [wC, if_pos, if_neg]; simp [h7, f1_0, f1_5, f1_6, c8, c8p, g4_3, g4_3p, g4_9, g4_9p, g4_12, g4_12p]; done) | (simp [h7, f1_0, f1_5, f1_6, c8, c8p, g4_3, g4_3p, g4_9, g4_9p, g4_12, g4_12p]; simp (disch := omega) only [wC, if_pos, if_neg]; simp [h7, f1_0, f1_5, f1_6, c8, c8p, g4_3, g4_3p, g4_9, g4_9p, g4_12, g4_12p]; done)
    · try (exfalso; first | (revert c8; simp [h7, f1_0, f1_5, f1_6]; done) | (have gq := c8; simp [h7, f1_0, f1_5, f1_6] at gq; omega) | (have gq := c8; simp [h7, f1_0, f1_5, f1_6] at gq; done))
      all_goals
        have c8p := c8
        try simp [h7, f1_0, f1_5, f1_6] at c8p
        all_goals (first | (have gq := c8p; skip) | have c8p : True := True.intro)
        all_goals
          refine run_exit ?_
          refine hK3 _ _ ?_
          refine run_seq_k fun K22 hK22 => ?_
          refine run_region_k rfl fun J23 hJ23 => ?_
          repeat (first | simp [h7, f1_0, f1_5, f1_6, c8, c8p] | simp (disch := omega) only [wC, if_pos, if_neg])
          refine hJ23 _ _ ?_
          refine hK22 _ _ ?_
          refine run_ret ?_
          try simp only [Then, InBlock, NoGoto]
          refine answer_tmp rfl (.inr rfl) ?_
          have hn : Right l := by rw [List.take_of_length_le c8p] at hR; exact hR
          exact ⟨by first | exact Wk.refl _ | (simp [h7, f1_0, f1_5, f1_6, c8, c8p]; exact Wk.refl _) | (simp [*]; exact Wk.refl _) | exact Wk.shut _ _ _ _ | exact Wk.nil _ _ _, _, _, _, st_app (by first | rfl | exact (List.append_nil _).symm | (simp [h7, f1_0, f1_5, f1_6, c8, c8p]; rfl) | (simp [h7, f1_0, f1_5, f1_6, c8, c8p]; done)) (by first | rfl | exact (List.append_nil _).symm | (simp [h7, f1_0, f1_5, f1_6, c8, c8p]; rfl)) (by first | rfl | exact (List.append_nil _).symm | (simp [h7, f1_0, f1_5, f1_6, c8, c8p]; rfl)) rfl⟩

attribute [local simp] undefA List.getElem?_cons_zero List.getElem?_cons_succ in
theorem rright_ok {σ : St} {l : List Coin} {tl : Tail} (hl : l.length ≤ 1000000) : CallsA Try.prog 56 [.sl 5 (coinsC l) l.length tl] σ (fun av σ' => av = .v (.bool (decide (Right l))) ∧ σ = σ') := by
  refine callsA_body Try.func56 rfl rfl rfl ?_
  refine run_seq_k fun K1 hK1 => ?_
  refine run_region_k rfl fun J2 hJ2 => ?_
  repeat (first | simp | simp (disch := omega) only [wC, if_pos, if_neg])
  refine hJ2 _ _ ?_
  refine hK1 _ _ ?_
  refine run_seq_k fun K3 hK3 => ?_
  refine run_seq_k fun K4 hK4 => ?_
  refine run_region_k rfl fun J5 hJ5 => ?_
  repeat (first | simp | simp (disch := omega) only [wC, if_pos, if_neg])
  refine hJ5 _ _ ?_
  refine hK4 _ _ ?_
  refine run_block_k ?_
  refine run_loopF (X := Nat) [0] (fun i ρ σ1 => (i ≤ l.length) ∧ (Right (l.take i)) ∧ (ρ 3 = .v (.int .i64 i)) ∧ (σ1 = σ)) (fun i => l.length - i) (0) ?st1 ?rd1
  case st1 =>
    refine ⟨?_, ?_, ?_, ?_⟩
    · first | rfl | (simp; done) | omega | assumption | (simp; omega) | (simp only [putA_get]; simp (disch := omega) only [wC, if_pos, if_neg]; simp; done) | (simp; simp (disch := omega) only [wC, if_pos, if_neg]; simp; done)
    · simpa using Go.Vm.right_nil
    · first | rfl | (simp; done) | omega | assumption | (simp; omega) | (simp only [putA_get]; simp (disch := omega) only [wC, if_pos, if_neg]; simp; done) | (simp; simp (disch := omega) only [wC, if_pos, if_neg]; simp; done)
    · first | rfl | (simp; done) | omega | assumption | (simp; omega) | (simp only [putA_get]; simp (disch := omega) only [wC, if_pos, if_neg]; simp; done) | (simp; simp (disch := omega) only [wC, if_pos, if_neg]; simp; done)
  case rd1 =>
    rintro i ρ1 σ1 hF1 ⟨hi, hR, h3, hs⟩
    obtain rfl := hs.symm
    have f1_0 := hF1 0 (by decide)
    try simp at f1_0
    refine run_seq_k fun K6 hK6 => ?_
    refine run_seq_k fun K7 hK7 => ?_
    refine run_region_k rfl fun J8 hJ8 => ?_
    repeat (first | simp [h3, f1_0] | simp (disch := omega) only [wC, if_pos, if_neg])
    refine hJ8 _ _ ?_
    refine hK7 _ _ ?_
    refine run_cond_split (by first | rfl | (simp [h3, f1_0, evalA]; done)) (fun c8 => ?_) (fun c8 => ?_)
    · try (exfalso; first | (revert c8; simp [h3, f1_0]; done) | (have gq := c8; simp [h3, f1_0] at gq; omega) | (have gq := c8; simp [h3, f1_0] at gq; done))
      all_goals
        have c8p := c8
        try simp [h3, f1_0] at c8p
        all_goals (first | (have gq := c8p; skip) | have c8p : True := True.intro)
        all_goals
          refine run_skip ?_
          refine hK6 _ _ ?_
          refine run_seq_k fun K9 hK9 => ?_
          refine run_block_k ?_
          refine run_seq_k fun K10 hK10 => ?_
          refine run_seq_k fun K11 hK11 => ?_
          refine run_region_k rfl fun J12 hJ12 => ?_
          repeat (first | simp [h3, f1_0, c8, c8p] | simp (disch := omega) only [wC, if_pos, if_neg])
          refine runL_splitB 17 (by first | rfl | (simp [h3, f1_0, c8, c8p]; done)) (fun g4_6 => ?_) (fun g4_6 => ?_)
          · try (exfalso; first | (revert g4_6; simp [h3, f1_0, c8, c8p]; done) | (have gq := g4_6; simp [h3, f1_0, c8, c8p] at gq; omega) | (have gq := g4_6; simp [h3, f1_0, c8, c8p] at gq; done))
            all_goals
              have g4_6p := g4_6
              try simp [h3, f1_0, c8, c8p] at g4_6p
              all_goals (first | (have gq := g4_6p; skip) | have g4_6p : True := True.intro)
              all_goals
                refine runL_no (by first | rfl | (simp [h3, f1_0, c8, c8p, g4_6, g4_6p, wantedA]; done)) rfl ?_
                repeat (first | simp [h3, f1_0, c8, c8p, g4_6, g4_6p] | simp (disch := omega) only [wC, if_pos, if_neg])
                refine runL_no (by first | rfl | (simp [h3, f1_0, c8, c8p, g4_6, g4_6p, wantedA]; done)) rfl ?_
                repeat (first | simp [h3, f1_0, c8, c8p, g4_6, g4_6p] | simp (disch := omega) only [wC, if_pos, if_neg])
                refine runL_no (by first | rfl | (simp [h3, f1_0, c8, c8p, g4_6, g4_6p, wantedA]; done)) rfl ?_
                repeat (first | simp [h3, f1_0, c8, c8p, g4_6, g4_6p] | simp (disch := omega) only [wC, if_pos, if_neg])
                refine runL_no (by first | rfl | (simp [h3, f1_0, c8, c8p, g4_6, g4_6p, wantedA]; done)) rfl ?_
                repeat (first | simp [h3, f1_0, c8, c8p, g4_6, g4_6p] | simp (disch := omega) only [wC, if_pos, if_neg])
                refine runL_no (by first | rfl | (simp [h3, f1_0, c8, c8p, g4_6, g4_6p, wantedA]; done)) rfl ?_
                repeat (first | simp [h3, f1_0, c8, c8p, g4_6, g4_6p] | simp (disch := omega) only [wC, if_pos, if_neg])
                refine runL_no (by first | rfl | (simp [h3, f1_0, c8, c8p, g4_6, g4_6p, wantedA]; done)) rfl ?_
                repeat (first | simp [h3, f1_0, c8, c8p, g4_6, g4_6p] | simp (disch := omega) only [wC, if_pos, if_neg])
                refine hJ12 _ _ ?_
                refine hK11 _ _ ?_
                refine run_cond_true (by first | rfl | (simp [h3, f1_0, c8, c8p, g4_6, g4_6p, evalA]; done)) ?_
                refine run_seq_k fun K13 hK13 => ?_
                refine run_region_k rfl fun J14 hJ14 => ?_
                repeat (first | simp [h3, f1_0, c8, c8p, g4_6, g4_6p] | simp (disch := omega) only [wC, if_pos, if_neg])
                refine hJ14 _ _ ?_
                refine hK13 _ _ ?_
                refine run_ret ?_
                try simp only [Then, InBlock, NoGoto]
                refine answer_tmp rfl (.inr rfl) ?_
                have hn : ¬ Right l := right_no c8p (.inl (by omega))
                first | exact ⟨rfl, rfl⟩ | (simp [h3, f1_0, c8, c8p, g4_6, g4_6p]; done) | (refine ⟨?_, ?_⟩ <;> first | rfl | (simp [h3, f1_0, c8, c8p, g4_6, g4_6p]; done) | (simp [*]; done) | omega)
          · try (exfalso; first | (revert g4_6; simp [h3, f1_0, c8, c8p]; done) | (have gq := g4_6; simp [h3, f1_0, c8, c8p] at gq; omega) | (have gq := g4_6; simp [h3, f1_0, c8, c8p] at gq; done))
            all_goals
              have g4_6p := g4_6
              try simp [h3, f1_0, c8, c8p] at g4_6p
              all_goals (first | (have gq := g4_6p; skip) | have g4_6p : True := True.intro)
              all_goals
                refine runL_go (by first | rfl | (simp [h3, f1_0, c8, c8p, g4_6, g4_6p, wantedA]; done)) rfl ?_
                repeat (first | simp [h3, f1_0, c8, c8p, g4_6, g4_6p] | simp (disch := omega) only [wC, if_pos, if_neg])
                refine runL_go (by first | rfl | (simp [h3, f1_0, c8, c8p, g4_6, g4_6p, wantedA]; done)) rfl ?_
                repeat (first | simp [h3, f1_0, c8, c8p, g4_6, g4_6p] | simp (disch := omega) only [wC, if_pos, if_neg])
                refine runL_go (by first | rfl | (simp [h3, f1_0, c8, c8p, g4_6, g4_6p, wantedA]; done)) rfl ?_
                repeat (first | simp [h3, f1_0, c8, c8p, g4_6, g4_6p] | simp (disch := omega) only [wC, if_pos, if_neg])
                refine runL_go (by first | rfl | (simp [h3, f1_0, c8, c8p, g4_6, g4_6p, wantedA]; done)) rfl ?_
                repeat (first | simp [h3, f1_0, c8, c8p, g4_6, g4_6p] | simp (disch := omega) only [wC, if_pos, if_neg])
                refine runL_go (by first | rfl | (simp [h3, f1_0, c8, c8p, g4_6, g4_6p, wantedA]; done)) rfl ?_
                repeat (first | simp [h3, f1_0, c8, c8p, g4_6, g4_6p] | simp (disch := omega) only [wC, if_pos, if_neg])
                refine runL_call' (b := true) (by first | rfl | (simp [h3, f1_0, c8, c8p, g4_6, g4_6p, wantedA]; done)) rfl rfl (by first | rfl | (simp [h3, f1_0, c8, c8p, g4_6, g4_6p, callOf]; done)) (by simp) (zero_ok) ?_
                rintro _ _ ⟨rfl, rfl⟩
                repeat (first | simp [h3, f1_0, c8, c8p, g4_6, g4_6p] | simp (disch := omega) only [wC, if_pos, if_neg])
                refine hJ12 _ _ ?_
                refine hK11 _ _ ?_
                refine run_cond_split (by first | rfl | (simp [h3, f1_0, c8, c8p, g4_6, g4_6p, evalA]; done)) (fun c24 => ?_) (fun c24 => ?_)
                · try (exfalso; first | (revert c24; simp [h3, f1_0, c8, c8p, g4_6, g4_6p]; done) | (have gq := c24; simp [h3, f1_0, c8, c8p, g4_6, g4_6p] at gq; omega) | (have gq := c24; simp [h3, f1_0, c8, c8p, g4_6, g4_6p] at gq; done))
                  all_goals
                    have c24p := c24
                    try simp [h3, f1_0, c8, c8p, g4_6, g4_6p] at c24p
                    all_goals (first | (have gq := c24p; skip) | have c24p : True := True.intro)
                    all_goals
                      refine run_seq_k fun K15 hK15 => ?_
                      refine run_region_k rfl fun J16 hJ16 => ?_
                      repeat (first | simp [h3, f1_0, c8, c8p, g4_6, g4_6p, c24, c24p] | simp (disch := omega) only [wC, if_pos, if_neg])
                      refine hJ16 _ _ ?_
                      refine hK15 _ _ ?_
                      refine run_ret ?_
                      try simp only [Then, InBlock, NoGoto]
                      refine answer_tmp rfl (.inr rfl) ?_
                      have hn : ¬ Right l := right_no c8p (.inr (.inl c24p))
                      first | exact ⟨rfl, rfl⟩ | (simp [h3, f1_0, c8, c8p, g4_6, g4_6p, c24, c24p]; done) | (refine ⟨?_, ?_⟩ <;> first | rfl | (simp [h3, f1_0, c8, c8p, g4_6, g4_6p, c24, c24p]; done) | (simp [*]; done) | omega)
                · try (exfalso; first | (revert c24; simp [h3, f1_0, c8, c8p, g4_6, g4_6p]; done) | (have gq := c24; simp [h3, f1_0, c8, c8p, g4_6, g4_6p] at gq; omega) | (have gq := c24; simp [h3, f1_0, c8, c8p, g4_6, g4_6p] at gq; done))
                  all_goals
                    have c24p := c24
                    try simp [h3, f1_0, c8, c8p, g4_6, g4_6p] at c24p
                    all_goals (first | (have gq := c24p; skip) | have c24p : True := True.intro)
                    all_goals
                      refine run_skip ?_
                      refine hK10 _ _ ?_
                      refine run_seq_k fun K17 hK17 => ?_
                      refine run_region_k rfl fun J18 hJ18 => ?_
                      repeat (first | simp [h3, f1_0, c8, c8p, g4_6, g4_6p, c24, c24p] | simp (disch := omega) only [wC, if_pos, if_neg])
                      refine hJ18 _ _ ?_
                      refine hK17 _ _ ?_
                      refine run_block_k ?_
                      refine run_loopF (X := Nat) [0, 3, 5, 6, 7, 8, 11, 12, 13, 14, 15, 16, 17, 18, 19, 20, 21, 22, 23, 24] (fun k ρ σ1 => (k ≤ i) ∧ (∀ b ∈ l.take k, b.d.toNat < l[i].d.toNat) ∧ (ρ 4 = .v (.int .i64 k)) ∧ (σ1 = σ)) (fun k => i - k) (0) ?st2 ?rd2
                      case st2 =>
                        refine ⟨?_, ?_, ?_, ?_⟩
                        · first | rfl | (simp [h3, f1_0, c8, c8p, g4_6, g4_6p, c24, c24p]; done) | omega | assumption | (simp [h3, f1_0, c8, c8p, g4_6, g4_6p, c24, c24p]; omega) | (simp only [putA_get]; simp (disch := omega) only [wC, if_pos, if_neg]; simp [h3, f1_0, c8, c8p, g4_6, g4_6p, c24, c24p]; done) | (simp [h3, f1_0, c8, c8p, g4_6, g4_6p, c24, c24p]; simp (disch := omega) only [wC, if_pos, if_neg]; simp [h3, f1_0, c8, c8p, g4_6, g4_6p, c24, c24p]; done)
                        · first | rfl | (simp [h3, f1_0, c8, c8p, g4_6, g4_6p, c24, c24p]; done) | omega | assumption | (simp [h3, f1_0, c8, c8p, g4_6, g4_6p, c24, c24p]; omega) | (simp only [putA_get]; simp (disch := omega) only [wC, if_pos, if_neg]; simp [h3, f1_0, c8, c8p, g4_6, g4_6p, c24, c24p]; done) | (simp [h3, f1_0, c8, c8p, g4_6, g4_6p, c24, c24p]; simp (disch := omega) only [wC, if_pos, if_neg]; simp [h3, f1_0, c8, c8p, g4_6, g4_6p, c24, c24p]; done)
                        · first | rfl | (simp [h3, f1_0, c8, c8p, g4_6, g4_6p, c24, c24p]; done) | omega | assumption | (simp [h3, f1_0, c8, c8p, g4_6, g4_6p, c24, c24p]; omega) | (simp only [putA_get]; simp (disch := omega) only [wC, if_pos, if_neg]; simp [h3, f1_0, c8, c8p, g4_6, g4_6p, c24, c24p]; done) | (simp [h3, f1_0, c8, c8p, g4_6, g4_6p, c24, c24p]; simp (disch := omega) only [wC, if_pos, if_neg]; simp [h3, f1_0, c8, c8p, g4_6, g4_6p, c24, c24p]; done)
                        · first | rfl | (simp [h3, f1_0, c8, c8p, g4_6, g4_6p, c24, c24p]; done) | omega | assumption | (simp [h3, f1_0, c8, c8p, g4_6, g4_6p, c24, c24p]; omega) | (simp only [putA_get]; simp (disch := omega) only [wC, if_pos, if_neg]; simp [h3, f1_0, c8, c8p, g4_6, g4_6p, c24, c24p]; done) | (simp [h3, f1_0, c8, c8p, g4_6, g4_6p, c24, c24p]; simp (disch := omega) only [wC, if_pos, if_neg]; simp [h3, f1_0, c8, c8p, g4_6, g4_6p, c24, c24p]; done)
                      case rd2 =>
                        rintro k ρ2 σ1 hF2 ⟨hk, hB, h4, hs⟩
                        obtain rfl := hs.symm
                        have f2_0 := hF2 0 (by decide)
                        try simp [h3, f1_0, c8, c8p, g4_6, g4_6p, c24, c24p] at f2_0
                        have f2_3 := hF2 3 (by decide)
                        try simp [h3, f1_0, c8, c8p, g4_6, g4_6p, c24, c24p] at f2_3
                        have f2_5 := hF2 5 (by decide)
                        try simp [h3, f1_0, c8, c8p, g4_6, g4_6p, c24, c24p] at f2_5
                        have f2_6 := hF2 6 (by decide)
                        try simp [h3, f1_0, c8, c8p, g4_6, g4_6p, c24, c24p] at f2_6
                        have f2_7 := hF2 7 (by decide)
                        try simp [h3, f1_0, c8, c8p, g4_6, g4_6p, c24, c24p] at f2_7
                        have f2_8 := hF2 8 (by decide)
                        try simp [h3, f1_0, c8, c8p, g4_6, g4_6p, c24, c24p] at f2_8
                        have f2_11 := hF2 11 (by decide)
                        try simp [h3, f1_0, c8, c8p, g4_6, g4_6p, c24, c24p] at f2_11
                        have f2_12 := hF2 12 (by decide)
                        try simp [h3, f1_0, c8, c8p, g4_6, g4_6p, c24, c24p] at f2_12
                        have f2_13 := hF2 13 (by decide)
                        try simp [h3, f1_0, c8, c8p, g4_6, g4_6p, c24, c24p] at f2_13
                        have f2_14 := hF2 14 (by decide)
                        try simp [h3, f1_0, c8, c8p, g4_6, g4_6p, c24, c24p] at f2_14
                        have f2_15 := hF2 15 (by decide)
                        try simp [h3, f1_0, c8, c8p, g4_6, g4_6p, c24, c24p] at f2_15
                        have f2_16 := hF2 16 (by decide)
                        try simp [h3, f1_0, c8, c8p, g4_6, g4_6p, c24, c24p] at f2_16
                        have f2_17 := hF2 17 (by decide)
                        try simp [h3, f1_0, c8, c8p, g4_6, g4_6p, c24, c24p] at f2_17
                        have f2_18 := hF2 18 (by decide)
                        try simp [h3, f1_0, c8, c8p, g4_6, g4_6p, c24, c24p] at f2_18
                        have f2_19 := hF2 19 (by decide)
                        try simp [h3, f1_0, c8, c8p, g4_6, g4_6p, c24, c24p] at f2_19
                        have f2_20 := hF2 20 (by decide)
                        try simp [h3, f1_0, c8, c8p, g4_6, g4_6p, c24, c24p] at f2_20
                        have f2_21 := hF2 21 (by decide)
                        try simp [h3, f1_0, c8, c8p, g4_6, g4_6p, c24, c24p] at f2_21
                        have f2_22 := hF2 22 (by decide)
                        try simp [h3, f1_0, c8, c8p, g4_6, g4_6p, c24, c24p] at f2_22
                        have f2_23 := hF2 23 (by decide)
                        try simp [h3, f1_0, c8, c8p, g4_6, g4_6p, c24, c24p] at f2_23
                        have f2_24 := hF2 24 (by decide)
                        try simp [h3, f1_0, c8, c8p, g4_6, g4_6p, c24, c24p] at f2_24
                        refine run_seq_k fun K19 hK19 => ?_
                        refine run_seq_k fun K20 hK20 => ?_
                        refine run_region_k rfl fun J21 hJ21 => ?_
                        repeat (first | simp [h3, f1_0, c8, c8p, g4_6, g4_6p, c24, c24p, h4, f2_0, f2_3, f2_5, f2_6, f2_7, f2_8, f2_11, f2_12, f2_13, f2_14, f2_15, f2_16, f2_17, f2_18, f2_19, f2_20, f2_21, f2_22, f2_23, f2_24] | simp (disch := omega) only [wC, if_pos, if_neg])
                        refine hJ21 _ _ ?_
                        refine hK20 _ _ ?_
                        refine run_cond_split (by first | rfl | (simp [h3, f1_0, c8, c8p, g4_6, g4_6p, c24, c24p, h4, f2_0, f2_3, f2_5, f2_6, f2_7, f2_8, f2_11, f2_12, f2_13, f2_14, f2_15, f2_16, f2_17, f2_18, f2_19, f2_20, f2_21, f2_22, f2_23, f2_24, evalA]; done)) (fun c27 => ?_) (fun c27 => ?_)
                        · try (exfalso; first | (revert c27; simp [h3, f1_0, c8, c8p, g4_6, g4_6p, c24, c24p, h4, f2_0, f2_3, f2_5, f2_6, f2_7, f2_8, f2_11, f2_12, f2_13, f2_14, f2_15, f2_16, f2_17, f2_18, f2_19, f2_20, f2_21, f2_22, f2_23, f2_24]; done) | (have gq := c27; simp [h3, f1_0, c8, c8p, g4_6, g4_6p, c24, c24p, h4, f2_0, f2_3, f2_5, f2_6, f2_7, f2_8, f2_11, f2_12, f2_13, f2_14, f2_15, f2_16, f2_17, f2_18, f2_19, f2_20, f2_21, f2_22, f2_23, f2_24] at gq; omega) | (have gq := c27; simp [h3, f1_0, c8, c8p, g4_6, g4_6p, c24, c24p, h4, f2_0, f2_3, f2_5, f2_6, f2_7, f2_8, f2_11, f2_12, f2_13, f2_14, f2_15, f2_16, f2_17, f2_18, f2_19, f2_20, f2_21, f2_22, f2_23, f2_24] at gq; done))
                          all_goals
                            have c27p := c27
                            try simp [h3, f1_0, c8, c8p, g4_6, g4_6p, c24, c24p, h4, f2_0, f2_3, f2_5, f2_6, f2_7, f2_8, f2_11, f2_12, f2_13, f2_14, f2_15, f2_16, f2_17, f2_18, f2_19, f2_20, f2_21, f2_22, f2_23, f2_24] at c27p
                            all_goals (first | (have gq := c27p; skip) | have c27p : True := True.intro)
                            all_goals
                              refine run_skip ?_
                              refine hK19 _ _ ?_
                              refine run_seq_k fun K22 hK22 => ?_
                              refine run_block_k ?_
                              refine run_seq_k fun K23 hK23 => ?_
                              refine run_draw (by kernel_rfl) fun J24 hJ24 => ?_
                              refine runD_pure' 0 (by kernel_rfl) rfl rfl (by kernel_rfl) (by kernel_rfl) (by kernel_rfl) (by kernel_rfl) ?_
                              repeat (first | simp [h3, f1_0, c8, c8p, g4_6, g4_6p, c24, c24p, h4, f2_0, f2_3, f2_5, f2_6, f2_7, f2_8, f2_11, f2_12, f2_13, f2_14, f2_15, f2_16, f2_17, f2_18, f2_19, f2_20, f2_21, f2_22, f2_23, f2_24, c27, c27p] | simp (disch := omega) only [wC, if_pos, if_neg])
                              refine runD_pure' 1 (by kernel_rfl) rfl rfl (by kernel_rfl) (by kernel_rfl) (by kernel_rfl) (by kernel_rfl) ?_
                              repeat (first | simp [h3, f1_0, c8, c8p, g4_6, g4_6p, c24, c24p, h4, f2_0, f2_3, f2_5, f2_6, f2_7, f2_8, f2_11, f2_12, f2_13, f2_14, f2_15, f2_16, f2_17, f2_18, f2_19, f2_20, f2_21, f2_22, f2_23, f2_24, c27, c27p] | simp (disch := omega) only [wC, if_pos, if_neg])
                              refine runD_pure' 2 (by kernel_rfl) rfl rfl (by kernel_rfl) (by kernel_rfl) (by kernel_rfl) (by kernel_rfl) ?_
                              repeat (first | simp [h3, f1_0, c8, c8p, g4_6, g4_6p, c24, c24p, h4, f2_0, f2_3, f2_5, f2_6, f2_7, f2_8, f2_11, f2_12, f2_13, f2_14, f2_15, f2_16, f2_17, f2_18, f2_19, f2_20, f2_21, f2_22, f2_23, f2_24, c27, c27p] | simp (disch := omega) only [wC, if_pos, if_neg])
                              refine runD_pure' 3 (by kernel_rfl) rfl rfl (by kernel_rfl) (by kernel_rfl) (by kernel_rfl) (by kernel_rfl) ?_
                              repeat (first | simp [h3, f1_0, c8, c8p, g4_6, g4_6p, c24, c24p, h4, f2_0, f2_3, f2_5, f2_6, f2_7, f2_8, f2_11, f2_12, f2_13, f2_14, f2_15, f2_16, f2_17, f2_18, f2_19, f2_20, f2_21, f2_22, f2_23, f2_24, c27, c27p] | simp (disch := omega) only [wC, if_pos, if_neg])
                              refine runD_pure' 4 (by kernel_rfl) rfl rfl (by kernel_rfl) (by kernel_rfl) (by kernel_rfl) (by kernel_rfl) ?_
                              repeat (first | simp [h3, f1_0, c8, c8p, g4_6, g4_6p, c24, c24p, h4, f2_0, f2_3, f2_5, f2_6, f2_7, f2_8, f2_11, f2_12, f2_13, f2_14, f2_15, f2_16, f2_17, f2_18, f2_19, f2_20, f2_21, f2_22, f2_23, f2_24, c27, c27p] | simp (disch := omega) only [wC, if_pos, if_neg])
                              refine runD_pure' 5 (by kernel_rfl) rfl rfl (by kernel_rfl) (by kernel_rfl) (by kernel_rfl) (by kernel_rfl) ?_
                              repeat (first | simp [h3, f1_0, c8, c8p, g4_6, g4_6p, c24, c24p, h4, f2_0, f2_3, f2_5, f2_6, f2_7, f2_8, f2_11, f2_12, f2_13, f2_14, f2_15, f2_16, f2_17, f2_18, f2_19, f2_20, f2_21, f2_22, f2_23, f2_24, c27, c27p] | simp (disch := omega) only [wC, if_pos, if_neg])
                              refine runD_pure' 6 (by kernel_rfl) rfl rfl (by kernel_rfl) (by kernel_rfl) (by kernel_rfl) (by kernel_rfl) ?_
                              repeat (first | simp [h3, f1_0, c8, c8p, g4_6, g4_6p, c24, c24p, h4, f2_0, f2_3, f2_5, f2_6, f2_7, f2_8, f2_11, f2_12, f2_13, f2_14, f2_15, f2_16, f2_17, f2_18, f2_19, f2_20, f2_21, f2_22, f2_23, f2_24, c27, c27p] | simp (disch := omega) only [wC, if_pos, if_neg])
                              refine runD_pure' 7 (by kernel_rfl) rfl rfl (by kernel_rfl) (by kernel_rfl) (by kernel_rfl) (by kernel_rfl) ?_
                              repeat (first | simp [h3, f1_0, c8, c8p, g4_6, g4_6p, c24, c24p, h4, f2_0, f2_3, f2_5, f2_6, f2_7, f2_8, f2_11, f2_12, f2_13, f2_14, f2_15, f2_16, f2_17, f2_18, f2_19, f2_20, f2_21, f2_22, f2_23, f2_24, c27, c27p] | simp (disch := omega) only [wC, if_pos, if_neg])
                              refine runD_pure' 8 (by kernel_rfl) rfl rfl (by kernel_rfl) (by kernel_rfl) (by kernel_rfl) (by kernel_rfl) ?_
                              repeat (first | simp [h3, f1_0, c8, c8p, g4_6, g4_6p, c24, c24p, h4, f2_0, f2_3, f2_5, f2_6, f2_7, f2_8, f2_11, f2_12, f2_13, f2_14, f2_15, f2_16, f2_17, f2_18, f2_19, f2_20, f2_21, f2_22, f2_23, f2_24, c27, c27p] | simp (disch := omega) only [wC, if_pos, if_neg])
                              refine runD_pure' 9 (by kernel_rfl) rfl rfl (by kernel_rfl) (by kernel_rfl) (by kernel_rfl) (by kernel_rfl) ?_
                              repeat (first | simp [h3, f1_0, c8, c8p, g4_6, g4_6p, c24, c24p, h4, f2_0, f2_3, f2_5, f2_6, f2_7, f2_8, f2_11, f2_12, f2_13, f2_14, f2_15, f2_16, f2_17, f2_18, f2_19, f2_20, f2_21, f2_22, f2_23, f2_24, c27, c27p] | simp (disch := omega) only [wC, if_pos, if_neg])
                              refine runD_pure' 10 (by kernel_rfl) rfl rfl (by kernel_rfl) (by kernel_rfl) (by kernel_rfl) (by kernel_rfl) ?_
                              repeat (first | simp [h3, f1_0, c8, c8p, g4_6, g4_6p, c24, c24p, h4, f2_0, f2_3, f2_5, f2_6, f2_7, f2_8, f2_11, f2_12, f2_13, f2_14, f2_15, f2_16, f2_17, f2_18, f2_19, f2_20, f2_21, f2_22, f2_23, f2_24, c27, c27p] | simp (disch := omega) only [wC, if_pos, if_neg])
                              refine runD_done (by kernel_rfl) (by kernel_rfl) (by kernel_rfl) ?_
                              refine hJ24 _ _ ?_
                              refine hK23 _ _ ?_
                              refine run_cond_split (by first | rfl | (simp [h3, f1_0, c8, c8p, g4_6, g4_6p, c24, c24p, h4, f2_0, f2_3, f2_5, f2_6, f2_7, f2_8, f2_11, f2_12, f2_13, f2_14, f2_15, f2_16, f2_17, f2_18, f2_19, f2_20, f2_21, f2_22, f2_23, f2_24, c27, c27p, evalA]; done)) (fun c40 => ?_) (fun c40 => ?_)
                              · try (exfalso; first | (revert c40; simp [h3, f1_0, c8, c8p, g4_6, g4_6p, c24, c24p, h4, f2_0, f2_3, f2_5, f2_6, f2_7, f2_8, f2_11, f2_12, f2_13, f2_14, f2_15, f2_16, f2_17, f2_18, f2_19, f2_20, f2_21, f2_22, f2_23, f2_24, c27, c27p]; done) | (have gq := c40; simp [h3, f1_0, c8, c8p, g4_6, g4_6p, c24, c24p, h4, f2_0, f2_3, f2_5, f2_6, f2_7, f2_8, f2_11, f2_12, f2_13, f2_14, f2_15, f2_16, f2_17, f2_18, f2_19, f2_20, f2_21, f2_22, f2_23, f2_24, c27, c27p] at gq; omega) | (have gq := c40; simp [h3, f1_0, c8, c8p, g4_6, g4_6p, c24, c24p, h4, f2_0, f2_3, f2_5, f2_6, f2_7, f2_8, f2_11, f2_12, f2_13, f2_14, f2_15, f2_16, f2_17, f2_18, f2_19, f2_20, f2_21, f2_22, f2_23, f2_24, c27, c27p] at gq; done))
                                all_goals
                                  have c40p := c40
                                  try simp [h3, f1_0, c8, c8p, g4_6, g4_6p, c24, c24p, h4, f2_0, f2_3, f2_5, f2_6, f2_7, f2_8, f2_11, f2_12, f2_13, f2_14, f2_15, f2_16, f2_17, f2_18, f2_19, f2_20, f2_21, f2_22, f2_23, f2_24, c27, c27p] at c40p
                                  all_goals (first | (have gq := c40p; skip) | have c40p : True := True.intro)
                                  all_goals
                                    refine run_seq_k fun K25 hK25 => ?_
                                    refine run_region_k rfl fun J26 hJ26 => ?_
                                    repeat (first | simp [h3, f1_0, c8, c8p, g4_6, g4_6p, c24, c24p, h4, f2_0, f2_3, f2_5, f2_6, f2_7, f2_8, f2_11, f2_12, f2_13, f2_14, f2_15, f2_16, f2_17, f2_18, f2_19, f2_20, f2_21, f2_22, f2_23, f2_24, c27, c27p, c40, c40p] | simp (disch := omega) only [wC, if_pos, if_neg])
                                    refine hJ26 _ _ ?_
                                    refine hK25 _ _ ?_
                                    refine run_ret ?_
                                    try simp only [Then, InBlock, NoGoto]
                                    refine answer_tmp rfl (.inr rfl) ?_
                                    have hn : ¬ Right l := fun hr => by have := List.pairwise_iff_getElem.1 hr.2 k i (by omega) c8p c27p; omega
                                    first | exact ⟨rfl, rfl⟩ | (simp [h3, f1_0, c8, c8p, g4_6, g4_6p, c24, c24p, h4, f2_0, f2_3, f2_5, f2_6, f2_7, f2_8, f2_11, f2_12, f2_13, f2_14, f2_15, f2_16, f2_17, f2_18, f2_19, f2_20, f2_21, f2_22, f2_23, f2_24, c27, c27p, c40, c40p]; done) | (refine ⟨?_, ?_⟩ <;> first | rfl | (simp [h3, f1_0, c8, c8p, g4_6, g4_6p, c24, c24p, h4, f2_0, f2_3, f2_5, f2_6, f2_7, f2_8, f2_11, f2_12, f2_13, f2_14, f2_15, f2_16, f2_17, f2_18, f2_19, f2_20, f2_21, f2_22, f2_23, f2_24, c27, c27p, c40, c40p]; done) | (simp [*]; done) | omega)
                              · try (exfalso; first | (revert c40; simp [h3, f1_0, c8, c8p, g4_6, g4_6p, c24, c24p, h4, f2_0, f2_3, f2_5, f2_6, f2_7, f2_8, f2_11, f2_12, f2_13, f2_14, f2_15, f2_16, f2_17, f2_18, f2_19, f2_20, f2_21, f2_22, f2_23, f2_24, c27, c27p]; done) | (have gq := c40; simp [h3, f1_0, c8, c8p, g4_6, g4_6p, c24, c24p, h4, f2_0, f2_3, f2_5, f2_6, f2_7, f2_8, f2_11, f2_12, f2_13, f2_14, f2_15, f2_16, f2_17, f2_18, f2_19, f2_20, f2_21, f2_22, f2_23, f2_24, c27, c27p] at gq; omega) | (have gq := c40; simp [h3, f1_0, c8, c8p, g4_6, g4_6p, c24, c24p, h4, f2_0, f2_3, f2_5, f2_6, f2_7, f2_8, f2_11, f2_12, f2_13, f2_14, f2_15, f2_16, f2_17, f2_18, f2_19, f2_20, f2_21, f2_22, f2_23, f2_24, c27, c27p] at gq; done))
                                all_goals
                                  have c40p := c40
                                  try simp [h3, f1_0, c8, c8p, g4_6, g4_6p, c24, c24p, h4, f2_0, f2_3, f2_5, f2_6, f2_7, f2_8, f2_11, f2_12, f2_13, f2_14, f2_15, f2_16, f2_17, f2_18, f2_19, f2_20, f2_21, f2_22, f2_23, f2_24, c27, c27p] at c40p
                                  all_goals (first | (have gq := c40p; skip) | have c40p : True := True.intro)
                                  all_goals
                                    refine run_skip ?_
                                    refine hK22 _ _ ?_
                                    refine run_region_k rfl fun J27 hJ27 => ?_
                                    repeat (first | simp [h3, f1_0, c8, c8p, g4_6, g4_6p, c24, c24p, h4, f2_0, f2_3, f2_5, f2_6, f2_7, f2_8, f2_11, f2_12, f2_13, f2_14, f2_15, f2_16, f2_17, f2_18, f2_19, f2_20, f2_21, f2_22, f2_23, f2_24, c27, c27p, c40, c40p] | simp (disch := omega) only [wC, if_pos, if_neg])
                                    refine hJ27 _ _ ?_
                                    refine ⟨(k + 1), ⟨?_, ?_, ?_, ?_, ?_⟩, ?_⟩
                                    · first | (simp [h3, f1_0, c8, c8p, g4_6, g4_6p, c24, c24p, h4, f2_0, f2_3, f2_5, f2_6, f2_7, f2_8, f2_11, f2_12, f2_13, f2_14, f2_15, f2_16, f2_17, f2_18, f2_19, f2_20, f2_21, f2_22, f2_23, f2_24, c27, c27p, c40, c40p]; done) | (intro r hr; revert hr; simp [h3, f1_0, c8, c8p, g4_6, g4_6p, c24, c24p, h4, f2_0, f2_3, f2_5, f2_6, f2_7, f2_8, f2_11, f2_12, f2_13, f2_14, f2_15, f2_16, f2_17, f2_18, f2_19, f2_20, f2_21, f2_22, f2_23, f2_24, c27, c27p, c40, c40p]; done) | (intro r hr; simp only [List.mem_cons, List.not_mem_nil, or_false] at hr; rcases hr with rfl | rfl | rfl | rfl | rfl | rfl | rfl | rfl | rfl | rfl | rfl | rfl | rfl | rfl | rfl | rfl | rfl | rfl | rfl | rfl <;> simp [h3, f1_0, c8, c8p, g4_6, g4_6p, c24, c24p, h4, f2_0, f2_3, f2_5, f2_6, f2_7, f2_8, f2_11, f2_12, f2_13, f2_14, f2_15, f2_16, f2_17, f2_18, f2_19, f2_20, f2_21, f2_22, f2_23, f2_24, c27, c27p, c40, c40p] <;> done)
                                    · first | rfl | (simp [h3, f1_0, c8, c8p, g4_6, g4_6p, c24, c24p, h4, f2_0, f2_3, f2_5, f2_6, f2_7, f2_8, f2_11, f2_12, f2_13, f2_14, f2_15, f2_16, f2_17, f2_18, f2_19, f2_20, f2_21, f2_22, f2_23, f2_24, c27, c27p, c40, c40p]; done) | omega | assumption | (simp [h3, f1_0, c8, c8p, g4_6, g4_6p, c24, c24p, h4, f2_0, f2_3, f2_5, f2_6, f2_7, f2_8, f2_11, f2_12, f2_13, f2_14, f2_15, f2_16, f2_17, f2_18, f2_19, f2_20, f2_21, f2_22, f2_23, f2_24, c27, c27p, c40, c40p]; omega) | (simp only [putA_get]; simp (disch := omega) only [wC, if_pos, if_neg]; simp [h3, f1_0, c8, c8p, g4_6, g4_6p, c24, c24p, h4, f2_0, f2_3, f2_5, f2_6, f2_7, f2_8, f2_11, f2_12, f2_13, f2_14, f2_15, f2_16, f2_17, f2_18, f2_19, f2_20, f2_21, f2_22, f2_23, f2_24, c27, c27p, c40, c40p]; done) | (simp [h3, f1_0, c8, c8p, g4_6, g4_6p, c24, c24p, h4, f2_0, f2_3, f2_5, f2_6, f2_7, f2_8, f2_11, f2_12, f2_13, f2_14, f2_15, f2_16, f2_17, f2_18, f2_19, f2_20, f2_21, f2_22, f2_23, f2_24, c27, c27p, c40, c40p]; simp (disch := omega) only [wC, if_pos, if_neg]; simp [h3, f1_0, c8, c8p, g4_6, g4_6p, c24, c24p, h4, f2_0, f2_3, f2_5, f2_6, f2_7, f2_8, f2_11, f2_12, f2_13, f2_14, f2_15, f2_16, f2_17, f2_18, f2_19, f2_20, f2_21, f2_22, f2_23, f2_24, c27, c27p, c40, c40p]; done)
                                    · rw [take_snoc (by omega : k < l.length)]
                                      intro b hb
                                      rcases List.mem_append.1 hb with h | h
                                      · exact hB b h
                                      · simp at h; subst h; exact c40p
                                    · first | rfl | (simp [h3, f1_0, c8, c8p, g4_6, g4_6p, c24, c24p, h4, f2_0, f2_3, f2_5, f2_6, f2_7, f2_8, f2_11, f2_12, f2_13, f2_14, f2_15, f2_16, f2_17, f2_18, f2_19, f2_20, f2_21, f2_22, f2_23, f2_24, c27, c27p, c40, c40p]; done) | omega | assumption | (simp [h3, f1_0, c8, c8p, g4_6, g4_6p, c24, c24p, h4, f2_0, f2_3, f2_5, f2_6, f2_7, f2_8, f2_11, f2_12, f2_13, f2_14, f2_15, f2_16, f2_17, f2_18, f2_19, f2_20, f2_21, f2_22, f2_23, f2_24, c27, c27p, c40, c40p]; omega) | (simp only [putA_get]; simp (disch := omega) only [wC, if_pos, if_neg]; simp [h3, f1_0, c8, c8p, g4_6, g4_6p, c24, c24p, h4, f2_0, f2_3, f2_5, f2_6, f2_7, f2_8, f2_11, f2_12, f2_13, f2_14, f2_15, f2_16, f2_17, f2_18, f2_19, f2_20, f2_21, f2_22, f2_23, f2_24, c27, c27p, c40, c40p]; done) | (simp [h3, f1_0, c8, c8p, g4_6, g4_6p, c24, c24p, h4, f2_0, f2_3, f2_5, f2_6, f2_7, f2_8, f2_11, f2_12, f2_13, f2_14, f2_15, f2_16, f2_17, f2_18, f2_19, f2_20, f2_21, f2_22, f2_23, f2_24, c27, c27p, c40, c40p]; simp (disch := omega) only [wC, if_pos, if_neg]; simp [h3, f1_0, c8, c8p, g4_6, g4_6p, c24, c24p, h4, f2_0, f2_3, f2_5, f2_6, f2_7, f2_8, f2_11, f2_12, f2_13, f2_14, f2_15, f2_16, f2_17, f2_18, f2_19, f2_20, f2_21, f2_22, f2_23, f2_24, c27, c27p, c40, c40p]; done)
                                    · first | rfl | (simp [h3, f1_0, c8, c8p, g4_6, g4_6p, c24, c24p, h4, f2_0, f2_3, f2_5, f2_6, f2_7, f2_8, f2_11, f2_12, f2_13, f2_14, f2_15, f2_16, f2_17, f2_18, f2_19, f2_20, f2_21, f2_22, f2_23, f2_24, c27, c27p, c40, c40p]; done) | omega | assumption | (simp [h3, f1_0, c8, c8p, g4_6, g4_6p, c24, c24p, h4, f2_0, f2_3, f2_5, f2_6, f2_7, f2_8, f2_11, f2_12, f2_13, f2_14, f2_15, f2_16, f2_17, f2_18, f2_19, f2_20, f2_21, f2_22, f2_23, f2_24, c27, c27p, c40, c40p]; omega) | (simp only [putA_get]; simp (disch := omega) only [wC, if_pos, if_neg]; simp [h3, f1_0, c8, c8p, g4_6, g4_6p, c24, c24p, h4, f2_0, f2_3, f2_5, f2_6, f2_7, f2_8, f2_11, f2_12, f2_13, f2_14, f2_15, f2_16, f2_17, f2_18, f2_19, f2_20, f2_21, f2_22, f2_23, f2_24, c27, c27p, c40, c40p]; done) | (simp [h3, f1_0, c8, c8p, g4_6, g4_6p, c24, c24p, h4, f2_0, f2_3, f2_5, f2_6, f2_7, f2_8, f2_11, f2_12, f2_13, f2_14, f2_15, f2_16, f2_17, f2_18, f2_19, f2_20, f2_21, f2_22, f2_23, f2_24, c27, c27p, c40, c40p]; simp (disch := omega) only [wC, if_pos, if_neg]; simp [h3, f1_0, c8, c8p, g4_6, g4_6p, c24, c24p, h4, f2_0, f2_3, f2_5, f2_6, f2_7, f2_8, f2_11, f2_12, f2_13, f2_14, f2_15, f2_16, f2_17, f2_18, f2_19, f2_20, f2_21, f2_22, f2_23, f2_24, c27, c27p, c40, c40p]; done)
                                    · first | rfl | (simp [h3, f1_0, c8, c8p, g4_6, g4_6p, c24, c24p, h4, f2_0, f2_3, f2_5, f2_6, f2_7, f2_8, f2_11, f2_12, f2_13, f2_14, f2_15, f2_16, f2_17, f2_18, f2_19, f2_20, f2_21, f2_22, f2_23, f2_24, c27, c27p, c40, c40p]; done) | omega | assumption | (simp [h3, f1_0, c8, c8p, g4_6, g4_6p, c24, c24p, h4, f2_0, f2_3, f2_5, f2_6, f2_7, f2_8, f2_11, f2_12, f2_13, f2_14, f2_15, f2_16, f2_17, f2_18, f2_19, f2_20, f2_21, f2_22, f2_23, f2_24, c27, c27p, c40, c40p]; omega) | (simp only [putA_get]; simp (disch := omega) only [wC, if_pos, if_neg]; simp [h3, f1_0, c8, c8p, g4_6, g4_6p, c24, c24p, h4, f2_0, f2_3, f2_5, f2_6, f2_7, f2_8, f2_11, f2_12, f2_13, f2_14, f2_15, f2_16, f2_17, f2_18, f2_19, f2_20, f2_21, f2_22, f2_23, f2_24, c27, c27p, c40, c40p]; done) | (simp [h3, f1_0, c8, c8p, g4_6, g4_6p, c24, c24p, h4, f2_0, f2_3, f2_5, f2_6, f2_7, f2_8, f2_11, f2_12, f2_13, f2_14, f2_15, f2_16, f2_17, f2_18, f2_19, f2_20, f2_21, f2_22, f2_23, f2_24, c27, c27p, c40, c40p]; simp (disch := omega) only [wC, if_pos, if_neg]; simp [h3, f1_0, c8, c8p, g4_6, g4_6p, c24, c24p, h4, f2_0, f2_3, f2_5, f2_6, f2_7, f2_8, f2_11, f2_12, f2_13, f2_14, f2_15, f2_16, f2_17, f2_18, f2_19, f2_20, f2_21, f2_22, f2_23, f2_24, c27, c27p, c40, c40p]; done)
                        · try (exfalso; first | (revert c27; simp [h3, f1_0, c8, c8p, g4_6, g4_6p, c24, c24p, h4, f2_0, f2_3, f2_5, f2_6, f2_7, f2_8, f2_11, f2_12, f2_13, f2_14, f2_15, f2_16, f2_17, f2_18, f2_19, f2_20, f2_21, f2_22, f2_23, f2_24]; done) | (have gq := c27; simp [h3, f1_0, c8, c8p, g4_6, g4_6p, c24, c24p, h4, f2_0, f2_3, f2_5, f2_6, f2_7, f2_8, f2_11, f2_12, f2_13, f2_14, f2_15, f2_16, f2_17, f2_18, f2_19, f2_20, f2_21, f2_22, f2_23, f2_24] at gq; omega) | (have gq := c27; simp [h3, f1_0, c8, c8p, g4_6, g4_6p, c24, c24p, h4, f2_0, f2_3, f2_5, f2_6, f2_7, f2_8, f2_11, f2_12, f2_13, f2_14, f2_15, f2_16, f2_17, f2_18, f2_19, f2_20, f2_21, f2_22, f2_23, f2_24] at gq; done))
                          all_goals
                            have c27p := c27
                            try simp [h3, f1_0, c8, c8p, g4_6, g4_6p, c24, c24p, h4, f2_0, f2_3, f2_5, f2_6, f2_7, f2_8, f2_11, f2_12, f2_13, f2_14, f2_15, f2_16, f2_17, f2_18, f2_19, f2_20, f2_21, f2_22, f2_23, f2_24] at c27p
                            all_goals (first | (have gq := c27p; skip) | have c27p : True := True.intro)
                            all_goals
                              refine run_exit ?_
                              refine hK9 _ _ ?_
                              refine run_region_k rfl fun J28 hJ28 => ?_
                              repeat (first | simp [h3, f1_0, c8, c8p, g4_6, g4_6p, c24, c24p, h4, f2_0, f2_3, f2_5, f2_6, f2_7, f2_8, f2_11, f2_12, f2_13, f2_14, f2_15, f2_16, f2_17, f2_18, f2_19, f2_20, f2_21, f2_22, f2_23, f2_24, c27, c27p] | simp (disch := omega) only [wC, if_pos, if_neg])
                              refine hJ28 _ _ ?_
                              refine ⟨(i + 1), ⟨?_, ?_, ?_, ?_, ?_⟩, ?_⟩
                              · first | (simp [h3, f1_0, c8, c8p, g4_6, g4_6p, c24, c24p, h4, f2_0, f2_3, f2_5, f2_6, f2_7, f2_8, f2_11, f2_12, f2_13, f2_14, f2_15, f2_16, f2_17, f2_18, f2_19, f2_20, f2_21, f2_22, f2_23, f2_24, c27, c27p]; done) | (intro r hr; revert hr; simp [h3, f1_0, c8, c8p, g4_6, g4_6p, c24, c24p, h4, f2_0, f2_3, f2_5, f2_6, f2_7, f2_8, f2_11, f2_12, f2_13, f2_14, f2_15, f2_16, f2_17, f2_18, f2_19, f2_20, f2_21, f2_22, f2_23, f2_24, c27, c27p]; done) | (intro r hr; simp only [List.mem_cons, List.not_mem_nil, or_false] at hr; rcases hr with rfl <;> simp [h3, f1_0, c8, c8p, g4_6, g4_6p, c24, c24p, h4, f2_0, f2_3, f2_5, f2_6, f2_7, f2_8, f2_11, f2_12, f2_13, f2_14, f2_15, f2_16, f2_17, f2_18, f2_19, f2_20, f2_21, f2_22, f2_23, f2_24, c27, c27p] <;> done)
                              · first | rfl | (simp [h3, f1_0, c8, c8p, g4_6, g4_6p, c24, c24p, h4, f2_0, f2_3, f2_5, f2_6, f2_7, f2_8, f2_11, f2_12, f2_13, f2_14, f2_15, f2_16, f2_17, f2_18, f2_19, f2_20, f2_21, f2_22, f2_23, f2_24, c27, c27p]; done) | omega | assumption | (simp [h3, f1_0, c8, c8p, g4_6, g4_6p, c24, c24p, h4, f2_0, f2_3, f2_5, f2_6, f2_7, f2_8, f2_11, f2_12, f2_13, f2_14, f2_15, f2_16, f2_17, f2_18, f2_19, f2_20, f2_21, f2_22, f2_23, f2_24, c27, c27p]; omega) | (simp only [putA_get]; simp (disch := omega) only [wC, if_pos, if_neg]; simp [h3, f1_0, c8, c8p, g4_6, g4_6p, c24, c24p, h4, f2_0, f2_3, f2_5, f2_6, f2_7, f2_8, f2_11, f2_12, f2_13, f2_14, f2_15, f2_16, f2_17, f2_18, f2_19, f2_20, f2_21, f2_22, f2_23, f2_24, c27, c27p]; done) | (simp [h3, f1_0, c8, c8p, g4_6, g4_6p, c24, c24p, h4, f2_0, f2_3, f2_5, f2_6, f2_7, f2_8, f2_11, f2_12, f2_13, f2_14, f2_15, f2_16, f2_17, f2_18, f2_19, f2_20, f2_21, f2_22, f2_23, f2_24, c27, c27p]; simp (disch := omega) only [wC, if_pos, if_neg]; simp [h3, f1_0, c8, c8p, g4_6, g4_6p, c24, c24p, h4, f2_0, f2_3, f2_5, f2_6, f2_7, f2_8, f2_11, f2_12, f2_13, f2_14, f2_15, f2_16, f2_17, f2_18, f2_19, f2_20, f2_21, f2_22, f2_23, f2_24, c27, c27p]; done)
                              · rw [take_snoc c8p, right_snoc]
                                exact ⟨hR, ⟨by omega, c24p⟩, by rwa [show k = i by omega] at hB⟩
                              · first | rfl | (simp [h3, f1_0, c8, c8p, g4_6, g4_6p, c24, c24p, h4, f2_0, f2_3, f2_5, f2_6, f2_7, f2_8, f2_11, f2_12, f2_13, f2_14, f2_15, f2_16, f2_17, f2_18, f2_19, f2_20, f2_21, f2_22, f2_23, f2_24, c27, c27p]; done) | omega | assumption | (simp [h3, f1_0, c8, c8p, g4_6, g4_6p, c24, c24p, h4, f2_0, f2_3, f2_5, f2_6, f2_7, f2_8, f2_11, f2_12, f2_13, f2_14, f2_15, f2_16, f2_17, f2_18, f2_19, f2_20, f2_21, f2_22, f2_23, f2_24, c27, c27p]; omega) | (simp only [putA_get]; simp (disch := omega) only [wC, if_pos, if_neg]; simp [h3, f1_0, c8, c8p, g4_6, g4_6p, c24, c24p, h4, f2_0, f2_3, f2_5, f2_6, f2_7, f2_8, f2_11, f2_12, f2_13, f2_14, f2_15, f2_16, f2_17, f2_18, f2_19, f2_20, f2_21, f2_22, f2_23, f2_24, c27, c27p]; done) | (simp [h3, f1_0, c8, c8p, g4_6, g4_6p, c24, c24p, h4, f2_0, f2_3, f2_5, f2_6, f2_7, f2_8, f2_11, f2_12, f2_13, f2_14, f2_15, f2_16, f2_17, f2_18, f2_19, f2_20, f2_21, f2_22, f2_23, f2_24, c27, c27p]; simp (disch := omega) only [wC, if_pos, if_neg]; simp [h3, f1_0, c8, c8p, g4_6, g4_6p, c24, c24p, h4, f2_0, f2_3, f2_5, f2_6, f2_7, f2_8, f2_11, f2_12, f2_13, f2_14, f2_15, f2_16, f2_17, f2_18, f2_19, f2_20, f2_21, f2_22, f2_23, f2_24, c27, c27p]; done)
                              · first | rfl | (simp [h3, f1_0, c8, c8p, g4_6, g4_6p, c24, c24p, h4, f2_0, f2_3, f2_5, f2_6, f2_7, f2_8, f2_11, f2_12, f2_13, f2_14, f2_15, f2_16, f2_17, f2_18, f2_19, f2_20, f2_21, f2_22, f2_23, f2_24, c27, c27p]; done) | omega | assumption | (simp [h3, f1_0, c8, c8p, g4_6, g4_6p, c24, c24p, h4, f2_0, f2_3, f2_5, f2_6, f2_7, f2_8, f2_11, f2_12, f2_13, f2_14, f2_15, f2_16, f2_17, f2_18, f2_19, f2_20, f2_21, f2_22, f2_23, f2_24, c27, c27p]; omega) | (simp only [putA_get]; simp (disch := omega) only [wC, if_pos, if_neg]; simp [h3, f1_0, c8, c8p, g4_6, g4_6p, c24, c24p, h4, f2_0, f2_3, f2_5, f2_6, f2_7, f2_8, f2_11, f2_12, f2_13, f2_14, f2_15, f2_16, f2_17, f2_18, f2_19, f2_20, f2_21, f2_22, f2_23, f2_24, c27, c27p]; done) | (simp [h3, f1_0, c8, c8p, g4_6, g4_6p, c24, c24p, h4, f2_0, f2_3, f2_5, f2_6, f2_7, f2_8, f2_11, f2_12, f2_13, f2_14, f2_15, f2_16, f2_17, f2_18, f2_19, f2_20, f2_21, f2_22, f2_23, f2_24, c27, c27p]; simp (disch := omega) only [wC, if_pos, if_neg]; simp [h3, f1_0, c8, c8p, g4_6, g4_6p, c24, c24p, h4, f2_0, f2_3, f2_5, f2_6, f2_7, f2_8, f2_11, f2_12, f2_13, f2_14, f2_15, f2_16, f2_17, f2_18, f2_19, f2_20, f2_21, f2_22, f2_23, f2_24, c27, c27p]; done)
                              · first | rfl | (simp [h3, f1_0, c8, c8p, g4_6, g4_6p, c24, c24p, h4, f2_0, f2_3, f2_5, f2_6, f2_7, f2_8, f2_11, f2_12, f2_13, f2_14, f2_15, f2_16, f2_17, f2_18, f2_19, f2_20, f2_21, f2_22, f2_23, f2_24, c27, c27p]; done) | omega | assumption | (simp [h3, f1_0, c8, c8p, g4_6, g4_6p, c24, c24p, h4, f2_0, f2_3, f2_5, f2_6, f2_7, f2_8, f2_11, f2_12, f2_13, f2_14, f2_15, f2_16, f2_17, f2_18, f2_19, f2_20, f2_21, f2_22, f2_23, f2_24, c27, c27p]; omega) | (simp only [putA_get]; simp (disch := omega) only [wC, if_pos, if_neg]; simp [h3, f1_0, c8, c8p, g4_6, g4_6p, c24, c24p, h4, f2_0, f2_3, f2_5, f2_6, f2_7, f2_8, f2_11, f2_12, f2_13, f2_14, f2_15, f2_16, f2_17, f2_18, f2_19, f2_20, f2_21, f2_22, f2_23, f2_24, c27, c27p]; done) | (simp [h3, f1_0, c8, c8p, g4_6, g4_6p, c24, c24p, h4, f2_0, f2_3, f2_5, f2_6, f2_7, f2_8, f2_11, f2_12, f2_13, f2_14, f2_15, f2_16, f2_17, f2_18, f2_19, f2_20, f2_21, f2_22, f2_23, f2_24, c27, c27p]; simp (disch := omega) only [wC, if_pos, if_neg]; simp [h3, f1_0, c8, c8p, g4_6, g4_6p, c24, c24p, h4, f2_0, f2_3, f2_5, f2_6, f2_7, f2_8, f2_11, f2_12, f2_13, f2_14, f2_15, f2_16, f2_17, f2_18, f2_19, f2_20, f2_21, f2_22, f2_23, f2_24, c27, c27p]; done)
    · try (exfalso; first | (revert c8; simp [h3, f1_0]; done) | (have gq := c8; simp [h3, f1_0] at gq; omega) | (have gq := c8; simp [h3, f1_0] at gq; done))
      all_goals
        have c8p := c8
        try simp [h3, f1_0] at c8p
        all_goals (first | (have gq := c8p; skip) | have c8p : True := True.intro)
        all_goals
          refine run_exit ?_
          refine hK3 _ _ ?_
          refine run_seq_k fun K29 hK29 => ?_
          refine run_region_k rfl fun J30 hJ30 => ?_
          repeat (first | simp [h3, f1_0, c8, c8p] | simp (disch := omega) only [wC, if_pos, if_neg])
          refine hJ30 _ _ ?_
          refine hK29 _ _ ?_
          refine run_ret ?_
          try simp only [Then, InBlock, NoGoto]
          refine answer_tmp rfl (.inr rfl) ?_
          have hn : Right l := by rw [List.take_of_length_le c8p] at hR; exact hR
          first | exact ⟨rfl, rfl⟩ | (simp [h3, f1_0, c8, c8p]; done) | (refine ⟨?_, ?_⟩ <;> first | rfl | (simp [h3, f1_0, c8, c8p]; done) | (simp [*]; done) | omega)

attribute [local simp] undefA List.getElem?_cons_zero List.getElem?_cons_succ in
theorem rsame_ok {σ : St} {l m : List Coin} {t1 t2 : Tail} (hl : l.length ≤ 1000000) (hm : m.length ≤ 1000000) : CallsA Try.prog 44 [.sl 5 (coinsC l) l.length t1, .sl 5 (coinsC m) m.length t2] σ (fun av σ' => av = .v (.bool (decide (l = m))) ∧ σ = σ') := by
  refine callsA_body Try.func44 rfl rfl rfl ?_
  refine run_seq_k fun K1 hK1 => ?_
  refine run_region_k rfl fun J2 hJ2 => ?_
  repeat (first | simp | simp (disch := omega) only [wC, if_pos, if_neg])
  refine hJ2 _ _ ?_
  refine hK1 _ _ ?_
  refine run_seq_k fun K3 hK3 => ?_
  refine run_seq_k fun K4 hK4 => ?_
  refine run_region_k rfl fun J5 hJ5 => ?_
  repeat (first | simp | simp (disch := omega) only [wC, if_pos, if_neg])
  refine hJ5 _ _ ?_
  refine hK4 _ _ ?_
  refine run_cond_split (by first | rfl | (simp [evalA]; done)) (fun c10 => ?_) (fun c10 => ?_)
  · try (exfalso; first | (revert c10; simp; done) | (have gq := c10; simp at gq; omega) | (have gq := c10; simp at gq; done))
    all_goals
      have c10p := c10
      try simp at c10p
      all_goals (first | (have gq := c10p; skip) | have c10p : True := True.intro)
      all_goals
        refine run_seq_k fun K6 hK6 => ?_
        refine run_region_k rfl fun J7 hJ7 => ?_
        repeat (first | simp [c10, c10p] | simp (disch := omega) only [wC, if_pos, if_neg])
        refine hJ7 _ _ ?_
        refine hK6 _ _ ?_
        refine run_ret ?_
        try simp only [Then, InBlock, NoGoto]
        refine answer_tmp rfl (.inr rfl) ?_
        have hn : ¬ l = m := by rintro rfl; omega
        first | exact ⟨rfl, rfl⟩ | (simp [c10, c10p]; done) | (refine ⟨?_, ?_⟩ <;> first | rfl | (simp [c10, c10p]; done) | (simp [*]; done) | omega)
  · try (exfalso; first | (revert c10; simp; done) | (have gq := c10; simp at gq; omega) | (have gq := c10; simp at gq; done))
    all_goals
      have c10p := c10
      try simp at c10p
      all_goals (first | (have gq := c10p; skip) | have c10p : True := True.intro)
      all_goals
        refine run_skip ?_
        refine hK3 _ _ ?_
        refine run_seq_k fun K8 hK8 => ?_
        refine run_seq_k fun K9 hK9 => ?_
        refine run_region_k rfl fun J10 hJ10 => ?_
        repeat (first | simp [c10, c10p] | simp (disch := omega) only [wC, if_pos, if_neg])
        refine hJ10 _ _ ?_
        refine hK9 _ _ ?_
        refine run_block_k ?_
        refine run_loopF (X := Nat) [0, 1] (fun i ρ σ1 => (i ≤ l.length) ∧ (l.take i = m.take i) ∧ (ρ 5 = .v (.int .i64 i)) ∧ (σ1 = σ)) (fun i => l.length - i) (0) ?st1 ?rd1
        case st1 =>
          refine ⟨?_, ?_, ?_, ?_⟩
          · first | rfl | (simp [c10, c10p]; done) | omega | assumption | (simp [c10, c10p]; omega) | (simp only [putA_get]; simp (disch := omega) only [wC, if_pos, if_neg]; simp [c10, c10p]; done) | (simp [c10, c10p]; simp (disch := omega) only [wC, if_pos, if_neg]; simp [c10, c10p]; done)
          · first | rfl | (simp [c10, c10p]; done) | omega | assumption | (simp [c10, c10p]; omega) | (simp only [putA_get]; simp (disch := omega) only [wC, if_pos, if_neg]; simp [c10, c10p]; done) | (simp [c10, c10p]; simp (disch := omega) only [wC, if_pos, if_neg]; simp [c10, c10p]; done)
          · first | rfl | (simp [c10, c10p]; done) | omega | assumption | (simp [c10, c10p]; omega) | (simp only [putA_get]; simp (disch := omega) only [wC, if_pos, if_neg]; simp [c10, c10p]; done) | (simp [c10, c10p]; simp (disch := omega) only [wC, if_pos, if_neg]; simp [c10, c10p]; done)
          · first | rfl | (simp [c10, c10p]; done) | omega | assumption | (simp [c10, c10p]; omega) | (simp only [putA_get]; simp (disch := omega) only [wC, if_pos, if_neg]; simp [c10, c10p]; done) | (simp [c10, c10p]; simp (disch := omega) only [wC, if_pos, if_neg]; simp [c10, c10p]; done)
        case rd1 =>
          rintro i ρ1 σ1 hF1 ⟨hi, hE, h5, hs⟩
          obtain rfl := hs.symm
          have f1_0 := hF1 0 (by decide)
          try simp [c10, c10p] at f1_0
          have f1_1 := hF1 1 (by decide)
          try simp [c10, c10p] at f1_1
          refine run_seq_k fun K11 hK11 => ?_
          refine run_seq_k fun K12 hK12 => ?_
          refine run_region_k rfl fun J13 hJ13 => ?_
          repeat (first | simp [c10, c10p, h5, f1_0, f1_1] | simp (disch := omega) only [wC, if_pos, if_neg])
          refine hJ13 _ _ ?_
          refine hK12 _ _ ?_
          refine run_cond_split (by first | rfl | (simp [c10, c10p, h5, f1_0, f1_1, evalA]; done)) (fun c14 => ?_) (fun c14 => ?_)
          · try (exfalso; first | (revert c14; simp [c10, c10p, h5, f1_0, f1_1]; done) | (have gq := c14; simp [c10, c10p, h5, f1_0, f1_1] at gq; omega) | (have gq := c14; simp [c10, c10p, h5, f1_0, f1_1] at gq; done))
            all_goals
              have c14p := c14
              try simp [c10, c10p, h5, f1_0, f1_1] at c14p
              all_goals (first | (have gq := c14p; skip) | have c14p : True := True.intro)
              all_goals
                refine run_skip ?_
                refine hK11 _ _ ?_
                refine run_seq_k fun K14 hK14 => ?_
                refine run_block_k ?_
                refine run_seq_k fun K15 hK15 => ?_
                refine run_draw (by kernel_rfl) fun J16 hJ16 => ?_
                refine runD_pure' 0 (by kernel_rfl) rfl rfl (by kernel_rfl) (by kernel_rfl) (by kernel_rfl) (by kernel_rfl) ?_
                repeat (first | simp [c10, c10p, h5, f1_0, f1_1, c14, c14p] | simp (disch := omega) only [wC, if_pos, if_neg])
                refine runD_pure' 1 (by kernel_rfl) rfl rfl (by kernel_rfl) (by kernel_rfl) (by kernel_rfl) (by kernel_rfl) ?_
                repeat (first | simp [c10, c10p, h5, f1_0, f1_1, c14, c14p] | simp (disch := omega) only [wC, if_pos, if_neg])
                refine runD_pure' 2 (by kernel_rfl) rfl rfl (by kernel_rfl) (by kernel_rfl) (by kernel_rfl) (by kernel_rfl) ?_
                repeat (first | simp [c10, c10p, h5, f1_0, f1_1, c14, c14p] | simp (disch := omega) only [wC, if_pos, if_neg])
                refine runD_pure' 3 (by kernel_rfl) rfl rfl (by kernel_rfl) (by kernel_rfl) (by kernel_rfl) (by kernel_rfl) ?_
                repeat (first | simp [c10, c10p, h5, f1_0, f1_1, c14, c14p] | simp (disch := omega) only [wC, if_pos, if_neg])
                refine runD_pure' 4 (by kernel_rfl) rfl rfl (by kernel_rfl) (by kernel_rfl) (by kernel_rfl) (by kernel_rfl) ?_
                repeat (first | simp [c10, c10p, h5, f1_0, f1_1, c14, c14p] | simp (disch := omega) only [wC, if_pos, if_neg])
                refine runD_pure' 5 (by kernel_rfl) rfl rfl (by kernel_rfl) (by kernel_rfl) (by kernel_rfl) (by kernel_rfl) ?_
                repeat (first | simp [c10, c10p, h5, f1_0, f1_1, c14, c14p] | simp (disch := omega) only [wC, if_pos, if_neg])
                refine runD_pure' 6 (by kernel_rfl) rfl rfl (by kernel_rfl) (by kernel_rfl) (by kernel_rfl) (by kernel_rfl) ?_
                repeat (first | simp [c10, c10p, h5, f1_0, f1_1, c14, c14p] | simp (disch := omega) only [wC, if_pos, if_neg])
                refine runD_pure' 7 (by kernel_rfl) rfl rfl (by kernel_rfl) (by kernel_rfl) (by kernel_rfl) (by kernel_rfl) ?_
                repeat (first | simp [c10, c10p, h5, f1_0, f1_1, c14, c14p] | simp (disch := omega) only [wC, if_pos, if_neg])
                refine runD_pure' 8 (by kernel_rfl) rfl rfl (by kernel_rfl) (by kernel_rfl) (by kernel_rfl) (by kernel_rfl) ?_
                repeat (first | simp [c10, c10p, h5, f1_0, f1_1, c14, c14p] | simp (disch := omega) only [wC, if_pos, if_neg])
                refine runD_done (by kernel_rfl) (by kernel_rfl) (by kernel_rfl) ?_
                refine hJ16 _ _ ?_
                refine hK15 _ _ ?_
                refine run_cond_split (by first | rfl | (simp [c10, c10p, h5, f1_0, f1_1, c14, c14p, evalA]; done)) (fun c25 => ?_) (fun c25 => ?_)
                · try (exfalso; first | (revert c25; simp [c10, c10p, h5, f1_0, f1_1, c14, c14p]; done) | (have gq := c25; simp [c10, c10p, h5, f1_0, f1_1, c14, c14p] at gq; omega) | (have gq := c25; simp [c10, c10p, h5, f1_0, f1_1, c14, c14p] at gq; done))
                  all_goals
                    have c25p := c25
                    try simp [c10, c10p, h5, f1_0, f1_1, c14, c14p] at c25p
                    all_goals (first | (have gq := c25p; skip) | have c25p : True := True.intro)
                    all_goals
                      refine run_seq_k fun K17 hK17 => ?_
                      refine run_region_k rfl fun J18 hJ18 => ?_
                      repeat (first | simp [c10, c10p, h5, f1_0, f1_1, c14, c14p, c25, c25p] | simp (disch := omega) only [wC, if_pos, if_neg])
                      refine hJ18 _ _ ?_
                      refine hK17 _ _ ?_
                      refine run_ret ?_
                      try simp only [Then, InBlock, NoGoto]
                      refine answer_tmp rfl (.inr rfl) ?_
                      have hn : ¬ l = m := by rintro rfl; simp at c25p
                      first | exact ⟨rfl, rfl⟩ | (simp [c10, c10p, h5, f1_0, f1_1, c14, c14p, c25, c25p]; done) | (refine ⟨?_, ?_⟩ <;> first | rfl | (simp [c10, c10p, h5, f1_0, f1_1, c14, c14p, c25, c25p]; done) | (simp [*]; done) | omega)
                · try (exfalso; first | (revert c25; simp [c10, c10p, h5, f1_0, f1_1, c14, c14p]; done) | (have gq := c25; simp [c10, c10p, h5, f1_0, f1_1, c14, c14p] at gq; omega) | (have gq := c25; simp [c10, c10p, h5, f1_0, f1_1, c14, c14p] at gq; done))
                  all_goals
                    have c25p := c25
                    try simp [c10, c10p, h5, f1_0, f1_1, c14, c14p] at c25p
                    all_goals (first | (have gq := c25p; skip) | have c25p : True := True.intro)
                    all_goals
                      refine run_skip ?_
                      refine hK14 _ _ ?_
                      refine run_region_k rfl fun J19 hJ19 => ?_
                      repeat (first | simp [c10, c10p, h5, f1_0, f1_1, c14, c14p, c25, c25p] | simp (disch := omega) only [wC, if_pos, if_neg])
                      refine hJ19 _ _ ?_
                      refine ⟨(i + 1), ⟨?_, ?_, ?_, ?_, ?_⟩, ?_⟩
                      · first | (simp [c10, c10p, h5, f1_0, f1_1, c14, c14p, c25, c25p]; done) | (intro r hr; revert hr; simp [c10, c10p, h5, f1_0, f1_1, c14, c14p, c25, c25p]; done) | (intro r hr; simp only [List.mem_cons, List.not_mem_nil, or_false] at hr; rcases hr with rfl | rfl <;> simp [c10, c10p, h5, f1_0, f1_1, c14, c14p, c25, c25p] <;> done)
                      · first | rfl | (simp [c10, c10p, h5, f1_0, f1_1, c14, c14p, c25, c25p]; done) | omega | assumption | (simp [c10, c10p, h5, f1_0, f1_1, c14, c14p, c25, c25p]; omega) | (simp only [putA_get]; simp (disch := omega) only [wC, if_pos, if_neg]; simp [c10, c10p, h5, f1_0, f1_1, c14, c14p, c25, c25p]; done) | (simp [c10, c10p, h5, f1_0, f1_1, c14, c14p, c25, c25p]; simp (disch := omega) only [wC, if_pos, if_neg]; simp [c10, c10p, h5, f1_0, f1_1, c14, c14p, c25, c25p]; done)
                      · rw [take_snoc (by omega : i < l.length), take_snoc (by omega : i < m.length), hE, c25p]
                      · first | rfl | (simp [c10, c10p, h5, f1_0, f1_1, c14, c14p, c25, c25p]; done) | omega | assumption | (simp [c10, c10p, h5, f1_0, f1_1, c14, c14p, c25, c25p]; omega) | (simp only [putA_get]; simp (disch := omega) only [wC, if_pos, if_neg]; simp [c10, c10p, h5, f1_0, f1_1, c14, c14p, c25, c25p]; done) | (simp [c10, c10p, h5, f1_0, f1_1, c14, c14p, c25, c25p]; simp (disch := omega) only [wC, if_pos, if_neg]; simp [c10, c10p, h5, f1_0, f1_1, c14, c14p, c25, c25p]; done)
                      · first | rfl | (simp [c10, c10p, h5, f1_0, f1_1, c14, c14p, c25, c25p]; done) | omega | assumption | (simp [c10, c10p, h5, f1_0, f1_1, c14, c14p, c25, c25p]; omega) | (simp only [putA_get]; simp (disch := omega) only [wC, if_pos, if_neg]; simp [c10, c10p, h5, f1_0, f1_1, c14, c14p, c25, c25p]; done) | (simp [c10, c10p, h5, f1_0, f1_1, c14, c14p, c25, c25p]; simp (disch := omega) only [wC, if_pos, if_neg]; simp [c10, c10p, h5, f1_0, f1_1, c14, c14p, c25, c25p]; done)
                      · first | rfl | (simp [c10, c10p, h5, f1_0, f1_1, c14, c14p, c25, c25p]; done) | omega | assumption | (simp [c10, c10p, h5, f1_0, f1_1, c14, c14p, c25, c25p]; omega) | (simp only [putA_get]; simp (disch := omega) only [wC, if_pos, if_neg]; simp [c10, c10p, h5, f1_0, f1_1, c14, c14p, c25, c25p]; done) | (simp [c10, c10p, h5, f1_0, f1_1, c14, c14p, c25, c25p]; simp (disch := omega) only [wC, if_pos, if_neg]; simp [c10, c10p, h5, f1_0, f1_1, c14, c14p, c25, c25p]; done)
          · try (exfalso; first | (revert c14; simp [c10, c10p, h5, f1_0, f1_1]; done) | (have gq := c14; simp [c10, c10p, h5, f1_0, f1_1] at gq; omega) | (have gq := c14; simp [c10, c10p, h5, f1_0, f1_1] at gq; done))
            all_goals
              have c14p := c14
              try simp [c10, c10p, h5, f1_0, f1_1] at c14p
              all_goals (first | (have gq := c14p; skip) | have c14p : True := True.intro)
              all_goals
                refine run_exit ?_
                refine hK8 _ _ ?_
                refine run_seq_k fun K20 hK20 => ?_
                refine run_region_k rfl fun J21 hJ21 => ?_
                repeat (first | simp [c10, c10p, h5, f1_0, f1_1, c14, c14p] | simp (disch := omega) only [wC, if_pos, if_neg])
                refine hJ21 _ _ ?_
                refine hK20 _ _ ?_
                refine run_ret ?_
                try simp only [Then, InBlock, NoGoto]
                refine answer_tmp rfl (.inr rfl) ?_
                have hn : l = m := by rw [← List.take_of_length_le (l := l) (i := i) (by omega), ← List.take_of_length_le (l := m) (i := i) (by omega), hE]
                first | exact ⟨rfl, rfl⟩ | (simp [c10, c10p, h5, f1_0, f1_1, c14, c14p]; done) | (refine ⟨?_, ?_⟩ <;> first | rfl | (simp [c10, c10p, h5, f1_0, f1_1, c14, c14p]; done) | (simp [*]; done) | omega)

end Go.Proofs.Ytkbhdlocdajhmaa
