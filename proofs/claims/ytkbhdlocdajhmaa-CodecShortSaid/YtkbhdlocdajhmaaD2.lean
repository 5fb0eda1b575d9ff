import Derived.Test.YtkbhdlocdajhmaaD1
import Derived.Test.YtkbhdlocdajhmaaC9
/-
  The document's reader: truths, long numbers.
-/
namespace Go.Proofs.Ytkbhdlocdajhmaa
set_option linter.unnecessarySimpa false
open Go Go.Vm
set_option linter.unusedSimpArgs false
set_option linter.unusedVariables false
set_option maxRecDepth 100000

attribute [local simp] evalL wantedA isCall opA evalA evalAll evalsA evalOpt ofValue ofCell plain binA_eql_pn binA_neq_pn binA_gtr binA_lss binA_geq binA_leq binA_add binA_sub binA_eql binA_neq binA_or binA_shl binA_shr binA_mul binA_quo binA_rem binA_agg_eql binA_agg_neq convA_int unA_not fieldAddrA loadA partA pickA_true pickA_false pickA_bb lenA builtinA storeA splice AV.cells AV.isCell sliceA boundA intA callOf indexAddrA newObjA buildA fillA zeroA ofCells buildSliceA indexA fieldA coinsC_at coinC inC

attribute [local simp] undefA List.getElem?_cons_zero List.getElem?_cons_succ in
theorem inFlag_ok {σ : St} {id k : Nat} {p : List UInt8} {tl : Tail} {s : Option (List UInt8)} (h : σ.objs[id]? = some (inC p tl k s.isNone)) (hp : p.length ≤ 1000000) (hk : At p k s) :
    CallsA Try.prog 40 [.ptr id 0] σ (fun av σ' => av = .v (.bool (be (takeB 1 s) == 1)) ∧ ∃ k', At p k' (flagS s) ∧ σ' = { σ with objs := σ.objs.set id (inC p tl k' (flagS s).isNone) }) := by
  have hs := set_self_of h
  refine callsA_body Try.func40 rfl rfl rfl ?_
  refine run_seq_k fun K1 hK1 => ?_
  refine run_region_k rfl fun J2 hJ2 => ?_
  repeat (first | simp [hs] | simp (disch := omega) only [wC, if_pos, if_neg])
  refine hJ2 _ _ ?_
  refine hK1 _ _ ?_
  refine run_seq_k fun K3 hK3 => ?_
  refine run_region_k rfl fun J4 hJ4 => ?_
  repeat (first | simp [hs] | simp (disch := omega) only [wC, if_pos, if_neg])
  refine runL_call' (b := true) (by first | rfl | (simp [hs, wantedA]; done)) rfl rfl (by first | rfl | (simp [hs, callOf]; done)) (by simp) (inByte_ok (by first | assumption | (simp [hs]; done) | (simp [hs]; rfl) | omega | (simp; omega)) (by first | assumption | (simp [hs]; done) | (simp [hs]; rfl) | omega | (simp; omega)) (by first | assumption | (simp [hs]; done) | (simp [hs]; rfl) | omega | (simp; omega))) ?_
  rintro _ _ ⟨rfl, k1, hk1, rfl⟩
  repeat (first | simp [hs] | simp (disch := omega) only [wC, if_pos, if_neg])
  refine hJ4 _ _ ?_
  refine hK3 _ _ ?_
  refine run_seq_k fun K5 hK5 => ?_
  refine run_region_k rfl fun J6 hJ6 => ?_
  repeat (first | simp [hs] | simp (disch := omega) only [wC, if_pos, if_neg])
  refine runL_splitB 11 (by first | rfl | (simp [hs]; done)) (fun g2_5 => ?_) (fun g2_5 => ?_)
  · try (exfalso; have gq := g2_5; simp [hs] at gq; first | done | omega)
    all_goals
     have g2_5p := g2_5
     try simp [hs] at g2_5p
     all_goals (first | (have gq := g2_5p; skip) | have g2_5p : True := True.intro)
     all_goals
        refine runL_no (by first | rfl | (simp [hs, g2_5, g2_5p, wantedA]; done)) rfl ?_
        repeat (first | simp [hs, g2_5, g2_5p] | simp (disch := omega) only [wC, if_pos, if_neg])
        refine runL_no (by first | rfl | (simp [hs, g2_5, g2_5p, wantedA]; done)) rfl ?_
        repeat (first | simp [hs, g2_5, g2_5p] | simp (disch := omega) only [wC, if_pos, if_neg])
        refine hJ6 _ _ ?_
        refine hK5 _ _ ?_
        refine run_seq_k fun K7 hK7 => ?_
        refine run_region_k rfl fun J8 hJ8 => ?_
        repeat (first | simp [hs, g2_5, g2_5p] | simp (disch := omega) only [wC, if_pos, if_neg])
        refine runL_splitB 22 (by first | rfl | (simp [hs, g2_5, g2_5p]; done)) (fun g3_5 => ?_) (fun g3_5 => ?_)
        · try (exfalso; have gq := g3_5; simp [hs, g2_5, g2_5p] at gq; first | done | omega)
          all_goals
           have g3_5p := g3_5
           try simp [hs, g2_5, g2_5p] at g3_5p
           all_goals (first | (have gq := g3_5p; skip) | have g3_5p : True := True.intro)
           all_goals
              refine runL_go (by first | rfl | (simp [hs, g2_5, g2_5p, g3_5, g3_5p, wantedA]; done)) rfl ?_
              repeat (first | simp [hs, g2_5, g2_5p, g3_5, g3_5p] | simp (disch := omega) only [wC, if_pos, if_neg])
              refine runL_go (by first | rfl | (simp [hs, g2_5, g2_5p, g3_5, g3_5p, wantedA]; done)) rfl ?_
              repeat (first | simp [hs, g2_5, g2_5p, g3_5, g3_5p] | simp (disch := omega) only [wC, if_pos, if_neg])
              refine hJ8 _ _ ?_
              refine hK7 _ _ ?_
              refine run_ret ?_
              try simp only [Then, InBlock, NoGoto]
              refine answer_tmp rfl (.inr rfl) ?_
              first | exact ⟨rfl, rfl⟩ | (simp [hs, g2_5, g2_5p, g3_5, g3_5p]; done) | (refine ⟨?_, ?_⟩ <;> first | rfl | (simp [hs, g2_5, g2_5p, g3_5, g3_5p]; done) | (simp [*]; done) | omega)
        · try (exfalso; have gq := g3_5; simp [hs, g2_5, g2_5p] at gq; first | done | omega)
          all_goals
           have g3_5p := g3_5
           try simp [hs, g2_5, g2_5p] at g3_5p
           all_goals (first | (have gq := g3_5p; skip) | have g3_5p : True := True.intro)
           all_goals
              refine runL_no (by first | rfl | (simp [hs, g2_5, g2_5p, g3_5, g3_5p, wantedA]; done)) rfl ?_
              repeat (first | simp [hs, g2_5, g2_5p, g3_5, g3_5p] | simp (disch := omega) only [wC, if_pos, if_neg])
              refine runL_no (by first | rfl | (simp [hs, g2_5, g2_5p, g3_5, g3_5p, wantedA]; done)) rfl ?_
              repeat (first | simp [hs, g2_5, g2_5p, g3_5, g3_5p] | simp (disch := omega) only [wC, if_pos, if_neg])
              refine hJ8 _ _ ?_
              refine hK7 _ _ ?_
              refine run_ret ?_
              try simp only [Then, InBlock, NoGoto]
              refine answer_tmp rfl (.inr rfl) ?_
              have hb0 := takeS_none_be g2_5p
              have hf : flagS s = none := (by simp [flagS, hb0, g2_5p])
              refine ⟨by simp [hb0], k1, ⟨hk1.1, .inl hf⟩, by simp [hf, g2_5p]⟩
  · try (exfalso; have gq := g2_5; simp [hs] at gq; first | done | omega)
    all_goals
     have g2_5p := g2_5
     try simp [hs] at g2_5p
     all_goals (first | (have gq := g2_5p; skip) | have g2_5p : True := True.intro)
     all_goals
        refine runL_go (by first | rfl | (simp [hs, g2_5, g2_5p, wantedA]; done)) rfl ?_
        repeat (first | simp [hs, g2_5, g2_5p] | simp (disch := omega) only [wC, if_pos, if_neg])
        refine runL_go (by first | rfl | (simp [hs, g2_5, g2_5p, wantedA]; done)) rfl ?_
        repeat (first | simp [hs, g2_5, g2_5p] | simp (disch := omega) only [wC, if_pos, if_neg])
        refine hJ6 _ _ ?_
        refine hK5 _ _ ?_
        refine run_seq_k fun K9 hK9 => ?_
        refine run_region_k rfl fun J10 hJ10 => ?_
        repeat (first | simp [hs, g2_5, g2_5p] | simp (disch := omega) only [wC, if_pos, if_neg])
        refine runL_splitB 22 (by first | rfl | (simp [hs, g2_5, g2_5p]; done)) (fun g3_5 => ?_) (fun g3_5 => ?_)
        · try (exfalso; have gq := g3_5; simp [hs, g2_5, g2_5p] at gq; first | done | omega)
          all_goals
           have g3_5p := g3_5
           try simp [hs, g2_5, g2_5p] at g3_5p
           all_goals (first | (have gq := g3_5p; skip) | have g3_5p : True := True.intro)
           all_goals
              refine runL_go (by first | rfl | (simp [hs, g2_5, g2_5p, g3_5, g3_5p, wantedA]; done)) rfl ?_
              repeat (first | simp [hs, g2_5, g2_5p, g3_5, g3_5p] | simp (disch := omega) only [wC, if_pos, if_neg])
              refine runL_go (by first | rfl | (simp [hs, g2_5, g2_5p, g3_5, g3_5p, wantedA]; done)) rfl ?_
              repeat (first | simp [hs, g2_5, g2_5p, g3_5, g3_5p] | simp (disch := omega) only [wC, if_pos, if_neg])
              refine hJ10 _ _ ?_
              refine hK9 _ _ ?_
              refine run_ret ?_
              try simp only [Then, InBlock, NoGoto]
              refine answer_tmp rfl (.inr rfl) ?_
              have hf : flagS s = takeS 1 s := if_neg (by omega)
              rw [hf]
              have hd : decide ((1 : Int) < (be (takeB 1 s) : Nat)) = false := (by simp; omega)
              refine ⟨?_, k1, hk1, by simp [hd, hs, g2_5, g2_5p, g3_5, g3_5p]⟩
              simp
              rw [Bool.eq_iff_iff]
              simp
              omega
        · try (exfalso; have gq := g3_5; simp [hs, g2_5, g2_5p] at gq; first | done | omega)
          all_goals
           have g3_5p := g3_5
           try simp [hs, g2_5, g2_5p] at g3_5p
           all_goals (first | (have gq := g3_5p; skip) | have g3_5p : True := True.intro)
           all_goals
              refine runL_no (by first | rfl | (simp [hs, g2_5, g2_5p, g3_5, g3_5p, wantedA]; done)) rfl ?_
              repeat (first | simp [hs, g2_5, g2_5p, g3_5, g3_5p] | simp (disch := omega) only [wC, if_pos, if_neg])
              refine runL_no (by first | rfl | (simp [hs, g2_5, g2_5p, g3_5, g3_5p, wantedA]; done)) rfl ?_
              repeat (first | simp [hs, g2_5, g2_5p, g3_5, g3_5p] | simp (disch := omega) only [wC, if_pos, if_neg])
              refine hJ10 _ _ ?_
              refine hK9 _ _ ?_
              refine run_ret ?_
              try simp only [Then, InBlock, NoGoto]
              refine answer_tmp rfl (.inr rfl) ?_
              have hf : flagS s = none := if_pos (by omega)
              refine ⟨?_, k1, ⟨hk1.1, .inl hf⟩, by simp [hf, hs, g2_5, g2_5p, g3_5, g3_5p]⟩
              simp
              omega

theorem takeB_succ {p : List UInt8} {k i : Nat} (h : k + i < p.length) : be (takeB (i + 1) (some (p.drop k))) = be (takeB i (some (p.drop k))) * 256 + p[k + i].toNat := by
  have h1 : i + 1 ≤ (p.drop k).length := by simp; omega
  have h2 : i ≤ (p.drop k).length := by omega
  simp only [takeB, h1, h2, if_true]
  have h4 : i < (p.drop k).length := by omega
  rw [take_snoc h4, be_snoc, List.getElem_drop]

theorem takeS_some {p : List UInt8} {k n : Nat} (h : k + n ≤ p.length) : takeS n (some (p.drop k)) = some (p.drop (k + n)) := by
  have h1 : n ≤ (p.drop k).length := by simp; omega
  show (if n ≤ (p.drop k).length then some ((p.drop k).drop n) else none) = _
  rw [if_pos h1, List.drop_drop]
theorem takeS_no {p : List UInt8} {k n : Nat} (hk : k ≤ p.length) (h : p.length < k + n) : takeS n (some (p.drop k)) = none := by
  show (if n ≤ (p.drop k).length then some ((p.drop k).drop n) else none) = _
  rw [if_neg (by simp; omega)]
theorem takeB_no {p : List UInt8} {k n : Nat} (hk : k ≤ p.length) (h : p.length < k + n) : takeB n (some (p.drop k)) = [] := by
  show (if n ≤ (p.drop k).length then (p.drop k).take n else []) = _
  rw [if_neg (by simp; omega)]

attribute [local simp] undefA List.getElem?_cons_zero List.getElem?_cons_succ in
theorem inLong_some {σ : St} {id k n : Nat} {p : List UInt8} {tl : Tail} (h : σ.objs[id]? = some (inC p tl k false)) (hp : p.length ≤ 1000000) (hk : k ≤ p.length) (hn : n ≤ 8) :
    CallsA Try.prog 41 [.ptr id 0, .v (.int .i64 n)] σ (fun av σ' => av = .v (.int .u64 (be (takeB n (some (p.drop k))) : Nat)) ∧ ∃ k', At p k' (takeS n (some (p.drop k))) ∧ σ' = { σ with objs := σ.objs.set id (inC p tl k' (takeS n (some (p.drop k))).isNone) }) := by
  have hs := set_self_of h
  have hs0 := St.set_same h
  refine callsA_body Try.func41 rfl rfl rfl ?_
  refine run_seq_k fun K1 hK1 => ?_
  refine run_region_k rfl fun J2 hJ2 => ?_
  repeat (first | simp [h, hs] | simp (disch := omega) only [wC, if_pos, if_neg])
  refine hJ2 _ _ ?_
  refine hK1 _ _ ?_
  refine run_seq_k fun K3 hK3 => ?_
  refine run_seq_k fun K4 hK4 => ?_
  refine run_draw (by kernel_rfl) fun J5 hJ5 => ?_
  refine rp 0 rfl rfl (by kernel_rfl) ?_
  repeat (first | simp [h, hs] | simp (disch := omega) only [wC, if_pos, if_neg])
  refine rp 1 rfl rfl (by kernel_rfl) ?_
  repeat (first | simp [h, hs] | simp (disch := omega) only [wC, if_pos, if_neg])
  refine rp 2 rfl rfl (by kernel_rfl) ?_
  repeat (first | simp [h, hs] | simp (disch := omega) only [wC, if_pos, if_neg])
  refine rp 3 rfl rfl (by kernel_rfl) ?_
  repeat (first | simp [h, hs] | simp (disch := omega) only [wC, if_pos, if_neg])
  refine rp 4 rfl rfl (by kernel_rfl) ?_
  repeat (first | simp [h, hs] | simp (disch := omega) only [wC, if_pos, if_neg])
  refine runD_splitB 11 (by first | rfl | (simp [h, hs]; done)) (fun g1_4 => ?_) (fun g1_4 => ?_)
  · try (exfalso; have gq := g1_4; simp [h, hs] at gq; first | done | omega)
    all_goals
     have g1_4p := g1_4
     try simp [h, hs] at g1_4p
     all_goals (first | (have gq := g1_4p; skip) | have g1_4p : True := True.intro)
     all_goals
        refine rp 5 rfl rfl (by kernel_rfl) ?_
        repeat (first | simp [h, hs, g1_4, g1_4p] | simp (disch := omega) only [wC, if_pos, if_neg])
        refine rp 6 rfl rfl (by kernel_rfl) ?_
        repeat (first | simp [h, hs, g1_4, g1_4p] | simp (disch := omega) only [wC, if_pos, if_neg])
        refine rp 7 rfl rfl (by kernel_rfl) ?_
        repeat (first | simp [h, hs, g1_4, g1_4p] | simp (disch := omega) only [wC, if_pos, if_neg])
        refine rp 8 rfl rfl (by kernel_rfl) ?_
        repeat (first | simp [h, hs, g1_4, g1_4p] | simp (disch := omega) only [wC, if_pos, if_neg])
        refine rp 9 rfl rfl (by kernel_rfl) ?_
        repeat (first | simp [h, hs, g1_4, g1_4p] | simp (disch := omega) only [wC, if_pos, if_neg])
        refine rp 10 rfl rfl (by kernel_rfl) ?_
        repeat (first | simp [h, hs, g1_4, g1_4p] | simp (disch := omega) only [wC, if_pos, if_neg])
        refine rp 11 rfl rfl (by kernel_rfl) ?_
        repeat (first | simp [h, hs, g1_4, g1_4p] | simp (disch := omega) only [wC, if_pos, if_neg])
        refine rp 12 rfl rfl (by kernel_rfl) ?_
        repeat (first | simp [h, hs, g1_4, g1_4p] | simp (disch := omega) only [wC, if_pos, if_neg])
        refine rp 13 rfl rfl (by kernel_rfl) ?_
        repeat (first | simp [h, hs, g1_4, g1_4p] | simp (disch := omega) only [wC, if_pos, if_neg])
        refine rp 14 rfl rfl (by kernel_rfl) ?_
        repeat (first | simp [h, hs, g1_4, g1_4p] | simp (disch := omega) only [wC, if_pos, if_neg])
        refine rp 15 rfl rfl (by kernel_rfl) ?_
        repeat (first | simp [h, hs, g1_4, g1_4p] | simp (disch := omega) only [wC, if_pos, if_neg])
        refine rp 16 rfl rfl (by kernel_rfl) ?_
        repeat (first | simp [h, hs, g1_4, g1_4p] | simp (disch := omega) only [wC, if_pos, if_neg])
        refine rp 17 rfl rfl (by kernel_rfl) ?_
        repeat (first | simp [h, hs, g1_4, g1_4p] | simp (disch := omega) only [wC, if_pos, if_neg])
        refine runD_done (by kernel_rfl) (by kernel_rfl) (by kernel_rfl) ?_
        refine hJ5 _ _ ?_
        refine hK4 _ _ ?_
        refine run_cond_true (by first | rfl | (simp [h, hs, g1_4, g1_4p, evalA]; done)) ?_
        refine run_seq_k fun K6 hK6 => ?_
        refine run_region_k rfl fun J7 hJ7 => ?_
        repeat (first | simp [h, hs, g1_4, g1_4p] | simp (disch := omega) only [wC, if_pos, if_neg])
        refine hJ7 _ _ ?_
        refine hK6 _ _ ?_
        refine run_seq_k fun K8 hK8 => ?_
        refine run_region_k rfl fun J9 hJ9 => ?_
        repeat (first | simp [h, hs, g1_4, g1_4p] | simp (disch := omega) only [wC, if_pos, if_neg])
        refine hJ9 _ _ ?_
        refine hK8 _ _ ?_
        refine run_ret ?_
        try simp only [Then, InBlock, NoGoto]
        refine answer_tmp rfl (.inr rfl) ?_
        first | exact ⟨rfl, rfl⟩ | (simp [h, hs, g1_4, g1_4p]; done) | (refine ⟨?_, ?_⟩ <;> first | rfl | (simp [h, hs, g1_4, g1_4p]; done) | (simp [*]; done) | omega)
  · try (exfalso; have gq := g1_4; simp [h, hs] at gq; first | done | omega)
    all_goals
     have g1_4p := g1_4
     try simp [h, hs] at g1_4p
     all_goals (first | (have gq := g1_4p; skip) | have g1_4p : True := True.intro)
     all_goals
        refine rp 5 rfl rfl (by kernel_rfl) ?_
        repeat (first | simp [h, hs, g1_4, g1_4p] | simp (disch := omega) only [wC, if_pos, if_neg])
        refine rp 6 rfl rfl (by kernel_rfl) ?_
        repeat (first | simp [h, hs, g1_4, g1_4p] | simp (disch := omega) only [wC, if_pos, if_neg])
        refine rp 7 rfl rfl (by kernel_rfl) ?_
        repeat (first | simp [h, hs, g1_4, g1_4p] | simp (disch := omega) only [wC, if_pos, if_neg])
        refine rp 8 rfl rfl (by kernel_rfl) ?_
        repeat (first | simp [h, hs, g1_4, g1_4p] | simp (disch := omega) only [wC, if_pos, if_neg])
        refine rp 9 rfl rfl (by kernel_rfl) ?_
        repeat (first | simp [h, hs, g1_4, g1_4p] | simp (disch := omega) only [wC, if_pos, if_neg])
        refine rp 10 rfl rfl (by kernel_rfl) ?_
        repeat (first | simp [h, hs, g1_4, g1_4p] | simp (disch := omega) only [wC, if_pos, if_neg])
        refine rp 11 rfl rfl (by kernel_rfl) ?_
        repeat (first | simp [h, hs, g1_4, g1_4p] | simp (disch := omega) only [wC, if_pos, if_neg])
        refine rp 12 rfl rfl (by kernel_rfl) ?_
        repeat (first | simp [h, hs, g1_4, g1_4p] | simp (disch := omega) only [wC, if_pos, if_neg])
        refine rp 13 rfl rfl (by kernel_rfl) ?_
        repeat (first | simp [h, hs, g1_4, g1_4p] | simp (disch := omega) only [wC, if_pos, if_neg])
        refine rp 14 rfl rfl (by kernel_rfl) ?_
        repeat (first | simp [h, hs, g1_4, g1_4p] | simp (disch := omega) only [wC, if_pos, if_neg])
        refine rp 15 rfl rfl (by kernel_rfl) ?_
        repeat (first | simp [h, hs, g1_4, g1_4p] | simp (disch := omega) only [wC, if_pos, if_neg])
        refine rp 16 rfl rfl (by kernel_rfl) ?_
        repeat (first | simp [h, hs, g1_4, g1_4p] | simp (disch := omega) only [wC, if_pos, if_neg])
        refine rp 17 rfl rfl (by kernel_rfl) ?_
        repeat (first | simp [h, hs, g1_4, g1_4p] | simp (disch := omega) only [wC, if_pos, if_neg])
        refine runD_done (by kernel_rfl) (by kernel_rfl) (by kernel_rfl) ?_
        refine hJ5 _ _ ?_
        refine hK4 _ _ ?_
        refine run_cond_split (by first | rfl | (simp [h, hs, g1_4, g1_4p, evalA]; done)) (fun c24 => ?_) (fun c24 => ?_)
        · try (exfalso; have gq := c24; simp [h, hs, g1_4, g1_4p] at gq; first | done | omega)
          all_goals
           have c24p := c24
           try simp [h, hs, g1_4, g1_4p] at c24p
           all_goals (first | (have gq := c24p; skip) | have c24p : True := True.intro)
           all_goals
            refine run_seq_k fun K10 hK10 => ?_
            refine run_region_k rfl fun J11 hJ11 => ?_
            repeat (first | simp [h, hs, g1_4, g1_4p, c24, c24p] | simp (disch := omega) only [wC, if_pos, if_neg])
            refine hJ11 _ _ ?_
            refine hK10 _ _ ?_
            refine run_seq_k fun K12 hK12 => ?_
            refine run_region_k rfl fun J13 hJ13 => ?_
            repeat (first | simp [h, hs, g1_4, g1_4p, c24, c24p] | simp (disch := omega) only [wC, if_pos, if_neg])
            refine hJ13 _ _ ?_
            refine hK12 _ _ ?_
            refine run_ret ?_
            try simp only [Then, InBlock, NoGoto]
            refine answer_tmp rfl (.inr rfl) ?_
            have h1 := takeS_no hk (show p.length < k + n by omega)
            have h2 := takeB_no hk (show p.length < k + n by omega)
            rw [h1, h2]
            exact ⟨by simp, k, ⟨hk, .inl rfl⟩, by simp [h, hs, g1_4, g1_4p, c24, c24p]⟩
        · try (exfalso; have gq := c24; simp [h, hs, g1_4, g1_4p] at gq; first | done | omega)
          all_goals
           have c24p := c24
           try simp [h, hs, g1_4, g1_4p] at c24p
           all_goals (first | (have gq := c24p; skip) | have c24p : True := True.intro)
           all_goals
            refine run_skip ?_
            refine hK3 _ _ ?_
            refine run_seq_k fun K14 hK14 => ?_
            refine run_region_k rfl fun J15 hJ15 => ?_
            repeat (first | simp [h, hs, g1_4, g1_4p, c24, c24p] | simp (disch := omega) only [wC, if_pos, if_neg])
            refine hJ15 _ _ ?_
            refine hK14 _ _ ?_
            refine run_seq_k fun K16 hK16 => ?_
            refine run_seq_k fun K17 hK17 => ?_
            refine run_region_k rfl fun J18 hJ18 => ?_
            repeat (first | simp [h, hs, g1_4, g1_4p, c24, c24p] | simp (disch := omega) only [wC, if_pos, if_neg])
            refine hJ18 _ _ ?_
            refine hK17 _ _ ?_
            refine run_block_k ?_
            refine run_loopF (X := Nat) [0, 1, 4] (fun i ρ σ1 => (i ≤ n) ∧ (ρ 5 = .v (.int .u64 (be (takeB i (some (p.drop k))) : Nat))) ∧ (ρ 6 = .v (.int .i64 i)) ∧ (σ1 = { σ with objs := σ.objs.set id (inC p tl (k + i) false) })) (fun i => n - i) (0) ?st1 ?rd1
            case st1 =>
              refine ⟨?_, ?_, ?_, ?_⟩
              · first | rfl | omega | assumption | ((repeat (first | simp [h, hs, g1_4, g1_4p, c24, c24p] | simp (disch := omega) only [wC, if_pos, if_neg])); first | done | omega) | (simp only [putA_get]; (repeat (first | simp (disch := omega) only [wC, if_pos, if_neg] | simp [h, hs, g1_4, g1_4p, c24, c24p])); done)
              · simp [takeB]
              · first | rfl | omega | assumption | ((repeat (first | simp [h, hs, g1_4, g1_4p, c24, c24p] | simp (disch := omega) only [wC, if_pos, if_neg])); first | done | omega) | (simp only [putA_get]; (repeat (first | simp (disch := omega) only [wC, if_pos, if_neg] | simp [h, hs, g1_4, g1_4p, c24, c24p])); done)
              · exact hs0.symm
            case rd1 =>
              rintro i ρ1 σ1 hF1 ⟨hi, h5, h6, hσ⟩
              obtain rfl := hσ.symm
              have f1_0 := hF1 0 (by decide)
              try simp [h, hs, g1_4, g1_4p, c24, c24p] at f1_0
              have f1_1 := hF1 1 (by decide)
              try simp [h, hs, g1_4, g1_4p, c24, c24p] at f1_1
              have f1_4 := hF1 4 (by decide)
              try simp [h, hs, g1_4, g1_4p, c24, c24p] at f1_4
              refine run_seq_k fun K19 hK19 => ?_
              refine run_seq_k fun K20 hK20 => ?_
              refine run_region_k rfl fun J21 hJ21 => ?_
              repeat (first | simp [h, hs, g1_4, g1_4p, c24, c24p, h5, h6, f1_0, f1_1, f1_4] | simp (disch := omega) only [wC, if_pos, if_neg])
              refine hJ21 _ _ ?_
              refine hK20 _ _ ?_
              refine run_cond_split (by first | rfl | (simp [h, hs, g1_4, g1_4p, c24, c24p, h5, h6, f1_0, f1_1, f1_4, evalA]; done)) (fun c30 => ?_) (fun c30 => ?_)
              · try (exfalso; have gq := c30; simp [h, hs, g1_4, g1_4p, c24, c24p, h5, h6, f1_0, f1_1, f1_4] at gq; first | done | omega)
                all_goals
                 have c30p := c30
                 try simp [h, hs, g1_4, g1_4p, c24, c24p, h5, h6, f1_0, f1_1, f1_4] at c30p
                 all_goals (first | (have gq := c30p; skip) | have c30p : True := True.intro)
                 all_goals
                  refine run_skip ?_
                  refine hK19 _ _ ?_
                  refine run_seq_k fun K22 hK22 => ?_
                  refine run_block_k ?_
                  refine run_region_k rfl fun J23 hJ23 => ?_
                  repeat (first | simp [h, hs, g1_4, g1_4p, c24, c24p, h5, h6, f1_0, f1_1, f1_4, c30, c30p] | simp (disch := omega) only [wC, if_pos, if_neg])
                  refine runL_call' (b := true) (by first | rfl | (simp [h, hs, g1_4, g1_4p, c24, c24p, h5, h6, f1_0, f1_1, f1_4, c30, c30p, wantedA]; done)) rfl rfl (by first | rfl | (simp [h, hs, g1_4, g1_4p, c24, c24p, h5, h6, f1_0, f1_1, f1_4, c30, c30p, callOf]; done)) (by simp) (inByte_yes (k := k + i) (p := p) (tl := tl) (by first | assumption | (simp [h, hs, g1_4, g1_4p, c24, c24p, h5, h6, f1_0, f1_1, f1_4, c30, c30p]; done) | (simp [h, hs, g1_4, g1_4p, c24, c24p, h5, h6, f1_0, f1_1, f1_4, c30, c30p]; rfl) | omega | (simp; omega)) hp (by omega)) ?_
                  rintro _ _ ⟨rfl, rfl⟩
                  repeat (first | simp [h, hs, g1_4, g1_4p, c24, c24p, h5, h6, f1_0, f1_1, f1_4, c30, c30p] | simp (disch := omega) only [wC, if_pos, if_neg])
                  refine hJ23 _ _ ?_
                  refine hK22 _ _ ?_
                  refine run_region_k rfl fun J24 hJ24 => ?_
                  repeat (first | simp [h, hs, g1_4, g1_4p, c24, c24p, h5, h6, f1_0, f1_1, f1_4, c30, c30p] | simp (disch := omega) only [wC, if_pos, if_neg])
                  refine hJ24 _ _ ?_
                  have hlt : k + i < p.length := by omega
                  have hb := be_lt7 (takeB i (some (p.drop k))) (by have := takeB_len i (some (p.drop k)); omega)
                  have he := takeB_succ hlt
                  have hbb := p[k + i].toNat_lt
                  generalize be (takeB i (some (p.drop k))) = y at *
                  refine ⟨(i + 1), ⟨?_, ?_, ?_, ?_, ?_⟩, ?_⟩
                  · (intro r hr; simp only [List.mem_cons, List.not_mem_nil, or_false] at hr; rcases hr with rfl | rfl | rfl <;> first | rfl | (simp [h, hs, g1_4, g1_4p, c24, c24p, h5, h6, f1_0, f1_1, f1_4, c30, c30p]; done))
                  · first | rfl | omega | assumption | ((repeat (first | simp [h, hs, g1_4, g1_4p, c24, c24p, h5, h6, f1_0, f1_1, f1_4, c30, c30p] | simp (disch := omega) only [wC, if_pos, if_neg])); first | done | omega) | (simp only [putA_get]; (repeat (first | simp (disch := omega) only [wC, if_pos, if_neg] | simp [h, hs, g1_4, g1_4p, c24, c24p, h5, h6, f1_0, f1_1, f1_4, c30, c30p])); done)
                  · simp [he]
                    simp (disch := omega) only [wC, if_pos, if_neg]
                    omega
                  · first | rfl | omega | assumption | ((repeat (first | simp [h, hs, g1_4, g1_4p, c24, c24p, h5, h6, f1_0, f1_1, f1_4, c30, c30p] | simp (disch := omega) only [wC, if_pos, if_neg])); first | done | omega) | (simp only [putA_get]; (repeat (first | simp (disch := omega) only [wC, if_pos, if_neg] | simp [h, hs, g1_4, g1_4p, c24, c24p, h5, h6, f1_0, f1_1, f1_4, c30, c30p])); done)
                  · simp [Int.add_assoc]
                  · first | rfl | omega | assumption | ((repeat (first | simp [h, hs, g1_4, g1_4p, c24, c24p, h5, h6, f1_0, f1_1, f1_4, c30, c30p] | simp (disch := omega) only [wC, if_pos, if_neg])); first | done | omega) | (simp only [putA_get]; (repeat (first | simp (disch := omega) only [wC, if_pos, if_neg] | simp [h, hs, g1_4, g1_4p, c24, c24p, h5, h6, f1_0, f1_1, f1_4, c30, c30p])); done)
              · try (exfalso; have gq := c30; simp [h, hs, g1_4, g1_4p, c24, c24p, h5, h6, f1_0, f1_1, f1_4] at gq; first | done | omega)
                all_goals
                 have c30p := c30
                 try simp [h, hs, g1_4, g1_4p, c24, c24p, h5, h6, f1_0, f1_1, f1_4] at c30p
                 all_goals (first | (have gq := c30p; skip) | have c30p : True := True.intro)
                 all_goals
                  refine run_exit ?_
                  refine hK16 _ _ ?_
                  refine run_seq_k fun K25 hK25 => ?_
                  refine run_region_k rfl fun J26 hJ26 => ?_
                  repeat (first | simp [h, hs, g1_4, g1_4p, c24, c24p, h5, h6, f1_0, f1_1, f1_4, c30, c30p] | simp (disch := omega) only [wC, if_pos, if_neg])
                  refine hJ26 _ _ ?_
                  refine hK25 _ _ ?_
                  refine run_ret ?_
                  try simp only [Then, InBlock, NoGoto]
                  refine answer_tmp rfl (.inr rfl) ?_
                  have h1 := takeS_some (show k + n ≤ p.length by omega)
                  rw [h1]
                  obtain rfl : i = n := by omega
                  exact ⟨by simp, k + i, ⟨by omega, .inr rfl⟩, by simp [h, hs, g1_4, g1_4p, c24, c24p, h5, h6, f1_0, f1_1, f1_4, c30, c30p]⟩

theorem inLong_ok {σ : St} {id k n : Nat} {p : List UInt8} {tl : Tail} {s : Option (List UInt8)} (h : σ.objs[id]? = some (inC p tl k s.isNone)) (hp : p.length ≤ 1000000) (hk : At p k s) (hn : n ≤ 8) :
    CallsA Try.prog 41 [.ptr id 0, .v (.int .i64 n)] σ (fun av σ' => av = .v (.int .u64 (be (takeB n s) : Nat)) ∧ ∃ k', At p k' (takeS n s) ∧ σ' = { σ with objs := σ.objs.set id (inC p tl k' (takeS n s).isNone) }) := by
  obtain ⟨hk, rfl | rfl⟩ := hk
  · refine callsA_mono (inLong_bad (x := .sl 1 (bytesA p) p.length tl) (y := .v (.int .i64 k)) h) (fun av σ' ⟨h1, h2⟩ => ⟨h1, k, ⟨hk, .inl rfl⟩, ?_⟩)
    rw [← h2]
    exact (St.set_same h).symm
  · exact inLong_some h hp hk hn

end Go.Proofs.Ytkbhdlocdajhmaa
