import Derived.Test.YtkbhdlocdajhmaaD4
/-
  Lists of coins: what both readers make of a list's bytes.
-/
namespace Go.Proofs.Ytkbhdlocdajhmaa
set_option linter.unnecessarySimpa false
open Go Go.Vm
set_option linter.unusedSimpArgs false
set_option linter.unusedVariables false
set_option maxRecDepth 100000

attribute [local simp] evalL wantedA isCall opA evalA evalAll evalsA evalOpt ofValue ofCell plain binA_eql_pn binA_neq_pn binA_gtr binA_lss binA_geq binA_leq binA_add binA_sub binA_eql binA_neq binA_or binA_shl binA_shr binA_mul binA_quo binA_rem binA_agg_eql binA_agg_neq convA_int unA_not fieldAddrA loadA partA pickA_true pickA_false pickA_bb lenA builtinA storeA splice AV.cells AV.isCell sliceA boundA intA callOf indexAddrA newObjA buildA fillA zeroA ofCells indexA fieldA coinsC_at

def byteS (s : Option (List UInt8)) : UInt8 := (takeB 1 s).headD 0
theorem be_byteS (s : Option (List UInt8)) : be (takeB 1 s) = (byteS s).toNat := by
  have h := takeB_len 1 s
  unfold byteS
  match takeB 1 s, h with
  | [], _ => rfl
  | [b], _ => simp [be]
  | _ :: _ :: _, h => simp at h

theorem numOf_lt (p : List UInt8) : numOf p < 2 ^ 256 := by
  unfold numOf
  split
  · rename_i h
    simp only [numOk, Bool.and_eq_true, decide_eq_true_eq] at h
    exact Nat.lt_of_lt_of_le (be_lt p) (Nat.le_trans (Nat.pow_le_pow_right (by omega) h.1) (by decide))
  · decide

def numN (s : Option (List UInt8)) : Num := ⟨numOf (numB s), numOf_lt _⟩
def coinS (s : Option (List UInt8)) : Coin := ⟨byteS s, numN (takeS 1 s)⟩

/-- What is read of m coins more, where l have been read. -/
def coinsGo : Nat → Option (List UInt8) → List Coin → List Coin × Option (List UInt8)
  | 0, s, l => (l, s)
  | _ + 1, none, l => (l, none)
  | m + 1, some p, l => coinsGo m (numS (takeS 1 (some p))) (l ++ [coinS (some p)])

theorem coinsGo_more {m : Nat} {s : Option (List UInt8)} {l : List Coin} (hm : 0 < m) (hs : ¬ s = none) : coinsGo m s l = coinsGo (m - 1) (numS (takeS 1 s)) (l ++ [coinS s]) := by
  match m, s, hm, hs with
  | m + 1, some p, _, _ => rfl
theorem coinsGo_stop {m : Nat} {s : Option (List UInt8)} {l : List Coin} (h : m = 0 ∨ s = none) : coinsGo m s l = (l, s) := by
  match m, s, h with
  | 0, _, _ => rfl
  | m + 1, none, _ => rfl

def coinsR (s : Option (List UInt8)) : List Coin × Option (List UInt8) := coinsGo (be (takeB 1 s)) (takeS 1 s) []
def coinsS (s : Option (List UInt8)) : Option (List UInt8) := if Right (coinsR s).1 then (coinsR s).2 else none
def coinsL (s : Option (List UInt8)) : List Coin := if coinsS s = none then [] else (coinsR s).1

/-- A list that is being made: the nil list, or one that may be appended to. -/
def slA (k : Nat) (l : List Coin) : AV := if l = [] then .sl 0 [] 0 .full else .sl 5 (coinsC l) l.length (.own k)
def tkA (l : List Coin) : List Nat := if l = [] then [] else [l.length]

theorem wk_slA (k : Nat) (l : List Coin) : Wk (slA k l) (.sl 5 (coinsC l) l.length .shut) := by
  unfold slA
  split
  · rename_i h; subst h; exact Wk.nil _ _ _
  · exact Wk.shut _ _ _ _

@[simp] theorem slA_nil (k : Nat) : slA k [] = .sl 0 [] 0 .full := rfl
@[simp] theorem tkA_nil : tkA [] = [] := rfl

theorem right_slA {σ : St} {k : Nat} {l : List Coin} (hl : l.length ≤ 1000000) : CallsA Try.prog 38 [slA k l] σ (fun av σ' => av = .v (.bool (decide (Right l))) ∧ σ = σ') :=
  callsA_wk (.cons (wk_slA k l) .nil) (right_ok hl)
theorem rright_slA {σ : St} {k : Nat} {l : List Coin} (hl : l.length ≤ 1000000) : CallsA Try.prog 56 [slA k l] σ (fun av σ' => av = .v (.bool (decide (Right l))) ∧ σ = σ') :=
  callsA_wk (.cons (wk_slA k l) .nil) (rright_ok hl)

theorem right_nilA {σ : St} : CallsA Try.prog 38 [.sl 0 [] 0 .full] σ (fun av σ' => av = .v (.bool true) ∧ σ = σ') := by
  have := right_slA (σ := σ) (k := 0) (l := []) (by simp)
  have e : decide (Right []) = true := by decide
  rw [e] at this
  exact this
theorem rright_nilA {σ : St} : CallsA Try.prog 56 [.sl 0 [] 0 .full] σ (fun av σ' => av = .v (.bool true) ∧ σ = σ') := by
  have := rright_slA (σ := σ) (k := 0) (l := []) (by simp)
  have e : decide (Right []) = true := by decide
  rw [e] at this
  exact this

theorem coinS_cells (s : Option (List UInt8)) : AV.v (.int .u8 (be (takeB 1 s) : Nat)) :: numA (numOf (numB (takeS 1 s))) = coinC (coinS s) := by
  rw [be_byteS]; rfl
theorem build_coin (c : Coin) : buildSliceA Try.prog 35 1 [(0, .agg (coinC c))] = some (.sl 5 (coinC c) 1 .full) := by kernel_rfl
class Small (l : List Coin) : Prop where
  h : l.length ≤ 1000

theorem append_slA {l : List Coin} [hsm : Small l] {c : Coin} {objs : List (List AV)} {tk : List Nat} {gl : Nat → Option (List AV)} {rows : List RowSt} :
    appendA Try.prog 35 (slA tk.length l) (.sl 5 (coinC c) 1 .full) ⟨objs, tk ++ tkA l, gl, rows⟩ = some (slA tk.length (l ++ [c]), ⟨objs, tk ++ tkA (l ++ [c]), gl, rows⟩) := by
  have hl := hsm.h
  by_cases h : l = []
  · subst h
    simp [slA, tkA, appendA, readA, roomA, maxLen, coinsC]
    rfl
  · have h1 : (l.length + 1) * 40 ≤ 140737488355328 := by omega
    have h2 : l.length + 1 ≤ 9223372036854775807 := by omega
    simp [slA, tkA, h, appendA, readA, roomA, maxLen, h1, h2, coinsC_snoc]
    rfl
theorem append_nilA {c : Coin} {σ : St} : appendA Try.prog 35 (.sl 0 [] 0 .full) (.sl 5 (coinC c) 1 .full) σ = some (slA σ.toks.length [c], { σ with toks := σ.toks ++ tkA [c] }) := by
  have : Small [] := ⟨by simp⟩
  have := append_slA (l := []) (c := c) (objs := σ.objs) (tk := σ.toks) (gl := σ.gl) (rows := σ.rows)
  simpa using this

structure CSt where
  m : Nat
  s : Option (List UInt8)
  l : List Coin

theorem coinsR_none {s : Option (List UInt8)} {L : List Coin} {S : Option (List UInt8)} (h : coinsR s = (L, S)) (h2 : ¬ Right L ∨ S = none) : coinsL s = [] ∧ coinsS s = none := by
  have e : coinsS s = none := by
    unfold coinsS
    rw [h]
    rcases h2 with h2 | h2
    · rw [if_neg h2]
    · simp [h2]
  exact ⟨by simp [coinsL, e], e⟩
theorem coinsR_some {s : Option (List UInt8)} {L : List Coin} {S : Option (List UInt8)} (h : coinsR s = (L, S)) (h1 : Right L) (h2 : ¬ S = none) : coinsL s = L ∧ coinsS s = S := by
  have e : coinsS s = S := by
    unfold coinsS
    rw [h, if_pos h1]
  exact ⟨by rw [coinsL, e, if_neg h2, h], e⟩

attribute [local simp] undefA List.getElem?_cons_zero List.getElem?_cons_succ in
theorem rcoins_raw {σ : St} {id : Nat} {s : Option (List UInt8)} (h : σ.objs[id]? = some (rd s)) :
    CallsA Try.prog 18 [.ptr id 0] σ (fun av σ' => av = .sl 5 (coinsC (coinsL s)) (coinsL s).length .shut ∧ σ' = { σ with objs := σ.objs.set id (rd (coinsS s)) }) := by
  refine callsA_gc_obj (Q := fun av σ' => Wk av (.sl 5 (coinsC (coinsL s)) (coinsL s).length .shut) ∧ ∃ l m r, σ' = { σ with objs := σ.objs.set id (rd (coinsS s)) ++ l, toks := σ.toks ++ m, rows := σ.rows ++ r }) ?_ (fun av σ' h => h) (by simp [AV.under]) (rd_under _ _)
  have hs := set_self_of h
  have hm := be_lt1 (takeB_len 1 s)
  refine callsA_body Try.func18 rfl rfl rfl ?_
  refine run_seq_k fun K1 hK1 => ?_
  refine run_region_k rfl fun J2 hJ2 => ?_
  repeat (first | simp [h, hs, coinS_cells, build_coin, append_nilA, append_slA] | simp (disch := omega) only [wC, if_pos, if_neg])
  refine hJ2 _ _ ?_
  refine hK1 _ _ ?_
  refine run_scope_jumpsF 0 (X := CSt) [0] (fun q ρ σ1 => (q.m + q.l.length ≤ 255) ∧ (coinsGo q.m q.s q.l = coinsR s) ∧ (ρ 4 = .v (.int .u8 q.m)) ∧ (ρ 3 = slA σ.toks.length q.l) ∧ (σ1 = { σ with objs := σ.objs.set id (rd q.s), toks := σ.toks ++ tkA q.l })) (fun q => q.m) rfl ?first ?pass
  case first =>
    refine run_seq_k fun K3 hK3 => ?_
    refine run_region_k rfl fun J4 hJ4 => ?_
    repeat (first | simp [h, hs, coinS_cells, build_coin, append_nilA, append_slA] | simp (disch := omega) only [wC, if_pos, if_neg])
    refine hJ4 _ _ ?_
    refine hK3 _ _ ?_
    refine run_seq_k fun K5 hK5 => ?_
    refine run_region_k rfl fun J6 hJ6 => ?_
    repeat (first | simp [h, hs, coinS_cells, build_coin, append_nilA, append_slA] | simp (disch := omega) only [wC, if_pos, if_neg])
    refine runL_call' (b := true) (by first | rfl | (simp [h, hs, coinS_cells, build_coin, append_nilA, append_slA, wantedA]; done)) rfl rfl (by first | rfl | (simp [h, hs, coinS_cells, build_coin, append_nilA, append_slA, callOf]; done)) (by simp) (byte_ok (by first | exact h | exact hs _)) ?_
    rintro _ _ ⟨rfl, rfl⟩
    repeat (first | simp [h, hs, coinS_cells, build_coin, append_nilA, append_slA] | simp (disch := omega) only [wC, if_pos, if_neg])
    refine hJ6 _ _ ?_
    refine hK5 _ _ ?_
    refine run_seq_k fun K7 hK7 => ?_
    refine run_label ?_
    refine hK7 _ _ ?_
    refine run_seq_k fun K8 hK8 => ?_
    refine run_seq_k fun K9 hK9 => ?_
    refine run_region_k rfl fun J10 hJ10 => ?_
    repeat (first | simp [h, hs, coinS_cells, build_coin, append_nilA, append_slA] | simp (disch := omega) only [wC, if_pos, if_neg])
    refine runL_splitB 10 (by first | rfl | (simp [h, hs, coinS_cells, build_coin, append_nilA, append_slA]; done)) (fun g3_2 => ?_) (fun g3_2 => ?_)
    · try (exfalso; have gq := g3_2; simp [h, hs, coinS_cells, build_coin, append_nilA, append_slA] at gq; first | done | omega)
      all_goals
       have g3_2p := g3_2
       try simp [h, hs, coinS_cells, build_coin, append_nilA, append_slA] at g3_2p
       all_goals (first | (have gq := g3_2p; skip) | have g3_2p : True := True.intro)
       all_goals
          refine runL_go (by first | rfl | (simp [h, hs, coinS_cells, build_coin, append_nilA, append_slA, g3_2, g3_2p, wantedA]; done)) rfl ?_
          repeat (first | simp [h, hs, coinS_cells, build_coin, append_nilA, append_slA, g3_2, g3_2p] | simp (disch := omega) only [wC, if_pos, if_neg])
          refine runL_call' (b := true) (by first | rfl | (simp [h, hs, coinS_cells, build_coin, append_nilA, append_slA, g3_2, g3_2p, wantedA]; done)) rfl rfl (by first | rfl | (simp [h, hs, coinS_cells, build_coin, append_nilA, append_slA, g3_2, g3_2p, callOf]; done)) (by simp) (bad_ok (hs _)) ?_
          rintro _ _ ⟨rfl, rfl⟩
          repeat (first | simp [h, hs, coinS_cells, build_coin, append_nilA, append_slA, g3_2, g3_2p] | simp (disch := omega) only [wC, if_pos, if_neg])
          refine runL_go (by first | rfl | (simp [h, hs, coinS_cells, build_coin, append_nilA, append_slA, g3_2, g3_2p, wantedA]; done)) rfl ?_
          repeat (first | simp [h, hs, coinS_cells, build_coin, append_nilA, append_slA, g3_2, g3_2p] | simp (disch := omega) only [wC, if_pos, if_neg])
          refine hJ10 _ _ ?_
          refine hK9 _ _ ?_
          refine run_cond_split (by first | rfl | (simp [h, hs, coinS_cells, build_coin, append_nilA, append_slA, g3_2, g3_2p, evalA]; done)) (fun c14 => ?_) (fun c14 => ?_)
          · try (exfalso; have gq := c14; simp [h, hs, coinS_cells, build_coin, append_nilA, append_slA, g3_2, g3_2p] at gq; first | done | omega)
            all_goals
             have c14p := c14
             try simp [h, hs, coinS_cells, build_coin, append_nilA, append_slA, g3_2, g3_2p] at c14p
             all_goals (first | (have gq := c14p; skip) | have c14p : True := True.intro)
             all_goals
              refine run_seq_k fun K11 hK11 => ?_
              refine run_region_k rfl fun J12 hJ12 => ?_
              repeat (first | simp [h, hs, coinS_cells, build_coin, append_nilA, append_slA, g3_2, g3_2p, c14, c14p] | simp (disch := omega) only [wC, if_pos, if_neg])
              refine runL_call' (b := true) (by first | rfl | (simp [h, hs, coinS_cells, build_coin, append_nilA, append_slA, g3_2, g3_2p, c14, c14p, wantedA]; done)) rfl rfl (by first | rfl | (simp [h, hs, coinS_cells, build_coin, append_nilA, append_slA, g3_2, g3_2p, c14, c14p, callOf]; done)) (by simp) (byte_ok (by first | exact h | exact hs _)) ?_
              rintro _ _ ⟨rfl, rfl⟩
              repeat (first | simp [h, hs, coinS_cells, build_coin, append_nilA, append_slA, g3_2, g3_2p, c14, c14p] | simp (disch := omega) only [wC, if_pos, if_neg])
              refine hJ12 _ _ ?_
              refine hK11 _ _ ?_
              refine run_seq_k fun K13 hK13 => ?_
              try have : Small q.l := ⟨by omega⟩
              refine run_region_k rfl fun J14 hJ14 => ?_
              repeat (first | simp [h, hs, coinS_cells, build_coin, append_nilA, append_slA, g3_2, g3_2p, c14, c14p] | simp (disch := omega) only [wC, if_pos, if_neg])
              refine runL_call' (b := true) (by first | rfl | (simp [h, hs, coinS_cells, build_coin, append_nilA, append_slA, g3_2, g3_2p, c14, c14p, wantedA]; done)) rfl rfl (by first | rfl | (simp [h, hs, coinS_cells, build_coin, append_nilA, append_slA, g3_2, g3_2p, c14, c14p, callOf]; done)) (by simp) (num_ok (hs _)) ?_
              rintro _ _ ⟨rfl, rfl⟩
              repeat (first | simp [h, hs, coinS_cells, build_coin, append_nilA, append_slA, g3_2, g3_2p, c14, c14p] | simp (disch := omega) only [wC, if_pos, if_neg])
              refine hJ14 _ _ ?_
              refine hK13 _ _ ?_
              refine run_seq_k fun K15 hK15 => ?_
              refine run_region_k rfl fun J16 hJ16 => ?_
              repeat (first | simp [h, hs, coinS_cells, build_coin, append_nilA, append_slA, g3_2, g3_2p, c14, c14p] | simp (disch := omega) only [wC, if_pos, if_neg])
              refine hJ16 _ _ ?_
              refine hK15 _ _ ?_
              refine run_goto ?_
              refine ⟨rfl, (⟨be (takeB 1 s) - 1, numS (takeS 1 (takeS 1 s)), [coinS (takeS 1 s)]⟩), ⟨?_, ?_, ?_, ?_, ?_, ?_⟩⟩
              · (intro r hr; simp only [List.mem_cons, List.not_mem_nil, or_false] at hr; rcases hr with rfl <;> first | rfl | (simp [h, hs, coinS_cells, build_coin, append_nilA, append_slA, g3_2, g3_2p, c14, c14p]; done))
              · first | rfl | omega | assumption | ((repeat (first | simp [h, hs, coinS_cells, build_coin, append_nilA, append_slA, g3_2, g3_2p, c14, c14p] | simp (disch := omega) only [wC, if_pos, if_neg])); first | done | omega) | (simp only [putA_get]; (repeat (first | simp (disch := omega) only [wC, if_pos, if_neg] | simp [h, hs, coinS_cells, build_coin, append_nilA, append_slA, g3_2, g3_2p, c14, c14p])); done)
              · exact (coinsGo_more (l := []) g3_2p (by intro e; simp [e] at c14p)).symm
              · first | rfl | omega | assumption | ((repeat (first | simp [h, hs, coinS_cells, build_coin, append_nilA, append_slA, g3_2, g3_2p, c14, c14p] | simp (disch := omega) only [wC, if_pos, if_neg])); first | done | omega) | (simp only [putA_get]; (repeat (first | simp (disch := omega) only [wC, if_pos, if_neg] | simp [h, hs, coinS_cells, build_coin, append_nilA, append_slA, g3_2, g3_2p, c14, c14p])); done)
              · first | rfl | omega | assumption | ((repeat (first | simp [h, hs, coinS_cells, build_coin, append_nilA, append_slA, g3_2, g3_2p, c14, c14p] | simp (disch := omega) only [wC, if_pos, if_neg])); first | done | omega) | (simp only [putA_get]; (repeat (first | simp (disch := omega) only [wC, if_pos, if_neg] | simp [h, hs, coinS_cells, build_coin, append_nilA, append_slA, g3_2, g3_2p, c14, c14p])); done)
              · first | rfl | omega | assumption | ((repeat (first | simp [h, hs, coinS_cells, build_coin, append_nilA, append_slA, g3_2, g3_2p, c14, c14p] | simp (disch := omega) only [wC, if_pos, if_neg])); first | done | omega) | (simp only [putA_get]; (repeat (first | simp (disch := omega) only [wC, if_pos, if_neg] | simp [h, hs, coinS_cells, build_coin, append_nilA, append_slA, g3_2, g3_2p, c14, c14p])); done)
          · try (exfalso; have gq := c14; simp [h, hs, coinS_cells, build_coin, append_nilA, append_slA, g3_2, g3_2p] at gq; first | done | omega)
            all_goals
             have c14p := c14
             try simp [h, hs, coinS_cells, build_coin, append_nilA, append_slA, g3_2, g3_2p] at c14p
             all_goals (first | (have gq := c14p; skip) | have c14p : True := True.intro)
             all_goals
              refine run_skip ?_
              refine hK8 _ _ ?_
              refine run_seq_k fun K17 hK17 => ?_
              refine run_seq_k fun K18 hK18 => ?_
              refine run_region_k rfl fun J19 hJ19 => ?_
              repeat (first | simp [h, hs, coinS_cells, build_coin, append_nilA, append_slA, g3_2, g3_2p, c14, c14p] | simp (disch := omega) only [wC, if_pos, if_neg])
              refine runL_call' (b := true) (by first | rfl | (simp [h, hs, coinS_cells, build_coin, append_nilA, append_slA, g3_2, g3_2p, c14, c14p, wantedA]; done)) rfl rfl (by first | rfl | (simp [h, hs, coinS_cells, build_coin, append_nilA, append_slA, g3_2, g3_2p, c14, c14p, callOf]; done)) (by simp) ((by first | exact right_nilA | exact right_slA (by omega))) ?_
              rintro _ _ ⟨rfl, rfl⟩
              repeat (first | simp [h, hs, coinS_cells, build_coin, append_nilA, append_slA, g3_2, g3_2p, c14, c14p] | simp (disch := omega) only [wC, if_pos, if_neg])
              refine hJ19 _ _ ?_
              refine hK18 _ _ ?_
              refine run_cond_split (by first | rfl | (simp [h, hs, coinS_cells, build_coin, append_nilA, append_slA, g3_2, g3_2p, c14, c14p, evalA]; done)) (fun c28 => ?_) (fun c28 => ?_)
              · try (exfalso; have gq := c28; simp [h, hs, coinS_cells, build_coin, append_nilA, append_slA, g3_2, g3_2p, c14, c14p] at gq; first | done | omega)
                all_goals
                 have c28p := c28
                 try simp [h, hs, coinS_cells, build_coin, append_nilA, append_slA, g3_2, g3_2p, c14, c14p] at c28p
                 all_goals (first | (have gq := c28p; skip) | have c28p : True := True.intro)
                 all_goals
                  refine run_region_k rfl fun J20 hJ20 => ?_
                  repeat (first | simp [h, hs, coinS_cells, build_coin, append_nilA, append_slA, g3_2, g3_2p, c14, c14p, c28, c28p] | simp (disch := omega) only [wC, if_pos, if_neg])
                  refine runL_call' (b := true) (by first | rfl | (simp [h, hs, coinS_cells, build_coin, append_nilA, append_slA, g3_2, g3_2p, c14, c14p, c28, c28p, wantedA]; done)) rfl rfl (by first | rfl | (simp [h, hs, coinS_cells, build_coin, append_nilA, append_slA, g3_2, g3_2p, c14, c14p, c28, c28p, callOf]; done)) (by simp) (fail_ok (hs _)) ?_
                  rintro _ _ ⟨rfl, rfl⟩
                  repeat (first | simp [h, hs, coinS_cells, build_coin, append_nilA, append_slA, g3_2, g3_2p, c14, c14p, c28, c28p] | simp (disch := omega) only [wC, if_pos, if_neg])
                  refine hJ20 _ _ ?_
                  refine hK17 _ _ ?_
                  refine run_seq_k fun K21 hK21 => ?_
                  refine run_seq_k fun K22 hK22 => ?_
                  refine run_region_k rfl fun J23 hJ23 => ?_
                  repeat (first | simp [h, hs, coinS_cells, build_coin, append_nilA, append_slA, g3_2, g3_2p, c14, c14p, c28, c28p] | simp (disch := omega) only [wC, if_pos, if_neg])
                  refine runL_call' (b := true) (by first | rfl | (simp [h, hs, coinS_cells, build_coin, append_nilA, append_slA, g3_2, g3_2p, c14, c14p, c28, c28p, wantedA]; done)) rfl rfl (by first | rfl | (simp [h, hs, coinS_cells, build_coin, append_nilA, append_slA, g3_2, g3_2p, c14, c14p, c28, c28p, callOf]; done)) (by simp) (bad_ok (hs _)) ?_
                  rintro _ _ ⟨rfl, rfl⟩
                  repeat (first | simp [h, hs, coinS_cells, build_coin, append_nilA, append_slA, g3_2, g3_2p, c14, c14p, c28, c28p] | simp (disch := omega) only [wC, if_pos, if_neg])
                  refine hJ23 _ _ ?_
                  refine hK22 _ _ ?_
                  refine run_cond_split (by first | rfl | (simp [h, hs, coinS_cells, build_coin, append_nilA, append_slA, g3_2, g3_2p, c14, c14p, c28, c28p, evalA]; done)) (fun c32 => ?_) (fun c32 => ?_)
                  · try (exfalso; have gq := c32; simp [h, hs, coinS_cells, build_coin, append_nilA, append_slA, g3_2, g3_2p, c14, c14p, c28, c28p] at gq; first | done | omega)
                    all_goals
                     have c32p := c32
                     try simp [h, hs, coinS_cells, build_coin, append_nilA, append_slA, g3_2, g3_2p, c14, c14p, c28, c28p] at c32p
                     all_goals (first | (have gq := c32p; skip) | have c32p : True := True.intro)
                     all_goals
                      refine run_seq_k fun K24 hK24 => ?_
                      refine run_region_k rfl fun J25 hJ25 => ?_
                      repeat (first | simp [h, hs, coinS_cells, build_coin, append_nilA, append_slA, g3_2, g3_2p, c14, c14p, c28, c28p, c32, c32p] | simp (disch := omega) only [wC, if_pos, if_neg])
                      refine hJ25 _ _ ?_
                      refine hK24 _ _ ?_
                      refine run_ret ?_
                      try simp only [Then, InBlock, NoGoto]
                      refine answer_tmp rfl (.inr rfl) ?_
                      have e : coinsR s = (q.l, q.s) := by rw [← hg]; exact coinsGo_stop (by first | (left; simp at g3_2; omega) | (right; simpa using c14))
                      obtain ⟨e1, e2⟩ := coinsR_none e (.inl (by simpa using c28))
                      rw [e1, e2]
                      exact ⟨Wk.nil _ _ _, [], tkA q.l, [], by simp⟩
                  · try (exfalso; have gq := c32; simp [h, hs, coinS_cells, build_coin, append_nilA, append_slA, g3_2, g3_2p, c14, c14p, c28, c28p] at gq; first | done | omega)
                    all_goals
                     have c32p := c32
                     try simp [h, hs, coinS_cells, build_coin, append_nilA, append_slA, g3_2, g3_2p, c14, c14p, c28, c28p] at c32p
                     all_goals (first | (have gq := c32p; skip) | have c32p : True := True.intro)
                     all_goals
                      refine run_skip ?_
                      refine hK21 _ _ ?_
                      refine run_seq_k fun K26 hK26 => ?_
                      refine run_region_k rfl fun J27 hJ27 => ?_
                      repeat (first | simp [h, hs, coinS_cells, build_coin, append_nilA, append_slA, g3_2, g3_2p, c14, c14p, c28, c28p, c32, c32p] | simp (disch := omega) only [wC, if_pos, if_neg])
                      refine hJ27 _ _ ?_
                      refine hK26 _ _ ?_
                      refine run_ret ?_
                      try simp only [Then, InBlock, NoGoto]
                      refine answer_tmp rfl (.inr rfl) ?_
                      have e : coinsR s = (q.l, q.s) := by rw [← hg]; exact coinsGo_stop (by first | (left; simp at g3_2; omega) | (right; simpa using c14))
                      obtain ⟨e1, e2⟩ := coinsR_none e (.inl (by simpa using c28))
                      rw [e1, e2]
                      exact ⟨Wk.nil _ _ _, [], tkA q.l, [], by simp⟩
              · try (exfalso; have gq := c28; simp [h, hs, coinS_cells, build_coin, append_nilA, append_slA, g3_2, g3_2p, c14, c14p] at gq; first | done | omega)
                all_goals
                 have c28p := c28
                 try simp [h, hs, coinS_cells, build_coin, append_nilA, append_slA, g3_2, g3_2p, c14, c14p] at c28p
                 all_goals (first | (have gq := c28p; skip) | have c28p : True := True.intro)
                 all_goals
                  refine run_skip ?_
                  refine hK17 _ _ ?_
                  refine run_seq_k fun K28 hK28 => ?_
                  refine run_seq_k fun K29 hK29 => ?_
                  refine run_region_k rfl fun J30 hJ30 => ?_
                  repeat (first | simp [h, hs, coinS_cells, build_coin, append_nilA, append_slA, g3_2, g3_2p, c14, c14p, c28, c28p] | simp (disch := omega) only [wC, if_pos, if_neg])
                  refine runL_call' (b := true) (by first | rfl | (simp [h, hs, coinS_cells, build_coin, append_nilA, append_slA, g3_2, g3_2p, c14, c14p, c28, c28p, wantedA]; done)) rfl rfl (by first | rfl | (simp [h, hs, coinS_cells, build_coin, append_nilA, append_slA, g3_2, g3_2p, c14, c14p, c28, c28p, callOf]; done)) (by simp) (bad_ok (hs _)) ?_
                  rintro _ _ ⟨rfl, rfl⟩
                  repeat (first | simp [h, hs, coinS_cells, build_coin, append_nilA, append_slA, g3_2, g3_2p, c14, c14p, c28, c28p] | simp (disch := omega) only [wC, if_pos, if_neg])
                  refine hJ30 _ _ ?_
                  refine hK29 _ _ ?_
                  refine run_cond_split (by first | rfl | (simp [h, hs, coinS_cells, build_coin, append_nilA, append_slA, g3_2, g3_2p, c14, c14p, c28, c28p, evalA]; done)) (fun c32 => ?_) (fun c32 => ?_)
                  · try (exfalso; have gq := c32; simp [h, hs, coinS_cells, build_coin, append_nilA, append_slA, g3_2, g3_2p, c14, c14p, c28, c28p] at gq; first | done | omega)
                    all_goals
                     have c32p := c32
                     try simp [h, hs, coinS_cells, build_coin, append_nilA, append_slA, g3_2, g3_2p, c14, c14p, c28, c28p] at c32p
                     all_goals (first | (have gq := c32p; skip) | have c32p : True := True.intro)
                     all_goals
                      refine run_seq_k fun K31 hK31 => ?_
                      refine run_region_k rfl fun J32 hJ32 => ?_
                      repeat (first | simp [h, hs, coinS_cells, build_coin, append_nilA, append_slA, g3_2, g3_2p, c14, c14p, c28, c28p, c32, c32p] | simp (disch := omega) only [wC, if_pos, if_neg])
                      refine hJ32 _ _ ?_
                      refine hK31 _ _ ?_
                      refine run_ret ?_
                      try simp only [Then, InBlock, NoGoto]
                      refine answer_tmp rfl (.inr rfl) ?_
                      first | (obtain ⟨e1, e2⟩ := coinsR_none (L := q.l) (S := q.s) (by rw [← hg]; exact coinsGo_stop (.inr (by simpa using c14))) (.inr (by simpa using c14)); rw [e1, e2]; exact ⟨Wk.nil _ _ _, [], tkA q.l, [], by simp⟩) | (have h0 : takeS 1 s = none := (by simpa using c14); obtain ⟨e1, e2⟩ := coinsR_none (by rw [coinsR, coinsGo_stop (.inr h0)]) (.inr h0); rw [e1, e2]; exact ⟨Wk.nil _ _ _, [], [], [], by simp⟩)
                  · try (exfalso; have gq := c32; simp [h, hs, coinS_cells, build_coin, append_nilA, append_slA, g3_2, g3_2p, c14, c14p, c28, c28p] at gq; first | done | omega)
                    all_goals
                     have c32p := c32
                     try simp [h, hs, coinS_cells, build_coin, append_nilA, append_slA, g3_2, g3_2p, c14, c14p, c28, c28p] at c32p
                     all_goals (first | (have gq := c32p; skip) | have c32p : True := True.intro)
                     all_goals
                      refine run_skip ?_
                      refine hK28 _ _ ?_
                      refine run_seq_k fun K33 hK33 => ?_
                      refine run_region_k rfl fun J34 hJ34 => ?_
                      repeat (first | simp [h, hs, coinS_cells, build_coin, append_nilA, append_slA, g3_2, g3_2p, c14, c14p, c28, c28p, c32, c32p] | simp (disch := omega) only [wC, if_pos, if_neg])
                      refine hJ34 _ _ ?_
                      refine hK33 _ _ ?_
                      refine run_ret ?_
                      try simp only [Then, InBlock, NoGoto]
                      refine answer_tmp rfl (.inr rfl) ?_
                      first | (obtain ⟨e1, e2⟩ := coinsR_none (L := q.l) (S := q.s) (by rw [← hg]; exact coinsGo_stop (.inr (by simpa using c14))) (.inr (by simpa using c14)); rw [e1, e2]; exact ⟨Wk.nil _ _ _, [], tkA q.l, [], by simp⟩) | (have h0 : takeS 1 s = none := (by simpa using c14); obtain ⟨e1, e2⟩ := coinsR_none (by rw [coinsR, coinsGo_stop (.inr h0)]) (.inr h0); rw [e1, e2]; exact ⟨Wk.nil _ _ _, [], [], [], by simp⟩)
    · try (exfalso; have gq := g3_2; simp [h, hs, coinS_cells, build_coin, append_nilA, append_slA] at gq; first | done | omega)
      all_goals
       have g3_2p := g3_2
       try simp [h, hs, coinS_cells, build_coin, append_nilA, append_slA] at g3_2p
       all_goals (first | (have gq := g3_2p; skip) | have g3_2p : True := True.intro)
       all_goals
          refine runL_no (by first | rfl | (simp [h, hs, coinS_cells, build_coin, append_nilA, append_slA, g3_2, g3_2p, wantedA]; done)) rfl ?_
          repeat (first | simp [h, hs, coinS_cells, build_coin, append_nilA, append_slA, g3_2, g3_2p] | simp (disch := omega) only [wC, if_pos, if_neg])
          refine runL_no (by first | rfl | (simp [h, hs, coinS_cells, build_coin, append_nilA, append_slA, g3_2, g3_2p, wantedA]; done)) rfl ?_
          repeat (first | simp [h, hs, coinS_cells, build_coin, append_nilA, append_slA, g3_2, g3_2p] | simp (disch := omega) only [wC, if_pos, if_neg])
          refine runL_no (by first | rfl | (simp [h, hs, coinS_cells, build_coin, append_nilA, append_slA, g3_2, g3_2p, wantedA]; done)) rfl ?_
          repeat (first | simp [h, hs, coinS_cells, build_coin, append_nilA, append_slA, g3_2, g3_2p] | simp (disch := omega) only [wC, if_pos, if_neg])
          refine hJ10 _ _ ?_
          refine hK9 _ _ ?_
          refine run_cond_false (by first | rfl | (simp [h, hs, coinS_cells, build_coin, append_nilA, append_slA, g3_2, g3_2p, evalA]; done)) ?_
          refine run_skip ?_
          refine hK8 _ _ ?_
          refine run_seq_k fun K35 hK35 => ?_
          refine run_seq_k fun K36 hK36 => ?_
          refine run_region_k rfl fun J37 hJ37 => ?_
          repeat (first | simp [h, hs, coinS_cells, build_coin, append_nilA, append_slA, g3_2, g3_2p] | simp (disch := omega) only [wC, if_pos, if_neg])
          refine runL_call' (b := true) (by first | rfl | (simp [h, hs, coinS_cells, build_coin, append_nilA, append_slA, g3_2, g3_2p, wantedA]; done)) rfl rfl (by first | rfl | (simp [h, hs, coinS_cells, build_coin, append_nilA, append_slA, g3_2, g3_2p, callOf]; done)) (by simp) ((by first | exact right_nilA | exact right_slA (by omega))) ?_
          rintro _ _ ⟨rfl, rfl⟩
          repeat (first | simp [h, hs, coinS_cells, build_coin, append_nilA, append_slA, g3_2, g3_2p] | simp (disch := omega) only [wC, if_pos, if_neg])
          refine hJ37 _ _ ?_
          refine hK36 _ _ ?_
          refine run_cond_split (by first | rfl | (simp [h, hs, coinS_cells, build_coin, append_nilA, append_slA, g3_2, g3_2p, evalA]; done)) (fun c28 => ?_) (fun c28 => ?_)
          · try (exfalso; have gq := c28; simp [h, hs, coinS_cells, build_coin, append_nilA, append_slA, g3_2, g3_2p] at gq; first | done | omega)
            all_goals
             have c28p := c28
             try simp [h, hs, coinS_cells, build_coin, append_nilA, append_slA, g3_2, g3_2p] at c28p
             all_goals (first | (have gq := c28p; skip) | have c28p : True := True.intro)
             all_goals
              refine run_region_k rfl fun J38 hJ38 => ?_
              repeat (first | simp [h, hs, coinS_cells, build_coin, append_nilA, append_slA, g3_2, g3_2p, c28, c28p] | simp (disch := omega) only [wC, if_pos, if_neg])
              refine runL_call' (b := true) (by first | rfl | (simp [h, hs, coinS_cells, build_coin, append_nilA, append_slA, g3_2, g3_2p, c28, c28p, wantedA]; done)) rfl rfl (by first | rfl | (simp [h, hs, coinS_cells, build_coin, append_nilA, append_slA, g3_2, g3_2p, c28, c28p, callOf]; done)) (by simp) (fail_ok (hs _)) ?_
              rintro _ _ ⟨rfl, rfl⟩
              repeat (first | simp [h, hs, coinS_cells, build_coin, append_nilA, append_slA, g3_2, g3_2p, c28, c28p] | simp (disch := omega) only [wC, if_pos, if_neg])
              refine hJ38 _ _ ?_
              refine hK35 _ _ ?_
              refine run_seq_k fun K39 hK39 => ?_
              refine run_seq_k fun K40 hK40 => ?_
              refine run_region_k rfl fun J41 hJ41 => ?_
              repeat (first | simp [h, hs, coinS_cells, build_coin, append_nilA, append_slA, g3_2, g3_2p, c28, c28p] | simp (disch := omega) only [wC, if_pos, if_neg])
              refine runL_call' (b := true) (by first | rfl | (simp [h, hs, coinS_cells, build_coin, append_nilA, append_slA, g3_2, g3_2p, c28, c28p, wantedA]; done)) rfl rfl (by first | rfl | (simp [h, hs, coinS_cells, build_coin, append_nilA, append_slA, g3_2, g3_2p, c28, c28p, callOf]; done)) (by simp) (bad_ok (hs _)) ?_
              rintro _ _ ⟨rfl, rfl⟩
              repeat (first | simp [h, hs, coinS_cells, build_coin, append_nilA, append_slA, g3_2, g3_2p, c28, c28p] | simp (disch := omega) only [wC, if_pos, if_neg])
              refine hJ41 _ _ ?_
              refine hK40 _ _ ?_
              refine run_cond_split (by first | rfl | (simp [h, hs, coinS_cells, build_coin, append_nilA, append_slA, g3_2, g3_2p, c28, c28p, evalA]; done)) (fun c32 => ?_) (fun c32 => ?_)
              · try (exfalso; have gq := c32; simp [h, hs, coinS_cells, build_coin, append_nilA, append_slA, g3_2, g3_2p, c28, c28p] at gq; first | done | omega)
                all_goals
                 have c32p := c32
                 try simp [h, hs, coinS_cells, build_coin, append_nilA, append_slA, g3_2, g3_2p, c28, c28p] at c32p
                 all_goals (first | (have gq := c32p; skip) | have c32p : True := True.intro)
                 all_goals
                  refine run_seq_k fun K42 hK42 => ?_
                  refine run_region_k rfl fun J43 hJ43 => ?_
                  repeat (first | simp [h, hs, coinS_cells, build_coin, append_nilA, append_slA, g3_2, g3_2p, c28, c28p, c32, c32p] | simp (disch := omega) only [wC, if_pos, if_neg])
                  refine hJ43 _ _ ?_
                  refine hK42 _ _ ?_
                  refine run_ret ?_
                  try simp only [Then, InBlock, NoGoto]
                  refine answer_tmp rfl (.inr rfl) ?_
                  have e : coinsR s = (q.l, q.s) := by rw [← hg]; exact coinsGo_stop (by first | (left; simp at g3_2; omega) | (right; simpa using c14))
                  obtain ⟨e1, e2⟩ := coinsR_none e (.inl (by simpa using c28))
                  rw [e1, e2]
                  exact ⟨Wk.nil _ _ _, [], tkA q.l, [], by simp⟩
              · try (exfalso; have gq := c32; simp [h, hs, coinS_cells, build_coin, append_nilA, append_slA, g3_2, g3_2p, c28, c28p] at gq; first | done | omega)
                all_goals
                 have c32p := c32
                 try simp [h, hs, coinS_cells, build_coin, append_nilA, append_slA, g3_2, g3_2p, c28, c28p] at c32p
                 all_goals (first | (have gq := c32p; skip) | have c32p : True := True.intro)
                 all_goals
                  refine run_skip ?_
                  refine hK39 _ _ ?_
                  refine run_seq_k fun K44 hK44 => ?_
                  refine run_region_k rfl fun J45 hJ45 => ?_
                  repeat (first | simp [h, hs, coinS_cells, build_coin, append_nilA, append_slA, g3_2, g3_2p, c28, c28p, c32, c32p] | simp (disch := omega) only [wC, if_pos, if_neg])
                  refine hJ45 _ _ ?_
                  refine hK44 _ _ ?_
                  refine run_ret ?_
                  try simp only [Then, InBlock, NoGoto]
                  refine answer_tmp rfl (.inr rfl) ?_
                  have e : coinsR s = (q.l, q.s) := by rw [← hg]; exact coinsGo_stop (by first | (left; simp at g3_2; omega) | (right; simpa using c14))
                  obtain ⟨e1, e2⟩ := coinsR_none e (.inl (by simpa using c28))
                  rw [e1, e2]
                  exact ⟨Wk.nil _ _ _, [], tkA q.l, [], by simp⟩
          · try (exfalso; have gq := c28; simp [h, hs, coinS_cells, build_coin, append_nilA, append_slA, g3_2, g3_2p] at gq; first | done | omega)
            all_goals
             have c28p := c28
             try simp [h, hs, coinS_cells, build_coin, append_nilA, append_slA, g3_2, g3_2p] at c28p
             all_goals (first | (have gq := c28p; skip) | have c28p : True := True.intro)
             all_goals
              refine run_skip ?_
              refine hK35 _ _ ?_
              refine run_seq_k fun K46 hK46 => ?_
              refine run_seq_k fun K47 hK47 => ?_
              refine run_region_k rfl fun J48 hJ48 => ?_
              repeat (first | simp [h, hs, coinS_cells, build_coin, append_nilA, append_slA, g3_2, g3_2p, c28, c28p] | simp (disch := omega) only [wC, if_pos, if_neg])
              refine runL_call' (b := true) (by first | rfl | (simp [h, hs, coinS_cells, build_coin, append_nilA, append_slA, g3_2, g3_2p, c28, c28p, wantedA]; done)) rfl rfl (by first | rfl | (simp [h, hs, coinS_cells, build_coin, append_nilA, append_slA, g3_2, g3_2p, c28, c28p, callOf]; done)) (by simp) (bad_ok (hs _)) ?_
              rintro _ _ ⟨rfl, rfl⟩
              repeat (first | simp [h, hs, coinS_cells, build_coin, append_nilA, append_slA, g3_2, g3_2p, c28, c28p] | simp (disch := omega) only [wC, if_pos, if_neg])
              refine hJ48 _ _ ?_
              refine hK47 _ _ ?_
              refine run_cond_split (by first | rfl | (simp [h, hs, coinS_cells, build_coin, append_nilA, append_slA, g3_2, g3_2p, c28, c28p, evalA]; done)) (fun c32 => ?_) (fun c32 => ?_)
              · try (exfalso; have gq := c32; simp [h, hs, coinS_cells, build_coin, append_nilA, append_slA, g3_2, g3_2p, c28, c28p] at gq; first | done | omega)
                all_goals
                 have c32p := c32
                 try simp [h, hs, coinS_cells, build_coin, append_nilA, append_slA, g3_2, g3_2p, c28, c28p] at c32p
                 all_goals (first | (have gq := c32p; skip) | have c32p : True := True.intro)
                 all_goals
                  refine run_seq_k fun K49 hK49 => ?_
                  refine run_region_k rfl fun J50 hJ50 => ?_
                  repeat (first | simp [h, hs, coinS_cells, build_coin, append_nilA, append_slA, g3_2, g3_2p, c28, c28p, c32, c32p] | simp (disch := omega) only [wC, if_pos, if_neg])
                  refine hJ50 _ _ ?_
                  refine hK49 _ _ ?_
                  refine run_ret ?_
                  try simp only [Then, InBlock, NoGoto]
                  refine answer_tmp rfl (.inr rfl) ?_
                  first | (obtain ⟨e1, e2⟩ := coinsR_none (L := q.l) (S := q.s) (by rw [← hg]; exact coinsGo_stop (.inr (by simpa using c32))) (.inr (by simpa using c32)); rw [e1, e2]; exact ⟨Wk.nil _ _ _, [], tkA q.l, [], by simp⟩) | (have h0 : takeS 1 s = none := (by simpa using c32); obtain ⟨e1, e2⟩ := coinsR_none (by rw [coinsR, coinsGo_stop (.inr h0)]) (.inr h0); rw [e1, e2]; exact ⟨Wk.nil _ _ _, [], [], [], by simp⟩)
              · try (exfalso; have gq := c32; simp [h, hs, coinS_cells, build_coin, append_nilA, append_slA, g3_2, g3_2p, c28, c28p] at gq; first | done | omega)
                all_goals
                 have c32p := c32
                 try simp [h, hs, coinS_cells, build_coin, append_nilA, append_slA, g3_2, g3_2p, c28, c28p] at c32p
                 all_goals (first | (have gq := c32p; skip) | have c32p : True := True.intro)
                 all_goals
                  refine run_skip ?_
                  refine hK46 _ _ ?_
                  refine run_seq_k fun K51 hK51 => ?_
                  refine run_region_k rfl fun J52 hJ52 => ?_
                  repeat (first | simp [h, hs, coinS_cells, build_coin, append_nilA, append_slA, g3_2, g3_2p, c28, c28p, c32, c32p] | simp (disch := omega) only [wC, if_pos, if_neg])
                  refine hJ52 _ _ ?_
                  refine hK51 _ _ ?_
                  refine run_ret ?_
                  try simp only [Then, InBlock, NoGoto]
                  refine answer_tmp rfl (.inr rfl) ?_
                  first | (obtain ⟨e1, e2⟩ := coinsR_some (L := q.l) (S := q.s) (by rw [← hg]; exact coinsGo_stop (.inl (by simp at g3_2; omega))) (by simpa using c28) (by intro e; simp [e] at c32); rw [e1, e2]; exact ⟨wk_slA _ _, [], tkA q.l, [], by simp⟩) | (have h0 : be (takeB 1 s) = 0 := (by simp at g3_2; omega); obtain ⟨e1, e2⟩ := coinsR_some (by rw [coinsR, coinsGo_stop (.inl h0)]) (by decide) (by intro e; simp [e] at c32); rw [e1, e2]; exact ⟨Wk.nil _ _ _, [], [], [], by simp⟩)
  case pass =>
    rintro q ρgoto σ1 hFgoto ⟨hm, hg, h4, h3, hσ⟩
    obtain rfl := hσ.symm
    have fgoto_0 := hFgoto 0 (by decide)
    try simp [h, hs, coinS_cells, build_coin, append_nilA, append_slA] at fgoto_0
    refine run_seq_k fun K53 hK53 => ?_
    refine run_skip ?_
    refine hK53 _ _ ?_
    refine run_seq_k fun K54 hK54 => ?_
    refine run_seq_k fun K55 hK55 => ?_
    refine run_region_k rfl fun J56 hJ56 => ?_
    repeat (first | simp [h, hs, coinS_cells, build_coin, append_nilA, append_slA, h4, h3, fgoto_0] | simp (disch := omega) only [wC, if_pos, if_neg])
    refine runL_splitB 10 (by first | rfl | (simp [h, hs, coinS_cells, build_coin, append_nilA, append_slA, h4, h3, fgoto_0]; done)) (fun g3_2 => ?_) (fun g3_2 => ?_)
    · try (exfalso; have gq := g3_2; simp [h, hs, coinS_cells, build_coin, append_nilA, append_slA, h4, h3, fgoto_0] at gq; first | done | omega)
      all_goals
       have g3_2p := g3_2
       try simp [h, hs, coinS_cells, build_coin, append_nilA, append_slA, h4, h3, fgoto_0] at g3_2p
       all_goals (first | (have gq := g3_2p; skip) | have g3_2p : True := True.intro)
       all_goals
          refine runL_go (by first | rfl | (simp [h, hs, coinS_cells, build_coin, append_nilA, append_slA, h4, h3, fgoto_0, g3_2, g3_2p, wantedA]; done)) rfl ?_
          repeat (first | simp [h, hs, coinS_cells, build_coin, append_nilA, append_slA, h4, h3, fgoto_0, g3_2, g3_2p] | simp (disch := omega) only [wC, if_pos, if_neg])
          refine runL_call' (b := true) (by first | rfl | (simp [h, hs, coinS_cells, build_coin, append_nilA, append_slA, h4, h3, fgoto_0, g3_2, g3_2p, wantedA]; done)) rfl rfl (by first | rfl | (simp [h, hs, coinS_cells, build_coin, append_nilA, append_slA, h4, h3, fgoto_0, g3_2, g3_2p, callOf]; done)) (by simp) (bad_ok (hs _)) ?_
          rintro _ _ ⟨rfl, rfl⟩
          repeat (first | simp [h, hs, coinS_cells, build_coin, append_nilA, append_slA, h4, h3, fgoto_0, g3_2, g3_2p] | simp (disch := omega) only [wC, if_pos, if_neg])
          refine runL_go (by first | rfl | (simp [h, hs, coinS_cells, build_coin, append_nilA, append_slA, h4, h3, fgoto_0, g3_2, g3_2p, wantedA]; done)) rfl ?_
          repeat (first | simp [h, hs, coinS_cells, build_coin, append_nilA, append_slA, h4, h3, fgoto_0, g3_2, g3_2p] | simp (disch := omega) only [wC, if_pos, if_neg])
          refine hJ56 _ _ ?_
          refine hK55 _ _ ?_
          refine run_cond_split (by first | rfl | (simp [h, hs, coinS_cells, build_coin, append_nilA, append_slA, h4, h3, fgoto_0, g3_2, g3_2p, evalA]; done)) (fun c14 => ?_) (fun c14 => ?_)
          · try (exfalso; have gq := c14; simp [h, hs, coinS_cells, build_coin, append_nilA, append_slA, h4, h3, fgoto_0, g3_2, g3_2p] at gq; first | done | omega)
            all_goals
             have c14p := c14
             try simp [h, hs, coinS_cells, build_coin, append_nilA, append_slA, h4, h3, fgoto_0, g3_2, g3_2p] at c14p
             all_goals (first | (have gq := c14p; skip) | have c14p : True := True.intro)
             all_goals
              refine run_seq_k fun K57 hK57 => ?_
              refine run_region_k rfl fun J58 hJ58 => ?_
              repeat (first | simp [h, hs, coinS_cells, build_coin, append_nilA, append_slA, h4, h3, fgoto_0, g3_2, g3_2p, c14, c14p] | simp (disch := omega) only [wC, if_pos, if_neg])
              refine runL_call' (b := true) (by first | rfl | (simp [h, hs, coinS_cells, build_coin, append_nilA, append_slA, h4, h3, fgoto_0, g3_2, g3_2p, c14, c14p, wantedA]; done)) rfl rfl (by first | rfl | (simp [h, hs, coinS_cells, build_coin, append_nilA, append_slA, h4, h3, fgoto_0, g3_2, g3_2p, c14, c14p, callOf]; done)) (by simp) (byte_ok (by first | exact h | exact hs _)) ?_
              rintro _ _ ⟨rfl, rfl⟩
              repeat (first | simp [h, hs, coinS_cells, build_coin, append_nilA, append_slA, h4, h3, fgoto_0, g3_2, g3_2p, c14, c14p] | simp (disch := omega) only [wC, if_pos, if_neg])
              refine hJ58 _ _ ?_
              refine hK57 _ _ ?_
              refine run_seq_k fun K59 hK59 => ?_
              try have : Small q.l := ⟨by omega⟩
              refine run_region_k rfl fun J60 hJ60 => ?_
              repeat (first | simp [h, hs, coinS_cells, build_coin, append_nilA, append_slA, h4, h3, fgoto_0, g3_2, g3_2p, c14, c14p] | simp (disch := omega) only [wC, if_pos, if_neg])
              refine runL_call' (b := true) (by first | rfl | (simp [h, hs, coinS_cells, build_coin, append_nilA, append_slA, h4, h3, fgoto_0, g3_2, g3_2p, c14, c14p, wantedA]; done)) rfl rfl (by first | rfl | (simp [h, hs, coinS_cells, build_coin, append_nilA, append_slA, h4, h3, fgoto_0, g3_2, g3_2p, c14, c14p, callOf]; done)) (by simp) (num_ok (hs _)) ?_
              rintro _ _ ⟨rfl, rfl⟩
              repeat (first | simp [h, hs, coinS_cells, build_coin, append_nilA, append_slA, h4, h3, fgoto_0, g3_2, g3_2p, c14, c14p] | simp (disch := omega) only [wC, if_pos, if_neg])
              refine hJ60 _ _ ?_
              refine hK59 _ _ ?_
              refine run_seq_k fun K61 hK61 => ?_
              refine run_region_k rfl fun J62 hJ62 => ?_
              repeat (first | simp [h, hs, coinS_cells, build_coin, append_nilA, append_slA, h4, h3, fgoto_0, g3_2, g3_2p, c14, c14p] | simp (disch := omega) only [wC, if_pos, if_neg])
              refine hJ62 _ _ ?_
              refine hK61 _ _ ?_
              refine run_goto ?_
              refine ⟨rfl, (⟨q.m - 1, numS (takeS 1 q.s), q.l ++ [coinS q.s]⟩), ⟨?_, ?_, ?_, ?_, ?_, ?_⟩, ?_⟩
              · (intro r hr; simp only [List.mem_cons, List.not_mem_nil, or_false] at hr; rcases hr with rfl <;> first | rfl | (simp [h, hs, coinS_cells, build_coin, append_nilA, append_slA, h4, h3, fgoto_0, g3_2, g3_2p, c14, c14p]; done))
              · simp
                omega
              · rw [← hg]
                exact (coinsGo_more g3_2p (by intro e; simp [e] at c14p)).symm
              · first | rfl | omega | assumption | ((repeat (first | simp [h, hs, coinS_cells, build_coin, append_nilA, append_slA, h4, h3, fgoto_0, g3_2, g3_2p, c14, c14p] | simp (disch := omega) only [wC, if_pos, if_neg])); first | done | omega) | (simp only [putA_get]; (repeat (first | simp (disch := omega) only [wC, if_pos, if_neg] | simp [h, hs, coinS_cells, build_coin, append_nilA, append_slA, h4, h3, fgoto_0, g3_2, g3_2p, c14, c14p])); done)
              · first | rfl | omega | assumption | ((repeat (first | simp [h, hs, coinS_cells, build_coin, append_nilA, append_slA, h4, h3, fgoto_0, g3_2, g3_2p, c14, c14p] | simp (disch := omega) only [wC, if_pos, if_neg])); first | done | omega) | (simp only [putA_get]; (repeat (first | simp (disch := omega) only [wC, if_pos, if_neg] | simp [h, hs, coinS_cells, build_coin, append_nilA, append_slA, h4, h3, fgoto_0, g3_2, g3_2p, c14, c14p])); done)
              · rfl
              · simp
                omega
          · try (exfalso; have gq := c14; simp [h, hs, coinS_cells, build_coin, append_nilA, append_slA, h4, h3, fgoto_0, g3_2, g3_2p] at gq; first | done | omega)
            all_goals
             have c14p := c14
             try simp [h, hs, coinS_cells, build_coin, append_nilA, append_slA, h4, h3, fgoto_0, g3_2, g3_2p] at c14p
             all_goals (first | (have gq := c14p; skip) | have c14p : True := True.intro)
             all_goals
              refine run_skip ?_
              refine hK54 _ _ ?_
              refine run_seq_k fun K63 hK63 => ?_
              refine run_seq_k fun K64 hK64 => ?_
              refine run_region_k rfl fun J65 hJ65 => ?_
              repeat (first | simp [h, hs, coinS_cells, build_coin, append_nilA, append_slA, h4, h3, fgoto_0, g3_2, g3_2p, c14, c14p] | simp (disch := omega) only [wC, if_pos, if_neg])
              refine runL_call' (b := true) (by first | rfl | (simp [h, hs, coinS_cells, build_coin, append_nilA, append_slA, h4, h3, fgoto_0, g3_2, g3_2p, c14, c14p, wantedA]; done)) rfl rfl (by first | rfl | (simp [h, hs, coinS_cells, build_coin, append_nilA, append_slA, h4, h3, fgoto_0, g3_2, g3_2p, c14, c14p, callOf]; done)) (by simp) ((by first | exact right_nilA | exact right_slA (by omega))) ?_
              rintro _ _ ⟨rfl, rfl⟩
              repeat (first | simp [h, hs, coinS_cells, build_coin, append_nilA, append_slA, h4, h3, fgoto_0, g3_2, g3_2p, c14, c14p] | simp (disch := omega) only [wC, if_pos, if_neg])
              refine hJ65 _ _ ?_
              refine hK64 _ _ ?_
              refine run_cond_split (by first | rfl | (simp [h, hs, coinS_cells, build_coin, append_nilA, append_slA, h4, h3, fgoto_0, g3_2, g3_2p, c14, c14p, evalA]; done)) (fun c28 => ?_) (fun c28 => ?_)
              · try (exfalso; have gq := c28; simp [h, hs, coinS_cells, build_coin, append_nilA, append_slA, h4, h3, fgoto_0, g3_2, g3_2p, c14, c14p] at gq; first | done | omega)
                all_goals
                 have c28p := c28
                 try simp [h, hs, coinS_cells, build_coin, append_nilA, append_slA, h4, h3, fgoto_0, g3_2, g3_2p, c14, c14p] at c28p
                 all_goals (first | (have gq := c28p; skip) | have c28p : True := True.intro)
                 all_goals
                  refine run_region_k rfl fun J66 hJ66 => ?_
                  repeat (first | simp [h, hs, coinS_cells, build_coin, append_nilA, append_slA, h4, h3, fgoto_0, g3_2, g3_2p, c14, c14p, c28, c28p] | simp (disch := omega) only [wC, if_pos, if_neg])
                  refine runL_call' (b := true) (by first | rfl | (simp [h, hs, coinS_cells, build_coin, append_nilA, append_slA, h4, h3, fgoto_0, g3_2, g3_2p, c14, c14p, c28, c28p, wantedA]; done)) rfl rfl (by first | rfl | (simp [h, hs, coinS_cells, build_coin, append_nilA, append_slA, h4, h3, fgoto_0, g3_2, g3_2p, c14, c14p, c28, c28p, callOf]; done)) (by simp) (fail_ok (hs _)) ?_
                  rintro _ _ ⟨rfl, rfl⟩
                  repeat (first | simp [h, hs, coinS_cells, build_coin, append_nilA, append_slA, h4, h3, fgoto_0, g3_2, g3_2p, c14, c14p, c28, c28p] | simp (disch := omega) only [wC, if_pos, if_neg])
                  refine hJ66 _ _ ?_
                  refine hK63 _ _ ?_
                  refine run_seq_k fun K67 hK67 => ?_
                  refine run_seq_k fun K68 hK68 => ?_
                  refine run_region_k rfl fun J69 hJ69 => ?_
                  repeat (first | simp [h, hs, coinS_cells, build_coin, append_nilA, append_slA, h4, h3, fgoto_0, g3_2, g3_2p, c14, c14p, c28, c28p] | simp (disch := omega) only [wC, if_pos, if_neg])
                  refine runL_call' (b := true) (by first | rfl | (simp [h, hs, coinS_cells, build_coin, append_nilA, append_slA, h4, h3, fgoto_0, g3_2, g3_2p, c14, c14p, c28, c28p, wantedA]; done)) rfl rfl (by first | rfl | (simp [h, hs, coinS_cells, build_coin, append_nilA, append_slA, h4, h3, fgoto_0, g3_2, g3_2p, c14, c14p, c28, c28p, callOf]; done)) (by simp) (bad_ok (hs _)) ?_
                  rintro _ _ ⟨rfl, rfl⟩
                  repeat (first | simp [h, hs, coinS_cells, build_coin, append_nilA, append_slA, h4, h3, fgoto_0, g3_2, g3_2p, c14, c14p, c28, c28p] | simp (disch := omega) only [wC, if_pos, if_neg])
                  refine hJ69 _ _ ?_
                  refine hK68 _ _ ?_
                  refine run_cond_split (by first | rfl | (simp [h, hs, coinS_cells, build_coin, append_nilA, append_slA, h4, h3, fgoto_0, g3_2, g3_2p, c14, c14p, c28, c28p, evalA]; done)) (fun c32 => ?_) (fun c32 => ?_)
                  · try (exfalso; have gq := c32; simp [h, hs, coinS_cells, build_coin, append_nilA, append_slA, h4, h3, fgoto_0, g3_2, g3_2p, c14, c14p, c28, c28p] at gq; first | done | omega)
                    all_goals
                     have c32p := c32
                     try simp [h, hs, coinS_cells, build_coin, append_nilA, append_slA, h4, h3, fgoto_0, g3_2, g3_2p, c14, c14p, c28, c28p] at c32p
                     all_goals (first | (have gq := c32p; skip) | have c32p : True := True.intro)
                     all_goals
                      refine run_seq_k fun K70 hK70 => ?_
                      refine run_region_k rfl fun J71 hJ71 => ?_
                      repeat (first | simp [h, hs, coinS_cells, build_coin, append_nilA, append_slA, h4, h3, fgoto_0, g3_2, g3_2p, c14, c14p, c28, c28p, c32, c32p] | simp (disch := omega) only [wC, if_pos, if_neg])
                      refine hJ71 _ _ ?_
                      refine hK70 _ _ ?_
                      refine run_ret ?_
                      try simp only [Then, InBlock, NoGoto]
                      refine answer_tmp rfl (.inr rfl) ?_
                      have e : coinsR s = (q.l, q.s) := by rw [← hg]; exact coinsGo_stop (by first | (left; simp at g3_2; omega) | (right; simpa using c14))
                      obtain ⟨e1, e2⟩ := coinsR_none e (.inl (by simpa using c28))
                      rw [e1, e2]
                      exact ⟨Wk.nil _ _ _, [], tkA q.l, [], by simp⟩
                  · try (exfalso; have gq := c32; simp [h, hs, coinS_cells, build_coin, append_nilA, append_slA, h4, h3, fgoto_0, g3_2, g3_2p, c14, c14p, c28, c28p] at gq; first | done | omega)
                    all_goals
                     have c32p := c32
                     try simp [h, hs, coinS_cells, build_coin, append_nilA, append_slA, h4, h3, fgoto_0, g3_2, g3_2p, c14, c14p, c28, c28p] at c32p
                     all_goals (first | (have gq := c32p; skip) | have c32p : True := True.intro)
                     all_goals
                      refine run_skip ?_
                      refine hK67 _ _ ?_
                      refine run_seq_k fun K72 hK72 => ?_
                      refine run_region_k rfl fun J73 hJ73 => ?_
                      repeat (first | simp [h, hs, coinS_cells, build_coin, append_nilA, append_slA, h4, h3, fgoto_0, g3_2, g3_2p, c14, c14p, c28, c28p, c32, c32p] | simp (disch := omega) only [wC, if_pos, if_neg])
                      refine hJ73 _ _ ?_
                      refine hK72 _ _ ?_
                      refine run_ret ?_
                      try simp only [Then, InBlock, NoGoto]
                      refine answer_tmp rfl (.inr rfl) ?_
                      have e : coinsR s = (q.l, q.s) := by rw [← hg]; exact coinsGo_stop (by first | (left; simp at g3_2; omega) | (right; simpa using c14))
                      obtain ⟨e1, e2⟩ := coinsR_none e (.inl (by simpa using c28))
                      rw [e1, e2]
                      exact ⟨Wk.nil _ _ _, [], tkA q.l, [], by simp⟩
              · try (exfalso; have gq := c28; simp [h, hs, coinS_cells, build_coin, append_nilA, append_slA, h4, h3, fgoto_0, g3_2, g3_2p, c14, c14p] at gq; first | done | omega)
                all_goals
                 have c28p := c28
                 try simp [h, hs, coinS_cells, build_coin, append_nilA, append_slA, h4, h3, fgoto_0, g3_2, g3_2p, c14, c14p] at c28p
                 all_goals (first | (have gq := c28p; skip) | have c28p : True := True.intro)
                 all_goals
                  refine run_skip ?_
                  refine hK63 _ _ ?_
                  refine run_seq_k fun K74 hK74 => ?_
                  refine run_seq_k fun K75 hK75 => ?_
                  refine run_region_k rfl fun J76 hJ76 => ?_
                  repeat (first | simp [h, hs, coinS_cells, build_coin, append_nilA, append_slA, h4, h3, fgoto_0, g3_2, g3_2p, c14, c14p, c28, c28p] | simp (disch := omega) only [wC, if_pos, if_neg])
                  refine runL_call' (b := true) (by first | rfl | (simp [h, hs, coinS_cells, build_coin, append_nilA, append_slA, h4, h3, fgoto_0, g3_2, g3_2p, c14, c14p, c28, c28p, wantedA]; done)) rfl rfl (by first | rfl | (simp [h, hs, coinS_cells, build_coin, append_nilA, append_slA, h4, h3, fgoto_0, g3_2, g3_2p, c14, c14p, c28, c28p, callOf]; done)) (by simp) (bad_ok (hs _)) ?_
                  rintro _ _ ⟨rfl, rfl⟩
                  repeat (first | simp [h, hs, coinS_cells, build_coin, append_nilA, append_slA, h4, h3, fgoto_0, g3_2, g3_2p, c14, c14p, c28, c28p] | simp (disch := omega) only [wC, if_pos, if_neg])
                  refine hJ76 _ _ ?_
                  refine hK75 _ _ ?_
                  refine run_cond_split (by first | rfl | (simp [h, hs, coinS_cells, build_coin, append_nilA, append_slA, h4, h3, fgoto_0, g3_2, g3_2p, c14, c14p, c28, c28p, evalA]; done)) (fun c32 => ?_) (fun c32 => ?_)
                  · try (exfalso; have gq := c32; simp [h, hs, coinS_cells, build_coin, append_nilA, append_slA, h4, h3, fgoto_0, g3_2, g3_2p, c14, c14p, c28, c28p] at gq; first | done | omega)
                    all_goals
                     have c32p := c32
                     try simp [h, hs, coinS_cells, build_coin, append_nilA, append_slA, h4, h3, fgoto_0, g3_2, g3_2p, c14, c14p, c28, c28p] at c32p
                     all_goals (first | (have gq := c32p; skip) | have c32p : True := True.intro)
                     all_goals
                      refine run_seq_k fun K77 hK77 => ?_
                      refine run_region_k rfl fun J78 hJ78 => ?_
                      repeat (first | simp [h, hs, coinS_cells, build_coin, append_nilA, append_slA, h4, h3, fgoto_0, g3_2, g3_2p, c14, c14p, c28, c28p, c32, c32p] | simp (disch := omega) only [wC, if_pos, if_neg])
                      refine hJ78 _ _ ?_
                      refine hK77 _ _ ?_
                      refine run_ret ?_
                      try simp only [Then, InBlock, NoGoto]
                      refine answer_tmp rfl (.inr rfl) ?_
                      first | (obtain ⟨e1, e2⟩ := coinsR_none (L := q.l) (S := q.s) (by rw [← hg]; exact coinsGo_stop (.inr (by simpa using c14))) (.inr (by simpa using c14)); rw [e1, e2]; exact ⟨Wk.nil _ _ _, [], tkA q.l, [], by simp⟩) | (have h0 : takeS 1 s = none := (by simpa using c14); obtain ⟨e1, e2⟩ := coinsR_none (by rw [coinsR, coinsGo_stop (.inr h0)]) (.inr h0); rw [e1, e2]; exact ⟨Wk.nil _ _ _, [], [], [], by simp⟩)
                  · try (exfalso; have gq := c32; simp [h, hs, coinS_cells, build_coin, append_nilA, append_slA, h4, h3, fgoto_0, g3_2, g3_2p, c14, c14p, c28, c28p] at gq; first | done | omega)
                    all_goals
                     have c32p := c32
                     try simp [h, hs, coinS_cells, build_coin, append_nilA, append_slA, h4, h3, fgoto_0, g3_2, g3_2p, c14, c14p, c28, c28p] at c32p
                     all_goals (first | (have gq := c32p; skip) | have c32p : True := True.intro)
                     all_goals
                      refine run_skip ?_
                      refine hK74 _ _ ?_
                      refine run_seq_k fun K79 hK79 => ?_
                      refine run_region_k rfl fun J80 hJ80 => ?_
                      repeat (first | simp [h, hs, coinS_cells, build_coin, append_nilA, append_slA, h4, h3, fgoto_0, g3_2, g3_2p, c14, c14p, c28, c28p, c32, c32p] | simp (disch := omega) only [wC, if_pos, if_neg])
                      refine hJ80 _ _ ?_
                      refine hK79 _ _ ?_
                      refine run_ret ?_
                      try simp only [Then, InBlock, NoGoto]
                      refine answer_tmp rfl (.inr rfl) ?_
                      first | (obtain ⟨e1, e2⟩ := coinsR_none (L := q.l) (S := q.s) (by rw [← hg]; exact coinsGo_stop (.inr (by simpa using c14))) (.inr (by simpa using c14)); rw [e1, e2]; exact ⟨Wk.nil _ _ _, [], tkA q.l, [], by simp⟩) | (have h0 : takeS 1 s = none := (by simpa using c14); obtain ⟨e1, e2⟩ := coinsR_none (by rw [coinsR, coinsGo_stop (.inr h0)]) (.inr h0); rw [e1, e2]; exact ⟨Wk.nil _ _ _, [], [], [], by simp⟩)
    · try (exfalso; have gq := g3_2; simp [h, hs, coinS_cells, build_coin, append_nilA, append_slA, h4, h3, fgoto_0] at gq; first | done | omega)
      all_goals
       have g3_2p := g3_2
       try simp [h, hs, coinS_cells, build_coin, append_nilA, append_slA, h4, h3, fgoto_0] at g3_2p
       all_goals (first | (have gq := g3_2p; skip) | have g3_2p : True := True.intro)
       all_goals
          refine runL_no (by first | rfl | (simp [h, hs, coinS_cells, build_coin, append_nilA, append_slA, h4, h3, fgoto_0, g3_2, g3_2p, wantedA]; done)) rfl ?_
          repeat (first | simp [h, hs, coinS_cells, build_coin, append_nilA, append_slA, h4, h3, fgoto_0, g3_2, g3_2p] | simp (disch := omega) only [wC, if_pos, if_neg])
          refine runL_no (by first | rfl | (simp [h, hs, coinS_cells, build_coin, append_nilA, append_slA, h4, h3, fgoto_0, g3_2, g3_2p, wantedA]; done)) rfl ?_
          repeat (first | simp [h, hs, coinS_cells, build_coin, append_nilA, append_slA, h4, h3, fgoto_0, g3_2, g3_2p] | simp (disch := omega) only [wC, if_pos, if_neg])
          refine runL_no (by first | rfl | (simp [h, hs, coinS_cells, build_coin, append_nilA, append_slA, h4, h3, fgoto_0, g3_2, g3_2p, wantedA]; done)) rfl ?_
          repeat (first | simp [h, hs, coinS_cells, build_coin, append_nilA, append_slA, h4, h3, fgoto_0, g3_2, g3_2p] | simp (disch := omega) only [wC, if_pos, if_neg])
          refine hJ56 _ _ ?_
          refine hK55 _ _ ?_
          refine run_cond_false (by first | rfl | (simp [h, hs, coinS_cells, build_coin, append_nilA, append_slA, h4, h3, fgoto_0, g3_2, g3_2p, evalA]; done)) ?_
          refine run_skip ?_
          refine hK54 _ _ ?_
          refine run_seq_k fun K81 hK81 => ?_
          refine run_seq_k fun K82 hK82 => ?_
          refine run_region_k rfl fun J83 hJ83 => ?_
          repeat (first | simp [h, hs, coinS_cells, build_coin, append_nilA, append_slA, h4, h3, fgoto_0, g3_2, g3_2p] | simp (disch := omega) only [wC, if_pos, if_neg])
          refine runL_call' (b := true) (by first | rfl | (simp [h, hs, coinS_cells, build_coin, append_nilA, append_slA, h4, h3, fgoto_0, g3_2, g3_2p, wantedA]; done)) rfl rfl (by first | rfl | (simp [h, hs, coinS_cells, build_coin, append_nilA, append_slA, h4, h3, fgoto_0, g3_2, g3_2p, callOf]; done)) (by simp) ((by first | exact right_nilA | exact right_slA (by omega))) ?_
          rintro _ _ ⟨rfl, rfl⟩
          repeat (first | simp [h, hs, coinS_cells, build_coin, append_nilA, append_slA, h4, h3, fgoto_0, g3_2, g3_2p] | simp (disch := omega) only [wC, if_pos, if_neg])
          refine hJ83 _ _ ?_
          refine hK82 _ _ ?_
          refine run_cond_split (by first | rfl | (simp [h, hs, coinS_cells, build_coin, append_nilA, append_slA, h4, h3, fgoto_0, g3_2, g3_2p, evalA]; done)) (fun c28 => ?_) (fun c28 => ?_)
          · try (exfalso; have gq := c28; simp [h, hs, coinS_cells, build_coin, append_nilA, append_slA, h4, h3, fgoto_0, g3_2, g3_2p] at gq; first | done | omega)
            all_goals
             have c28p := c28
             try simp [h, hs, coinS_cells, build_coin, append_nilA, append_slA, h4, h3, fgoto_0, g3_2, g3_2p] at c28p
             all_goals (first | (have gq := c28p; skip) | have c28p : True := True.intro)
             all_goals
              refine run_region_k rfl fun J84 hJ84 => ?_
              repeat (first | simp [h, hs, coinS_cells, build_coin, append_nilA, append_slA, h4, h3, fgoto_0, g3_2, g3_2p, c28, c28p] | simp (disch := omega) only [wC, if_pos, if_neg])
              refine runL_call' (b := true) (by first | rfl | (simp [h, hs, coinS_cells, build_coin, append_nilA, append_slA, h4, h3, fgoto_0, g3_2, g3_2p, c28, c28p, wantedA]; done)) rfl rfl (by first | rfl | (simp [h, hs, coinS_cells, build_coin, append_nilA, append_slA, h4, h3, fgoto_0, g3_2, g3_2p, c28, c28p, callOf]; done)) (by simp) (fail_ok (hs _)) ?_
              rintro _ _ ⟨rfl, rfl⟩
              repeat (first | simp [h, hs, coinS_cells, build_coin, append_nilA, append_slA, h4, h3, fgoto_0, g3_2, g3_2p, c28, c28p] | simp (disch := omega) only [wC, if_pos, if_neg])
              refine hJ84 _ _ ?_
              refine hK81 _ _ ?_
              refine run_seq_k fun K85 hK85 => ?_
              refine run_seq_k fun K86 hK86 => ?_
              refine run_region_k rfl fun J87 hJ87 => ?_
              repeat (first | simp [h, hs, coinS_cells, build_coin, append_nilA, append_slA, h4, h3, fgoto_0, g3_2, g3_2p, c28, c28p] | simp (disch := omega) only [wC, if_pos, if_neg])
              refine runL_call' (b := true) (by first | rfl | (simp [h, hs, coinS_cells, build_coin, append_nilA, append_slA, h4, h3, fgoto_0, g3_2, g3_2p, c28, c28p, wantedA]; done)) rfl rfl (by first | rfl | (simp [h, hs, coinS_cells, build_coin, append_nilA, append_slA, h4, h3, fgoto_0, g3_2, g3_2p, c28, c28p, callOf]; done)) (by simp) (bad_ok (hs _)) ?_
              rintro _ _ ⟨rfl, rfl⟩
              repeat (first | simp [h, hs, coinS_cells, build_coin, append_nilA, append_slA, h4, h3, fgoto_0, g3_2, g3_2p, c28, c28p] | simp (disch := omega) only [wC, if_pos, if_neg])
              refine hJ87 _ _ ?_
              refine hK86 _ _ ?_
              refine run_cond_split (by first | rfl | (simp [h, hs, coinS_cells, build_coin, append_nilA, append_slA, h4, h3, fgoto_0, g3_2, g3_2p, c28, c28p, evalA]; done)) (fun c32 => ?_) (fun c32 => ?_)
              · try (exfalso; have gq := c32; simp [h, hs, coinS_cells, build_coin, append_nilA, append_slA, h4, h3, fgoto_0, g3_2, g3_2p, c28, c28p] at gq; first | done | omega)
                all_goals
                 have c32p := c32
                 try simp [h, hs, coinS_cells, build_coin, append_nilA, append_slA, h4, h3, fgoto_0, g3_2, g3_2p, c28, c28p] at c32p
                 all_goals (first | (have gq := c32p; skip) | have c32p : True := True.intro)
                 all_goals
                  refine run_seq_k fun K88 hK88 => ?_
                  refine run_region_k rfl fun J89 hJ89 => ?_
                  repeat (first | simp [h, hs, coinS_cells, build_coin, append_nilA, append_slA, h4, h3, fgoto_0, g3_2, g3_2p, c28, c28p, c32, c32p] | simp (disch := omega) only [wC, if_pos, if_neg])
                  refine hJ89 _ _ ?_
                  refine hK88 _ _ ?_
                  refine run_ret ?_
                  try simp only [Then, InBlock, NoGoto]
                  refine answer_tmp rfl (.inr rfl) ?_
                  have e : coinsR s = (q.l, q.s) := by rw [← hg]; exact coinsGo_stop (by first | (left; simp at g3_2; omega) | (right; simpa using c14))
                  obtain ⟨e1, e2⟩ := coinsR_none e (.inl (by simpa using c28))
                  rw [e1, e2]
                  exact ⟨Wk.nil _ _ _, [], tkA q.l, [], by simp⟩
              · try (exfalso; have gq := c32; simp [h, hs, coinS_cells, build_coin, append_nilA, append_slA, h4, h3, fgoto_0, g3_2, g3_2p, c28, c28p] at gq; first | done | omega)
                all_goals
                 have c32p := c32
                 try simp [h, hs, coinS_cells, build_coin, append_nilA, append_slA, h4, h3, fgoto_0, g3_2, g3_2p, c28, c28p] at c32p
                 all_goals (first | (have gq := c32p; skip) | have c32p : True := True.intro)
                 all_goals
                  refine run_skip ?_
                  refine hK85 _ _ ?_
                  refine run_seq_k fun K90 hK90 => ?_
                  refine run_region_k rfl fun J91 hJ91 => ?_
                  repeat (first | simp [h, hs, coinS_cells, build_coin, append_nilA, append_slA, h4, h3, fgoto_0, g3_2, g3_2p, c28, c28p, c32, c32p] | simp (disch := omega) only [wC, if_pos, if_neg])
                  refine hJ91 _ _ ?_
                  refine hK90 _ _ ?_
                  refine run_ret ?_
                  try simp only [Then, InBlock, NoGoto]
                  refine answer_tmp rfl (.inr rfl) ?_
                  have e : coinsR s = (q.l, q.s) := by rw [← hg]; exact coinsGo_stop (by first | (left; simp at g3_2; omega) | (right; simpa using c14))
                  obtain ⟨e1, e2⟩ := coinsR_none e (.inl (by simpa using c28))
                  rw [e1, e2]
                  exact ⟨Wk.nil _ _ _, [], tkA q.l, [], by simp⟩
          · try (exfalso; have gq := c28; simp [h, hs, coinS_cells, build_coin, append_nilA, append_slA, h4, h3, fgoto_0, g3_2, g3_2p] at gq; first | done | omega)
            all_goals
             have c28p := c28
             try simp [h, hs, coinS_cells, build_coin, append_nilA, append_slA, h4, h3, fgoto_0, g3_2, g3_2p] at c28p
             all_goals (first | (have gq := c28p; skip) | have c28p : True := True.intro)
             all_goals
              refine run_skip ?_
              refine hK81 _ _ ?_
              refine run_seq_k fun K92 hK92 => ?_
              refine run_seq_k fun K93 hK93 => ?_
              refine run_region_k rfl fun J94 hJ94 => ?_
              repeat (first | simp [h, hs, coinS_cells, build_coin, append_nilA, append_slA, h4, h3, fgoto_0, g3_2, g3_2p, c28, c28p] | simp (disch := omega) only [wC, if_pos, if_neg])
              refine runL_call' (b := true) (by first | rfl | (simp [h, hs, coinS_cells, build_coin, append_nilA, append_slA, h4, h3, fgoto_0, g3_2, g3_2p, c28, c28p, wantedA]; done)) rfl rfl (by first | rfl | (simp [h, hs, coinS_cells, build_coin, append_nilA, append_slA, h4, h3, fgoto_0, g3_2, g3_2p, c28, c28p, callOf]; done)) (by simp) (bad_ok (hs _)) ?_
              rintro _ _ ⟨rfl, rfl⟩
              repeat (first | simp [h, hs, coinS_cells, build_coin, append_nilA, append_slA, h4, h3, fgoto_0, g3_2, g3_2p, c28, c28p] | simp (disch := omega) only [wC, if_pos, if_neg])
              refine hJ94 _ _ ?_
              refine hK93 _ _ ?_
              refine run_cond_split (by first | rfl | (simp [h, hs, coinS_cells, build_coin, append_nilA, append_slA, h4, h3, fgoto_0, g3_2, g3_2p, c28, c28p, evalA]; done)) (fun c32 => ?_) (fun c32 => ?_)
              · try (exfalso; have gq := c32; simp [h, hs, coinS_cells, build_coin, append_nilA, append_slA, h4, h3, fgoto_0, g3_2, g3_2p, c28, c28p] at gq; first | done | omega)
                all_goals
                 have c32p := c32
                 try simp [h, hs, coinS_cells, build_coin, append_nilA, append_slA, h4, h3, fgoto_0, g3_2, g3_2p, c28, c28p] at c32p
                 all_goals (first | (have gq := c32p; skip) | have c32p : True := True.intro)
                 all_goals
                  refine run_seq_k fun K95 hK95 => ?_
                  refine run_region_k rfl fun J96 hJ96 => ?_
                  repeat (first | simp [h, hs, coinS_cells, build_coin, append_nilA, append_slA, h4, h3, fgoto_0, g3_2, g3_2p, c28, c28p, c32, c32p] | simp (disch := omega) only [wC, if_pos, if_neg])
                  refine hJ96 _ _ ?_
                  refine hK95 _ _ ?_
                  refine run_ret ?_
                  try simp only [Then, InBlock, NoGoto]
                  refine answer_tmp rfl (.inr rfl) ?_
                  first | (obtain ⟨e1, e2⟩ := coinsR_none (L := q.l) (S := q.s) (by rw [← hg]; exact coinsGo_stop (.inr (by simpa using c32))) (.inr (by simpa using c32)); rw [e1, e2]; exact ⟨Wk.nil _ _ _, [], tkA q.l, [], by simp⟩) | (have h0 : takeS 1 s = none := (by simpa using c32); obtain ⟨e1, e2⟩ := coinsR_none (by rw [coinsR, coinsGo_stop (.inr h0)]) (.inr h0); rw [e1, e2]; exact ⟨Wk.nil _ _ _, [], [], [], by simp⟩)
              · try (exfalso; have gq := c32; simp [h, hs, coinS_cells, build_coin, append_nilA, append_slA, h4, h3, fgoto_0, g3_2, g3_2p, c28, c28p] at gq; first | done | omega)
                all_goals
                 have c32p := c32
                 try simp [h, hs, coinS_cells, build_coin, append_nilA, append_slA, h4, h3, fgoto_0, g3_2, g3_2p, c28, c28p] at c32p
                 all_goals (first | (have gq := c32p; skip) | have c32p : True := True.intro)
                 all_goals
                  refine run_skip ?_
                  refine hK92 _ _ ?_
                  refine run_seq_k fun K97 hK97 => ?_
                  refine run_region_k rfl fun J98 hJ98 => ?_
                  repeat (first | simp [h, hs, coinS_cells, build_coin, append_nilA, append_slA, h4, h3, fgoto_0, g3_2, g3_2p, c28, c28p, c32, c32p] | simp (disch := omega) only [wC, if_pos, if_neg])
                  refine hJ98 _ _ ?_
                  refine hK97 _ _ ?_
                  refine run_ret ?_
                  try simp only [Then, InBlock, NoGoto]
                  refine answer_tmp rfl (.inr rfl) ?_
                  first | (obtain ⟨e1, e2⟩ := coinsR_some (L := q.l) (S := q.s) (by rw [← hg]; exact coinsGo_stop (.inl (by simp at g3_2; omega))) (by simpa using c28) (by intro e; simp [e] at c32); rw [e1, e2]; exact ⟨wk_slA _ _, [], tkA q.l, [], by simp⟩) | (have h0 : be (takeB 1 s) = 0 := (by simp at g3_2; omega); obtain ⟨e1, e2⟩ := coinsR_some (by rw [coinsR, coinsGo_stop (.inl h0)]) (by decide) (by intro e; simp [e] at c32); rw [e1, e2]; exact ⟨Wk.nil _ _ _, [], [], [], by simp⟩)

theorem coinsGo_len : ∀ (m : Nat) (s : Option (List UInt8)) (l : List Coin), (coinsGo m s l).1.length ≤ m + l.length
  | 0, _, _ => by simp [coinsGo]
  | m + 1, none, l => by simp [coinsGo]
  | m + 1, some p, l => by
    have := coinsGo_len m (numS (takeS 1 (some p))) (l ++ [coinS (some p)])
    simp only [coinsGo, List.length_append, List.length_cons, List.length_nil] at this ⊢
    omega
theorem coinsL_le (s : Option (List UInt8)) : (coinsL s).length ≤ 255 := by
  unfold coinsL
  split
  · simp
  · have := coinsGo_len (be (takeB 1 s)) (takeS 1 s) []
    have hm := be_lt1 (takeB_len 1 s)
    simp only [List.length_nil] at this
    unfold coinsR
    omega

end Go.Proofs.Ytkbhdlocdajhmaa
