import Derived.Test.YtkbhdlocdajhmaaD3
/-
  The document's reader: numbers and coins.
-/
namespace Go.Proofs.Ytkbhdlocdajhmaa
set_option linter.unnecessarySimpa false
open Go Go.Vm
set_option linter.unusedSimpArgs false
set_option linter.unusedVariables false
set_option maxRecDepth 100000

attribute [local simp] evalL wantedA isCall opA evalA evalAll evalsA evalOpt ofValue ofCell plain binA_eql_pn binA_neq_pn binA_gtr binA_lss binA_geq binA_leq binA_add binA_sub binA_eql binA_neq binA_or binA_shl binA_shr binA_mul binA_quo binA_rem binA_agg_eql binA_agg_neq convA_int unA_not fieldAddrA loadA partA pickA_true pickA_false pickA_bb lenA builtinA storeA splice AV.cells AV.isCell sliceA boundA intA callOf indexAddrA newObjA buildA fillA zeroA ofCells buildSliceA indexA fieldA coinsC_at coinC inC

theorem callsA_gcI {σ : St} {P : Program} {f : FuncId} {args : List AV} {A : AV} {ι : Type} {Pi : ι → Prop} {x : ι → List AV} {id : Nat} (k : CallsA P f args σ (fun av σ' => ∃ i, Pi i ∧ Wk av A ∧ ∃ l m r, σ' = { σ with objs := σ.objs.set id (x i) ++ l, toks := σ.toks ++ m, rows := σ.rows ++ r }))
    (hA : A.under σ.bd = true) (hx : ∀ i, underL σ.bd (x i) = true) : CallsA P f args σ (fun av σ' => av = A ∧ ∃ i, Pi i ∧ σ' = { σ with objs := σ.objs.set id (x i) }) := by
  refine callsA_gc k (fun av σ0 ⟨i, hi, hw, l, m, r, h⟩ => ?_)
  subst h
  refine ⟨A, hw, hA, by simp, by simp, by simp, rfl, fun id' cs hid hc => ?_, fun j r0 hj hr => ?_, rfl, i, hi, ?_⟩
  · simp only at hc
    rw [List.getElem?_append_left (by simpa using hid)] at hc
    by_cases e : id = id'
    · subst e
      rw [List.getElem?_set_self hid] at hc
      cases hc; exact .inr (hx i)
    · rw [List.getElem?_set_ne e] at hc; exact .inl hc
  · simp only at hr
    rw [List.getElem?_append_left hj] at hr
    exact .inl ⟨r0, hr, rfl⟩
  · simp [St.trim]

theorem inC_under (B : Bd) (p : List UInt8) (k : Nat) (b : Bool) : underL B (inC p .shut k b) = true := by simp [inC, underL, AV.under]

theorem takeB_yes {p : List UInt8} {k n : Nat} (h : k + n ≤ p.length) : takeB n (some (p.drop k)) = (p.drop k).take n := by
  have h1 : n ≤ (p.drop k).length := by simp; omega
  show (if n ≤ (p.drop k).length then (p.drop k).take n else []) = _
  rw [if_pos h1]

attribute [local simp] undefA List.getElem?_cons_zero List.getElem?_cons_succ in
theorem inNum_ok {σ : St} {id k : Nat} {p : List UInt8} {s : Option (List UInt8)} (h : σ.objs[id]? = some (inC p .shut k s.isNone)) (hp : p.length ≤ 1000000) (hk : At p k s) :
    CallsA Try.prog 42 [.ptr id 0] σ (fun av σ' => av = .agg (numA (numOf (numB s))) ∧ ∃ k', At p k' (numS s) ∧ σ' = { σ with objs := σ.objs.set id (inC p .shut k' (numS s).isNone) }) := by
  refine callsA_gcI (x := fun k' => inC p .shut k' (numS s).isNone) ?_ rfl (fun _ => inC_under _ _ _ _)
  have hs := set_self_of h
  have hlt := lt_of_get h
  have hm := be_lt1 (takeB_len 1 s)
  have hw : IntKind.i64.wrap ((be (takeB 1 s) : Nat) : Int) = (be (takeB 1 s) : Nat) := wrap_i64 _ (by omega) (by omega)
  have ho1 : ∀ r, (σ.objs ++ r)[id]? = some (inC p .shut k s.isNone) := fun r => by rw [List.getElem?_append_left hlt]; exact h
  have ho2 : ∀ x r, (σ.objs.set id x ++ r)[id]? = some x := fun x r => by rw [List.getElem?_append_left (by simpa using hlt)]; exact hs x
  have ho3 : ∀ x r, (σ.objs ++ r).set id x = σ.objs.set id x ++ r := fun x r => List.set_append_left _ _ hlt
  have ho4 : ∀ x y r, (σ.objs.set id y ++ r).set id x = σ.objs.set id x ++ r := fun x y r => by rw [List.set_append_left _ _ (by simpa using hlt), List.set_set]
  refine callsA_body Try.func42 rfl rfl rfl ?_
  refine run_seq_k fun K1 hK1 => ?_
  refine run_region_k rfl fun J2 hJ2 => ?_
  repeat (first | simp [h, hs, hw, ho1, ho2, ho3, ho4] | simp (disch := omega) only [wC, if_pos, if_neg])
  refine hJ2 _ _ ?_
  refine hK1 _ _ ?_
  refine run_seq_k fun K3 hK3 => ?_
  refine run_region_k rfl fun J4 hJ4 => ?_
  repeat (first | simp [h, hs, hw, ho1, ho2, ho3, ho4] | simp (disch := omega) only [wC, if_pos, if_neg])
  refine runL_call' (b := true) (by first | rfl | (simp [h, hs, hw, ho1, ho2, ho3, ho4, wantedA]; done)) rfl rfl (by first | rfl | (simp [h, hs, hw, ho1, ho2, ho3, ho4, callOf]; done)) (by simp) (inByte_ok (ho1 _) hp hk) ?_
  rintro _ _ ⟨rfl, k1, hk1, rfl⟩
  repeat (first | simp [h, hs, hw, ho1, ho2, ho3, ho4] | simp (disch := omega) only [wC, if_pos, if_neg])
  refine hJ4 _ _ ?_
  refine hK3 _ _ ?_
  refine run_seq_k fun K5 hK5 => ?_
  refine run_seq_k fun K6 hK6 => ?_
  have hk1' : k1 ≤ p.length := hk1.1
  have hw2 : IntKind.i64.wrap ((p.length : Int) - k1) = ((p.length - k1 : Nat) : Int) := by rw [wrap_i64 _ (by omega) (by omega)]; omega
  refine run_draw (by kernel_rfl) fun J7 hJ7 => ?_
  refine rp 0 rfl rfl (by kernel_rfl) ?_
  repeat (first | simp [h, hs, hw, ho1, ho2, ho3, ho4, hw2] | simp (disch := omega) only [wC, if_pos, if_neg])
  refine rp 1 rfl rfl (by kernel_rfl) ?_
  repeat (first | simp [h, hs, hw, ho1, ho2, ho3, ho4, hw2] | simp (disch := omega) only [wC, if_pos, if_neg])
  refine rp 2 rfl rfl (by kernel_rfl) ?_
  repeat (first | simp [h, hs, hw, ho1, ho2, ho3, ho4, hw2] | simp (disch := omega) only [wC, if_pos, if_neg])
  refine rp 3 rfl rfl (by kernel_rfl) ?_
  repeat (first | simp [h, hs, hw, ho1, ho2, ho3, ho4, hw2] | simp (disch := omega) only [wC, if_pos, if_neg])
  refine rp 4 rfl rfl (by kernel_rfl) ?_
  repeat (first | simp [h, hs, hw, ho1, ho2, ho3, ho4, hw2] | simp (disch := omega) only [wC, if_pos, if_neg])
  refine runD_splitB 13 (by first | rfl | (simp [h, hs, hw, ho1, ho2, ho3, ho4, hw2]; done)) (fun g2_4 => ?_) (fun g2_4 => ?_)
  · try (exfalso; have gq := g2_4; simp [h, hs, hw, ho1, ho2, ho3, ho4, hw2] at gq; first | done | omega)
    all_goals
     have g2_4p := g2_4
     try simp [h, hs, hw, ho1, ho2, ho3, ho4, hw2] at g2_4p
     all_goals (first | (have gq := g2_4p; skip) | have g2_4p : True := True.intro)
     all_goals
        refine rp 5 rfl rfl (by kernel_rfl) ?_
        repeat (first | simp [h, hs, hw, ho1, ho2, ho3, ho4, hw2, g2_4, g2_4p] | simp (disch := omega) only [wC, if_pos, if_neg])
        refine rp 6 rfl rfl (by kernel_rfl) ?_
        repeat (first | simp [h, hs, hw, ho1, ho2, ho3, ho4, hw2, g2_4, g2_4p] | simp (disch := omega) only [wC, if_pos, if_neg])
        refine rp 7 rfl rfl (by kernel_rfl) ?_
        repeat (first | simp [h, hs, hw, ho1, ho2, ho3, ho4, hw2, g2_4, g2_4p] | simp (disch := omega) only [wC, if_pos, if_neg])
        refine rp 8 rfl rfl (by kernel_rfl) ?_
        repeat (first | simp [h, hs, hw, ho1, ho2, ho3, ho4, hw2, g2_4, g2_4p] | simp (disch := omega) only [wC, if_pos, if_neg])
        refine rp 9 rfl rfl (by kernel_rfl) ?_
        repeat (first | simp [h, hs, hw, ho1, ho2, ho3, ho4, hw2, g2_4, g2_4p] | simp (disch := omega) only [wC, if_pos, if_neg])
        refine rp 10 rfl rfl (by kernel_rfl) ?_
        repeat (first | simp [h, hs, hw, ho1, ho2, ho3, ho4, hw2, g2_4, g2_4p] | simp (disch := omega) only [wC, if_pos, if_neg])
        refine rp 11 rfl rfl (by kernel_rfl) ?_
        repeat (first | simp [h, hs, hw, ho1, ho2, ho3, ho4, hw2, g2_4, g2_4p] | simp (disch := omega) only [wC, if_pos, if_neg])
        refine rp 12 rfl rfl (by kernel_rfl) ?_
        repeat (first | simp [h, hs, hw, ho1, ho2, ho3, ho4, hw2, g2_4, g2_4p] | simp (disch := omega) only [wC, if_pos, if_neg])
        refine rp 13 rfl rfl (by kernel_rfl) ?_
        repeat (first | simp [h, hs, hw, ho1, ho2, ho3, ho4, hw2, g2_4, g2_4p] | simp (disch := omega) only [wC, if_pos, if_neg])
        refine rp 14 rfl rfl (by kernel_rfl) ?_
        repeat (first | simp [h, hs, hw, ho1, ho2, ho3, ho4, hw2, g2_4, g2_4p] | simp (disch := omega) only [wC, if_pos, if_neg])
        refine rp 15 rfl rfl (by kernel_rfl) ?_
        repeat (first | simp [h, hs, hw, ho1, ho2, ho3, ho4, hw2, g2_4, g2_4p] | simp (disch := omega) only [wC, if_pos, if_neg])
        refine rp 16 rfl rfl (by kernel_rfl) ?_
        repeat (first | simp [h, hs, hw, ho1, ho2, ho3, ho4, hw2, g2_4, g2_4p] | simp (disch := omega) only [wC, if_pos, if_neg])
        refine rp 17 rfl rfl (by kernel_rfl) ?_
        repeat (first | simp [h, hs, hw, ho1, ho2, ho3, ho4, hw2, g2_4, g2_4p] | simp (disch := omega) only [wC, if_pos, if_neg])
        refine runD_done (by kernel_rfl) (by kernel_rfl) (by kernel_rfl) ?_
        refine hJ7 _ _ ?_
        refine hK6 _ _ ?_
        refine run_cond_true (by first | rfl | (simp [h, hs, hw, ho1, ho2, ho3, ho4, hw2, g2_4, g2_4p, evalA]; done)) ?_
        refine run_seq_k fun K8 hK8 => ?_
        refine run_region_k rfl fun J9 hJ9 => ?_
        repeat (first | simp [h, hs, hw, ho1, ho2, ho3, ho4, hw2, g2_4, g2_4p] | simp (disch := omega) only [wC, if_pos, if_neg])
        refine hJ9 _ _ ?_
        refine hK8 _ _ ?_
        refine run_seq_k fun K10 hK10 => ?_
        refine run_region_k rfl fun J11 hJ11 => ?_
        repeat (first | simp [h, hs, hw, ho1, ho2, ho3, ho4, hw2, g2_4, g2_4p] | simp (disch := omega) only [wC, if_pos, if_neg])
        refine hJ11 _ _ ?_
        refine hK10 _ _ ?_
        refine run_ret ?_
        try simp only [Then, InBlock, NoGoto]
        refine answer_cell rfl (.inr rfl) ?_
        have h0 : takeS 1 s = none := g2_4p
        have e1 : numB s = [] := (by simp [numB, h0, takeB])
        have e2 : numS s = none := (by rw [numS, h0]; simp [takeS])
        simp [h, hs, hw, ho1, ho2, ho3, ho4, hw2, g2_4, g2_4p]
        refine ⟨k1, ⟨hk1.1, .inl e2⟩, ?_⟩
        rw [e1, e2]
        exact ⟨Wk.refl _, _, rfl⟩
  · try (exfalso; have gq := g2_4; simp [h, hs, hw, ho1, ho2, ho3, ho4, hw2] at gq; first | done | omega)
    all_goals
     have g2_4p := g2_4
     try simp [h, hs, hw, ho1, ho2, ho3, ho4, hw2] at g2_4p
     all_goals (first | (have gq := g2_4p; skip) | have g2_4p : True := True.intro)
     all_goals
        refine rp 5 rfl rfl (by kernel_rfl) ?_
        repeat (first | simp [h, hs, hw, ho1, ho2, ho3, ho4, hw2, g2_4, g2_4p] | simp (disch := omega) only [wC, if_pos, if_neg])
        refine rp 6 rfl rfl (by kernel_rfl) ?_
        repeat (first | simp [h, hs, hw, ho1, ho2, ho3, ho4, hw2, g2_4, g2_4p] | simp (disch := omega) only [wC, if_pos, if_neg])
        refine rp 7 rfl rfl (by kernel_rfl) ?_
        repeat (first | simp [h, hs, hw, ho1, ho2, ho3, ho4, hw2, g2_4, g2_4p] | simp (disch := omega) only [wC, if_pos, if_neg])
        refine rp 8 rfl rfl (by kernel_rfl) ?_
        repeat (first | simp [h, hs, hw, ho1, ho2, ho3, ho4, hw2, g2_4, g2_4p] | simp (disch := omega) only [wC, if_pos, if_neg])
        refine rp 9 rfl rfl (by kernel_rfl) ?_
        repeat (first | simp [h, hs, hw, ho1, ho2, ho3, ho4, hw2, g2_4, g2_4p] | simp (disch := omega) only [wC, if_pos, if_neg])
        refine rp 10 rfl rfl (by kernel_rfl) ?_
        repeat (first | simp [h, hs, hw, ho1, ho2, ho3, ho4, hw2, g2_4, g2_4p] | simp (disch := omega) only [wC, if_pos, if_neg])
        refine rp 11 rfl rfl (by kernel_rfl) ?_
        repeat (first | simp [h, hs, hw, ho1, ho2, ho3, ho4, hw2, g2_4, g2_4p] | simp (disch := omega) only [wC, if_pos, if_neg])
        refine rp 12 rfl rfl (by kernel_rfl) ?_
        repeat (first | simp [h, hs, hw, ho1, ho2, ho3, ho4, hw2, g2_4, g2_4p] | simp (disch := omega) only [wC, if_pos, if_neg])
        refine rp 13 rfl rfl (by kernel_rfl) ?_
        repeat (first | simp [h, hs, hw, ho1, ho2, ho3, ho4, hw2, g2_4, g2_4p] | simp (disch := omega) only [wC, if_pos, if_neg])
        refine rp 14 rfl rfl (by kernel_rfl) ?_
        repeat (first | simp [h, hs, hw, ho1, ho2, ho3, ho4, hw2, g2_4, g2_4p] | simp (disch := omega) only [wC, if_pos, if_neg])
        refine rp 15 rfl rfl (by kernel_rfl) ?_
        repeat (first | simp [h, hs, hw, ho1, ho2, ho3, ho4, hw2, g2_4, g2_4p] | simp (disch := omega) only [wC, if_pos, if_neg])
        refine rp 16 rfl rfl (by kernel_rfl) ?_
        repeat (first | simp [h, hs, hw, ho1, ho2, ho3, ho4, hw2, g2_4, g2_4p] | simp (disch := omega) only [wC, if_pos, if_neg])
        refine rp 17 rfl rfl (by kernel_rfl) ?_
        repeat (first | simp [h, hs, hw, ho1, ho2, ho3, ho4, hw2, g2_4, g2_4p] | simp (disch := omega) only [wC, if_pos, if_neg])
        refine runD_done (by kernel_rfl) (by kernel_rfl) (by kernel_rfl) ?_
        refine hJ7 _ _ ?_
        refine hK6 _ _ ?_
        refine run_cond_split (by first | rfl | (simp [h, hs, hw, ho1, ho2, ho3, ho4, hw2, g2_4, g2_4p, evalA]; done)) (fun c26 => ?_) (fun c26 => ?_)
        · try (exfalso; have gq := c26; simp [h, hs, hw, ho1, ho2, ho3, ho4, hw2, g2_4, g2_4p] at gq; first | done | omega)
          all_goals
           have c26p := c26
           try simp [h, hs, hw, ho1, ho2, ho3, ho4, hw2, g2_4, g2_4p] at c26p
           all_goals (first | (have gq := c26p; skip) | have c26p : True := True.intro)
           all_goals
            refine run_seq_k fun K12 hK12 => ?_
            refine run_region_k rfl fun J13 hJ13 => ?_
            repeat (first | simp [h, hs, hw, ho1, ho2, ho3, ho4, hw2, g2_4, g2_4p, c26, c26p] | simp (disch := omega) only [wC, if_pos, if_neg])
            refine hJ13 _ _ ?_
            refine hK12 _ _ ?_
            refine run_seq_k fun K14 hK14 => ?_
            refine run_region_k rfl fun J15 hJ15 => ?_
            repeat (first | simp [h, hs, hw, ho1, ho2, ho3, ho4, hw2, g2_4, g2_4p, c26, c26p] | simp (disch := omega) only [wC, if_pos, if_neg])
            refine hJ15 _ _ ?_
            refine hK14 _ _ ?_
            refine run_ret ?_
            try simp only [Then, InBlock, NoGoto]
            refine answer_cell rfl (.inr rfl) ?_
            have h0 : takeS 1 s = some (p.drop k1) := hk1.2.resolve_left (by intro e; simp [e] at g2_4p)
            have e1 : numB s = [] := (by rw [numB, h0]; exact takeB_no hk1' (by omega))
            have e2 : numS s = none := (by rw [numS, e1, h0]; exact takeS_no hk1' (by omega))
            simp [h, hs, hw, ho1, ho2, ho3, ho4, hw2, g2_4, g2_4p, c26, c26p]
            refine ⟨k1, ⟨hk1.1, .inl e2⟩, ?_⟩
            rw [e1, e2]
            exact ⟨Wk.refl _, _, rfl⟩
        · try (exfalso; have gq := c26; simp [h, hs, hw, ho1, ho2, ho3, ho4, hw2, g2_4, g2_4p] at gq; first | done | omega)
          all_goals
           have c26p := c26
           try simp [h, hs, hw, ho1, ho2, ho3, ho4, hw2, g2_4, g2_4p] at c26p
           all_goals (first | (have gq := c26p; skip) | have c26p : True := True.intro)
           all_goals
            refine run_skip ?_
            refine hK5 _ _ ?_
            refine run_seq_k fun K16 hK16 => ?_
            have hn1 : ((k1 : Int) + (be (takeB 1 s) : Nat)).toNat - k1 = be (takeB 1 s) := by omega
            refine run_draw (by kernel_rfl) fun J17 hJ17 => ?_
            refine rp 0 rfl rfl (by kernel_rfl) ?_
            repeat (first | simp [h, hs, hw, ho1, ho2, ho3, ho4, hw2, g2_4, g2_4p, c26, c26p, hn1, bytesA_drop, bytesA_take] | simp (disch := omega) only [wC, if_pos, if_neg])
            refine rp 1 rfl rfl (by kernel_rfl) ?_
            repeat (first | simp [h, hs, hw, ho1, ho2, ho3, ho4, hw2, g2_4, g2_4p, c26, c26p, hn1, bytesA_drop, bytesA_take] | simp (disch := omega) only [wC, if_pos, if_neg])
            refine rp 2 rfl rfl (by kernel_rfl) ?_
            repeat (first | simp [h, hs, hw, ho1, ho2, ho3, ho4, hw2, g2_4, g2_4p, c26, c26p, hn1, bytesA_drop, bytesA_take] | simp (disch := omega) only [wC, if_pos, if_neg])
            refine rp 3 rfl rfl (by kernel_rfl) ?_
            repeat (first | simp [h, hs, hw, ho1, ho2, ho3, ho4, hw2, g2_4, g2_4p, c26, c26p, hn1, bytesA_drop, bytesA_take] | simp (disch := omega) only [wC, if_pos, if_neg])
            refine rp 4 rfl rfl (by kernel_rfl) ?_
            repeat (first | simp [h, hs, hw, ho1, ho2, ho3, ho4, hw2, g2_4, g2_4p, c26, c26p, hn1, bytesA_drop, bytesA_take] | simp (disch := omega) only [wC, if_pos, if_neg])
            refine rp 5 rfl rfl (by kernel_rfl) ?_
            repeat (first | simp [h, hs, hw, ho1, ho2, ho3, ho4, hw2, g2_4, g2_4p, c26, c26p, hn1, bytesA_drop, bytesA_take] | simp (disch := omega) only [wC, if_pos, if_neg])
            refine rp 6 rfl rfl (by kernel_rfl) ?_
            repeat (first | simp [h, hs, hw, ho1, ho2, ho3, ho4, hw2, g2_4, g2_4p, c26, c26p, hn1, bytesA_drop, bytesA_take] | simp (disch := omega) only [wC, if_pos, if_neg])
            refine rp 7 rfl rfl (by kernel_rfl) ?_
            repeat (first | simp [h, hs, hw, ho1, ho2, ho3, ho4, hw2, g2_4, g2_4p, c26, c26p, hn1, bytesA_drop, bytesA_take] | simp (disch := omega) only [wC, if_pos, if_neg])
            refine rp 8 rfl rfl (by kernel_rfl) ?_
            repeat (first | simp [h, hs, hw, ho1, ho2, ho3, ho4, hw2, g2_4, g2_4p, c26, c26p, hn1, bytesA_drop, bytesA_take] | simp (disch := omega) only [wC, if_pos, if_neg])
            refine rp 9 rfl rfl (by kernel_rfl) ?_
            repeat (first | simp [h, hs, hw, ho1, ho2, ho3, ho4, hw2, g2_4, g2_4p, c26, c26p, hn1, bytesA_drop, bytesA_take] | simp (disch := omega) only [wC, if_pos, if_neg])
            refine rp 10 rfl rfl (by kernel_rfl) ?_
            repeat (first | simp [h, hs, hw, ho1, ho2, ho3, ho4, hw2, g2_4, g2_4p, c26, c26p, hn1, bytesA_drop, bytesA_take] | simp (disch := omega) only [wC, if_pos, if_neg])
            refine rp 11 rfl rfl (by kernel_rfl) ?_
            repeat (first | simp [h, hs, hw, ho1, ho2, ho3, ho4, hw2, g2_4, g2_4p, c26, c26p, hn1, bytesA_drop, bytesA_take] | simp (disch := omega) only [wC, if_pos, if_neg])
            refine rp 12 rfl rfl (by kernel_rfl) ?_
            repeat (first | simp [h, hs, hw, ho1, ho2, ho3, ho4, hw2, g2_4, g2_4p, c26, c26p, hn1, bytesA_drop, bytesA_take] | simp (disch := omega) only [wC, if_pos, if_neg])
            refine rp 13 rfl rfl (by kernel_rfl) ?_
            repeat (first | simp [h, hs, hw, ho1, ho2, ho3, ho4, hw2, g2_4, g2_4p, c26, c26p, hn1, bytesA_drop, bytesA_take] | simp (disch := omega) only [wC, if_pos, if_neg])
            refine rp 14 rfl rfl (by kernel_rfl) ?_
            repeat (first | simp [h, hs, hw, ho1, ho2, ho3, ho4, hw2, g2_4, g2_4p, c26, c26p, hn1, bytesA_drop, bytesA_take] | simp (disch := omega) only [wC, if_pos, if_neg])
            refine runD_two 15 19 (by kernel_rfl) (by kernel_rfl) (by kernel_rfl) ?_ ?_
            -- 15
            · refine altD_call 15 (by kernel_rfl) rfl (by kernel_rfl) (by kernel_rfl) (by first | rfl | (simp [h, hs, hw, ho1, ho2, ho3, ho4, hw2, g2_4, g2_4p, c26, c26p, hn1, bytesA_drop, bytesA_take]; done)) (by first | rfl | (simp [h, hs, hw, ho1, ho2, ho3, ho4, hw2, g2_4, g2_4p, c26, c26p, hn1, bytesA_drop, bytesA_take]; done)) (by simp) (rread_at (p := (p.drop k1).take (be (takeB 1 s))) (n := be (takeB 1 s)) (tl := .shut) (by simp; omega) (by simp; omega)) ?_
              rintro _ _ ⟨rfl, rfl⟩
              refine ⟨fun _ _ h => h, ?_⟩
              repeat (first | simp [h, hs, hw, ho1, ho2, ho3, ho4, hw2, g2_4, g2_4p, c26, c26p, hn1, bytesA_drop, bytesA_take] | simp (disch := omega) only [wC, if_pos, if_neg])
              refine rp 16 rfl rfl (by kernel_rfl) ?_
              repeat (first | simp [h, hs, hw, ho1, ho2, ho3, ho4, hw2, g2_4, g2_4p, c26, c26p, hn1, bytesA_drop, bytesA_take] | simp (disch := omega) only [wC, if_pos, if_neg])
              refine rp 17 rfl rfl (by kernel_rfl) ?_
              repeat (first | simp [h, hs, hw, ho1, ho2, ho3, ho4, hw2, g2_4, g2_4p, c26, c26p, hn1, bytesA_drop, bytesA_take] | simp (disch := omega) only [wC, if_pos, if_neg])
              refine rp 18 rfl rfl (by kernel_rfl) ?_
              repeat (first | simp [h, hs, hw, ho1, ho2, ho3, ho4, hw2, g2_4, g2_4p, c26, c26p, hn1, bytesA_drop, bytesA_take] | simp (disch := omega) only [wC, if_pos, if_neg])
              refine runD_op' 19 (by kernel_rfl) (by kernel_rfl) (by kernel_rfl) rfl (by kernel_rfl) (by kernel_rfl) (by kernel_rfl) ?_
              repeat (first | simp [h, hs, hw, ho1, ho2, ho3, ho4, hw2, g2_4, g2_4p, c26, c26p, hn1, bytesA_drop, bytesA_take] | simp (disch := omega) only [wC, if_pos, if_neg])
              refine ⟨by first | exact later_more _ (by kernel_rfl) | exact later_more2 (by kernel_rfl) rfl, ?_⟩
              refine runD_op' 20 (by kernel_rfl) (by kernel_rfl) (by kernel_rfl) rfl (by kernel_rfl) (by kernel_rfl) (by kernel_rfl) ?_
              repeat (first | simp [h, hs, hw, ho1, ho2, ho3, ho4, hw2, g2_4, g2_4p, c26, c26p, hn1, bytesA_drop, bytesA_take] | simp (disch := omega) only [wC, if_pos, if_neg])
              refine ⟨later_tmp (by kernel_rfl), ?_⟩
              refine rp 21 rfl rfl (by kernel_rfl) ?_
              repeat (first | simp [h, hs, hw, ho1, ho2, ho3, ho4, hw2, g2_4, g2_4p, c26, c26p, hn1, bytesA_drop, bytesA_take] | simp (disch := omega) only [wC, if_pos, if_neg])
              refine runD_done (by kernel_rfl) (by kernel_rfl) (by kernel_rfl) ?_
              refine hJ17 _ _ ?_
              refine hK16 _ _ ?_
              refine run_seq_k fun K18 hK18 => ?_
              refine run_region_k rfl fun J19 hJ19 => ?_
              repeat (first | simp [h, hs, hw, ho1, ho2, ho3, ho4, hw2, g2_4, g2_4p, c26, c26p, hn1, bytesA_drop, bytesA_take] | simp (disch := omega) only [wC, if_pos, if_neg])
              refine hJ19 _ _ ?_
              refine hK18 _ _ ?_
              refine run_seq_k fun K20 hK20 => ?_
              refine run_region_k rfl fun J21 hJ21 => ?_
              repeat (first | simp [h, hs, hw, ho1, ho2, ho3, ho4, hw2, g2_4, g2_4p, c26, c26p, hn1, bytesA_drop, bytesA_take] | simp (disch := omega) only [wC, if_pos, if_neg])
              refine hJ21 _ _ ?_
              refine hK20 _ _ ?_
              refine run_seq_k fun K22 hK22 => ?_
              refine run_region_k rfl fun J23 hJ23 => ?_
              repeat (first | simp [h, hs, hw, ho1, ho2, ho3, ho4, hw2, g2_4, g2_4p, c26, c26p, hn1, bytesA_drop, bytesA_take] | simp (disch := omega) only [wC, if_pos, if_neg])
              refine hJ23 _ _ ?_
              refine hK22 _ _ ?_
              refine run_ret ?_
              try simp only [Then, InBlock, NoGoto]
              refine answer_cell rfl (.inr rfl) ?_
              have h0 : takeS 1 s = some (p.drop k1) := hk1.2.resolve_left (by intro e; simp [e] at g2_4p)
              have e1 : numB s = (p.drop k1).take (be (takeB 1 s)) := (by rw [numB, h0]; exact takeB_yes (by omega))
              have e2 : numS s = if numOk (numB s) then some (p.drop (k1 + be (takeB 1 s))) else none := (by rw [numS, h0, takeS_some (by omega)])
              rw [← e1]
              simp [h, hs, hw, ho1, ho2, ho3, ho4, hw2, g2_4, g2_4p, c26, c26p, hn1, bytesA_drop, bytesA_take]
              refine ⟨k1 + be (takeB 1 s), ⟨by omega, ?_⟩, Wk.refl _, ?_⟩
              · rw [e2]; cases numOk (numB s) <;> simp
              · rw [e2]; cases numOk (numB s) <;> simp
            -- 19
            · refine altD_op' 19 (by kernel_rfl) rfl (by kernel_rfl) (by kernel_rfl) (by first | rfl | (simp [h, hs, hw, ho1, ho2, ho3, ho4, hw2, g2_4, g2_4p, c26, c26p, hn1, bytesA_drop, bytesA_take]; done)) ?_
              repeat (first | simp [h, hs, hw, ho1, ho2, ho3, ho4, hw2, g2_4, g2_4p, c26, c26p, hn1, bytesA_drop, bytesA_take] | simp (disch := omega) only [wC, if_pos, if_neg])
              refine ⟨by first | exact later_more _ (by kernel_rfl) | exact later_more2 (by kernel_rfl) rfl, ?_⟩
              refine runD_call 15 (by kernel_rfl) (by kernel_rfl) (by kernel_rfl) rfl (by kernel_rfl) (by kernel_rfl) (by kernel_rfl) (by first | rfl | (simp [h, hs, hw, ho1, ho2, ho3, ho4, hw2, g2_4, g2_4p, c26, c26p, hn1, bytesA_drop, bytesA_take]; done)) (by first | rfl | (simp [h, hs, hw, ho1, ho2, ho3, ho4, hw2, g2_4, g2_4p, c26, c26p, hn1, bytesA_drop, bytesA_take]; done)) (by simp) (rread_at (p := (p.drop k1).take (be (takeB 1 s))) (n := be (takeB 1 s)) (tl := .shut) (by simp; omega) (by simp; omega)) ?_
              rintro _ _ ⟨rfl, rfl⟩
              refine ⟨fun _ _ h => h, ?_⟩
              repeat (first | simp [h, hs, hw, ho1, ho2, ho3, ho4, hw2, g2_4, g2_4p, c26, c26p, hn1, bytesA_drop, bytesA_take] | simp (disch := omega) only [wC, if_pos, if_neg])
              refine rp 16 rfl rfl (by kernel_rfl) ?_
              repeat (first | simp [h, hs, hw, ho1, ho2, ho3, ho4, hw2, g2_4, g2_4p, c26, c26p, hn1, bytesA_drop, bytesA_take] | simp (disch := omega) only [wC, if_pos, if_neg])
              refine rp 17 rfl rfl (by kernel_rfl) ?_
              repeat (first | simp [h, hs, hw, ho1, ho2, ho3, ho4, hw2, g2_4, g2_4p, c26, c26p, hn1, bytesA_drop, bytesA_take] | simp (disch := omega) only [wC, if_pos, if_neg])
              refine rp 18 rfl rfl (by kernel_rfl) ?_
              repeat (first | simp [h, hs, hw, ho1, ho2, ho3, ho4, hw2, g2_4, g2_4p, c26, c26p, hn1, bytesA_drop, bytesA_take] | simp (disch := omega) only [wC, if_pos, if_neg])
              refine runD_op' 20 (by kernel_rfl) (by kernel_rfl) (by kernel_rfl) rfl (by kernel_rfl) (by kernel_rfl) (by kernel_rfl) ?_
              repeat (first | simp [h, hs, hw, ho1, ho2, ho3, ho4, hw2, g2_4, g2_4p, c26, c26p, hn1, bytesA_drop, bytesA_take] | simp (disch := omega) only [wC, if_pos, if_neg])
              refine ⟨later_tmp (by kernel_rfl), ?_⟩
              refine rp 21 rfl rfl (by kernel_rfl) ?_
              repeat (first | simp [h, hs, hw, ho1, ho2, ho3, ho4, hw2, g2_4, g2_4p, c26, c26p, hn1, bytesA_drop, bytesA_take] | simp (disch := omega) only [wC, if_pos, if_neg])
              refine runD_done (by kernel_rfl) (by kernel_rfl) (by kernel_rfl) ?_
              refine hJ17 _ _ ?_
              refine hK16 _ _ ?_
              refine run_seq_k fun K24 hK24 => ?_
              refine run_region_k rfl fun J25 hJ25 => ?_
              repeat (first | simp [h, hs, hw, ho1, ho2, ho3, ho4, hw2, g2_4, g2_4p, c26, c26p, hn1, bytesA_drop, bytesA_take] | simp (disch := omega) only [wC, if_pos, if_neg])
              refine hJ25 _ _ ?_
              refine hK24 _ _ ?_
              refine run_seq_k fun K26 hK26 => ?_
              refine run_region_k rfl fun J27 hJ27 => ?_
              repeat (first | simp [h, hs, hw, ho1, ho2, ho3, ho4, hw2, g2_4, g2_4p, c26, c26p, hn1, bytesA_drop, bytesA_take] | simp (disch := omega) only [wC, if_pos, if_neg])
              refine hJ27 _ _ ?_
              refine hK26 _ _ ?_
              refine run_seq_k fun K28 hK28 => ?_
              refine run_region_k rfl fun J29 hJ29 => ?_
              repeat (first | simp [h, hs, hw, ho1, ho2, ho3, ho4, hw2, g2_4, g2_4p, c26, c26p, hn1, bytesA_drop, bytesA_take] | simp (disch := omega) only [wC, if_pos, if_neg])
              refine hJ29 _ _ ?_
              refine hK28 _ _ ?_
              refine run_ret ?_
              try simp only [Then, InBlock, NoGoto]
              refine answer_cell rfl (.inr rfl) ?_
              have h0 : takeS 1 s = some (p.drop k1) := hk1.2.resolve_left (by intro e; simp [e] at g2_4p)
              have e1 : numB s = (p.drop k1).take (be (takeB 1 s)) := (by rw [numB, h0]; exact takeB_yes (by omega))
              have e2 : numS s = if numOk (numB s) then some (p.drop (k1 + be (takeB 1 s))) else none := (by rw [numS, h0, takeS_some (by omega)])
              rw [← e1]
              simp [h, hs, hw, ho1, ho2, ho3, ho4, hw2, g2_4, g2_4p, c26, c26p, hn1, bytesA_drop, bytesA_take]
              refine ⟨k1 + be (takeB 1 s), ⟨by omega, ?_⟩, Wk.refl _, ?_⟩
              · rw [e2]; cases numOk (numB s) <;> simp
              · rw [e2]; cases numOk (numB s) <;> simp

end Go.Proofs.Ytkbhdlocdajhmaa
