import Derived.Test.YtkbhdlocdajhmaaD6
/-
  CodecReads: what it computes.
-/
namespace Go.Proofs.Ytkbhdlocdajhmaa
set_option linter.unnecessarySimpa false
open Go Go.Vm
set_option linter.unusedSimpArgs false
set_option linter.unusedVariables false
set_option maxRecDepth 100000

attribute [local simp] evalL wantedA isCall opA evalA evalAll evalsA evalOpt ofValue ofCell plain binA_eql_pn binA_neq_pn binA_gtr binA_lss binA_geq binA_leq binA_add binA_sub binA_eql binA_neq binA_or binA_shl binA_shr binA_mul binA_quo binA_rem binA_agg_eql binA_agg_neq convA_int unA_not fieldAddrA loadA partA pickA_true pickA_false pickA_bb lenA builtinA storeA splice AV.cells AV.isCell sliceA boundA intA callOf indexAddrA newObjA buildA fillA zeroA ofCells buildSliceA indexA fieldA coinsC_at

theorem callsA_gcJ {σ : St} {P : Program} {f : FuncId} {args : List AV} {A : AV} {ι : Type} {Pi : ι → Prop} {τ : ι → List (List AV)} (k : CallsA P f args σ (fun av σ' => ∃ i, Pi i ∧ Wk av A ∧ ∃ l m r, σ' = { σ with objs := τ i ++ l, toks := σ.toks ++ m, rows := σ.rows ++ r }))
    (hA : A.under σ.bd = true) (hl : ∀ i, (τ i).length = σ.objs.length) (hx : ∀ i (id : Nat) cs, (τ i)[id]? = some cs → σ.objs[id]? = some cs ∨ underL σ.bd cs = true) : CallsA P f args σ (fun av σ' => av = A ∧ ∃ i, Pi i ∧ σ' = { σ with objs := τ i }) := by
  refine callsA_gc k (fun av σ0 ⟨i, hi, hw, l, m, r, h⟩ => ?_)
  subst h
  have hl := hl i
  refine ⟨A, hw, hA, by simp [hl], by simp, by simp, rfl, fun id' cs hid hc => ?_, fun j r0 hj hr => ?_, rfl, i, hi, ?_⟩
  · simp only at hc
    rw [List.getElem?_append_left (by omega)] at hc
    exact hx i id' cs hc
  · simp only at hr
    rw [List.getElem?_append_left hj] at hr
    exact .inl ⟨r0, hr, rfl⟩
  · simp [St.trim, ← hl]

def readS (k : Nat) (s : Option (List UInt8)) : Option (List UInt8) :=
  if k % 6 = 0 then takeS 1 s else if k % 6 = 1 then flagS s else if k % 6 = 2 then takeS 2 s else if k % 6 = 3 then takeS 8 s else if k % 6 = 4 then numS s else coinsS s

attribute [local simp] undefA List.getElem?_cons_zero List.getElem?_cons_succ in
theorem reads_ok {σ : St} {id1 id2 k : Nat} {p : List UInt8} {s : Option (List UInt8)} {kd : UInt8} (h1 : σ.objs[id1]? = some (rd s)) (h2 : σ.objs[id2]? = some (inC p .shut k s.isNone)) (hne : ¬ id1 = id2) (hp : p.length ≤ 1000000) (hk : At p k s) :
    CallsA Try.prog 22 [.ptr id1 0, .ptr id2 0, .v (.int .u8 kd.toNat)] σ (fun av σ' => av = .v (.bool true) ∧ ∃ k', At p k' (readS kd.toNat s) ∧ σ' = { σ with objs := (σ.objs.set id1 (rd (readS kd.toNat s))).set id2 (inC p .shut k' (readS kd.toNat s).isNone) }) := by
  refine callsA_gcJ (τ := fun k' => (σ.objs.set id1 (rd (readS kd.toNat s))).set id2 (inC p .shut k' (readS kd.toNat s).isNone)) ?_ rfl (fun _ => by simp) (fun _ => ku_set (ku_set (ku_refl _) (rd_under _ _)) (inC_under _ _ _ _))
  have l1 := lt_of_get h1
  have l2 := lt_of_get h2
  have g0 : ∀ a, (σ.objs.set id1 a)[id2]? = some (inC p .shut k s.isNone) := fun a => by rw [List.getElem?_set_ne hne]; exact h2
  have g1 : ∀ a b, ((σ.objs.set id1 a).set id2 b)[id1]? = some a := fun a b => by rw [List.getElem?_set_ne (Ne.symm hne)]; exact set_self_of h1 a
  have g2 : ∀ a b, ((σ.objs.set id1 a).set id2 b)[id2]? = some b := fun a b => by simp [l2]
  have g1' : ∀ a b l, ((σ.objs.set id1 a).set id2 b ++ l)[id1]? = some a := fun a b l => by rw [List.getElem?_append_left (by simpa using l1)]; exact g1 a b
  have g2' : ∀ a b l, ((σ.objs.set id1 a).set id2 b ++ l)[id2]? = some b := fun a b l => by rw [List.getElem?_append_left (by simpa using l2)]; exact g2 a b
  have hbb : ∀ (xo yo : Operand) (a b : Bool), binA Try.prog .eql 4 xo yo (.v (.bool a)) (.v (.bool b)) = some (.v (.bool (a == b))) := by intro xo yo a b; cases a <;> cases b <;> rfl
  have h16 : IntKind.u64.wrap (be (takeB 2 s) : Nat) = (be (takeB 2 s) : Nat) := by rw [wrap_u64, Nat.mod_eq_of_lt (by have := be_lt2 (takeB_len 2 s); omega)]
  have hkd := kd.toNat_lt
  have htm : ∀ x : Int, x = (kd.toNat : Int).tmod 6 → x = ((kd.toNat % 6 : Nat) : Int) := fun x hx => by rw [hx, Int.tmod_eq_emod_of_nonneg (by omega)]; rfl
  have htm := htm _ rfl
  have hnn : ∀ x, cellsEqA (numA x) (numA x) = true := fun x => by simp [cellsEq_numA]
  have hcl := coinsL_le s
  have hi2 : ∀ k b, (inC p .shut k b)[2]? = some (.v (.bool b)) := fun _ _ => rfl
  refine callsA_body Try.func22 rfl rfl rfl ?_
  refine run_seq_k fun K1 hK1 => ?_
  refine run_region_k rfl fun J2 hJ2 => ?_
  repeat (first | simp [hbb, h16, hi2, hnn, g1', g2', g1, g2] | simp (disch := omega) only [wC, if_pos, if_neg])
  refine hJ2 _ _ ?_
  refine hK1 _ _ ?_
  refine run_seq_k fun K3 hK3 => ?_
  refine run_region_k rfl fun J4 hJ4 => ?_
  repeat (first | simp [hbb, h16, hi2, hnn, g1', g2', g1, g2] | simp (disch := omega) only [wC, if_pos, if_neg])
  refine hJ4 _ _ ?_
  refine hK3 _ _ ?_
  refine run_seq_k fun K5 hK5 => ?_
  refine run_seq_k fun K6 hK6 => ?_
  refine run_region_k rfl fun J7 hJ7 => ?_
  repeat (first | simp [hbb, h16, hi2, hnn, g1', g2', g1, g2] | simp (disch := omega) only [wC, if_pos, if_neg])
  refine hJ7 _ _ ?_
  refine hK6 _ _ ?_
  refine run_block_k ?_
  refine run_seq_k fun K8 hK8 => ?_
  refine run_region_k rfl fun J9 hJ9 => ?_
  repeat (first | simp [hbb, h16, hi2, hnn, g1', g2', g1, g2] | simp (disch := omega) only [wC, if_pos, if_neg])
  refine hJ9 _ _ ?_
  refine hK8 _ _ ?_
  refine run_cond_split (by first | rfl | (simp [hbb, h16, hi2, hnn, g1', g2', g1, g2, evalA]; done)) (fun c29 => ?_) (fun c29 => ?_)
  · try (exfalso; have gq := c29; simp [hbb, h16, hi2, hnn, g1', g2', g1, g2] at gq; first | done | omega)
    all_goals
     have c29p := c29
     try simp [hbb, h16, hi2, hnn, g1', g2', g1, g2] at c29p
     all_goals (first | (have gq := c29p; skip) | have c29p : True := True.intro)
     all_goals
      refine run_seq_k fun K10 hK10 => ?_
      refine run_region_k rfl fun J11 hJ11 => ?_
      repeat (first | simp [hbb, h16, hi2, hnn, g1', g2', g1, g2, c29, c29p] | simp (disch := omega) only [wC, if_pos, if_neg])
      refine runL_call' (b := true) (by first | rfl | (simp [hbb, h16, hi2, hnn, g1', g2', g1, g2, c29, c29p, wantedA]; done)) rfl rfl (by first | rfl | (simp [hbb, h16, hi2, hnn, g1', g2', g1, g2, c29, c29p, callOf]; done)) (by simp) (byte_ok h1) ?_
      rintro _ _ ⟨rfl, rfl⟩
      repeat (first | simp [hbb, h16, hi2, hnn, g1', g2', g1, g2, c29, c29p] | simp (disch := omega) only [wC, if_pos, if_neg])
      refine runL_call' (b := true) (by first | rfl | (simp [hbb, h16, hi2, hnn, g1', g2', g1, g2, c29, c29p, wantedA]; done)) rfl rfl (by first | rfl | (simp [hbb, h16, hi2, hnn, g1', g2', g1, g2, c29, c29p, callOf]; done)) (by simp) (inByte_ok (g0 _) hp hk) ?_
      rintro _ _ ⟨rfl, k1, hk1, rfl⟩
      repeat (first | simp [hbb, h16, hi2, hnn, g1', g2', g1, g2, c29, c29p] | simp (disch := omega) only [wC, if_pos, if_neg])
      refine hJ11 _ _ ?_
      refine hK10 _ _ ?_
      refine run_region_k rfl fun J12 hJ12 => ?_
      repeat (first | simp [hbb, h16, hi2, hnn, g1', g2', g1, g2, c29, c29p] | simp (disch := omega) only [wC, if_pos, if_neg])
      refine hJ12 _ _ ?_
      refine hK5 _ _ ?_
      refine run_seq_k fun K13 hK13 => ?_
      refine run_draw (by kernel_rfl) fun J14 hJ14 => ?_
      refine rp 0 rfl rfl (by kernel_rfl) ?_
      repeat (first | simp [hbb, h16, hi2, hnn, g1', g2', g1, g2, c29, c29p] | simp (disch := omega) only [wC, if_pos, if_neg])
      refine rp 1 rfl rfl (by kernel_rfl) ?_
      repeat (first | simp [hbb, h16, hi2, hnn, g1', g2', g1, g2, c29, c29p] | simp (disch := omega) only [wC, if_pos, if_neg])
      refine rp 2 rfl rfl (by kernel_rfl) ?_
      repeat (first | simp [hbb, h16, hi2, hnn, g1', g2', g1, g2, c29, c29p] | simp (disch := omega) only [wC, if_pos, if_neg])
      refine rp 4 rfl rfl (by kernel_rfl) ?_
      repeat (first | simp [hbb, h16, hi2, hnn, g1', g2', g1, g2, c29, c29p] | simp (disch := omega) only [wC, if_pos, if_neg])
      refine rp 5 rfl rfl (by kernel_rfl) ?_
      repeat (first | simp [hbb, h16, hi2, hnn, g1', g2', g1, g2, c29, c29p] | simp (disch := omega) only [wC, if_pos, if_neg])
      refine rp 6 rfl rfl (by kernel_rfl) ?_
      repeat (first | simp [hbb, h16, hi2, hnn, g1', g2', g1, g2, c29, c29p] | simp (disch := omega) only [wC, if_pos, if_neg])
      refine rp 7 rfl rfl (by kernel_rfl) ?_
      repeat (first | simp [hbb, h16, hi2, hnn, g1', g2', g1, g2, c29, c29p] | simp (disch := omega) only [wC, if_pos, if_neg])
      refine runD_call 3 (by kernel_rfl) (by kernel_rfl) (by kernel_rfl) rfl (by kernel_rfl) (by kernel_rfl) (by kernel_rfl) (by first | rfl | (simp [hbb, h16, hi2, hnn, g1', g2', g1, g2, c29, c29p]; done)) (by first | rfl | (simp [hbb, h16, hi2, hnn, g1', g2', g1, g2, c29, c29p]; done)) (by simp) (bad_ok (by first | exact g1 _ _ | exact g1' _ _ _)) ?_
      rintro _ _ ⟨rfl, rfl⟩
      refine ⟨fun _ _ h => h, ?_⟩
      repeat (first | simp [hbb, h16, hi2, hnn, g1', g2', g1, g2, c29, c29p] | simp (disch := omega) only [wC, if_pos, if_neg])
      refine rp 8 rfl rfl (by kernel_rfl) ?_
      repeat (first | simp [hbb, h16, hi2, hnn, g1', g2', g1, g2, c29, c29p] | simp (disch := omega) only [wC, if_pos, if_neg])
      refine rp 9 rfl rfl (by kernel_rfl) ?_
      repeat (first | simp [hbb, h16, hi2, hnn, g1', g2', g1, g2, c29, c29p] | simp (disch := omega) only [wC, if_pos, if_neg])
      refine rp 10 rfl rfl (by kernel_rfl) ?_
      repeat (first | simp [hbb, h16, hi2, hnn, g1', g2', g1, g2, c29, c29p] | simp (disch := omega) only [wC, if_pos, if_neg])
      refine rp 11 rfl rfl (by kernel_rfl) ?_
      repeat (first | simp [hbb, h16, hi2, hnn, g1', g2', g1, g2, c29, c29p] | simp (disch := omega) only [wC, if_pos, if_neg])
      refine rp 13 rfl rfl (by kernel_rfl) ?_
      repeat (first | simp [hbb, h16, hi2, hnn, g1', g2', g1, g2, c29, c29p] | simp (disch := omega) only [wC, if_pos, if_neg])
      refine runD_call 12 (by kernel_rfl) (by kernel_rfl) (by kernel_rfl) rfl (by kernel_rfl) (by kernel_rfl) (by kernel_rfl) (by first | rfl | (simp [hbb, h16, hi2, hnn, g1', g2', g1, g2, c29, c29p]; done)) (by first | rfl | (simp [hbb, h16, hi2, hnn, g1', g2', g1, g2, c29, c29p]; done)) (by simp) (left_ok (by first | exact g1 _ _ | exact g1' _ _ _)) ?_
      rintro _ _ ⟨rfl, rfl⟩
      refine ⟨fun _ _ h => h, ?_⟩
      repeat (first | simp [hbb, h16, hi2, hnn, g1', g2', g1, g2, c29, c29p] | simp (disch := omega) only [wC, if_pos, if_neg])
      refine runD_call 14 (by kernel_rfl) (by kernel_rfl) (by kernel_rfl) rfl (by kernel_rfl) (by kernel_rfl) (by kernel_rfl) (by first | rfl | (simp [hbb, h16, hi2, hnn, g1', g2', g1, g2, c29, c29p]; done)) (by first | rfl | (simp [hbb, h16, hi2, hnn, g1', g2', g1, g2, c29, c29p]; done)) (by simp) (inLeft_ok (by first | exact g2 _ _ | exact g2' _ _ _) hp hk1) ?_
      rintro _ _ ⟨rfl, rfl⟩
      refine ⟨fun _ _ h => h, ?_⟩
      repeat (first | simp [hbb, h16, hi2, hnn, g1', g2', g1, g2, c29, c29p] | simp (disch := omega) only [wC, if_pos, if_neg])
      refine rp 15 rfl rfl (by kernel_rfl) ?_
      repeat (first | simp [hbb, h16, hi2, hnn, g1', g2', g1, g2, c29, c29p] | simp (disch := omega) only [wC, if_pos, if_neg])
      refine rp 16 rfl rfl (by kernel_rfl) ?_
      repeat (first | simp [hbb, h16, hi2, hnn, g1', g2', g1, g2, c29, c29p] | simp (disch := omega) only [wC, if_pos, if_neg])
      refine rp 17 rfl rfl (by kernel_rfl) ?_
      repeat (first | simp [hbb, h16, hi2, hnn, g1', g2', g1, g2, c29, c29p] | simp (disch := omega) only [wC, if_pos, if_neg])
      refine rp 18 rfl rfl (by kernel_rfl) ?_
      repeat (first | simp [hbb, h16, hi2, hnn, g1', g2', g1, g2, c29, c29p] | simp (disch := omega) only [wC, if_pos, if_neg])
      refine rp 20 rfl rfl (by kernel_rfl) ?_
      repeat (first | simp [hbb, h16, hi2, hnn, g1', g2', g1, g2, c29, c29p] | simp (disch := omega) only [wC, if_pos, if_neg])
      refine runD_call 19 (by kernel_rfl) (by kernel_rfl) (by kernel_rfl) rfl (by kernel_rfl) (by kernel_rfl) (by kernel_rfl) (by first | rfl | (simp [hbb, h16, hi2, hnn, g1', g2', g1, g2, c29, c29p]; done)) (by first | rfl | (simp [hbb, h16, hi2, hnn, g1', g2', g1, g2, c29, c29p]; done)) (by simp) (end_ok (by first | exact g1 _ _ | exact g1' _ _ _)) ?_
      rintro _ _ ⟨rfl, rfl⟩
      refine ⟨fun _ _ h => h, ?_⟩
      repeat (first | simp [hbb, h16, hi2, hnn, g1', g2', g1, g2, c29, c29p] | simp (disch := omega) only [wC, if_pos, if_neg])
      refine runD_call 21 (by kernel_rfl) (by kernel_rfl) (by kernel_rfl) rfl (by kernel_rfl) (by kernel_rfl) (by kernel_rfl) (by first | rfl | (simp [hbb, h16, hi2, hnn, g1', g2', g1, g2, c29, c29p]; done)) (by first | rfl | (simp [hbb, h16, hi2, hnn, g1', g2', g1, g2, c29, c29p]; done)) (by simp) (inEnd_ok (by first | exact g2 _ _ | exact g2' _ _ _) hk1) ?_
      rintro _ _ ⟨rfl, rfl⟩
      refine ⟨fun _ _ h => h, ?_⟩
      repeat (first | simp [hbb, h16, hi2, hnn, g1', g2', g1, g2, c29, c29p] | simp (disch := omega) only [wC, if_pos, if_neg])
      refine rp 22 rfl rfl (by kernel_rfl) ?_
      repeat (first | simp [hbb, h16, hi2, hnn, g1', g2', g1, g2, c29, c29p] | simp (disch := omega) only [wC, if_pos, if_neg])
      refine rp 23 rfl rfl (by kernel_rfl) ?_
      repeat (first | simp [hbb, h16, hi2, hnn, g1', g2', g1, g2, c29, c29p] | simp (disch := omega) only [wC, if_pos, if_neg])
      refine rp 24 rfl rfl (by kernel_rfl) ?_
      repeat (first | simp [hbb, h16, hi2, hnn, g1', g2', g1, g2, c29, c29p] | simp (disch := omega) only [wC, if_pos, if_neg])
      refine runD_done (by kernel_rfl) (by kernel_rfl) (by kernel_rfl) ?_
      refine hJ14 _ _ ?_
      refine hK13 _ _ ?_
      refine run_ret ?_
      try simp only [Then, InBlock, NoGoto]
      refine answer_tmp rfl (.inr rfl) ?_
      have e : readS kd.toNat s = takeS 1 s := by rw [htm] at c29; simp at c29; unfold readS; rw [if_pos (by omega)]
      rw [e]
      exact ⟨k1, hk1, Wk.refl _, _, [], [], by simp; try rfl⟩
  · try (exfalso; have gq := c29; simp [hbb, h16, hi2, hnn, g1', g2', g1, g2] at gq; first | done | omega)
    all_goals
     have c29p := c29
     try simp [hbb, h16, hi2, hnn, g1', g2', g1, g2] at c29p
     all_goals (first | (have gq := c29p; skip) | have c29p : True := True.intro)
     all_goals
      refine run_seq_k fun K15 hK15 => ?_
      refine run_region_k rfl fun J16 hJ16 => ?_
      repeat (first | simp [hbb, h16, hi2, hnn, g1', g2', g1, g2, c29, c29p] | simp (disch := omega) only [wC, if_pos, if_neg])
      refine hJ16 _ _ ?_
      refine hK15 _ _ ?_
      refine run_cond_split (by first | rfl | (simp [hbb, h16, hi2, hnn, g1', g2', g1, g2, c29, c29p, evalA]; done)) (fun c38 => ?_) (fun c38 => ?_)
      · try (exfalso; have gq := c38; simp [hbb, h16, hi2, hnn, g1', g2', g1, g2, c29, c29p] at gq; first | done | omega)
        all_goals
         have c38p := c38
         try simp [hbb, h16, hi2, hnn, g1', g2', g1, g2, c29, c29p] at c38p
         all_goals (first | (have gq := c38p; skip) | have c38p : True := True.intro)
         all_goals
          refine run_seq_k fun K17 hK17 => ?_
          refine run_region_k rfl fun J18 hJ18 => ?_
          repeat (first | simp [hbb, h16, hi2, hnn, g1', g2', g1, g2, c29, c29p, c38, c38p] | simp (disch := omega) only [wC, if_pos, if_neg])
          refine runL_call' (b := true) (by first | rfl | (simp [hbb, h16, hi2, hnn, g1', g2', g1, g2, c29, c29p, c38, c38p, wantedA]; done)) rfl rfl (by first | rfl | (simp [hbb, h16, hi2, hnn, g1', g2', g1, g2, c29, c29p, c38, c38p, callOf]; done)) (by simp) (flag_ok h1) ?_
          rintro _ _ ⟨rfl, rfl⟩
          repeat (first | simp [hbb, h16, hi2, hnn, g1', g2', g1, g2, c29, c29p, c38, c38p] | simp (disch := omega) only [wC, if_pos, if_neg])
          refine runL_call' (b := true) (by first | rfl | (simp [hbb, h16, hi2, hnn, g1', g2', g1, g2, c29, c29p, c38, c38p, wantedA]; done)) rfl rfl (by first | rfl | (simp [hbb, h16, hi2, hnn, g1', g2', g1, g2, c29, c29p, c38, c38p, callOf]; done)) (by simp) (inFlag_ok (g0 _) hp hk) ?_
          rintro _ _ ⟨rfl, k1, hk1, rfl⟩
          repeat (first | simp [hbb, h16, hi2, hnn, g1', g2', g1, g2, c29, c29p, c38, c38p] | simp (disch := omega) only [wC, if_pos, if_neg])
          refine hJ18 _ _ ?_
          refine hK17 _ _ ?_
          refine run_region_k rfl fun J19 hJ19 => ?_
          repeat (first | simp [hbb, h16, hi2, hnn, g1', g2', g1, g2, c29, c29p, c38, c38p] | simp (disch := omega) only [wC, if_pos, if_neg])
          refine hJ19 _ _ ?_
          refine hK5 _ _ ?_
          refine run_seq_k fun K20 hK20 => ?_
          refine run_draw (by kernel_rfl) fun J21 hJ21 => ?_
          refine rp 0 rfl rfl (by kernel_rfl) ?_
          repeat (first | simp [hbb, h16, hi2, hnn, g1', g2', g1, g2, c29, c29p, c38, c38p] | simp (disch := omega) only [wC, if_pos, if_neg])
          refine rp 1 rfl rfl (by kernel_rfl) ?_
          repeat (first | simp [hbb, h16, hi2, hnn, g1', g2', g1, g2, c29, c29p, c38, c38p] | simp (disch := omega) only [wC, if_pos, if_neg])
          refine rp 2 rfl rfl (by kernel_rfl) ?_
          repeat (first | simp [hbb, h16, hi2, hnn, g1', g2', g1, g2, c29, c29p, c38, c38p] | simp (disch := omega) only [wC, if_pos, if_neg])
          refine rp 4 rfl rfl (by kernel_rfl) ?_
          repeat (first | simp [hbb, h16, hi2, hnn, g1', g2', g1, g2, c29, c29p, c38, c38p] | simp (disch := omega) only [wC, if_pos, if_neg])
          refine rp 5 rfl rfl (by kernel_rfl) ?_
          repeat (first | simp [hbb, h16, hi2, hnn, g1', g2', g1, g2, c29, c29p, c38, c38p] | simp (disch := omega) only [wC, if_pos, if_neg])
          refine rp 6 rfl rfl (by kernel_rfl) ?_
          repeat (first | simp [hbb, h16, hi2, hnn, g1', g2', g1, g2, c29, c29p, c38, c38p] | simp (disch := omega) only [wC, if_pos, if_neg])
          refine rp 7 rfl rfl (by kernel_rfl) ?_
          repeat (first | simp [hbb, h16, hi2, hnn, g1', g2', g1, g2, c29, c29p, c38, c38p] | simp (disch := omega) only [wC, if_pos, if_neg])
          refine runD_call 3 (by kernel_rfl) (by kernel_rfl) (by kernel_rfl) rfl (by kernel_rfl) (by kernel_rfl) (by kernel_rfl) (by first | rfl | (simp [hbb, h16, hi2, hnn, g1', g2', g1, g2, c29, c29p, c38, c38p]; done)) (by first | rfl | (simp [hbb, h16, hi2, hnn, g1', g2', g1, g2, c29, c29p, c38, c38p]; done)) (by simp) (bad_ok (by first | exact g1 _ _ | exact g1' _ _ _)) ?_
          rintro _ _ ⟨rfl, rfl⟩
          refine ⟨fun _ _ h => h, ?_⟩
          repeat (first | simp [hbb, h16, hi2, hnn, g1', g2', g1, g2, c29, c29p, c38, c38p] | simp (disch := omega) only [wC, if_pos, if_neg])
          refine rp 8 rfl rfl (by kernel_rfl) ?_
          repeat (first | simp [hbb, h16, hi2, hnn, g1', g2', g1, g2, c29, c29p, c38, c38p] | simp (disch := omega) only [wC, if_pos, if_neg])
          refine rp 9 rfl rfl (by kernel_rfl) ?_
          repeat (first | simp [hbb, h16, hi2, hnn, g1', g2', g1, g2, c29, c29p, c38, c38p] | simp (disch := omega) only [wC, if_pos, if_neg])
          refine rp 10 rfl rfl (by kernel_rfl) ?_
          repeat (first | simp [hbb, h16, hi2, hnn, g1', g2', g1, g2, c29, c29p, c38, c38p] | simp (disch := omega) only [wC, if_pos, if_neg])
          refine rp 11 rfl rfl (by kernel_rfl) ?_
          repeat (first | simp [hbb, h16, hi2, hnn, g1', g2', g1, g2, c29, c29p, c38, c38p] | simp (disch := omega) only [wC, if_pos, if_neg])
          refine rp 13 rfl rfl (by kernel_rfl) ?_
          repeat (first | simp [hbb, h16, hi2, hnn, g1', g2', g1, g2, c29, c29p, c38, c38p] | simp (disch := omega) only [wC, if_pos, if_neg])
          refine runD_call 12 (by kernel_rfl) (by kernel_rfl) (by kernel_rfl) rfl (by kernel_rfl) (by kernel_rfl) (by kernel_rfl) (by first | rfl | (simp [hbb, h16, hi2, hnn, g1', g2', g1, g2, c29, c29p, c38, c38p]; done)) (by first | rfl | (simp [hbb, h16, hi2, hnn, g1', g2', g1, g2, c29, c29p, c38, c38p]; done)) (by simp) (left_ok (by first | exact g1 _ _ | exact g1' _ _ _)) ?_
          rintro _ _ ⟨rfl, rfl⟩
          refine ⟨fun _ _ h => h, ?_⟩
          repeat (first | simp [hbb, h16, hi2, hnn, g1', g2', g1, g2, c29, c29p, c38, c38p] | simp (disch := omega) only [wC, if_pos, if_neg])
          refine runD_call 14 (by kernel_rfl) (by kernel_rfl) (by kernel_rfl) rfl (by kernel_rfl) (by kernel_rfl) (by kernel_rfl) (by first | rfl | (simp [hbb, h16, hi2, hnn, g1', g2', g1, g2, c29, c29p, c38, c38p]; done)) (by first | rfl | (simp [hbb, h16, hi2, hnn, g1', g2', g1, g2, c29, c29p, c38, c38p]; done)) (by simp) (inLeft_ok (by first | exact g2 _ _ | exact g2' _ _ _) hp hk1) ?_
          rintro _ _ ⟨rfl, rfl⟩
          refine ⟨fun _ _ h => h, ?_⟩
          repeat (first | simp [hbb, h16, hi2, hnn, g1', g2', g1, g2, c29, c29p, c38, c38p] | simp (disch := omega) only [wC, if_pos, if_neg])
          refine rp 15 rfl rfl (by kernel_rfl) ?_
          repeat (first | simp [hbb, h16, hi2, hnn, g1', g2', g1, g2, c29, c29p, c38, c38p] | simp (disch := omega) only [wC, if_pos, if_neg])
          refine rp 16 rfl rfl (by kernel_rfl) ?_
          repeat (first | simp [hbb, h16, hi2, hnn, g1', g2', g1, g2, c29, c29p, c38, c38p] | simp (disch := omega) only [wC, if_pos, if_neg])
          refine rp 17 rfl rfl (by kernel_rfl) ?_
          repeat (first | simp [hbb, h16, hi2, hnn, g1', g2', g1, g2, c29, c29p, c38, c38p] | simp (disch := omega) only [wC, if_pos, if_neg])
          refine rp 18 rfl rfl (by kernel_rfl) ?_
          repeat (first | simp [hbb, h16, hi2, hnn, g1', g2', g1, g2, c29, c29p, c38, c38p] | simp (disch := omega) only [wC, if_pos, if_neg])
          refine rp 20 rfl rfl (by kernel_rfl) ?_
          repeat (first | simp [hbb, h16, hi2, hnn, g1', g2', g1, g2, c29, c29p, c38, c38p] | simp (disch := omega) only [wC, if_pos, if_neg])
          refine runD_call 19 (by kernel_rfl) (by kernel_rfl) (by kernel_rfl) rfl (by kernel_rfl) (by kernel_rfl) (by kernel_rfl) (by first | rfl | (simp [hbb, h16, hi2, hnn, g1', g2', g1, g2, c29, c29p, c38, c38p]; done)) (by first | rfl | (simp [hbb, h16, hi2, hnn, g1', g2', g1, g2, c29, c29p, c38, c38p]; done)) (by simp) (end_ok (by first | exact g1 _ _ | exact g1' _ _ _)) ?_
          rintro _ _ ⟨rfl, rfl⟩
          refine ⟨fun _ _ h => h, ?_⟩
          repeat (first | simp [hbb, h16, hi2, hnn, g1', g2', g1, g2, c29, c29p, c38, c38p] | simp (disch := omega) only [wC, if_pos, if_neg])
          refine runD_call 21 (by kernel_rfl) (by kernel_rfl) (by kernel_rfl) rfl (by kernel_rfl) (by kernel_rfl) (by kernel_rfl) (by first | rfl | (simp [hbb, h16, hi2, hnn, g1', g2', g1, g2, c29, c29p, c38, c38p]; done)) (by first | rfl | (simp [hbb, h16, hi2, hnn, g1', g2', g1, g2, c29, c29p, c38, c38p]; done)) (by simp) (inEnd_ok (by first | exact g2 _ _ | exact g2' _ _ _) hk1) ?_
          rintro _ _ ⟨rfl, rfl⟩
          refine ⟨fun _ _ h => h, ?_⟩
          repeat (first | simp [hbb, h16, hi2, hnn, g1', g2', g1, g2, c29, c29p, c38, c38p] | simp (disch := omega) only [wC, if_pos, if_neg])
          refine rp 22 rfl rfl (by kernel_rfl) ?_
          repeat (first | simp [hbb, h16, hi2, hnn, g1', g2', g1, g2, c29, c29p, c38, c38p] | simp (disch := omega) only [wC, if_pos, if_neg])
          refine rp 23 rfl rfl (by kernel_rfl) ?_
          repeat (first | simp [hbb, h16, hi2, hnn, g1', g2', g1, g2, c29, c29p, c38, c38p] | simp (disch := omega) only [wC, if_pos, if_neg])
          refine rp 24 rfl rfl (by kernel_rfl) ?_
          repeat (first | simp [hbb, h16, hi2, hnn, g1', g2', g1, g2, c29, c29p, c38, c38p] | simp (disch := omega) only [wC, if_pos, if_neg])
          refine runD_done (by kernel_rfl) (by kernel_rfl) (by kernel_rfl) ?_
          refine hJ21 _ _ ?_
          refine hK20 _ _ ?_
          refine run_ret ?_
          try simp only [Then, InBlock, NoGoto]
          refine answer_tmp rfl (.inr rfl) ?_
          have e : readS kd.toNat s = flagS s := by rw [htm] at c29 c38; simp at c29 c38; unfold readS; rw [if_neg (by omega), if_pos (by omega)]
          rw [e]
          exact ⟨k1, hk1, Wk.refl _, _, [], [], by simp; try rfl⟩
      · try (exfalso; have gq := c38; simp [hbb, h16, hi2, hnn, g1', g2', g1, g2, c29, c29p] at gq; first | done | omega)
        all_goals
         have c38p := c38
         try simp [hbb, h16, hi2, hnn, g1', g2', g1, g2, c29, c29p] at c38p
         all_goals (first | (have gq := c38p; skip) | have c38p : True := True.intro)
         all_goals
          refine run_seq_k fun K22 hK22 => ?_
          refine run_region_k rfl fun J23 hJ23 => ?_
          repeat (first | simp [hbb, h16, hi2, hnn, g1', g2', g1, g2, c29, c29p, c38, c38p] | simp (disch := omega) only [wC, if_pos, if_neg])
          refine hJ23 _ _ ?_
          refine hK22 _ _ ?_
          refine run_cond_split (by first | rfl | (simp [hbb, h16, hi2, hnn, g1', g2', g1, g2, c29, c29p, c38, c38p, evalA]; done)) (fun c47 => ?_) (fun c47 => ?_)
          · try (exfalso; have gq := c47; simp [hbb, h16, hi2, hnn, g1', g2', g1, g2, c29, c29p, c38, c38p] at gq; first | done | omega)
            all_goals
             have c47p := c47
             try simp [hbb, h16, hi2, hnn, g1', g2', g1, g2, c29, c29p, c38, c38p] at c47p
             all_goals (first | (have gq := c47p; skip) | have c47p : True := True.intro)
             all_goals
              refine run_seq_k fun K24 hK24 => ?_
              refine run_region_k rfl fun J25 hJ25 => ?_
              repeat (first | simp [hbb, h16, hi2, hnn, g1', g2', g1, g2, c29, c29p, c38, c38p, c47, c47p] | simp (disch := omega) only [wC, if_pos, if_neg])
              refine runL_call' (b := true) (by first | rfl | (simp [hbb, h16, hi2, hnn, g1', g2', g1, g2, c29, c29p, c38, c38p, c47, c47p, wantedA]; done)) rfl rfl (by first | rfl | (simp [hbb, h16, hi2, hnn, g1', g2', g1, g2, c29, c29p, c38, c38p, c47, c47p, callOf]; done)) (by simp) (short_ok h1) ?_
              rintro _ _ ⟨rfl, rfl⟩
              repeat (first | simp [hbb, h16, hi2, hnn, g1', g2', g1, g2, c29, c29p, c38, c38p, c47, c47p] | simp (disch := omega) only [wC, if_pos, if_neg])
              refine runL_call' (b := true) (by first | rfl | (simp [hbb, h16, hi2, hnn, g1', g2', g1, g2, c29, c29p, c38, c38p, c47, c47p, wantedA]; done)) rfl rfl (by first | rfl | (simp [hbb, h16, hi2, hnn, g1', g2', g1, g2, c29, c29p, c38, c38p, c47, c47p, callOf]; done)) (by simp) (inLong_ok (n := 2) (g0 _) hp hk (by decide)) ?_
              rintro _ _ ⟨rfl, k1, hk1, rfl⟩
              repeat (first | simp [hbb, h16, hi2, hnn, g1', g2', g1, g2, c29, c29p, c38, c38p, c47, c47p] | simp (disch := omega) only [wC, if_pos, if_neg])
              refine hJ25 _ _ ?_
              refine hK24 _ _ ?_
              refine run_region_k rfl fun J26 hJ26 => ?_
              repeat (first | simp [hbb, h16, hi2, hnn, g1', g2', g1, g2, c29, c29p, c38, c38p, c47, c47p] | simp (disch := omega) only [wC, if_pos, if_neg])
              refine hJ26 _ _ ?_
              refine hK5 _ _ ?_
              refine run_seq_k fun K27 hK27 => ?_
              refine run_draw (by kernel_rfl) fun J28 hJ28 => ?_
              refine rp 0 rfl rfl (by kernel_rfl) ?_
              repeat (first | simp [hbb, h16, hi2, hnn, g1', g2', g1, g2, c29, c29p, c38, c38p, c47, c47p] | simp (disch := omega) only [wC, if_pos, if_neg])
              refine rp 1 rfl rfl (by kernel_rfl) ?_
              repeat (first | simp [hbb, h16, hi2, hnn, g1', g2', g1, g2, c29, c29p, c38, c38p, c47, c47p] | simp (disch := omega) only [wC, if_pos, if_neg])
              refine rp 2 rfl rfl (by kernel_rfl) ?_
              repeat (first | simp [hbb, h16, hi2, hnn, g1', g2', g1, g2, c29, c29p, c38, c38p, c47, c47p] | simp (disch := omega) only [wC, if_pos, if_neg])
              refine rp 4 rfl rfl (by kernel_rfl) ?_
              repeat (first | simp [hbb, h16, hi2, hnn, g1', g2', g1, g2, c29, c29p, c38, c38p, c47, c47p] | simp (disch := omega) only [wC, if_pos, if_neg])
              refine rp 5 rfl rfl (by kernel_rfl) ?_
              repeat (first | simp [hbb, h16, hi2, hnn, g1', g2', g1, g2, c29, c29p, c38, c38p, c47, c47p] | simp (disch := omega) only [wC, if_pos, if_neg])
              refine rp 6 rfl rfl (by kernel_rfl) ?_
              repeat (first | simp [hbb, h16, hi2, hnn, g1', g2', g1, g2, c29, c29p, c38, c38p, c47, c47p] | simp (disch := omega) only [wC, if_pos, if_neg])
              refine rp 7 rfl rfl (by kernel_rfl) ?_
              repeat (first | simp [hbb, h16, hi2, hnn, g1', g2', g1, g2, c29, c29p, c38, c38p, c47, c47p] | simp (disch := omega) only [wC, if_pos, if_neg])
              refine runD_call 3 (by kernel_rfl) (by kernel_rfl) (by kernel_rfl) rfl (by kernel_rfl) (by kernel_rfl) (by kernel_rfl) (by first | rfl | (simp [hbb, h16, hi2, hnn, g1', g2', g1, g2, c29, c29p, c38, c38p, c47, c47p]; done)) (by first | rfl | (simp [hbb, h16, hi2, hnn, g1', g2', g1, g2, c29, c29p, c38, c38p, c47, c47p]; done)) (by simp) (bad_ok (by first | exact g1 _ _ | exact g1' _ _ _)) ?_
              rintro _ _ ⟨rfl, rfl⟩
              refine ⟨fun _ _ h => h, ?_⟩
              repeat (first | simp [hbb, h16, hi2, hnn, g1', g2', g1, g2, c29, c29p, c38, c38p, c47, c47p] | simp (disch := omega) only [wC, if_pos, if_neg])
              refine rp 8 rfl rfl (by kernel_rfl) ?_
              repeat (first | simp [hbb, h16, hi2, hnn, g1', g2', g1, g2, c29, c29p, c38, c38p, c47, c47p] | simp (disch := omega) only [wC, if_pos, if_neg])
              refine rp 9 rfl rfl (by kernel_rfl) ?_
              repeat (first | simp [hbb, h16, hi2, hnn, g1', g2', g1, g2, c29, c29p, c38, c38p, c47, c47p] | simp (disch := omega) only [wC, if_pos, if_neg])
              refine rp 10 rfl rfl (by kernel_rfl) ?_
              repeat (first | simp [hbb, h16, hi2, hnn, g1', g2', g1, g2, c29, c29p, c38, c38p, c47, c47p] | simp (disch := omega) only [wC, if_pos, if_neg])
              refine rp 11 rfl rfl (by kernel_rfl) ?_
              repeat (first | simp [hbb, h16, hi2, hnn, g1', g2', g1, g2, c29, c29p, c38, c38p, c47, c47p] | simp (disch := omega) only [wC, if_pos, if_neg])
              refine rp 13 rfl rfl (by kernel_rfl) ?_
              repeat (first | simp [hbb, h16, hi2, hnn, g1', g2', g1, g2, c29, c29p, c38, c38p, c47, c47p] | simp (disch := omega) only [wC, if_pos, if_neg])
              refine runD_call 12 (by kernel_rfl) (by kernel_rfl) (by kernel_rfl) rfl (by kernel_rfl) (by kernel_rfl) (by kernel_rfl) (by first | rfl | (simp [hbb, h16, hi2, hnn, g1', g2', g1, g2, c29, c29p, c38, c38p, c47, c47p]; done)) (by first | rfl | (simp [hbb, h16, hi2, hnn, g1', g2', g1, g2, c29, c29p, c38, c38p, c47, c47p]; done)) (by simp) (left_ok (by first | exact g1 _ _ | exact g1' _ _ _)) ?_
              rintro _ _ ⟨rfl, rfl⟩
              refine ⟨fun _ _ h => h, ?_⟩
              repeat (first | simp [hbb, h16, hi2, hnn, g1', g2', g1, g2, c29, c29p, c38, c38p, c47, c47p] | simp (disch := omega) only [wC, if_pos, if_neg])
              refine runD_call 14 (by kernel_rfl) (by kernel_rfl) (by kernel_rfl) rfl (by kernel_rfl) (by kernel_rfl) (by kernel_rfl) (by first | rfl | (simp [hbb, h16, hi2, hnn, g1', g2', g1, g2, c29, c29p, c38, c38p, c47, c47p]; done)) (by first | rfl | (simp [hbb, h16, hi2, hnn, g1', g2', g1, g2, c29, c29p, c38, c38p, c47, c47p]; done)) (by simp) (inLeft_ok (by first | exact g2 _ _ | exact g2' _ _ _) hp hk1) ?_
              rintro _ _ ⟨rfl, rfl⟩
              refine ⟨fun _ _ h => h, ?_⟩
              repeat (first | simp [hbb, h16, hi2, hnn, g1', g2', g1, g2, c29, c29p, c38, c38p, c47, c47p] | simp (disch := omega) only [wC, if_pos, if_neg])
              refine rp 15 rfl rfl (by kernel_rfl) ?_
              repeat (first | simp [hbb, h16, hi2, hnn, g1', g2', g1, g2, c29, c29p, c38, c38p, c47, c47p] | simp (disch := omega) only [wC, if_pos, if_neg])
              refine rp 16 rfl rfl (by kernel_rfl) ?_
              repeat (first | simp [hbb, h16, hi2, hnn, g1', g2', g1, g2, c29, c29p, c38, c38p, c47, c47p] | simp (disch := omega) only [wC, if_pos, if_neg])
              refine rp 17 rfl rfl (by kernel_rfl) ?_
              repeat (first | simp [hbb, h16, hi2, hnn, g1', g2', g1, g2, c29, c29p, c38, c38p, c47, c47p] | simp (disch := omega) only [wC, if_pos, if_neg])
              refine rp 18 rfl rfl (by kernel_rfl) ?_
              repeat (first | simp [hbb, h16, hi2, hnn, g1', g2', g1, g2, c29, c29p, c38, c38p, c47, c47p] | simp (disch := omega) only [wC, if_pos, if_neg])
              refine rp 20 rfl rfl (by kernel_rfl) ?_
              repeat (first | simp [hbb, h16, hi2, hnn, g1', g2', g1, g2, c29, c29p, c38, c38p, c47, c47p] | simp (disch := omega) only [wC, if_pos, if_neg])
              refine runD_call 19 (by kernel_rfl) (by kernel_rfl) (by kernel_rfl) rfl (by kernel_rfl) (by kernel_rfl) (by kernel_rfl) (by first | rfl | (simp [hbb, h16, hi2, hnn, g1', g2', g1, g2, c29, c29p, c38, c38p, c47, c47p]; done)) (by first | rfl | (simp [hbb, h16, hi2, hnn, g1', g2', g1, g2, c29, c29p, c38, c38p, c47, c47p]; done)) (by simp) (end_ok (by first | exact g1 _ _ | exact g1' _ _ _)) ?_
              rintro _ _ ⟨rfl, rfl⟩
              refine ⟨fun _ _ h => h, ?_⟩
              repeat (first | simp [hbb, h16, hi2, hnn, g1', g2', g1, g2, c29, c29p, c38, c38p, c47, c47p] | simp (disch := omega) only [wC, if_pos, if_neg])
              refine runD_call 21 (by kernel_rfl) (by kernel_rfl) (by kernel_rfl) rfl (by kernel_rfl) (by kernel_rfl) (by kernel_rfl) (by first | rfl | (simp [hbb, h16, hi2, hnn, g1', g2', g1, g2, c29, c29p, c38, c38p, c47, c47p]; done)) (by first | rfl | (simp [hbb, h16, hi2, hnn, g1', g2', g1, g2, c29, c29p, c38, c38p, c47, c47p]; done)) (by simp) (inEnd_ok (by first | exact g2 _ _ | exact g2' _ _ _) hk1) ?_
              rintro _ _ ⟨rfl, rfl⟩
              refine ⟨fun _ _ h => h, ?_⟩
              repeat (first | simp [hbb, h16, hi2, hnn, g1', g2', g1, g2, c29, c29p, c38, c38p, c47, c47p] | simp (disch := omega) only [wC, if_pos, if_neg])
              refine rp 22 rfl rfl (by kernel_rfl) ?_
              repeat (first | simp [hbb, h16, hi2, hnn, g1', g2', g1, g2, c29, c29p, c38, c38p, c47, c47p] | simp (disch := omega) only [wC, if_pos, if_neg])
              refine rp 23 rfl rfl (by kernel_rfl) ?_
              repeat (first | simp [hbb, h16, hi2, hnn, g1', g2', g1, g2, c29, c29p, c38, c38p, c47, c47p] | simp (disch := omega) only [wC, if_pos, if_neg])
              refine rp 24 rfl rfl (by kernel_rfl) ?_
              repeat (first | simp [hbb, h16, hi2, hnn, g1', g2', g1, g2, c29, c29p, c38, c38p, c47, c47p] | simp (disch := omega) only [wC, if_pos, if_neg])
              refine runD_done (by kernel_rfl) (by kernel_rfl) (by kernel_rfl) ?_
              refine hJ28 _ _ ?_
              refine hK27 _ _ ?_
              refine run_ret ?_
              try simp only [Then, InBlock, NoGoto]
              refine answer_tmp rfl (.inr rfl) ?_
              have e : readS kd.toNat s = takeS 2 s := by rw [htm] at c29 c38 c47; simp at c29 c38 c47; unfold readS; rw [if_neg (by omega), if_neg (by omega), if_pos (by omega)]
              rw [e]
              exact ⟨k1, hk1, Wk.refl _, _, [], [], by simp; try rfl⟩
          · try (exfalso; have gq := c47; simp [hbb, h16, hi2, hnn, g1', g2', g1, g2, c29, c29p, c38, c38p] at gq; first | done | omega)
            all_goals
             have c47p := c47
             try simp [hbb, h16, hi2, hnn, g1', g2', g1, g2, c29, c29p, c38, c38p] at c47p
             all_goals (first | (have gq := c47p; skip) | have c47p : True := True.intro)
             all_goals
              refine run_seq_k fun K29 hK29 => ?_
              refine run_region_k rfl fun J30 hJ30 => ?_
              repeat (first | simp [hbb, h16, hi2, hnn, g1', g2', g1, g2, c29, c29p, c38, c38p, c47, c47p] | simp (disch := omega) only [wC, if_pos, if_neg])
              refine hJ30 _ _ ?_
              refine hK29 _ _ ?_
              refine run_cond_split (by first | rfl | (simp [hbb, h16, hi2, hnn, g1', g2', g1, g2, c29, c29p, c38, c38p, c47, c47p, evalA]; done)) (fun c57 => ?_) (fun c57 => ?_)
              · try (exfalso; have gq := c57; simp [hbb, h16, hi2, hnn, g1', g2', g1, g2, c29, c29p, c38, c38p, c47, c47p] at gq; first | done | omega)
                all_goals
                 have c57p := c57
                 try simp [hbb, h16, hi2, hnn, g1', g2', g1, g2, c29, c29p, c38, c38p, c47, c47p] at c57p
                 all_goals (first | (have gq := c57p; skip) | have c57p : True := True.intro)
                 all_goals
                  refine run_seq_k fun K31 hK31 => ?_
                  refine run_region_k rfl fun J32 hJ32 => ?_
                  repeat (first | simp [hbb, h16, hi2, hnn, g1', g2', g1, g2, c29, c29p, c38, c38p, c47, c47p, c57, c57p] | simp (disch := omega) only [wC, if_pos, if_neg])
                  refine runL_call' (b := true) (by first | rfl | (simp [hbb, h16, hi2, hnn, g1', g2', g1, g2, c29, c29p, c38, c38p, c47, c47p, c57, c57p, wantedA]; done)) rfl rfl (by first | rfl | (simp [hbb, h16, hi2, hnn, g1', g2', g1, g2, c29, c29p, c38, c38p, c47, c47p, c57, c57p, callOf]; done)) (by simp) (long_ok h1) ?_
                  rintro _ _ ⟨rfl, rfl⟩
                  repeat (first | simp [hbb, h16, hi2, hnn, g1', g2', g1, g2, c29, c29p, c38, c38p, c47, c47p, c57, c57p] | simp (disch := omega) only [wC, if_pos, if_neg])
                  refine runL_call' (b := true) (by first | rfl | (simp [hbb, h16, hi2, hnn, g1', g2', g1, g2, c29, c29p, c38, c38p, c47, c47p, c57, c57p, wantedA]; done)) rfl rfl (by first | rfl | (simp [hbb, h16, hi2, hnn, g1', g2', g1, g2, c29, c29p, c38, c38p, c47, c47p, c57, c57p, callOf]; done)) (by simp) (inLong_ok (n := 8) (g0 _) hp hk (by decide)) ?_
                  rintro _ _ ⟨rfl, k1, hk1, rfl⟩
                  repeat (first | simp [hbb, h16, hi2, hnn, g1', g2', g1, g2, c29, c29p, c38, c38p, c47, c47p, c57, c57p] | simp (disch := omega) only [wC, if_pos, if_neg])
                  refine hJ32 _ _ ?_
                  refine hK31 _ _ ?_
                  refine run_region_k rfl fun J33 hJ33 => ?_
                  repeat (first | simp [hbb, h16, hi2, hnn, g1', g2', g1, g2, c29, c29p, c38, c38p, c47, c47p, c57, c57p] | simp (disch := omega) only [wC, if_pos, if_neg])
                  refine hJ33 _ _ ?_
                  refine hK5 _ _ ?_
                  refine run_seq_k fun K34 hK34 => ?_
                  refine run_draw (by kernel_rfl) fun J35 hJ35 => ?_
                  refine rp 0 rfl rfl (by kernel_rfl) ?_
                  repeat (first | simp [hbb, h16, hi2, hnn, g1', g2', g1, g2, c29, c29p, c38, c38p, c47, c47p, c57, c57p] | simp (disch := omega) only [wC, if_pos, if_neg])
                  refine rp 1 rfl rfl (by kernel_rfl) ?_
                  repeat (first | simp [hbb, h16, hi2, hnn, g1', g2', g1, g2, c29, c29p, c38, c38p, c47, c47p, c57, c57p] | simp (disch := omega) only [wC, if_pos, if_neg])
                  refine rp 2 rfl rfl (by kernel_rfl) ?_
                  repeat (first | simp [hbb, h16, hi2, hnn, g1', g2', g1, g2, c29, c29p, c38, c38p, c47, c47p, c57, c57p] | simp (disch := omega) only [wC, if_pos, if_neg])
                  refine rp 4 rfl rfl (by kernel_rfl) ?_
                  repeat (first | simp [hbb, h16, hi2, hnn, g1', g2', g1, g2, c29, c29p, c38, c38p, c47, c47p, c57, c57p] | simp (disch := omega) only [wC, if_pos, if_neg])
                  refine rp 5 rfl rfl (by kernel_rfl) ?_
                  repeat (first | simp [hbb, h16, hi2, hnn, g1', g2', g1, g2, c29, c29p, c38, c38p, c47, c47p, c57, c57p] | simp (disch := omega) only [wC, if_pos, if_neg])
                  refine rp 6 rfl rfl (by kernel_rfl) ?_
                  repeat (first | simp [hbb, h16, hi2, hnn, g1', g2', g1, g2, c29, c29p, c38, c38p, c47, c47p, c57, c57p] | simp (disch := omega) only [wC, if_pos, if_neg])
                  refine rp 7 rfl rfl (by kernel_rfl) ?_
                  repeat (first | simp [hbb, h16, hi2, hnn, g1', g2', g1, g2, c29, c29p, c38, c38p, c47, c47p, c57, c57p] | simp (disch := omega) only [wC, if_pos, if_neg])
                  refine runD_call 3 (by kernel_rfl) (by kernel_rfl) (by kernel_rfl) rfl (by kernel_rfl) (by kernel_rfl) (by kernel_rfl) (by first | rfl | (simp [hbb, h16, hi2, hnn, g1', g2', g1, g2, c29, c29p, c38, c38p, c47, c47p, c57, c57p]; done)) (by first | rfl | (simp [hbb, h16, hi2, hnn, g1', g2', g1, g2, c29, c29p, c38, c38p, c47, c47p, c57, c57p]; done)) (by simp) (bad_ok (by first | exact g1 _ _ | exact g1' _ _ _)) ?_
                  rintro _ _ ⟨rfl, rfl⟩
                  refine ⟨fun _ _ h => h, ?_⟩
                  repeat (first | simp [hbb, h16, hi2, hnn, g1', g2', g1, g2, c29, c29p, c38, c38p, c47, c47p, c57, c57p] | simp (disch := omega) only [wC, if_pos, if_neg])
                  refine rp 8 rfl rfl (by kernel_rfl) ?_
                  repeat (first | simp [hbb, h16, hi2, hnn, g1', g2', g1, g2, c29, c29p, c38, c38p, c47, c47p, c57, c57p] | simp (disch := omega) only [wC, if_pos, if_neg])
                  refine rp 9 rfl rfl (by kernel_rfl) ?_
                  repeat (first | simp [hbb, h16, hi2, hnn, g1', g2', g1, g2, c29, c29p, c38, c38p, c47, c47p, c57, c57p] | simp (disch := omega) only [wC, if_pos, if_neg])
                  refine rp 10 rfl rfl (by kernel_rfl) ?_
                  repeat (first | simp [hbb, h16, hi2, hnn, g1', g2', g1, g2, c29, c29p, c38, c38p, c47, c47p, c57, c57p] | simp (disch := omega) only [wC, if_pos, if_neg])
                  refine rp 11 rfl rfl (by kernel_rfl) ?_
                  repeat (first | simp [hbb, h16, hi2, hnn, g1', g2', g1, g2, c29, c29p, c38, c38p, c47, c47p, c57, c57p] | simp (disch := omega) only [wC, if_pos, if_neg])
                  refine rp 13 rfl rfl (by kernel_rfl) ?_
                  repeat (first | simp [hbb, h16, hi2, hnn, g1', g2', g1, g2, c29, c29p, c38, c38p, c47, c47p, c57, c57p] | simp (disch := omega) only [wC, if_pos, if_neg])
                  refine runD_call 12 (by kernel_rfl) (by kernel_rfl) (by kernel_rfl) rfl (by kernel_rfl) (by kernel_rfl) (by kernel_rfl) (by first | rfl | (simp [hbb, h16, hi2, hnn, g1', g2', g1, g2, c29, c29p, c38, c38p, c47, c47p, c57, c57p]; done)) (by first | rfl | (simp [hbb, h16, hi2, hnn, g1', g2', g1, g2, c29, c29p, c38, c38p, c47, c47p, c57, c57p]; done)) (by simp) (left_ok (by first | exact g1 _ _ | exact g1' _ _ _)) ?_
                  rintro _ _ ⟨rfl, rfl⟩
                  refine ⟨fun _ _ h => h, ?_⟩
                  repeat (first | simp [hbb, h16, hi2, hnn, g1', g2', g1, g2, c29, c29p, c38, c38p, c47, c47p, c57, c57p] | simp (disch := omega) only [wC, if_pos, if_neg])
                  refine runD_call 14 (by kernel_rfl) (by kernel_rfl) (by kernel_rfl) rfl (by kernel_rfl) (by kernel_rfl) (by kernel_rfl) (by first | rfl | (simp [hbb, h16, hi2, hnn, g1', g2', g1, g2, c29, c29p, c38, c38p, c47, c47p, c57, c57p]; done)) (by first | rfl | (simp [hbb, h16, hi2, hnn, g1', g2', g1, g2, c29, c29p, c38, c38p, c47, c47p, c57, c57p]; done)) (by simp) (inLeft_ok (by first | exact g2 _ _ | exact g2' _ _ _) hp hk1) ?_
                  rintro _ _ ⟨rfl, rfl⟩
                  refine ⟨fun _ _ h => h, ?_⟩
                  repeat (first | simp [hbb, h16, hi2, hnn, g1', g2', g1, g2, c29, c29p, c38, c38p, c47, c47p, c57, c57p] | simp (disch := omega) only [wC, if_pos, if_neg])
                  refine rp 15 rfl rfl (by kernel_rfl) ?_
                  repeat (first | simp [hbb, h16, hi2, hnn, g1', g2', g1, g2, c29, c29p, c38, c38p, c47, c47p, c57, c57p] | simp (disch := omega) only [wC, if_pos, if_neg])
                  refine rp 16 rfl rfl (by kernel_rfl) ?_
                  repeat (first | simp [hbb, h16, hi2, hnn, g1', g2', g1, g2, c29, c29p, c38, c38p, c47, c47p, c57, c57p] | simp (disch := omega) only [wC, if_pos, if_neg])
                  refine rp 17 rfl rfl (by kernel_rfl) ?_
                  repeat (first | simp [hbb, h16, hi2, hnn, g1', g2', g1, g2, c29, c29p, c38, c38p, c47, c47p, c57, c57p] | simp (disch := omega) only [wC, if_pos, if_neg])
                  refine rp 18 rfl rfl (by kernel_rfl) ?_
                  repeat (first | simp [hbb, h16, hi2, hnn, g1', g2', g1, g2, c29, c29p, c38, c38p, c47, c47p, c57, c57p] | simp (disch := omega) only [wC, if_pos, if_neg])
                  refine rp 20 rfl rfl (by kernel_rfl) ?_
                  repeat (first | simp [hbb, h16, hi2, hnn, g1', g2', g1, g2, c29, c29p, c38, c38p, c47, c47p, c57, c57p] | simp (disch := omega) only [wC, if_pos, if_neg])
                  refine runD_call 19 (by kernel_rfl) (by kernel_rfl) (by kernel_rfl) rfl (by kernel_rfl) (by kernel_rfl) (by kernel_rfl) (by first | rfl | (simp [hbb, h16, hi2, hnn, g1', g2', g1, g2, c29, c29p, c38, c38p, c47, c47p, c57, c57p]; done)) (by first | rfl | (simp [hbb, h16, hi2, hnn, g1', g2', g1, g2, c29, c29p, c38, c38p, c47, c47p, c57, c57p]; done)) (by simp) (end_ok (by first | exact g1 _ _ | exact g1' _ _ _)) ?_
                  rintro _ _ ⟨rfl, rfl⟩
                  refine ⟨fun _ _ h => h, ?_⟩
                  repeat (first | simp [hbb, h16, hi2, hnn, g1', g2', g1, g2, c29, c29p, c38, c38p, c47, c47p, c57, c57p] | simp (disch := omega) only [wC, if_pos, if_neg])
                  refine runD_call 21 (by kernel_rfl) (by kernel_rfl) (by kernel_rfl) rfl (by kernel_rfl) (by kernel_rfl) (by kernel_rfl) (by first | rfl | (simp [hbb, h16, hi2, hnn, g1', g2', g1, g2, c29, c29p, c38, c38p, c47, c47p, c57, c57p]; done)) (by first | rfl | (simp [hbb, h16, hi2, hnn, g1', g2', g1, g2, c29, c29p, c38, c38p, c47, c47p, c57, c57p]; done)) (by simp) (inEnd_ok (by first | exact g2 _ _ | exact g2' _ _ _) hk1) ?_
                  rintro _ _ ⟨rfl, rfl⟩
                  refine ⟨fun _ _ h => h, ?_⟩
                  repeat (first | simp [hbb, h16, hi2, hnn, g1', g2', g1, g2, c29, c29p, c38, c38p, c47, c47p, c57, c57p] | simp (disch := omega) only [wC, if_pos, if_neg])
                  refine rp 22 rfl rfl (by kernel_rfl) ?_
                  repeat (first | simp [hbb, h16, hi2, hnn, g1', g2', g1, g2, c29, c29p, c38, c38p, c47, c47p, c57, c57p] | simp (disch := omega) only [wC, if_pos, if_neg])
                  refine rp 23 rfl rfl (by kernel_rfl) ?_
                  repeat (first | simp [hbb, h16, hi2, hnn, g1', g2', g1, g2, c29, c29p, c38, c38p, c47, c47p, c57, c57p] | simp (disch := omega) only [wC, if_pos, if_neg])
                  refine rp 24 rfl rfl (by kernel_rfl) ?_
                  repeat (first | simp [hbb, h16, hi2, hnn, g1', g2', g1, g2, c29, c29p, c38, c38p, c47, c47p, c57, c57p] | simp (disch := omega) only [wC, if_pos, if_neg])
                  refine runD_done (by kernel_rfl) (by kernel_rfl) (by kernel_rfl) ?_
                  refine hJ35 _ _ ?_
                  refine hK34 _ _ ?_
                  refine run_ret ?_
                  try simp only [Then, InBlock, NoGoto]
                  refine answer_tmp rfl (.inr rfl) ?_
                  have e : readS kd.toNat s = takeS 8 s := by rw [htm] at c29 c38 c47 c57; simp at c29 c38 c47 c57; unfold readS; rw [if_neg (by omega), if_neg (by omega), if_neg (by omega), if_pos (by omega)]
                  rw [e]
                  exact ⟨k1, hk1, Wk.refl _, _, [], [], by simp; try rfl⟩
              · try (exfalso; have gq := c57; simp [hbb, h16, hi2, hnn, g1', g2', g1, g2, c29, c29p, c38, c38p, c47, c47p] at gq; first | done | omega)
                all_goals
                 have c57p := c57
                 try simp [hbb, h16, hi2, hnn, g1', g2', g1, g2, c29, c29p, c38, c38p, c47, c47p] at c57p
                 all_goals (first | (have gq := c57p; skip) | have c57p : True := True.intro)
                 all_goals
                  refine run_seq_k fun K36 hK36 => ?_
                  refine run_region_k rfl fun J37 hJ37 => ?_
                  repeat (first | simp [hbb, h16, hi2, hnn, g1', g2', g1, g2, c29, c29p, c38, c38p, c47, c47p, c57, c57p] | simp (disch := omega) only [wC, if_pos, if_neg])
                  refine hJ37 _ _ ?_
                  refine hK36 _ _ ?_
                  refine run_cond_split (by first | rfl | (simp [hbb, h16, hi2, hnn, g1', g2', g1, g2, c29, c29p, c38, c38p, c47, c47p, c57, c57p, evalA]; done)) (fun c66 => ?_) (fun c66 => ?_)
                  · try (exfalso; have gq := c66; simp [hbb, h16, hi2, hnn, g1', g2', g1, g2, c29, c29p, c38, c38p, c47, c47p, c57, c57p] at gq; first | done | omega)
                    all_goals
                     have c66p := c66
                     try simp [hbb, h16, hi2, hnn, g1', g2', g1, g2, c29, c29p, c38, c38p, c47, c47p, c57, c57p] at c66p
                     all_goals (first | (have gq := c66p; skip) | have c66p : True := True.intro)
                     all_goals
                      refine run_seq_k fun K38 hK38 => ?_
                      refine run_region_k rfl fun J39 hJ39 => ?_
                      repeat (first | simp [hbb, h16, hi2, hnn, g1', g2', g1, g2, c29, c29p, c38, c38p, c47, c47p, c57, c57p, c66, c66p] | simp (disch := omega) only [wC, if_pos, if_neg])
                      refine runL_call' (b := true) (by first | rfl | (simp [hbb, h16, hi2, hnn, g1', g2', g1, g2, c29, c29p, c38, c38p, c47, c47p, c57, c57p, c66, c66p, wantedA]; done)) rfl rfl (by first | rfl | (simp [hbb, h16, hi2, hnn, g1', g2', g1, g2, c29, c29p, c38, c38p, c47, c47p, c57, c57p, c66, c66p, callOf]; done)) (by simp) (num_ok h1) ?_
                      rintro _ _ ⟨rfl, rfl⟩
                      repeat (first | simp [hbb, h16, hi2, hnn, g1', g2', g1, g2, c29, c29p, c38, c38p, c47, c47p, c57, c57p, c66, c66p] | simp (disch := omega) only [wC, if_pos, if_neg])
                      refine runL_call' (b := true) (by first | rfl | (simp [hbb, h16, hi2, hnn, g1', g2', g1, g2, c29, c29p, c38, c38p, c47, c47p, c57, c57p, c66, c66p, wantedA]; done)) rfl rfl (by first | rfl | (simp [hbb, h16, hi2, hnn, g1', g2', g1, g2, c29, c29p, c38, c38p, c47, c47p, c57, c57p, c66, c66p, callOf]; done)) (by simp) (inNum_ok (g0 _) hp hk) ?_
                      rintro _ _ ⟨rfl, k1, hk1, rfl⟩
                      repeat (first | simp [hbb, h16, hi2, hnn, g1', g2', g1, g2, c29, c29p, c38, c38p, c47, c47p, c57, c57p, c66, c66p] | simp (disch := omega) only [wC, if_pos, if_neg])
                      refine hJ39 _ _ ?_
                      refine hK38 _ _ ?_
                      refine run_region_k rfl fun J40 hJ40 => ?_
                      repeat (first | simp [hbb, h16, hi2, hnn, g1', g2', g1, g2, c29, c29p, c38, c38p, c47, c47p, c57, c57p, c66, c66p] | simp (disch := omega) only [wC, if_pos, if_neg])
                      refine hJ40 _ _ ?_
                      refine hK5 _ _ ?_
                      refine run_seq_k fun K41 hK41 => ?_
                      refine run_draw (by kernel_rfl) fun J42 hJ42 => ?_
                      refine rp 0 rfl rfl (by kernel_rfl) ?_
                      repeat (first | simp [hbb, h16, hi2, hnn, g1', g2', g1, g2, c29, c29p, c38, c38p, c47, c47p, c57, c57p, c66, c66p] | simp (disch := omega) only [wC, if_pos, if_neg])
                      refine rp 1 rfl rfl (by kernel_rfl) ?_
                      repeat (first | simp [hbb, h16, hi2, hnn, g1', g2', g1, g2, c29, c29p, c38, c38p, c47, c47p, c57, c57p, c66, c66p] | simp (disch := omega) only [wC, if_pos, if_neg])
                      refine rp 2 rfl rfl (by kernel_rfl) ?_
                      repeat (first | simp [hbb, h16, hi2, hnn, g1', g2', g1, g2, c29, c29p, c38, c38p, c47, c47p, c57, c57p, c66, c66p] | simp (disch := omega) only [wC, if_pos, if_neg])
                      refine rp 4 rfl rfl (by kernel_rfl) ?_
                      repeat (first | simp [hbb, h16, hi2, hnn, g1', g2', g1, g2, c29, c29p, c38, c38p, c47, c47p, c57, c57p, c66, c66p] | simp (disch := omega) only [wC, if_pos, if_neg])
                      refine rp 5 rfl rfl (by kernel_rfl) ?_
                      repeat (first | simp [hbb, h16, hi2, hnn, g1', g2', g1, g2, c29, c29p, c38, c38p, c47, c47p, c57, c57p, c66, c66p] | simp (disch := omega) only [wC, if_pos, if_neg])
                      refine rp 6 rfl rfl (by kernel_rfl) ?_
                      repeat (first | simp [hbb, h16, hi2, hnn, g1', g2', g1, g2, c29, c29p, c38, c38p, c47, c47p, c57, c57p, c66, c66p] | simp (disch := omega) only [wC, if_pos, if_neg])
                      refine rp 7 rfl rfl (by kernel_rfl) ?_
                      repeat (first | simp [hbb, h16, hi2, hnn, g1', g2', g1, g2, c29, c29p, c38, c38p, c47, c47p, c57, c57p, c66, c66p] | simp (disch := omega) only [wC, if_pos, if_neg])
                      refine runD_call 3 (by kernel_rfl) (by kernel_rfl) (by kernel_rfl) rfl (by kernel_rfl) (by kernel_rfl) (by kernel_rfl) (by first | rfl | (simp [hbb, h16, hi2, hnn, g1', g2', g1, g2, c29, c29p, c38, c38p, c47, c47p, c57, c57p, c66, c66p]; done)) (by first | rfl | (simp [hbb, h16, hi2, hnn, g1', g2', g1, g2, c29, c29p, c38, c38p, c47, c47p, c57, c57p, c66, c66p]; done)) (by simp) (bad_ok (by first | exact g1 _ _ | exact g1' _ _ _)) ?_
                      rintro _ _ ⟨rfl, rfl⟩
                      refine ⟨fun _ _ h => h, ?_⟩
                      repeat (first | simp [hbb, h16, hi2, hnn, g1', g2', g1, g2, c29, c29p, c38, c38p, c47, c47p, c57, c57p, c66, c66p] | simp (disch := omega) only [wC, if_pos, if_neg])
                      refine rp 8 rfl rfl (by kernel_rfl) ?_
                      repeat (first | simp [hbb, h16, hi2, hnn, g1', g2', g1, g2, c29, c29p, c38, c38p, c47, c47p, c57, c57p, c66, c66p] | simp (disch := omega) only [wC, if_pos, if_neg])
                      refine rp 9 rfl rfl (by kernel_rfl) ?_
                      repeat (first | simp [hbb, h16, hi2, hnn, g1', g2', g1, g2, c29, c29p, c38, c38p, c47, c47p, c57, c57p, c66, c66p] | simp (disch := omega) only [wC, if_pos, if_neg])
                      refine rp 10 rfl rfl (by kernel_rfl) ?_
                      repeat (first | simp [hbb, h16, hi2, hnn, g1', g2', g1, g2, c29, c29p, c38, c38p, c47, c47p, c57, c57p, c66, c66p] | simp (disch := omega) only [wC, if_pos, if_neg])
                      refine rp 11 rfl rfl (by kernel_rfl) ?_
                      repeat (first | simp [hbb, h16, hi2, hnn, g1', g2', g1, g2, c29, c29p, c38, c38p, c47, c47p, c57, c57p, c66, c66p] | simp (disch := omega) only [wC, if_pos, if_neg])
                      refine rp 13 rfl rfl (by kernel_rfl) ?_
                      repeat (first | simp [hbb, h16, hi2, hnn, g1', g2', g1, g2, c29, c29p, c38, c38p, c47, c47p, c57, c57p, c66, c66p] | simp (disch := omega) only [wC, if_pos, if_neg])
                      refine runD_call 12 (by kernel_rfl) (by kernel_rfl) (by kernel_rfl) rfl (by kernel_rfl) (by kernel_rfl) (by kernel_rfl) (by first | rfl | (simp [hbb, h16, hi2, hnn, g1', g2', g1, g2, c29, c29p, c38, c38p, c47, c47p, c57, c57p, c66, c66p]; done)) (by first | rfl | (simp [hbb, h16, hi2, hnn, g1', g2', g1, g2, c29, c29p, c38, c38p, c47, c47p, c57, c57p, c66, c66p]; done)) (by simp) (left_ok (by first | exact g1 _ _ | exact g1' _ _ _)) ?_
                      rintro _ _ ⟨rfl, rfl⟩
                      refine ⟨fun _ _ h => h, ?_⟩
                      repeat (first | simp [hbb, h16, hi2, hnn, g1', g2', g1, g2, c29, c29p, c38, c38p, c47, c47p, c57, c57p, c66, c66p] | simp (disch := omega) only [wC, if_pos, if_neg])
                      refine runD_call 14 (by kernel_rfl) (by kernel_rfl) (by kernel_rfl) rfl (by kernel_rfl) (by kernel_rfl) (by kernel_rfl) (by first | rfl | (simp [hbb, h16, hi2, hnn, g1', g2', g1, g2, c29, c29p, c38, c38p, c47, c47p, c57, c57p, c66, c66p]; done)) (by first | rfl | (simp [hbb, h16, hi2, hnn, g1', g2', g1, g2, c29, c29p, c38, c38p, c47, c47p, c57, c57p, c66, c66p]; done)) (by simp) (inLeft_ok (by first | exact g2 _ _ | exact g2' _ _ _) hp hk1) ?_
                      rintro _ _ ⟨rfl, rfl⟩
                      refine ⟨fun _ _ h => h, ?_⟩
                      repeat (first | simp [hbb, h16, hi2, hnn, g1', g2', g1, g2, c29, c29p, c38, c38p, c47, c47p, c57, c57p, c66, c66p] | simp (disch := omega) only [wC, if_pos, if_neg])
                      refine rp 15 rfl rfl (by kernel_rfl) ?_
                      repeat (first | simp [hbb, h16, hi2, hnn, g1', g2', g1, g2, c29, c29p, c38, c38p, c47, c47p, c57, c57p, c66, c66p] | simp (disch := omega) only [wC, if_pos, if_neg])
                      refine rp 16 rfl rfl (by kernel_rfl) ?_
                      repeat (first | simp [hbb, h16, hi2, hnn, g1', g2', g1, g2, c29, c29p, c38, c38p, c47, c47p, c57, c57p, c66, c66p] | simp (disch := omega) only [wC, if_pos, if_neg])
                      refine rp 17 rfl rfl (by kernel_rfl) ?_
                      repeat (first | simp [hbb, h16, hi2, hnn, g1', g2', g1, g2, c29, c29p, c38, c38p, c47, c47p, c57, c57p, c66, c66p] | simp (disch := omega) only [wC, if_pos, if_neg])
                      refine rp 18 rfl rfl (by kernel_rfl) ?_
                      repeat (first | simp [hbb, h16, hi2, hnn, g1', g2', g1, g2, c29, c29p, c38, c38p, c47, c47p, c57, c57p, c66, c66p] | simp (disch := omega) only [wC, if_pos, if_neg])
                      refine rp 20 rfl rfl (by kernel_rfl) ?_
                      repeat (first | simp [hbb, h16, hi2, hnn, g1', g2', g1, g2, c29, c29p, c38, c38p, c47, c47p, c57, c57p, c66, c66p] | simp (disch := omega) only [wC, if_pos, if_neg])
                      refine runD_call 19 (by kernel_rfl) (by kernel_rfl) (by kernel_rfl) rfl (by kernel_rfl) (by kernel_rfl) (by kernel_rfl) (by first | rfl | (simp [hbb, h16, hi2, hnn, g1', g2', g1, g2, c29, c29p, c38, c38p, c47, c47p, c57, c57p, c66, c66p]; done)) (by first | rfl | (simp [hbb, h16, hi2, hnn, g1', g2', g1, g2, c29, c29p, c38, c38p, c47, c47p, c57, c57p, c66, c66p]; done)) (by simp) (end_ok (by first | exact g1 _ _ | exact g1' _ _ _)) ?_
                      rintro _ _ ⟨rfl, rfl⟩
                      refine ⟨fun _ _ h => h, ?_⟩
                      repeat (first | simp [hbb, h16, hi2, hnn, g1', g2', g1, g2, c29, c29p, c38, c38p, c47, c47p, c57, c57p, c66, c66p] | simp (disch := omega) only [wC, if_pos, if_neg])
                      refine runD_call 21 (by kernel_rfl) (by kernel_rfl) (by kernel_rfl) rfl (by kernel_rfl) (by kernel_rfl) (by kernel_rfl) (by first | rfl | (simp [hbb, h16, hi2, hnn, g1', g2', g1, g2, c29, c29p, c38, c38p, c47, c47p, c57, c57p, c66, c66p]; done)) (by first | rfl | (simp [hbb, h16, hi2, hnn, g1', g2', g1, g2, c29, c29p, c38, c38p, c47, c47p, c57, c57p, c66, c66p]; done)) (by simp) (inEnd_ok (by first | exact g2 _ _ | exact g2' _ _ _) hk1) ?_
                      rintro _ _ ⟨rfl, rfl⟩
                      refine ⟨fun _ _ h => h, ?_⟩
                      repeat (first | simp [hbb, h16, hi2, hnn, g1', g2', g1, g2, c29, c29p, c38, c38p, c47, c47p, c57, c57p, c66, c66p] | simp (disch := omega) only [wC, if_pos, if_neg])
                      refine rp 22 rfl rfl (by kernel_rfl) ?_
                      repeat (first | simp [hbb, h16, hi2, hnn, g1', g2', g1, g2, c29, c29p, c38, c38p, c47, c47p, c57, c57p, c66, c66p] | simp (disch := omega) only [wC, if_pos, if_neg])
                      refine rp 23 rfl rfl (by kernel_rfl) ?_
                      repeat (first | simp [hbb, h16, hi2, hnn, g1', g2', g1, g2, c29, c29p, c38, c38p, c47, c47p, c57, c57p, c66, c66p] | simp (disch := omega) only [wC, if_pos, if_neg])
                      refine rp 24 rfl rfl (by kernel_rfl) ?_
                      repeat (first | simp [hbb, h16, hi2, hnn, g1', g2', g1, g2, c29, c29p, c38, c38p, c47, c47p, c57, c57p, c66, c66p] | simp (disch := omega) only [wC, if_pos, if_neg])
                      refine runD_done (by kernel_rfl) (by kernel_rfl) (by kernel_rfl) ?_
                      refine hJ42 _ _ ?_
                      refine hK41 _ _ ?_
                      refine run_ret ?_
                      try simp only [Then, InBlock, NoGoto]
                      refine answer_tmp rfl (.inr rfl) ?_
                      have e : readS kd.toNat s = numS s := by rw [htm] at c29 c38 c47 c57 c66; simp at c29 c38 c47 c57 c66; unfold readS; rw [if_neg (by omega), if_neg (by omega), if_neg (by omega), if_neg (by omega), if_pos (by omega)]
                      rw [e]
                      exact ⟨k1, hk1, Wk.refl _, _, [], [], by simp; try rfl⟩
                  · try (exfalso; have gq := c66; simp [hbb, h16, hi2, hnn, g1', g2', g1, g2, c29, c29p, c38, c38p, c47, c47p, c57, c57p] at gq; first | done | omega)
                    all_goals
                     have c66p := c66
                     try simp [hbb, h16, hi2, hnn, g1', g2', g1, g2, c29, c29p, c38, c38p, c47, c47p, c57, c57p] at c66p
                     all_goals (first | (have gq := c66p; skip) | have c66p : True := True.intro)
                     all_goals
                      refine run_seq_k fun K43 hK43 => ?_
                      refine run_region_k rfl fun J44 hJ44 => ?_
                      repeat (first | simp [hbb, h16, hi2, hnn, g1', g2', g1, g2, c29, c29p, c38, c38p, c47, c47p, c57, c57p, c66, c66p] | simp (disch := omega) only [wC, if_pos, if_neg])
                      refine runL_call' (b := true) (by first | rfl | (simp [hbb, h16, hi2, hnn, g1', g2', g1, g2, c29, c29p, c38, c38p, c47, c47p, c57, c57p, c66, c66p, wantedA]; done)) rfl rfl (by first | rfl | (simp [hbb, h16, hi2, hnn, g1', g2', g1, g2, c29, c29p, c38, c38p, c47, c47p, c57, c57p, c66, c66p, callOf]; done)) (by simp) (rcoins_raw h1) ?_
                      rintro _ _ ⟨rfl, rfl⟩
                      repeat (first | simp [hbb, h16, hi2, hnn, g1', g2', g1, g2, c29, c29p, c38, c38p, c47, c47p, c57, c57p, c66, c66p] | simp (disch := omega) only [wC, if_pos, if_neg])
                      refine runL_call' (b := true) (by first | rfl | (simp [hbb, h16, hi2, hnn, g1', g2', g1, g2, c29, c29p, c38, c38p, c47, c47p, c57, c57p, c66, c66p, wantedA]; done)) rfl rfl (by first | rfl | (simp [hbb, h16, hi2, hnn, g1', g2', g1, g2, c29, c29p, c38, c38p, c47, c47p, c57, c57p, c66, c66p, callOf]; done)) (by simp) (inCoins_ok (g0 _) hp hk) ?_
                      rintro _ _ ⟨rfl, k1, hk1, rfl⟩
                      repeat (first | simp [hbb, h16, hi2, hnn, g1', g2', g1, g2, c29, c29p, c38, c38p, c47, c47p, c57, c57p, c66, c66p] | simp (disch := omega) only [wC, if_pos, if_neg])
                      refine hJ44 _ _ ?_
                      refine hK43 _ _ ?_
                      refine run_region_k rfl fun J45 hJ45 => ?_
                      repeat (first | simp [hbb, h16, hi2, hnn, g1', g2', g1, g2, c29, c29p, c38, c38p, c47, c47p, c57, c57p, c66, c66p] | simp (disch := omega) only [wC, if_pos, if_neg])
                      refine runL_call' (b := true) (by first | rfl | (simp [hbb, h16, hi2, hnn, g1', g2', g1, g2, c29, c29p, c38, c38p, c47, c47p, c57, c57p, c66, c66p, wantedA]; done)) rfl rfl (by first | rfl | (simp [hbb, h16, hi2, hnn, g1', g2', g1, g2, c29, c29p, c38, c38p, c47, c47p, c57, c57p, c66, c66p, callOf]; done)) (by simp) (rsame_ok (by omega) (by omega)) ?_
                      rintro _ _ ⟨rfl, rfl⟩
                      repeat (first | simp [hbb, h16, hi2, hnn, g1', g2', g1, g2, c29, c29p, c38, c38p, c47, c47p, c57, c57p, c66, c66p] | simp (disch := omega) only [wC, if_pos, if_neg])
                      refine hJ45 _ _ ?_
                      refine hK5 _ _ ?_
                      refine run_seq_k fun K46 hK46 => ?_
                      refine run_draw (by kernel_rfl) fun J47 hJ47 => ?_
                      refine rp 0 rfl rfl (by kernel_rfl) ?_
                      repeat (first | simp [hbb, h16, hi2, hnn, g1', g2', g1, g2, c29, c29p, c38, c38p, c47, c47p, c57, c57p, c66, c66p] | simp (disch := omega) only [wC, if_pos, if_neg])
                      refine rp 1 rfl rfl (by kernel_rfl) ?_
                      repeat (first | simp [hbb, h16, hi2, hnn, g1', g2', g1, g2, c29, c29p, c38, c38p, c47, c47p, c57, c57p, c66, c66p] | simp (disch := omega) only [wC, if_pos, if_neg])
                      refine rp 2 rfl rfl (by kernel_rfl) ?_
                      repeat (first | simp [hbb, h16, hi2, hnn, g1', g2', g1, g2, c29, c29p, c38, c38p, c47, c47p, c57, c57p, c66, c66p] | simp (disch := omega) only [wC, if_pos, if_neg])
                      refine rp 4 rfl rfl (by kernel_rfl) ?_
                      repeat (first | simp [hbb, h16, hi2, hnn, g1', g2', g1, g2, c29, c29p, c38, c38p, c47, c47p, c57, c57p, c66, c66p] | simp (disch := omega) only [wC, if_pos, if_neg])
                      refine rp 5 rfl rfl (by kernel_rfl) ?_
                      repeat (first | simp [hbb, h16, hi2, hnn, g1', g2', g1, g2, c29, c29p, c38, c38p, c47, c47p, c57, c57p, c66, c66p] | simp (disch := omega) only [wC, if_pos, if_neg])
                      refine rp 6 rfl rfl (by kernel_rfl) ?_
                      repeat (first | simp [hbb, h16, hi2, hnn, g1', g2', g1, g2, c29, c29p, c38, c38p, c47, c47p, c57, c57p, c66, c66p] | simp (disch := omega) only [wC, if_pos, if_neg])
                      refine rp 7 rfl rfl (by kernel_rfl) ?_
                      repeat (first | simp [hbb, h16, hi2, hnn, g1', g2', g1, g2, c29, c29p, c38, c38p, c47, c47p, c57, c57p, c66, c66p] | simp (disch := omega) only [wC, if_pos, if_neg])
                      refine runD_call 3 (by kernel_rfl) (by kernel_rfl) (by kernel_rfl) rfl (by kernel_rfl) (by kernel_rfl) (by kernel_rfl) (by first | rfl | (simp [hbb, h16, hi2, hnn, g1', g2', g1, g2, c29, c29p, c38, c38p, c47, c47p, c57, c57p, c66, c66p]; done)) (by first | rfl | (simp [hbb, h16, hi2, hnn, g1', g2', g1, g2, c29, c29p, c38, c38p, c47, c47p, c57, c57p, c66, c66p]; done)) (by simp) (bad_ok (by first | exact g1 _ _ | exact g1' _ _ _)) ?_
                      rintro _ _ ⟨rfl, rfl⟩
                      refine ⟨fun _ _ h => h, ?_⟩
                      repeat (first | simp [hbb, h16, hi2, hnn, g1', g2', g1, g2, c29, c29p, c38, c38p, c47, c47p, c57, c57p, c66, c66p] | simp (disch := omega) only [wC, if_pos, if_neg])
                      refine rp 8 rfl rfl (by kernel_rfl) ?_
                      repeat (first | simp [hbb, h16, hi2, hnn, g1', g2', g1, g2, c29, c29p, c38, c38p, c47, c47p, c57, c57p, c66, c66p] | simp (disch := omega) only [wC, if_pos, if_neg])
                      refine rp 9 rfl rfl (by kernel_rfl) ?_
                      repeat (first | simp [hbb, h16, hi2, hnn, g1', g2', g1, g2, c29, c29p, c38, c38p, c47, c47p, c57, c57p, c66, c66p] | simp (disch := omega) only [wC, if_pos, if_neg])
                      refine rp 10 rfl rfl (by kernel_rfl) ?_
                      repeat (first | simp [hbb, h16, hi2, hnn, g1', g2', g1, g2, c29, c29p, c38, c38p, c47, c47p, c57, c57p, c66, c66p] | simp (disch := omega) only [wC, if_pos, if_neg])
                      refine rp 11 rfl rfl (by kernel_rfl) ?_
                      repeat (first | simp [hbb, h16, hi2, hnn, g1', g2', g1, g2, c29, c29p, c38, c38p, c47, c47p, c57, c57p, c66, c66p] | simp (disch := omega) only [wC, if_pos, if_neg])
                      refine rp 13 rfl rfl (by kernel_rfl) ?_
                      repeat (first | simp [hbb, h16, hi2, hnn, g1', g2', g1, g2, c29, c29p, c38, c38p, c47, c47p, c57, c57p, c66, c66p] | simp (disch := omega) only [wC, if_pos, if_neg])
                      refine runD_call 12 (by kernel_rfl) (by kernel_rfl) (by kernel_rfl) rfl (by kernel_rfl) (by kernel_rfl) (by kernel_rfl) (by first | rfl | (simp [hbb, h16, hi2, hnn, g1', g2', g1, g2, c29, c29p, c38, c38p, c47, c47p, c57, c57p, c66, c66p]; done)) (by first | rfl | (simp [hbb, h16, hi2, hnn, g1', g2', g1, g2, c29, c29p, c38, c38p, c47, c47p, c57, c57p, c66, c66p]; done)) (by simp) (left_ok (by first | exact g1 _ _ | exact g1' _ _ _)) ?_
                      rintro _ _ ⟨rfl, rfl⟩
                      refine ⟨fun _ _ h => h, ?_⟩
                      repeat (first | simp [hbb, h16, hi2, hnn, g1', g2', g1, g2, c29, c29p, c38, c38p, c47, c47p, c57, c57p, c66, c66p] | simp (disch := omega) only [wC, if_pos, if_neg])
                      refine runD_call 14 (by kernel_rfl) (by kernel_rfl) (by kernel_rfl) rfl (by kernel_rfl) (by kernel_rfl) (by kernel_rfl) (by first | rfl | (simp [hbb, h16, hi2, hnn, g1', g2', g1, g2, c29, c29p, c38, c38p, c47, c47p, c57, c57p, c66, c66p]; done)) (by first | rfl | (simp [hbb, h16, hi2, hnn, g1', g2', g1, g2, c29, c29p, c38, c38p, c47, c47p, c57, c57p, c66, c66p]; done)) (by simp) (inLeft_ok (by first | exact g2 _ _ | exact g2' _ _ _) hp hk1) ?_
                      rintro _ _ ⟨rfl, rfl⟩
                      refine ⟨fun _ _ h => h, ?_⟩
                      repeat (first | simp [hbb, h16, hi2, hnn, g1', g2', g1, g2, c29, c29p, c38, c38p, c47, c47p, c57, c57p, c66, c66p] | simp (disch := omega) only [wC, if_pos, if_neg])
                      refine rp 15 rfl rfl (by kernel_rfl) ?_
                      repeat (first | simp [hbb, h16, hi2, hnn, g1', g2', g1, g2, c29, c29p, c38, c38p, c47, c47p, c57, c57p, c66, c66p] | simp (disch := omega) only [wC, if_pos, if_neg])
                      refine rp 16 rfl rfl (by kernel_rfl) ?_
                      repeat (first | simp [hbb, h16, hi2, hnn, g1', g2', g1, g2, c29, c29p, c38, c38p, c47, c47p, c57, c57p, c66, c66p] | simp (disch := omega) only [wC, if_pos, if_neg])
                      refine rp 17 rfl rfl (by kernel_rfl) ?_
                      repeat (first | simp [hbb, h16, hi2, hnn, g1', g2', g1, g2, c29, c29p, c38, c38p, c47, c47p, c57, c57p, c66, c66p] | simp (disch := omega) only [wC, if_pos, if_neg])
                      refine rp 18 rfl rfl (by kernel_rfl) ?_
                      repeat (first | simp [hbb, h16, hi2, hnn, g1', g2', g1, g2, c29, c29p, c38, c38p, c47, c47p, c57, c57p, c66, c66p] | simp (disch := omega) only [wC, if_pos, if_neg])
                      refine rp 20 rfl rfl (by kernel_rfl) ?_
                      repeat (first | simp [hbb, h16, hi2, hnn, g1', g2', g1, g2, c29, c29p, c38, c38p, c47, c47p, c57, c57p, c66, c66p] | simp (disch := omega) only [wC, if_pos, if_neg])
                      refine runD_call 19 (by kernel_rfl) (by kernel_rfl) (by kernel_rfl) rfl (by kernel_rfl) (by kernel_rfl) (by kernel_rfl) (by first | rfl | (simp [hbb, h16, hi2, hnn, g1', g2', g1, g2, c29, c29p, c38, c38p, c47, c47p, c57, c57p, c66, c66p]; done)) (by first | rfl | (simp [hbb, h16, hi2, hnn, g1', g2', g1, g2, c29, c29p, c38, c38p, c47, c47p, c57, c57p, c66, c66p]; done)) (by simp) (end_ok (by first | exact g1 _ _ | exact g1' _ _ _)) ?_
                      rintro _ _ ⟨rfl, rfl⟩
                      refine ⟨fun _ _ h => h, ?_⟩
                      repeat (first | simp [hbb, h16, hi2, hnn, g1', g2', g1, g2, c29, c29p, c38, c38p, c47, c47p, c57, c57p, c66, c66p] | simp (disch := omega) only [wC, if_pos, if_neg])
                      refine runD_call 21 (by kernel_rfl) (by kernel_rfl) (by kernel_rfl) rfl (by kernel_rfl) (by kernel_rfl) (by kernel_rfl) (by first | rfl | (simp [hbb, h16, hi2, hnn, g1', g2', g1, g2, c29, c29p, c38, c38p, c47, c47p, c57, c57p, c66, c66p]; done)) (by first | rfl | (simp [hbb, h16, hi2, hnn, g1', g2', g1, g2, c29, c29p, c38, c38p, c47, c47p, c57, c57p, c66, c66p]; done)) (by simp) (inEnd_ok (by first | exact g2 _ _ | exact g2' _ _ _) hk1) ?_
                      rintro _ _ ⟨rfl, rfl⟩
                      refine ⟨fun _ _ h => h, ?_⟩
                      repeat (first | simp [hbb, h16, hi2, hnn, g1', g2', g1, g2, c29, c29p, c38, c38p, c47, c47p, c57, c57p, c66, c66p] | simp (disch := omega) only [wC, if_pos, if_neg])
                      refine rp 22 rfl rfl (by kernel_rfl) ?_
                      repeat (first | simp [hbb, h16, hi2, hnn, g1', g2', g1, g2, c29, c29p, c38, c38p, c47, c47p, c57, c57p, c66, c66p] | simp (disch := omega) only [wC, if_pos, if_neg])
                      refine rp 23 rfl rfl (by kernel_rfl) ?_
                      repeat (first | simp [hbb, h16, hi2, hnn, g1', g2', g1, g2, c29, c29p, c38, c38p, c47, c47p, c57, c57p, c66, c66p] | simp (disch := omega) only [wC, if_pos, if_neg])
                      refine rp 24 rfl rfl (by kernel_rfl) ?_
                      repeat (first | simp [hbb, h16, hi2, hnn, g1', g2', g1, g2, c29, c29p, c38, c38p, c47, c47p, c57, c57p, c66, c66p] | simp (disch := omega) only [wC, if_pos, if_neg])
                      refine runD_done (by kernel_rfl) (by kernel_rfl) (by kernel_rfl) ?_
                      refine hJ47 _ _ ?_
                      refine hK46 _ _ ?_
                      refine run_ret ?_
                      try simp only [Then, InBlock, NoGoto]
                      refine answer_tmp rfl (.inr rfl) ?_
                      have e : readS kd.toNat s = coinsS s := by rw [htm] at c29 c38 c47 c57 c66; simp at c29 c38 c47 c57 c66; unfold readS; rw [if_neg (by omega), if_neg (by omega), if_neg (by omega), if_neg (by omega), if_neg (by omega)]
                      rw [e]
                      exact ⟨k1, hk1, Wk.refl _, _, [], [], by simp; try rfl⟩

end Go.Proofs.Ytkbhdlocdajhmaa
