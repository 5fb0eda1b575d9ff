import Derived.Test.YtkbhdlocdajhmaaC6
/-
  CodecFails: what it computes.
-/
namespace Go.Proofs.Ytkbhdlocdajhmaa
set_option linter.unnecessarySimpa false
open Go Go.Vm
set_option linter.unusedSimpArgs false
set_option linter.unusedVariables false

attribute [local simp] evalL wantedA isCall opA evalA evalAll evalsA evalOpt ofValue ofCell plain binA_eql_pn binA_neq_pn binA_gtr binA_lss binA_geq binA_leq binA_add binA_sub binA_eql binA_neq binA_or binA_shl binA_shr binA_mul binA_quo binA_rem convA_int unA_not fieldAddrA loadA partA pickA_true pickA_false pickA_bb lenA builtinA storeA splice AV.cells AV.isCell sliceA boundA intA callOf indexAddrA newObjA buildA fillA zeroA ofCells buildSliceA

theorem callsA_gc_ex {f : FuncId} {args : List AV} {A : AV} {σ : St} (k : CallsA Try.prog f args σ (fun av σ' => av = A ∧ ∃ l, σ' = { σ with objs := σ.objs ++ l })) (hA : A.under σ.objs.length σ.toks.length = true) :
    CallsA Try.prog f args σ (fun av σ' => av = A ∧ σ = σ') := by
  refine callsA_gc k (fun av σ0 ⟨h1, l, h2⟩ => ⟨A, h1 ▸ Wk.refl _, hA, ?_, ?_, ?_, ?_, rfl, ?_⟩)
  · rw [h2]; simp
  · rw [h2]; exact Nat.le_refl _
  · rw [h2]
  · intro id cs hid hc
    rw [h2] at hc
    left
    rw [← hc]
    exact (List.getElem?_append_left hid).symm
  · rw [h2]; simp [St.trim]

set_option maxRecDepth 100000 in
theorem reads_raw {σ : St} {id1 id2 : Nat} {x y : AV} {k : UInt8} (h1 : σ.objs[id1]? = some (rd none)) (h2 : σ.objs[id2]? = some (inBad x y)) :
    CallsA Try.prog 22 [.ptr id1 0, .ptr id2 0, .v (.int .u8 k.toNat)] σ (fun av σ' => av = .v (.bool true) ∧ ∃ l, σ' = { σ with objs := σ.objs ++ l }) := by
  have l1 := lt_of_get h1
  have l2 := lt_of_get h2
  have g1 : ∀ l, (σ.objs ++ l)[id1]? = some (rd none) := fun l => by rw [List.getElem?_append_left l1]; exact h1
  have g2 : ∀ l, (σ.objs ++ l)[id2]? = some (inBad x y) := fun l => by rw [List.getElem?_append_left l2]; exact h2
  have hw0 : IntKind.u64.wrap 0 = 0 := rfl
  have heq : binA Try.prog .eql 50 (.tmp 72) (.tmp 73) (.agg [.v (.int .u64 0), .v (.int .u64 0), .v (.int .u64 0), .v (.int .u64 0)]) (.agg [.v (.int .u64 0), .v (.int .u64 0), .v (.int .u64 0), .v (.int .u64 0)]) = some (.v (.bool true)) := by kernel_rfl
  have hbb : ∀ (xo yo : Operand) (a b : Bool), binA Try.prog .eql 4 xo yo (.v (.bool a)) (.v (.bool b)) = some (.v (.bool (a == b))) := by intro xo yo a b; cases a <;> cases b <;> rfl
  have e1 := h2
  have e2 := g2
  unfold inBad at e1 e2
  refine callsA_body Try.func22 rfl rfl rfl ?_
  refine run_seq_k fun K1 hK1 => ?_
  refine run_region_k rfl fun J2 hJ2 => ?_
  try simp [e1, e2, hw0, heq, hbb, numA_zero]
  refine hJ2 _ _ ?_
  refine hK1 _ _ ?_
  refine run_seq_k fun K3 hK3 => ?_
  refine run_region_k rfl fun J4 hJ4 => ?_
  try simp [e1, e2, hw0, heq, hbb, numA_zero]
  refine hJ4 _ _ ?_
  refine hK3 _ _ ?_
  refine run_seq_k fun K5 hK5 => ?_
  refine run_seq_k fun K6 hK6 => ?_
  refine run_region_k rfl fun J7 hJ7 => ?_
  try simp [e1, e2, hw0, heq, hbb, numA_zero]
  refine hJ7 _ _ ?_
  refine hK6 _ _ ?_
  refine run_block_k ?_
  refine run_seq_k fun K8 hK8 => ?_
  refine run_region_k rfl fun J9 hJ9 => ?_
  try simp [e1, e2, hw0, heq, hbb, numA_zero]
  refine hJ9 _ _ ?_
  refine hK8 _ _ ?_
  refine run_cond_split rfl (fun c29 => ?_) (fun c29 => ?_)
  · try (exfalso; revert c29; simp [e1, e2, hw0, heq, hbb, numA_zero]; done)
    all_goals
      (try simp [e1, e2, hw0, heq, hbb, numA_zero] at c29)
      all_goals
        refine run_seq_k fun K11 hK11 => ?_
        refine run_region_k rfl fun J12 hJ12 => ?_
        try simp [e1, e2, hw0, heq, hbb, numA_zero, c29]
        refine runL_call' (b := true) (by first | rfl | (simp [e1, e2, hw0, heq, hbb, numA_zero, c29, wantedA]; done)) rfl rfl (by first | rfl | (simp [e1, e2, hw0, heq, hbb, numA_zero, c29, callOf]; done)) (by simp) (byte_none h1) ?_
        rintro _ _ ⟨rfl, rfl⟩
        try simp [e1, e2, hw0, heq, hbb, numA_zero, c29]
        refine runL_call' (b := true) (by first | rfl | (simp [e1, e2, hw0, heq, hbb, numA_zero, c29, wantedA]; done)) rfl rfl (by first | rfl | (simp [e1, e2, hw0, heq, hbb, numA_zero, c29, callOf]; done)) (by simp) (inByte_bad h2) ?_
        rintro _ _ ⟨rfl, rfl⟩
        try simp [e1, e2, hw0, heq, hbb, numA_zero, c29]
        refine hJ12 _ _ ?_
        refine hK11 _ _ ?_
        refine run_region_k rfl fun J13 hJ13 => ?_
        try simp [e1, e2, hw0, heq, hbb, numA_zero, c29]
        refine hJ13 _ _ ?_
        refine hK5 _ _ ?_
        refine run_seq_k fun K14 hK14 => ?_
        refine run_draw (by kernel_rfl) fun J15 hJ15 => ?_
        refine runD_pure' 0 (by kernel_rfl) rfl rfl (by kernel_rfl) (by kernel_rfl) (by kernel_rfl) (by kernel_rfl) ?_
        try simp [e1, e2, hw0, heq, hbb, numA_zero, c29]
        refine runD_pure' 1 (by kernel_rfl) rfl rfl (by kernel_rfl) (by kernel_rfl) (by kernel_rfl) (by kernel_rfl) ?_
        try simp [e1, e2, hw0, heq, hbb, numA_zero, c29]
        refine runD_pure' 2 (by kernel_rfl) rfl rfl (by kernel_rfl) (by kernel_rfl) (by kernel_rfl) (by kernel_rfl) ?_
        try simp [e1, e2, hw0, heq, hbb, numA_zero, c29]
        refine runD_pure' 4 (by kernel_rfl) rfl rfl (by kernel_rfl) (by kernel_rfl) (by kernel_rfl) (by kernel_rfl) ?_
        try simp [e1, e2, hw0, heq, hbb, numA_zero, c29]
        refine runD_pure' 5 (by kernel_rfl) rfl rfl (by kernel_rfl) (by kernel_rfl) (by kernel_rfl) (by kernel_rfl) ?_
        try simp [e1, e2, hw0, heq, hbb, numA_zero, c29]
        refine runD_pure' 6 (by kernel_rfl) rfl rfl (by kernel_rfl) (by kernel_rfl) (by kernel_rfl) (by kernel_rfl) ?_
        try simp [e1, e2, hw0, heq, hbb, numA_zero, c29]
        refine runD_pure' 7 (by kernel_rfl) rfl rfl (by kernel_rfl) (by kernel_rfl) (by kernel_rfl) (by kernel_rfl) ?_
        try simp [e1, e2, hw0, heq, hbb, numA_zero, c29]
        refine runD_call 3 (by kernel_rfl) (by kernel_rfl) (by kernel_rfl) rfl (by kernel_rfl) (by kernel_rfl) (by kernel_rfl) (by first | rfl | (simp [e1, e2, hw0, heq, hbb, numA_zero, c29]; done)) (by first | rfl | (simp [e1, e2, hw0, heq, hbb, numA_zero, c29]; done)) (by simp) (bad_none (by first | exact h1 | exact g1 _)) ?_
        rintro _ _ ⟨rfl, rfl⟩
        refine ⟨fun _ _ h => h, ?_⟩
        refine runD_pure' 8 (by kernel_rfl) rfl rfl (by kernel_rfl) (by kernel_rfl) (by kernel_rfl) (by kernel_rfl) ?_
        try simp [e1, e2, hw0, heq, hbb, numA_zero, c29]
        refine runD_pure' 9 (by kernel_rfl) rfl rfl (by kernel_rfl) (by kernel_rfl) (by kernel_rfl) (by kernel_rfl) ?_
        try simp [e1, e2, hw0, heq, hbb, numA_zero, c29]
        refine runD_pure' 10 (by kernel_rfl) rfl rfl (by kernel_rfl) (by kernel_rfl) (by kernel_rfl) (by kernel_rfl) ?_
        try simp [e1, e2, hw0, heq, hbb, numA_zero, c29]
        refine runD_pure' 11 (by kernel_rfl) rfl rfl (by kernel_rfl) (by kernel_rfl) (by kernel_rfl) (by kernel_rfl) ?_
        try simp [e1, e2, hw0, heq, hbb, numA_zero, c29]
        refine runD_pure' 13 (by kernel_rfl) rfl rfl (by kernel_rfl) (by kernel_rfl) (by kernel_rfl) (by kernel_rfl) ?_
        try simp [e1, e2, hw0, heq, hbb, numA_zero, c29]
        refine runD_call 12 (by kernel_rfl) (by kernel_rfl) (by kernel_rfl) rfl (by kernel_rfl) (by kernel_rfl) (by kernel_rfl) (by first | rfl | (simp [e1, e2, hw0, heq, hbb, numA_zero, c29]; done)) (by first | rfl | (simp [e1, e2, hw0, heq, hbb, numA_zero, c29]; done)) (by simp) (left_none (by first | exact h1 | exact g1 _)) ?_
        rintro _ _ ⟨rfl, rfl⟩
        refine ⟨fun _ _ h => h, ?_⟩
        refine runD_call 14 (by kernel_rfl) (by kernel_rfl) (by kernel_rfl) rfl (by kernel_rfl) (by kernel_rfl) (by kernel_rfl) (by first | rfl | (simp [e1, e2, hw0, heq, hbb, numA_zero, c29]; done)) (by first | rfl | (simp [e1, e2, hw0, heq, hbb, numA_zero, c29]; done)) (by simp) (inLeft_bad (by first | exact h2 | exact g2 _)) ?_
        rintro _ _ ⟨rfl, rfl⟩
        refine ⟨fun _ _ h => h, ?_⟩
        refine runD_pure' 15 (by kernel_rfl) rfl rfl (by kernel_rfl) (by kernel_rfl) (by kernel_rfl) (by kernel_rfl) ?_
        try simp [e1, e2, hw0, heq, hbb, numA_zero, c29]
        refine runD_pure' 16 (by kernel_rfl) rfl rfl (by kernel_rfl) (by kernel_rfl) (by kernel_rfl) (by kernel_rfl) ?_
        try simp [e1, e2, hw0, heq, hbb, numA_zero, c29]
        refine runD_pure' 17 (by kernel_rfl) rfl rfl (by kernel_rfl) (by kernel_rfl) (by kernel_rfl) (by kernel_rfl) ?_
        try simp [e1, e2, hw0, heq, hbb, numA_zero, c29]
        refine runD_pure' 18 (by kernel_rfl) rfl rfl (by kernel_rfl) (by kernel_rfl) (by kernel_rfl) (by kernel_rfl) ?_
        try simp [e1, e2, hw0, heq, hbb, numA_zero, c29]
        refine runD_pure' 20 (by kernel_rfl) rfl rfl (by kernel_rfl) (by kernel_rfl) (by kernel_rfl) (by kernel_rfl) ?_
        try simp [e1, e2, hw0, heq, hbb, numA_zero, c29]
        refine runD_call 19 (by kernel_rfl) (by kernel_rfl) (by kernel_rfl) rfl (by kernel_rfl) (by kernel_rfl) (by kernel_rfl) (by first | rfl | (simp [e1, e2, hw0, heq, hbb, numA_zero, c29]; done)) (by first | rfl | (simp [e1, e2, hw0, heq, hbb, numA_zero, c29]; done)) (by simp) (end_none (by first | exact h1 | exact g1 _)) ?_
        rintro _ _ ⟨rfl, rfl⟩
        refine ⟨fun _ _ h => h, ?_⟩
        refine runD_call 21 (by kernel_rfl) (by kernel_rfl) (by kernel_rfl) rfl (by kernel_rfl) (by kernel_rfl) (by kernel_rfl) (by first | rfl | (simp [e1, e2, hw0, heq, hbb, numA_zero, c29]; done)) (by first | rfl | (simp [e1, e2, hw0, heq, hbb, numA_zero, c29]; done)) (by simp) (inEnd_bad (by first | exact h2 | exact g2 _)) ?_
        rintro _ _ ⟨rfl, rfl⟩
        refine ⟨fun _ _ h => h, ?_⟩
        refine runD_pure' 22 (by kernel_rfl) rfl rfl (by kernel_rfl) (by kernel_rfl) (by kernel_rfl) (by kernel_rfl) ?_
        try simp [e1, e2, hw0, heq, hbb, numA_zero, c29]
        refine runD_pure' 23 (by kernel_rfl) rfl rfl (by kernel_rfl) (by kernel_rfl) (by kernel_rfl) (by kernel_rfl) ?_
        try simp [e1, e2, hw0, heq, hbb, numA_zero, c29]
        refine runD_pure' 24 (by kernel_rfl) rfl rfl (by kernel_rfl) (by kernel_rfl) (by kernel_rfl) (by kernel_rfl) ?_
        try simp [e1, e2, hw0, heq, hbb, numA_zero, c29]
        refine runD_done (by kernel_rfl) (by kernel_rfl) (by kernel_rfl) ?_
        refine hJ15 _ _ ?_
        refine hK14 _ _ ?_
        refine run_ret ?_
        try simp only [Then, InBlock, NoGoto]
        refine answer_tmp rfl (.inr rfl) ?_
        exact ⟨by simp, by first | exact ⟨_, rfl⟩ | exact ⟨[], by simp⟩⟩
  · try (exfalso; revert c29; simp [e1, e2, hw0, heq, hbb, numA_zero]; done)
    all_goals
      (try simp [e1, e2, hw0, heq, hbb, numA_zero] at c29)
      all_goals
        refine run_seq_k fun K16 hK16 => ?_
        refine run_region_k rfl fun J17 hJ17 => ?_
        try simp [e1, e2, hw0, heq, hbb, numA_zero, c29]
        refine hJ17 _ _ ?_
        refine hK16 _ _ ?_
        refine run_cond_split rfl (fun c38 => ?_) (fun c38 => ?_)
        · try (exfalso; revert c38; simp [e1, e2, hw0, heq, hbb, numA_zero, c29]; done)
          all_goals
            (try simp [e1, e2, hw0, heq, hbb, numA_zero, c29] at c38)
            all_goals
              refine run_seq_k fun K19 hK19 => ?_
              refine run_region_k rfl fun J20 hJ20 => ?_
              try simp [e1, e2, hw0, heq, hbb, numA_zero, c29, c38]
              refine runL_call' (b := true) (by first | rfl | (simp [e1, e2, hw0, heq, hbb, numA_zero, c29, c38, wantedA]; done)) rfl rfl (by first | rfl | (simp [e1, e2, hw0, heq, hbb, numA_zero, c29, c38, callOf]; done)) (by simp) (flag_none h1) ?_
              rintro _ _ ⟨rfl, rfl⟩
              try simp [e1, e2, hw0, heq, hbb, numA_zero, c29, c38]
              refine runL_call' (b := true) (by first | rfl | (simp [e1, e2, hw0, heq, hbb, numA_zero, c29, c38, wantedA]; done)) rfl rfl (by first | rfl | (simp [e1, e2, hw0, heq, hbb, numA_zero, c29, c38, callOf]; done)) (by simp) (inFlag_bad h2) ?_
              rintro _ _ ⟨rfl, rfl⟩
              try simp [e1, e2, hw0, heq, hbb, numA_zero, c29, c38]
              refine hJ20 _ _ ?_
              refine hK19 _ _ ?_
              refine run_region_k rfl fun J21 hJ21 => ?_
              try simp [e1, e2, hw0, heq, hbb, numA_zero, c29, c38]
              refine hJ21 _ _ ?_
              refine hK5 _ _ ?_
              refine run_seq_k fun K22 hK22 => ?_
              refine run_draw (by kernel_rfl) fun J23 hJ23 => ?_
              refine runD_pure' 0 (by kernel_rfl) rfl rfl (by kernel_rfl) (by kernel_rfl) (by kernel_rfl) (by kernel_rfl) ?_
              try simp [e1, e2, hw0, heq, hbb, numA_zero, c29, c38]
              refine runD_pure' 1 (by kernel_rfl) rfl rfl (by kernel_rfl) (by kernel_rfl) (by kernel_rfl) (by kernel_rfl) ?_
              try simp [e1, e2, hw0, heq, hbb, numA_zero, c29, c38]
              refine runD_pure' 2 (by kernel_rfl) rfl rfl (by kernel_rfl) (by kernel_rfl) (by kernel_rfl) (by kernel_rfl) ?_
              try simp [e1, e2, hw0, heq, hbb, numA_zero, c29, c38]
              refine runD_pure' 4 (by kernel_rfl) rfl rfl (by kernel_rfl) (by kernel_rfl) (by kernel_rfl) (by kernel_rfl) ?_
              try simp [e1, e2, hw0, heq, hbb, numA_zero, c29, c38]
              refine runD_pure' 5 (by kernel_rfl) rfl rfl (by kernel_rfl) (by kernel_rfl) (by kernel_rfl) (by kernel_rfl) ?_
              try simp [e1, e2, hw0, heq, hbb, numA_zero, c29, c38]
              refine runD_pure' 6 (by kernel_rfl) rfl rfl (by kernel_rfl) (by kernel_rfl) (by kernel_rfl) (by kernel_rfl) ?_
              try simp [e1, e2, hw0, heq, hbb, numA_zero, c29, c38]
              refine runD_pure' 7 (by kernel_rfl) rfl rfl (by kernel_rfl) (by kernel_rfl) (by kernel_rfl) (by kernel_rfl) ?_
              try simp [e1, e2, hw0, heq, hbb, numA_zero, c29, c38]
              refine runD_call 3 (by kernel_rfl) (by kernel_rfl) (by kernel_rfl) rfl (by kernel_rfl) (by kernel_rfl) (by kernel_rfl) (by first | rfl | (simp [e1, e2, hw0, heq, hbb, numA_zero, c29, c38]; done)) (by first | rfl | (simp [e1, e2, hw0, heq, hbb, numA_zero, c29, c38]; done)) (by simp) (bad_none (by first | exact h1 | exact g1 _)) ?_
              rintro _ _ ⟨rfl, rfl⟩
              refine ⟨fun _ _ h => h, ?_⟩
              refine runD_pure' 8 (by kernel_rfl) rfl rfl (by kernel_rfl) (by kernel_rfl) (by kernel_rfl) (by kernel_rfl) ?_
              try simp [e1, e2, hw0, heq, hbb, numA_zero, c29, c38]
              refine runD_pure' 9 (by kernel_rfl) rfl rfl (by kernel_rfl) (by kernel_rfl) (by kernel_rfl) (by kernel_rfl) ?_
              try simp [e1, e2, hw0, heq, hbb, numA_zero, c29, c38]
              refine runD_pure' 10 (by kernel_rfl) rfl rfl (by kernel_rfl) (by kernel_rfl) (by kernel_rfl) (by kernel_rfl) ?_
              try simp [e1, e2, hw0, heq, hbb, numA_zero, c29, c38]
              refine runD_pure' 11 (by kernel_rfl) rfl rfl (by kernel_rfl) (by kernel_rfl) (by kernel_rfl) (by kernel_rfl) ?_
              try simp [e1, e2, hw0, heq, hbb, numA_zero, c29, c38]
              refine runD_pure' 13 (by kernel_rfl) rfl rfl (by kernel_rfl) (by kernel_rfl) (by kernel_rfl) (by kernel_rfl) ?_
              try simp [e1, e2, hw0, heq, hbb, numA_zero, c29, c38]
              refine runD_call 12 (by kernel_rfl) (by kernel_rfl) (by kernel_rfl) rfl (by kernel_rfl) (by kernel_rfl) (by kernel_rfl) (by first | rfl | (simp [e1, e2, hw0, heq, hbb, numA_zero, c29, c38]; done)) (by first | rfl | (simp [e1, e2, hw0, heq, hbb, numA_zero, c29, c38]; done)) (by simp) (left_none (by first | exact h1 | exact g1 _)) ?_
              rintro _ _ ⟨rfl, rfl⟩
              refine ⟨fun _ _ h => h, ?_⟩
              refine runD_call 14 (by kernel_rfl) (by kernel_rfl) (by kernel_rfl) rfl (by kernel_rfl) (by kernel_rfl) (by kernel_rfl) (by first | rfl | (simp [e1, e2, hw0, heq, hbb, numA_zero, c29, c38]; done)) (by first | rfl | (simp [e1, e2, hw0, heq, hbb, numA_zero, c29, c38]; done)) (by simp) (inLeft_bad (by first | exact h2 | exact g2 _)) ?_
              rintro _ _ ⟨rfl, rfl⟩
              refine ⟨fun _ _ h => h, ?_⟩
              refine runD_pure' 15 (by kernel_rfl) rfl rfl (by kernel_rfl) (by kernel_rfl) (by kernel_rfl) (by kernel_rfl) ?_
              try simp [e1, e2, hw0, heq, hbb, numA_zero, c29, c38]
              refine runD_pure' 16 (by kernel_rfl) rfl rfl (by kernel_rfl) (by kernel_rfl) (by kernel_rfl) (by kernel_rfl) ?_
              try simp [e1, e2, hw0, heq, hbb, numA_zero, c29, c38]
              refine runD_pure' 17 (by kernel_rfl) rfl rfl (by kernel_rfl) (by kernel_rfl) (by kernel_rfl) (by kernel_rfl) ?_
              try simp [e1, e2, hw0, heq, hbb, numA_zero, c29, c38]
              refine runD_pure' 18 (by kernel_rfl) rfl rfl (by kernel_rfl) (by kernel_rfl) (by kernel_rfl) (by kernel_rfl) ?_
              try simp [e1, e2, hw0, heq, hbb, numA_zero, c29, c38]
              refine runD_pure' 20 (by kernel_rfl) rfl rfl (by kernel_rfl) (by kernel_rfl) (by kernel_rfl) (by kernel_rfl) ?_
              try simp [e1, e2, hw0, heq, hbb, numA_zero, c29, c38]
              refine runD_call 19 (by kernel_rfl) (by kernel_rfl) (by kernel_rfl) rfl (by kernel_rfl) (by kernel_rfl) (by kernel_rfl) (by first | rfl | (simp [e1, e2, hw0, heq, hbb, numA_zero, c29, c38]; done)) (by first | rfl | (simp [e1, e2, hw0, heq, hbb, numA_zero, c29, c38]; done)) (by simp) (end_none (by first | exact h1 | exact g1 _)) ?_
              rintro _ _ ⟨rfl, rfl⟩
              refine ⟨fun _ _ h => h, ?_⟩
              refine runD_call 21 (by kernel_rfl) (by kernel_rfl) (by kernel_rfl) rfl (by kernel_rfl) (by kernel_rfl) (by kernel_rfl) (by first | rfl | (simp [e1, e2, hw0, heq, hbb, numA_zero, c29, c38]; done)) (by first | rfl | (simp [e1, e2, hw0, heq, hbb, numA_zero, c29, c38]; done)) (by simp) (inEnd_bad (by first | exact h2 | exact g2 _)) ?_
              rintro _ _ ⟨rfl, rfl⟩
              refine ⟨fun _ _ h => h, ?_⟩
              refine runD_pure' 22 (by kernel_rfl) rfl rfl (by kernel_rfl) (by kernel_rfl) (by kernel_rfl) (by kernel_rfl) ?_
              try simp [e1, e2, hw0, heq, hbb, numA_zero, c29, c38]
              refine runD_pure' 23 (by kernel_rfl) rfl rfl (by kernel_rfl) (by kernel_rfl) (by kernel_rfl) (by kernel_rfl) ?_
              try simp [e1, e2, hw0, heq, hbb, numA_zero, c29, c38]
              refine runD_pure' 24 (by kernel_rfl) rfl rfl (by kernel_rfl) (by kernel_rfl) (by kernel_rfl) (by kernel_rfl) ?_
              try simp [e1, e2, hw0, heq, hbb, numA_zero, c29, c38]
              refine runD_done (by kernel_rfl) (by kernel_rfl) (by kernel_rfl) ?_
              refine hJ23 _ _ ?_
              refine hK22 _ _ ?_
              refine run_ret ?_
              try simp only [Then, InBlock, NoGoto]
              refine answer_tmp rfl (.inr rfl) ?_
              exact ⟨by simp, by first | exact ⟨_, rfl⟩ | exact ⟨[], by simp⟩⟩
        · try (exfalso; revert c38; simp [e1, e2, hw0, heq, hbb, numA_zero, c29]; done)
          all_goals
            (try simp [e1, e2, hw0, heq, hbb, numA_zero, c29] at c38)
            all_goals
              refine run_seq_k fun K24 hK24 => ?_
              refine run_region_k rfl fun J25 hJ25 => ?_
              try simp [e1, e2, hw0, heq, hbb, numA_zero, c29, c38]
              refine hJ25 _ _ ?_
              refine hK24 _ _ ?_
              refine run_cond_split rfl (fun c47 => ?_) (fun c47 => ?_)
              · try (exfalso; revert c47; simp [e1, e2, hw0, heq, hbb, numA_zero, c29, c38]; done)
                all_goals
                  (try simp [e1, e2, hw0, heq, hbb, numA_zero, c29, c38] at c47)
                  all_goals
                    refine run_seq_k fun K27 hK27 => ?_
                    refine run_region_k rfl fun J28 hJ28 => ?_
                    try simp [e1, e2, hw0, heq, hbb, numA_zero, c29, c38, c47]
                    refine runL_call' (b := true) (by first | rfl | (simp [e1, e2, hw0, heq, hbb, numA_zero, c29, c38, c47, wantedA]; done)) rfl rfl (by first | rfl | (simp [e1, e2, hw0, heq, hbb, numA_zero, c29, c38, c47, callOf]; done)) (by simp) (short_none h1) ?_
                    rintro _ _ ⟨rfl, rfl⟩
                    try simp [e1, e2, hw0, heq, hbb, numA_zero, c29, c38, c47]
                    refine runL_call' (b := true) (by first | rfl | (simp [e1, e2, hw0, heq, hbb, numA_zero, c29, c38, c47, wantedA]; done)) rfl rfl (by first | rfl | (simp [e1, e2, hw0, heq, hbb, numA_zero, c29, c38, c47, callOf]; done)) (by simp) (inLong_bad (n := 2) h2) ?_
                    rintro _ _ ⟨rfl, rfl⟩
                    try simp [e1, e2, hw0, heq, hbb, numA_zero, c29, c38, c47]
                    refine hJ28 _ _ ?_
                    refine hK27 _ _ ?_
                    refine run_region_k rfl fun J29 hJ29 => ?_
                    try simp [e1, e2, hw0, heq, hbb, numA_zero, c29, c38, c47]
                    refine hJ29 _ _ ?_
                    refine hK5 _ _ ?_
                    refine run_seq_k fun K30 hK30 => ?_
                    refine run_draw (by kernel_rfl) fun J31 hJ31 => ?_
                    refine runD_pure' 0 (by kernel_rfl) rfl rfl (by kernel_rfl) (by kernel_rfl) (by kernel_rfl) (by kernel_rfl) ?_
                    try simp [e1, e2, hw0, heq, hbb, numA_zero, c29, c38, c47]
                    refine runD_pure' 1 (by kernel_rfl) rfl rfl (by kernel_rfl) (by kernel_rfl) (by kernel_rfl) (by kernel_rfl) ?_
                    try simp [e1, e2, hw0, heq, hbb, numA_zero, c29, c38, c47]
                    refine runD_pure' 2 (by kernel_rfl) rfl rfl (by kernel_rfl) (by kernel_rfl) (by kernel_rfl) (by kernel_rfl) ?_
                    try simp [e1, e2, hw0, heq, hbb, numA_zero, c29, c38, c47]
                    refine runD_pure' 4 (by kernel_rfl) rfl rfl (by kernel_rfl) (by kernel_rfl) (by kernel_rfl) (by kernel_rfl) ?_
                    try simp [e1, e2, hw0, heq, hbb, numA_zero, c29, c38, c47]
                    refine runD_pure' 5 (by kernel_rfl) rfl rfl (by kernel_rfl) (by kernel_rfl) (by kernel_rfl) (by kernel_rfl) ?_
                    try simp [e1, e2, hw0, heq, hbb, numA_zero, c29, c38, c47]
                    refine runD_pure' 6 (by kernel_rfl) rfl rfl (by kernel_rfl) (by kernel_rfl) (by kernel_rfl) (by kernel_rfl) ?_
                    try simp [e1, e2, hw0, heq, hbb, numA_zero, c29, c38, c47]
                    refine runD_pure' 7 (by kernel_rfl) rfl rfl (by kernel_rfl) (by kernel_rfl) (by kernel_rfl) (by kernel_rfl) ?_
                    try simp [e1, e2, hw0, heq, hbb, numA_zero, c29, c38, c47]
                    refine runD_call 3 (by kernel_rfl) (by kernel_rfl) (by kernel_rfl) rfl (by kernel_rfl) (by kernel_rfl) (by kernel_rfl) (by first | rfl | (simp [e1, e2, hw0, heq, hbb, numA_zero, c29, c38, c47]; done)) (by first | rfl | (simp [e1, e2, hw0, heq, hbb, numA_zero, c29, c38, c47]; done)) (by simp) (bad_none (by first | exact h1 | exact g1 _)) ?_
                    rintro _ _ ⟨rfl, rfl⟩
                    refine ⟨fun _ _ h => h, ?_⟩
                    refine runD_pure' 8 (by kernel_rfl) rfl rfl (by kernel_rfl) (by kernel_rfl) (by kernel_rfl) (by kernel_rfl) ?_
                    try simp [e1, e2, hw0, heq, hbb, numA_zero, c29, c38, c47]
                    refine runD_pure' 9 (by kernel_rfl) rfl rfl (by kernel_rfl) (by kernel_rfl) (by kernel_rfl) (by kernel_rfl) ?_
                    try simp [e1, e2, hw0, heq, hbb, numA_zero, c29, c38, c47]
                    refine runD_pure' 10 (by kernel_rfl) rfl rfl (by kernel_rfl) (by kernel_rfl) (by kernel_rfl) (by kernel_rfl) ?_
                    try simp [e1, e2, hw0, heq, hbb, numA_zero, c29, c38, c47]
                    refine runD_pure' 11 (by kernel_rfl) rfl rfl (by kernel_rfl) (by kernel_rfl) (by kernel_rfl) (by kernel_rfl) ?_
                    try simp [e1, e2, hw0, heq, hbb, numA_zero, c29, c38, c47]
                    refine runD_pure' 13 (by kernel_rfl) rfl rfl (by kernel_rfl) (by kernel_rfl) (by kernel_rfl) (by kernel_rfl) ?_
                    try simp [e1, e2, hw0, heq, hbb, numA_zero, c29, c38, c47]
                    refine runD_call 12 (by kernel_rfl) (by kernel_rfl) (by kernel_rfl) rfl (by kernel_rfl) (by kernel_rfl) (by kernel_rfl) (by first | rfl | (simp [e1, e2, hw0, heq, hbb, numA_zero, c29, c38, c47]; done)) (by first | rfl | (simp [e1, e2, hw0, heq, hbb, numA_zero, c29, c38, c47]; done)) (by simp) (left_none (by first | exact h1 | exact g1 _)) ?_
                    rintro _ _ ⟨rfl, rfl⟩
                    refine ⟨fun _ _ h => h, ?_⟩
                    refine runD_call 14 (by kernel_rfl) (by kernel_rfl) (by kernel_rfl) rfl (by kernel_rfl) (by kernel_rfl) (by kernel_rfl) (by first | rfl | (simp [e1, e2, hw0, heq, hbb, numA_zero, c29, c38, c47]; done)) (by first | rfl | (simp [e1, e2, hw0, heq, hbb, numA_zero, c29, c38, c47]; done)) (by simp) (inLeft_bad (by first | exact h2 | exact g2 _)) ?_
                    rintro _ _ ⟨rfl, rfl⟩
                    refine ⟨fun _ _ h => h, ?_⟩
                    refine runD_pure' 15 (by kernel_rfl) rfl rfl (by kernel_rfl) (by kernel_rfl) (by kernel_rfl) (by kernel_rfl) ?_
                    try simp [e1, e2, hw0, heq, hbb, numA_zero, c29, c38, c47]
                    refine runD_pure' 16 (by kernel_rfl) rfl rfl (by kernel_rfl) (by kernel_rfl) (by kernel_rfl) (by kernel_rfl) ?_
                    try simp [e1, e2, hw0, heq, hbb, numA_zero, c29, c38, c47]
                    refine runD_pure' 17 (by kernel_rfl) rfl rfl (by kernel_rfl) (by kernel_rfl) (by kernel_rfl) (by kernel_rfl) ?_
                    try simp [e1, e2, hw0, heq, hbb, numA_zero, c29, c38, c47]
                    refine runD_pure' 18 (by kernel_rfl) rfl rfl (by kernel_rfl) (by kernel_rfl) (by kernel_rfl) (by kernel_rfl) ?_
                    try simp [e1, e2, hw0, heq, hbb, numA_zero, c29, c38, c47]
                    refine runD_pure' 20 (by kernel_rfl) rfl rfl (by kernel_rfl) (by kernel_rfl) (by kernel_rfl) (by kernel_rfl) ?_
                    try simp [e1, e2, hw0, heq, hbb, numA_zero, c29, c38, c47]
                    refine runD_call 19 (by kernel_rfl) (by kernel_rfl) (by kernel_rfl) rfl (by kernel_rfl) (by kernel_rfl) (by kernel_rfl) (by first | rfl | (simp [e1, e2, hw0, heq, hbb, numA_zero, c29, c38, c47]; done)) (by first | rfl | (simp [e1, e2, hw0, heq, hbb, numA_zero, c29, c38, c47]; done)) (by simp) (end_none (by first | exact h1 | exact g1 _)) ?_
                    rintro _ _ ⟨rfl, rfl⟩
                    refine ⟨fun _ _ h => h, ?_⟩
                    refine runD_call 21 (by kernel_rfl) (by kernel_rfl) (by kernel_rfl) rfl (by kernel_rfl) (by kernel_rfl) (by kernel_rfl) (by first | rfl | (simp [e1, e2, hw0, heq, hbb, numA_zero, c29, c38, c47]; done)) (by first | rfl | (simp [e1, e2, hw0, heq, hbb, numA_zero, c29, c38, c47]; done)) (by simp) (inEnd_bad (by first | exact h2 | exact g2 _)) ?_
                    rintro _ _ ⟨rfl, rfl⟩
                    refine ⟨fun _ _ h => h, ?_⟩
                    refine runD_pure' 22 (by kernel_rfl) rfl rfl (by kernel_rfl) (by kernel_rfl) (by kernel_rfl) (by kernel_rfl) ?_
                    try simp [e1, e2, hw0, heq, hbb, numA_zero, c29, c38, c47]
                    refine runD_pure' 23 (by kernel_rfl) rfl rfl (by kernel_rfl) (by kernel_rfl) (by kernel_rfl) (by kernel_rfl) ?_
                    try simp [e1, e2, hw0, heq, hbb, numA_zero, c29, c38, c47]
                    refine runD_pure' 24 (by kernel_rfl) rfl rfl (by kernel_rfl) (by kernel_rfl) (by kernel_rfl) (by kernel_rfl) ?_
                    try simp [e1, e2, hw0, heq, hbb, numA_zero, c29, c38, c47]
                    refine runD_done (by kernel_rfl) (by kernel_rfl) (by kernel_rfl) ?_
                    refine hJ31 _ _ ?_
                    refine hK30 _ _ ?_
                    refine run_ret ?_
                    try simp only [Then, InBlock, NoGoto]
                    refine answer_tmp rfl (.inr rfl) ?_
                    exact ⟨by simp, by first | exact ⟨_, rfl⟩ | exact ⟨[], by simp⟩⟩
              · try (exfalso; revert c47; simp [e1, e2, hw0, heq, hbb, numA_zero, c29, c38]; done)
                all_goals
                  (try simp [e1, e2, hw0, heq, hbb, numA_zero, c29, c38] at c47)
                  all_goals
                    refine run_seq_k fun K32 hK32 => ?_
                    refine run_region_k rfl fun J33 hJ33 => ?_
                    try simp [e1, e2, hw0, heq, hbb, numA_zero, c29, c38, c47]
                    refine hJ33 _ _ ?_
                    refine hK32 _ _ ?_
                    refine run_cond_split rfl (fun c57 => ?_) (fun c57 => ?_)
                    · try (exfalso; revert c57; simp [e1, e2, hw0, heq, hbb, numA_zero, c29, c38, c47]; done)
                      all_goals
                        (try simp [e1, e2, hw0, heq, hbb, numA_zero, c29, c38, c47] at c57)
                        all_goals
                          refine run_seq_k fun K35 hK35 => ?_
                          refine run_region_k rfl fun J36 hJ36 => ?_
                          try simp [e1, e2, hw0, heq, hbb, numA_zero, c29, c38, c47, c57]
                          refine runL_call' (b := true) (by first | rfl | (simp [e1, e2, hw0, heq, hbb, numA_zero, c29, c38, c47, c57, wantedA]; done)) rfl rfl (by first | rfl | (simp [e1, e2, hw0, heq, hbb, numA_zero, c29, c38, c47, c57, callOf]; done)) (by simp) (long_none h1) ?_
                          rintro _ _ ⟨rfl, rfl⟩
                          try simp [e1, e2, hw0, heq, hbb, numA_zero, c29, c38, c47, c57]
                          refine runL_call' (b := true) (by first | rfl | (simp [e1, e2, hw0, heq, hbb, numA_zero, c29, c38, c47, c57, wantedA]; done)) rfl rfl (by first | rfl | (simp [e1, e2, hw0, heq, hbb, numA_zero, c29, c38, c47, c57, callOf]; done)) (by simp) (inLong_bad (n := 8) h2) ?_
                          rintro _ _ ⟨rfl, rfl⟩
                          try simp [e1, e2, hw0, heq, hbb, numA_zero, c29, c38, c47, c57]
                          refine hJ36 _ _ ?_
                          refine hK35 _ _ ?_
                          refine run_region_k rfl fun J37 hJ37 => ?_
                          try simp [e1, e2, hw0, heq, hbb, numA_zero, c29, c38, c47, c57]
                          refine hJ37 _ _ ?_
                          refine hK5 _ _ ?_
                          refine run_seq_k fun K38 hK38 => ?_
                          refine run_draw (by kernel_rfl) fun J39 hJ39 => ?_
                          refine runD_pure' 0 (by kernel_rfl) rfl rfl (by kernel_rfl) (by kernel_rfl) (by kernel_rfl) (by kernel_rfl) ?_
                          try simp [e1, e2, hw0, heq, hbb, numA_zero, c29, c38, c47, c57]
                          refine runD_pure' 1 (by kernel_rfl) rfl rfl (by kernel_rfl) (by kernel_rfl) (by kernel_rfl) (by kernel_rfl) ?_
                          try simp [e1, e2, hw0, heq, hbb, numA_zero, c29, c38, c47, c57]
                          refine runD_pure' 2 (by kernel_rfl) rfl rfl (by kernel_rfl) (by kernel_rfl) (by kernel_rfl) (by kernel_rfl) ?_
                          try simp [e1, e2, hw0, heq, hbb, numA_zero, c29, c38, c47, c57]
                          refine runD_pure' 4 (by kernel_rfl) rfl rfl (by kernel_rfl) (by kernel_rfl) (by kernel_rfl) (by kernel_rfl) ?_
                          try simp [e1, e2, hw0, heq, hbb, numA_zero, c29, c38, c47, c57]
                          refine runD_pure' 5 (by kernel_rfl) rfl rfl (by kernel_rfl) (by kernel_rfl) (by kernel_rfl) (by kernel_rfl) ?_
                          try simp [e1, e2, hw0, heq, hbb, numA_zero, c29, c38, c47, c57]
                          refine runD_pure' 6 (by kernel_rfl) rfl rfl (by kernel_rfl) (by kernel_rfl) (by kernel_rfl) (by kernel_rfl) ?_
                          try simp [e1, e2, hw0, heq, hbb, numA_zero, c29, c38, c47, c57]
                          refine runD_pure' 7 (by kernel_rfl) rfl rfl (by kernel_rfl) (by kernel_rfl) (by kernel_rfl) (by kernel_rfl) ?_
                          try simp [e1, e2, hw0, heq, hbb, numA_zero, c29, c38, c47, c57]
                          refine runD_call 3 (by kernel_rfl) (by kernel_rfl) (by kernel_rfl) rfl (by kernel_rfl) (by kernel_rfl) (by kernel_rfl) (by first | rfl | (simp [e1, e2, hw0, heq, hbb, numA_zero, c29, c38, c47, c57]; done)) (by first | rfl | (simp [e1, e2, hw0, heq, hbb, numA_zero, c29, c38, c47, c57]; done)) (by simp) (bad_none (by first | exact h1 | exact g1 _)) ?_
                          rintro _ _ ⟨rfl, rfl⟩
                          refine ⟨fun _ _ h => h, ?_⟩
                          refine runD_pure' 8 (by kernel_rfl) rfl rfl (by kernel_rfl) (by kernel_rfl) (by kernel_rfl) (by kernel_rfl) ?_
                          try simp [e1, e2, hw0, heq, hbb, numA_zero, c29, c38, c47, c57]
                          refine runD_pure' 9 (by kernel_rfl) rfl rfl (by kernel_rfl) (by kernel_rfl) (by kernel_rfl) (by kernel_rfl) ?_
                          try simp [e1, e2, hw0, heq, hbb, numA_zero, c29, c38, c47, c57]
                          refine runD_pure' 10 (by kernel_rfl) rfl rfl (by kernel_rfl) (by kernel_rfl) (by kernel_rfl) (by kernel_rfl) ?_
                          try simp [e1, e2, hw0, heq, hbb, numA_zero, c29, c38, c47, c57]
                          refine runD_pure' 11 (by kernel_rfl) rfl rfl (by kernel_rfl) (by kernel_rfl) (by kernel_rfl) (by kernel_rfl) ?_
                          try simp [e1, e2, hw0, heq, hbb, numA_zero, c29, c38, c47, c57]
                          refine runD_pure' 13 (by kernel_rfl) rfl rfl (by kernel_rfl) (by kernel_rfl) (by kernel_rfl) (by kernel_rfl) ?_
                          try simp [e1, e2, hw0, heq, hbb, numA_zero, c29, c38, c47, c57]
                          refine runD_call 12 (by kernel_rfl) (by kernel_rfl) (by kernel_rfl) rfl (by kernel_rfl) (by kernel_rfl) (by kernel_rfl) (by first | rfl | (simp [e1, e2, hw0, heq, hbb, numA_zero, c29, c38, c47, c57]; done)) (by first | rfl | (simp [e1, e2, hw0, heq, hbb, numA_zero, c29, c38, c47, c57]; done)) (by simp) (left_none (by first | exact h1 | exact g1 _)) ?_
                          rintro _ _ ⟨rfl, rfl⟩
                          refine ⟨fun _ _ h => h, ?_⟩
                          refine runD_call 14 (by kernel_rfl) (by kernel_rfl) (by kernel_rfl) rfl (by kernel_rfl) (by kernel_rfl) (by kernel_rfl) (by first | rfl | (simp [e1, e2, hw0, heq, hbb, numA_zero, c29, c38, c47, c57]; done)) (by first | rfl | (simp [e1, e2, hw0, heq, hbb, numA_zero, c29, c38, c47, c57]; done)) (by simp) (inLeft_bad (by first | exact h2 | exact g2 _)) ?_
                          rintro _ _ ⟨rfl, rfl⟩
                          refine ⟨fun _ _ h => h, ?_⟩
                          refine runD_pure' 15 (by kernel_rfl) rfl rfl (by kernel_rfl) (by kernel_rfl) (by kernel_rfl) (by kernel_rfl) ?_
                          try simp [e1, e2, hw0, heq, hbb, numA_zero, c29, c38, c47, c57]
                          refine runD_pure' 16 (by kernel_rfl) rfl rfl (by kernel_rfl) (by kernel_rfl) (by kernel_rfl) (by kernel_rfl) ?_
                          try simp [e1, e2, hw0, heq, hbb, numA_zero, c29, c38, c47, c57]
                          refine runD_pure' 17 (by kernel_rfl) rfl rfl (by kernel_rfl) (by kernel_rfl) (by kernel_rfl) (by kernel_rfl) ?_
                          try simp [e1, e2, hw0, heq, hbb, numA_zero, c29, c38, c47, c57]
                          refine runD_pure' 18 (by kernel_rfl) rfl rfl (by kernel_rfl) (by kernel_rfl) (by kernel_rfl) (by kernel_rfl) ?_
                          try simp [e1, e2, hw0, heq, hbb, numA_zero, c29, c38, c47, c57]
                          refine runD_pure' 20 (by kernel_rfl) rfl rfl (by kernel_rfl) (by kernel_rfl) (by kernel_rfl) (by kernel_rfl) ?_
                          try simp [e1, e2, hw0, heq, hbb, numA_zero, c29, c38, c47, c57]
                          refine runD_call 19 (by kernel_rfl) (by kernel_rfl) (by kernel_rfl) rfl (by kernel_rfl) (by kernel_rfl) (by kernel_rfl) (by first | rfl | (simp [e1, e2, hw0, heq, hbb, numA_zero, c29, c38, c47, c57]; done)) (by first | rfl | (simp [e1, e2, hw0, heq, hbb, numA_zero, c29, c38, c47, c57]; done)) (by simp) (end_none (by first | exact h1 | exact g1 _)) ?_
                          rintro _ _ ⟨rfl, rfl⟩
                          refine ⟨fun _ _ h => h, ?_⟩
                          refine runD_call 21 (by kernel_rfl) (by kernel_rfl) (by kernel_rfl) rfl (by kernel_rfl) (by kernel_rfl) (by kernel_rfl) (by first | rfl | (simp [e1, e2, hw0, heq, hbb, numA_zero, c29, c38, c47, c57]; done)) (by first | rfl | (simp [e1, e2, hw0, heq, hbb, numA_zero, c29, c38, c47, c57]; done)) (by simp) (inEnd_bad (by first | exact h2 | exact g2 _)) ?_
                          rintro _ _ ⟨rfl, rfl⟩
                          refine ⟨fun _ _ h => h, ?_⟩
                          refine runD_pure' 22 (by kernel_rfl) rfl rfl (by kernel_rfl) (by kernel_rfl) (by kernel_rfl) (by kernel_rfl) ?_
                          try simp [e1, e2, hw0, heq, hbb, numA_zero, c29, c38, c47, c57]
                          refine runD_pure' 23 (by kernel_rfl) rfl rfl (by kernel_rfl) (by kernel_rfl) (by kernel_rfl) (by kernel_rfl) ?_
                          try simp [e1, e2, hw0, heq, hbb, numA_zero, c29, c38, c47, c57]
                          refine runD_pure' 24 (by kernel_rfl) rfl rfl (by kernel_rfl) (by kernel_rfl) (by kernel_rfl) (by kernel_rfl) ?_
                          try simp [e1, e2, hw0, heq, hbb, numA_zero, c29, c38, c47, c57]
                          refine runD_done (by kernel_rfl) (by kernel_rfl) (by kernel_rfl) ?_
                          refine hJ39 _ _ ?_
                          refine hK38 _ _ ?_
                          refine run_ret ?_
                          try simp only [Then, InBlock, NoGoto]
                          refine answer_tmp rfl (.inr rfl) ?_
                          exact ⟨by simp, by first | exact ⟨_, rfl⟩ | exact ⟨[], by simp⟩⟩
                    · try (exfalso; revert c57; simp [e1, e2, hw0, heq, hbb, numA_zero, c29, c38, c47]; done)
                      all_goals
                        (try simp [e1, e2, hw0, heq, hbb, numA_zero, c29, c38, c47] at c57)
                        all_goals
                          refine run_seq_k fun K40 hK40 => ?_
                          refine run_region_k rfl fun J41 hJ41 => ?_
                          try simp [e1, e2, hw0, heq, hbb, numA_zero, c29, c38, c47, c57]
                          refine hJ41 _ _ ?_
                          refine hK40 _ _ ?_
                          refine run_cond_split rfl (fun c66 => ?_) (fun c66 => ?_)
                          · try (exfalso; revert c66; simp [e1, e2, hw0, heq, hbb, numA_zero, c29, c38, c47, c57]; done)
                            all_goals
                              (try simp [e1, e2, hw0, heq, hbb, numA_zero, c29, c38, c47, c57] at c66)
                              all_goals
                                refine run_seq_k fun K43 hK43 => ?_
                                refine run_region_k rfl fun J44 hJ44 => ?_
                                try simp [e1, e2, hw0, heq, hbb, numA_zero, c29, c38, c47, c57, c66]
                                refine runL_call' (b := true) (by first | rfl | (simp [e1, e2, hw0, heq, hbb, numA_zero, c29, c38, c47, c57, c66, wantedA]; done)) rfl rfl (by first | rfl | (simp [e1, e2, hw0, heq, hbb, numA_zero, c29, c38, c47, c57, c66, callOf]; done)) (by simp) (num_none h1) ?_
                                rintro _ _ ⟨rfl, rfl⟩
                                try simp [e1, e2, hw0, heq, hbb, numA_zero, c29, c38, c47, c57, c66]
                                refine runL_call' (b := true) (by first | rfl | (simp [e1, e2, hw0, heq, hbb, numA_zero, c29, c38, c47, c57, c66, wantedA]; done)) rfl rfl (by first | rfl | (simp [e1, e2, hw0, heq, hbb, numA_zero, c29, c38, c47, c57, c66, callOf]; done)) (by simp) (inNum_bad h2) ?_
                                rintro _ _ ⟨rfl, rfl⟩
                                try simp [e1, e2, hw0, heq, hbb, numA_zero, c29, c38, c47, c57, c66]
                                refine hJ44 _ _ ?_
                                refine hK43 _ _ ?_
                                refine run_region_k rfl fun J45 hJ45 => ?_
                                try simp [e1, e2, hw0, heq, hbb, numA_zero, c29, c38, c47, c57, c66]
                                refine hJ45 _ _ ?_
                                refine hK5 _ _ ?_
                                refine run_seq_k fun K46 hK46 => ?_
                                refine run_draw (by kernel_rfl) fun J47 hJ47 => ?_
                                refine runD_pure' 0 (by kernel_rfl) rfl rfl (by kernel_rfl) (by kernel_rfl) (by kernel_rfl) (by kernel_rfl) ?_
                                try simp [e1, e2, hw0, heq, hbb, numA_zero, c29, c38, c47, c57, c66]
                                refine runD_pure' 1 (by kernel_rfl) rfl rfl (by kernel_rfl) (by kernel_rfl) (by kernel_rfl) (by kernel_rfl) ?_
                                try simp [e1, e2, hw0, heq, hbb, numA_zero, c29, c38, c47, c57, c66]
                                refine runD_pure' 2 (by kernel_rfl) rfl rfl (by kernel_rfl) (by kernel_rfl) (by kernel_rfl) (by kernel_rfl) ?_
                                try simp [e1, e2, hw0, heq, hbb, numA_zero, c29, c38, c47, c57, c66]
                                refine runD_pure' 4 (by kernel_rfl) rfl rfl (by kernel_rfl) (by kernel_rfl) (by kernel_rfl) (by kernel_rfl) ?_
                                try simp [e1, e2, hw0, heq, hbb, numA_zero, c29, c38, c47, c57, c66]
                                refine runD_pure' 5 (by kernel_rfl) rfl rfl (by kernel_rfl) (by kernel_rfl) (by kernel_rfl) (by kernel_rfl) ?_
                                try simp [e1, e2, hw0, heq, hbb, numA_zero, c29, c38, c47, c57, c66]
                                refine runD_pure' 6 (by kernel_rfl) rfl rfl (by kernel_rfl) (by kernel_rfl) (by kernel_rfl) (by kernel_rfl) ?_
                                try simp [e1, e2, hw0, heq, hbb, numA_zero, c29, c38, c47, c57, c66]
                                refine runD_pure' 7 (by kernel_rfl) rfl rfl (by kernel_rfl) (by kernel_rfl) (by kernel_rfl) (by kernel_rfl) ?_
                                try simp [e1, e2, hw0, heq, hbb, numA_zero, c29, c38, c47, c57, c66]
                                refine runD_call 3 (by kernel_rfl) (by kernel_rfl) (by kernel_rfl) rfl (by kernel_rfl) (by kernel_rfl) (by kernel_rfl) (by first | rfl | (simp [e1, e2, hw0, heq, hbb, numA_zero, c29, c38, c47, c57, c66]; done)) (by first | rfl | (simp [e1, e2, hw0, heq, hbb, numA_zero, c29, c38, c47, c57, c66]; done)) (by simp) (bad_none (by first | exact h1 | exact g1 _)) ?_
                                rintro _ _ ⟨rfl, rfl⟩
                                refine ⟨fun _ _ h => h, ?_⟩
                                refine runD_pure' 8 (by kernel_rfl) rfl rfl (by kernel_rfl) (by kernel_rfl) (by kernel_rfl) (by kernel_rfl) ?_
                                try simp [e1, e2, hw0, heq, hbb, numA_zero, c29, c38, c47, c57, c66]
                                refine runD_pure' 9 (by kernel_rfl) rfl rfl (by kernel_rfl) (by kernel_rfl) (by kernel_rfl) (by kernel_rfl) ?_
                                try simp [e1, e2, hw0, heq, hbb, numA_zero, c29, c38, c47, c57, c66]
                                refine runD_pure' 10 (by kernel_rfl) rfl rfl (by kernel_rfl) (by kernel_rfl) (by kernel_rfl) (by kernel_rfl) ?_
                                try simp [e1, e2, hw0, heq, hbb, numA_zero, c29, c38, c47, c57, c66]
                                refine runD_pure' 11 (by kernel_rfl) rfl rfl (by kernel_rfl) (by kernel_rfl) (by kernel_rfl) (by kernel_rfl) ?_
                                try simp [e1, e2, hw0, heq, hbb, numA_zero, c29, c38, c47, c57, c66]
                                refine runD_pure' 13 (by kernel_rfl) rfl rfl (by kernel_rfl) (by kernel_rfl) (by kernel_rfl) (by kernel_rfl) ?_
                                try simp [e1, e2, hw0, heq, hbb, numA_zero, c29, c38, c47, c57, c66]
                                refine runD_call 12 (by kernel_rfl) (by kernel_rfl) (by kernel_rfl) rfl (by kernel_rfl) (by kernel_rfl) (by kernel_rfl) (by first | rfl | (simp [e1, e2, hw0, heq, hbb, numA_zero, c29, c38, c47, c57, c66]; done)) (by first | rfl | (simp [e1, e2, hw0, heq, hbb, numA_zero, c29, c38, c47, c57, c66]; done)) (by simp) (left_none (by first | exact h1 | exact g1 _)) ?_
                                rintro _ _ ⟨rfl, rfl⟩
                                refine ⟨fun _ _ h => h, ?_⟩
                                refine runD_call 14 (by kernel_rfl) (by kernel_rfl) (by kernel_rfl) rfl (by kernel_rfl) (by kernel_rfl) (by kernel_rfl) (by first | rfl | (simp [e1, e2, hw0, heq, hbb, numA_zero, c29, c38, c47, c57, c66]; done)) (by first | rfl | (simp [e1, e2, hw0, heq, hbb, numA_zero, c29, c38, c47, c57, c66]; done)) (by simp) (inLeft_bad (by first | exact h2 | exact g2 _)) ?_
                                rintro _ _ ⟨rfl, rfl⟩
                                refine ⟨fun _ _ h => h, ?_⟩
                                refine runD_pure' 15 (by kernel_rfl) rfl rfl (by kernel_rfl) (by kernel_rfl) (by kernel_rfl) (by kernel_rfl) ?_
                                try simp [e1, e2, hw0, heq, hbb, numA_zero, c29, c38, c47, c57, c66]
                                refine runD_pure' 16 (by kernel_rfl) rfl rfl (by kernel_rfl) (by kernel_rfl) (by kernel_rfl) (by kernel_rfl) ?_
                                try simp [e1, e2, hw0, heq, hbb, numA_zero, c29, c38, c47, c57, c66]
                                refine runD_pure' 17 (by kernel_rfl) rfl rfl (by kernel_rfl) (by kernel_rfl) (by kernel_rfl) (by kernel_rfl) ?_
                                try simp [e1, e2, hw0, heq, hbb, numA_zero, c29, c38, c47, c57, c66]
                                refine runD_pure' 18 (by kernel_rfl) rfl rfl (by kernel_rfl) (by kernel_rfl) (by kernel_rfl) (by kernel_rfl) ?_
                                try simp [e1, e2, hw0, heq, hbb, numA_zero, c29, c38, c47, c57, c66]
                                refine runD_pure' 20 (by kernel_rfl) rfl rfl (by kernel_rfl) (by kernel_rfl) (by kernel_rfl) (by kernel_rfl) ?_
                                try simp [e1, e2, hw0, heq, hbb, numA_zero, c29, c38, c47, c57, c66]
                                refine runD_call 19 (by kernel_rfl) (by kernel_rfl) (by kernel_rfl) rfl (by kernel_rfl) (by kernel_rfl) (by kernel_rfl) (by first | rfl | (simp [e1, e2, hw0, heq, hbb, numA_zero, c29, c38, c47, c57, c66]; done)) (by first | rfl | (simp [e1, e2, hw0, heq, hbb, numA_zero, c29, c38, c47, c57, c66]; done)) (by simp) (end_none (by first | exact h1 | exact g1 _)) ?_
                                rintro _ _ ⟨rfl, rfl⟩
                                refine ⟨fun _ _ h => h, ?_⟩
                                refine runD_call 21 (by kernel_rfl) (by kernel_rfl) (by kernel_rfl) rfl (by kernel_rfl) (by kernel_rfl) (by kernel_rfl) (by first | rfl | (simp [e1, e2, hw0, heq, hbb, numA_zero, c29, c38, c47, c57, c66]; done)) (by first | rfl | (simp [e1, e2, hw0, heq, hbb, numA_zero, c29, c38, c47, c57, c66]; done)) (by simp) (inEnd_bad (by first | exact h2 | exact g2 _)) ?_
                                rintro _ _ ⟨rfl, rfl⟩
                                refine ⟨fun _ _ h => h, ?_⟩
                                refine runD_pure' 22 (by kernel_rfl) rfl rfl (by kernel_rfl) (by kernel_rfl) (by kernel_rfl) (by kernel_rfl) ?_
                                try simp [e1, e2, hw0, heq, hbb, numA_zero, c29, c38, c47, c57, c66]
                                refine runD_pure' 23 (by kernel_rfl) rfl rfl (by kernel_rfl) (by kernel_rfl) (by kernel_rfl) (by kernel_rfl) ?_
                                try simp [e1, e2, hw0, heq, hbb, numA_zero, c29, c38, c47, c57, c66]
                                refine runD_pure' 24 (by kernel_rfl) rfl rfl (by kernel_rfl) (by kernel_rfl) (by kernel_rfl) (by kernel_rfl) ?_
                                try simp [e1, e2, hw0, heq, hbb, numA_zero, c29, c38, c47, c57, c66]
                                refine runD_done (by kernel_rfl) (by kernel_rfl) (by kernel_rfl) ?_
                                refine hJ47 _ _ ?_
                                refine hK46 _ _ ?_
                                refine run_ret ?_
                                try simp only [Then, InBlock, NoGoto]
                                refine answer_tmp rfl (.inr rfl) ?_
                                exact ⟨by simp, by first | exact ⟨_, rfl⟩ | exact ⟨[], by simp⟩⟩
                          · try (exfalso; revert c66; simp [e1, e2, hw0, heq, hbb, numA_zero, c29, c38, c47, c57]; done)
                            all_goals
                              (try simp [e1, e2, hw0, heq, hbb, numA_zero, c29, c38, c47, c57] at c66)
                              all_goals
                                refine run_seq_k fun K48 hK48 => ?_
                                refine run_region_k rfl fun J49 hJ49 => ?_
                                try simp [e1, e2, hw0, heq, hbb, numA_zero, c29, c38, c47, c57, c66]
                                refine runL_call' (b := true) (by first | rfl | (simp [e1, e2, hw0, heq, hbb, numA_zero, c29, c38, c47, c57, c66, wantedA]; done)) rfl rfl (by first | rfl | (simp [e1, e2, hw0, heq, hbb, numA_zero, c29, c38, c47, c57, c66, callOf]; done)) (by simp) (coins_none h1) ?_
                                rintro _ _ ⟨rfl, rfl⟩
                                try simp [e1, e2, hw0, heq, hbb, numA_zero, c29, c38, c47, c57, c66]
                                refine runL_call' (b := true) (by first | rfl | (simp [e1, e2, hw0, heq, hbb, numA_zero, c29, c38, c47, c57, c66, wantedA]; done)) rfl rfl (by first | rfl | (simp [e1, e2, hw0, heq, hbb, numA_zero, c29, c38, c47, c57, c66, callOf]; done)) (by simp) (inCoins_bad h2) ?_
                                rintro _ _ ⟨rfl, rfl⟩
                                try simp [e1, e2, hw0, heq, hbb, numA_zero, c29, c38, c47, c57, c66]
                                refine hJ49 _ _ ?_
                                refine hK48 _ _ ?_
                                refine run_region_k rfl fun J50 hJ50 => ?_
                                try simp [e1, e2, hw0, heq, hbb, numA_zero, c29, c38, c47, c57, c66]
                                refine runL_call' (b := true) (by first | rfl | (simp [e1, e2, hw0, heq, hbb, numA_zero, c29, c38, c47, c57, c66, wantedA]; done)) rfl rfl (by first | rfl | (simp [e1, e2, hw0, heq, hbb, numA_zero, c29, c38, c47, c57, c66, callOf]; done)) (by simp) (same_nil) ?_
                                rintro _ _ ⟨rfl, rfl⟩
                                try simp [e1, e2, hw0, heq, hbb, numA_zero, c29, c38, c47, c57, c66]
                                refine hJ50 _ _ ?_
                                refine hK5 _ _ ?_
                                refine run_seq_k fun K51 hK51 => ?_
                                refine run_draw (by kernel_rfl) fun J52 hJ52 => ?_
                                refine runD_pure' 0 (by kernel_rfl) rfl rfl (by kernel_rfl) (by kernel_rfl) (by kernel_rfl) (by kernel_rfl) ?_
                                try simp [e1, e2, hw0, heq, hbb, numA_zero, c29, c38, c47, c57, c66]
                                refine runD_pure' 1 (by kernel_rfl) rfl rfl (by kernel_rfl) (by kernel_rfl) (by kernel_rfl) (by kernel_rfl) ?_
                                try simp [e1, e2, hw0, heq, hbb, numA_zero, c29, c38, c47, c57, c66]
                                refine runD_pure' 2 (by kernel_rfl) rfl rfl (by kernel_rfl) (by kernel_rfl) (by kernel_rfl) (by kernel_rfl) ?_
                                try simp [e1, e2, hw0, heq, hbb, numA_zero, c29, c38, c47, c57, c66]
                                refine runD_pure' 4 (by kernel_rfl) rfl rfl (by kernel_rfl) (by kernel_rfl) (by kernel_rfl) (by kernel_rfl) ?_
                                try simp [e1, e2, hw0, heq, hbb, numA_zero, c29, c38, c47, c57, c66]
                                refine runD_pure' 5 (by kernel_rfl) rfl rfl (by kernel_rfl) (by kernel_rfl) (by kernel_rfl) (by kernel_rfl) ?_
                                try simp [e1, e2, hw0, heq, hbb, numA_zero, c29, c38, c47, c57, c66]
                                refine runD_pure' 6 (by kernel_rfl) rfl rfl (by kernel_rfl) (by kernel_rfl) (by kernel_rfl) (by kernel_rfl) ?_
                                try simp [e1, e2, hw0, heq, hbb, numA_zero, c29, c38, c47, c57, c66]
                                refine runD_pure' 7 (by kernel_rfl) rfl rfl (by kernel_rfl) (by kernel_rfl) (by kernel_rfl) (by kernel_rfl) ?_
                                try simp [e1, e2, hw0, heq, hbb, numA_zero, c29, c38, c47, c57, c66]
                                refine runD_call 3 (by kernel_rfl) (by kernel_rfl) (by kernel_rfl) rfl (by kernel_rfl) (by kernel_rfl) (by kernel_rfl) (by first | rfl | (simp [e1, e2, hw0, heq, hbb, numA_zero, c29, c38, c47, c57, c66]; done)) (by first | rfl | (simp [e1, e2, hw0, heq, hbb, numA_zero, c29, c38, c47, c57, c66]; done)) (by simp) (bad_none (by first | exact h1 | exact g1 _)) ?_
                                rintro _ _ ⟨rfl, rfl⟩
                                refine ⟨fun _ _ h => h, ?_⟩
                                refine runD_pure' 8 (by kernel_rfl) rfl rfl (by kernel_rfl) (by kernel_rfl) (by kernel_rfl) (by kernel_rfl) ?_
                                try simp [e1, e2, hw0, heq, hbb, numA_zero, c29, c38, c47, c57, c66]
                                refine runD_pure' 9 (by kernel_rfl) rfl rfl (by kernel_rfl) (by kernel_rfl) (by kernel_rfl) (by kernel_rfl) ?_
                                try simp [e1, e2, hw0, heq, hbb, numA_zero, c29, c38, c47, c57, c66]
                                refine runD_pure' 10 (by kernel_rfl) rfl rfl (by kernel_rfl) (by kernel_rfl) (by kernel_rfl) (by kernel_rfl) ?_
                                try simp [e1, e2, hw0, heq, hbb, numA_zero, c29, c38, c47, c57, c66]
                                refine runD_pure' 11 (by kernel_rfl) rfl rfl (by kernel_rfl) (by kernel_rfl) (by kernel_rfl) (by kernel_rfl) ?_
                                try simp [e1, e2, hw0, heq, hbb, numA_zero, c29, c38, c47, c57, c66]
                                refine runD_pure' 13 (by kernel_rfl) rfl rfl (by kernel_rfl) (by kernel_rfl) (by kernel_rfl) (by kernel_rfl) ?_
                                try simp [e1, e2, hw0, heq, hbb, numA_zero, c29, c38, c47, c57, c66]
                                refine runD_call 12 (by kernel_rfl) (by kernel_rfl) (by kernel_rfl) rfl (by kernel_rfl) (by kernel_rfl) (by kernel_rfl) (by first | rfl | (simp [e1, e2, hw0, heq, hbb, numA_zero, c29, c38, c47, c57, c66]; done)) (by first | rfl | (simp [e1, e2, hw0, heq, hbb, numA_zero, c29, c38, c47, c57, c66]; done)) (by simp) (left_none (by first | exact h1 | exact g1 _)) ?_
                                rintro _ _ ⟨rfl, rfl⟩
                                refine ⟨fun _ _ h => h, ?_⟩
                                refine runD_call 14 (by kernel_rfl) (by kernel_rfl) (by kernel_rfl) rfl (by kernel_rfl) (by kernel_rfl) (by kernel_rfl) (by first | rfl | (simp [e1, e2, hw0, heq, hbb, numA_zero, c29, c38, c47, c57, c66]; done)) (by first | rfl | (simp [e1, e2, hw0, heq, hbb, numA_zero, c29, c38, c47, c57, c66]; done)) (by simp) (inLeft_bad (by first | exact h2 | exact g2 _)) ?_
                                rintro _ _ ⟨rfl, rfl⟩
                                refine ⟨fun _ _ h => h, ?_⟩
                                refine runD_pure' 15 (by kernel_rfl) rfl rfl (by kernel_rfl) (by kernel_rfl) (by kernel_rfl) (by kernel_rfl) ?_
                                try simp [e1, e2, hw0, heq, hbb, numA_zero, c29, c38, c47, c57, c66]
                                refine runD_pure' 16 (by kernel_rfl) rfl rfl (by kernel_rfl) (by kernel_rfl) (by kernel_rfl) (by kernel_rfl) ?_
                                try simp [e1, e2, hw0, heq, hbb, numA_zero, c29, c38, c47, c57, c66]
                                refine runD_pure' 17 (by kernel_rfl) rfl rfl (by kernel_rfl) (by kernel_rfl) (by kernel_rfl) (by kernel_rfl) ?_
                                try simp [e1, e2, hw0, heq, hbb, numA_zero, c29, c38, c47, c57, c66]
                                refine runD_pure' 18 (by kernel_rfl) rfl rfl (by kernel_rfl) (by kernel_rfl) (by kernel_rfl) (by kernel_rfl) ?_
                                try simp [e1, e2, hw0, heq, hbb, numA_zero, c29, c38, c47, c57, c66]
                                refine runD_pure' 20 (by kernel_rfl) rfl rfl (by kernel_rfl) (by kernel_rfl) (by kernel_rfl) (by kernel_rfl) ?_
                                try simp [e1, e2, hw0, heq, hbb, numA_zero, c29, c38, c47, c57, c66]
                                refine runD_call 19 (by kernel_rfl) (by kernel_rfl) (by kernel_rfl) rfl (by kernel_rfl) (by kernel_rfl) (by kernel_rfl) (by first | rfl | (simp [e1, e2, hw0, heq, hbb, numA_zero, c29, c38, c47, c57, c66]; done)) (by first | rfl | (simp [e1, e2, hw0, heq, hbb, numA_zero, c29, c38, c47, c57, c66]; done)) (by simp) (end_none (by first | exact h1 | exact g1 _)) ?_
                                rintro _ _ ⟨rfl, rfl⟩
                                refine ⟨fun _ _ h => h, ?_⟩
                                refine runD_call 21 (by kernel_rfl) (by kernel_rfl) (by kernel_rfl) rfl (by kernel_rfl) (by kernel_rfl) (by kernel_rfl) (by first | rfl | (simp [e1, e2, hw0, heq, hbb, numA_zero, c29, c38, c47, c57, c66]; done)) (by first | rfl | (simp [e1, e2, hw0, heq, hbb, numA_zero, c29, c38, c47, c57, c66]; done)) (by simp) (inEnd_bad (by first | exact h2 | exact g2 _)) ?_
                                rintro _ _ ⟨rfl, rfl⟩
                                refine ⟨fun _ _ h => h, ?_⟩
                                refine runD_pure' 22 (by kernel_rfl) rfl rfl (by kernel_rfl) (by kernel_rfl) (by kernel_rfl) (by kernel_rfl) ?_
                                try simp [e1, e2, hw0, heq, hbb, numA_zero, c29, c38, c47, c57, c66]
                                refine runD_pure' 23 (by kernel_rfl) rfl rfl (by kernel_rfl) (by kernel_rfl) (by kernel_rfl) (by kernel_rfl) ?_
                                try simp [e1, e2, hw0, heq, hbb, numA_zero, c29, c38, c47, c57, c66]
                                refine runD_pure' 24 (by kernel_rfl) rfl rfl (by kernel_rfl) (by kernel_rfl) (by kernel_rfl) (by kernel_rfl) ?_
                                try simp [e1, e2, hw0, heq, hbb, numA_zero, c29, c38, c47, c57, c66]
                                refine runD_done (by kernel_rfl) (by kernel_rfl) (by kernel_rfl) ?_
                                refine hJ52 _ _ ?_
                                refine hK51 _ _ ?_
                                refine run_ret ?_
                                try simp only [Then, InBlock, NoGoto]
                                refine answer_tmp rfl (.inr rfl) ?_
                                exact ⟨by simp, by first | exact ⟨_, rfl⟩ | exact ⟨[], by simp⟩⟩

theorem reads_bad {σ : St} {id1 id2 : Nat} {x y : AV} {k : UInt8} (h1 : σ.objs[id1]? = some (rd none)) (h2 : σ.objs[id2]? = some (inBad x y)) :
    CallsA Try.prog 22 [.ptr id1 0, .ptr id2 0, .v (.int .u8 k.toNat)] σ (fun av σ' => av = .v (.bool true) ∧ σ = σ') := callsA_gc_ex (reads_raw h1 h2) rfl

end Go.Proofs.Ytkbhdlocdajhmaa
