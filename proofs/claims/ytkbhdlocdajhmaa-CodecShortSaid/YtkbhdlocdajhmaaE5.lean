import Derived.Test.YtkbhdlocdajhmaaE4
/-
  A part that is laid twice: 'lay'.
-/
namespace Go.Proofs.Ytkbhdlocdajhmaa
set_option linter.unnecessarySimpa false
open Go Go.Vm
set_option linter.unusedSimpArgs false
set_option linter.unusedVariables false
set_option maxRecDepth 100000

attribute [local simp] evalL wantedA isCall opA evalA evalAll evalsA evalOpt ofValue ofCell plain binA_eql_pn binA_neq_pn binA_gtr binA_lss binA_geq binA_leq binA_add binA_sub binA_eql binA_neq binA_or binA_shl binA_shr binA_mul binA_quo binA_rem binA_agg_eql binA_agg_neq convA_int unA_not fieldAddrA loadA partA pickA_true pickA_false pickA_bb lenA builtinA storeA splice AV.cells AV.isCell sliceA boundA intA callOf indexAddrA newObjA buildA fillA zeroA ofCells buildSliceA indexA fieldA coinsC_at

theorem append_wrG1 {tk : List Nat} {k : Nat} {l : List UInt8} {b : UInt8} [hT : TkI tk k l] {objs : List (List AV)} {gl : Nat → Option (List AV)} {rows : List RowSt} :
    appendA Try.prog 22 (wrA k l) (.sl 1 [.v (.int .u8 b.toNat)] 1 .full) ⟨objs, tk, gl, rows⟩ = some (wrA (kn tk k l) (l ++ [b]), ⟨objs, tkn tk k l [b], gl, rows⟩) := append_wrG (q := [b]) (by simp) (by simp)

theorem append_flag {tk : List Nat} {k : Nat} {b : Bool} {l : List UInt8} {tq : Tail} [hT : TkI tk k l] {objs : List (List AV)} {gl : Nat → Option (List AV)} {rows : List RowSt} :
    appendA Try.prog 22 (wrA k l) (.sl 1 (bytesA [if b = true then 1 else 0]) 1 tq) ⟨objs, tk, gl, rows⟩ = some (wrA (kn tk k l) (l ++ [if b = true then 1 else 0]), ⟨objs, tkn tk k l [if b = true then 1 else 0], gl, rows⟩) := append_wrG (q := [if b = true then 1 else 0]) (by simp) (by simp)
theorem append_nB2 {tk : List Nat} {k n : Nat} {l : List UInt8} {tq : Tail} [hT : TkI tk k l] {objs : List (List AV)} {gl : Nat → Option (List AV)} {rows : List RowSt} :
    appendA Try.prog 22 (wrA k l) (.sl 1 (bytesA (nBytes 2 n)) 2 tq) ⟨objs, tk, gl, rows⟩ = some (wrA (kn tk k l) (l ++ nBytes 2 n), ⟨objs, tkn tk k l (nBytes 2 n), gl, rows⟩) := append_wrG (q := nBytes 2 n) (by simp [nBytes]) (by simp [nBytes_len])
theorem append_nB8 {tk : List Nat} {k n : Nat} {l : List UInt8} {tq : Tail} [hT : TkI tk k l] {objs : List (List AV)} {gl : Nat → Option (List AV)} {rows : List RowSt} :
    appendA Try.prog 22 (wrA k l) (.sl 1 (bytesA (nBytes 8 n)) 8 tq) ⟨objs, tk, gl, rows⟩ = some (wrA (kn tk k l) (l ++ nBytes 8 n), ⟨objs, tkn tk k l (nBytes 8 n), gl, rows⟩) := append_wrG (q := nBytes 8 n) (by simp [nBytes]) (by simp [nBytes_len])
theorem append_encN {tk : List Nat} {k : Nat} {x : Num} {l : List UInt8} {tq : Tail} [hT : TkI tk k l] {objs : List (List AV)} {gl : Nat → Option (List AV)} {rows : List RowSt} :
    appendA Try.prog 22 (wrA k l) (.sl 1 (bytesA (encN x.v)) (encN x.v).length tq) ⟨objs, tk, gl, rows⟩ = some (wrA (kn tk k l) (l ++ encN x.v), ⟨objs, tkn tk k l (encN x.v), gl, rows⟩) := append_wrG (q := encN x.v) (by simp [encN]) (by have := natBytes_len x.v 32 (by simpa using x.h); simp [encN]; omega)
theorem append_encL {tk : List Nat} {k : Nat} {P : List Num} {l : List UInt8} {tq : Tail} [hT : TkI tk k l] {objs : List (List AV)} {gl : Nat → Option (List AV)} {rows : List RowSt} :
    appendA Try.prog 22 (wrA k l) (.sl 1 (bytesA (encL (lstP P 8))) (encL (lstP P 8)).length tq) ⟨objs, tk, gl, rows⟩ = some (wrA (kn tk k l) (l ++ encL (lstP P 8)), ⟨objs, tkn tk k l (encL (lstP P 8)), gl, rows⟩) := append_wrG (q := encL (lstP P 8)) (by simp [encL]) (by have h1 := encCs_len (lstP P 8); have h2 := lstP_len P 8; simp [encL]; omega)

theorem gcO_wrA (n k : Nat) (l : List UInt8) : AV.gcO n (wrA k l) = wrA k l := by
  unfold wrA
  split <;> simp [AV.gcO, noObjL]

attribute [local simp] undefA List.getElem?_cons_zero List.getElem?_cons_succ in
theorem llay_ok {σ : St} {id kw kp : Nat} {B : List Nat} {l : List UInt8} {x : PartP} (h : σ.objs[id]? = some [wrA kw l]) (hT : Two B σ.toks kw kp l) (hl : l.length ≤ 100000) (hx : x.l.length ≤ 1000) :
    CallsA Try.prog 26 [.ptr id 0, wrA kp l, .agg (partC x)] σ (fun av σ' => ∃ i : Nat × Nat × List Nat, Two B i.2.2 i.1 i.2.1 (l ++ encP x) ∧ av = .tup [.ptr id 0, wrA i.2.1 (l ++ encP x)] ∧ σ' = { σ with objs := σ.objs.set id [wrA i.1 (l ++ encP x)], toks := i.2.2 }) := by
  have hlt := lt_of_get h
  refine callsA_gcOJ (A := fun i : Nat × Nat × List Nat => .tup [.ptr id 0, wrA i.2.1 (l ++ encP x)]) (τ := fun i => { σ with objs := σ.objs.set id [wrA i.1 (l ++ encP x)], toks := i.2.2 }) ?_ (fun _ => by simp [AV.gcO, gcOL, gcO_wrA, hlt]) (fun _ => by simp) (fun _ => rfl) (fun _ => kp_set (kp_refl _) (noObj_wrA _ _ _)) (fun _ => kpr_refl _)
  have hs := set_self_of h
  have ho1 : ∀ r, (σ.objs ++ r)[id]? = some [wrA kw l] := fun r => by rw [List.getElem?_append_left hlt]; exact h
  have ho2 : ∀ x r, (σ.objs.set id x ++ r)[id]? = some x := fun x r => by rw [List.getElem?_append_left (by simpa using hlt)]; exact hs x
  have ho3 : ∀ x r, (σ.objs ++ r).set id x = σ.objs.set id x ++ r := fun x r => List.set_append_left _ _ hlt
  have ho4 : ∀ x y r, (σ.objs.set id y ++ r).set id x = σ.objs.set id x ++ r := fun x y r => by rw [List.set_append_left _ _ (by simpa using hlt), List.set_set]
  have hp0 : (partC x)[0]? = some (.v (.int .u8 x.k.toNat)) := rfl
  have hp1 : (partC x)[1]? = some (.v (.int .u64 (limb x.n.v 0))) := rfl
  have hp5 : (partC x)[5]? = some (.sl 5 (coinsC x.l) x.l.length .shut) := rfl
  have hg0 : ∀ h, (partC x)[0]'h = .v (.int .u8 x.k.toNat) := fun _ => rfl
  have hg1 : ∀ h, (partC x)[1]'h = .v (.int .u64 (limb x.n.v 0)) := fun _ => rfl
  have hg5 : ∀ h, (partC x)[5]'h = .sl 5 (coinsC x.l) x.l.length .shut := fun _ => rfl
  have hpn : ((partC x).drop 1).take 4 = numA x.n.v := rfl
  have hpl : (partC x).length = 6 := rfl
  have hv : (Value.int IntKind.u8 0).cells.size = 1 := rfl
  have hy := limb_lt x.n.v 0
  obtain ⟨c, hc⟩ : ∃ c, c = UInt8.ofNat (limb x.n.v 0 % 256) := ⟨_, rfl⟩
  have hcn : c.toNat = limb x.n.v 0 % 256 := by rw [hc]; exact toNat_ofNat (by omega)
  have hw8 : IntKind.u8.wrap (limb x.n.v 0 : Int) = (c.toNat : Int) := by rw [wrap_u8, hcn]
  obtain ⟨b, hb⟩ : ∃ b, b = decide (limb x.n.v 0 % 2 = 1) := ⟨_, rfl⟩
  have hb1 : ((limb x.n.v 0 : Int).tmod 2 == 1) = b := by rw [hb, Int.tmod_eq_emod_of_nonneg (by omega), Bool.eq_iff_iff]; simp; omega
  have hb2 : ((limb x.n.v 0 : Int) % 2 == 1) = b := by rw [hb, Bool.eq_iff_iff]; simp; omega
  obtain ⟨z, hz⟩ : ∃ z, z = limb x.n.v 0 % 65536 := ⟨_, rfl⟩
  have hz1 : IntKind.u16.wrap (limb x.n.v 0 : Int) = (z : Int) := by rw [wrap_u16, hz]
  have hz2 : (limb x.n.v 0 : Int).tmod 65536 = (z : Int) := by rw [Int.tmod_eq_emod_of_nonneg (by omega)]; omega
  have hz3 : (limb x.n.v 0 : Int) % 65536 = (z : Int) := by omega
  have hM := lstP_len (ofP x.l) 8
  have hkd := x.k.toNat_lt
  have htm : ∀ y : Int, y = (x.k.toNat : Int).tmod 6 → y = ((x.k.toNat % 6 : Nat) : Int) := fun y hx => by rw [hx, Int.tmod_eq_emod_of_nonneg (by omega)]; rfl
  have htm := htm _ rfl
  refine callsA_body Try.func26 rfl rfl rfl ?_
  refine run_seq_k fun K1 hK1 => ?_
  refine run_region_k rfl fun J2 hJ2 => ?_
  repeat (first | simp [hv, ho1, ho2, ho3, ho4, hp0, hp1, hp5, hpn, hpl, hw8, hb1, hb2, hz1, hz2, hz3, append_wrG1, hg0, hg1, hg5, append_nB2, append_nB8, append_encN, append_encL, append_flag] | simp (disch := omega) only [wC, if_pos, if_neg])
  refine hJ2 _ _ ?_
  refine hK1 _ _ ?_
  refine run_seq_k fun K3 hK3 => ?_
  refine run_seq_k fun K4 hK4 => ?_
  refine run_region_k rfl fun J5 hJ5 => ?_
  repeat (first | simp [hv, ho1, ho2, ho3, ho4, hp0, hp1, hp5, hpn, hpl, hw8, hb1, hb2, hz1, hz2, hz3, append_wrG1, hg0, hg1, hg5, append_nB2, append_nB8, append_encN, append_encL, append_flag] | simp (disch := omega) only [wC, if_pos, if_neg])
  refine hJ5 _ _ ?_
  refine hK4 _ _ ?_
  refine run_block_k ?_
  refine run_seq_k fun K6 hK6 => ?_
  refine run_region_k rfl fun J7 hJ7 => ?_
  repeat (first | simp [hv, ho1, ho2, ho3, ho4, hp0, hp1, hp5, hpn, hpl, hw8, hb1, hb2, hz1, hz2, hz3, append_wrG1, hg0, hg1, hg5, append_nB2, append_nB8, append_encN, append_encL, append_flag] | simp (disch := omega) only [wC, if_pos, if_neg])
  refine hJ7 _ _ ?_
  refine hK6 _ _ ?_
  refine run_cond_split (by first | rfl | (simp [hv, ho1, ho2, ho3, ho4, hp0, hp1, hp5, hpn, hpl, hw8, hb1, hb2, hz1, hz2, hz3, append_wrG1, hg0, hg1, hg5, append_nB2, append_nB8, append_encN, append_encL, append_flag, evalA]; done)) (fun c11 => ?_) (fun c11 => ?_)
  · try (exfalso; have gq := c11; simp [hv, ho1, ho2, ho3, ho4, hp0, hp1, hp5, hpn, hpl, hw8, hb1, hb2, hz1, hz2, hz3, append_wrG1, hg0, hg1, hg5, append_nB2, append_nB8, append_encN, append_encL, append_flag] at gq; first | done | omega)
    all_goals
     have c11p := c11
     try simp [hv, ho1, ho2, ho3, ho4, hp0, hp1, hp5, hpn, hpl, hw8, hb1, hb2, hz1, hz2, hz3, append_wrG1, hg0, hg1, hg5, append_nB2, append_nB8, append_encN, append_encL, append_flag] at c11p
     all_goals (first | (have gq := c11p; skip) | have c11p : True := True.intro)
     all_goals
      refine run_seq_k fun K8 hK8 => ?_
      refine run_draw (by kernel_rfl) fun J9 hJ9 => ?_
      refine rp 0 rfl rfl (by kernel_rfl) ?_
      repeat (first | simp [hv, ho1, ho2, ho3, ho4, hp0, hp1, hp5, hpn, hpl, hw8, hb1, hb2, hz1, hz2, hz3, append_wrG1, hg0, hg1, hg5, append_nB2, append_nB8, append_encN, append_encL, append_flag, c11, c11p] | simp (disch := omega) only [wC, if_pos, if_neg])
      refine rp 1 rfl rfl (by kernel_rfl) ?_
      repeat (first | simp [hv, ho1, ho2, ho3, ho4, hp0, hp1, hp5, hpn, hpl, hw8, hb1, hb2, hz1, hz2, hz3, append_wrG1, hg0, hg1, hg5, append_nB2, append_nB8, append_encN, append_encL, append_flag, c11, c11p] | simp (disch := omega) only [wC, if_pos, if_neg])
      refine rp 2 rfl rfl (by kernel_rfl) ?_
      repeat (first | simp [hv, ho1, ho2, ho3, ho4, hp0, hp1, hp5, hpn, hpl, hw8, hb1, hb2, hz1, hz2, hz3, append_wrG1, hg0, hg1, hg5, append_nB2, append_nB8, append_encN, append_encL, append_flag, c11, c11p] | simp (disch := omega) only [wC, if_pos, if_neg])
      refine rp 3 rfl rfl (by kernel_rfl) ?_
      repeat (first | simp [hv, ho1, ho2, ho3, ho4, hp0, hp1, hp5, hpn, hpl, hw8, hb1, hb2, hz1, hz2, hz3, append_wrG1, hg0, hg1, hg5, append_nB2, append_nB8, append_encN, append_encL, append_flag, c11, c11p] | simp (disch := omega) only [wC, if_pos, if_neg])
      refine rp 4 rfl rfl (by kernel_rfl) ?_
      repeat (first | simp [hv, ho1, ho2, ho3, ho4, hp0, hp1, hp5, hpn, hpl, hw8, hb1, hb2, hz1, hz2, hz3, append_wrG1, hg0, hg1, hg5, append_nB2, append_nB8, append_encN, append_encL, append_flag, c11, c11p] | simp (disch := omega) only [wC, if_pos, if_neg])
      refine rp 6 rfl rfl (by kernel_rfl) ?_
      repeat (first | simp [hv, ho1, ho2, ho3, ho4, hp0, hp1, hp5, hpn, hpl, hw8, hb1, hb2, hz1, hz2, hz3, append_wrG1, hg0, hg1, hg5, append_nB2, append_nB8, append_encN, append_encL, append_flag, c11, c11p] | simp (disch := omega) only [wC, if_pos, if_neg])
      refine rp 7 rfl rfl (by kernel_rfl) ?_
      repeat (first | simp [hv, ho1, ho2, ho3, ho4, hp0, hp1, hp5, hpn, hpl, hw8, hb1, hb2, hz1, hz2, hz3, append_wrG1, hg0, hg1, hg5, append_nB2, append_nB8, append_encN, append_encL, append_flag, c11, c11p] | simp (disch := omega) only [wC, if_pos, if_neg])
      refine rp 8 rfl rfl (by kernel_rfl) ?_
      repeat (first | simp [hv, ho1, ho2, ho3, ho4, hp0, hp1, hp5, hpn, hpl, hw8, hb1, hb2, hz1, hz2, hz3, append_wrG1, hg0, hg1, hg5, append_nB2, append_nB8, append_encN, append_encL, append_flag, c11, c11p] | simp (disch := omega) only [wC, if_pos, if_neg])
      refine rp 9 rfl rfl (by kernel_rfl) ?_
      repeat (first | simp [hv, ho1, ho2, ho3, ho4, hp0, hp1, hp5, hpn, hpl, hw8, hb1, hb2, hz1, hz2, hz3, append_wrG1, hg0, hg1, hg5, append_nB2, append_nB8, append_encN, append_encL, append_flag, c11, c11p] | simp (disch := omega) only [wC, if_pos, if_neg])
      refine rp 10 rfl rfl (by kernel_rfl) ?_
      repeat (first | simp [hv, ho1, ho2, ho3, ho4, hp0, hp1, hp5, hpn, hpl, hw8, hb1, hb2, hz1, hz2, hz3, append_wrG1, hg0, hg1, hg5, append_nB2, append_nB8, append_encN, append_encL, append_flag, c11, c11p] | simp (disch := omega) only [wC, if_pos, if_neg])
      refine rp 11 rfl rfl (by kernel_rfl) ?_
      repeat (first | simp [hv, ho1, ho2, ho3, ho4, hp0, hp1, hp5, hpn, hpl, hw8, hb1, hb2, hz1, hz2, hz3, append_wrG1, hg0, hg1, hg5, append_nB2, append_nB8, append_encN, append_encL, append_flag, c11, c11p] | simp (disch := omega) only [wC, if_pos, if_neg])
      refine runD_call 5 (by kernel_rfl) (by kernel_rfl) (by kernel_rfl) rfl (by kernel_rfl) (by kernel_rfl) (by kernel_rfl) (by first | rfl | (simp [hv, ho1, ho2, ho3, ho4, hp0, hp1, hp5, hpn, hpl, hw8, hb1, hb2, hz1, hz2, hz3, append_wrG1, hg0, hg1, hg5, append_nB2, append_nB8, append_encN, append_encL, append_flag, c11, c11p]; done)) (by first | rfl | (simp [hv, ho1, ho2, ho3, ho4, hp0, hp1, hp5, hpn, hpl, hw8, hb1, hb2, hz1, hz2, hz3, append_wrG1, hg0, hg1, hg5, append_nB2, append_nB8, append_encN, append_encL, append_flag, c11, c11p]; done)) (by simp) (callsA_mono (wbyte_ok (b := c) (ho1 _) hT.w.tok (by omega)) (fun _ _ h => wp_two h hT (by omega))) ?_
      rintro _ _ ⟨rfl, k1, tk1, hm1, hI1, rfl⟩
      refine ⟨by first | exact fun _ _ h => h | (refine later_list [11, 10, 9, 8, 7, 6, 3, 2, 1] (by kernel_rfl) (List.forall_mem_cons.2 ⟨fun _ => fact2 rfl rfl ?_, List.forall_mem_cons.2 ⟨fun _ => fact2 rfl rfl ?_, List.forall_mem_cons.2 ⟨fun _ => fact2 rfl rfl ?_, List.forall_mem_cons.2 ⟨fun _ => fact2 rfl rfl ?_, List.forall_mem_cons.2 ⟨fun _ => fact2 rfl rfl ?_, List.forall_mem_cons.2 ⟨fun _ => fact2 rfl rfl ?_, List.forall_mem_cons.2 ⟨fun _ => fact2 rfl rfl ?_, List.forall_mem_cons.2 ⟨fun _ => fact2 rfl rfl ?_, List.forall_mem_cons.2 ⟨fun _ => fact2 rfl rfl ?_, fun _ h => absurd h List.not_mem_nil⟩⟩⟩⟩⟩⟩⟩⟩⟩) <;> constructor <;> first | rfl | (simp [hv, ho1, ho2, ho3, ho4, hp0, hp1, hp5, hpn, hpl, hw8, hb1, hb2, hz1, hz2, hz3, append_wrG1, hg0, hg1, hg5, append_nB2, append_nB8, append_encN, append_encL, append_flag, c11, c11p]; done)), ?_⟩
      repeat (first | simp [hv, ho1, ho2, ho3, ho4, hp0, hp1, hp5, hpn, hpl, hw8, hb1, hb2, hz1, hz2, hz3, append_wrG1, hg0, hg1, hg5, append_nB2, append_nB8, append_encN, append_encL, append_flag, c11, c11p] | simp (disch := omega) only [wC, if_pos, if_neg])
      refine runD_op' 12 (by kernel_rfl) (by kernel_rfl) (by kernel_rfl) rfl (by kernel_rfl) (by kernel_rfl) (by kernel_rfl) ?_
      repeat (first | simp [hv, ho1, ho2, ho3, ho4, hp0, hp1, hp5, hpn, hpl, hw8, hb1, hb2, hz1, hz2, hz3, append_wrG1, hg0, hg1, hg5, append_nB2, append_nB8, append_encN, append_encL, append_flag, c11, c11p] | simp (disch := omega) only [wC, if_pos, if_neg])
      refine ⟨by first | exact fun _ _ h => h | (refine later_list [10, 9, 8, 7, 3, 2, 1] (by kernel_rfl) (List.forall_mem_cons.2 ⟨fun _ => fact2 rfl rfl ?_, List.forall_mem_cons.2 ⟨fun _ => fact2 rfl rfl ?_, List.forall_mem_cons.2 ⟨fun _ => fact2 rfl rfl ?_, List.forall_mem_cons.2 ⟨fun _ => fact2 rfl rfl ?_, List.forall_mem_cons.2 ⟨fun _ => fact2 rfl rfl ?_, List.forall_mem_cons.2 ⟨fun _ => fact2 rfl rfl ?_, List.forall_mem_cons.2 ⟨fun _ => fact2 rfl rfl ?_, fun _ h => absurd h List.not_mem_nil⟩⟩⟩⟩⟩⟩⟩) <;> constructor <;> first | rfl | (simp [hv, ho1, ho2, ho3, ho4, hp0, hp1, hp5, hpn, hpl, hw8, hb1, hb2, hz1, hz2, hz3, append_wrG1, hg0, hg1, hg5, append_nB2, append_nB8, append_encN, append_encL, append_flag, c11, c11p]; done)), ?_⟩
      refine rp 13 rfl rfl (by kernel_rfl) ?_
      repeat (first | simp [hv, ho1, ho2, ho3, ho4, hp0, hp1, hp5, hpn, hpl, hw8, hb1, hb2, hz1, hz2, hz3, append_wrG1, hg0, hg1, hg5, append_nB2, append_nB8, append_encN, append_encL, append_flag, c11, c11p] | simp (disch := omega) only [wC, if_pos, if_neg])
      refine rp 14 rfl rfl (by kernel_rfl) ?_
      repeat (first | simp [hv, ho1, ho2, ho3, ho4, hp0, hp1, hp5, hpn, hpl, hw8, hb1, hb2, hz1, hz2, hz3, append_wrG1, hg0, hg1, hg5, append_nB2, append_nB8, append_encN, append_encL, append_flag, c11, c11p] | simp (disch := omega) only [wC, if_pos, if_neg])
      refine runD_done (by kernel_rfl) (by kernel_rfl) (by kernel_rfl) ?_
      refine hJ9 _ _ ?_
      refine hK8 _ _ ?_
      refine run_ret ?_
      try simp only [Then, InBlock, NoGoto]
      refine answer_tmp2 rfl (.inr rfl) ?_
      have e : encP x = [c] := by rw [htm] at c11; simp at c11; unfold encP; rw [if_pos (by omega)]; rw [hc]
      rw [e]
      exact ⟨(k1, kn tk1 kp l, tkn tk1 kp l _), mid_two hm1 (by simp [encN, encL, nBytes]), by simp, _, by simp; rfl⟩
  · try (exfalso; have gq := c11; simp [hv, ho1, ho2, ho3, ho4, hp0, hp1, hp5, hpn, hpl, hw8, hb1, hb2, hz1, hz2, hz3, append_wrG1, hg0, hg1, hg5, append_nB2, append_nB8, append_encN, append_encL, append_flag] at gq; first | done | omega)
    all_goals
     have c11p := c11
     try simp [hv, ho1, ho2, ho3, ho4, hp0, hp1, hp5, hpn, hpl, hw8, hb1, hb2, hz1, hz2, hz3, append_wrG1, hg0, hg1, hg5, append_nB2, append_nB8, append_encN, append_encL, append_flag] at c11p
     all_goals (first | (have gq := c11p; skip) | have c11p : True := True.intro)
     all_goals
      refine run_seq_k fun K10 hK10 => ?_
      refine run_region_k rfl fun J11 hJ11 => ?_
      repeat (first | simp [hv, ho1, ho2, ho3, ho4, hp0, hp1, hp5, hpn, hpl, hw8, hb1, hb2, hz1, hz2, hz3, append_wrG1, hg0, hg1, hg5, append_nB2, append_nB8, append_encN, append_encL, append_flag, c11, c11p] | simp (disch := omega) only [wC, if_pos, if_neg])
      refine hJ11 _ _ ?_
      refine hK10 _ _ ?_
      refine run_cond_split (by first | rfl | (simp [hv, ho1, ho2, ho3, ho4, hp0, hp1, hp5, hpn, hpl, hw8, hb1, hb2, hz1, hz2, hz3, append_wrG1, hg0, hg1, hg5, append_nB2, append_nB8, append_encN, append_encL, append_flag, c11, c11p, evalA]; done)) (fun c26 => ?_) (fun c26 => ?_)
      · try (exfalso; have gq := c26; simp [hv, ho1, ho2, ho3, ho4, hp0, hp1, hp5, hpn, hpl, hw8, hb1, hb2, hz1, hz2, hz3, append_wrG1, hg0, hg1, hg5, append_nB2, append_nB8, append_encN, append_encL, append_flag, c11, c11p] at gq; first | done | omega)
        all_goals
         have c26p := c26
         try simp [hv, ho1, ho2, ho3, ho4, hp0, hp1, hp5, hpn, hpl, hw8, hb1, hb2, hz1, hz2, hz3, append_wrG1, hg0, hg1, hg5, append_nB2, append_nB8, append_encN, append_encL, append_flag, c11, c11p] at c26p
         all_goals (first | (have gq := c26p; skip) | have c26p : True := True.intro)
         all_goals
          refine run_seq_k fun K12 hK12 => ?_
          refine run_draw (by kernel_rfl) fun J13 hJ13 => ?_
          refine rp 0 rfl rfl (by kernel_rfl) ?_
          repeat (first | simp [hv, ho1, ho2, ho3, ho4, hp0, hp1, hp5, hpn, hpl, hw8, hb1, hb2, hz1, hz2, hz3, append_wrG1, hg0, hg1, hg5, append_nB2, append_nB8, append_encN, append_encL, append_flag, c11, c11p, c26, c26p] | simp (disch := omega) only [wC, if_pos, if_neg])
          refine rp 1 rfl rfl (by kernel_rfl) ?_
          repeat (first | simp [hv, ho1, ho2, ho3, ho4, hp0, hp1, hp5, hpn, hpl, hw8, hb1, hb2, hz1, hz2, hz3, append_wrG1, hg0, hg1, hg5, append_nB2, append_nB8, append_encN, append_encL, append_flag, c11, c11p, c26, c26p] | simp (disch := omega) only [wC, if_pos, if_neg])
          refine rp 2 rfl rfl (by kernel_rfl) ?_
          repeat (first | simp [hv, ho1, ho2, ho3, ho4, hp0, hp1, hp5, hpn, hpl, hw8, hb1, hb2, hz1, hz2, hz3, append_wrG1, hg0, hg1, hg5, append_nB2, append_nB8, append_encN, append_encL, append_flag, c11, c11p, c26, c26p] | simp (disch := omega) only [wC, if_pos, if_neg])
          refine rp 3 rfl rfl (by kernel_rfl) ?_
          repeat (first | simp [hv, ho1, ho2, ho3, ho4, hp0, hp1, hp5, hpn, hpl, hw8, hb1, hb2, hz1, hz2, hz3, append_wrG1, hg0, hg1, hg5, append_nB2, append_nB8, append_encN, append_encL, append_flag, c11, c11p, c26, c26p] | simp (disch := omega) only [wC, if_pos, if_neg])
          refine rp 4 rfl rfl (by kernel_rfl) ?_
          repeat (first | simp [hv, ho1, ho2, ho3, ho4, hp0, hp1, hp5, hpn, hpl, hw8, hb1, hb2, hz1, hz2, hz3, append_wrG1, hg0, hg1, hg5, append_nB2, append_nB8, append_encN, append_encL, append_flag, c11, c11p, c26, c26p] | simp (disch := omega) only [wC, if_pos, if_neg])
          refine rp 5 rfl rfl (by kernel_rfl) ?_
          repeat (first | simp [hv, ho1, ho2, ho3, ho4, hp0, hp1, hp5, hpn, hpl, hw8, hb1, hb2, hz1, hz2, hz3, append_wrG1, hg0, hg1, hg5, append_nB2, append_nB8, append_encN, append_encL, append_flag, c11, c11p, c26, c26p] | simp (disch := omega) only [wC, if_pos, if_neg])
          refine rp 7 rfl rfl (by kernel_rfl) ?_
          repeat (first | simp [hv, ho1, ho2, ho3, ho4, hp0, hp1, hp5, hpn, hpl, hw8, hb1, hb2, hz1, hz2, hz3, append_wrG1, hg0, hg1, hg5, append_nB2, append_nB8, append_encN, append_encL, append_flag, c11, c11p, c26, c26p] | simp (disch := omega) only [wC, if_pos, if_neg])
          refine rp 8 rfl rfl (by kernel_rfl) ?_
          repeat (first | simp [hv, ho1, ho2, ho3, ho4, hp0, hp1, hp5, hpn, hpl, hw8, hb1, hb2, hz1, hz2, hz3, append_wrG1, hg0, hg1, hg5, append_nB2, append_nB8, append_encN, append_encL, append_flag, c11, c11p, c26, c26p] | simp (disch := omega) only [wC, if_pos, if_neg])
          refine rp 9 rfl rfl (by kernel_rfl) ?_
          repeat (first | simp [hv, ho1, ho2, ho3, ho4, hp0, hp1, hp5, hpn, hpl, hw8, hb1, hb2, hz1, hz2, hz3, append_wrG1, hg0, hg1, hg5, append_nB2, append_nB8, append_encN, append_encL, append_flag, c11, c11p, c26, c26p] | simp (disch := omega) only [wC, if_pos, if_neg])
          refine rp 10 rfl rfl (by kernel_rfl) ?_
          repeat (first | simp [hv, ho1, ho2, ho3, ho4, hp0, hp1, hp5, hpn, hpl, hw8, hb1, hb2, hz1, hz2, hz3, append_wrG1, hg0, hg1, hg5, append_nB2, append_nB8, append_encN, append_encL, append_flag, c11, c11p, c26, c26p] | simp (disch := omega) only [wC, if_pos, if_neg])
          refine rp 11 rfl rfl (by kernel_rfl) ?_
          repeat (first | simp [hv, ho1, ho2, ho3, ho4, hp0, hp1, hp5, hpn, hpl, hw8, hb1, hb2, hz1, hz2, hz3, append_wrG1, hg0, hg1, hg5, append_nB2, append_nB8, append_encN, append_encL, append_flag, c11, c11p, c26, c26p] | simp (disch := omega) only [wC, if_pos, if_neg])
          refine rp 12 rfl rfl (by kernel_rfl) ?_
          repeat (first | simp [hv, ho1, ho2, ho3, ho4, hp0, hp1, hp5, hpn, hpl, hw8, hb1, hb2, hz1, hz2, hz3, append_wrG1, hg0, hg1, hg5, append_nB2, append_nB8, append_encN, append_encL, append_flag, c11, c11p, c26, c26p] | simp (disch := omega) only [wC, if_pos, if_neg])
          refine runD_call 6 (by kernel_rfl) (by kernel_rfl) (by kernel_rfl) rfl (by kernel_rfl) (by kernel_rfl) (by kernel_rfl) (by first | rfl | (simp [hv, ho1, ho2, ho3, ho4, hp0, hp1, hp5, hpn, hpl, hw8, hb1, hb2, hz1, hz2, hz3, append_wrG1, hg0, hg1, hg5, append_nB2, append_nB8, append_encN, append_encL, append_flag, c11, c11p, c26, c26p]; done)) (by first | rfl | (simp [hv, ho1, ho2, ho3, ho4, hp0, hp1, hp5, hpn, hpl, hw8, hb1, hb2, hz1, hz2, hz3, append_wrG1, hg0, hg1, hg5, append_nB2, append_nB8, append_encN, append_encL, append_flag, c11, c11p, c26, c26p]; done)) (by simp) (callsA_mono (wflag_ok (b := b) (ho1 _) hT.w.tok (by omega)) (fun _ _ h => wp_two h hT (by omega))) ?_
          rintro _ _ ⟨rfl, k1, tk1, hm1, hI1, rfl⟩
          refine ⟨by first | exact fun _ _ h => h | (refine later_list [12, 11, 10, 9, 8, 7, 4, 3, 2, 1] (by kernel_rfl) (List.forall_mem_cons.2 ⟨fun _ => fact2 rfl rfl ?_, List.forall_mem_cons.2 ⟨fun _ => fact2 rfl rfl ?_, List.forall_mem_cons.2 ⟨fun _ => fact2 rfl rfl ?_, List.forall_mem_cons.2 ⟨fun _ => fact2 rfl rfl ?_, List.forall_mem_cons.2 ⟨fun _ => fact2 rfl rfl ?_, List.forall_mem_cons.2 ⟨fun _ => fact2 rfl rfl ?_, List.forall_mem_cons.2 ⟨fun _ => fact2 rfl rfl ?_, List.forall_mem_cons.2 ⟨fun _ => fact2 rfl rfl ?_, List.forall_mem_cons.2 ⟨fun _ => fact2 rfl rfl ?_, List.forall_mem_cons.2 ⟨fun _ => fact2 rfl rfl ?_, fun _ h => absurd h List.not_mem_nil⟩⟩⟩⟩⟩⟩⟩⟩⟩⟩) <;> constructor <;> first | rfl | (simp [hv, ho1, ho2, ho3, ho4, hp0, hp1, hp5, hpn, hpl, hw8, hb1, hb2, hz1, hz2, hz3, append_wrG1, hg0, hg1, hg5, append_nB2, append_nB8, append_encN, append_encL, append_flag, c11, c11p, c26, c26p]; done)), ?_⟩
          repeat (first | simp [hv, ho1, ho2, ho3, ho4, hp0, hp1, hp5, hpn, hpl, hw8, hb1, hb2, hz1, hz2, hz3, append_wrG1, hg0, hg1, hg5, append_nB2, append_nB8, append_encN, append_encL, append_flag, c11, c11p, c26, c26p] | simp (disch := omega) only [wC, if_pos, if_neg])
          refine runD_call 13 (by kernel_rfl) (by kernel_rfl) (by kernel_rfl) rfl (by kernel_rfl) (by kernel_rfl) (by kernel_rfl) (by first | rfl | (simp [hv, ho1, ho2, ho3, ho4, hp0, hp1, hp5, hpn, hpl, hw8, hb1, hb2, hz1, hz2, hz3, append_wrG1, hg0, hg1, hg5, append_nB2, append_nB8, append_encN, append_encL, append_flag, c11, c11p, c26, c26p]; done)) (by first | rfl | (simp [hv, ho1, ho2, ho3, ho4, hp0, hp1, hp5, hpn, hpl, hw8, hb1, hb2, hz1, hz2, hz3, append_wrG1, hg0, hg1, hg5, append_nB2, append_nB8, append_encN, append_encL, append_flag, c11, c11p, c26, c26p]; done)) (by simp) (rflag_ok (b := b)) ?_
          rintro _ _ ⟨rfl, rfl⟩
          refine ⟨fun _ _ h => h, ?_⟩
          repeat (first | simp [hv, ho1, ho2, ho3, ho4, hp0, hp1, hp5, hpn, hpl, hw8, hb1, hb2, hz1, hz2, hz3, append_wrG1, hg0, hg1, hg5, append_nB2, append_nB8, append_encN, append_encL, append_flag, c11, c11p, c26, c26p] | simp (disch := omega) only [wC, if_pos, if_neg])
          refine runD_op' 14 (by kernel_rfl) (by kernel_rfl) (by kernel_rfl) rfl (by kernel_rfl) (by kernel_rfl) (by kernel_rfl) ?_
          repeat (first | simp [hv, ho1, ho2, ho3, ho4, hp0, hp1, hp5, hpn, hpl, hw8, hb1, hb2, hz1, hz2, hz3, append_wrG1, hg0, hg1, hg5, append_nB2, append_nB8, append_encN, append_encL, append_flag, c11, c11p, c26, c26p] | simp (disch := omega) only [wC, if_pos, if_neg])
          refine ⟨by first | exact fun _ _ h => h | (refine later_list [11, 10, 9, 8, 4, 3, 2, 1] (by kernel_rfl) (List.forall_mem_cons.2 ⟨fun _ => fact2 rfl rfl ?_, List.forall_mem_cons.2 ⟨fun _ => fact2 rfl rfl ?_, List.forall_mem_cons.2 ⟨fun _ => fact2 rfl rfl ?_, List.forall_mem_cons.2 ⟨fun _ => fact2 rfl rfl ?_, List.forall_mem_cons.2 ⟨fun _ => fact2 rfl rfl ?_, List.forall_mem_cons.2 ⟨fun _ => fact2 rfl rfl ?_, List.forall_mem_cons.2 ⟨fun _ => fact2 rfl rfl ?_, List.forall_mem_cons.2 ⟨fun _ => fact2 rfl rfl ?_, fun _ h => absurd h List.not_mem_nil⟩⟩⟩⟩⟩⟩⟩⟩) <;> constructor <;> first | rfl | (simp [hv, ho1, ho2, ho3, ho4, hp0, hp1, hp5, hpn, hpl, hw8, hb1, hb2, hz1, hz2, hz3, append_wrG1, hg0, hg1, hg5, append_nB2, append_nB8, append_encN, append_encL, append_flag, c11, c11p, c26, c26p]; done)), ?_⟩
          refine rp 15 rfl rfl (by kernel_rfl) ?_
          repeat (first | simp [hv, ho1, ho2, ho3, ho4, hp0, hp1, hp5, hpn, hpl, hw8, hb1, hb2, hz1, hz2, hz3, append_wrG1, hg0, hg1, hg5, append_nB2, append_nB8, append_encN, append_encL, append_flag, c11, c11p, c26, c26p] | simp (disch := omega) only [wC, if_pos, if_neg])
          refine rp 16 rfl rfl (by kernel_rfl) ?_
          repeat (first | simp [hv, ho1, ho2, ho3, ho4, hp0, hp1, hp5, hpn, hpl, hw8, hb1, hb2, hz1, hz2, hz3, append_wrG1, hg0, hg1, hg5, append_nB2, append_nB8, append_encN, append_encL, append_flag, c11, c11p, c26, c26p] | simp (disch := omega) only [wC, if_pos, if_neg])
          refine runD_done (by kernel_rfl) (by kernel_rfl) (by kernel_rfl) ?_
          refine hJ13 _ _ ?_
          refine hK12 _ _ ?_
          refine run_ret ?_
          try simp only [Then, InBlock, NoGoto]
          refine answer_tmp2 rfl (.inr rfl) ?_
          have e : encP x = [if b then 1 else 0] := by rw [htm] at c11 c26; simp at c11 c26; unfold encP; rw [if_neg (by omega), if_pos (by omega)]; rw [hb]; simp
          rw [e]
          exact ⟨(k1, kn tk1 kp l, tkn tk1 kp l _), mid_two hm1 (by simp [encN, encL, nBytes]), by simp, _, by simp; rfl⟩
      · try (exfalso; have gq := c26; simp [hv, ho1, ho2, ho3, ho4, hp0, hp1, hp5, hpn, hpl, hw8, hb1, hb2, hz1, hz2, hz3, append_wrG1, hg0, hg1, hg5, append_nB2, append_nB8, append_encN, append_encL, append_flag, c11, c11p] at gq; first | done | omega)
        all_goals
         have c26p := c26
         try simp [hv, ho1, ho2, ho3, ho4, hp0, hp1, hp5, hpn, hpl, hw8, hb1, hb2, hz1, hz2, hz3, append_wrG1, hg0, hg1, hg5, append_nB2, append_nB8, append_encN, append_encL, append_flag, c11, c11p] at c26p
         all_goals (first | (have gq := c26p; skip) | have c26p : True := True.intro)
         all_goals
          refine run_seq_k fun K14 hK14 => ?_
          refine run_region_k rfl fun J15 hJ15 => ?_
          repeat (first | simp [hv, ho1, ho2, ho3, ho4, hp0, hp1, hp5, hpn, hpl, hw8, hb1, hb2, hz1, hz2, hz3, append_wrG1, hg0, hg1, hg5, append_nB2, append_nB8, append_encN, append_encL, append_flag, c11, c11p, c26, c26p] | simp (disch := omega) only [wC, if_pos, if_neg])
          refine hJ15 _ _ ?_
          refine hK14 _ _ ?_
          refine run_cond_split (by first | rfl | (simp [hv, ho1, ho2, ho3, ho4, hp0, hp1, hp5, hpn, hpl, hw8, hb1, hb2, hz1, hz2, hz3, append_wrG1, hg0, hg1, hg5, append_nB2, append_nB8, append_encN, append_encL, append_flag, c11, c11p, c26, c26p, evalA]; done)) (fun c43 => ?_) (fun c43 => ?_)
          · try (exfalso; have gq := c43; simp [hv, ho1, ho2, ho3, ho4, hp0, hp1, hp5, hpn, hpl, hw8, hb1, hb2, hz1, hz2, hz3, append_wrG1, hg0, hg1, hg5, append_nB2, append_nB8, append_encN, append_encL, append_flag, c11, c11p, c26, c26p] at gq; first | done | omega)
            all_goals
             have c43p := c43
             try simp [hv, ho1, ho2, ho3, ho4, hp0, hp1, hp5, hpn, hpl, hw8, hb1, hb2, hz1, hz2, hz3, append_wrG1, hg0, hg1, hg5, append_nB2, append_nB8, append_encN, append_encL, append_flag, c11, c11p, c26, c26p] at c43p
             all_goals (first | (have gq := c43p; skip) | have c43p : True := True.intro)
             all_goals
              refine run_seq_k fun K16 hK16 => ?_
              refine run_draw (by kernel_rfl) fun J17 hJ17 => ?_
              refine rp 0 rfl rfl (by kernel_rfl) ?_
              repeat (first | simp [hv, ho1, ho2, ho3, ho4, hp0, hp1, hp5, hpn, hpl, hw8, hb1, hb2, hz1, hz2, hz3, append_wrG1, hg0, hg1, hg5, append_nB2, append_nB8, append_encN, append_encL, append_flag, c11, c11p, c26, c26p, c43, c43p] | simp (disch := omega) only [wC, if_pos, if_neg])
              refine rp 1 rfl rfl (by kernel_rfl) ?_
              repeat (first | simp [hv, ho1, ho2, ho3, ho4, hp0, hp1, hp5, hpn, hpl, hw8, hb1, hb2, hz1, hz2, hz3, append_wrG1, hg0, hg1, hg5, append_nB2, append_nB8, append_encN, append_encL, append_flag, c11, c11p, c26, c26p, c43, c43p] | simp (disch := omega) only [wC, if_pos, if_neg])
              refine rp 2 rfl rfl (by kernel_rfl) ?_
              repeat (first | simp [hv, ho1, ho2, ho3, ho4, hp0, hp1, hp5, hpn, hpl, hw8, hb1, hb2, hz1, hz2, hz3, append_wrG1, hg0, hg1, hg5, append_nB2, append_nB8, append_encN, append_encL, append_flag, c11, c11p, c26, c26p, c43, c43p] | simp (disch := omega) only [wC, if_pos, if_neg])
              refine rp 3 rfl rfl (by kernel_rfl) ?_
              repeat (first | simp [hv, ho1, ho2, ho3, ho4, hp0, hp1, hp5, hpn, hpl, hw8, hb1, hb2, hz1, hz2, hz3, append_wrG1, hg0, hg1, hg5, append_nB2, append_nB8, append_encN, append_encL, append_flag, c11, c11p, c26, c26p, c43, c43p] | simp (disch := omega) only [wC, if_pos, if_neg])
              refine rp 4 rfl rfl (by kernel_rfl) ?_
              repeat (first | simp [hv, ho1, ho2, ho3, ho4, hp0, hp1, hp5, hpn, hpl, hw8, hb1, hb2, hz1, hz2, hz3, append_wrG1, hg0, hg1, hg5, append_nB2, append_nB8, append_encN, append_encL, append_flag, c11, c11p, c26, c26p, c43, c43p] | simp (disch := omega) only [wC, if_pos, if_neg])
              refine rp 6 rfl rfl (by kernel_rfl) ?_
              repeat (first | simp [hv, ho1, ho2, ho3, ho4, hp0, hp1, hp5, hpn, hpl, hw8, hb1, hb2, hz1, hz2, hz3, append_wrG1, hg0, hg1, hg5, append_nB2, append_nB8, append_encN, append_encL, append_flag, c11, c11p, c26, c26p, c43, c43p] | simp (disch := omega) only [wC, if_pos, if_neg])
              refine rp 7 rfl rfl (by kernel_rfl) ?_
              repeat (first | simp [hv, ho1, ho2, ho3, ho4, hp0, hp1, hp5, hpn, hpl, hw8, hb1, hb2, hz1, hz2, hz3, append_wrG1, hg0, hg1, hg5, append_nB2, append_nB8, append_encN, append_encL, append_flag, c11, c11p, c26, c26p, c43, c43p] | simp (disch := omega) only [wC, if_pos, if_neg])
              refine rp 8 rfl rfl (by kernel_rfl) ?_
              repeat (first | simp [hv, ho1, ho2, ho3, ho4, hp0, hp1, hp5, hpn, hpl, hw8, hb1, hb2, hz1, hz2, hz3, append_wrG1, hg0, hg1, hg5, append_nB2, append_nB8, append_encN, append_encL, append_flag, c11, c11p, c26, c26p, c43, c43p] | simp (disch := omega) only [wC, if_pos, if_neg])
              refine rp 9 rfl rfl (by kernel_rfl) ?_
              repeat (first | simp [hv, ho1, ho2, ho3, ho4, hp0, hp1, hp5, hpn, hpl, hw8, hb1, hb2, hz1, hz2, hz3, append_wrG1, hg0, hg1, hg5, append_nB2, append_nB8, append_encN, append_encL, append_flag, c11, c11p, c26, c26p, c43, c43p] | simp (disch := omega) only [wC, if_pos, if_neg])
              refine rp 10 rfl rfl (by kernel_rfl) ?_
              repeat (first | simp [hv, ho1, ho2, ho3, ho4, hp0, hp1, hp5, hpn, hpl, hw8, hb1, hb2, hz1, hz2, hz3, append_wrG1, hg0, hg1, hg5, append_nB2, append_nB8, append_encN, append_encL, append_flag, c11, c11p, c26, c26p, c43, c43p] | simp (disch := omega) only [wC, if_pos, if_neg])
              refine runD_call 5 (by kernel_rfl) (by kernel_rfl) (by kernel_rfl) rfl (by kernel_rfl) (by kernel_rfl) (by kernel_rfl) (by first | rfl | (simp [hv, ho1, ho2, ho3, ho4, hp0, hp1, hp5, hpn, hpl, hw8, hb1, hb2, hz1, hz2, hz3, append_wrG1, hg0, hg1, hg5, append_nB2, append_nB8, append_encN, append_encL, append_flag, c11, c11p, c26, c26p, c43, c43p]; done)) (by first | rfl | (simp [hv, ho1, ho2, ho3, ho4, hp0, hp1, hp5, hpn, hpl, hw8, hb1, hb2, hz1, hz2, hz3, append_wrG1, hg0, hg1, hg5, append_nB2, append_nB8, append_encN, append_encL, append_flag, c11, c11p, c26, c26p, c43, c43p]; done)) (by simp) (callsA_mono (wshort_ok (n := z) (ho1 _) hT.w.tok (by omega) (by omega)) (fun _ _ h => wp_two h hT (by omega))) ?_
              rintro _ _ ⟨rfl, k1, tk1, hm1, hI1, rfl⟩
              refine ⟨by first | exact fun _ _ h => h | (refine later_list [10, 9, 8, 7, 6, 3, 2, 1] (by kernel_rfl) (List.forall_mem_cons.2 ⟨fun _ => fact2 rfl rfl ?_, List.forall_mem_cons.2 ⟨fun _ => fact2 rfl rfl ?_, List.forall_mem_cons.2 ⟨fun _ => fact2 rfl rfl ?_, List.forall_mem_cons.2 ⟨fun _ => fact2 rfl rfl ?_, List.forall_mem_cons.2 ⟨fun _ => fact2 rfl rfl ?_, List.forall_mem_cons.2 ⟨fun _ => fact2 rfl rfl ?_, List.forall_mem_cons.2 ⟨fun _ => fact2 rfl rfl ?_, List.forall_mem_cons.2 ⟨fun _ => fact2 rfl rfl ?_, fun _ h => absurd h List.not_mem_nil⟩⟩⟩⟩⟩⟩⟩⟩) <;> constructor <;> first | rfl | (simp [hv, ho1, ho2, ho3, ho4, hp0, hp1, hp5, hpn, hpl, hw8, hb1, hb2, hz1, hz2, hz3, append_wrG1, hg0, hg1, hg5, append_nB2, append_nB8, append_encN, append_encL, append_flag, c11, c11p, c26, c26p, c43, c43p]; done)), ?_⟩
              repeat (first | simp [hv, ho1, ho2, ho3, ho4, hp0, hp1, hp5, hpn, hpl, hw8, hb1, hb2, hz1, hz2, hz3, append_wrG1, hg0, hg1, hg5, append_nB2, append_nB8, append_encN, append_encL, append_flag, c11, c11p, c26, c26p, c43, c43p] | simp (disch := omega) only [wC, if_pos, if_neg])
              refine runD_call 11 (by kernel_rfl) (by kernel_rfl) (by kernel_rfl) rfl (by kernel_rfl) (by kernel_rfl) (by kernel_rfl) (by first | rfl | (simp [hv, ho1, ho2, ho3, ho4, hp0, hp1, hp5, hpn, hpl, hw8, hb1, hb2, hz1, hz2, hz3, append_wrG1, hg0, hg1, hg5, append_nB2, append_nB8, append_encN, append_encL, append_flag, c11, c11p, c26, c26p, c43, c43p]; done)) (by first | rfl | (simp [hv, ho1, ho2, ho3, ho4, hp0, hp1, hp5, hpn, hpl, hw8, hb1, hb2, hz1, hz2, hz3, append_wrG1, hg0, hg1, hg5, append_nB2, append_nB8, append_encN, append_encL, append_flag, c11, c11p, c26, c26p, c43, c43p]; done)) (by simp) (rlong_ok (n := z) (size := 2) (by omega) (by omega)) ?_
              rintro _ _ ⟨rfl, rfl⟩
              refine ⟨fun _ _ h => h, ?_⟩
              repeat (first | simp [hv, ho1, ho2, ho3, ho4, hp0, hp1, hp5, hpn, hpl, hw8, hb1, hb2, hz1, hz2, hz3, append_wrG1, hg0, hg1, hg5, append_nB2, append_nB8, append_encN, append_encL, append_flag, c11, c11p, c26, c26p, c43, c43p] | simp (disch := omega) only [wC, if_pos, if_neg])
              refine runD_op' 12 (by kernel_rfl) (by kernel_rfl) (by kernel_rfl) rfl (by kernel_rfl) (by kernel_rfl) (by kernel_rfl) ?_
              repeat (first | simp [hv, ho1, ho2, ho3, ho4, hp0, hp1, hp5, hpn, hpl, hw8, hb1, hb2, hz1, hz2, hz3, append_wrG1, hg0, hg1, hg5, append_nB2, append_nB8, append_encN, append_encL, append_flag, c11, c11p, c26, c26p, c43, c43p] | simp (disch := omega) only [wC, if_pos, if_neg])
              refine ⟨by first | exact fun _ _ h => h | (refine later_list [9, 8, 7, 3, 2, 1] (by kernel_rfl) (List.forall_mem_cons.2 ⟨fun _ => fact2 rfl rfl ?_, List.forall_mem_cons.2 ⟨fun _ => fact2 rfl rfl ?_, List.forall_mem_cons.2 ⟨fun _ => fact2 rfl rfl ?_, List.forall_mem_cons.2 ⟨fun _ => fact2 rfl rfl ?_, List.forall_mem_cons.2 ⟨fun _ => fact2 rfl rfl ?_, List.forall_mem_cons.2 ⟨fun _ => fact2 rfl rfl ?_, fun _ h => absurd h List.not_mem_nil⟩⟩⟩⟩⟩⟩) <;> constructor <;> first | rfl | (simp [hv, ho1, ho2, ho3, ho4, hp0, hp1, hp5, hpn, hpl, hw8, hb1, hb2, hz1, hz2, hz3, append_wrG1, hg0, hg1, hg5, append_nB2, append_nB8, append_encN, append_encL, append_flag, c11, c11p, c26, c26p, c43, c43p]; done)), ?_⟩
              refine rp 13 rfl rfl (by kernel_rfl) ?_
              repeat (first | simp [hv, ho1, ho2, ho3, ho4, hp0, hp1, hp5, hpn, hpl, hw8, hb1, hb2, hz1, hz2, hz3, append_wrG1, hg0, hg1, hg5, append_nB2, append_nB8, append_encN, append_encL, append_flag, c11, c11p, c26, c26p, c43, c43p] | simp (disch := omega) only [wC, if_pos, if_neg])
              refine rp 14 rfl rfl (by kernel_rfl) ?_
              repeat (first | simp [hv, ho1, ho2, ho3, ho4, hp0, hp1, hp5, hpn, hpl, hw8, hb1, hb2, hz1, hz2, hz3, append_wrG1, hg0, hg1, hg5, append_nB2, append_nB8, append_encN, append_encL, append_flag, c11, c11p, c26, c26p, c43, c43p] | simp (disch := omega) only [wC, if_pos, if_neg])
              refine runD_done (by kernel_rfl) (by kernel_rfl) (by kernel_rfl) ?_
              refine hJ17 _ _ ?_
              refine hK16 _ _ ?_
              refine run_ret ?_
              try simp only [Then, InBlock, NoGoto]
              refine answer_tmp2 rfl (.inr rfl) ?_
              have e : encP x = nBytes 2 z := by rw [htm] at c11 c26 c43; simp at c11 c26 c43; unfold encP; rw [if_neg (by omega), if_neg (by omega), if_pos (by omega)]; rw [hz]
              rw [e]
              exact ⟨(k1, kn tk1 kp l, tkn tk1 kp l _), mid_two hm1 (by simp [encN, encL, nBytes]), by simp, _, by simp; rfl⟩
          · try (exfalso; have gq := c43; simp [hv, ho1, ho2, ho3, ho4, hp0, hp1, hp5, hpn, hpl, hw8, hb1, hb2, hz1, hz2, hz3, append_wrG1, hg0, hg1, hg5, append_nB2, append_nB8, append_encN, append_encL, append_flag, c11, c11p, c26, c26p] at gq; first | done | omega)
            all_goals
             have c43p := c43
             try simp [hv, ho1, ho2, ho3, ho4, hp0, hp1, hp5, hpn, hpl, hw8, hb1, hb2, hz1, hz2, hz3, append_wrG1, hg0, hg1, hg5, append_nB2, append_nB8, append_encN, append_encL, append_flag, c11, c11p, c26, c26p] at c43p
             all_goals (first | (have gq := c43p; skip) | have c43p : True := True.intro)
             all_goals
              refine run_seq_k fun K18 hK18 => ?_
              refine run_region_k rfl fun J19 hJ19 => ?_
              repeat (first | simp [hv, ho1, ho2, ho3, ho4, hp0, hp1, hp5, hpn, hpl, hw8, hb1, hb2, hz1, hz2, hz3, append_wrG1, hg0, hg1, hg5, append_nB2, append_nB8, append_encN, append_encL, append_flag, c11, c11p, c26, c26p, c43, c43p] | simp (disch := omega) only [wC, if_pos, if_neg])
              refine hJ19 _ _ ?_
              refine hK18 _ _ ?_
              refine run_cond_split (by first | rfl | (simp [hv, ho1, ho2, ho3, ho4, hp0, hp1, hp5, hpn, hpl, hw8, hb1, hb2, hz1, hz2, hz3, append_wrG1, hg0, hg1, hg5, append_nB2, append_nB8, append_encN, append_encL, append_flag, c11, c11p, c26, c26p, c43, c43p, evalA]; done)) (fun c58 => ?_) (fun c58 => ?_)
              · try (exfalso; have gq := c58; simp [hv, ho1, ho2, ho3, ho4, hp0, hp1, hp5, hpn, hpl, hw8, hb1, hb2, hz1, hz2, hz3, append_wrG1, hg0, hg1, hg5, append_nB2, append_nB8, append_encN, append_encL, append_flag, c11, c11p, c26, c26p, c43, c43p] at gq; first | done | omega)
                all_goals
                 have c58p := c58
                 try simp [hv, ho1, ho2, ho3, ho4, hp0, hp1, hp5, hpn, hpl, hw8, hb1, hb2, hz1, hz2, hz3, append_wrG1, hg0, hg1, hg5, append_nB2, append_nB8, append_encN, append_encL, append_flag, c11, c11p, c26, c26p, c43, c43p] at c58p
                 all_goals (first | (have gq := c58p; skip) | have c58p : True := True.intro)
                 all_goals
                  refine run_seq_k fun K20 hK20 => ?_
                  refine run_draw (by kernel_rfl) fun J21 hJ21 => ?_
                  refine rp 0 rfl rfl (by kernel_rfl) ?_
                  repeat (first | simp [hv, ho1, ho2, ho3, ho4, hp0, hp1, hp5, hpn, hpl, hw8, hb1, hb2, hz1, hz2, hz3, append_wrG1, hg0, hg1, hg5, append_nB2, append_nB8, append_encN, append_encL, append_flag, c11, c11p, c26, c26p, c43, c43p, c58, c58p] | simp (disch := omega) only [wC, if_pos, if_neg])
                  refine rp 1 rfl rfl (by kernel_rfl) ?_
                  repeat (first | simp [hv, ho1, ho2, ho3, ho4, hp0, hp1, hp5, hpn, hpl, hw8, hb1, hb2, hz1, hz2, hz3, append_wrG1, hg0, hg1, hg5, append_nB2, append_nB8, append_encN, append_encL, append_flag, c11, c11p, c26, c26p, c43, c43p, c58, c58p] | simp (disch := omega) only [wC, if_pos, if_neg])
                  refine rp 2 rfl rfl (by kernel_rfl) ?_
                  repeat (first | simp [hv, ho1, ho2, ho3, ho4, hp0, hp1, hp5, hpn, hpl, hw8, hb1, hb2, hz1, hz2, hz3, append_wrG1, hg0, hg1, hg5, append_nB2, append_nB8, append_encN, append_encL, append_flag, c11, c11p, c26, c26p, c43, c43p, c58, c58p] | simp (disch := omega) only [wC, if_pos, if_neg])
                  refine rp 3 rfl rfl (by kernel_rfl) ?_
                  repeat (first | simp [hv, ho1, ho2, ho3, ho4, hp0, hp1, hp5, hpn, hpl, hw8, hb1, hb2, hz1, hz2, hz3, append_wrG1, hg0, hg1, hg5, append_nB2, append_nB8, append_encN, append_encL, append_flag, c11, c11p, c26, c26p, c43, c43p, c58, c58p] | simp (disch := omega) only [wC, if_pos, if_neg])
                  refine rp 5 rfl rfl (by kernel_rfl) ?_
                  repeat (first | simp [hv, ho1, ho2, ho3, ho4, hp0, hp1, hp5, hpn, hpl, hw8, hb1, hb2, hz1, hz2, hz3, append_wrG1, hg0, hg1, hg5, append_nB2, append_nB8, append_encN, append_encL, append_flag, c11, c11p, c26, c26p, c43, c43p, c58, c58p] | simp (disch := omega) only [wC, if_pos, if_neg])
                  refine rp 6 rfl rfl (by kernel_rfl) ?_
                  repeat (first | simp [hv, ho1, ho2, ho3, ho4, hp0, hp1, hp5, hpn, hpl, hw8, hb1, hb2, hz1, hz2, hz3, append_wrG1, hg0, hg1, hg5, append_nB2, append_nB8, append_encN, append_encL, append_flag, c11, c11p, c26, c26p, c43, c43p, c58, c58p] | simp (disch := omega) only [wC, if_pos, if_neg])
                  refine rp 7 rfl rfl (by kernel_rfl) ?_
                  repeat (first | simp [hv, ho1, ho2, ho3, ho4, hp0, hp1, hp5, hpn, hpl, hw8, hb1, hb2, hz1, hz2, hz3, append_wrG1, hg0, hg1, hg5, append_nB2, append_nB8, append_encN, append_encL, append_flag, c11, c11p, c26, c26p, c43, c43p, c58, c58p] | simp (disch := omega) only [wC, if_pos, if_neg])
                  refine rp 8 rfl rfl (by kernel_rfl) ?_
                  repeat (first | simp [hv, ho1, ho2, ho3, ho4, hp0, hp1, hp5, hpn, hpl, hw8, hb1, hb2, hz1, hz2, hz3, append_wrG1, hg0, hg1, hg5, append_nB2, append_nB8, append_encN, append_encL, append_flag, c11, c11p, c26, c26p, c43, c43p, c58, c58p] | simp (disch := omega) only [wC, if_pos, if_neg])
                  refine runD_call 4 (by kernel_rfl) (by kernel_rfl) (by kernel_rfl) rfl (by kernel_rfl) (by kernel_rfl) (by kernel_rfl) (by first | rfl | (simp [hv, ho1, ho2, ho3, ho4, hp0, hp1, hp5, hpn, hpl, hw8, hb1, hb2, hz1, hz2, hz3, append_wrG1, hg0, hg1, hg5, append_nB2, append_nB8, append_encN, append_encL, append_flag, c11, c11p, c26, c26p, c43, c43p, c58, c58p]; done)) (by first | rfl | (simp [hv, ho1, ho2, ho3, ho4, hp0, hp1, hp5, hpn, hpl, hw8, hb1, hb2, hz1, hz2, hz3, append_wrG1, hg0, hg1, hg5, append_nB2, append_nB8, append_encN, append_encL, append_flag, c11, c11p, c26, c26p, c43, c43p, c58, c58p]; done)) (by simp) (callsA_mono (wlong_ok (ho1 _) hT.w.tok (by omega) (by omega)) (fun _ _ h => wp_two h hT (by omega))) ?_
                  rintro _ _ ⟨rfl, k1, tk1, hm1, hI1, rfl⟩
                  refine ⟨by first | exact fun _ _ h => h | (refine later_list [8, 7, 6, 5, 2, 1] (by kernel_rfl) (List.forall_mem_cons.2 ⟨fun _ => fact2 rfl rfl ?_, List.forall_mem_cons.2 ⟨fun _ => fact2 rfl rfl ?_, List.forall_mem_cons.2 ⟨fun _ => fact2 rfl rfl ?_, List.forall_mem_cons.2 ⟨fun _ => fact2 rfl rfl ?_, List.forall_mem_cons.2 ⟨fun _ => fact2 rfl rfl ?_, List.forall_mem_cons.2 ⟨fun _ => fact2 rfl rfl ?_, fun _ h => absurd h List.not_mem_nil⟩⟩⟩⟩⟩⟩) <;> constructor <;> first | rfl | (simp [hv, ho1, ho2, ho3, ho4, hp0, hp1, hp5, hpn, hpl, hw8, hb1, hb2, hz1, hz2, hz3, append_wrG1, hg0, hg1, hg5, append_nB2, append_nB8, append_encN, append_encL, append_flag, c11, c11p, c26, c26p, c43, c43p, c58, c58p]; done)), ?_⟩
                  repeat (first | simp [hv, ho1, ho2, ho3, ho4, hp0, hp1, hp5, hpn, hpl, hw8, hb1, hb2, hz1, hz2, hz3, append_wrG1, hg0, hg1, hg5, append_nB2, append_nB8, append_encN, append_encL, append_flag, c11, c11p, c26, c26p, c43, c43p, c58, c58p] | simp (disch := omega) only [wC, if_pos, if_neg])
                  refine runD_call 9 (by kernel_rfl) (by kernel_rfl) (by kernel_rfl) rfl (by kernel_rfl) (by kernel_rfl) (by kernel_rfl) (by first | rfl | (simp [hv, ho1, ho2, ho3, ho4, hp0, hp1, hp5, hpn, hpl, hw8, hb1, hb2, hz1, hz2, hz3, append_wrG1, hg0, hg1, hg5, append_nB2, append_nB8, append_encN, append_encL, append_flag, c11, c11p, c26, c26p, c43, c43p, c58, c58p]; done)) (by first | rfl | (simp [hv, ho1, ho2, ho3, ho4, hp0, hp1, hp5, hpn, hpl, hw8, hb1, hb2, hz1, hz2, hz3, append_wrG1, hg0, hg1, hg5, append_nB2, append_nB8, append_encN, append_encL, append_flag, c11, c11p, c26, c26p, c43, c43p, c58, c58p]; done)) (by simp) (rlong_ok (n := limb x.n.v 0) (size := 8) (by omega) (by omega)) ?_
                  rintro _ _ ⟨rfl, rfl⟩
                  refine ⟨fun _ _ h => h, ?_⟩
                  repeat (first | simp [hv, ho1, ho2, ho3, ho4, hp0, hp1, hp5, hpn, hpl, hw8, hb1, hb2, hz1, hz2, hz3, append_wrG1, hg0, hg1, hg5, append_nB2, append_nB8, append_encN, append_encL, append_flag, c11, c11p, c26, c26p, c43, c43p, c58, c58p] | simp (disch := omega) only [wC, if_pos, if_neg])
                  refine runD_op' 10 (by kernel_rfl) (by kernel_rfl) (by kernel_rfl) rfl (by kernel_rfl) (by kernel_rfl) (by kernel_rfl) ?_
                  repeat (first | simp [hv, ho1, ho2, ho3, ho4, hp0, hp1, hp5, hpn, hpl, hw8, hb1, hb2, hz1, hz2, hz3, append_wrG1, hg0, hg1, hg5, append_nB2, append_nB8, append_encN, append_encL, append_flag, c11, c11p, c26, c26p, c43, c43p, c58, c58p] | simp (disch := omega) only [wC, if_pos, if_neg])
                  refine ⟨by first | exact fun _ _ h => h | (refine later_list [7, 6, 2, 1] (by kernel_rfl) (List.forall_mem_cons.2 ⟨fun _ => fact2 rfl rfl ?_, List.forall_mem_cons.2 ⟨fun _ => fact2 rfl rfl ?_, List.forall_mem_cons.2 ⟨fun _ => fact2 rfl rfl ?_, List.forall_mem_cons.2 ⟨fun _ => fact2 rfl rfl ?_, fun _ h => absurd h List.not_mem_nil⟩⟩⟩⟩) <;> constructor <;> first | rfl | (simp [hv, ho1, ho2, ho3, ho4, hp0, hp1, hp5, hpn, hpl, hw8, hb1, hb2, hz1, hz2, hz3, append_wrG1, hg0, hg1, hg5, append_nB2, append_nB8, append_encN, append_encL, append_flag, c11, c11p, c26, c26p, c43, c43p, c58, c58p]; done)), ?_⟩
                  refine rp 11 rfl rfl (by kernel_rfl) ?_
                  repeat (first | simp [hv, ho1, ho2, ho3, ho4, hp0, hp1, hp5, hpn, hpl, hw8, hb1, hb2, hz1, hz2, hz3, append_wrG1, hg0, hg1, hg5, append_nB2, append_nB8, append_encN, append_encL, append_flag, c11, c11p, c26, c26p, c43, c43p, c58, c58p] | simp (disch := omega) only [wC, if_pos, if_neg])
                  refine rp 12 rfl rfl (by kernel_rfl) ?_
                  repeat (first | simp [hv, ho1, ho2, ho3, ho4, hp0, hp1, hp5, hpn, hpl, hw8, hb1, hb2, hz1, hz2, hz3, append_wrG1, hg0, hg1, hg5, append_nB2, append_nB8, append_encN, append_encL, append_flag, c11, c11p, c26, c26p, c43, c43p, c58, c58p] | simp (disch := omega) only [wC, if_pos, if_neg])
                  refine runD_done (by kernel_rfl) (by kernel_rfl) (by kernel_rfl) ?_
                  refine hJ21 _ _ ?_
                  refine hK20 _ _ ?_
                  refine run_ret ?_
                  try simp only [Then, InBlock, NoGoto]
                  refine answer_tmp2 rfl (.inr rfl) ?_
                  have e : encP x = nBytes 8 (limb x.n.v 0) := by rw [htm] at c11 c26 c43 c58; simp at c11 c26 c43 c58; unfold encP; rw [if_neg (by omega), if_neg (by omega), if_neg (by omega), if_pos (by omega)]
                  rw [e]
                  exact ⟨(k1, kn tk1 kp l, tkn tk1 kp l _), mid_two hm1 (by simp [encN, encL, nBytes]), by simp, _, by simp; rfl⟩
              · try (exfalso; have gq := c58; simp [hv, ho1, ho2, ho3, ho4, hp0, hp1, hp5, hpn, hpl, hw8, hb1, hb2, hz1, hz2, hz3, append_wrG1, hg0, hg1, hg5, append_nB2, append_nB8, append_encN, append_encL, append_flag, c11, c11p, c26, c26p, c43, c43p] at gq; first | done | omega)
                all_goals
                 have c58p := c58
                 try simp [hv, ho1, ho2, ho3, ho4, hp0, hp1, hp5, hpn, hpl, hw8, hb1, hb2, hz1, hz2, hz3, append_wrG1, hg0, hg1, hg5, append_nB2, append_nB8, append_encN, append_encL, append_flag, c11, c11p, c26, c26p, c43, c43p] at c58p
                 all_goals (first | (have gq := c58p; skip) | have c58p : True := True.intro)
                 all_goals
                  refine run_seq_k fun K22 hK22 => ?_
                  refine run_region_k rfl fun J23 hJ23 => ?_
                  repeat (first | simp [hv, ho1, ho2, ho3, ho4, hp0, hp1, hp5, hpn, hpl, hw8, hb1, hb2, hz1, hz2, hz3, append_wrG1, hg0, hg1, hg5, append_nB2, append_nB8, append_encN, append_encL, append_flag, c11, c11p, c26, c26p, c43, c43p, c58, c58p] | simp (disch := omega) only [wC, if_pos, if_neg])
                  refine hJ23 _ _ ?_
                  refine hK22 _ _ ?_
                  refine run_cond_split (by first | rfl | (simp [hv, ho1, ho2, ho3, ho4, hp0, hp1, hp5, hpn, hpl, hw8, hb1, hb2, hz1, hz2, hz3, append_wrG1, hg0, hg1, hg5, append_nB2, append_nB8, append_encN, append_encL, append_flag, c11, c11p, c26, c26p, c43, c43p, c58, c58p, evalA]; done)) (fun c71 => ?_) (fun c71 => ?_)
                  · try (exfalso; have gq := c71; simp [hv, ho1, ho2, ho3, ho4, hp0, hp1, hp5, hpn, hpl, hw8, hb1, hb2, hz1, hz2, hz3, append_wrG1, hg0, hg1, hg5, append_nB2, append_nB8, append_encN, append_encL, append_flag, c11, c11p, c26, c26p, c43, c43p, c58, c58p] at gq; first | done | omega)
                    all_goals
                     have c71p := c71
                     try simp [hv, ho1, ho2, ho3, ho4, hp0, hp1, hp5, hpn, hpl, hw8, hb1, hb2, hz1, hz2, hz3, append_wrG1, hg0, hg1, hg5, append_nB2, append_nB8, append_encN, append_encL, append_flag, c11, c11p, c26, c26p, c43, c43p, c58, c58p] at c71p
                     all_goals (first | (have gq := c71p; skip) | have c71p : True := True.intro)
                     all_goals
                      refine run_seq_k fun K24 hK24 => ?_
                      refine run_draw (by kernel_rfl) fun J25 hJ25 => ?_
                      refine rp 0 rfl rfl (by kernel_rfl) ?_
                      repeat (first | simp [hv, ho1, ho2, ho3, ho4, hp0, hp1, hp5, hpn, hpl, hw8, hb1, hb2, hz1, hz2, hz3, append_wrG1, hg0, hg1, hg5, append_nB2, append_nB8, append_encN, append_encL, append_flag, c11, c11p, c26, c26p, c43, c43p, c58, c58p, c71, c71p] | simp (disch := omega) only [wC, if_pos, if_neg])
                      refine rp 1 rfl rfl (by kernel_rfl) ?_
                      repeat (first | simp [hv, ho1, ho2, ho3, ho4, hp0, hp1, hp5, hpn, hpl, hw8, hb1, hb2, hz1, hz2, hz3, append_wrG1, hg0, hg1, hg5, append_nB2, append_nB8, append_encN, append_encL, append_flag, c11, c11p, c26, c26p, c43, c43p, c58, c58p, c71, c71p] | simp (disch := omega) only [wC, if_pos, if_neg])
                      refine rp 2 rfl rfl (by kernel_rfl) ?_
                      repeat (first | simp [hv, ho1, ho2, ho3, ho4, hp0, hp1, hp5, hpn, hpl, hw8, hb1, hb2, hz1, hz2, hz3, append_wrG1, hg0, hg1, hg5, append_nB2, append_nB8, append_encN, append_encL, append_flag, c11, c11p, c26, c26p, c43, c43p, c58, c58p, c71, c71p] | simp (disch := omega) only [wC, if_pos, if_neg])
                      refine rp 4 rfl rfl (by kernel_rfl) ?_
                      repeat (first | simp [hv, ho1, ho2, ho3, ho4, hp0, hp1, hp5, hpn, hpl, hw8, hb1, hb2, hz1, hz2, hz3, append_wrG1, hg0, hg1, hg5, append_nB2, append_nB8, append_encN, append_encL, append_flag, c11, c11p, c26, c26p, c43, c43p, c58, c58p, c71, c71p] | simp (disch := omega) only [wC, if_pos, if_neg])
                      refine rp 5 rfl rfl (by kernel_rfl) ?_
                      repeat (first | simp [hv, ho1, ho2, ho3, ho4, hp0, hp1, hp5, hpn, hpl, hw8, hb1, hb2, hz1, hz2, hz3, append_wrG1, hg0, hg1, hg5, append_nB2, append_nB8, append_encN, append_encL, append_flag, c11, c11p, c26, c26p, c43, c43p, c58, c58p, c71, c71p] | simp (disch := omega) only [wC, if_pos, if_neg])
                      refine rp 6 rfl rfl (by kernel_rfl) ?_
                      repeat (first | simp [hv, ho1, ho2, ho3, ho4, hp0, hp1, hp5, hpn, hpl, hw8, hb1, hb2, hz1, hz2, hz3, append_wrG1, hg0, hg1, hg5, append_nB2, append_nB8, append_encN, append_encL, append_flag, c11, c11p, c26, c26p, c43, c43p, c58, c58p, c71, c71p] | simp (disch := omega) only [wC, if_pos, if_neg])
                      refine runD_call 3 (by kernel_rfl) (by kernel_rfl) (by kernel_rfl) rfl (by kernel_rfl) (by kernel_rfl) (by kernel_rfl) (by first | rfl | (simp [hv, ho1, ho2, ho3, ho4, hp0, hp1, hp5, hpn, hpl, hw8, hb1, hb2, hz1, hz2, hz3, append_wrG1, hg0, hg1, hg5, append_nB2, append_nB8, append_encN, append_encL, append_flag, c11, c11p, c26, c26p, c43, c43p, c58, c58p, c71, c71p]; done)) (by first | rfl | (simp [hv, ho1, ho2, ho3, ho4, hp0, hp1, hp5, hpn, hpl, hw8, hb1, hb2, hz1, hz2, hz3, append_wrG1, hg0, hg1, hg5, append_nB2, append_nB8, append_encN, append_encL, append_flag, c11, c11p, c26, c26p, c43, c43p, c58, c58p, c71, c71p]; done)) (by simp) (callsA_mono (wnum_ok (ho1 _) hT.w.tok x.n.h (by omega)) (fun _ _ h => wp_two h hT (by omega))) ?_
                      rintro _ _ ⟨rfl, k1, tk1, hm1, hI1, rfl⟩
                      refine ⟨by first | exact fun _ _ h => h | (refine later_list [6, 5, 4, 1] (by kernel_rfl) (List.forall_mem_cons.2 ⟨fun _ => fact2 rfl rfl ?_, List.forall_mem_cons.2 ⟨fun _ => fact2 rfl rfl ?_, List.forall_mem_cons.2 ⟨fun _ => fact2 rfl rfl ?_, List.forall_mem_cons.2 ⟨fun _ => fact2 rfl rfl ?_, fun _ h => absurd h List.not_mem_nil⟩⟩⟩⟩) <;> constructor <;> first | rfl | (simp [hv, ho1, ho2, ho3, ho4, hp0, hp1, hp5, hpn, hpl, hw8, hb1, hb2, hz1, hz2, hz3, append_wrG1, hg0, hg1, hg5, append_nB2, append_nB8, append_encN, append_encL, append_flag, c11, c11p, c26, c26p, c43, c43p, c58, c58p, c71, c71p]; done)), ?_⟩
                      repeat (first | simp [hv, ho1, ho2, ho3, ho4, hp0, hp1, hp5, hpn, hpl, hw8, hb1, hb2, hz1, hz2, hz3, append_wrG1, hg0, hg1, hg5, append_nB2, append_nB8, append_encN, append_encL, append_flag, c11, c11p, c26, c26p, c43, c43p, c58, c58p, c71, c71p] | simp (disch := omega) only [wC, if_pos, if_neg])
                      refine runD_call 7 (by kernel_rfl) (by kernel_rfl) (by kernel_rfl) rfl (by kernel_rfl) (by kernel_rfl) (by kernel_rfl) (by first | rfl | (simp [hv, ho1, ho2, ho3, ho4, hp0, hp1, hp5, hpn, hpl, hw8, hb1, hb2, hz1, hz2, hz3, append_wrG1, hg0, hg1, hg5, append_nB2, append_nB8, append_encN, append_encL, append_flag, c11, c11p, c26, c26p, c43, c43p, c58, c58p, c71, c71p]; done)) (by first | rfl | (simp [hv, ho1, ho2, ho3, ho4, hp0, hp1, hp5, hpn, hpl, hw8, hb1, hb2, hz1, hz2, hz3, append_wrG1, hg0, hg1, hg5, append_nB2, append_nB8, append_encN, append_encL, append_flag, c11, c11p, c26, c26p, c43, c43p, c58, c58p, c71, c71p]; done)) (by simp) (rnum_ok x.n.h) ?_
                      rintro _ _ ⟨rfl, rfl⟩
                      refine ⟨fun _ _ h => h, ?_⟩
                      repeat (first | simp [hv, ho1, ho2, ho3, ho4, hp0, hp1, hp5, hpn, hpl, hw8, hb1, hb2, hz1, hz2, hz3, append_wrG1, hg0, hg1, hg5, append_nB2, append_nB8, append_encN, append_encL, append_flag, c11, c11p, c26, c26p, c43, c43p, c58, c58p, c71, c71p] | simp (disch := omega) only [wC, if_pos, if_neg])
                      refine runD_op' 8 (by kernel_rfl) (by kernel_rfl) (by kernel_rfl) rfl (by kernel_rfl) (by kernel_rfl) (by kernel_rfl) ?_
                      repeat (first | simp [hv, ho1, ho2, ho3, ho4, hp0, hp1, hp5, hpn, hpl, hw8, hb1, hb2, hz1, hz2, hz3, append_wrG1, hg0, hg1, hg5, append_nB2, append_nB8, append_encN, append_encL, append_flag, c11, c11p, c26, c26p, c43, c43p, c58, c58p, c71, c71p] | simp (disch := omega) only [wC, if_pos, if_neg])
                      refine ⟨by first | exact fun _ _ h => h | (refine later_list [5, 1] (by kernel_rfl) (List.forall_mem_cons.2 ⟨fun _ => fact2 rfl rfl ?_, List.forall_mem_cons.2 ⟨fun _ => fact2 rfl rfl ?_, fun _ h => absurd h List.not_mem_nil⟩⟩) <;> constructor <;> first | rfl | (simp [hv, ho1, ho2, ho3, ho4, hp0, hp1, hp5, hpn, hpl, hw8, hb1, hb2, hz1, hz2, hz3, append_wrG1, hg0, hg1, hg5, append_nB2, append_nB8, append_encN, append_encL, append_flag, c11, c11p, c26, c26p, c43, c43p, c58, c58p, c71, c71p]; done)), ?_⟩
                      refine rp 9 rfl rfl (by kernel_rfl) ?_
                      repeat (first | simp [hv, ho1, ho2, ho3, ho4, hp0, hp1, hp5, hpn, hpl, hw8, hb1, hb2, hz1, hz2, hz3, append_wrG1, hg0, hg1, hg5, append_nB2, append_nB8, append_encN, append_encL, append_flag, c11, c11p, c26, c26p, c43, c43p, c58, c58p, c71, c71p] | simp (disch := omega) only [wC, if_pos, if_neg])
                      refine rp 10 rfl rfl (by kernel_rfl) ?_
                      repeat (first | simp [hv, ho1, ho2, ho3, ho4, hp0, hp1, hp5, hpn, hpl, hw8, hb1, hb2, hz1, hz2, hz3, append_wrG1, hg0, hg1, hg5, append_nB2, append_nB8, append_encN, append_encL, append_flag, c11, c11p, c26, c26p, c43, c43p, c58, c58p, c71, c71p] | simp (disch := omega) only [wC, if_pos, if_neg])
                      refine runD_done (by kernel_rfl) (by kernel_rfl) (by kernel_rfl) ?_
                      refine hJ25 _ _ ?_
                      refine hK24 _ _ ?_
                      refine run_ret ?_
                      try simp only [Then, InBlock, NoGoto]
                      refine answer_tmp2 rfl (.inr rfl) ?_
                      have e : encP x = encN x.n.v := by rw [htm] at c11 c26 c43 c58 c71; simp at c11 c26 c43 c58 c71; unfold encP; rw [if_neg (by omega), if_neg (by omega), if_neg (by omega), if_neg (by omega), if_pos (by omega)]
                      rw [e]
                      exact ⟨(k1, kn tk1 kp l, tkn tk1 kp l _), mid_two hm1 (by simp [encN, encL, nBytes]), by simp, _, by simp; rfl⟩
                  · try (exfalso; have gq := c71; simp [hv, ho1, ho2, ho3, ho4, hp0, hp1, hp5, hpn, hpl, hw8, hb1, hb2, hz1, hz2, hz3, append_wrG1, hg0, hg1, hg5, append_nB2, append_nB8, append_encN, append_encL, append_flag, c11, c11p, c26, c26p, c43, c43p, c58, c58p] at gq; first | done | omega)
                    all_goals
                     have c71p := c71
                     try simp [hv, ho1, ho2, ho3, ho4, hp0, hp1, hp5, hpn, hpl, hw8, hb1, hb2, hz1, hz2, hz3, append_wrG1, hg0, hg1, hg5, append_nB2, append_nB8, append_encN, append_encL, append_flag, c11, c11p, c26, c26p, c43, c43p, c58, c58p] at c71p
                     all_goals (first | (have gq := c71p; skip) | have c71p : True := True.intro)
                     all_goals
                      refine run_skip ?_
                      refine hK3 _ _ ?_
                      refine run_seq_k fun K26 hK26 => ?_
                      refine run_draw (by kernel_rfl) fun J27 hJ27 => ?_
                      refine rp 0 rfl rfl (by kernel_rfl) ?_
                      repeat (first | simp [hv, ho1, ho2, ho3, ho4, hp0, hp1, hp5, hpn, hpl, hw8, hb1, hb2, hz1, hz2, hz3, append_wrG1, hg0, hg1, hg5, append_nB2, append_nB8, append_encN, append_encL, append_flag, c11, c11p, c26, c26p, c43, c43p, c58, c58p, c71, c71p] | simp (disch := omega) only [wC, if_pos, if_neg])
                      refine rp 1 rfl rfl (by kernel_rfl) ?_
                      repeat (first | simp [hv, ho1, ho2, ho3, ho4, hp0, hp1, hp5, hpn, hpl, hw8, hb1, hb2, hz1, hz2, hz3, append_wrG1, hg0, hg1, hg5, append_nB2, append_nB8, append_encN, append_encL, append_flag, c11, c11p, c26, c26p, c43, c43p, c58, c58p, c71, c71p] | simp (disch := omega) only [wC, if_pos, if_neg])
                      refine rp 2 rfl rfl (by kernel_rfl) ?_
                      repeat (first | simp [hv, ho1, ho2, ho3, ho4, hp0, hp1, hp5, hpn, hpl, hw8, hb1, hb2, hz1, hz2, hz3, append_wrG1, hg0, hg1, hg5, append_nB2, append_nB8, append_encN, append_encL, append_flag, c11, c11p, c26, c26p, c43, c43p, c58, c58p, c71, c71p] | simp (disch := omega) only [wC, if_pos, if_neg])
                      refine rp 5 rfl rfl (by kernel_rfl) ?_
                      repeat (first | simp [hv, ho1, ho2, ho3, ho4, hp0, hp1, hp5, hpn, hpl, hw8, hb1, hb2, hz1, hz2, hz3, append_wrG1, hg0, hg1, hg5, append_nB2, append_nB8, append_encN, append_encL, append_flag, c11, c11p, c26, c26p, c43, c43p, c58, c58p, c71, c71p] | simp (disch := omega) only [wC, if_pos, if_neg])
                      refine rp 6 rfl rfl (by kernel_rfl) ?_
                      repeat (first | simp [hv, ho1, ho2, ho3, ho4, hp0, hp1, hp5, hpn, hpl, hw8, hb1, hb2, hz1, hz2, hz3, append_wrG1, hg0, hg1, hg5, append_nB2, append_nB8, append_encN, append_encL, append_flag, c11, c11p, c26, c26p, c43, c43p, c58, c58p, c71, c71p] | simp (disch := omega) only [wC, if_pos, if_neg])
                      refine rp 7 rfl rfl (by kernel_rfl) ?_
                      repeat (first | simp [hv, ho1, ho2, ho3, ho4, hp0, hp1, hp5, hpn, hpl, hw8, hb1, hb2, hz1, hz2, hz3, append_wrG1, hg0, hg1, hg5, append_nB2, append_nB8, append_encN, append_encL, append_flag, c11, c11p, c26, c26p, c43, c43p, c58, c58p, c71, c71p] | simp (disch := omega) only [wC, if_pos, if_neg])
                      refine runD_call 3 (by kernel_rfl) (by kernel_rfl) (by kernel_rfl) rfl (by kernel_rfl) (by kernel_rfl) (by kernel_rfl) (by first | rfl | (simp [hv, ho1, ho2, ho3, ho4, hp0, hp1, hp5, hpn, hpl, hw8, hb1, hb2, hz1, hz2, hz3, append_wrG1, hg0, hg1, hg5, append_nB2, append_nB8, append_encN, append_encL, append_flag, c11, c11p, c26, c26p, c43, c43p, c58, c58p, c71, c71p]; done)) (by first | rfl | (simp [hv, ho1, ho2, ho3, ho4, hp0, hp1, hp5, hpn, hpl, hw8, hb1, hb2, hz1, hz2, hz3, append_wrG1, hg0, hg1, hg5, append_nB2, append_nB8, append_encN, append_encL, append_flag, c11, c11p, c26, c26p, c43, c43p, c58, c58p, c71, c71p]; done)) (by simp) (of_ok (by omega)) ?_
                      rintro _ _ ⟨rfl, rfl⟩
                      refine ⟨fun _ _ h => h, ?_⟩
                      repeat (first | simp [hv, ho1, ho2, ho3, ho4, hp0, hp1, hp5, hpn, hpl, hw8, hb1, hb2, hz1, hz2, hz3, append_wrG1, hg0, hg1, hg5, append_nB2, append_nB8, append_encN, append_encL, append_flag, c11, c11p, c26, c26p, c43, c43p, c58, c58p, c71, c71p] | simp (disch := omega) only [wC, if_pos, if_neg])
                      refine runD_call 4 (by kernel_rfl) (by kernel_rfl) (by kernel_rfl) rfl (by kernel_rfl) (by kernel_rfl) (by kernel_rfl) (by first | rfl | (simp [hv, ho1, ho2, ho3, ho4, hp0, hp1, hp5, hpn, hpl, hw8, hb1, hb2, hz1, hz2, hz3, append_wrG1, hg0, hg1, hg5, append_nB2, append_nB8, append_encN, append_encL, append_flag, c11, c11p, c26, c26p, c43, c43p, c58, c58p, c71, c71p]; done)) (by first | rfl | (simp [hv, ho1, ho2, ho3, ho4, hp0, hp1, hp5, hpn, hpl, hw8, hb1, hb2, hz1, hz2, hz3, append_wrG1, hg0, hg1, hg5, append_nB2, append_nB8, append_encN, append_encL, append_flag, c11, c11p, c26, c26p, c43, c43p, c58, c58p, c71, c71p]; done)) (by simp) (callsA_mono (wcoins_ok (ho1 _) hT.w.tok (by omega) (by omega)) (fun _ _ h => wp_two h hT (by omega))) ?_
                      rintro _ _ ⟨rfl, k1, tk1, hm1, hI1, rfl⟩
                      refine ⟨by first | exact fun _ _ h => h | (refine later_list [7, 6, 5, 1] (by kernel_rfl) (List.forall_mem_cons.2 ⟨fun _ => fact2 rfl rfl ?_, List.forall_mem_cons.2 ⟨fun _ => fact2 rfl rfl ?_, List.forall_mem_cons.2 ⟨fun _ => fact2 rfl rfl ?_, List.forall_mem_cons.2 ⟨fun _ => fact2 rfl rfl ?_, fun _ h => absurd h List.not_mem_nil⟩⟩⟩⟩) <;> constructor <;> first | rfl | (simp [hv, ho1, ho2, ho3, ho4, hp0, hp1, hp5, hpn, hpl, hw8, hb1, hb2, hz1, hz2, hz3, append_wrG1, hg0, hg1, hg5, append_nB2, append_nB8, append_encN, append_encL, append_flag, c11, c11p, c26, c26p, c43, c43p, c58, c58p, c71, c71p]; done)), ?_⟩
                      repeat (first | simp [hv, ho1, ho2, ho3, ho4, hp0, hp1, hp5, hpn, hpl, hw8, hb1, hb2, hz1, hz2, hz3, append_wrG1, hg0, hg1, hg5, append_nB2, append_nB8, append_encN, append_encL, append_flag, c11, c11p, c26, c26p, c43, c43p, c58, c58p, c71, c71p] | simp (disch := omega) only [wC, if_pos, if_neg])
                      refine runD_call 8 (by kernel_rfl) (by kernel_rfl) (by kernel_rfl) rfl (by kernel_rfl) (by kernel_rfl) (by kernel_rfl) (by first | rfl | (simp [hv, ho1, ho2, ho3, ho4, hp0, hp1, hp5, hpn, hpl, hw8, hb1, hb2, hz1, hz2, hz3, append_wrG1, hg0, hg1, hg5, append_nB2, append_nB8, append_encN, append_encL, append_flag, c11, c11p, c26, c26p, c43, c43p, c58, c58p, c71, c71p]; done)) (by first | rfl | (simp [hv, ho1, ho2, ho3, ho4, hp0, hp1, hp5, hpn, hpl, hw8, hb1, hb2, hz1, hz2, hz3, append_wrG1, hg0, hg1, hg5, append_nB2, append_nB8, append_encN, append_encL, append_flag, c11, c11p, c26, c26p, c43, c43p, c58, c58p, c71, c71p]; done)) (by simp) (of_ok (by omega)) ?_
                      rintro _ _ ⟨rfl, rfl⟩
                      refine ⟨fun _ _ h => h, ?_⟩
                      repeat (first | simp [hv, ho1, ho2, ho3, ho4, hp0, hp1, hp5, hpn, hpl, hw8, hb1, hb2, hz1, hz2, hz3, append_wrG1, hg0, hg1, hg5, append_nB2, append_nB8, append_encN, append_encL, append_flag, c11, c11p, c26, c26p, c43, c43p, c58, c58p, c71, c71p] | simp (disch := omega) only [wC, if_pos, if_neg])
                      refine runD_call 9 (by kernel_rfl) (by kernel_rfl) (by kernel_rfl) rfl (by kernel_rfl) (by kernel_rfl) (by kernel_rfl) (by first | rfl | (simp [hv, ho1, ho2, ho3, ho4, hp0, hp1, hp5, hpn, hpl, hw8, hb1, hb2, hz1, hz2, hz3, append_wrG1, hg0, hg1, hg5, append_nB2, append_nB8, append_encN, append_encL, append_flag, c11, c11p, c26, c26p, c43, c43p, c58, c58p, c71, c71p]; done)) (by first | rfl | (simp [hv, ho1, ho2, ho3, ho4, hp0, hp1, hp5, hpn, hpl, hw8, hb1, hb2, hz1, hz2, hz3, append_wrG1, hg0, hg1, hg5, append_nB2, append_nB8, append_encN, append_encL, append_flag, c11, c11p, c26, c26p, c43, c43p, c58, c58p, c71, c71p]; done)) (by simp) (rcoinsW_ok (by omega)) ?_
                      rintro _ _ ⟨rfl, rfl⟩
                      refine ⟨fun _ _ h => h, ?_⟩
                      repeat (first | simp [hv, ho1, ho2, ho3, ho4, hp0, hp1, hp5, hpn, hpl, hw8, hb1, hb2, hz1, hz2, hz3, append_wrG1, hg0, hg1, hg5, append_nB2, append_nB8, append_encN, append_encL, append_flag, c11, c11p, c26, c26p, c43, c43p, c58, c58p, c71, c71p] | simp (disch := omega) only [wC, if_pos, if_neg])
                      refine runD_op' 10 (by kernel_rfl) (by kernel_rfl) (by kernel_rfl) rfl (by kernel_rfl) (by kernel_rfl) (by kernel_rfl) ?_
                      repeat (first | simp [hv, ho1, ho2, ho3, ho4, hp0, hp1, hp5, hpn, hpl, hw8, hb1, hb2, hz1, hz2, hz3, append_wrG1, hg0, hg1, hg5, append_nB2, append_nB8, append_encN, append_encL, append_flag, c11, c11p, c26, c26p, c43, c43p, c58, c58p, c71, c71p] | simp (disch := omega) only [wC, if_pos, if_neg])
                      refine ⟨by first | exact fun _ _ h => h | (refine later_list [6, 1] (by kernel_rfl) (List.forall_mem_cons.2 ⟨fun _ => fact2 rfl rfl ?_, List.forall_mem_cons.2 ⟨fun _ => fact2 rfl rfl ?_, fun _ h => absurd h List.not_mem_nil⟩⟩) <;> constructor <;> first | rfl | (simp [hv, ho1, ho2, ho3, ho4, hp0, hp1, hp5, hpn, hpl, hw8, hb1, hb2, hz1, hz2, hz3, append_wrG1, hg0, hg1, hg5, append_nB2, append_nB8, append_encN, append_encL, append_flag, c11, c11p, c26, c26p, c43, c43p, c58, c58p, c71, c71p]; done)), ?_⟩
                      refine rp 11 rfl rfl (by kernel_rfl) ?_
                      repeat (first | simp [hv, ho1, ho2, ho3, ho4, hp0, hp1, hp5, hpn, hpl, hw8, hb1, hb2, hz1, hz2, hz3, append_wrG1, hg0, hg1, hg5, append_nB2, append_nB8, append_encN, append_encL, append_flag, c11, c11p, c26, c26p, c43, c43p, c58, c58p, c71, c71p] | simp (disch := omega) only [wC, if_pos, if_neg])
                      refine rp 12 rfl rfl (by kernel_rfl) ?_
                      repeat (first | simp [hv, ho1, ho2, ho3, ho4, hp0, hp1, hp5, hpn, hpl, hw8, hb1, hb2, hz1, hz2, hz3, append_wrG1, hg0, hg1, hg5, append_nB2, append_nB8, append_encN, append_encL, append_flag, c11, c11p, c26, c26p, c43, c43p, c58, c58p, c71, c71p] | simp (disch := omega) only [wC, if_pos, if_neg])
                      refine runD_done (by kernel_rfl) (by kernel_rfl) (by kernel_rfl) ?_
                      refine hJ27 _ _ ?_
                      refine hK26 _ _ ?_
                      refine run_ret ?_
                      try simp only [Then, InBlock, NoGoto]
                      refine answer_tmp2 rfl (.inr rfl) ?_
                      have e : encP x = encL (lstP (ofP x.l) 8) := by rw [htm] at c11 c26 c43 c58 c71; simp at c11 c26 c43 c58 c71; unfold encP; rw [if_neg (by omega), if_neg (by omega), if_neg (by omega), if_neg (by omega), if_neg (by omega)]
                      rw [e]
                      exact ⟨(k1, kn tk1 kp l, tkn tk1 kp l _), mid_two hm1 (by simp [encN, encL, nBytes]), by simp, _, by simp; rfl⟩

end Go.Proofs.Ytkbhdlocdajhmaa
