import Derived.Test.YtkbhdlocdajhmaaE5
import Derived.Test.YtkbhdlocdajhmaaP2
/-
  What CodecThere and CodecShort share.
-/
namespace Go.Proofs.Ytkbhdlocdajhmaa
set_option linter.unnecessarySimpa false
open Go Go.Vm
set_option linter.unusedSimpArgs false
set_option linter.unusedVariables false
set_option maxRecDepth 100000

attribute [local simp] evalL wantedA isCall opA evalA evalAll evalsA evalOpt ofValue ofCell plain binA_eql_pn binA_neq_pn binA_gtr binA_lss binA_geq binA_leq binA_add binA_sub binA_eql binA_neq binA_or binA_shl binA_shr binA_mul binA_quo binA_rem binA_agg_eql binA_agg_neq convA_int unA_not fieldAddrA loadA partA pickA_true pickA_false pickA_bb lenA builtinA storeA splice AV.cells AV.isCell sliceA boundA intA callOf indexAddrA newObjA buildA fillA zeroA ofCells buildSliceA indexA fieldA coinsC_at

/-- A register that is told less sharply from here on. -/
theorem run_wk_reg {z : Zone} {P : Program} {N : Nat} {c : Code} {ρ : Nat → AV} {σ : St} {Q : Exit → (Nat → AV) → St → Prop} (r : Nat) (av : AV) (h : Wk (ρ r) av) (k : Run z P N c (putA ρ (some r) av) σ Q) : Run z P N c ρ σ Q :=
  fun G w a R hR hK => k G w a R ⟨hR.s, hR.defers, hR.size, fun i => by
    have hi := hR.env i
    by_cases e : i = r
    · subst e
      have := h G w _ hi
      simpa [putA] using this
    · simpa [putA, e] using hi⟩ hK

attribute [local simp] undefA List.getElem?_cons_zero List.getElem?_cons_succ in
theorem wdone_any {σ : St} {id k : Nat} {l : List UInt8} (h : σ.objs[id]? = some [wrA k l]) (hl : l.length ≤ 1000000) :
    CallsA Try.prog 14 [.ptr id 0] σ (fun av σ' => av = .sl 1 (bytesA l) l.length .shut ∧ σ = σ') := by
  by_cases e : l = []
  · subst e
    have h : σ.objs[id]? = some [.sl 0 [] 0 .full] := h
    have hc := fun τ : St => callsA_wk (P := Try.prog) (σ := τ) (.cons (Wk.nil 0 1 .full) .nil) (clone_ok (p := []) (tl := .shut) (by simp))
    refine callsA_body Try.func14 rfl rfl rfl ?_
    refine run_seq_k fun K1 hK1 => ?_
    refine run_region_k rfl fun J2 hJ2 => ?_
    repeat (first | simp [h] | simp (disch := omega) only [wC, if_pos, if_neg])
    refine hJ2 _ _ ?_
    refine hK1 _ _ ?_
    refine run_seq_k fun K3 hK3 => ?_
    refine run_seq_k fun K4 hK4 => ?_
    refine run_region_k rfl fun J5 hJ5 => ?_
    repeat (first | simp [h] | simp (disch := omega) only [wC, if_pos, if_neg])
    refine hJ5 _ _ ?_
    refine hK4 _ _ ?_
    refine run_cond_false (by first | rfl | (simp [h, evalA]; done)) ?_
    refine run_skip ?_
    refine hK3 _ _ ?_
    refine run_seq_k fun K6 hK6 => ?_
    refine run_region_k rfl fun J7 hJ7 => ?_
    repeat (first | simp [h] | simp (disch := omega) only [wC, if_pos, if_neg])
    refine runL_call' (b := true) (by first | rfl | (simp [h, wantedA]; done)) rfl rfl (by first | rfl | (simp [h, callOf]; done)) (by simp) (hc _) ?_
    rintro _ _ ⟨rfl, rfl⟩
    repeat (first | simp [h] | simp (disch := omega) only [wC, if_pos, if_neg])
    refine hJ7 _ _ ?_
    refine hK6 _ _ ?_
    refine run_ret ?_
    try simp only [Then, InBlock, NoGoto]
    refine answer_tmp rfl (.inr rfl) ?_
    first | exact ⟨rfl, rfl⟩ | (simp [h]; done) | (refine ⟨?_, ?_⟩ <;> first | rfl | (simp [h]; done) | (simp [*]; done) | omega)
  · exact done_ok (tl := .own k) (by simpa [wrA, e] using h) hl

theorem encP_len (x : PartP) : (encP x).length ≤ 273 := by
  have h1 := natBytes_len x.n.v 32 (by simpa using x.n.h)
  have h2 := lstP_len (ofP x.l) 8
  have h3 := encCs_len (lstP (ofP x.l) 8)
  unfold encP
  split
  · simp
  split
  · simp
  split
  · simp [nBytes_len]
  split
  · simp [nBytes_len]
  split
  · simp [encN]; omega
  · simp [encL]; omega
theorem encsP_len : ∀ l : List PartP, (encsP l).length ≤ 273 * l.length
  | [] => by simp [encsP]
  | x :: l => by
    have h1 := encP_len x
    have h2 := encsP_len l
    simp [encsP] at h2 ⊢
    omega
theorem encsP_snoc (l : List PartP) (x : PartP) : encsP (l ++ [x]) = encsP l ++ encP x := by simp [encsP]
theorem encsP_drop {l : List PartP} {j : Nat} (h : j < l.length) : encsP (l.drop j) = encP l[j] ++ encsP (l.drop (j + 1)) := by
  rw [List.drop_eq_getElem_cons h, encsP, List.flatMap_cons]; rfl

structure T3 where
  i : Nat
  kw : Nat
  kp : Nat
  tk : List Nat
structure R2 where
  j : Nat
  k : Nat

theorem two_nil (B : List Nat) : Two B B 0 0 [] := ⟨Wr.refl (.inl rfl), Wr.refl (.inl rfl), .inl rfl⟩

end Go.Proofs.Ytkbhdlocdajhmaa
