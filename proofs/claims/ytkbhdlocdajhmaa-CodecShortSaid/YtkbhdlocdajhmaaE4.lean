import Derived.Test.YtkbhdlocdajhmaaE3
/-
  Parts of a message: 'few' and 'lay'.
-/
namespace Go.Proofs.Ytkbhdlocdajhmaa
set_option linter.unnecessarySimpa false
open Go Go.Vm
set_option linter.unusedSimpArgs false
set_option linter.unusedVariables false
set_option maxRecDepth 100000

attribute [local simp] evalL wantedA isCall opA evalA evalAll evalsA evalOpt ofValue ofCell plain binA_eql_pn binA_neq_pn binA_gtr binA_lss binA_geq binA_leq binA_add binA_sub binA_eql binA_neq binA_or binA_shl binA_shr binA_mul binA_quo binA_rem binA_agg_eql binA_agg_neq convA_int unA_not fieldAddrA loadA partA pickA_true pickA_false pickA_bb lenA builtinA storeA splice AV.cells AV.isCell sliceA boundA intA callOf indexAddrA newObjA buildA fillA zeroA ofCells buildSliceA indexA fieldA coinsC_at

structure PartP where
  k : UInt8
  n : Num
  l : List Coin

def partC (x : PartP) : List AV := .v (.int .u8 x.k.toNat) :: (numA x.n.v ++ [.sl 5 (coinsC x.l) x.l.length .shut])
def partsC (l : List PartP) : List AV := l.flatMap partC
theorem partC_len (x : PartP) : (partC x).length = 6 := rfl
@[simp] theorem partsC_len (l : List PartP) : (partsC l).length = l.length * 6 := flat_length _ _ partC_len l
theorem partsC_at {l : List PartP} {i : Nat} (h : i < l.length) : (partsC l).drop (i * 6) = partC l[i] ++ restC partC l i := flat_at _ _ partC_len l i h

def FewP (l : List PartP) : Prop := l.length ≤ 30 ∧ ∀ x ∈ l, x.l.length ≤ 20
instance (l : List PartP) : Decidable (FewP l) := by unfold FewP; infer_instance

attribute [local simp] undefA List.getElem?_cons_zero List.getElem?_cons_succ in
theorem few_ok {σ : St} {l : List PartP} {tl : Tail} :
    CallsA Try.prog 25 [.sl 6 (partsC l) l.length tl] σ (fun av σ' => av = .v (.bool (decide (FewP l))) ∧ σ = σ') := by
  refine callsA_body Try.func25 rfl rfl rfl ?_
  refine run_seq_k fun K1 hK1 => ?_
  refine run_region_k rfl fun J2 hJ2 => ?_
  repeat (first | simp | simp (disch := omega) only [wC, if_pos, if_neg])
  refine hJ2 _ _ ?_
  refine hK1 _ _ ?_
  refine run_seq_k fun K3 hK3 => ?_
  refine run_seq_k fun K4 hK4 => ?_
  refine run_region_k rfl fun J5 hJ5 => ?_
  repeat (first | simp | simp (disch := omega) only [wC, if_pos, if_neg])
  refine hJ5 _ _ ?_
  refine hK4 _ _ ?_
  refine run_cond_split (by first | rfl | (simp [evalA]; done)) (fun c6 => ?_) (fun c6 => ?_)
  · try (exfalso; have gq := c6; simp at gq; first | done | omega)
    all_goals
     have c6p := c6
     try simp at c6p
     all_goals (first | (have gq := c6p; skip) | have c6p : True := True.intro)
     all_goals
      refine run_seq_k fun K6 hK6 => ?_
      refine run_region_k rfl fun J7 hJ7 => ?_
      repeat (first | simp [c6, c6p] | simp (disch := omega) only [wC, if_pos, if_neg])
      refine hJ7 _ _ ?_
      refine hK6 _ _ ?_
      refine run_ret ?_
      try simp only [Then, InBlock, NoGoto]
      refine answer_tmp rfl (.inr rfl) ?_
      have hn : ¬ FewP l := fun h => by have := h.1; simp at c6; omega
      first | exact ⟨rfl, rfl⟩ | (simp [c6, c6p]; done) | (refine ⟨?_, ?_⟩ <;> first | rfl | (simp [c6, c6p]; done) | (simp [*]; done) | omega)
  · try (exfalso; have gq := c6; simp at gq; first | done | omega)
    all_goals
     have c6p := c6
     try simp at c6p
     all_goals (first | (have gq := c6p; skip) | have c6p : True := True.intro)
     all_goals
      refine run_skip ?_
      refine hK3 _ _ ?_
      refine run_seq_k fun K8 hK8 => ?_
      refine run_seq_k fun K9 hK9 => ?_
      refine run_region_k rfl fun J10 hJ10 => ?_
      repeat (first | simp [c6, c6p] | simp (disch := omega) only [wC, if_pos, if_neg])
      refine hJ10 _ _ ?_
      refine hK9 _ _ ?_
      refine run_block_k ?_
      refine run_loopF (X := Nat) [0] (fun i ρ σ1 => (i ≤ l.length) ∧ (∀ x ∈ l.take i, x.l.length ≤ 20) ∧ (ρ 3 = .v (.int .i64 i)) ∧ (σ1 = σ)) (fun i => l.length - i) (0) ?st1 ?rd1
      case st1 =>
        refine ⟨?_, ?_, ?_, ?_⟩
        · first | rfl | omega | assumption | ((repeat (first | simp [c6, c6p] | simp (disch := omega) only [wC, if_pos, if_neg])); first | done | omega) | (simp only [putA_get]; (repeat (first | simp (disch := omega) only [wC, if_pos, if_neg] | simp [c6, c6p])); done)
        · first | rfl | omega | assumption | ((repeat (first | simp [c6, c6p] | simp (disch := omega) only [wC, if_pos, if_neg])); first | done | omega) | (simp only [putA_get]; (repeat (first | simp (disch := omega) only [wC, if_pos, if_neg] | simp [c6, c6p])); done)
        · first | rfl | omega | assumption | ((repeat (first | simp [c6, c6p] | simp (disch := omega) only [wC, if_pos, if_neg])); first | done | omega) | (simp only [putA_get]; (repeat (first | simp (disch := omega) only [wC, if_pos, if_neg] | simp [c6, c6p])); done)
        · first | rfl | omega | assumption | ((repeat (first | simp [c6, c6p] | simp (disch := omega) only [wC, if_pos, if_neg])); first | done | omega) | (simp only [putA_get]; (repeat (first | simp (disch := omega) only [wC, if_pos, if_neg] | simp [c6, c6p])); done)
      case rd1 =>
        rintro i ρ1 σ1 hF1 ⟨hi, hB, h3, hs⟩
        obtain rfl := hs.symm
        have f1_0 := hF1 0 (by decide)
        try simp [c6, c6p] at f1_0
        refine run_seq_k fun K11 hK11 => ?_
        refine run_seq_k fun K12 hK12 => ?_
        refine run_region_k rfl fun J13 hJ13 => ?_
        repeat (first | simp [c6, c6p, h3, f1_0] | simp (disch := omega) only [wC, if_pos, if_neg])
        refine hJ13 _ _ ?_
        refine hK12 _ _ ?_
        refine run_cond_split (by first | rfl | (simp [c6, c6p, h3, f1_0, evalA]; done)) (fun c10 => ?_) (fun c10 => ?_)
        · try (exfalso; have gq := c10; simp [c6, c6p, h3, f1_0] at gq; first | done | omega)
          all_goals
           have c10p := c10
           try simp [c6, c6p, h3, f1_0] at c10p
           all_goals (first | (have gq := c10p; skip) | have c10p : True := True.intro)
           all_goals
            refine run_skip ?_
            refine hK11 _ _ ?_
            refine run_seq_k fun K14 hK14 => ?_
            refine run_block_k ?_
            refine run_seq_k fun K15 hK15 => ?_
            have hlt : i < l.length := by simpa using c10
            have hat := partsC_at hlt
            have hb1 : i * 6 + 6 ≤ l.length * 6 := by omega
            refine run_region_k rfl fun J16 hJ16 => ?_
            repeat (first | simp [c6, c6p, h3, f1_0, c10, c10p, hat, hb1, partC] | simp (disch := omega) only [wC, if_pos, if_neg])
            refine hJ16 _ _ ?_
            refine hK15 _ _ ?_
            refine run_cond_split (by first | rfl | (simp [c6, c6p, h3, f1_0, c10, c10p, hat, hb1, partC, evalA]; done)) (fun c19 => ?_) (fun c19 => ?_)
            · try (exfalso; have gq := c19; simp [c6, c6p, h3, f1_0, c10, c10p, hat, hb1, partC] at gq; first | done | omega)
              all_goals
               have c19p := c19
               try simp [c6, c6p, h3, f1_0, c10, c10p, hat, hb1, partC] at c19p
               all_goals (first | (have gq := c19p; skip) | have c19p : True := True.intro)
               all_goals
                refine run_seq_k fun K17 hK17 => ?_
                refine run_region_k rfl fun J18 hJ18 => ?_
                repeat (first | simp [c6, c6p, h3, f1_0, c10, c10p, hat, hb1, partC, c19, c19p] | simp (disch := omega) only [wC, if_pos, if_neg])
                refine hJ18 _ _ ?_
                refine hK17 _ _ ?_
                refine run_ret ?_
                try simp only [Then, InBlock, NoGoto]
                refine answer_tmp rfl (.inr rfl) ?_
                have hn : ¬ FewP l := fun h => by have := h.2 _ (List.getElem_mem (by simpa using c10)); simp at c19; omega
                first | exact ⟨rfl, rfl⟩ | (simp [c6, c6p, h3, f1_0, c10, c10p, hat, hb1, partC, c19, c19p]; done) | (refine ⟨?_, ?_⟩ <;> first | rfl | (simp [c6, c6p, h3, f1_0, c10, c10p, hat, hb1, partC, c19, c19p]; done) | (simp [*]; done) | omega)
            · try (exfalso; have gq := c19; simp [c6, c6p, h3, f1_0, c10, c10p, hat, hb1, partC] at gq; first | done | omega)
              all_goals
               have c19p := c19
               try simp [c6, c6p, h3, f1_0, c10, c10p, hat, hb1, partC] at c19p
               all_goals (first | (have gq := c19p; skip) | have c19p : True := True.intro)
               all_goals
                refine run_skip ?_
                refine hK14 _ _ ?_
                refine run_region_k rfl fun J19 hJ19 => ?_
                repeat (first | simp [c6, c6p, h3, f1_0, c10, c10p, hat, hb1, partC, c19, c19p] | simp (disch := omega) only [wC, if_pos, if_neg])
                refine hJ19 _ _ ?_
                refine ⟨(i + 1), ⟨?_, ?_, ?_, ?_, ?_⟩, ?_⟩
                · (intro r hr; simp only [List.mem_cons, List.not_mem_nil, or_false] at hr; rcases hr with rfl <;> first | rfl | (simp [c6, c6p, h3, f1_0, c10, c10p, hat, hb1, partC, c19, c19p]; done))
                · first | rfl | omega | assumption | ((repeat (first | simp [c6, c6p, h3, f1_0, c10, c10p, hat, hb1, partC, c19, c19p] | simp (disch := omega) only [wC, if_pos, if_neg])); first | done | omega) | (simp only [putA_get]; (repeat (first | simp (disch := omega) only [wC, if_pos, if_neg] | simp [c6, c6p, h3, f1_0, c10, c10p, hat, hb1, partC, c19, c19p])); done)
                · rw [take_snoc (by simpa using c10)]
                  intro x hx
                  rcases List.mem_append.1 hx with h | h
                  · exact hB x h
                  · simp at h; subst h; simp at c19; omega
                · first | rfl | omega | assumption | ((repeat (first | simp [c6, c6p, h3, f1_0, c10, c10p, hat, hb1, partC, c19, c19p] | simp (disch := omega) only [wC, if_pos, if_neg])); first | done | omega) | (simp only [putA_get]; (repeat (first | simp (disch := omega) only [wC, if_pos, if_neg] | simp [c6, c6p, h3, f1_0, c10, c10p, hat, hb1, partC, c19, c19p])); done)
                · first | rfl | omega | assumption | ((repeat (first | simp [c6, c6p, h3, f1_0, c10, c10p, hat, hb1, partC, c19, c19p] | simp (disch := omega) only [wC, if_pos, if_neg])); first | done | omega) | (simp only [putA_get]; (repeat (first | simp (disch := omega) only [wC, if_pos, if_neg] | simp [c6, c6p, h3, f1_0, c10, c10p, hat, hb1, partC, c19, c19p])); done)
                · first | rfl | omega | assumption | ((repeat (first | simp [c6, c6p, h3, f1_0, c10, c10p, hat, hb1, partC, c19, c19p] | simp (disch := omega) only [wC, if_pos, if_neg])); first | done | omega) | (simp only [putA_get]; (repeat (first | simp (disch := omega) only [wC, if_pos, if_neg] | simp [c6, c6p, h3, f1_0, c10, c10p, hat, hb1, partC, c19, c19p])); done)
        · try (exfalso; have gq := c10; simp [c6, c6p, h3, f1_0] at gq; first | done | omega)
          all_goals
           have c10p := c10
           try simp [c6, c6p, h3, f1_0] at c10p
           all_goals (first | (have gq := c10p; skip) | have c10p : True := True.intro)
           all_goals
            refine run_exit ?_
            refine hK8 _ _ ?_
            refine run_seq_k fun K20 hK20 => ?_
            refine run_region_k rfl fun J21 hJ21 => ?_
            repeat (first | simp [c6, c6p, h3, f1_0, c10, c10p] | simp (disch := omega) only [wC, if_pos, if_neg])
            refine hJ21 _ _ ?_
            refine hK20 _ _ ?_
            refine run_ret ?_
            try simp only [Then, InBlock, NoGoto]
            refine answer_tmp rfl (.inr rfl) ?_
            have hn : FewP l := ⟨by simp at c6; omega, by rw [List.take_of_length_le (by simpa using c10)] at hB; exact hB⟩
            first | exact ⟨rfl, rfl⟩ | (simp [c6, c6p, h3, f1_0, c10, c10p]; done) | (refine ⟨?_, ?_⟩ <;> first | rfl | (simp [c6, c6p, h3, f1_0, c10, c10p]; done) | (simp [*]; done) | omega)

/-! ### Two things that are made side by side -/
theorem callsA_gcOJ {σ : St} {P : Program} {f : FuncId} {args : List AV} {ι : Type} {A : ι → AV} {Pi : ι → Prop} {τ : ι → St} (k : CallsA P f args σ (fun av σ' => ∃ i, Pi i ∧ av = A i ∧ ∃ l, σ' = { τ i with objs := (τ i).objs ++ l }))
    (hA : ∀ i, (A i).gcO σ.objs.length = A i) (hl : ∀ i, (τ i).objs.length = σ.objs.length) (hgl : ∀ i, (τ i).gl = σ.gl) (hkp : ∀ i, Kp σ.objs.length σ.objs (τ i).objs) (hkr : ∀ i, KpR σ.objs.length σ.rows (τ i).rows) : CallsA P f args σ (fun av σ' => ∃ i, Pi i ∧ av = A i ∧ σ' = τ i) := by
  refine callsA_gcO k (fun av σ0 ⟨i, hi, hv, l, h⟩ => ?_)
  subst h hv
  refine ⟨gone_kp (hgl i) (kp_more (hkp i)) (hkr i), i, hi, hA i, ?_⟩
  have := hl i
  simp [St.trimO, ← this]

def kn (tk : List Nat) (k : Nat) (l : List UInt8) : Nat := if l = [] then tk.length else k
def tkn (tk : List Nat) (k : Nat) (l q : List UInt8) : List Nat := if l = [] then tk ++ [q.length] else tk.set k (l ++ q).length
class TkI (tk : List Nat) (k : Nat) (l : List UInt8) : Prop where
  h : Tk tk k l
  len : l.length ≤ 500000

theorem append_wrG {tk : List Nat} {k : Nat} {l q : List UInt8} {tq : Tail} [hT : TkI tk k l] {objs : List (List AV)} {gl : Nat → Option (List AV)} {rows : List RowSt} (hq0 : q ≠ []) (hq : q.length ≤ 100000) :
    appendA Try.prog 22 (wrA k l) (.sl 1 (bytesA q) q.length tq) ⟨objs, tk, gl, rows⟩ = some (wrA (kn tk k l) (l ++ q), ⟨objs, tkn tk k l q, gl, rows⟩) := by
  have hl := hT.len
  have ht := hT.h
  have hv : (Value.int IntKind.u8 0).cells.size = 1 := rfl
  by_cases h : l = []
  · subst h
    have h1 : q.length ≤ 140737488355328 := by omega
    have h2 : q.length ≤ 9223372036854775807 := by omega
    simp [wrA, kn, tkn, appendA, readA, roomA, maxLen, hq0, h1, h2, hv]
  · have h1 : l.length + q.length ≤ 140737488355328 := by omega
    have h2 : l.length + q.length ≤ 9223372036854775807 := by omega
    have hk := ht.resolve_left h
    simp [wrA, kn, tkn, h, hk, appendA, readA, roomA, maxLen, hq0, h1, h2, hv, bytesA_append]

theorem wr_append {tk : List Nat} {k : Nat} {l q : List UInt8} (ht : Tk tk k l) (hq : q ≠ []) : Wr tk k l (tkn tk k l q) (kn tk k l) (l ++ q) := by
  by_cases e : l = []
  · subst e
    refine ⟨.inr (by simp [tkn, kn]), by simp [tkn], fun j v _ hj => ?_, .inr (.inr (by simp [kn]))⟩
    simp only [tkn, if_true]
    rw [List.getElem?_append_left (lt_get hj)]; exact hj
  · have hk := ht.resolve_left e
    refine ⟨.inr (by simp [tkn, kn, e, lt_get hk]), by simp [tkn, e], fun j v hj hv => ?_, .inr (.inl ⟨by simp [kn, e], e⟩)⟩
    simp only [tkn, if_neg e]
    rw [List.getElem?_set_ne (Ne.symm (hj.resolve_left e))]; exact hv

/-- A step of another one. -/
theorem Wr.side {B tk tk1 : List Nat} {kw k1 kp : Nat} {l l1 p : List UInt8} (hp : Wr B 0 [] tk kp p) (hw : Wr B 0 [] tk kw l) (h : Wr tk kw l tk1 k1 l1) (hd : p = [] ∨ l = [] ∨ kp ≠ kw) : Wr B 0 [] tk1 kp p := by
  obtain ⟨h1, h2⟩ := h.other hp.tok hd
  refine ⟨h1, Nat.le_trans hp.len h.len, fun j v _ hj => h.keep j v ?_ (hp.keep j v (.inl rfl) hj), ?_⟩
  · rcases hw.own with e | ⟨_, e⟩ | e
    · exact .inl e
    · exact absurd rfl e
    · have := lt_get hj
      exact .inr (by omega)
  · rcases hp.own with e | ⟨_, e⟩ | e
    · exact .inl e
    · exact absurd rfl e
    · exact .inr (.inr e)

structure Two (B tk : List Nat) (kw kp : Nat) (l : List UInt8) : Prop where
  w : Wr B 0 [] tk kw l
  p : Wr B 0 [] tk kp l
  d : l = [] ∨ kp ≠ kw
structure Mid (B tk : List Nat) (kw kp : Nat) (l q : List UInt8) : Prop where
  w : Wr B 0 [] tk kw (l ++ q)
  p : Wr B 0 [] tk kp l
  d : l = [] ∨ l ++ q = [] ∨ kp ≠ kw

theorem two_mid {B tk tk1 : List Nat} {kw kp k1 : Nat} {l q : List UInt8} (h : Two B tk kw kp l) (hw : Wr tk kw l tk1 k1 (l ++ q)) : Mid B tk1 k1 kp l q := by
  have hd : l = [] ∨ l = [] ∨ kp ≠ kw := .inr h.d
  exact ⟨h.w.trans hw, h.p.side h.w hw hd, (hw.other h.p.tok hd).2⟩
theorem mid_two {B tk : List Nat} {kw kp : Nat} {l q : List UInt8} (h : Mid B tk kw kp l q) (hq : q ≠ []) : Two B (tkn tk kp l q) kw (kn tk kp l) (l ++ q) := by
  have ha := wr_append (q := q) h.p.tok hq
  have hd : l ++ q = [] ∨ l = [] ∨ kw ≠ kp := by
    rcases h.d with e | e | e
    · exact .inr (.inl e)
    · exact .inl e
    · exact .inr (.inr (Ne.symm e))
  refine ⟨h.w.side h.p ha hd, h.p.trans ha, ?_⟩
  rcases (ha.other h.w.tok hd).2 with e | e | e
  · exact .inl e
  · exact .inl e
  · exact .inr (Ne.symm e)

theorem wp_two {id kw kp : Nat} {B : List Nat} {σ σ' : St} {l q : List UInt8} {av : AV} (h : WP id σ kw l q av σ') (hT : Two B σ.toks kw kp l) (hl : l.length ≤ 500000) : av = .ptr id 0 ∧ ∃ k1 tk1, Mid B tk1 k1 kp l q ∧ TkI tk1 kp l ∧ σ' = { σ with objs := σ.objs.set id [wrA k1 (l ++ q)], toks := tk1 } := by
  obtain ⟨h1, k1, tk1, hw, h2⟩ := h
  have hm := two_mid hT hw
  exact ⟨h1, k1, tk1, hm, ⟨hm.p.tok, hl⟩, h2⟩

def encP (x : PartP) : List UInt8 :=
  if x.k.toNat % 6 = 0 then [UInt8.ofNat (limb x.n.v 0 % 256)] else if x.k.toNat % 6 = 1 then [if limb x.n.v 0 % 2 = 1 then 1 else 0] else if x.k.toNat % 6 = 2 then nBytes 2 (limb x.n.v 0 % 65536)
  else if x.k.toNat % 6 = 3 then nBytes 8 (limb x.n.v 0) else if x.k.toNat % 6 = 4 then encN x.n.v else encL (lstP (ofP x.l) 8)

end Go.Proofs.Ytkbhdlocdajhmaa
