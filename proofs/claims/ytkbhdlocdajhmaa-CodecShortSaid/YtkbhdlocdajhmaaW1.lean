import Derived.Test.YtkbhdlocdajhmaaC6
import Derived.Test.YtkbhdlocdajhmaaVmT
/-
  The codec's writer, whatever it holds.
-/
namespace Go.Proofs.Ytkbhdlocdajhmaa
set_option linter.unnecessarySimpa false
open Go Go.Vm
set_option linter.unusedSimpArgs false
set_option linter.unusedVariables false
set_option maxRecDepth 100000

attribute [local simp] evalL wantedA isCall opA evalA evalAll evalsA evalOpt ofValue ofCell plain binA_eql_pn binA_neq_pn binA_gtr binA_lss binA_geq binA_leq binA_add binA_sub binA_eql binA_neq binA_or binA_shl binA_shr binA_mul binA_quo binA_rem binA_agg_eql binA_agg_neq convA_int unA_not fieldAddrA loadA partA pickA_true pickA_false pickA_bb lenA builtinA storeA splice AV.cells AV.isCell sliceA boundA intA callOf indexAddrA newObjA buildA fillA zeroA ofCells buildSliceA indexA fieldA coinsC_at

/-- Objects that a call made for itself are forgotten; what it appended to stays. -/
theorem callsA_gcO {σ : St} {P : Program} {f : FuncId} {args : List AV} {Q Q' : AV → St → Prop} (k : CallsA P f args σ Q) (h : ∀ av σ0, Q av σ0 → GoneO σ σ0 ∧ Q' (av.gcO σ.objs.length) (σ.trimO σ0)) : CallsA P f args σ Q' := by
  intro G w vs R hS hl hr hK
  refine k G w vs R hS hl hr (fun v av σ0 G' w' hq hE hS' hv => ?_)
  obtain ⟨hg, hq'⟩ := h av σ0 hq
  obtain ⟨hE2, hS2⟩ := hS.trimO hS' hE hg
  exact hK v _ _ _ _ hq' hE2 hS2 (hv.gcO hE hS.tot)

theorem callsA_gcOI {σ : St} {P : Program} {f : FuncId} {args : List AV} {A : AV} {ι : Type} {Pi : ι → Prop} {τ : ι → St} (k : CallsA P f args σ (fun av σ' => ∃ i, Pi i ∧ av = A ∧ ∃ l, σ' = { τ i with objs := (τ i).objs ++ l }))
    (hA : A.gcO σ.objs.length = A) (hl : ∀ i, (τ i).objs.length = σ.objs.length) (hgl : ∀ i, (τ i).gl = σ.gl) (hkp : ∀ i, Kp σ.objs.length σ.objs (τ i).objs) (hkr : ∀ i, KpR σ.objs.length σ.rows (τ i).rows) : CallsA P f args σ (fun av σ' => av = A ∧ ∃ i, Pi i ∧ σ' = τ i) := by
  refine callsA_gcO k (fun av σ0 ⟨i, hi, hv, l, h⟩ => ?_)
  subst h hv
  refine ⟨gone_kp (hgl i) (kp_more (hkp i)) (hkr i), hA, i, hi, ?_⟩
  have := hl i
  simp [St.trimO, ← this]

/-! ### What a writer holds -/
def wrA (k : Nat) (l : List UInt8) : AV := if l = [] then .sl 0 [] 0 .full else .sl 1 (bytesA l) l.length (.own k)
def Tk (tk : List Nat) (k : Nat) (l : List UInt8) : Prop := l = [] ∨ tk[k]? = some l.length

/-- From one slice that is made to the next; what is said of others stands. -/
structure Wr (tk : List Nat) (k : Nat) (l : List UInt8) (tk' : List Nat) (k' : Nat) (l' : List UInt8) : Prop where
  tok : Tk tk' k' l'
  len : tk.length ≤ tk'.length
  keep : ∀ (j v : Nat), (l = [] ∨ j ≠ k) → tk[j]? = some v → tk'[j]? = some v
  own : l' = [] ∨ (k' = k ∧ l ≠ []) ∨ tk.length ≤ k'

theorem Wr.refl {tk : List Nat} {k : Nat} {l : List UInt8} (h : Tk tk k l) : Wr tk k l tk k l := ⟨h, Nat.le_refl _, fun _ _ _ h => h, by
  by_cases e : l = []
  · exact .inl e
  · exact .inr (.inl ⟨rfl, e⟩)⟩

theorem lt_get {l : List Nat} {i v : Nat} (h : l[i]? = some v) : i < l.length := (List.getElem?_eq_some_iff.1 h).1

theorem Wr.trans {tk tk1 tk2 : List Nat} {k k1 k2 : Nat} {l l1 l2 : List UInt8} (h : Wr tk k l tk1 k1 l1) (g : Wr tk1 k1 l1 tk2 k2 l2) : Wr tk k l tk2 k2 l2 := by
  refine ⟨g.tok, Nat.le_trans h.len g.len, fun j v hj hv => g.keep j v ?_ (h.keep j v hj hv), ?_⟩
  · have hlt := lt_get hv
    rcases h.own with e | ⟨e, e2⟩ | e
    · exact .inl e
    · rcases hj with hj | hj
      · exact absurd hj e2
      · exact .inr (by omega)
    · exact .inr (by omega)
  · rcases g.own with e | ⟨e, e2⟩ | e
    · exact .inl e
    · rcases h.own with e3 | ⟨e3, e4⟩ | e3
      · exact absurd e3 e2
      · exact .inr (.inl ⟨by omega, e4⟩)
      · exact .inr (.inr (by omega))
    · have := h.len
      exact .inr (.inr (by omega))

theorem Wr.other {tk tk' : List Nat} {k k' j : Nat} {l l' p : List UInt8} (h : Wr tk k l tk' k' l') (hp : Tk tk j p) (hd : p = [] ∨ l = [] ∨ j ≠ k) : Tk tk' j p ∧ (p = [] ∨ l' = [] ∨ j ≠ k') := by
  by_cases e : p = []
  · exact ⟨.inl e, .inl e⟩
  · have hp := hp.resolve_left e
    have hd := hd.resolve_left e
    refine ⟨.inr (h.keep j _ hd hp), .inr ?_⟩
    have hlt := lt_get hp
    rcases h.own with e1 | ⟨e1, e2⟩ | e1
    · exact .inl e1
    · have := hd.resolve_left e2
      exact .inr (by omega)
    · exact .inr (by omega)

theorem Wr.pre {tk tk' : List Nat} {k k' : Nat} {l' : List UInt8} (h : Wr tk k [] tk' k' l') : ∃ m, tk' = tk ++ m := by
  refine ⟨tk'.drop tk.length, ?_⟩
  refine List.ext_getElem? fun i => ?_
  by_cases hi : i < tk.length
  · rw [List.getElem?_append_left hi]
    rw [List.getElem?_eq_getElem hi]
    exact h.keep i _ (.inl rfl) (List.getElem?_eq_getElem hi)
  · rw [List.getElem?_append_right (by omega), List.getElem?_drop]
    congr 1; omega

theorem noObj_wrA' (n k : Nat) (l : List UInt8) : AV.noObj n (wrA k l) = true := by
  unfold wrA
  split <;> simp [noObjL, AV.noObj]
theorem noObj_wrA (n k : Nat) (l : List UInt8) : noObjL n [wrA k l] = true := by
  unfold wrA
  split <;> simp [noObjL, AV.noObj]

def WP (id : Nat) (σ : St) (k : Nat) (l q : List UInt8) : AV → St → Prop := fun av σ' => av = .ptr id 0 ∧ ∃ k' tk', Wr σ.toks k l tk' k' (l ++ q) ∧ σ' = { σ with objs := σ.objs.set id [wrA k' (l ++ q)], toks := tk' }

theorem lay_ok {σ : St} {id k : Nat} {l q : List UInt8} {tq : Tail} (h : σ.objs[id]? = some [wrA k l]) (ht : Tk σ.toks k l) (hne : l ++ q ≠ []) (hl : l.length ≤ 1000000) (hq : q.length ≤ 1000000) :
    CallsA Try.prog 36 [.ptr id 0, .sl 1 (bytesA q) q.length tq] σ (WP id σ k l q) := by
  by_cases e : l = []
  · subst e
    refine callsA_mono (lay_new (by simpa [wrA] using h) hq) (fun av σ' ⟨h1, h2⟩ => ⟨h1, σ.toks.length, σ.toks ++ [q.length], ⟨.inr ?_, ?_, fun j v _ hj => ?_, .inr (.inr (Nat.le_refl _))⟩, ?_⟩)
    · simp
    · simp
    · rw [List.getElem?_append_left (lt_get hj)]; exact hj
    · rw [h2]; simp at hne; simp [wrA, hne]
  · have hk := ht.resolve_left e
    refine callsA_mono (lay_more (by simpa [wrA, e] using h) hk hl hq) (fun av σ' ⟨h1, h2⟩ => ⟨h1, k, σ.toks.set k (l ++ q).length, ⟨.inr (set_self_of hk _), by simp, fun j v hj hv => ?_, .inr (.inl ⟨rfl, e⟩)⟩, ?_⟩)
    · rw [List.getElem?_set_ne (Ne.symm (hj.resolve_left e))]; exact hv
    · rw [h2]; simp [wrA, e]

attribute [local simp] undefA List.getElem?_cons_zero List.getElem?_cons_succ in
theorem wbyte_ok {σ : St} {id k : Nat} {l : List UInt8} {b : UInt8} (h : σ.objs[id]? = some [wrA k l]) (ht : Tk σ.toks k l) (hl : l.length ≤ 1000000) :
    CallsA Try.prog 13 [.ptr id 0, .v (.int .u8 b.toNat)] σ (WP id σ k l [b]) := by
  have hv : (Value.int IntKind.u8 0).cells.size = 1 := rfl
  refine callsA_body Try.func13 rfl rfl rfl ?_
  refine run_seq_k fun K1 hK1 => ?_
  refine run_region_k rfl fun J2 hJ2 => ?_
  repeat (first | simp [hv] | simp (disch := omega) only [wC, if_pos, if_neg])
  refine hJ2 _ _ ?_
  refine hK1 _ _ ?_
  refine run_seq_k fun K3 hK3 => ?_
  refine run_region_k rfl fun J4 hJ4 => ?_
  repeat (first | simp [hv] | simp (disch := omega) only [wC, if_pos, if_neg])
  refine runL_call' (b := true) (by first | rfl | (simp [hv, wantedA]; done)) rfl rfl (by first | rfl | (simp [hv, callOf]; done)) (by simp) (lay_ok (q := [b]) h ht (by simp) hl (by simp)) ?_
  rintro _ _ ⟨rfl, k1, tk1, hw1, rfl⟩
  repeat (first | simp [hv] | simp (disch := omega) only [wC, if_pos, if_neg])
  refine hJ4 _ _ ?_
  refine hK3 _ _ ?_
  refine run_ret ?_
  try simp only [Then, InBlock, NoGoto]
  refine answer_tmp rfl (.inr rfl) ?_
  exact ⟨rfl, k1, tk1, hw1, rfl⟩

attribute [local simp] undefA List.getElem?_cons_zero List.getElem?_cons_succ in
theorem wflag_ok {σ : St} {id k : Nat} {l : List UInt8} {b : Bool} (h : σ.objs[id]? = some [wrA k l]) (ht : Tk σ.toks k l) (hl : l.length ≤ 1000000) :
    CallsA Try.prog 27 [.ptr id 0, .v (.bool b)] σ (WP id σ k l [if b then 1 else 0]) := by
  have hv : (Value.int IntKind.u8 0).cells.size = 1 := rfl
  refine callsA_body Try.func27 rfl rfl rfl ?_
  refine run_seq_k fun K1 hK1 => ?_
  refine run_region_k rfl fun J2 hJ2 => ?_
  repeat (first | simp [hv] | simp (disch := omega) only [wC, if_pos, if_neg])
  refine hJ2 _ _ ?_
  refine hK1 _ _ ?_
  refine run_seq_k fun K3 hK3 => ?_
  refine run_seq_k fun K4 hK4 => ?_
  refine run_region_k rfl fun J5 hJ5 => ?_
  repeat (first | simp [hv] | simp (disch := omega) only [wC, if_pos, if_neg])
  refine hJ5 _ _ ?_
  refine hK4 _ _ ?_
  refine run_cond_split (by first | rfl | (simp [hv, evalA]; done)) (fun c5 => ?_) (fun c5 => ?_)
  · try (exfalso; have gq := c5; simp [hv] at gq; first | done | omega)
    all_goals
     have c5p := c5
     try simp [hv] at c5p
     all_goals (first | (have gq := c5p; skip) | have c5p : True := True.intro)
     all_goals
      refine run_seq_k fun K6 hK6 => ?_
      refine run_region_k rfl fun J7 hJ7 => ?_
      repeat (first | simp [hv, c5, c5p] | simp (disch := omega) only [wC, if_pos, if_neg])
      refine runL_call' (b := true) (by first | rfl | (simp [hv, c5, c5p, wantedA]; done)) rfl rfl (by first | rfl | (simp [hv, c5, c5p, callOf]; done)) (by simp) (lay_ok (q := [1]) h ht (by simp) hl (by simp)) ?_
      rintro _ _ ⟨rfl, k1, tk1, hw1, rfl⟩
      repeat (first | simp [hv, c5, c5p] | simp (disch := omega) only [wC, if_pos, if_neg])
      refine hJ7 _ _ ?_
      refine hK6 _ _ ?_
      refine run_ret ?_
      try simp only [Then, InBlock, NoGoto]
      refine answer_tmp rfl (.inr rfl) ?_
      have e : b = true := (by simpa using c5)
      subst e
      exact ⟨rfl, k1, tk1, hw1, rfl⟩
  · try (exfalso; have gq := c5; simp [hv] at gq; first | done | omega)
    all_goals
     have c5p := c5
     try simp [hv] at c5p
     all_goals (first | (have gq := c5p; skip) | have c5p : True := True.intro)
     all_goals
      refine run_skip ?_
      refine hK3 _ _ ?_
      refine run_seq_k fun K8 hK8 => ?_
      refine run_region_k rfl fun J9 hJ9 => ?_
      repeat (first | simp [hv, c5, c5p] | simp (disch := omega) only [wC, if_pos, if_neg])
      refine runL_call' (b := true) (by first | rfl | (simp [hv, c5, c5p, wantedA]; done)) rfl rfl (by first | rfl | (simp [hv, c5, c5p, callOf]; done)) (by simp) (lay_ok (q := [0]) h ht (by simp) hl (by simp)) ?_
      rintro _ _ ⟨rfl, k1, tk1, hw1, rfl⟩
      repeat (first | simp [hv, c5, c5p] | simp (disch := omega) only [wC, if_pos, if_neg])
      refine hJ9 _ _ ?_
      refine hK8 _ _ ?_
      refine run_ret ?_
      try simp only [Then, InBlock, NoGoto]
      refine answer_tmp rfl (.inr rfl) ?_
      have e : b = false := (by simpa using c5)
      subst e
      exact ⟨rfl, k1, tk1, hw1, rfl⟩

def encN (x : Nat) : List UInt8 := UInt8.ofNat (natBytes x).length :: natBytes x

attribute [local simp] undefA List.getElem?_cons_zero List.getElem?_cons_succ in
theorem wnum_ok {σ : St} {id k x : Nat} {l : List UInt8} (h : σ.objs[id]? = some [wrA k l]) (ht : Tk σ.toks k l) (hx : x < 2 ^ 256) (hl : l.length ≤ 900000) :
    CallsA Try.prog 30 [.ptr id 0, .agg (numA x)] σ (WP id σ k l (encN x)) := by
  have hlt := lt_of_get h
  refine callsA_mono (callsA_gcOI (A := .ptr id 0) (Pi := fun i : Nat × List Nat => Wr σ.toks k l i.2 i.1 (l ++ encN x)) (τ := fun i => { σ with objs := σ.objs.set id [wrA i.1 (l ++ encN x)], toks := i.2 }) ?_ (by simp [AV.gcO, hlt]) (fun _ => by simp) (fun _ => rfl) (fun _ => kp_set (kp_refl _) (noObj_wrA _ _ _)) (fun _ => kpr_refl _)) (fun av σ' ⟨h1, i, h2, h3⟩ => ⟨h1, i.1, i.2, h2, h3⟩)
  have hs := set_self_of h
  have hlen : (natBytes x).length ≤ 32 := natBytes_len x 32 (by simpa using hx)
  obtain ⟨c, hc⟩ : ∃ c, c = UInt8.ofNat (natBytes x).length := ⟨_, rfl⟩
  have hcn : c.toNat = (natBytes x).length := by rw [hc]; exact toNat_ofNat (by omega)
  have hw : IntKind.u8.wrap ((natBytes x).length : Int) = (c.toNat : Int) := by rw [wrap_u8, hcn, Nat.mod_eq_of_lt (by omega)]
  have ho1 : ∀ r, (σ.objs ++ r)[id]? = some [wrA k l] := fun r => by rw [List.getElem?_append_left hlt]; exact h
  have ho2 : ∀ x r, (σ.objs.set id x ++ r)[id]? = some x := fun x r => by rw [List.getElem?_append_left (by simpa using hlt)]; exact hs x
  have ho3 : ∀ x r, (σ.objs ++ r).set id x = σ.objs.set id x ++ r := fun x r => List.set_append_left _ _ hlt
  have ho4 : ∀ x y r, (σ.objs.set id y ++ r).set id x = σ.objs.set id x ++ r := fun x y r => by rw [List.set_append_left _ _ (by simpa using hlt), List.set_set]
  have hv : (Value.int IntKind.u8 0).cells.size = 1 := rfl
  refine callsA_body Try.func30 rfl rfl rfl ?_
  refine run_seq_k fun K1 hK1 => ?_
  refine run_region_k rfl fun J2 hJ2 => ?_
  repeat (first | simp [hw, hv, ho1, ho2, ho3, ho4] | simp (disch := omega) only [wC, if_pos, if_neg])
  refine hJ2 _ _ ?_
  refine hK1 _ _ ?_
  refine run_seq_k fun K3 hK3 => ?_
  refine run_region_k rfl fun J4 hJ4 => ?_
  repeat (first | simp [hw, hv, ho1, ho2, ho3, ho4] | simp (disch := omega) only [wC, if_pos, if_neg])
  refine runL_call' (b := true) (by first | rfl | (simp [hw, hv, ho1, ho2, ho3, ho4, wantedA]; done)) rfl rfl (by first | rfl | (simp [hw, hv, ho1, ho2, ho3, ho4, callOf]; done)) (by simp) (bytes_ok hx) ?_
  rintro _ _ ⟨rfl, rfl⟩
  repeat (first | simp [hw, hv, ho1, ho2, ho3, ho4] | simp (disch := omega) only [wC, if_pos, if_neg])
  refine hJ4 _ _ ?_
  refine hK3 _ _ ?_
  refine run_seq_k fun K5 hK5 => ?_
  refine run_region_k rfl fun J6 hJ6 => ?_
  repeat (first | simp [hw, hv, ho1, ho2, ho3, ho4] | simp (disch := omega) only [wC, if_pos, if_neg])
  refine runL_call' (b := true) (by first | rfl | (simp [hw, hv, ho1, ho2, ho3, ho4, wantedA]; done)) rfl rfl (by first | rfl | (simp [hw, hv, ho1, ho2, ho3, ho4, callOf]; done)) (by simp) (lay_ok (q := [c]) (ho1 _) ht (by simp) (by omega) (by simp)) ?_
  rintro _ _ ⟨rfl, k1, tk1, hw1, rfl⟩
  repeat (first | simp [hw, hv, ho1, ho2, ho3, ho4] | simp (disch := omega) only [wC, if_pos, if_neg])
  refine runL_call' (b := true) (by first | rfl | (simp [hw, hv, ho1, ho2, ho3, ho4, wantedA]; done)) rfl rfl (by first | rfl | (simp [hw, hv, ho1, ho2, ho3, ho4, callOf]; done)) (by simp) (lay_ok (l := l ++ [c]) (k := k1) (ho2 _ _) hw1.tok (by simp) (by simp; omega) (by omega)) ?_
  rintro _ _ ⟨rfl, k2, tk2, hw2, rfl⟩
  repeat (first | simp [hw, hv, ho1, ho2, ho3, ho4] | simp (disch := omega) only [wC, if_pos, if_neg])
  refine hJ6 _ _ ?_
  refine hK5 _ _ ?_
  refine run_ret ?_
  try simp only [Then, InBlock, NoGoto]
  refine answer_tmp rfl (.inr rfl) ?_
  have e : l ++ [c] ++ natBytes x = l ++ encN x := (by simp [encN, hc])
  rw [e] at hw2
  have e2 : c :: natBytes x = encN x := (by simp [encN, hc])
  simp only [e2]
  exact ⟨(k2, tk2), hw1.trans hw2, rfl, _, rfl⟩

/-- A number's bytes, size of them, the highest one ahead. -/
def nBytes (size n : Nat) : List UInt8 := (List.range size).map fun j => UInt8.ofNat (n / 2 ^ (8 * (size - 1 - j)) % 256)
theorem nBytes_len (size n : Nat) : (nBytes size n).length = size := by simp [nBytes]

structure WSt where
  j : Nat
  k : Nat
  tk : List Nat

attribute [local simp] undefA List.getElem?_cons_zero List.getElem?_cons_succ in
theorem wnumber_ok {σ : St} {id k n size : Nat} {l : List UInt8} (h : σ.objs[id]? = some [wrA k l]) (ht : Tk σ.toks k l) (hn : n < 2 ^ 64) (hsz : size ≤ 8) (hl : l.length ≤ 900000) :
    CallsA Try.prog 51 [.ptr id 0, .v (.int .u64 n), .v (.int .i64 size)] σ (WP id σ k l (nBytes size n)) := by
  have hs := set_self_of h
  have hs0 := St.set_same h
  have hv : (Value.int IntKind.u8 0).cells.size = 1 := rfl
  refine callsA_body Try.func51 rfl rfl rfl ?_
  refine run_seq_k fun K1 hK1 => ?_
  refine run_region_k rfl fun J2 hJ2 => ?_
  repeat (first | simp [hv] | simp (disch := omega) only [wC, if_pos, if_neg])
  refine hJ2 _ _ ?_
  refine hK1 _ _ ?_
  refine run_seq_k fun K3 hK3 => ?_
  refine run_seq_k fun K4 hK4 => ?_
  refine run_region_k rfl fun J5 hJ5 => ?_
  repeat (first | simp [hv] | simp (disch := omega) only [wC, if_pos, if_neg])
  refine hJ5 _ _ ?_
  refine hK4 _ _ ?_
  refine run_block_k ?_
  refine run_loopF (X := WSt) [1, 6] (fun q ρ σ1 => (q.j ≤ size) ∧ (Wr σ.toks k l q.tk q.k (l ++ (nBytes size n).take q.j)) ∧ (ρ 0 = .ptr id 0) ∧ (ρ 7 = .v (.int .i64 ((size : Int) - 1 - q.j))) ∧ (σ1 = { σ with objs := σ.objs.set id [wrA q.k (l ++ (nBytes size n).take q.j)], toks := q.tk })) (fun q => size - q.j) (⟨0, k, σ.toks⟩) ?st1 ?rd1
  case st1 =>
    refine ⟨?_, ?_, ?_, ?_, ?_⟩
    · first | rfl | omega | assumption | ((repeat (first | simp [hv] | simp (disch := omega) only [wC, if_pos, if_neg])); first | done | omega) | (simp only [putA_get]; (repeat (first | simp (disch := omega) only [wC, if_pos, if_neg] | simp [hv])); done)
    · simpa using Wr.refl ht
    · first | rfl | omega | assumption | ((repeat (first | simp [hv] | simp (disch := omega) only [wC, if_pos, if_neg])); first | done | omega) | (simp only [putA_get]; (repeat (first | simp (disch := omega) only [wC, if_pos, if_neg] | simp [hv])); done)
    · first | rfl | omega | assumption | ((repeat (first | simp [hv] | simp (disch := omega) only [wC, if_pos, if_neg])); first | done | omega) | (simp only [putA_get]; (repeat (first | simp (disch := omega) only [wC, if_pos, if_neg] | simp [hv])); done)
    · simpa using hs0.symm
  case rd1 =>
    rintro q ρ1 σ1 hF1 ⟨hj, hw, h0, h7, hσ⟩
    obtain rfl := hσ.symm
    have f1_1 := hF1 1 (by decide)
    try simp [hv] at f1_1
    have f1_6 := hF1 6 (by decide)
    try simp [hv] at f1_6
    refine run_seq_k fun K6 hK6 => ?_
    refine run_seq_k fun K7 hK7 => ?_
    refine run_region_k rfl fun J8 hJ8 => ?_
    repeat (first | simp [hv, h0, h7, f1_1, f1_6] | simp (disch := omega) only [wC, if_pos, if_neg])
    refine hJ8 _ _ ?_
    refine hK7 _ _ ?_
    refine run_cond_split (by first | rfl | (simp [hv, h0, h7, f1_1, f1_6, evalA]; done)) (fun c11 => ?_) (fun c11 => ?_)
    · try (exfalso; have gq := c11; simp [hv, h0, h7, f1_1, f1_6] at gq; first | done | omega)
      all_goals
       have c11p := c11
       try simp [hv, h0, h7, f1_1, f1_6] at c11p
       all_goals (first | (have gq := c11p; skip) | have c11p : True := True.intro)
       all_goals
        refine run_skip ?_
        refine hK6 _ _ ?_
        refine run_seq_k fun K9 hK9 => ?_
        refine run_block_k ?_
        obtain ⟨i, hi⟩ : ∃ i, i = size - 1 - q.j := ⟨_, rfl⟩
        have he : (size : Int) - 1 - q.j = (i : Int) := by omega
        have hi8 : i < 8 := by omega
        obtain ⟨b, hb⟩ : ∃ b, b = UInt8.ofNat (n / 2 ^ (8 * i) % 256) := ⟨_, rfl⟩
        have hbn : b.toNat = n / 2 ^ (8 * i) % 256 := by rw [hb]; exact toNat_ofNat (by omega)
        have hnx : (nBytes size n).take (q.j + 1) = (nBytes size n).take q.j ++ [b] := by rw [take_snoc (by rw [nBytes_len]; omega)]; simp [nBytes, hb, hi]
        have htl : ((nBytes size n).take q.j).length ≤ 8 := by simp [nBytes_len]; omega
        have hnn : ¬ 8 * (i : Int) < 0 := by omega
        have hsh : Int.fdiv (n : Int) (2 ^ (min (8 * (i : Int)).toNat 64)) = ((n / 2 ^ (8 * i) : Nat) : Int) := by rw [show min (8 * (i : Int)).toNat 64 = 8 * i by omega, Int.fdiv_eq_ediv_of_nonneg _ (by exact Int.le_of_lt (Int.pow_pos (by omega)))]; simp
        have hcv : IntKind.u8.wrap ((n / 2 ^ (8 * i) : Nat) : Int) = (b.toNat : Int) := by rw [wrap_u8, hbn]
        generalize n / 2 ^ (8 * i) = z at *
        refine run_region_k rfl fun J10 hJ10 => ?_
        repeat (first | simp [hv, h0, h7, f1_1, f1_6, c11, c11p, he, hnn, hsh, hcv] | simp (disch := omega) only [wC, if_pos, if_neg])
        refine runL_call' (b := true) (by first | rfl | (simp [hv, h0, h7, f1_1, f1_6, c11, c11p, he, hnn, hsh, hcv, wantedA]; done)) rfl rfl (by first | rfl | (simp [hv, h0, h7, f1_1, f1_6, c11, c11p, he, hnn, hsh, hcv, callOf]; done)) (by simp) (lay_ok (q := [b]) (hs _) hw.tok (by simp) (by simp; omega) (by simp)) ?_
        rintro _ _ ⟨rfl, k1, tk1, hw1, rfl⟩
        repeat (first | simp [hv, h0, h7, f1_1, f1_6, c11, c11p, he, hnn, hsh, hcv] | simp (disch := omega) only [wC, if_pos, if_neg])
        refine hJ10 _ _ ?_
        refine hK9 _ _ ?_
        refine run_region_k rfl fun J11 hJ11 => ?_
        repeat (first | simp [hv, h0, h7, f1_1, f1_6, c11, c11p, he, hnn, hsh, hcv] | simp (disch := omega) only [wC, if_pos, if_neg])
        refine hJ11 _ _ ?_
        refine ⟨(⟨q.j + 1, k1, tk1⟩), ⟨?_, ?_, ?_, ?_, ?_, ?_⟩, ?_⟩
        · (intro r hr; simp only [List.mem_cons, List.not_mem_nil, or_false] at hr; rcases hr with rfl | rfl <;> first | rfl | (simp [hv, h0, h7, f1_1, f1_6, c11, c11p, he, hnn, hsh, hcv]; done))
        · first | rfl | omega | assumption | ((repeat (first | simp [hv, h0, h7, f1_1, f1_6, c11, c11p, he, hnn, hsh, hcv] | simp (disch := omega) only [wC, if_pos, if_neg])); first | done | omega) | (simp only [putA_get]; (repeat (first | simp (disch := omega) only [wC, if_pos, if_neg] | simp [hv, h0, h7, f1_1, f1_6, c11, c11p, he, hnn, hsh, hcv])); done)
        · have hq2 := hw.trans hw1
          rw [List.append_assoc, ← hnx] at hq2
          exact hq2
        · first | rfl | omega | assumption | ((repeat (first | simp [hv, h0, h7, f1_1, f1_6, c11, c11p, he, hnn, hsh, hcv] | simp (disch := omega) only [wC, if_pos, if_neg])); first | done | omega) | (simp only [putA_get]; (repeat (first | simp (disch := omega) only [wC, if_pos, if_neg] | simp [hv, h0, h7, f1_1, f1_6, c11, c11p, he, hnn, hsh, hcv])); done)
        · simp
          omega
        · simp [hnx]
        · first | rfl | omega | assumption | ((repeat (first | simp [hv, h0, h7, f1_1, f1_6, c11, c11p, he, hnn, hsh, hcv] | simp (disch := omega) only [wC, if_pos, if_neg])); first | done | omega) | (simp only [putA_get]; (repeat (first | simp (disch := omega) only [wC, if_pos, if_neg] | simp [hv, h0, h7, f1_1, f1_6, c11, c11p, he, hnn, hsh, hcv])); done)
    · try (exfalso; have gq := c11; simp [hv, h0, h7, f1_1, f1_6] at gq; first | done | omega)
      all_goals
       have c11p := c11
       try simp [hv, h0, h7, f1_1, f1_6] at c11p
       all_goals (first | (have gq := c11p; skip) | have c11p : True := True.intro)
       all_goals
        refine run_exit ?_
        refine hK3 _ _ ?_
        refine run_seq_k fun K12 hK12 => ?_
        refine run_region_k rfl fun J13 hJ13 => ?_
        repeat (first | simp [hv, h0, h7, f1_1, f1_6, c11, c11p] | simp (disch := omega) only [wC, if_pos, if_neg])
        refine hJ13 _ _ ?_
        refine hK12 _ _ ?_
        refine run_ret ?_
        try simp only [Then, InBlock, NoGoto]
        refine answer_tmp rfl (.inr rfl) ?_
        have hfull : (nBytes size n).take q.j = nBytes size n := List.take_of_length_le (by rw [nBytes_len]; simp at c11; omega)
        rw [hfull] at hw
        rw [hfull]
        exact ⟨by simp [hv, h0, h7, f1_1, f1_6, c11, c11p], q.k, q.tk, hw, rfl⟩

attribute [local simp] undefA List.getElem?_cons_zero List.getElem?_cons_succ in
theorem wshort_ok {σ : St} {id k n : Nat} {l : List UInt8} (h : σ.objs[id]? = some [wrA k l]) (ht : Tk σ.toks k l) (hn : n < 2 ^ 16) (hl : l.length ≤ 900000) :
    CallsA Try.prog 28 [.ptr id 0, .v (.int .u16 n)] σ (WP id σ k l (nBytes 2 n)) := by
  refine callsA_body Try.func28 rfl rfl rfl ?_
  refine run_seq_k fun K1 hK1 => ?_
  refine run_region_k rfl fun J2 hJ2 => ?_
  repeat (first | simp | simp (disch := omega) only [wC, if_pos, if_neg])
  refine hJ2 _ _ ?_
  refine hK1 _ _ ?_
  refine run_seq_k fun K3 hK3 => ?_
  refine run_region_k rfl fun J4 hJ4 => ?_
  repeat (first | simp | simp (disch := omega) only [wC, if_pos, if_neg])
  refine runL_call' (b := true) (by first | rfl | (simp [wantedA]; done)) rfl rfl (by first | rfl | (simp [callOf]; done)) (by simp) (wnumber_ok (size := 2) h ht (by omega) (by omega) hl) ?_
  rintro _ _ ⟨rfl, k1, tk1, hw1, rfl⟩
  repeat (first | simp | simp (disch := omega) only [wC, if_pos, if_neg])
  refine hJ4 _ _ ?_
  refine hK3 _ _ ?_
  refine run_ret ?_
  try simp only [Then, InBlock, NoGoto]
  refine answer_tmp rfl (.inr rfl) ?_
  exact ⟨rfl, k1, tk1, hw1, rfl⟩

attribute [local simp] undefA List.getElem?_cons_zero List.getElem?_cons_succ in
theorem wlong_ok {σ : St} {id k n : Nat} {l : List UInt8} (h : σ.objs[id]? = some [wrA k l]) (ht : Tk σ.toks k l) (hn : n < 2 ^ 64) (hl : l.length ≤ 900000) :
    CallsA Try.prog 29 [.ptr id 0, .v (.int .u64 n)] σ (WP id σ k l (nBytes 8 n)) := by
  refine callsA_body Try.func29 rfl rfl rfl ?_
  refine run_seq_k fun K1 hK1 => ?_
  refine run_region_k rfl fun J2 hJ2 => ?_
  repeat (first | simp | simp (disch := omega) only [wC, if_pos, if_neg])
  refine hJ2 _ _ ?_
  refine hK1 _ _ ?_
  refine run_seq_k fun K3 hK3 => ?_
  refine run_region_k rfl fun J4 hJ4 => ?_
  repeat (first | simp | simp (disch := omega) only [wC, if_pos, if_neg])
  refine runL_call' (b := true) (by first | rfl | (simp [wantedA]; done)) rfl rfl (by first | rfl | (simp [callOf]; done)) (by simp) (wnumber_ok (size := 8) h ht hn (by omega) hl) ?_
  rintro _ _ ⟨rfl, k1, tk1, hw1, rfl⟩
  repeat (first | simp | simp (disch := omega) only [wC, if_pos, if_neg])
  refine hJ4 _ _ ?_
  refine hK3 _ _ ?_
  refine run_ret ?_
  try simp only [Then, InBlock, NoGoto]
  refine answer_tmp rfl (.inr rfl) ?_
  exact ⟨rfl, k1, tk1, hw1, rfl⟩

def encC (c : Coin) : List UInt8 := c.d :: encN c.n.v
def encCs (l : List Coin) : List UInt8 := l.flatMap encC
def encL (l : List Coin) : List UInt8 := UInt8.ofNat l.length :: encCs l

theorem encC_len (c : Coin) : (encC c).length ≤ 34 := by
  have := natBytes_len c.n.v 32 (by simpa using c.n.h)
  simp [encC, encN]; omega
theorem encCs_len : ∀ l : List Coin, (encCs l).length ≤ 34 * l.length
  | [] => by simp [encCs]
  | c :: l => by
    have h1 := encC_len c
    have h2 := encCs_len l
    simp [encCs] at h2 ⊢
    omega
theorem encCs_snoc (l : List Coin) (c : Coin) : encCs (l ++ [c]) = encCs l ++ encC c := by simp [encCs]

attribute [local simp] undefA List.getElem?_cons_zero List.getElem?_cons_succ in
theorem wcoins_ok {σ : St} {id k : Nat} {l : List UInt8} {L : List Coin} {tL : Tail} (h : σ.objs[id]? = some [wrA k l]) (ht : Tk σ.toks k l) (hL : L.length ≤ 255) (hl : l.length ≤ 500000) :
    CallsA Try.prog 20 [.ptr id 0, .sl 5 (coinsC L) L.length tL] σ (WP id σ k l (encL L)) := by
  have hlt := lt_of_get h
  refine callsA_mono (callsA_gcOI (A := .ptr id 0) (Pi := fun i : Nat × List Nat => Wr σ.toks k l i.2 i.1 (l ++ encL L)) (τ := fun i => { σ with objs := σ.objs.set id [wrA i.1 (l ++ encL L)], toks := i.2 }) ?_ (by simp [AV.gcO, hlt]) (fun _ => by simp) (fun _ => rfl) (fun _ => kp_set (kp_refl _) (noObj_wrA _ _ _)) (fun _ => kpr_refl _)) (fun av σ' ⟨h1, i, h2, h3⟩ => ⟨h1, i.1, i.2, h2, h3⟩)
  have hs := set_self_of h
  obtain ⟨c, hc⟩ : ∃ c, c = UInt8.ofNat L.length := ⟨_, rfl⟩
  have hcn : c.toNat = L.length := by rw [hc]; exact toNat_ofNat (by omega)
  have hw : IntKind.u8.wrap (L.length : Int) = (c.toNat : Int) := by rw [wrap_u8, hcn, Nat.mod_eq_of_lt (by omega)]
  have ho1 : ∀ r, (σ.objs ++ r)[id]? = some [wrA k l] := fun r => by rw [List.getElem?_append_left hlt]; exact h
  have ho2 : ∀ x r, (σ.objs.set id x ++ r)[id]? = some x := fun x r => by rw [List.getElem?_append_left (by simpa using hlt)]; exact hs x
  have ho3 : ∀ x r, (σ.objs ++ r).set id x = σ.objs.set id x ++ r := fun x r => List.set_append_left _ _ hlt
  have ho4 : ∀ x y r, (σ.objs.set id y ++ r).set id x = σ.objs.set id x ++ r := fun x y r => by rw [List.set_append_left _ _ (by simpa using hlt), List.set_set]
  have hv : (Value.int IntKind.u8 0).cells.size = 1 := rfl
  refine callsA_body Try.func20 rfl rfl rfl ?_
  refine run_seq_k fun K1 hK1 => ?_
  refine run_region_k rfl fun J2 hJ2 => ?_
  repeat (first | simp [hw, hv, ho1, ho2, ho3, ho4, noObj_wrA, noObj_wrA', hlt, coinC] | simp (disch := omega) only [wC, if_pos, if_neg])
  refine hJ2 _ _ ?_
  refine hK1 _ _ ?_
  refine run_seq_k fun K3 hK3 => ?_
  refine run_region_k rfl fun J4 hJ4 => ?_
  repeat (first | simp [hw, hv, ho1, ho2, ho3, ho4, noObj_wrA, noObj_wrA', hlt, coinC] | simp (disch := omega) only [wC, if_pos, if_neg])
  refine runL_call' (b := true) (by first | rfl | (simp [hw, hv, ho1, ho2, ho3, ho4, noObj_wrA, noObj_wrA', hlt, coinC, wantedA]; done)) rfl rfl (by first | rfl | (simp [hw, hv, ho1, ho2, ho3, ho4, noObj_wrA, noObj_wrA', hlt, coinC, callOf]; done)) (by simp) (lay_ok (q := [c]) h ht (by simp) (by omega) (by simp)) ?_
  rintro _ _ ⟨rfl, k1, tk1, hw1, rfl⟩
  repeat (first | simp [hw, hv, ho1, ho2, ho3, ho4, noObj_wrA, noObj_wrA', hlt, coinC] | simp (disch := omega) only [wC, if_pos, if_neg])
  refine hJ4 _ _ ?_
  refine hK3 _ _ ?_
  refine run_seq_k fun K5 hK5 => ?_
  refine run_seq_k fun K6 hK6 => ?_
  refine run_region_k rfl fun J7 hJ7 => ?_
  repeat (first | simp [hw, hv, ho1, ho2, ho3, ho4, noObj_wrA, noObj_wrA', hlt, coinC] | simp (disch := omega) only [wC, if_pos, if_neg])
  refine hJ7 _ _ ?_
  refine hK6 _ _ ?_
  refine run_block_k ?_
  refine run_loopG (X := WSt) [4, 13, 14] (fun q ρ σ1 => (q.j ≤ L.length) ∧ (Wr σ.toks k l q.tk q.k (l ++ c :: encCs (L.take q.j))) ∧ (ρ 0 = .ptr id 0) ∧ (ρ 15 = .v (.int .i64 q.j)) ∧ (σ1 = { σ with objs := σ.objs.set id [wrA q.k (l ++ c :: encCs (L.take q.j))], toks := q.tk })) (fun q => L.length - q.j) (⟨0, k1, tk1⟩) ?st1 ?rd1
  case st1 =>
    refine ⟨?_, ?_, ?_, ?_, ?_⟩
    · first | rfl | omega | assumption | ((repeat (first | simp [hw, hv, ho1, ho2, ho3, ho4, noObj_wrA, noObj_wrA', hlt, coinC] | simp (disch := omega) only [wC, if_pos, if_neg])); first | done | omega) | (simp only [putA_get]; (repeat (first | simp (disch := omega) only [wC, if_pos, if_neg] | simp [hw, hv, ho1, ho2, ho3, ho4, noObj_wrA, noObj_wrA', hlt, coinC])); done)
    · simpa [encCs] using hw1
    · first | rfl | omega | assumption | ((repeat (first | simp [hw, hv, ho1, ho2, ho3, ho4, noObj_wrA, noObj_wrA', hlt, coinC] | simp (disch := omega) only [wC, if_pos, if_neg])); first | done | omega) | (simp only [putA_get]; (repeat (first | simp (disch := omega) only [wC, if_pos, if_neg] | simp [hw, hv, ho1, ho2, ho3, ho4, noObj_wrA, noObj_wrA', hlt, coinC])); done)
    · first | rfl | omega | assumption | ((repeat (first | simp [hw, hv, ho1, ho2, ho3, ho4, noObj_wrA, noObj_wrA', hlt, coinC] | simp (disch := omega) only [wC, if_pos, if_neg])); first | done | omega) | (simp only [putA_get]; (repeat (first | simp (disch := omega) only [wC, if_pos, if_neg] | simp [hw, hv, ho1, ho2, ho3, ho4, noObj_wrA, noObj_wrA', hlt, coinC])); done)
    · simp [encCs]
  case rd1 =>
    rintro q ρ1 σ1 hF1 ⟨hj, hq, h0, h15, hσ⟩
    obtain rfl := hσ.symm
    have f1_4 := hF1 4 (by decide)
    try simp [hw, hv, ho1, ho2, ho3, ho4, noObj_wrA, noObj_wrA', hlt, coinC] at f1_4
    have f1_13 := hF1 13 (by decide)
    try simp [hw, hv, ho1, ho2, ho3, ho4, noObj_wrA, noObj_wrA', hlt, coinC] at f1_13
    have f1_14 := hF1 14 (by decide)
    try simp [hw, hv, ho1, ho2, ho3, ho4, noObj_wrA, noObj_wrA', hlt, coinC] at f1_14
    refine run_seq_k fun K8 hK8 => ?_
    refine run_region_k rfl fun J9 hJ9 => ?_
    repeat (first | simp [hw, hv, ho1, ho2, ho3, ho4, noObj_wrA, noObj_wrA', hlt, coinC, h0, h15, f1_4, f1_13, f1_14] | simp (disch := omega) only [wC, if_pos, if_neg])
    refine hJ9 _ _ ?_
    refine hK8 _ _ ?_
    refine run_seq_k fun K10 hK10 => ?_
    refine run_cond_split (by first | rfl | (simp [hw, hv, ho1, ho2, ho3, ho4, noObj_wrA, noObj_wrA', hlt, coinC, h0, h15, f1_4, f1_13, f1_14, evalA]; done)) (fun c16 => ?_) (fun c16 => ?_)
    · try (exfalso; have gq := c16; simp [hw, hv, ho1, ho2, ho3, ho4, noObj_wrA, noObj_wrA', hlt, coinC, h0, h15, f1_4, f1_13, f1_14] at gq; first | done | omega)
      all_goals
       have c16p := c16
       try simp [hw, hv, ho1, ho2, ho3, ho4, noObj_wrA, noObj_wrA', hlt, coinC, h0, h15, f1_4, f1_13, f1_14] at c16p
       all_goals (first | (have gq := c16p; skip) | have c16p : True := True.intro)
       all_goals
        refine run_skip ?_
        refine hK10 _ _ ?_
        refine run_seq_k fun K11 hK11 => ?_
        refine run_block_k ?_
        refine run_seq_k fun K12 hK12 => ?_
        refine run_region_k rfl fun J13 hJ13 => ?_
        repeat (first | simp [hw, hv, ho1, ho2, ho3, ho4, noObj_wrA, noObj_wrA', hlt, coinC, h0, h15, f1_4, f1_13, f1_14, c16, c16p] | simp (disch := omega) only [wC, if_pos, if_neg])
        refine hJ13 _ _ ?_
        refine hK12 _ _ ?_
        have hel := encCs_len (L.take q.j)
        have htl : (L.take q.j).length ≤ 255 := by simp; omega
        refine run_draw (by kernel_rfl) fun J14 hJ14 => ?_
        refine rp 0 rfl rfl (by kernel_rfl) ?_
        repeat (first | simp [hw, hv, ho1, ho2, ho3, ho4, noObj_wrA, noObj_wrA', hlt, coinC, h0, h15, f1_4, f1_13, f1_14, c16, c16p] | simp (disch := omega) only [wC, if_pos, if_neg])
        refine rp 1 rfl rfl (by kernel_rfl) ?_
        repeat (first | simp [hw, hv, ho1, ho2, ho3, ho4, noObj_wrA, noObj_wrA', hlt, coinC, h0, h15, f1_4, f1_13, f1_14, c16, c16p] | simp (disch := omega) only [wC, if_pos, if_neg])
        refine rp 2 rfl rfl (by kernel_rfl) ?_
        repeat (first | simp [hw, hv, ho1, ho2, ho3, ho4, noObj_wrA, noObj_wrA', hlt, coinC, h0, h15, f1_4, f1_13, f1_14, c16, c16p] | simp (disch := omega) only [wC, if_pos, if_neg])
        refine rp 3 rfl rfl (by kernel_rfl) ?_
        repeat (first | simp [hw, hv, ho1, ho2, ho3, ho4, noObj_wrA, noObj_wrA', hlt, coinC, h0, h15, f1_4, f1_13, f1_14, c16, c16p] | simp (disch := omega) only [wC, if_pos, if_neg])
        refine rp 5 rfl rfl (by kernel_rfl) ?_
        repeat (first | simp [hw, hv, ho1, ho2, ho3, ho4, noObj_wrA, noObj_wrA', hlt, coinC, h0, h15, f1_4, f1_13, f1_14, c16, c16p] | simp (disch := omega) only [wC, if_pos, if_neg])
        refine rp 6 rfl rfl (by kernel_rfl) ?_
        repeat (first | simp [hw, hv, ho1, ho2, ho3, ho4, noObj_wrA, noObj_wrA', hlt, coinC, h0, h15, f1_4, f1_13, f1_14, c16, c16p] | simp (disch := omega) only [wC, if_pos, if_neg])
        refine runD_call 4 (by kernel_rfl) (by kernel_rfl) (by kernel_rfl) rfl (by kernel_rfl) (by kernel_rfl) (by kernel_rfl) (by first | rfl | (simp [hw, hv, ho1, ho2, ho3, ho4, noObj_wrA, noObj_wrA', hlt, coinC, h0, h15, f1_4, f1_13, f1_14, c16, c16p]; done)) (by first | rfl | (simp [hw, hv, ho1, ho2, ho3, ho4, noObj_wrA, noObj_wrA', hlt, coinC, h0, h15, f1_4, f1_13, f1_14, c16, c16p]; done)) (by simp) (lay_ok (l := l ++ c :: encCs (L.take q.j)) (q := [L[q.j].d]) (ho2 _ _) hq.tok (by simp) (by simp; omega) (by simp)) ?_
        rintro _ _ ⟨rfl, k2, tk2, hw2, rfl⟩
        refine ⟨by first | exact fun _ _ h => h | (refine later_list [6, 5, 2, 1] (by kernel_rfl) (List.forall_mem_cons.2 ⟨fun _ => fact2 rfl rfl ?_, List.forall_mem_cons.2 ⟨fun _ => fact2 rfl rfl ?_, List.forall_mem_cons.2 ⟨fun _ => fact2 rfl rfl ?_, List.forall_mem_cons.2 ⟨fun _ => fact2 rfl rfl ?_, fun _ h => absurd h List.not_mem_nil⟩⟩⟩⟩) <;> constructor <;> first | rfl | (simp [hw, hv, ho1, ho2, ho3, ho4, noObj_wrA, noObj_wrA', hlt, coinC, h0, h15, f1_4, f1_13, f1_14, c16, c16p]; done)), ?_⟩
        repeat (first | simp [hw, hv, ho1, ho2, ho3, ho4, noObj_wrA, noObj_wrA', hlt, coinC, h0, h15, f1_4, f1_13, f1_14, c16, c16p] | simp (disch := omega) only [wC, if_pos, if_neg])
        refine runD_call 7 (by kernel_rfl) (by kernel_rfl) (by kernel_rfl) rfl (by kernel_rfl) (by kernel_rfl) (by kernel_rfl) (by first | rfl | (simp [hw, hv, ho1, ho2, ho3, ho4, noObj_wrA, noObj_wrA', hlt, coinC, h0, h15, f1_4, f1_13, f1_14, c16, c16p]; done)) (by first | rfl | (simp [hw, hv, ho1, ho2, ho3, ho4, noObj_wrA, noObj_wrA', hlt, coinC, h0, h15, f1_4, f1_13, f1_14, c16, c16p]; done)) (by simp) (wnum_ok (l := l ++ c :: (encCs (L.take q.j) ++ [L[q.j].d])) (x := L[q.j].n.v) (ho2 _ _) (by simpa using hw2.tok) L[q.j].n.h (by simp; omega)) ?_
        rintro _ _ ⟨rfl, k3, tk3, hw3, rfl⟩
        refine ⟨by first | exact fun _ _ h => h | (refine later_list [5, 2, 1] (by kernel_rfl) (List.forall_mem_cons.2 ⟨fun _ => fact2 rfl rfl ?_, List.forall_mem_cons.2 ⟨fun _ => fact2 rfl rfl ?_, List.forall_mem_cons.2 ⟨fun _ => fact2 rfl rfl ?_, fun _ h => absurd h List.not_mem_nil⟩⟩⟩) <;> constructor <;> first | rfl | (simp [hw, hv, ho1, ho2, ho3, ho4, noObj_wrA, noObj_wrA', hlt, coinC, h0, h15, f1_4, f1_13, f1_14, c16, c16p]; done)), ?_⟩
        repeat (first | simp [hw, hv, ho1, ho2, ho3, ho4, noObj_wrA, noObj_wrA', hlt, coinC, h0, h15, f1_4, f1_13, f1_14, c16, c16p] | simp (disch := omega) only [wC, if_pos, if_neg])
        refine runD_op' 8 (by kernel_rfl) (by kernel_rfl) (by kernel_rfl) rfl (by kernel_rfl) (by kernel_rfl) (by kernel_rfl) ?_
        repeat (first | simp [hw, hv, ho1, ho2, ho3, ho4, noObj_wrA, noObj_wrA', hlt, coinC, h0, h15, f1_4, f1_13, f1_14, c16, c16p] | simp (disch := omega) only [wC, if_pos, if_neg])
        try refine ⟨later_nil (by kernel_rfl), ?_⟩
        refine runD_done (by kernel_rfl) (by kernel_rfl) (by kernel_rfl) ?_
        refine hJ14 _ _ ?_
        refine hK11 _ _ ?_
        refine run_region_k rfl fun J15 hJ15 => ?_
        repeat (first | simp [hw, hv, ho1, ho2, ho3, ho4, noObj_wrA, noObj_wrA', hlt, coinC, h0, h15, f1_4, f1_13, f1_14, c16, c16p] | simp (disch := omega) only [wC, if_pos, if_neg])
        refine hJ15 _ _ ?_
        have e3 : encCs (L.take (q.j + 1)) = encCs (L.take q.j) ++ L[q.j].d :: encN L[q.j].n.v := by rw [take_snoc (by simp at c16; omega), encCs_snoc]; rfl
        simp only [List.append_assoc, List.cons_append, List.nil_append] at hw2 hw3
        refine ⟨gone_kp rfl (by repeat (first | exact kp_refl _ | exact Kp.nil _ | refine kp_app (by simp) ?_ ?_ | refine kp_more ?_ | refine kp_setset ?_ (by simp [hw, hv, ho1, ho2, ho3, ho4, noObj_wrA, noObj_wrA', hlt, coinC, h0, h15, f1_4, f1_13, f1_14, c16, c16p, noObjL, AV.noObj]) | refine kp_set ?_ (by simp [hw, hv, ho1, ho2, ho3, ho4, noObj_wrA, noObj_wrA', hlt, coinC, h0, h15, f1_4, f1_13, f1_14, c16, c16p, noObjL, AV.noObj]) | refine Kp.cons (by first | exact .inl rfl | (right; simp [hw, hv, ho1, ho2, ho3, ho4, noObj_wrA, noObj_wrA', hlt, coinC, h0, h15, f1_4, f1_13, f1_14, c16, c16p, noObjL, AV.noObj])) ?_)) (by repeat (first | exact kpr_refl _ | refine kpr_set ?_ (by simp [hw, hv, ho1, ho2, ho3, ho4, noObj_wrA, noObj_wrA', hlt, coinC, h0, h15, f1_4, f1_13, f1_14, c16, c16p, noObjL, AV.noObj]) | refine kpr_app ?_ (by simp [hw, hv, ho1, ho2, ho3, ho4, noObj_wrA, noObj_wrA', hlt, coinC, h0, h15, f1_4, f1_13, f1_14, c16, c16p, noObjL, AV.noObj]))), (⟨q.j + 1, k3, tk3⟩), ⟨?_, ?_, ?_, ?_, ?_, ?_⟩, ?_⟩
        · (intro r hr; simp only [List.mem_cons, List.not_mem_nil, or_false] at hr; rcases hr with rfl | rfl | rfl <;> first | rfl | (simp [hw, hv, ho1, ho2, ho3, ho4, noObj_wrA, noObj_wrA', hlt, coinC, h0, h15, f1_4, f1_13, f1_14, c16, c16p, AV.gcO, gcOL, noObjL, AV.noObj, St.trimO]; done))
        · first | rfl | omega | assumption | ((repeat (first | simp [hw, hv, ho1, ho2, ho3, ho4, noObj_wrA, noObj_wrA', hlt, coinC, h0, h15, f1_4, f1_13, f1_14, c16, c16p, AV.gcO, gcOL, noObjL, AV.noObj, St.trimO] | simp (disch := omega) only [wC, if_pos, if_neg])); first | done | omega) | (simp only [putA_get]; (repeat (first | simp (disch := omega) only [wC, if_pos, if_neg] | simp [hw, hv, ho1, ho2, ho3, ho4, noObj_wrA, noObj_wrA', hlt, coinC, h0, h15, f1_4, f1_13, f1_14, c16, c16p, AV.gcO, gcOL, noObjL, AV.noObj, St.trimO])); done)
        · simp only [e3]
          exact (hq.trans hw2).trans hw3
        · first | rfl | omega | assumption | ((repeat (first | simp [hw, hv, ho1, ho2, ho3, ho4, noObj_wrA, noObj_wrA', hlt, coinC, h0, h15, f1_4, f1_13, f1_14, c16, c16p, AV.gcO, gcOL, noObjL, AV.noObj, St.trimO] | simp (disch := omega) only [wC, if_pos, if_neg])); first | done | omega) | (simp only [putA_get]; (repeat (first | simp (disch := omega) only [wC, if_pos, if_neg] | simp [hw, hv, ho1, ho2, ho3, ho4, noObj_wrA, noObj_wrA', hlt, coinC, h0, h15, f1_4, f1_13, f1_14, c16, c16p, AV.gcO, gcOL, noObjL, AV.noObj, St.trimO])); done)
        · first | rfl | omega | assumption | ((repeat (first | simp [hw, hv, ho1, ho2, ho3, ho4, noObj_wrA, noObj_wrA', hlt, coinC, h0, h15, f1_4, f1_13, f1_14, c16, c16p, AV.gcO, gcOL, noObjL, AV.noObj, St.trimO] | simp (disch := omega) only [wC, if_pos, if_neg])); first | done | omega) | (simp only [putA_get]; (repeat (first | simp (disch := omega) only [wC, if_pos, if_neg] | simp [hw, hv, ho1, ho2, ho3, ho4, noObj_wrA, noObj_wrA', hlt, coinC, h0, h15, f1_4, f1_13, f1_14, c16, c16p, AV.gcO, gcOL, noObjL, AV.noObj, St.trimO])); done)
        · simp [St.trimO, e3]
        · first | rfl | omega | assumption | ((repeat (first | simp [hw, hv, ho1, ho2, ho3, ho4, noObj_wrA, noObj_wrA', hlt, coinC, h0, h15, f1_4, f1_13, f1_14, c16, c16p] | simp (disch := omega) only [wC, if_pos, if_neg])); first | done | omega) | (simp only [putA_get]; (repeat (first | simp (disch := omega) only [wC, if_pos, if_neg] | simp [hw, hv, ho1, ho2, ho3, ho4, noObj_wrA, noObj_wrA', hlt, coinC, h0, h15, f1_4, f1_13, f1_14, c16, c16p])); done)
    · try (exfalso; have gq := c16; simp [hw, hv, ho1, ho2, ho3, ho4, noObj_wrA, noObj_wrA', hlt, coinC, h0, h15, f1_4, f1_13, f1_14] at gq; first | done | omega)
      all_goals
       have c16p := c16
       try simp [hw, hv, ho1, ho2, ho3, ho4, noObj_wrA, noObj_wrA', hlt, coinC, h0, h15, f1_4, f1_13, f1_14] at c16p
       all_goals (first | (have gq := c16p; skip) | have c16p : True := True.intro)
       all_goals
        refine run_exit ?_
        refine hK5 _ _ ?_
        refine run_seq_k fun K16 hK16 => ?_
        refine run_region_k rfl fun J17 hJ17 => ?_
        repeat (first | simp [hw, hv, ho1, ho2, ho3, ho4, noObj_wrA, noObj_wrA', hlt, coinC, h0, h15, f1_4, f1_13, f1_14, c16, c16p] | simp (disch := omega) only [wC, if_pos, if_neg])
        refine hJ17 _ _ ?_
        refine hK16 _ _ ?_
        refine run_ret ?_
        try simp only [Then, InBlock, NoGoto]
        refine answer_tmp rfl (.inr rfl) ?_
        have hfull : L.take q.j = L := List.take_of_length_le (by simp at c16; omega)
        rw [hfull] at hq
        rw [hfull]
        have e2 : c :: encCs L = encL L := (by simp [encL, hc])
        rw [e2] at hq
        simp only [e2]
        exact ⟨(q.k, q.tk), hq, by simp [hw, hv, ho1, ho2, ho3, ho4, noObj_wrA, noObj_wrA', hlt, coinC, h0, h15, f1_4, f1_13, f1_14, c16, c16p], [], by simp⟩

end Go.Proofs.Ytkbhdlocdajhmaa
