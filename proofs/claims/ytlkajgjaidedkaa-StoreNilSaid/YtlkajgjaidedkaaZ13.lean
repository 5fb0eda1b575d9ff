import Derived.Test.YtlkajgjaidedkaaZ7
import Derived.Test.YtlkajgjaidedkaaZ9
import Derived.Test.YtlkajgjaidedkaaZ12
/-
  Bytes: alike, compared, begun with.
-/
namespace Go.Proofs.Ytlkajgjaidedkaa
set_option linter.unnecessarySimpa false
set_option maxRecDepth 100000
open Go Go.Vm
set_option linter.unusedSimpArgs false
set_option linter.unusedVariables false
attribute [local simp] evalL wantedA isCall opA evalA evalAll evalsA evalOpt ofValue ofCell plain binA_eql_pn binA_neq_pn binA_gtr binA_lss binA_geq binA_leq binA_add binA_sub binA_eql binA_neq binA_orI binA_shl binA_shr binA_mul binA_quo binA_rem binA_agg_eql binA_agg_neq convA_int unA_not fieldAddrA loadA partA pickA_true pickA_false pickA_bb lenA builtinA storeA splice AV.cells AV.isCell sliceA boundA intA callOf indexAddrA newObjA buildA fillA zeroA ofCells buildSliceA indexA fieldA set_appN get_appN take_appN List.getElem?_cons_zero List.getElem?_cons_succ

theorem convA_bytes {P : Program} {s d : TypeId} {p : List UInt8} {n : Nat} {t : Tail} : convA P s d (.sl 1 (bytesA p) n t) = (match elemT P s, isStrT P d with
    | some e, true => if isU8 P e then some (.v (.string ⟨p.toArray⟩)) else none
    | _, _ => none) := by
  simp only [convA, bytesOf_bytes]
  cases elemT P s with
  | none => rfl
  | some e => cases isStrT P d <;> simp

set_option maxHeartbeats 1600000 in
attribute [local simp] undefA List.getElem?_cons_zero List.getElem?_cons_succ convA_bytes binA_eql_str ba_toList in
theorem equal_ok {σ : St} {p q : List UInt8} {m n : Nat} {t1 t2 : Tail} : CallsA Try.prog 81 [.sl 1 (bytesA p) m t1, .sl 1 (bytesA q) n t2] σ (fun av σ' => av = .v (.bool (decide (p = q))) ∧ σ = σ') := by
  have he : (p == q) = decide (p = q) := by rw [Bool.eq_iff_iff]; simp
  have F := And.intro he (True.intro)
  refine callsA_body Try.func81 rfl rfl rfl ?_; refine sr fun _ hJ2 => ?_; refine hJ2 _ _ ?_; refine sr fun _ hJ4 => ?_; refine hJ4 _ _ ?_; refine ra ?_; exact rt

set_option maxHeartbeats 1600000 in
attribute [local simp] undefA List.getElem?_cons_zero List.getElem?_cons_succ in
theorem compare_ok {σ : St} {p q : List UInt8} {t1 t2 : Tail} : CallsA Try.prog 109 [.sl 1 (bytesA p) p.length t1, .sl 1 (bytesA q) q.length t2] σ (fun av σ' => av = .v (.int .i64 (cmpB p q)) ∧ σ = σ') := by
  have F := True.intro
  refine callsA_body Try.func109 rfl rfl rfl ?_; refine sr fun _ hJ2 => ?_; refine hJ2 _ _ ?_; refine sr fun _ hJ4 => ?_
  refine ce (c := compare_ext Try.func119 (by kernel_rfl) (by kernel_rfl) (by kernel_rfl) (by kernel_rfl)) (k := ?_)
  rintro _ _ rfl rfl; (repeat (first | simp [F] | simp (disch := omega) only [wC, if_pos, if_neg])); refine hJ4 _ _ ?_; refine ra ?_; exact rt

set_option maxHeartbeats 1600000 in
attribute [local simp] undefA List.getElem?_cons_zero List.getElem?_cons_succ in
theorem search_ok {σ : St} {n fid : Nat} {caps : List AV} (pred : Nat → Bool) (hn : n ≤ 4000000000000000000) (hcb : callable Try.prog fid = true)
    (hf : ∀ i : Nat, i < n → CallsA Try.prog fid (.v (.int .i64 i) :: caps) σ (fun av σ' => av = .v (.bool (pred i)) ∧ σ = σ')) :
    CallsA Try.prog 107 [.v (.int .i64 n), .fn fid caps] σ (fun av σ' => (∃ r : Nat, av = .v (.int .i64 r) ∧ r ≤ n ∧ (0 < r → pred (r - 1) = false) ∧ (r < n → pred r = true)) ∧ σ = σ') := by
  have F := True.intro
  refine callsA_body Try.func107 rfl rfl rfl ?_; refine sr fun _ hJ2 => ?_; refine hJ2 _ _ ?_; refine sr fun _ hJ4 => ?_; refine hJ4 _ _ ?_; refine sq fun K5 hK5 => ?_; refine run_block_k ?_; refine run_loopF (X := Nat × Nat) [1, 4] (fun q ρ σ1 => (q.1 ≤ q.2) ∧ (q.2 ≤ n) ∧ (0 < q.1 → pred (q.1 - 1) = false) ∧ (q.2 < n → pred q.2 = true) ∧ (ρ 5 = .v (.int .i64 q.1)) ∧ (ρ 6 = .v (.int .i64 q.2)) ∧ (σ1 = σ)) (fun q => q.2 - q.1) ((0, n)) ?st1 ?rd1
  case st1 =>
   refine ⟨lp, lp, ?_, ?_, lp, lp, lp⟩
   · intro h
     simp at h
   · intro h
     simp at h
  case rd1 =>
   rintro q ρ1 σ1 hF1 ⟨h1, h2, h3, h4, h5, h6, hσ⟩; obtain rfl := hσ.symm
   have f1 := keepL hF1
   (try simp [KeepL, F] at f1); replace F := aF h5 F; replace F := aF h6 F; (try replace F := aF f1 F); refine sq fun K6 hK6 => ?_; refine sr fun _ hJ8 => ?_; refine hJ8 _ _ ?_; refine cs (fun c11 => ?_) (fun c11 => ?_)
   · (try exact nope c11); all_goals have c11p := c11; try simp [F] at c11p
     all_goals
      replace F := aF c11 F; (try replace F := aF c11p F); refine run_skip ?_; refine hK6 _ _ ?_; refine run_block_k ?_; refine sq fun K9 hK9 => ?_
      have hlt : q.1 < q.2 := by simp at c11; omega
      obtain ⟨i, j⟩ := q
      simp only at *
      obtain ⟨h, hh⟩ : ∃ h, h = (i + j) / 2 := ⟨_, rfl⟩
      have hw1 : IntKind.i64.wrap ((i : Int) + (j : Int)) = ((i + j : Nat) : Int) := wrap_i64 _ (by omega) (by omega)
      have hw2 : IntKind.u64.wrap ((i : Int) + (j : Int)) = ((i + j : Nat) : Int) := by rw [show (i : Int) + (j : Int) = ((i + j : Nat) : Int) by simp, wrap_u64, Nat.mod_eq_of_lt (by omega)]
      have hw3 : IntKind.i64.wrap (((i : Int) + (j : Int)).fdiv 2) = (h : Int) := by rw [Int.fdiv_eq_ediv_of_nonneg _ (by omega), wrap_i64 _ (by omega) (by omega)]; omega
      have hhj : h < j := by omega
      have hih : i ≤ h := by omega
      have hw4 : IntKind.i64.wrap ((h : Int) + 1) = ((h + 1 : Nat) : Int) := wrap_i64 _ (by omega) (by omega)
      replace F := aF hw1 F; replace F := aF hw2 F; replace F := aF hw3 F; replace F := aF hw4 F; refine rg' (h := fun J10 hJ10 => ?_); refine hJ10 _ _ ?_; refine hK9 _ _ ?_; refine sr fun _ hJ12 => ?_
      refine ca (c := hf h (by omega)) (k := ?_)
      rintro _ _ ⟨rfl, rfl⟩; (repeat (first | simp [F] | simp (disch := omega) only [wC, if_pos, if_neg])); refine hJ12 _ _ ?_; refine cs (fun c21 => ?_) (fun c21 => ?_)
      · (try exact nope c21); all_goals have c21p := c21; try simp [F] at c21p
        all_goals
         replace F := aF c21 F; (try replace F := aF c21p F); refine rg' (h := fun J13 hJ13 => ?_); refine hJ13 _ _ ?_; refine ⟨((h + 1, j)), ⟨kp, lp, lp, ?_, lp, lp, lp, lp⟩, ?_⟩
         · intro _
           simp at c21
           simpa using c21
         · simp
           omega
      (try exact nope c21); all_goals have c21p := c21; try simp [F] at c21p
      all_goals
       replace F := aF c21 F; (try replace F := aF c21p F); refine rg' (h := fun J14 hJ14 => ?_); refine hJ14 _ _ ?_; refine ⟨((i, h)), ⟨kp, lp, lp, lp, ?_, lp, lp, lp⟩, ?_⟩
       · intro _
         simp at c21
         simpa using c21
       · simp
         omega
   (try exact nope c11); all_goals have c11p := c11; try simp [F] at c11p
   all_goals
    replace F := aF c11 F; (try replace F := aF c11p F); refine run_exit ?_; refine hK5 _ _ ?_; refine sr fun _ hJ16 => ?_; refine hJ16 _ _ ?_; refine ra ?_
    refine ⟨⟨q.1, ?_, by omega, h3, fun h => ?_⟩, rfl⟩
    · simp [F]
    · have : q.1 = q.2 := by simp at c11; omega
      rw [this] at h ⊢; exact h4 h

theorem cmpB_ge (a b : List UInt8) : decide (0 ≤ cmpB a b) = !ltB a b := by
  unfold cmpB
  split
  · rename_i e; subst e; simp [ltB_irr]
  · cases ltB a b <;> simp
theorem prsC_len (l : List Pr) : (prsC l).length = l.length * 2 := by
  induction l with
  | nil => rfl
  | cons p l ih => simp only [prsC, List.flatMap_cons, List.length_append, prC, List.length_cons, List.length_nil] at ih ⊢; omega
theorem prsC_at : ∀ {l : List Pr} {i : Nat} (h : i < l.length), (prsC l)[i * 2]? = some (byC l[i].k) ∧ (prsC l)[i * 2 + 1]? = some (byC l[i].v)
  | p :: l, 0, h => ⟨rfl, rfl⟩
  | p :: l, i + 1, h => by
    have := prsC_at (l := l) (i := i) (by simpa using h)
    have e1 : (i + 1) * 2 = i * 2 + 2 := by omega
    rw [e1]
    exact this

set_option maxHeartbeats 1600000 in
attribute [local simp] undefA List.getElem?_cons_zero List.getElem?_cons_succ in
theorem findF_ok {σ : St} {b1 b2 o k i : Nat} {G : Sg} {key : List UInt8} {t : Tail} (h1 : σ.objs[b1]? = some [.ptr o 0]) (h2 : σ.objs[b2]? = some [.sl 1 (bytesA key) key.length t]) (h : HasS σ o k G) (hi : i < G.s.l.length) :
    CallsA Try.prog 108 [.v (.int .i64 i), .ptr b1 0, .ptr b2 0] σ (fun av σ' => av = .v (.bool (!ltB (G.s.l[i]).k key)) ∧ σ = σ') := by
  obtain ⟨ho, hr1, hr2, hr3⟩ := h
  obtain ⟨⟨l, log, marks⟩, g1, g2, g3⟩ := G
  simp only [stC, stR1, stR2, stR3] at ho hr1 hr2 hr3 hi ⊢
  have hat := (prsC_at hi).1
  have hc := cmpB_ge l[i].k key
  have F := And.intro ho (And.intro hr1 (And.intro h1 (And.intro h2 (And.intro hi (And.intro hat (And.intro hc (True.intro)))))))
  refine callsA_body Try.func108 rfl rfl rfl ?_; refine sr fun _ hJ2 => ?_; refine hJ2 _ _ ?_; refine sq fun K3 hK3 => ?_
  refine run_draw (by kernel_rfl) fun J4 hJ4 => ?_
  refine rp2 0 (k := ?_); refine rp2 1 (k := ?_); refine rp2 2 (k := ?_); refine rp2 3 (k := ?_); refine rp2 4 (k := ?_); refine rp2 5 (k := ?_); refine rp2 6 (k := ?_); refine rp2 7 (k := ?_); refine rp2 8 (k := ?_); refine dc 9 rfl (c := compare_ok) (k := ?_); rintro _ _ ⟨rfl, rfl⟩
  refine ⟨by first | exact fun _ _ h => h | (refine later_list [6, 5, 4, 3, 2, 1, 0] (by kernel_rfl) (List.forall_mem_cons.2 ⟨fun _ => fact2 rfl rfl ?_, List.forall_mem_cons.2 ⟨fun _ => fact2 rfl rfl ?_, List.forall_mem_cons.2 ⟨fun _ => fact2 rfl rfl ?_, List.forall_mem_cons.2 ⟨fun _ => fact2 rfl rfl ?_, List.forall_mem_cons.2 ⟨fun _ => fact2 rfl rfl ?_, List.forall_mem_cons.2 ⟨fun _ => fact2 rfl rfl ?_, List.forall_mem_cons.2 ⟨fun _ => fact2 rfl rfl ?_, fun _ h => absurd h List.not_mem_nil⟩⟩⟩⟩⟩⟩⟩) <;> constructor <;> first | rfl | (simp [F]; done)), ?_⟩
  (repeat (first | simp [F] | simp (disch := omega) only [wC, if_pos, if_neg])); refine rp2 10 (k := ?_); refine rp2 11 (k := ?_); refine dd ?_; refine hJ4 _ _ ?_; refine hK3 _ _ ?_; refine ra ?_; exact rt

def predF (l : List Pr) (key : List UInt8) (i : Nat) : Bool := match l[i]? with
  | some p => !ltB p.k key
  | none => true
theorem predF_find {l : List Pr} {key : List UInt8} {r : Nat} (hs : Srt l) (hr : r ≤ l.length) (h1 : 0 < r → predF l key (r - 1) = false) (h2 : r < l.length → predF l key r = true) : r = findL l key :=
  findL_of hs hr (fun h => by
    have := h1 h
    unfold predF at this
    split at this
    · rename_i p hp; exact ⟨p, hp, by simpa using this⟩
    · cases this) (fun p hp => by
    have := h2 (List.getElem?_eq_some_iff.1 hp).1
    unfold predF at this
    rw [hp] at this
    simpa using this)
theorem hasL_at {l : List Pr} {key : List UInt8} (hs : Srt l) : hasL l key = match l[findL l key]? with | some p => decide (p.k = key) | none => false := by
  unfold hasL
  rw [findL_get hs]
  cases h : l[findL l key]? with
  | none => rfl
  | some p => simp only; split <;> simp_all

set_option maxHeartbeats 1600000 in
attribute [local simp] undefA List.getElem?_cons_zero List.getElem?_cons_succ byC in
theorem find_ok {σ : St} {o k : Nat} {G : Sg} {key : List UInt8} {t : Tail} (h : HasS σ o k G) (hs : Srt G.s.l) (hl : G.s.l.length ≤ 4000000000000000000) :
    CallsA Try.prog 76 [.ptr o 0, .sl 1 (bytesA key) key.length t] σ (fun av σ' => av = .tup [.v (.int .i64 (findL G.s.l key)), .v (.bool (hasL G.s.l key))] ∧ σ = σ') := by
  refine callsA_gcS ?_ rfl
  have hlt := lt_of_get h.o
  have h' : HasS { σ with objs := σ.objs ++ [[.ptr o 0], [.sl 1 (bytesA key) key.length t]] } o k G := ⟨by simp only; rw [List.getElem?_append_left hlt]; exact h.o, h.r1, h.r2, h.r3⟩
  have hse := search_ok (σ := { σ with objs := σ.objs ++ [[.ptr o 0], [.sl 1 (bytesA key) key.length t]] }) (caps := [.ptr σ.objs.length 0, .ptr (σ.objs.length + 1) 0]) (fid := 108) (predF G.s.l key) hl (by simp) (fun i hi => callsA_mono (findF_ok (key := key) (t := t) (by simp) (by simp) h' hi) (fun av σ' hq => by
    refine ⟨hq.1.trans ?_, hq.2⟩
    simp [predF, hi]))
  have hho := h'.o
  obtain ⟨ho, hr1, hr2, hr3⟩ := h
  have hha := hasL_at (key := key) hs
  have hat : ∀ i (hi : i < G.s.l.length), (prsC G.s.l)[i * 2]? = some (byC G.s.l[i].k) := fun i hi => (prsC_at hi).1
  obtain ⟨⟨l, log, marks⟩, g1, g2, g3⟩ := G
  simp only [stC, stR1, stR2, stR3] at ho hr1 hr2 hr3 hl hho hse hs hha hat ⊢
  have hfl := findL_le l key
  have F := And.intro hho (And.intro hr1 (True.intro))
  refine callsA_body Try.func76 rfl rfl rfl ?_; refine sr fun _ hJ2 => ?_; refine hJ2 _ _ ?_; refine sr fun _ hJ4 => ?_; refine ca (c := hse) (k := ?_); rintro _ _ ⟨⟨r, rfl, e1, e2, e3⟩, rfl⟩; obtain rfl := predF_find hs e1 e2 e3; (repeat (first | simp [F] | simp (disch := omega) only [wC, if_pos, if_neg])); refine hJ4 _ _ ?_; refine sq fun K5 hK5 => ?_
  refine run_draw (by kernel_rfl) fun J6 hJ6 => ?_
  refine rp2 0 (k := ?_); refine rp2 1 (k := ?_); refine rp2 2 (k := ?_); refine rp2 3 (k := ?_); refine rp2 4 (k := ?_); refine rp2 5 (k := ?_); refine rp2 6 (k := ?_); refine rp2 7 (k := ?_); refine rp2 8 (k := ?_); refine gd 22 (fun g2_8 => ?_) (fun g2_8 => ?_)
  · (try exact nope g2_8); all_goals have g2_8p := g2_8; try simp [F] at g2_8p
    all_goals
     replace F := aF g2_8 F; try replace F := aF g2_8p F
     have hi : findL l key < l.length := by simp at g2_8; omega
     have hat0 := hat _ hi
     replace F := aF hi (And.intro hat0 F)
     have hhb : hasL l key = decide (l[findL l key].k = key) := by rw [hha, List.getElem?_eq_getElem hi]
     replace F := aF hhb F; refine rp2 9 (k := ?_); refine rp2 10 (k := ?_); refine rp2 11 (k := ?_); refine rp2 12 (k := ?_); refine rp2 13 (k := ?_); refine rp2 14 (k := ?_); refine rp2 15 (k := ?_); refine rp2 16 (k := ?_); refine rp2 17 (k := ?_); refine dc 18 rfl (c := equal_ok) (k := ?_); rintro _ _ ⟨rfl, rfl⟩
     refine ⟨by first | exact fun _ _ h => h | (refine later_list [15, 14, 13, 12, 11, 10, 9, 7, 6, 5, 4, 3, 2, 1, 0] (by kernel_rfl) (List.forall_mem_cons.2 ⟨fun _ => fact2 rfl rfl ?_, List.forall_mem_cons.2 ⟨fun _ => fact2 rfl rfl ?_, List.forall_mem_cons.2 ⟨fun _ => fact2 rfl rfl ?_, List.forall_mem_cons.2 ⟨fun _ => fact2 rfl rfl ?_, List.forall_mem_cons.2 ⟨fun _ => fact2 rfl rfl ?_, List.forall_mem_cons.2 ⟨fun _ => fact2 rfl rfl ?_, List.forall_mem_cons.2 ⟨fun _ => fact2 rfl rfl ?_, List.forall_mem_cons.2 ⟨fun _ => fact2 rfl rfl ?_, List.forall_mem_cons.2 ⟨fun _ => fact2 rfl rfl ?_, List.forall_mem_cons.2 ⟨fun _ => fact2 rfl rfl ?_, List.forall_mem_cons.2 ⟨fun _ => fact2 rfl rfl ?_, List.forall_mem_cons.2 ⟨fun _ => fact2 rfl rfl ?_, List.forall_mem_cons.2 ⟨fun _ => fact2 rfl rfl ?_, List.forall_mem_cons.2 ⟨fun _ => fact2 rfl rfl ?_, List.forall_mem_cons.2 ⟨fun _ => fact2 rfl rfl ?_, fun _ h => absurd h List.not_mem_nil⟩⟩⟩⟩⟩⟩⟩⟩⟩⟩⟩⟩⟩⟩⟩) <;> constructor <;> first | rfl | (simp [F]; done)), ?_⟩
     (repeat (first | simp [F] | simp (disch := omega) only [wC, if_pos, if_neg])); refine rp2 19 (k := ?_); refine rp2 20 (k := ?_); refine rp2 21 (k := ?_); refine dd ?_; refine hJ6 _ _ ?_; refine hK5 _ _ ?_; refine run_ret ?_; (try simp only [Then, InBlock, NoGoto]); refine answer_tmp2 rfl (.inr rfl) ?_; exact gcr
  (try exact nope g2_8); all_goals have g2_8p := g2_8; try simp [F] at g2_8p
  all_goals
   replace F := aF g2_8 F; try replace F := aF g2_8p F
   have hhb : hasL l key = false := by rw [hha, List.getElem?_eq_none (by simp at g2_8; omega)]
   replace F := aF hhb F; refine rp2 9 (k := ?_); refine rp2 10 (k := ?_); refine rp2 11 (k := ?_); refine rp2 12 (k := ?_); refine rp2 13 (k := ?_); refine rp2 14 (k := ?_); refine rp2 15 (k := ?_); refine rp2 16 (k := ?_); refine rp2 17 (k := ?_); refine dop 18 rfl ?_; (repeat (first | simp [F] | simp (disch := omega) only [wC, if_pos, if_neg])); refine rp2 19 (k := ?_); refine rp2 20 (k := ?_); refine rp2 21 (k := ?_); refine dd ?_; refine hJ6 _ _ ?_; refine hK5 _ _ ?_; refine run_ret ?_; (try simp only [Then, InBlock, NoGoto]); refine answer_tmp2 rfl (.inr rfl) ?_; exact gcr
end Go.Proofs.Ytlkajgjaidedkaa

/-
  Pairs are taken out of a row, and laid into it.
-/
namespace Go.Proofs.Ytlkajgjaidedkaa
set_option linter.unnecessarySimpa false
set_option maxRecDepth 100000
open Go Go.Vm
set_option linter.unusedSimpArgs false
set_option linter.unusedVariables false
attribute [local simp] evalL wantedA isCall opA evalA evalAll evalsA evalOpt ofValue ofCell plain binA_eql_pn binA_neq_pn binA_gtr binA_lss binA_geq binA_leq binA_add binA_sub binA_eql binA_neq binA_orI binA_shl binA_shr binA_mul binA_quo binA_rem binA_agg_eql binA_agg_neq convA_int unA_not fieldAddrA loadA partA pickA_true pickA_false pickA_bb lenA builtinA storeA splice AV.cells AV.isCell sliceA boundA intA callOf indexAddrA newObjA buildA fillA zeroA ofCells buildSliceA indexA fieldA set_appN get_appN take_appN List.getElem?_cons_zero List.getElem?_cons_succ sliceRowA appendA rowAppA readA clearA zerosA zeroCell capA copyA appendZA roomA maxLen Value.oneCell' Value.cells

set_option maxHeartbeats 1600000 in
attribute [local simp] undefA List.getElem?_cons_zero List.getElem?_cons_succ in
theorem delete_ok {σ : St} {k g i m : Nat} {A X B : List AV} (hr : σ.rows[k]? = some ⟨g, A ++ (X ++ B), none⟩) (hA : A.length = i * 2) (hX : X.length = 2) (hB : B.length = m * 2) (hn : i + m ≤ 1000000000) (hu : underL σ.bd (A ++ B) = true) :
    CallsA Try.prog 110 [.row k g 0 2 (i + 1 + m), .v (.int .i64 i), .v (.int .i64 (i + 1 : Nat))] σ (fun av σ' => ∃ g', av = .row k g' 0 2 (i + m) ∧ σ' = { σ with rows := σ.rows.set k ⟨g', A ++ B, none⟩ }) := by
  refine callsA_row_end (Q := fun av σ' => ∃ g junk sp, av = .row k g 0 2 (i + m) ∧ σ' = { σ with rows := σ.rows.set k ⟨g, (A ++ B) ++ junk, sp⟩ }) ?_ hr (by simp [hA, hB]; omega) hu (fun av σ' h => ?_)
  · have hs := set_self_of hr
    have hT : List.take (i * 2) (A ++ (X ++ B)) = A := List.take_left' hA
    have hD : List.drop ((i + 1) * 2) (A ++ (X ++ B)) = B := by rw [← List.append_assoc]; exact List.drop_left' (by simp [hA, hX]; omega)
    have hT2 : List.take (m * 2) B = B := List.take_of_length_le (by omega)
    have hN1 : ((i : Int) + (m : Int)).toNat = i + m := by omega
    have hN2 : ((i : Int) + 1 + (m : Int)).toNat = i + 1 + m := by omega
    have hN3 : i + 1 + m - (i + m) = 1 := by omega
    have hN4 : (i + 1 + m) * 2 - (i * 2 + m * 2) = 2 := by omega
    have hN5 : i * 2 + m * 2 = (i + m) * 2 := by omega
    have hD2 : ∀ Z, List.drop ((i + m) * 2 + 2) (A ++ (B ++ Z)) = List.drop 2 Z := fun Z => by rw [← List.append_assoc, ← List.drop_drop, List.drop_left' (by simp [hA, hB]; omega)]
    have hT3 : ∀ Z, List.take ((i + m) * 2) (A ++ (B ++ Z)) = A ++ B := fun Z => by rw [← List.append_assoc]; exact List.take_left' (by simp [hA, hB]; omega)
    have F := And.intro hr (And.intro hA (And.intro hX (And.intro hB (And.intro hT (And.intro hD (And.intro hT2 (And.intro hN1 (And.intro hN2 (And.intro hN3 (And.intro hN4 (And.intro hD2 (And.intro hT3 (True.intro)))))))))))))
    refine callsA_body Try.func110 rfl rfl rfl ?_; refine sr fun _ hJ2 => ?_; refine hJ2 _ _ ?_; refine sq fun K3 hK3 => ?_; refine run_learnD 0 (kk := fun s q hsq hnq => ?_); replace F := aF hs F; refine rg' (h := fun J4 hJ4 => ?_); refine hJ4 _ _ ?_; refine hK3 _ _ ?_; refine sq fun K5 hK5 => ?_; refine sr fun _ hJ7 => ?_; refine hJ7 _ _ ?_; refine cs (fun c16 => ?_) (fun c16 => ?_)
    · (try exact nope c16); all_goals have c16p := c16; try simp [F] at c16p
      all_goals
       replace F := aF c16 F; (try replace F := aF c16p F); refine sr fun _ hJ9 => ?_; refine hJ9 _ _ ?_; refine ra ?_; exact ⟨g + 1, _, _, by simp [F], by simp only [List.append_assoc]; rfl⟩
    (try exact nope c16); all_goals have c16p := c16; try simp [F] at c16p
    all_goals
     replace F := aF c16 F; (try replace F := aF c16p F); refine run_skip ?_; refine hK5 _ _ ?_; refine sr fun _ hJ11 => ?_; refine hJ11 _ _ ?_; refine sq fun K12 hK12 => ?_
     refine run_draw (by kernel_rfl) fun J13 hJ13 => ?_
     refine rp2 0 (k := ?_); refine rp2 1 (k := ?_); refine rp2 2 (k := ?_); refine rp2 3 (k := ?_); refine rp2 4 (k := ?_); refine rp2 5 (k := ?_); refine dop 6 rfl ?_; repeat (first | simp [F] | simp (disch := omega) only [wC, if_pos, if_neg])
     refine ⟨later_tmp (by kernel_rfl), ?_⟩
     refine dop 7 rfl ?_; (repeat (first | simp [F] | simp (disch := omega) only [wC, if_pos, if_neg])); (try refine ⟨ln, ?_⟩); refine dd ?_; refine hJ13 _ _ ?_; refine hK12 _ _ ?_; refine sr fun _ hJ15 => ?_; refine hJ15 _ _ ?_; refine sr fun _ hJ17 => ?_; refine hJ17 _ _ ?_; refine ra ?_; exact ⟨g + 1, _, _, by simp [F], by simp only [List.append_assoc]; rfl⟩
  · obtain ⟨g', junk, sp, e1, e2⟩ := h
    exact .inl ⟨g', junk, sp, [], [], [], e1, by rw [e2]; simp⟩

set_option maxHeartbeats 1600000 in
attribute [local simp] undefA List.getElem?_cons_zero List.getElem?_cons_succ in
theorem insert_end {σ : St} {k kv g gv i : Nat} {A X : List AV} {sv : Option Nat} (hr : σ.rows[k]? = some ⟨g, A, none⟩) (hv : σ.rows[kv]? = some ⟨gv, X, sv⟩) (hA : A.length = i * 2) (hX : X.length = 2) (hn : i ≤ 1000000000) (hu : underL σ.bd (A ++ X) = true) :
    CallsA Try.prog 111 [.row k g 0 2 i, .v (.int .i64 i), .row kv gv 0 2 1] σ (fun av σ' => ∃ g', av = .row k g' 0 2 (i + 1) ∧ σ' = { σ with rows := σ.rows.set k ⟨g', A ++ X, none⟩ }) := by
  refine callsA_row_end (Q := fun av σ' => ∃ g', av = .row k g' 0 2 (i + 1) ∧ σ' = { σ with rows := σ.rows.set k ⟨g', A ++ X, none⟩ }) ?_ hr (by simp [hA, hX]; omega) hu (fun av σ' h => ?_)
  · have hT : List.take (i * 2) A = A := List.take_of_length_le (by omega)
    have hX2 : List.take 2 X = X := List.take_of_length_le (by omega)
    have h1 : (i + 1) * 48 ≤ 140737488355328 := by omega
    have h2 : i + 1 ≤ 9223372036854775807 := by omega
    have F := And.intro hr (And.intro hv (And.intro hA (And.intro hX (And.intro hT (And.intro hX2 (And.intro h1 (And.intro h2 (True.intro))))))))
    refine callsA_body Try.func111 rfl rfl rfl ?_; refine sr fun _ hJ2 => ?_; refine hJ2 _ _ ?_; refine sr fun _ hJ4 => ?_; refine hJ4 _ _ ?_; refine sr fun _ hJ6 => ?_; refine hJ6 _ _ ?_; refine sq fun K7 hK7 => ?_; refine sr fun _ hJ9 => ?_; refine hJ9 _ _ ?_; refine cs (fun c16 => ?_) (fun c16 => ?_)
    · (try exact nope c16); all_goals have c16p := c16; try simp [F] at c16p
      all_goals
       replace F := aF c16 F; (try replace F := aF c16p F); refine sr fun _ hJ11 => ?_; refine hJ11 _ _ ?_; refine ra ?_; exact ⟨g + 1, by simp [F], rfl⟩
    (try exact nope c16); all_goals have c16p := c16; try simp [F] at c16p
    all_goals
     replace F := aF c16 F; (try replace F := aF c16p F); refine run_skip ?_; refine hK7 _ _ ?_; refine sr fun _ hJ13 => ?_; refine hJ13 _ _ ?_; refine sq fun K14 hK14 => ?_; refine sr fun _ hJ16 => ?_; refine hJ16 _ _ ?_; refine ct ?_; refine sr fun _ hJ18 => ?_; refine hJ18 _ _ ?_; refine ra ?_; exact ⟨g + 1, by simp [F], rfl⟩
  · obtain ⟨g', e1, e2⟩ := h
    exact .inl ⟨g', [], none, [], [], [], e1, by rw [e2]; simp⟩

theorem overlapsP {σ : St} {k1 g1 o1 n1 k2 g2 o2 n2 : Nat} {c1 c2 : List AV} {s1 s2 : Option Nat} (hne : k1 ≠ k2) (h1 : σ.rows[k1]? = some ⟨g1, c1, s1⟩) (h2 : σ.rows[k2]? = some ⟨g2, c2, s2⟩) :
    ExtA Try.prog 120 [.row k1 g1 o1 2 n1, .row k2 g2 o2 2 n2] σ (fun av _ => av = .v (.bool false)) :=
  overlaps_ext (tS := 119) (tR := 4) Try.func120 (by kernel_rfl) (by kernel_rfl) (by kernel_rfl) (by kernel_rfl) Try.underlying119 (ti_130) rfl (by decide) hne h1 rfl h2 rfl

set_option maxHeartbeats 1600000 in
attribute [local simp] undefA List.getElem?_cons_zero List.getElem?_cons_succ in
set_option maxHeartbeats 16000000 in
theorem insert_mid {σ : St} {k kv g gv i m : Nat} {A X B : List AV} {sv : Option Nat} (hr : σ.rows[k]? = some ⟨g, A ++ B, none⟩) (hv : σ.rows[kv]? = some ⟨gv, X, sv⟩) (hk : kv ≠ k) (hA : A.length = i * 2) (hX : X.length = 2) (hB : B.length = m * 2) (hm : 0 < m) (hn : i + m ≤ 1000000000) (hu : underL σ.bd (A ++ (X ++ B)) = true) :
    CallsA Try.prog 111 [.row k g 0 2 (i + m), .v (.int .i64 i), .row kv gv 0 2 1] σ (fun av σ' => ∃ g', av = .row k g' 0 2 (i + m + 1) ∧ σ' = { σ with rows := σ.rows.set k ⟨g', A ++ (X ++ B), none⟩ }) := by
  have hkl := lt_of_get hr
  have hvl := lt_of_get hv
  refine callsA_row_end (Q := fun av σ' => (∃ g' sp, av = .row k g' 0 2 (i + m + 1) ∧ σ' = { σ with rows := σ.rows.set k ⟨g', A ++ (X ++ B), sp⟩ }) ∨ (∃ r1 sp, av = .row σ.rows.length 0 0 2 (i + m + 1) ∧ σ' = { σ with rows := σ.rows.set k r1 ++ [⟨0, A ++ (X ++ B), sp⟩] })) ?_ hr (by simp [hA, hB, hX]; omega) hu (fun av σ' h => ?_)
  · have hs := fun x => set_self_of hr x
    have hvs : ∀ x, (σ.rows.set k x)[kv]? = some ⟨gv, X, sv⟩ := fun x => by rw [List.getElem?_set_ne (Ne.symm hk)]; exact hv
    have hT : List.take (i * 2) (A ++ B) = A := List.take_left' hA
    have hD : List.drop (i * 2) (A ++ B) = B := List.drop_left' hA
    have hT2 : List.take (m * 2) B = B := List.take_of_length_le (by omega)
    have hX2 : List.take 2 X = X := List.take_of_length_le (by omega)
    have hN1 : ((i : Int) + (m : Int)).toNat = i + m := by omega
    have hN2 : ((i : Int) + (m : Int) + 1).toNat = i + m + 1 := by omega
    have hw1 : IntKind.i64.wrap ((i : Int) + (m : Int) + 1) = ((i + m + 1 : Nat) : Int) := wrap_i64 _ (by omega) (by omega)
    have hw2 : IntKind.i64.wrap ((i : Int) + 1) = ((i + 1 : Nat) : Int) := wrap_i64 _ (by omega) (by omega)
    have hw3 : IntKind.i64.wrap ((i : Int) + (m : Int) + 1 - (i : Int)) = ((m + 1 : Nat) : Int) := by rw [wrap_i64 _ (by omega) (by omega)]; omega
    have hvs2 : ∀ r x, (σ.rows.set k r ++ [x])[kv]? = some ⟨gv, X, sv⟩ := fun r x => by rw [List.getElem?_append_left (by simpa using hvl)]; exact hvs r
    have hk1 : ∀ r x, (σ.rows.set k r ++ [x])[k]? = some r := fun r x => by rw [List.getElem?_append_left (by simpa using hkl)]; exact hs r
    have hn1 : ∀ r x, (σ.rows.set k r ++ [x])[σ.rows.length]? = some x := fun r x => by rw [List.getElem?_append_right (by simp)]; simp
    have hset1 : ∀ r x y, (σ.rows.set k r ++ [x]).set σ.rows.length y = σ.rows.set k r ++ [y] := fun r x y => by rw [List.set_append_right _ _ (by simp)]; simp
    have hTz : ∀ Z, List.take (i * 2) (A ++ Z) = A := fun Z => List.take_left' hA
    have hDz : ∀ Z, List.drop (i * 2) (A ++ Z) = Z := fun Z => List.drop_left' hA
    have hDz2 : ∀ Z, List.drop (i * 2 + 2) (A ++ Z) = List.drop 2 Z := fun Z => by rw [← List.drop_drop, hDz]
    have hT1 : ∀ Z, List.take ((i + 1) * 2) (A ++ Z) = A ++ List.take 2 Z := fun Z => by rw [show (i + 1) * 2 = A.length + 2 by omega, List.take_length_add_append]
    have hT2x : ∀ Z, List.take 2 (X ++ Z) = X := fun Z => List.take_left' hX
    have hDx : ∀ f : Nat → AV, List.drop ((i + 1) * 2 + m * 2) (A ++ (X ++ List.drop 2 (List.map f (List.range ((m + 1) * 2))))) = [] := fun f => List.drop_of_length_le (by simp [hA, hX]; omega)
    have hDx2 : ∀ E : List AV, E.length = 2 → List.drop ((i + 1) * 2 + m * 2) (A ++ (B ++ E)) = [] := fun E hE => List.drop_of_length_le (by simp [hA, hB, hE]; omega)
    have hDx3 := hDx2 [.any, .any] rfl
    have hN4 : (i + m + 1) * 2 - (i * 2 + m * 2) = 2 := by omega
    have hN5 : min 1 (m + 1) = 1 := by omega
    have hN6 : i + m + 1 - (i + 1) = m := by omega
    have hN7 : i + m + 1 - i = m + 1 := by omega
    have hN8 : min m (i + (m + 1) - (i + 1)) = m := by omega
    have hTB : ∀ E, List.take (m * 2) (B ++ E) = B := fun E => List.take_left' hB
    have hTB2 : List.take ((m + 1) * 2) (B ++ [.any, .any]) = B ++ [.any, .any] := List.take_of_length_le (by simp [hB]; omega)
    have hne : ((i : Int) == (i : Int) + (m : Int)) = false := by simp; omega
    have F := And.intro hr (And.intro hv (And.intro hA (And.intro hX (And.intro hB (And.intro hT (And.intro hD (And.intro hT2 (And.intro hX2 (And.intro hN1 (And.intro hN2 (And.intro hw1 (And.intro hw2 (And.intro hw3 (And.intro hne (True.intro)))))))))))))))
    refine callsA_body Try.func111 rfl rfl rfl ?_; refine sr fun _ hJ2 => ?_; refine hJ2 _ _ ?_; refine sr fun _ hJ4 => ?_; refine hJ4 _ _ ?_; refine sr fun _ hJ6 => ?_; refine hJ6 _ _ ?_; refine sq fun K7 hK7 => ?_; refine sr fun _ hJ9 => ?_; refine hJ9 _ _ ?_; refine cs (fun c16 => ?_) (fun c16 => ?_)
    · (try exact nope c16); all_goals have c16p := c16; try simp [F] at c16p
      all_goals
       replace F := aF c16 F; (try replace F := aF c16p F); refine sr fun _ hJ11 => ?_; refine hJ11 _ _ ?_; refine ra ?_; exact .inl ⟨g, _, by simp [F, Nat.add_assoc], rfl⟩
    (try exact nope c16); all_goals have c16p := c16; try simp [F] at c16p
    all_goals
     replace F := aF c16 F; (try replace F := aF c16p F); refine run_skip ?_; refine hK7 _ _ ?_; refine sr fun _ hJ13 => ?_; refine hJ13 _ _ ?_; refine sq fun K14 hK14 => ?_; refine sr fun _ hJ16 => ?_; refine hJ16 _ _ ?_; refine cf ?_; refine run_skip ?_; refine hK14 _ _ ?_; refine sq fun K17 hK17 => ?_; refine sq fun K18 hK18 => ?_; refine run_learnD 0 (kk := fun s q hsq hnq => ?_)
     have hql : i * 2 + m * 2 + s = q * 2 := by simp [hA, hB] at hsq; omega
     have hq1 : (i * 2 + m * 2 + s) % 2 = 0 := by omega
     have hq2 : ((i : Int) * 2 + (m : Int) * 2 + (s : Int)) / 2 = (q : Int) := by omega
     replace F := aF hs F; replace F := aF hvs F; replace F := aF hq1 F; replace F := aF hq2 F; replace F := aF hvs2 F; replace F := aF hk1 F; replace F := aF hn1 F; replace F := aF hset1 F; replace F := aF hTz F; replace F := aF hDz F; replace F := aF hDz2 F; replace F := aF hT1 F; replace F := aF hT2x F; replace F := aF hDx F; replace F := aF hDx3 F; replace F := aF hN4 F; replace F := aF hN5 F; replace F := aF hN6 F; replace F := aF hN7 F; replace F := aF hN8 F; replace F := aF hTB F; replace F := aF hTB2 F; refine rg' (h := fun J19 hJ19 => ?_); refine hJ19 _ _ ?_; refine hK18 _ _ ?_; refine cs (fun c31 => ?_) (fun c31 => ?_)
     · (try exact nope c31); all_goals have c31p := c31; try simp [F] at c31p
       all_goals
        replace F := aF c31 F; (try replace F := aF c31p F); refine sr fun _ hJ21 => ?_; refine hJ21 _ _ ?_; refine sr fun _ hJ23 => ?_; refine hJ23 _ _ ?_; refine sq fun K24 hK24 => ?_
        refine run_draw (by kernel_rfl) fun J25 hJ25 => ?_
        refine rp2 0 (k := ?_); refine rp2 1 (k := ?_); refine rp2 2 (k := ?_); refine rp2 3 (k := ?_); refine rp2 4 (k := ?_); refine rp2 5 (k := ?_); refine rp2 6 (k := ?_); refine rp2 7 (k := ?_); refine dop 8 rfl ?_; repeat (first | simp [F] | simp (disch := omega) only [wC, if_pos, if_neg])
        refine ⟨by first | exact fun _ _ h => h | (refine later_list [6, 5, 3, 2, 1, 0] (by kernel_rfl) (List.forall_mem_cons.2 ⟨fun _ => fact2 rfl rfl ?_, List.forall_mem_cons.2 ⟨fun _ => fact2 rfl rfl ?_, List.forall_mem_cons.2 ⟨fun _ => fact2 rfl rfl ?_, List.forall_mem_cons.2 ⟨fun _ => fact2 rfl rfl ?_, List.forall_mem_cons.2 ⟨fun _ => fact2 rfl rfl ?_, List.forall_mem_cons.2 ⟨fun _ => fact2 rfl rfl ?_, fun _ h => absurd h List.not_mem_nil⟩⟩⟩⟩⟩⟩) <;> constructor <;> first | rfl | (simp [F]; done)), ?_⟩
        refine dd ?_; refine hJ25 _ _ ?_; refine hK24 _ _ ?_; refine sr fun _ hJ27 => ?_; refine hJ27 _ _ ?_; refine ra ?_; exact .inr ⟨_, none, by simp [F, Nat.add_assoc], rfl⟩
     (try exact nope c31); all_goals have c31p := c31; try simp [F] at c31p
     all_goals
      replace F := aF c31 F; (try replace F := aF c31p F); refine run_skip ?_; refine hK17 _ _ ?_; refine sr fun _ hJ29 => ?_; refine hJ29 _ _ ?_; refine sq fun K30 hK30 => ?_; refine sr fun _ hJ32 => ?_
      refine ce (c := overlapsP (g1 := gv) (n1 := 1) (o1 := 0) (g2 := g) (o2 := (i + 1) * 2) (n2 := m) hk (by simp [F]; first | done | exact ⟨rfl, rfl⟩) (by simp [F]; first | done | exact ⟨rfl, rfl⟩)) (k := ?_)
      rintro _ _ rfl rfl; (repeat (first | simp [F] | simp (disch := omega) only [wC, if_pos, if_neg])); refine hJ32 _ _ ?_; refine ct ?_; refine sq fun K33 hK33 => ?_
      refine run_draw (by kernel_rfl) fun J34 hJ34 => ?_
      refine rp2 0 (k := ?_); refine rp2 1 (k := ?_); refine rp2 2 (k := ?_); refine rp2 3 (k := ?_); refine rp2 4 (k := ?_); refine rp2 5 (k := ?_); refine rp2 6 (k := ?_); refine rp2 7 (k := ?_); refine dop 8 rfl ?_; repeat (first | simp [F] | simp (disch := omega) only [wC, if_pos, if_neg])
      refine ⟨by first | exact fun _ _ h => h | (refine later_list [6, 5, 3, 2, 1, 0] (by kernel_rfl) (List.forall_mem_cons.2 ⟨fun _ => fact2 rfl rfl ?_, List.forall_mem_cons.2 ⟨fun _ => fact2 rfl rfl ?_, List.forall_mem_cons.2 ⟨fun _ => fact2 rfl rfl ?_, List.forall_mem_cons.2 ⟨fun _ => fact2 rfl rfl ?_, List.forall_mem_cons.2 ⟨fun _ => fact2 rfl rfl ?_, List.forall_mem_cons.2 ⟨fun _ => fact2 rfl rfl ?_, fun _ h => absurd h List.not_mem_nil⟩⟩⟩⟩⟩⟩) <;> constructor <;> first | rfl | (simp [F]; done)), ?_⟩
      refine dd ?_; refine hJ34 _ _ ?_; refine hK33 _ _ ?_; refine sr fun _ hJ36 => ?_; refine hJ36 _ _ ?_; refine sr fun _ hJ38 => ?_; refine hJ38 _ _ ?_; refine ra ?_; exact .inl ⟨g, _, by simp [F, Nat.add_assoc], rfl⟩
  · rcases h with ⟨g', sp, e1, e2⟩ | ⟨r1, sp, e1, e2⟩
    · exact .inl ⟨g', [], sp, [], [], [], e1, by rw [e2]; simp⟩
    · exact .inr ⟨_, sp, [], [], r1, 0, [], e1, by rw [e2]; simp, rfl⟩

end Go.Proofs.Ytlkajgjaidedkaa

/-
  A store: a pair is put, or none of that key; what was there is told.
-/
namespace Go.Proofs.Ytlkajgjaidedkaa
set_option linter.unnecessarySimpa false
set_option maxRecDepth 100000
open Go Go.Vm
set_option linter.unusedSimpArgs false
set_option linter.unusedVariables false
attribute [local simp] evalL wantedA isCall opA evalA evalAll evalsA evalOpt ofValue ofCell plain binA_eql_pn binA_neq_pn binA_gtr binA_lss binA_geq binA_leq binA_add binA_sub binA_eql binA_neq binA_orI binA_shl binA_shr binA_mul binA_quo binA_rem binA_agg_eql binA_agg_neq convA_int unA_not fieldAddrA loadA partA pickA_true pickA_false pickA_bb lenA builtinA storeA splice AV.cells AV.isCell sliceA boundA intA callOf indexAddrA newObjA buildA fillA zeroA ofCells buildSliceA indexA fieldA set_appN get_appN take_appN List.getElem?_cons_zero List.getElem?_cons_succ get_sa0 get_sa1 get_sa2 get_sa3 set_sa0 set_sa1 set_sa2 set_sa3

theorem prsC_app (l m : List Pr) : prsC (l ++ m) = prsC l ++ prsC m := by simp [prsC]
theorem prsC_take (l : List Pr) (i : Nat) : List.take (i * 2) (prsC l) = prsC (l.take i) := by
  by_cases h : i ≤ l.length
  · conv => lhs; rw [← List.take_append_drop i l, prsC_app]
    exact List.take_left' (by rw [prsC_len, List.length_take, Nat.min_eq_left h])
  · rw [List.take_of_length_le (by rw [prsC_len]; omega), List.take_of_length_le (by omega)]
theorem prsC_drop (l : List Pr) (i : Nat) : List.drop (i * 2) (prsC l) = prsC (l.drop i) := by
  by_cases h : i ≤ l.length
  · conv => lhs; rw [← List.take_append_drop i l, prsC_app]
    exact List.drop_left' (by rw [prsC_len, List.length_take, Nat.min_eq_left h])
  · rw [List.drop_of_length_le (by rw [prsC_len]; omega), List.drop_of_length_le (by omega)]; rfl
theorem prsC_set {l : List Pr} {i : Nat} (h : i < l.length) (p : Pr) : List.take (i * 2) (prsC l) ++ byC p.k :: byC p.v :: List.drop (i * 2 + 2) (prsC l) = prsC (l.set i p) := by
  rw [show i * 2 + 2 = (i + 1) * 2 by omega, prsC_take, prsC_drop, List.set_eq_take_append_cons_drop, if_pos h, prsC_app]
  rfl
theorem prsC_cut {l : List Pr} {i : Nat} (h : i < l.length) : prsC l = prsC (l.take i) ++ (prC l[i] ++ prsC (l.drop (i + 1))) := by
  conv => lhs; rw [← List.take_append_drop i l, prsC_app, List.drop_eq_getElem_cons h]
  rfl
theorem prsC_cut0 (l : List Pr) (i : Nat) : prsC l = prsC (l.take i) ++ prsC (l.drop i) := by
  conv => lhs; rw [← List.take_append_drop i l, prsC_app]
theorem delP_ok {σ : St} {k g i : Nat} {l : List Pr} (hr : σ.rows[k]? = some ⟨g, prsC l, none⟩) (hi : i < l.length) (hn : l.length ≤ 1000000) :
    CallsA Try.prog 110 [.row k g 0 2 l.length, .v (.int .i64 i), .v (.int .i64 ((i : Int) + 1))] σ (fun av σ' => ∃ g', av = .row k g' 0 2 (l.length - 1) ∧ σ' = { σ with rows := σ.rows.set k ⟨g', prsC (l.take i ++ l.drop (i + 1)), none⟩ }) := by
  rw [prsC_cut hi] at hr
  have := delete_ok (i := i) (m := l.length - i - 1) hr (by simp [prsC_len]; omega) rfl (by simp [prsC_len]; omega) (by omega) (by rw [← prsC_app]; exact prsC_under _ _)
  rw [← prsC_app, show i + 1 + (l.length - i - 1) = l.length by omega, show i + (l.length - i - 1) = l.length - 1 by omega] at this
  exact this
theorem insP_ok {σ : St} {k kv g gv i : Nat} {l : List Pr} {p : Pr} {sv : Option Nat} (hr : σ.rows[k]? = some ⟨g, prsC l, none⟩) (hv : σ.rows[kv]? = some ⟨gv, prC p, sv⟩) (hk : kv ≠ k) (hi : i ≤ l.length) (hn : l.length ≤ 1000000) :
    CallsA Try.prog 111 [.row k g 0 2 l.length, .v (.int .i64 i), .row kv gv 0 2 1] σ (fun av σ' => ∃ g', av = .row k g' 0 2 (l.length + 1) ∧ σ' = { σ with rows := σ.rows.set k ⟨g', prsC (l.take i ++ p :: l.drop i), none⟩ }) := by
  have e : prsC (l.take i ++ p :: l.drop i) = prsC (l.take i) ++ (prC p ++ prsC (l.drop i)) := by rw [prsC_app]; rfl
  by_cases h0 : i = l.length
  · subst h0
    have := insert_end (i := l.length) hr hv (by simp [prsC_len]) rfl (by omega) (by have := prsC_under σ.bd (l ++ [p]); rw [prsC_app] at this; simpa [prsC] using this)
    rw [e, List.take_length, List.drop_length]
    simpa [prsC] using this
  · rw [prsC_cut0 l i] at hr
    have := insert_mid (i := i) (m := l.length - i) hr hv hk (by simp [prsC_len]; omega) rfl (by simp [prsC_len]) (by omega) (by omega) (by rw [← e]; exact prsC_under _ _)
    rw [← e, show i + (l.length - i) = l.length by omega] at this
    exact this
theorem getL_some_at {l : List Pr} {key v : List UInt8} (hs : Srt l) (h : getL l key = some v) : ∃ h : findL l key < l.length, (l[findL l key]).k = key ∧ (l[findL l key]).v = v := by
  rw [findL_get hs] at h
  split at h
  · rename_i p hp
    obtain ⟨h1, h2⟩ := List.getElem?_eq_some_iff.1 hp
    split at h
    · rename_i hk
      exact ⟨h1, by rw [h2]; exact hk, by rw [h2]; exact Option.some.inj h⟩
    · cases h
  · cases h

set_option maxHeartbeats 1600000 in
attribute [local simp] undefA List.getElem?_cons_zero List.getElem?_cons_succ byC in
theorem put_ok {σ : St} {o k : Nat} {G : Sg} {key val : List UInt8} {is : Bool} (h : HasS σ o k G) (hs : Srt G.s.l) (hl : G.s.l.length ≤ 1000000) :
    CallsA Try.prog 83 [.ptr o 0, .agg [byC key, byC val], .v (.bool is)] σ (fun av σ' => ∃ g, av = .agg (udC ⟨key, getL G.s.l key⟩) ∧ σ' = putS σ o k ⟨⟨setL G.s.l key (if is then some val else none), G.s.log, G.s.marks⟩, g, G.g2, G.g3⟩) := by
  refine callsA_gcSt (X := Nat) (T := fun g => ⟨⟨setL G.s.l key (if is then some val else none), G.s.log, G.s.marks⟩, g, G.g2, G.g3⟩) h (fun _ => by simp [AV.under, udC_under]) ?_
  have hp1 := fun l' g' => putS_1 h l' g'
  have hfi := fun L m => find_ok (key := key) (t := .shut) (h.app L m) hs (by omega)
  have hbd := prsC_under σ.bd
  have hset := setL_at (k := key) (o := if is then some val else none) hs
  have hgat : ∀ v, getL G.s.l key = some v → _ := fun v h => getL_some_at (key := key) (v := v) hs h
  have hhas : hasL G.s.l key = (getL G.s.l key).isSome := rfl
  have hlo := lt_of_get h.o
  have hlr := lt_of_get h.r1
  obtain ⟨ho, hr1, hr2, hr3⟩ := h
  obtain ⟨⟨l, log, marks⟩, g1, g2, g3⟩ := G
  simp only [stC, stR1, stR2, stR3] at ho hr1 hr2 hr3 hl hp1 hset hgat hhas hfi ⊢
  have ha : ∀ L, (σ.objs ++ L)[o]? = some [.row k g1 0 2 l.length, .row (k + 1) g2 0 3 log.length, .row (k + 2) g3 0 1 marks.length] := fun L => by rw [List.getElem?_append_left hlo]; exact ho
  have hb : ∀ x L, (σ.objs ++ L).set o x = σ.objs.set o x ++ L := fun x L => List.set_append_left _ _ hlo
  have hc : ∀ x L, (σ.objs.set o x ++ L)[o]? = some x := fun x L => by rw [List.getElem?_append_left (by simpa using hlo)]; exact set_self_of ho x
  have hle := findL_le l key
  obtain ⟨i, hi⟩ : ∃ i, i = findL l key := ⟨_, rfl⟩
  obtain ⟨q, hq⟩ : ∃ q, q = getL l key := ⟨_, rfl⟩
  simp only [← hi, ← hq] at hset hgat hhas hfi hle
  obtain ⟨b, hbb⟩ : ∃ b, b = hasL l key := ⟨_, rfl⟩
  simp only [← hbb] at hfi hhas
  have hda : ∀ (x : RowSt) L, (σ.rows.set k x ++ L)[k]? = some x := fun x L => by rw [List.getElem?_append_left (by simpa using hlr)]; exact set_self_of hr1 x
  have hdb : ∀ L, (σ.rows ++ L)[k]? = some ⟨g1, prsC l, none⟩ := fun L => by rw [List.getElem?_append_left hlr]; exact hr1
  have hdc : ∀ (x : RowSt) L, (σ.rows ++ L).set k x = σ.rows.set k x ++ L := fun x L => List.set_append_left _ _ hlr
  have hso := set_same' ho
  have hsr := set_same' hr1
  have F := And.intro ha (And.intro hb (And.intro hc (And.intro hr1 (And.intro hda (And.intro hdb (And.intro hdc (And.intro hso (And.intro hsr (True.intro)))))))))
  refine callsA_body Try.func83 rfl rfl rfl ?_; refine sr fun _ hJ2 => ?_; refine hJ2 _ _ ?_; refine sr fun _ hJ4 => ?_; refine ca (c := hfi _ _) (k := ?_); rintro _ _ ⟨rfl, rfl⟩; (repeat (first | simp [F] | simp (disch := omega) only [wC, if_pos, if_neg])); refine hJ4 _ _ ?_; refine sr fun _ hJ6 => ?_; refine hJ6 _ _ ?_; refine sq fun K7 hK7 => ?_; refine run_block_k ?_; refine sr fun _ hJ9 => ?_; refine gs 24 (fun g3_1 => ?_) (fun g3_1 => ?_)
  · (try exact nope g3_1); all_goals have g3_1p := g3_1; try simp [F] at g3_1p
    all_goals
     replace F := aF g3_1 F; try replace F := aF g3_1p F
     obtain ⟨v, hv⟩ : ∃ v, q = some v := Option.isSome_iff_exists.1 (by rw [← hhas]; simpa using g3_1)
     obtain ⟨hil, hik, hiv⟩ := hgat v hv
     have hat := prsC_at hil
     rw [hiv] at hat
     have hat2 := hat.2
     have hpl := prsC_len l
     have hi2 : i * 2 + 2 ≤ l.length * 2 := by omega
     have hps := prsC_set hil ⟨key, val⟩
     simp only [byC] at hat2 hps
     replace F := aF hil (And.intro hat2 (And.intro hpl (And.intro hi2 F))); refine go2 (k := ?_); refine hJ9 _ _ ?_; refine cs (fun c22 => ?_) (fun c22 => ?_)
     · (try exact nope c22); all_goals have c22p := c22; try simp [F] at c22p
       all_goals
        replace F := aF c22 F; try replace F := aF c22p F
        have his : is = true := by simpa using c22
        have hS : setL l key (if is then some val else none) = l.set i ⟨key, val⟩ := by rw [hset, hv, his]; rfl
        replace F := aF hps F
        refine run_draw (by kernel_rfl) fun J10 hJ10 => ?_
        refine rp2 0 (k := ?_); refine rp2 1 (k := ?_); refine rp2 2 (k := ?_); refine rp2 3 (k := ?_); refine rp2 4 (k := ?_); refine rp2 5 (k := ?_); refine rp2 6 (k := ?_); refine rp2 7 (k := ?_); refine rp2 8 (k := ?_); refine rp2 9 (k := ?_); refine rp2 10 (k := ?_); refine rp2 11 (k := ?_); refine rp2 12 (k := ?_); refine rp2 13 (k := ?_); refine rp2 14 (k := ?_); refine rp2 15 (k := ?_); refine dop 16 rfl ?_; repeat (first | simp [F] | simp (disch := omega) only [wC, if_pos, if_neg])
        refine ⟨by first | exact fun _ _ h => h | (refine later_list [14, 13, 4, 3, 2, 1, 0] (by kernel_rfl) (List.forall_mem_cons.2 ⟨fun _ => fact2 rfl rfl ?_, List.forall_mem_cons.2 ⟨fun _ => fact2 rfl rfl ?_, List.forall_mem_cons.2 ⟨fun _ => fact2 rfl rfl ?_, List.forall_mem_cons.2 ⟨fun _ => fact2 rfl rfl ?_, List.forall_mem_cons.2 ⟨fun _ => fact2 rfl rfl ?_, List.forall_mem_cons.2 ⟨fun _ => fact2 rfl rfl ?_, List.forall_mem_cons.2 ⟨fun _ => fact2 rfl rfl ?_, fun _ h => absurd h List.not_mem_nil⟩⟩⟩⟩⟩⟩⟩) <;> constructor <;> first | rfl | (simp [F]; done)), ?_⟩
        refine rp2 17 (k := ?_); refine dop 18 rfl ?_; (repeat (first | simp [F] | simp (disch := omega) only [wC, if_pos, if_neg])); refine ⟨ln, ?_⟩; refine dd ?_; refine hJ10 _ _ ?_; refine hK7 _ _ ?_; refine sr fun _ hJ12 => ?_; refine hJ12 _ _ ?_; refine run_ret ?_; (try simp only [Then, InBlock, NoGoto]); refine acell (h := ?_); refine ⟨g1, ?_⟩
        rw [hp1, hS, ← hq, hv]
        exact gcr
     (try exact nope c22); all_goals have c22p := c22; try simp [F] at c22p
     all_goals
      replace F := aF c22 F; try replace F := aF c22p F
      have his : is = false := by simpa using c22
      have hS : setL l key (if is then some val else none) = l.take i ++ l.drop (i + 1) := by rw [hset, hv, his]; rfl
      have hlen : (l.take i ++ l.drop (i + 1)).length = l.length - 1 := by simp; omega
      replace F := aF hlen F; refine sr fun _ hJ14 => ?_; refine hJ14 _ _ ?_; refine ct ?_; refine sr fun _ hJ16 => ?_; refine hJ16 _ _ ?_; refine rg' (h := fun J17 hJ17 => ?_); refine ca (c := delP_ok (i := i) (l := l) (g := g1) (k := k) st hil hl) (k := ?_); rintro _ _ ⟨g', rfl, rfl⟩; (repeat (first | simp [F] | simp (disch := omega) only [wC, if_pos, if_neg])); refine hJ17 _ _ ?_; refine hK7 _ _ ?_; refine sr fun _ hJ19 => ?_; refine hJ19 _ _ ?_; refine run_ret ?_; (try simp only [Then, InBlock, NoGoto]); refine acell (h := ?_); refine ⟨g', ?_⟩
      rw [hp1, hS, ← hq, hv]
      exact gcr
  (try exact nope g3_1); all_goals have g3_1p := g3_1; try simp [F] at g3_1p
  all_goals
   replace F := aF g3_1 F; try replace F := aF g3_1p F
   have hv : q = none := by cases q with | none => rfl | some v => simp [hhas] at g3_1
   refine no2 (k := ?_); refine hJ9 _ _ ?_; refine cf ?_; refine sr fun _ hJ21 => ?_; refine hJ21 _ _ ?_; refine cf ?_; refine sr fun _ hJ23 => ?_; refine hJ23 _ _ ?_; refine cs (fun c67 => ?_) (fun c67 => ?_)
   · (try exact nope c67); all_goals have c67p := c67; try simp [F] at c67p
     all_goals
      replace F := aF c67 F; try replace F := aF c67p F
      have his : is = true := by simpa using c67
      have hS : setL l key (if is then some val else none) = l.take i ++ ⟨key, val⟩ :: l.drop i := by rw [hset, hv, his]; rfl
      have hlen : (l.take i ++ (⟨key, val⟩ : Pr) :: l.drop i).length = l.length + 1 := by simp; omega
      replace F := aF hlen F
      refine run_draw (by kernel_rfl) fun J24 hJ24 => ?_
      refine rp2 0 (k := ?_); refine rp2 1 (k := ?_); refine rp2 2 (k := ?_); refine rp2 3 (k := ?_); refine rp2 4 (k := ?_); refine rp2 5 (k := ?_); refine rp2 6 (k := ?_); refine db 7 rfl rfl (k := ?_)
      refine ⟨by first | exact fun _ _ h => h | (refine later_list [5, 4, 3, 2, 1, 0] (by kernel_rfl) (List.forall_mem_cons.2 ⟨fun _ => fact2 rfl rfl ?_, List.forall_mem_cons.2 ⟨fun _ => fact2 rfl rfl ?_, List.forall_mem_cons.2 ⟨fun _ => fact2 rfl rfl ?_, List.forall_mem_cons.2 ⟨fun _ => fact2 rfl rfl ?_, List.forall_mem_cons.2 ⟨fun _ => fact2 rfl rfl ?_, List.forall_mem_cons.2 ⟨fun _ => fact2 rfl rfl ?_, fun _ h => absurd h List.not_mem_nil⟩⟩⟩⟩⟩⟩) <;> constructor <;> first | rfl | (simp [F]; done)), ?_⟩
      repeat (first | simp [F] | simp (disch := omega) only [wC, if_pos, if_neg])
      refine dc 8 rfl (c := insP_ok (i := i) (l := l) (g := g1) (k := k) (kv := σ.rows.length) (gv := 0) (p := ⟨key, val⟩) (sv := none) st (by simp [F]; rfl) (by omega) hle hl) (k := ?_)
      rintro _ _ ⟨g', rfl, rfl⟩
      refine ⟨by first | exact fun _ _ h => h | (refine later_list [3, 2, 1, 0] (by kernel_rfl) (List.forall_mem_cons.2 ⟨fun _ => fact2 rfl rfl ?_, List.forall_mem_cons.2 ⟨fun _ => fact2 rfl rfl ?_, List.forall_mem_cons.2 ⟨fun _ => fact2 rfl rfl ?_, List.forall_mem_cons.2 ⟨fun _ => fact2 rfl rfl ?_, fun _ h => absurd h List.not_mem_nil⟩⟩⟩⟩) <;> constructor <;> first | rfl | (simp [F]; done)), ?_⟩
      (repeat (first | simp [F] | simp (disch := omega) only [wC, if_pos, if_neg])); refine rp2 9 (k := ?_); refine rp2 10 (k := ?_); refine dop 11 rfl ?_; repeat (first | simp [F] | simp (disch := omega) only [wC, if_pos, if_neg])
      refine ⟨by first | exact fun _ _ h => h | (refine later_list [9] (by kernel_rfl) (List.forall_mem_cons.2 ⟨fun _ => fact2 rfl rfl ?_, fun _ h => absurd h List.not_mem_nil⟩) <;> constructor <;> first | rfl | (simp [F]; done)), ?_⟩
      refine dd ?_; refine hJ24 _ _ ?_; refine hK7 _ _ ?_; refine sr fun _ hJ26 => ?_; refine hJ26 _ _ ?_; refine run_ret ?_; (try simp only [Then, InBlock, NoGoto]); refine acell (h := ?_); refine ⟨g', ?_⟩
      rw [hp1, hS, ← hq, hv]
      exact gcr (hA := WkL.agg (.cons (Wk.refl _) (.cons (Wk.nil _ _ _) (.cons (Wk.refl _) .nil))))
   (try exact nope c67); all_goals have c67p := c67; try simp [F] at c67p
   all_goals
    replace F := aF c67 F; try replace F := aF c67p F
    have his : is = false := by simpa using c67
    have hS : setL l key (if is then some val else none) = l := by rw [hset, hv, his]; rfl
    refine run_skip ?_; refine hK7 _ _ ?_; refine sr fun _ hJ28 => ?_; refine hJ28 _ _ ?_; refine run_ret ?_; (try simp only [Then, InBlock, NoGoto]); refine acell (h := ?_); refine ⟨g1, ?_⟩
    rw [hp1, hS, ← hq, hv]
    exact gcr (hA := WkL.agg (.cons (Wk.refl _) (.cons (Wk.nil _ _ _) (.cons (Wk.refl _) .nil))))

end Go.Proofs.Ytlkajgjaidedkaa

/-
  A store: a pair is put, and what was there is noted.
-/
namespace Go.Proofs.Ytlkajgjaidedkaa
set_option linter.unnecessarySimpa false
set_option maxRecDepth 100000
open Go Go.Vm
set_option linter.unusedSimpArgs false
set_option linter.unusedVariables false
attribute [local simp] evalL wantedA isCall opA evalA evalAll evalsA evalOpt ofValue ofCell plain binA_eql_pn binA_neq_pn binA_gtr binA_lss binA_geq binA_leq binA_add binA_sub binA_eql binA_neq binA_orI binA_shl binA_shr binA_mul binA_quo binA_rem binA_agg_eql binA_agg_neq convA_int unA_not fieldAddrA loadA partA pickA_true pickA_false pickA_bb lenA builtinA storeA splice AV.cells AV.isCell sliceA boundA intA callOf indexAddrA newObjA buildA fillA zeroA ofCells buildSliceA indexA fieldA set_appN get_appN take_appN List.getElem?_cons_zero List.getElem?_cons_succ get_sa0 get_sa1 get_sa2 get_sa3 set_sa0 set_sa1 set_sa2 set_sa3 appendA rowAppA readA roomA maxLen zeroCell Value.oneCell' Value.cells

theorem put_app {σ : St} {o k : Nat} {G : Sg} {key val : List UInt8} {is : Bool} (h : HasS σ o k G) (hs : Srt G.s.l) (hl : G.s.l.length ≤ 1000000) (L : List (List AV)) :
    CallsA Try.prog 83 [.ptr o 0, .agg [byC key, byC val], .v (.bool is)] { σ with objs := σ.objs ++ L } (fun av σ' => ∃ g, av = .agg (udC ⟨key, getL G.s.l key⟩) ∧ σ' = { σ with objs := σ.objs.set o [.row k g 0 2 (setL G.s.l key (if is then some val else none)).length, .row (k + 1) G.g2 0 3 G.s.log.length, .row (k + 2) G.g3 0 1 G.s.marks.length] ++ L, rows := σ.rows.set k ⟨g, prsC (setL G.s.l key (if is then some val else none)), none⟩ }) :=
  callsA_mono (put_ok (h.app L σ.toks) hs hl) (fun av σ' ⟨g, e1, e2⟩ => ⟨g, e1, by rw [e2, putS_1 (h.app L σ.toks)]; simp only; rw [List.set_append_left _ _ (lt_of_get h.o)]⟩)

set_option maxHeartbeats 1600000 in
attribute [local simp] undefA List.getElem?_cons_zero List.getElem?_cons_succ byC drop_mr in
theorem do_ok {σ : St} {o k n : Nat} {G : Sg} {key val : List UInt8} {is : Bool} (h : HasS σ o k G) (hG : G.s.Ok n) (hn : n ≤ 1000000) :
    CallsA Try.prog 79 [.ptr o 0, .agg [byC key, byC val], .v (.bool is)] σ (fun av σ' => ∃ G', G'.s = doS G.s key (if is then some val else none) ∧ av = .tup [] ∧ σ' = putS σ o k G') := by
  refine callsA_mono (callsA_gcSt (X := Nat × Nat) (A := fun _ => .tup []) (T := fun x => ⟨doS G.s key (if is then some val else none), x.1, x.2, G.g3⟩) h (fun _ => rfl) ?_) (fun av σ' ⟨x, e1, e2⟩ => ⟨_, rfl, e1, e2⟩)
  have hpa := put_app (key := key) (val := val) (is := is) h hG.srt (Nat.le_trans hG.l hn)
  have hp2 := fun l lg g g' => putS_2 h l lg g g'
  have hlo := lt_of_get h.o
  have hlr := lt_of_get h.r1
  have hlr2 := lt_of_get h.r2
  have hll := hG.log
  obtain ⟨ho, hr1, hr2, hr3⟩ := h
  obtain ⟨⟨l, log, marks⟩, g1, g2, g3⟩ := G
  simp only [stC, stR1, stR2, stR3, doS] at ho hr1 hr2 hr3 hp2 hpa hll ⊢
  have ha : ∀ x L, (σ.objs.set o x ++ L)[o]? = some x := fun x L => by rw [List.getElem?_append_left (by simpa using hlo)]; exact set_self_of ho x
  have hb : ∀ x y L, (σ.objs.set o x ++ L).set o y = σ.objs.set o y ++ L := fun x y L => by rw [List.set_append_left _ _ (by simpa using hlo), List.set_set]
  have hc : ∀ x, (σ.rows.set k x)[k + 1]? = some ⟨g2, udsC log, none⟩ := fun x => by rw [List.getElem?_set_ne (by omega)]; exact hr2
  have hsr : ∀ x, (σ.rows.set k x).set (k + 1) ⟨g2, udsC log, none⟩ = σ.rows.set k x := fun x => set_same' (hc x)
  have hul := udsC_len log
  have hut : List.take (log.length * 3) (udsC log) = udsC log := List.take_of_length_le (by omega)
  have hrm : (log.length + 1) * 56 ≤ 140737488355328 := by omega
  have hmx : log.length + 1 ≤ 9223372036854775807 := by omega
  have hua : udsC (log ++ [⟨key, getL l key⟩]) = udsC log ++ udC ⟨key, getL l key⟩ := by rw [udsC_app]; simp [udsC]
  obtain ⟨q, hq⟩ : ∃ q, q = getL l key := ⟨_, rfl⟩
  obtain ⟨l', hl'⟩ : ∃ l', l' = setL l key (if is then some val else none) := ⟨_, rfl⟩
  simp only [← hq, ← hl'] at hpa hua ⊢
  simp only [udC] at hpa hua
  have F := And.intro ha (And.intro hb (And.intro hc (And.intro hul (And.intro hut (And.intro hrm (And.intro hmx (And.intro hsr (True.intro))))))))
  refine callsA_body Try.func79 rfl rfl rfl ?_; refine sr fun _ hJ2 => ?_; refine hJ2 _ _ ?_; refine sq fun K3 hK3 => ?_; refine sr fun _ hJ5 => ?_; refine hJ5 _ _ ?_; refine cf ?_; refine run_skip ?_; refine hK3 _ _ ?_; refine sr fun _ hJ7 => ?_; refine ca (c := hpa _) (k := ?_); rintro _ _ ⟨g, rfl, rfl⟩; (repeat (first | simp [F] | simp (disch := omega) only [wC, if_pos, if_neg])); refine hJ7 _ _ ?_; refine sr fun _ hJ9 => ?_; refine hJ9 _ _ ?_; refine cs (fun c18 => ?_) (fun c18 => ?_)
  · (try exact nope c18); all_goals have c18p := c18; try simp [F] at c18p
    all_goals
     replace F := aF c18 F; try replace F := aF c18p F
     have hm : marks ≠ [] := by have h := c18; simp at h; exact List.length_pos_iff.1 h
     refine run_draw (by kernel_rfl) fun J10 hJ10 => ?_
     refine rp2 0 (k := ?_); refine rp2 1 (k := ?_); refine rp2 2 (k := ?_); refine rp2 3 (k := ?_); refine rp2 4 (k := ?_); refine rp2 5 (k := ?_); refine rp2 6 (k := ?_); refine dop 7 rfl ?_; repeat (first | simp [F] | simp (disch := omega) only [wC, if_pos, if_neg])
     refine ⟨by first | exact fun _ _ h => h | (refine later_list [5, 3, 2, 1, 0] (by kernel_rfl) (List.forall_mem_cons.2 ⟨fun _ => fact2 rfl rfl ?_, List.forall_mem_cons.2 ⟨fun _ => fact2 rfl rfl ?_, List.forall_mem_cons.2 ⟨fun _ => fact2 rfl rfl ?_, List.forall_mem_cons.2 ⟨fun _ => fact2 rfl rfl ?_, List.forall_mem_cons.2 ⟨fun _ => fact2 rfl rfl ?_, fun _ h => absurd h List.not_mem_nil⟩⟩⟩⟩⟩) <;> constructor <;> first | rfl | (simp [F]; done)), ?_⟩
     refine rp2 8 (k := ?_); refine rp2 9 (k := ?_); refine dop 10 rfl ?_; repeat (first | simp [F] | simp (disch := omega) only [wC, if_pos, if_neg])
     refine ⟨by first | exact fun _ _ h => h | (refine later_list [8] (by kernel_rfl) (List.forall_mem_cons.2 ⟨fun _ => fact2 rfl rfl ?_, fun _ h => absurd h List.not_mem_nil⟩) <;> constructor <;> first | rfl | (simp [F]; done)), ?_⟩
     refine dd ?_; refine hJ10 _ _ ?_; (try simp only [Then, InBlock, NoGoto, if_true]); refine answer_none rfl (.inl rfl) ?_; refine ⟨(g, g2 + 1), ?_⟩; simp only [if_neg hm]
     rw [hp2, hua]
     exact gcr
  (try exact nope c18); all_goals have c18p := c18; try simp [F] at c18p
  all_goals
   replace F := aF c18 F; try replace F := aF c18p F
   have hm : marks = [] := by have h := c18; simp at h; exact h
   refine run_skip ?_; (try simp only [Then, InBlock, NoGoto, if_true]); refine answer_none rfl (.inl rfl) ?_; refine ⟨(g, g2), ?_⟩; simp only [if_pos hm]
   rw [hp2, hsr]
   exact gcr

end Go.Proofs.Ytlkajgjaidedkaa

/-
  A store: what its methods do.
-/
namespace Go.Proofs.Ytlkajgjaidedkaa
set_option linter.unnecessarySimpa false
set_option maxRecDepth 100000
open Go Go.Vm
set_option linter.unusedSimpArgs false
set_option linter.unusedVariables false
attribute [local simp] evalL wantedA isCall opA evalA evalAll evalsA evalOpt ofValue ofCell plain binA_eql_pn binA_neq_pn binA_gtr binA_lss binA_geq binA_leq binA_add binA_sub binA_eql binA_neq binA_orI binA_shl binA_shr binA_mul binA_quo binA_rem binA_agg_eql binA_agg_neq convA_int unA_not fieldAddrA loadA partA pickA_true pickA_false pickA_bb lenA builtinA storeA splice AV.cells AV.isCell sliceA boundA intA callOf indexAddrA newObjA buildA fillA zeroA ofCells buildSliceA indexA fieldA set_appN get_appN take_appN List.getElem?_cons_zero List.getElem?_cons_succ get_sa0 get_sa1 get_sa2 get_sa3 set_sa0 set_sa1 set_sa2 set_sa3 appendA rowAppA readA roomA maxLen zeroCell Value.oneCell' Value.cells sliceRowA binA_eqn binA_neqn drop_mr

set_option maxHeartbeats 1600000 in
attribute [local simp] undefA List.getElem?_cons_zero List.getElem?_cons_succ in
theorem set_ok {σ : St} {o k n : Nat} {G : Sg} {key val : List UInt8} {t1 t2 : Tail} (h : HasS σ o k G) (hG : G.s.Ok n) (hn : n ≤ 1000000) (hk : key.length ≤ 1000000) (hv : val.length ≤ 1000000) :
    CallsA Try.prog 33 [.ptr o 0, .sl 1 (bytesA key) key.length t1, .sl 1 (bytesA val) val.length t2] σ (fun av σ' => ∃ G', G'.s = doS G.s key (some val) ∧ av = .tup [] ∧ σ' = putS σ o k G') := by
  have F := True.intro
  refine callsA_body Try.func33 rfl rfl rfl ?_; refine rg' (h := fun J1 hJ1 => ?_); refine ca (c := clone_ok hk) (k := ?_); rintro _ _ ⟨rfl, rfl⟩; (repeat (first | simp [F] | simp (disch := omega) only [wC, if_pos, if_neg])); refine ca (c := clone_ok hv) (k := ?_); rintro _ _ ⟨rfl, rfl⟩; (repeat (first | simp [F] | simp (disch := omega) only [wC, if_pos, if_neg])); refine ca (c := do_ok (key := key) (val := val) (is := true) h hG hn) (k := ?_); rintro _ _ ⟨G', e1, rfl, rfl⟩; (repeat (first | simp [F] | simp (disch := omega) only [wC, if_pos, if_neg])); refine hJ1 _ _ ?_; (try simp only [Then, InBlock, NoGoto, if_true]); refine answer_none rfl (.inl rfl) ?_; exact ⟨G', e1, rfl, rfl⟩

set_option maxHeartbeats 1600000 in
attribute [local simp] undefA List.getElem?_cons_zero List.getElem?_cons_succ in
theorem del_ok {σ : St} {o k n : Nat} {G : Sg} {key : List UInt8} {t1 : Tail} (h : HasS σ o k G) (hG : G.s.Ok n) (hn : n ≤ 1000000) (hk : key.length ≤ 1000000) :
    CallsA Try.prog 42 [.ptr o 0, .sl 1 (bytesA key) key.length t1] σ (fun av σ' => ∃ G', G'.s = doS G.s key none ∧ av = .tup [] ∧ σ' = putS σ o k G') := by
  have hdo : CallsA Try.prog 79 [.ptr o 0, .agg [.sl 1 (bytesA key) key.length .shut, .sl 0 [] 0 .full], .v (.bool false)] σ (fun av σ' => ∃ G', G'.s = doS G.s key none ∧ av = .tup [] ∧ σ' = putS σ o k G') :=
    callsA_wk (.cons (Wk.refl _) (.cons (WkL.agg (.cons (Wk.refl _) (.cons (Wk.nil _ _ _) .nil))) (.cons (Wk.refl _) .nil))) (do_ok (key := key) (val := []) (is := false) h hG hn)
  have F := True.intro
  refine callsA_body Try.func42 rfl rfl rfl ?_; refine rg' (h := fun J1 hJ1 => ?_); refine ca (c := clone_ok hk) (k := ?_); rintro _ _ ⟨rfl, rfl⟩; (repeat (first | simp [F] | simp (disch := omega) only [wC, if_pos, if_neg])); refine ca (c := hdo) (k := ?_); rintro _ _ ⟨G', e1, rfl, rfl⟩; (repeat (first | simp [F] | simp (disch := omega) only [wC, if_pos, if_neg])); refine hJ1 _ _ ?_; (try simp only [Then, InBlock, NoGoto, if_true]); refine answer_none rfl (.inl rfl) ?_; exact ⟨G', e1, rfl, rfl⟩

set_option maxHeartbeats 1600000 in
attribute [local simp] undefA List.getElem?_cons_zero List.getElem?_cons_succ byC in
theorem get_ok {σ : St} {o k n : Nat} {G : Sg} {key : List UInt8} {t1 : Tail} (h : HasS σ o k G) (hG : G.s.Ok n) (hn : n ≤ 1000000) :
    CallsA Try.prog 24 [.ptr o 0, .sl 1 (bytesA key) key.length t1] σ (fun av σ' => av = .tup [byC ((getL G.s.l key).getD []), .v (.bool (getL G.s.l key).isSome)] ∧ σ = σ') := by
  refine callsA_gcS ?_ (by simp [AV.under, underL, byC_under])
  have hfi := find_ok (key := key) (t := t1) h hG.srt (by have := hG.l; omega)
  have hgat : ∀ v, getL G.s.l key = some v → _ := fun v h => getL_some_at (key := key) (v := v) hG.srt h
  have hhas : hasL G.s.l key = (getL G.s.l key).isSome := rfl
  have hkv := hG.kv
  obtain ⟨ho, hr1, hr2, hr3⟩ := h
  obtain ⟨⟨l, log, marks⟩, g1, g2, g3⟩ := G
  simp only [stC, stR1, stR2, stR3] at ho hr1 hr2 hr3 hfi hgat hhas hkv ⊢
  obtain ⟨i, hi⟩ : ∃ i, i = findL l key := ⟨_, rfl⟩
  obtain ⟨q, hq⟩ : ∃ q, q = getL l key := ⟨_, rfl⟩
  simp only [← hi, ← hq] at hgat hhas hfi ⊢
  rw [hhas] at hfi
  cases q with
  | none =>
    have F := And.intro ho (And.intro hr1 (True.intro))
    refine callsA_body Try.func24 rfl rfl rfl ?_; refine sq fun K1 hK1 => ?_; refine rg' (h := fun J2 hJ2 => ?_); refine hJ2 _ _ ?_; refine hK1 _ _ ?_; refine sq fun K3 hK3 => ?_; refine sq fun K4 hK4 => ?_; refine rg' (h := fun J5 hJ5 => ?_); refine hJ5 _ _ ?_; refine hK4 _ _ ?_; refine cf ?_; refine run_skip ?_; refine hK3 _ _ ?_; refine sq fun K6 hK6 => ?_; refine rg' (h := fun J7 hJ7 => ?_); refine ca (c := hfi) (k := ?_); rintro _ _ ⟨rfl, rfl⟩; (repeat (first | simp [F] | simp (disch := omega) only [wC, if_pos, if_neg])); refine hJ7 _ _ ?_; refine hK6 _ _ ?_; refine sq fun K8 hK8 => ?_; refine sq fun K9 hK9 => ?_; refine rg' (h := fun J10 hJ10 => ?_); refine hJ10 _ _ ?_; refine hK9 _ _ ?_; refine ct ?_; refine sq fun K11 hK11 => ?_; refine rg' (h := fun J12 hJ12 => ?_); refine hJ12 _ _ ?_; refine hK11 _ _ ?_; refine run_ret ?_; (try simp only [Then, InBlock, NoGoto]); refine answer_tmp2 rfl (.inr rfl) ?_; exact gcr (hA := WkL.tup (.cons (Wk.nil _ _ _) (.cons (Wk.refl _) .nil)))
  | some v =>
    obtain ⟨hil, hik, hiv⟩ := hgat v rfl
    have hat := (prsC_at hil).2
    have hvl := (hkv _ (List.getElem_mem hil)).2
    rw [hiv] at hat hvl
    simp only [byC] at hat
    have F := And.intro ho (And.intro hr1 (And.intro hil (And.intro hat (True.intro))))
    refine callsA_body Try.func24 rfl rfl rfl ?_; refine sq fun K1 hK1 => ?_; refine rg' (h := fun J2 hJ2 => ?_); refine hJ2 _ _ ?_; refine hK1 _ _ ?_; refine sq fun K3 hK3 => ?_; refine sq fun K4 hK4 => ?_; refine rg' (h := fun J5 hJ5 => ?_); refine hJ5 _ _ ?_; refine hK4 _ _ ?_; refine cf ?_; refine run_skip ?_; refine hK3 _ _ ?_; refine sq fun K6 hK6 => ?_; refine rg' (h := fun J7 hJ7 => ?_); refine ca (c := hfi) (k := ?_); rintro _ _ ⟨rfl, rfl⟩; (repeat (first | simp [F] | simp (disch := omega) only [wC, if_pos, if_neg])); refine hJ7 _ _ ?_; refine hK6 _ _ ?_; refine sq fun K8 hK8 => ?_; refine sq fun K9 hK9 => ?_; refine rg' (h := fun J10 hJ10 => ?_); refine hJ10 _ _ ?_; refine hK9 _ _ ?_; refine cf ?_; refine run_skip ?_; refine hK8 _ _ ?_; refine sq fun K11 hK11 => ?_; refine rg' (h := fun J12 hJ12 => ?_); refine ca (c := clone_ok hvl) (k := ?_); rintro _ _ ⟨rfl, rfl⟩; (repeat (first | simp [F] | simp (disch := omega) only [wC, if_pos, if_neg])); refine hJ12 _ _ ?_; refine hK11 _ _ ?_; refine run_ret ?_; (try simp only [Then, InBlock, NoGoto]); refine answer_tmp2 rfl (.inr rfl) ?_; exact gcr

set_option maxHeartbeats 1600000 in
attribute [local simp] undefA List.getElem?_cons_zero List.getElem?_cons_succ in
theorem getN_ok {σ : St} {a : AV} : CallsA Try.prog 24 [.v (.pointer none), a] σ (fun av σ' => av = .tup [byC [], .v (.bool false)] ∧ σ = σ') := by
  refine callsA_gcS ?_ (by simp [AV.under, underL, byC_under])
  have F := True.intro
  refine callsA_body Try.func24 rfl rfl rfl ?_; refine sr fun _ hJ2 => ?_; refine hJ2 _ _ ?_; refine sq fun K3 hK3 => ?_; refine sr fun _ hJ5 => ?_; refine hJ5 _ _ ?_; refine ct ?_; refine sr fun _ hJ7 => ?_; refine hJ7 _ _ ?_; refine run_ret ?_; (try simp only [Then, InBlock, NoGoto]); refine answer_tmp2 rfl (.inr rfl) ?_; exact gcr (hA := WkL.tup (.cons (Wk.nil _ _ _) (.cons (Wk.refl _) .nil)))

set_option maxHeartbeats 1600000 in
attribute [local simp] undefA List.getElem?_cons_zero List.getElem?_cons_succ in
theorem len_ok {σ : St} {o k : Nat} {G : Sg} (h : HasS σ o k G) : CallsA Try.prog 31 [.ptr o 0] σ (fun av σ' => av = .v (.int .i64 G.s.l.length) ∧ σ = σ') := by
  have ho := h.o
  simp only [stC] at ho
  have F := And.intro ho (True.intro)
  refine callsA_body Try.func31 rfl rfl rfl ?_; refine sr fun _ hJ2 => ?_; refine hJ2 _ _ ?_; refine sq fun K3 hK3 => ?_; refine sr fun _ hJ5 => ?_; refine hJ5 _ _ ?_; refine cf ?_; refine run_skip ?_; refine hK3 _ _ ?_; refine sr fun _ hJ7 => ?_; refine hJ7 _ _ ?_; refine ra ?_; exact rt

set_option maxHeartbeats 1600000 in
attribute [local simp] undefA List.getElem?_cons_zero List.getElem?_cons_succ in
theorem lenN_ok {σ : St} : CallsA Try.prog 31 [.v (.pointer none)] σ (fun av σ' => av = .v (.int .i64 0) ∧ σ = σ') := by
  have F := True.intro
  refine callsA_body Try.func31 rfl rfl rfl ?_; refine sr fun _ hJ2 => ?_; refine hJ2 _ _ ?_; refine sq fun K3 hK3 => ?_; refine sr fun _ hJ5 => ?_; refine hJ5 _ _ ?_; refine ct ?_; refine sr fun _ hJ7 => ?_; refine hJ7 _ _ ?_; refine ra ?_; exact rt

set_option maxHeartbeats 1600000 in
attribute [local simp] undefA List.getElem?_cons_zero List.getElem?_cons_succ in
theorem depth_ok {σ : St} {o k : Nat} {G : Sg} (h : HasS σ o k G) : CallsA Try.prog 38 [.ptr o 0] σ (fun av σ' => av = .v (.int .i64 G.s.marks.length) ∧ σ = σ') := by
  have ho := h.o
  simp only [stC] at ho
  have F := And.intro ho (True.intro)
  refine callsA_body Try.func38 rfl rfl rfl ?_; refine sr fun _ hJ2 => ?_; refine hJ2 _ _ ?_; refine sq fun K3 hK3 => ?_; refine sr fun _ hJ5 => ?_; refine hJ5 _ _ ?_; refine cf ?_; refine run_skip ?_; refine hK3 _ _ ?_; refine sr fun _ hJ7 => ?_; refine hJ7 _ _ ?_; refine ra ?_; exact rt

set_option maxHeartbeats 1600000 in
attribute [local simp] undefA List.getElem?_cons_zero List.getElem?_cons_succ in
theorem depthN_ok {σ : St} : CallsA Try.prog 38 [.v (.pointer none)] σ (fun av σ' => av = .v (.int .i64 0) ∧ σ = σ') := by
  have F := True.intro
  refine callsA_body Try.func38 rfl rfl rfl ?_; refine sr fun _ hJ2 => ?_; refine hJ2 _ _ ?_; refine sq fun K3 hK3 => ?_; refine sr fun _ hJ5 => ?_; refine hJ5 _ _ ?_; refine ct ?_; refine sr fun _ hJ7 => ?_; refine hJ7 _ _ ?_; refine ra ?_; exact rt

set_option maxHeartbeats 1600000 in
attribute [local simp] undefA List.getElem?_cons_zero List.getElem?_cons_succ in
theorem new_st_ok {σ : St} : CallsA Try.prog 22 [] σ (fun av σ' => av = .ptr σ.objs.length 0 ∧ σ' = { σ with objs := σ.objs ++ [stC σ.rows.length newSg], rows := σ.rows ++ [stR1 newSg, stR2 newSg, stR3 newSg] }) := by
  refine callsA_new_st ?_
  have F := True.intro
  refine callsA_body Try.func22 rfl rfl rfl ?_; refine sr fun _ hJ2 => ?_; refine hJ2 _ _ ?_; refine sr fun _ hJ4 => ?_; refine hJ4 _ _ ?_; refine ra ?_; exact rt

set_option maxHeartbeats 1600000 in
attribute [local simp] undefA List.getElem?_cons_zero List.getElem?_cons_succ in
theorem begin_ok {σ : St} {o k n : Nat} {G : Sg} (h : HasS σ o k G) (hG : G.s.Ok n) (hn : n ≤ 1000000) :
    CallsA Try.prog 35 [.ptr o 0] σ (fun av σ' => ∃ G', G'.s = beginS G.s ∧ av = .tup [] ∧ σ' = putS σ o k G') := by
  refine callsA_mono (Q := fun av σ' => av = .tup [] ∧ σ' = putS σ o k ⟨beginS G.s, G.g1, G.g2, G.g3 + 1⟩) ?_ (fun av σ' ⟨e1, e2⟩ => ⟨_, rfl, e1, e2⟩)
  have hp3 := fun mk g => putS_3 h mk g
  have hml := hG.marks
  obtain ⟨ho, hr1, hr2, hr3⟩ := h
  obtain ⟨⟨l, log, marks⟩, g1, g2, g3⟩ := G
  simp only [stC, stR1, stR2, stR3, beginS] at ho hr1 hr2 hr3 hp3 hml ⊢
  rw [hp3]
  have hul := mkC_len marks
  have hut : List.take marks.length (mkC marks) = mkC marks := List.take_of_length_le (by omega)
  have hrm : (marks.length + 1) * 8 ≤ 140737488355328 := by omega
  have hmx : marks.length + 1 ≤ 9223372036854775807 := by omega
  have hua : mkC (marks ++ [log.length]) = mkC marks ++ [.v (.int .i64 (log.length : Nat))] := by rw [mkC_app]; simp [mkC]
  have F := And.intro ho (And.intro hr3 (And.intro hul (And.intro hut (And.intro hrm (And.intro hmx (True.intro))))))
  refine callsA_body Try.func35 rfl rfl rfl ?_; refine sr fun _ hJ2 => ?_; refine hJ2 _ _ ?_; refine ct ?_
  refine run_draw (by kernel_rfl) fun J3 hJ3 => ?_
  refine rp2 0 (k := ?_); refine rp2 1 (k := ?_); refine rp2 2 (k := ?_); refine rp2 3 (k := ?_); refine rp2 4 (k := ?_); refine rp2 5 (k := ?_); refine rp2 6 (k := ?_); refine rp2 7 (k := ?_); refine rp2 8 (k := ?_); refine rp2 9 (k := ?_); refine rp2 10 (k := ?_); refine dop 11 rfl ?_; repeat (first | simp [F] | simp (disch := omega) only [wC, if_pos, if_neg])
  refine ⟨by first | exact fun _ _ h => h | (refine later_list [9, 8, 7, 6, 5, 3, 2, 1, 0] (by kernel_rfl) (List.forall_mem_cons.2 ⟨fun _ => fact2 rfl rfl ?_, List.forall_mem_cons.2 ⟨fun _ => fact2 rfl rfl ?_, List.forall_mem_cons.2 ⟨fun _ => fact2 rfl rfl ?_, List.forall_mem_cons.2 ⟨fun _ => fact2 rfl rfl ?_, List.forall_mem_cons.2 ⟨fun _ => fact2 rfl rfl ?_, List.forall_mem_cons.2 ⟨fun _ => fact2 rfl rfl ?_, List.forall_mem_cons.2 ⟨fun _ => fact2 rfl rfl ?_, List.forall_mem_cons.2 ⟨fun _ => fact2 rfl rfl ?_, List.forall_mem_cons.2 ⟨fun _ => fact2 rfl rfl ?_, fun _ h => absurd h List.not_mem_nil⟩⟩⟩⟩⟩⟩⟩⟩⟩) <;> constructor <;> first | rfl | (simp [F]; done)), ?_⟩
  refine rp2 12 (k := ?_); refine rp2 13 (k := ?_); refine dop 14 rfl ?_; repeat (first | simp [F] | simp (disch := omega) only [wC, if_pos, if_neg])
  refine ⟨by first | exact fun _ _ h => h | (refine later_list [12] (by kernel_rfl) (List.forall_mem_cons.2 ⟨fun _ => fact2 rfl rfl ?_, fun _ h => absurd h List.not_mem_nil⟩) <;> constructor <;> first | rfl | (simp [F]; done)), ?_⟩
  refine dd ?_; refine hJ3 _ _ ?_; (try simp only [Then, InBlock, NoGoto, if_true]); refine answer_none rfl (.inl rfl) ?_; refine ⟨rfl, ?_⟩; simp [F, hua]

set_option maxHeartbeats 1600000 in
attribute [local simp] undefA List.getElem?_cons_zero List.getElem?_cons_succ in
theorem beginN_ok {σ : St} : CallsA Try.prog 35 [.v (.pointer none)] σ (fun av σ' => av = .tup [] ∧ σ = σ') := by
  have F := True.intro
  refine callsA_body Try.func35 rfl rfl rfl ?_; refine sr fun _ hJ2 => ?_; refine hJ2 _ _ ?_; refine cf ?_; refine run_skip ?_; (try simp only [Then, InBlock, NoGoto, if_true]); refine answer_none rfl (.inl rfl) ?_; exact rt

def endS (s : Sto) : Sto := { s with marks := s.marks.dropLast }
set_option maxHeartbeats 1600000 in
attribute [local simp] undefA List.getElem?_cons_zero List.getElem?_cons_succ in
theorem end_st_ok {σ : St} {o k n : Nat} {G : Sg} (h : HasS σ o k G) (hG : G.s.Ok n) (hn : n ≤ 1000000) :
    CallsA Try.prog 80 [.ptr o 0] σ (fun av σ' => av = .tup [.v (.int .i64 (G.s.marks.getLastD 0 : Nat)), .v (.bool (decide (G.s.marks ≠ [])))] ∧ σ' = putS σ o k ⟨endS G.s, G.g1, G.g2, G.g3⟩) := by
  have hp3 := fun mk g => putS_3 h mk g
  have hml := hG.marks
  have hde := depth_ok h
  obtain ⟨ho, hr1, hr2, hr3⟩ := h
  obtain ⟨⟨l, log, marks⟩, g1, g2, g3⟩ := G
  simp only [stC, stR1, stR2, stR3, endS] at ho hr1 hr2 hr3 hp3 hml hde ⊢
  rw [hp3]
  have hso := set_same' ho
  have hsr := set_same' hr3
  have hmc := mkC_take marks (marks.length - 1)
  by_cases hm : marks = []
  · subst hm
    simp only [List.length_nil] at ho hso
    have F := And.intro ho (And.intro hr3 (True.intro))
    refine callsA_body Try.func80 rfl rfl rfl ?_; refine sq fun K1 hK1 => ?_; refine rg' (h := fun J2 hJ2 => ?_); refine hJ2 _ _ ?_; refine hK1 _ _ ?_; refine sq fun K3 hK3 => ?_; refine rg' (h := fun J4 hJ4 => ?_); refine ca (c := hde) (k := ?_); rintro _ _ ⟨rfl, rfl⟩; (repeat (first | simp [F] | simp (disch := omega) only [wC, if_pos, if_neg])); refine hJ4 _ _ ?_; refine hK3 _ _ ?_; refine sq fun K5 hK5 => ?_; refine sq fun K6 hK6 => ?_; refine rg' (h := fun J7 hJ7 => ?_); refine hJ7 _ _ ?_; refine hK6 _ _ ?_; refine ct ?_; refine sq fun K8 hK8 => ?_; refine rg' (h := fun J9 hJ9 => ?_); refine hJ9 _ _ ?_; refine hK8 _ _ ?_; refine run_ret ?_; (try simp only [Then, InBlock, NoGoto]); refine answer_tmp2 rfl (.inr rfl) ?_; refine ⟨rfl, ?_⟩; simp [hso, hsr]
  · have hm2 := hm
    have h0 : 0 < marks.length := List.length_pos_iff.2 hm
    have hlast := mkC_at (l := marks) (i := marks.length - 1) (by omega)
    have hgl : marks[marks.length - 1] = marks.getLastD 0 := by rw [List.getLastD_eq_getLast?, List.getLast?_eq_getElem?, List.getElem?_eq_getElem (by omega)]; rfl
    rw [hgl] at hlast
    have hdl : marks.take (marks.length - 1) = marks.dropLast := (List.dropLast_eq_take ..).symm
    have hdn : (marks.dropLast).length = marks.length - 1 := by simp
    have hw : IntKind.i64.wrap ((marks.length : Int) - 1) = ((marks.length - 1 : Nat) : Int) := by rw [wrap_i64 _ (by omega) (by omega)]; omega
    have hz : ((marks.length : Int) == 0) = false := by simp; omega
    have hi1 : marks.length - 1 < marks.length := by omega
    have hul := mkC_len marks
    have hi2 : marks.length - 1 + 1 ≤ marks.length := by omega
    rw [hdl] at hmc
    refine callsA_mono (callsA_less (A := .tup [.v (.int .i64 (marks.getLastD 0 : Nat)), .v (.bool (decide (marks ≠ [])))]) (τ := { σ with objs := σ.objs.set o [.row k g1 0 2 l.length, .row (k + 1) g2 0 3 log.length, .row (k + 2) g3 0 1 (marks.length - 1)] }) (q := k + 2) (n := marks.length - 1) ?_ hr3 (by omega)) (fun av σ' ⟨e1, e2⟩ => ⟨e1, by rw [e2, hmc, hdn]⟩)
    have F := And.intro ho (And.intro hr3 (And.intro hw (And.intro hz (And.intro hlast (And.intro hi1 (And.intro hm2 (And.intro hul (And.intro hi2 (True.intro)))))))))
    refine callsA_body Try.func80 rfl rfl rfl ?_; refine sq fun K1 hK1 => ?_; refine rg' (h := fun J2 hJ2 => ?_); refine hJ2 _ _ ?_; refine hK1 _ _ ?_; refine sq fun K3 hK3 => ?_; refine rg' (h := fun J4 hJ4 => ?_); refine ca (c := hde) (k := ?_); rintro _ _ ⟨rfl, rfl⟩; (repeat (first | simp [F] | simp (disch := omega) only [wC, if_pos, if_neg])); refine hJ4 _ _ ?_; refine hK3 _ _ ?_; refine sq fun K5 hK5 => ?_; refine sq fun K6 hK6 => ?_; refine rg' (h := fun J7 hJ7 => ?_); refine hJ7 _ _ ?_; refine hK6 _ _ ?_; refine cf ?_; refine run_skip ?_; refine hK5 _ _ ?_; refine sq fun K8 hK8 => ?_; refine rg' (h := fun J9 hJ9 => ?_); refine hJ9 _ _ ?_; refine hK8 _ _ ?_; refine sr fun _ hJ11 => ?_; refine hJ11 _ _ ?_; refine sr fun _ hJ13 => ?_; refine hJ13 _ _ ?_; refine run_ret ?_; (try simp only [Then, InBlock, NoGoto]); refine answer_tmp2 rfl (.inr rfl) ?_; refine ⟨?_, ?_⟩
    · simp [F]
      simpa using (List.getElem?_eq_some_iff.1 hlast).2
    · simp [F]

set_option maxHeartbeats 1600000 in
attribute [local simp] undefA List.getElem?_cons_zero List.getElem?_cons_succ in
theorem end_stN_ok {σ : St} : CallsA Try.prog 80 [.v (.pointer none)] σ (fun av σ' => av = .tup [.v (.int .i64 0), .v (.bool false)] ∧ σ = σ') := by
  have F := True.intro
  refine callsA_body Try.func80 rfl rfl rfl ?_; refine sr fun _ hJ2 => ?_; refine hJ2 _ _ ?_; refine sr fun _ hJ4 => ?_; refine ca (c := depthN_ok) (k := ?_); rintro _ _ ⟨rfl, rfl⟩; (repeat (first | simp [F] | simp (disch := omega) only [wC, if_pos, if_neg])); refine hJ4 _ _ ?_; refine sq fun K5 hK5 => ?_; refine sr fun _ hJ7 => ?_; refine hJ7 _ _ ?_; refine ct ?_; refine sr fun _ hJ9 => ?_; refine hJ9 _ _ ?_; refine run_ret ?_; (try simp only [Then, InBlock, NoGoto]); refine answer_tmp2 rfl (.inr rfl) ?_; exact rt

set_option maxHeartbeats 1600000 in
attribute [local simp] undefA List.getElem?_cons_zero List.getElem?_cons_succ in
theorem commitN_ok {σ : St} : CallsA Try.prog 36 [.v (.pointer none)] σ (fun av σ' => av = .v (.bool false) ∧ σ = σ') := by
  have F := True.intro
  refine callsA_body Try.func36 rfl rfl rfl ?_; refine sr fun _ hJ2 => ?_; refine hJ2 _ _ ?_; refine sr fun _ hJ4 => ?_; refine ca (c := end_stN_ok) (k := ?_); rintro _ _ ⟨rfl, rfl⟩; (repeat (first | simp [F] | simp (disch := omega) only [wC, if_pos, if_neg])); refine hJ4 _ _ ?_; refine sq fun K5 hK5 => ?_; refine sr fun _ hJ7 => ?_; (iterate 3 refine no2 (k := ?_)); refine hJ7 _ _ ?_; refine cf ?_; refine run_skip ?_; refine hK5 _ _ ?_; refine sr fun _ hJ9 => ?_; refine hJ9 _ _ ?_; refine ra ?_; exact rt

set_option maxHeartbeats 1600000 in
attribute [local simp] undefA List.getElem?_cons_zero List.getElem?_cons_succ in
theorem commit_ok {σ : St} {o k n : Nat} {G : Sg} (h : HasS σ o k G) (hG : G.s.Ok n) (hn : n ≤ 1000000) :
    CallsA Try.prog 36 [.ptr o 0] σ (fun av σ' => ∃ G', G'.s = commitS G.s ∧ av = .v (.bool (decide (G.s.marks ≠ []))) ∧ σ' = putS σ o k G') := by
  have hen := end_st_ok h hG hn
  have hh := h.put ⟨endS G.s, G.g1, G.g2, G.g3⟩
  have hde := depth_ok hh
  have hdl : G.s.marks.dropLast.length = G.s.marks.length - 1 := by simp
  simp only [endS] at hen hh hde
  by_cases hm : G.s.marks = []
  · have hm2 := hm
    refine callsA_mono (Q := fun av σ' => av = .v (.bool false) ∧ σ' = putS σ o k ⟨commitS G.s, G.g1, G.g2, G.g3⟩) ?_ (fun av σ' ⟨e1, e2⟩ => ⟨_, rfl, by rw [e1, hm2]; rfl, e2⟩)
    have e : commitS G.s = { G.s with marks := G.s.marks.dropLast } := by simp [commitS, hm2]
    rw [e]
    rw [show decide (G.s.marks ≠ []) = false by simp [hm2]] at hen
    have F := True.intro
    refine callsA_body Try.func36 rfl rfl rfl ?_; refine sq fun K1 hK1 => ?_; refine rg' (h := fun J2 hJ2 => ?_); refine hJ2 _ _ ?_; refine hK1 _ _ ?_; refine sq fun K3 hK3 => ?_; refine rg' (h := fun J4 hJ4 => ?_); refine ca (c := hen) (k := ?_); rintro _ _ ⟨rfl, rfl⟩; (repeat (first | simp [F] | simp (disch := omega) only [wC, if_pos, if_neg])); refine hJ4 _ _ ?_; refine hK3 _ _ ?_; refine sq fun K5 hK5 => ?_; refine sq fun K6 hK6 => ?_; refine rg' (h := fun J7 hJ7 => ?_); (iterate 3 refine no2 (k := ?_)); refine hJ7 _ _ ?_; refine hK6 _ _ ?_; refine cf ?_; refine run_skip ?_; refine hK5 _ _ ?_; refine sq fun K8 hK8 => ?_; refine rg' (h := fun J9 hJ9 => ?_); refine hJ9 _ _ ?_; refine hK8 _ _ ?_; refine ra ?_; exact rt
  · have h0 : 0 < G.s.marks.length := List.length_pos_iff.2 hm
    rw [show decide (G.s.marks ≠ []) = true by simp [hm]] at hen ⊢
    by_cases h1 : G.s.marks.length = 1
    · have hz : G.s.marks.length - 1 = 0 := by omega
      have hx := callsA_drop_log (G1 := ⟨{ G.s with marks := G.s.marks.dropLast }, G.g1, G.g2, G.g3⟩) (f := 36) (P := Try.prog) (args := [.ptr o 0]) (A := .v (.bool true)) h rfl
      refine callsA_mono (hx ?_) (fun av σ' ⟨e1, e2⟩ => ⟨_, by simp [commitS, h1], e1, e2⟩)
      have hpo := hh.o
      have hso : (putS σ o k ⟨{ G.s with marks := G.s.marks.dropLast }, G.g1, G.g2, G.g3⟩).objs.set o [.row k G.g1 0 2 G.s.l.length, .sl 0 [] 0 .full, .row (k + 2) G.g3 0 1 G.s.marks.dropLast.length] = σ.objs.set o [.row k G.g1 0 2 G.s.l.length, .sl 0 [] 0 .full, .row (k + 2) G.g3 0 1 G.s.marks.dropLast.length] := by simp [putS]
      simp only [stC] at hpo
      obtain ⟨τ, hτ⟩ : ∃ τ, τ = putS σ o k ⟨{ G.s with marks := G.s.marks.dropLast }, G.g1, G.g2, G.g3⟩ := ⟨_, rfl⟩
      simp only [← hτ] at hen hde hpo hso ⊢
      have F := And.intro hz (And.intro hpo (And.intro hso (True.intro)))
      refine callsA_body Try.func36 rfl rfl rfl ?_; refine sq fun K1 hK1 => ?_; refine rg' (h := fun J2 hJ2 => ?_); refine hJ2 _ _ ?_; refine hK1 _ _ ?_; refine sq fun K3 hK3 => ?_; refine rg' (h := fun J4 hJ4 => ?_); refine ca (c := hen) (k := ?_); rintro _ _ ⟨rfl, rfl⟩; (repeat (first | simp [F] | simp (disch := omega) only [wC, if_pos, if_neg])); refine hJ4 _ _ ?_; refine hK3 _ _ ?_; refine sq fun K5 hK5 => ?_; refine sq fun K6 hK6 => ?_; refine rg' (h := fun J7 hJ7 => ?_); refine go2 (k := ?_); refine ca (c := hde) (k := ?_); rintro _ _ ⟨rfl, rfl⟩; (repeat (first | simp [F] | simp (disch := omega) only [wC, if_pos, if_neg])); refine go2 (k := ?_); refine hJ7 _ _ ?_; refine hK6 _ _ ?_; refine ct ?_; refine rg' (h := fun J8 hJ8 => ?_); refine hJ8 _ _ ?_; refine hK5 _ _ ?_; refine sq fun K9 hK9 => ?_; refine rg' (h := fun J10 hJ10 => ?_); refine hJ10 _ _ ?_; refine hK9 _ _ ?_; refine ra ?_
      refine ⟨by simp [F], ?_⟩
      simp only [List.length_dropLast, hz] at hso
      simp [hso, hz]
    · refine callsA_mono (Q := fun av σ' => av = .v (.bool true) ∧ σ' = putS σ o k ⟨commitS G.s, G.g1, G.g2, G.g3⟩) ?_ (fun av σ' ⟨e1, e2⟩ => ⟨_, rfl, e1, e2⟩)
      have e : commitS G.s = { G.s with marks := G.s.marks.dropLast } := by simp [commitS, h1]
      have hz : ¬ G.s.marks.length - 1 = 0 := by omega
      rw [e]
      obtain ⟨τ, hτ⟩ : ∃ τ, τ = putS σ o k ⟨{ G.s with marks := G.s.marks.dropLast }, G.g1, G.g2, G.g3⟩ := ⟨_, rfl⟩
      simp only [← hτ] at hen hde ⊢
      have F := And.intro hz (True.intro)
      refine callsA_body Try.func36 rfl rfl rfl ?_; refine sq fun K1 hK1 => ?_; refine rg' (h := fun J2 hJ2 => ?_); refine hJ2 _ _ ?_; refine hK1 _ _ ?_; refine sq fun K3 hK3 => ?_; refine rg' (h := fun J4 hJ4 => ?_); refine ca (c := hen) (k := ?_); rintro _ _ ⟨rfl, rfl⟩; (repeat (first | simp [F] | simp (disch := omega) only [wC, if_pos, if_neg])); refine hJ4 _ _ ?_; refine hK3 _ _ ?_; refine sq fun K5 hK5 => ?_; refine sq fun K6 hK6 => ?_; refine rg' (h := fun J7 hJ7 => ?_); refine go2 (k := ?_); refine ca (c := hde) (k := ?_); rintro _ _ ⟨rfl, rfl⟩; (repeat (first | simp [F] | simp (disch := omega) only [wC, if_pos, if_neg])); refine go2 (k := ?_); refine hJ7 _ _ ?_; refine hK6 _ _ ?_; refine cf ?_; refine run_skip ?_; refine hK5 _ _ ?_; refine sq fun K8 hK8 => ?_; refine rg' (h := fun J9 hJ9 => ?_); refine hJ9 _ _ ?_; refine hK8 _ _ ?_; refine ra ?_; exact rt
set_option maxHeartbeats 1600000 in
attribute [local simp] undefA List.getElem?_cons_zero List.getElem?_cons_succ in
theorem rollbackN_ok {σ : St} : CallsA Try.prog 40 [.v (.pointer none)] σ (fun av σ' => av = .v (.bool false) ∧ σ = σ') := by
  have F := True.intro
  refine callsA_body Try.func40 rfl rfl rfl ?_; refine sr fun _ hJ2 => ?_; refine hJ2 _ _ ?_; refine run_scope_k ?_; refine sr fun _ hJ4 => ?_; refine ca (c := end_stN_ok) (k := ?_); rintro _ _ ⟨rfl, rfl⟩; (repeat (first | simp [F] | simp (disch := omega) only [wC, if_pos, if_neg])); refine hJ4 _ _ ?_; refine sq fun K5 hK5 => ?_; refine sr fun _ hJ7 => ?_; refine hJ7 _ _ ?_; refine ct ?_; refine sr fun _ hJ9 => ?_; refine hJ9 _ _ ?_; refine ra ?_; exact rt

structure RbS where
  l : List Pr
  n : Nat
  g : Nat

theorem udsC_take (l : List Ud) (n : Nat) : List.take (n * 3) (udsC l) = udsC (l.take n) := by
  by_cases h : n ≤ l.length
  · conv => lhs; rw [← List.take_append_drop n l, udsC_app]
    exact List.take_left' (by rw [udsC_len, List.length_take, Nat.min_eq_left h])
  · rw [List.take_of_length_le (by rw [udsC_len]; omega), List.take_of_length_le (by omega)]
theorem udsC_at {l : List Ud} {i : Nat} (h : i < l.length) : List.take 3 (List.drop (i * 3) (udsC l)) = udC l[i] := by
  conv => lhs; rw [← List.take_append_drop i l, udsC_app, List.drop_left' (by rw [udsC_len, List.length_take, Nat.min_eq_left (by omega)]), List.drop_eq_getElem_cons h]
  exact List.take_left' rfl

set_option maxHeartbeats 1600000 in
attribute [local simp] undefA List.getElem?_cons_zero List.getElem?_cons_succ in
theorem rollback_no {σ : St} {o k n : Nat} {G : Sg} (h : HasS σ o k G) (hG : G.s.Ok n) (hn : n ≤ 500000) (hm : G.s.marks = []) :
    CallsA Try.prog 40 [.ptr o 0] σ (fun av σ' => av = .v (.bool false) ∧ σ = σ') := by
  have hen := end_st_ok h hG (by omega)
  have e : (⟨endS G.s, G.g1, G.g2, G.g3⟩ : Sg) = G := by
    obtain ⟨⟨l, log, marks⟩, g1, g2, g3⟩ := G
    simp only at hm; subst hm; rfl
  rw [e, putS_self h, show decide (G.s.marks ≠ []) = false by simp [hm]] at hen
  have hen2 := callsA_mono hen (Q' := fun av σ' => av = .tup [.v (.int .i64 (G.s.marks.getLastD 0 : Nat)), .v (.bool false)] ∧ σ = σ') (fun av σ' ⟨e1, e2⟩ => ⟨e1, e2.symm⟩)
  have F := True.intro
  refine callsA_body Try.func40 rfl rfl rfl ?_; refine sr fun _ hJ2 => ?_; refine hJ2 _ _ ?_; refine run_scope_k ?_; refine sr fun _ hJ4 => ?_; refine ca (c := hen2) (k := ?_); rintro _ _ ⟨rfl, rfl⟩; (repeat (first | simp [F] | simp (disch := omega) only [wC, if_pos, if_neg])); refine hJ4 _ _ ?_; refine sq fun K5 hK5 => ?_; refine sr fun _ hJ7 => ?_; refine hJ7 _ _ ?_; refine ct ?_; refine sr fun _ hJ9 => ?_; refine hJ9 _ _ ?_; refine ra ?_; exact rt

set_option maxHeartbeats 1600000 in
attribute [local simp] undefA List.getElem?_cons_zero List.getElem?_cons_succ byC drop_mr prsC_noObj udsC_noObj mkC_noObj in
theorem rollback_ok {σ : St} {o k n : Nat} {G : Sg} (h : HasS σ o k G) (hG : G.s.Ok n) (hn : n ≤ 500000) (hm : G.s.marks ≠ []) :
    CallsA Try.prog 40 [.ptr o 0] σ (fun av σ' => ∃ G', G'.s = rollS G.s ∧ av = .v (.bool true) ∧ σ' = putS σ o k G') := by
  refine callsA_mono (callsA_gcSt (X := Nat) (A := fun _ => .v (.bool true)) (T := fun g => ⟨rollS G.s, g, G.g2, G.g3⟩) h (fun _ => rfl) ?_) (fun av σ' ⟨g, e1, e2⟩ => ⟨_, rfl, e1, e2⟩)
  have hen := end_st_ok h hG (by omega)
  have hml : G.s.marks.getLastD 0 ≤ G.s.log.length := by
    rw [List.getLastD_eq_getLast?]
    cases hq : G.s.marks.getLast? with
    | none => simp
    | some x => exact hG.mks x (List.mem_of_getLast? hq)
  have hsr := hG.srt
  have hll := hG.l
  have hlg := hG.log
  have hlo := lt_of_get h.o
  have hl3 := lt_of_get h.r3
  have hpa := fun (G2 : Sg) (key val : List UInt8) (is : Bool) hs hl L => put_app (key := key) (val := val) (is := is) (h.put G2) hs hl L
  rw [show decide (G.s.marks ≠ []) = true by simp [hm]] at hen
  obtain ⟨⟨l, log, marks⟩, g1, g2, g3⟩ := G
  simp only [endS, putS, stC, stR1, stR2, stR3, rollS] at hen hml hsr hll hlg hpa ⊢
  obtain ⟨fr, hfr⟩ : ∃ fr, fr = marks.getLastD 0 := ⟨_, rfl⟩
  obtain ⟨mk, hmk⟩ : ∃ mk, mk = marks.dropLast := ⟨_, rfl⟩
  simp only [← hfr, ← hmk] at hen hml ⊢
  have hset : ∀ (a b c d : RowSt), (((σ.rows.set k a).set (k + 1) b).set (k + 2) c).set (k + 1) d = ((σ.rows.set k a).set (k + 1) d).set (k + 2) c := fun a b c d => by rw [set_comm' _ (by omega : k + 2 ≠ k + 1), List.set_set]
  have hset0 : ∀ (a b c d : RowSt), (((σ.rows.set k a).set (k + 1) b).set (k + 2) c).set k d = ((σ.rows.set k d).set (k + 1) b).set (k + 2) c := fun a b c d => by rw [set_comm' _ (by omega : k + 2 ≠ k), set_comm' _ (by omega : k + 1 ≠ k), List.set_set]
  have hg1 : ∀ (a b c : RowSt), (((σ.rows.set k a).set (k + 1) b).set (k + 2) c)[k + 1]? = some b := fun a b c => by rw [List.getElem?_set_ne (by omega), List.getElem?_set_self (by simp; omega)]
  have hgo : ∀ x L, (σ.objs.set o x ++ L)[o]? = some x := fun x L => by rw [List.getElem?_append_left (by simpa using hlo)]; simp [hlo]
  have hgo1 : ∀ x : List AV, (σ.objs.set o x)[o]? = some x := fun x => by simp [hlo]
  have hso : ∀ x y L, (σ.objs.set o x ++ L).set o y = σ.objs.set o y ++ L := fun x y L => by rw [List.set_append_left _ _ (by simpa using hlo), List.set_set]
  have hput : ∀ (y : List Pr) (g i : Nat) (u : Ud) (L : List (List AV)), Srt y → y.length ≤ 1000000 → CallsA Try.prog 83 [.ptr o 0, .agg [byC u.k, byC (u.o.getD [])], .v (.bool u.o.isSome)]
      { σ with objs := σ.objs.set o [.row k g 0 2 y.length, .row (k + 1) g2 0 3 (log.take i).length, .row (k + 2) g3 0 1 mk.length] ++ L, rows := ((σ.rows.set k ⟨g, prsC y, none⟩).set (k + 1) ⟨g2, udsC (log.take i), none⟩).set (k + 2) ⟨g3, mkC mk, none⟩ }
      (fun av σ' => ∃ g', av = .agg (udC ⟨u.k, getL y u.k⟩) ∧ σ' = { σ with objs := σ.objs.set o [.row k g' 0 2 (setL y u.k u.o).length, .row (k + 1) g2 0 3 (log.take i).length, .row (k + 2) g3 0 1 mk.length] ++ L, rows := ((σ.rows.set k ⟨g', prsC (setL y u.k u.o), none⟩).set (k + 1) ⟨g2, udsC (log.take i), none⟩).set (k + 2) ⟨g3, mkC mk, none⟩ }) := fun y g i u L hs hl => by
    have := hpa ⟨⟨y, log.take i, mk⟩, g, g2, g3⟩ u.k (u.o.getD []) u.o.isSome hs hl L
    have e : (if u.o.isSome = true then some (u.o.getD []) else none) = u.o := by cases u.o <;> rfl
    simp only [e, List.set_set, hset0] at this
    exact this
  have F := And.intro hgo (And.intro hgo1 (And.intro hso (And.intro hg1 (And.intro hset (And.intro hlo (True.intro))))))
  refine callsA_body Try.func40 rfl rfl rfl ?_; refine sr fun _ hJ2 => ?_; refine hJ2 _ _ ?_; refine run_scope_jumpsG 0 (X := RbS) [0] (fun x ρ σ1 => (fr ≤ x.n) ∧ (x.n ≤ log.length) ∧ (x.l = unrollL l (log.drop x.n)) ∧ (ρ 3 = .v (.int .i64 (fr : Nat))) ∧ (σ1 = { σ with objs := σ.objs.set o [.row k x.g 0 2 x.l.length, .row (k + 1) g2 0 3 x.n, .row (k + 2) g3 0 1 mk.length], rows := ((σ.rows.set k ⟨x.g, prsC x.l, none⟩).set (k + 1) ⟨g2, udsC (log.take x.n), none⟩).set (k + 2) ⟨g3, mkC mk, none⟩ })) (fun x => x.n) rfl ?first ?pass
  case first =>
   refine sr fun _ hJ4 => ?_; refine ca (c := hen) (k := ?_); rintro _ _ ⟨rfl, rfl⟩; (repeat (first | simp [F] | simp (disch := omega) only [wC, if_pos, if_neg])); refine hJ4 _ _ ?_; refine sqc (X := RbS) [0, 3] (fun x ρ σ1 => (fr ≤ x.n) ∧ (x.n ≤ log.length) ∧ (x.l = unrollL l (log.drop x.n)) ∧ (ρ 3 = .v (.int .i64 (fr : Nat))) ∧ (σ1 = { σ with objs := σ.objs.set o [.row k x.g 0 2 x.l.length, .row (k + 1) g2 0 3 x.n, .row (k + 2) g3 0 1 mk.length], rows := ((σ.rows.set k ⟨x.g, prsC x.l, none⟩).set (k + 1) ⟨g2, udsC (log.take x.n), none⟩).set (k + 2) ⟨g3, mkC mk, none⟩ })) ?cy5 ?cx5
   case cy5 =>
    rintro x ρCc13 σ1 hFCc13 ⟨h1, h2, hL, h3, hσ⟩; obtain rfl := hσ.symm
    have fCc13 := keepL hFCc13
    (try simp [KeepL, F] at fCc13); replace F := aF h3 F; (try replace F := aF fCc13 F); refine sq fun K6 hK6 => ?_; refine run_label ?_; refine hK6 _ _ ?_; refine sq fun K7 hK7 => ?_; refine sq fun K8 hK8 => ?_
    have hcl : (udsC (log.take x.n)).length = x.n * 3 := by rw [udsC_len, List.length_take, Nat.min_eq_left h2]
    have hwl : IntKind.i64.wrap ((x.n : Int) - 1) = (x.n : Int) - 1 := wrap_i64 _ (by omega) (by omega)
    replace F := aF hwl F; refine rg' (h := fun J9 hJ9 => ?_); refine hJ9 _ _ ?_; refine hK8 _ _ ?_; refine sr fun _ hJ11 => ?_; refine hJ11 _ _ ?_; refine cs (fun c22 => ?_) (fun c22 => ?_)
    · (try exact nope c22); all_goals have c22p := c22; try simp [F] at c22p
      all_goals
       replace F := aF c22 F; try replace F := aF c22p F
       have hn0 : fr < x.n := by have h := c22; simp at h; omega
       have hin : x.n - 1 < log.length := by omega
       have hin2 : ((x.n : Int) - 1).toNat = x.n - 1 := by omega
       have hat := udsC_at (l := log.take x.n) (i := x.n - 1) (by rw [List.length_take]; omega)
       rw [List.getElem_take] at hat
       obtain ⟨u, hu⟩ : ∃ u, u = log[x.n - 1] := ⟨_, rfl⟩
       rw [← hu] at hat
       simp only [udC] at hat
       have hb3 : (x.n - 1) * 3 + 3 ≤ x.n * 3 := by omega
       have hlt : (x.n : Int) - 1 < x.n := by omega
       have hge : (1 : Int) ≤ x.n := by omega
       have htk := udsC_take (log.take x.n) (x.n - 1)
       rw [List.take_take, Nat.min_eq_left (by omega)] at htk
       have hlt2 : (log.take (x.n - 1)).length = x.n - 1 := by rw [List.length_take]; omega
       replace F := aF hin2 (And.intro hat (And.intro hcl (And.intro hb3 (And.intro hlt (And.intro hge (And.intro htk F))))))
       have hpt := hput x.l x.g (x.n - 1) u [udC u] (by rw [hL]; exact unrollL_srt hsr _) (by have := unrollL_len l (log.drop x.n); rw [← hL] at this; simp at this; omega)
       rw [hlt2] at hpt
       have hL2 : setL x.l u.k u.o = unrollL l (log.drop (x.n - 1)) := by rw [hL, List.drop_eq_getElem_cons hin, ← hu, show x.n - 1 + 1 = x.n by omega]; rfl
       refine sr fun _ hJ13 => ?_; refine hJ13 _ _ ?_; refine sr fun _ hJ15 => ?_; refine hJ15 _ _ ?_; refine sq fun K16 hK16 => ?_; refine run_less (k + 1) ((x.n - 1) * 3) (kk := ?_); refine rg' (h := fun J17 hJ17 => ?_); refine ca (c := hpt) (k := ?_); rintro _ _ ⟨g', rfl, rfl⟩; (repeat (first | simp [F] | simp (disch := omega) only [wC, if_pos, if_neg])); refine hJ17 _ _ ?_; refine hK16 _ _ ?_; refine run_goto ?_; refine ⟨rfl, gk, (⟨setL x.l u.k u.o, x.n - 1, g'⟩), ⟨kpG, lpG, lpG, ?_, lpG, lpG⟩⟩
       · exact hL2
    (try exact nope c22); all_goals have c22p := c22; try simp [F] at c22p
    all_goals
     replace F := aF c22 F; try replace F := aF c22p F
     have hxf : x.n = fr := by have h := c22; simp at h; omega
     have hft : (log.take fr).length = fr := by rw [List.length_take]; omega
     have hrm := hL
     rw [hxf] at hrm
     refine run_skip ?_; refine hK7 _ _ ?_; refine sr fun _ hJ19 => ?_; refine hJ19 _ _ ?_; refine ra ?_; refine ⟨x.g, ?_⟩
     rw [← hrm, hft, ← hxf]
     exact ⟨Wk.refl _, [], [], [], by simp⟩
   case cx5 =>
    intro K5 hK5
    refine sr fun _ hJ21 => ?_; refine hJ21 _ _ ?_; refine cf ?_; refine run_skip ?_; refine hK5 (⟨l, log.length, g1⟩) _ _ ⟨kp, ?_, ?_, ?_, lp, ?_⟩
    · exact hml
    · exact Nat.le_refl _
    · simp [unrollL]
    · simp [F]
  case pass =>
   rintro x ρgoto σ1 hFgoto ⟨h1, h2, hL, h3, hσ⟩; obtain rfl := hσ.symm
   have fgoto := keepL hFgoto
   (try simp [KeepL, F] at fgoto); replace F := aF h3 F; (try replace F := aF fgoto F); refine sq fun K22 hK22 => ?_; refine run_skip ?_; refine hK22 _ _ ?_; refine sq fun K23 hK23 => ?_; refine sq fun K24 hK24 => ?_
   have hcl : (udsC (log.take x.n)).length = x.n * 3 := by rw [udsC_len, List.length_take, Nat.min_eq_left h2]
   have hwl : IntKind.i64.wrap ((x.n : Int) - 1) = (x.n : Int) - 1 := wrap_i64 _ (by omega) (by omega)
   replace F := aF hwl F; refine rg' (h := fun J25 hJ25 => ?_); refine hJ25 _ _ ?_; refine hK24 _ _ ?_; refine sr fun _ hJ27 => ?_; refine hJ27 _ _ ?_; refine cs (fun c22 => ?_) (fun c22 => ?_)
   · (try exact nope c22); all_goals have c22p := c22; try simp [F] at c22p
     all_goals
      replace F := aF c22 F; try replace F := aF c22p F
      have hn0 : fr < x.n := by have h := c22; simp at h; omega
      have hin : x.n - 1 < log.length := by omega
      have hin2 : ((x.n : Int) - 1).toNat = x.n - 1 := by omega
      have hat := udsC_at (l := log.take x.n) (i := x.n - 1) (by rw [List.length_take]; omega)
      rw [List.getElem_take] at hat
      obtain ⟨u, hu⟩ : ∃ u, u = log[x.n - 1] := ⟨_, rfl⟩
      rw [← hu] at hat
      simp only [udC] at hat
      have hb3 : (x.n - 1) * 3 + 3 ≤ x.n * 3 := by omega
      have hlt : (x.n : Int) - 1 < x.n := by omega
      have hge : (1 : Int) ≤ x.n := by omega
      have htk := udsC_take (log.take x.n) (x.n - 1)
      rw [List.take_take, Nat.min_eq_left (by omega)] at htk
      have hlt2 : (log.take (x.n - 1)).length = x.n - 1 := by rw [List.length_take]; omega
      replace F := aF hin2 (And.intro hat (And.intro hcl (And.intro hb3 (And.intro hlt (And.intro hge (And.intro htk F))))))
      have hpt := hput x.l x.g (x.n - 1) u [udC u] (by rw [hL]; exact unrollL_srt hsr _) (by have := unrollL_len l (log.drop x.n); rw [← hL] at this; simp at this; omega)
      rw [hlt2] at hpt
      have hL2 : setL x.l u.k u.o = unrollL l (log.drop (x.n - 1)) := by rw [hL, List.drop_eq_getElem_cons hin, ← hu, show x.n - 1 + 1 = x.n by omega]; rfl
      refine sr fun _ hJ29 => ?_; refine hJ29 _ _ ?_; refine sr fun _ hJ31 => ?_; refine hJ31 _ _ ?_; refine sq fun K32 hK32 => ?_; refine run_less (k + 1) ((x.n - 1) * 3) (kk := ?_); refine rg' (h := fun J33 hJ33 => ?_); refine ca (c := hpt) (k := ?_); rintro _ _ ⟨g', rfl, rfl⟩; (repeat (first | simp [F] | simp (disch := omega) only [wC, if_pos, if_neg])); refine hJ33 _ _ ?_; refine hK32 _ _ ?_; refine run_goto ?_; refine ⟨rfl, gk, (⟨setL x.l u.k u.o, x.n - 1, g'⟩), ⟨kpG, lpG, lpG, ?_, lpG, lpG⟩, lpG⟩
      · exact hL2
   (try exact nope c22); all_goals have c22p := c22; try simp [F] at c22p
   all_goals
    replace F := aF c22 F; try replace F := aF c22p F
    have hxf : x.n = fr := by have h := c22; simp at h; omega
    have hft : (log.take fr).length = fr := by rw [List.length_take]; omega
    have hrm := hL
    rw [hxf] at hrm
    refine run_skip ?_; refine hK23 _ _ ?_; refine sr fun _ hJ35 => ?_; refine hJ35 _ _ ?_; refine ra ?_; refine ⟨x.g, ?_⟩
    rw [← hrm, hft, ← hxf]
    exact ⟨Wk.refl _, [], [], [], by simp⟩
end Go.Proofs.Ytlkajgjaidedkaa

/-
  A store: its keys that begin so; another one; are two alike?
-/
namespace Go.Proofs.Ytlkajgjaidedkaa
set_option linter.unnecessarySimpa false
set_option maxRecDepth 100000
open Go Go.Vm
set_option linter.unusedSimpArgs false
set_option linter.unusedVariables false
attribute [local simp] evalL wantedA isCall opA evalA evalAll evalsA evalOpt ofValue ofCell plain binA_eql_pn binA_neq_pn binA_gtr binA_lss binA_geq binA_leq binA_add binA_sub binA_eql binA_neq binA_orI binA_shl binA_shr binA_mul binA_quo binA_rem binA_agg_eql binA_agg_neq convA_int unA_not fieldAddrA loadA partA pickA_true pickA_false pickA_bb lenA builtinA storeA splice AV.cells AV.isCell sliceA boundA intA callOf indexAddrA newObjA buildA fillA zeroA ofCells buildSliceA indexA fieldA set_appN get_appN take_appN List.getElem?_cons_zero List.getElem?_cons_succ get_sa0 get_sa1 get_sa2 get_sa3 set_sa0 set_sa1 set_sa2 set_sa3 sliceRowA binA_eqn binA_neqn drop_mr

set_option maxHeartbeats 1600000 in
attribute [local simp] undefA List.getElem?_cons_zero List.getElem?_cons_succ in
theorem keysN_ok {σ : St} {a : AV} : CallsA Try.prog 28 [.v (.pointer none), a] σ (fun av σ' => av = .sl 1 [] 0 .shut ∧ σ = σ') := by
  refine callsA_gcS ?_ rfl
  have F := True.intro
  refine callsA_body Try.func28 rfl rfl rfl ?_; refine sr fun _ hJ2 => ?_; refine hJ2 _ _ ?_; refine sq fun K3 hK3 => ?_; refine sr fun _ hJ5 => ?_; refine hJ5 _ _ ?_; refine ct ?_; refine sr fun _ hJ7 => ?_; refine hJ7 _ _ ?_; refine ra ?_; exact gcr

set_option maxHeartbeats 1600000 in
attribute [local simp] undefA List.getElem?_cons_zero List.getElem?_cons_succ in
theorem copyN_ok {σ : St} : CallsA Try.prog 39 [.v (.pointer none)] σ (fun av σ' => av = .v (.pointer none) ∧ σ = σ') := by
  have F := True.intro
  refine callsA_body Try.func39 rfl rfl rfl ?_; refine sr fun _ hJ2 => ?_; refine hJ2 _ _ ?_; refine sq fun K3 hK3 => ?_; refine sr fun _ hJ5 => ?_; refine hJ5 _ _ ?_; refine ct ?_; refine sr fun _ hJ7 => ?_; refine hJ7 _ _ ?_; refine ra ?_; exact rt

structure RsS where
  i : Nat
  d : Bool
  out : List Pr
def wasC (l : List (List Pr)) : List AV := l.map fun w => .sl 2 (prsC w) w.length .shut
structure RS where
  L : List Pr
  was : List (List Pr)
  g : Nat
def rmC (q : Nat) (M : RS) : List AV := [.sl 2 (prsC M.L) M.L.length .shut, .row q M.g 0 1 M.was.length]
def rmR (M : RS) : RowSt := ⟨M.g, wasC M.was, none⟩
structure HasR (σ : St) (m q : Nat) (M : RS) : Prop where
  o : σ.objs[m]? = some (rmC q M)
  r : σ.rows[q]? = some (rmR M)
def putR (σ : St) (m q : Nat) (M : RS) : St := { σ with objs := σ.objs.set m (rmC q M), rows := σ.rows.set q (rmR M) }
theorem HasR.put {σ : St} {m q : Nat} {M : RS} (h : HasR σ m q M) (M' : RS) : HasR (putR σ m q M') m q M' := ⟨set_self_of h.o _, set_self_of h.r _⟩
structure Apart (o k m q : Nat) : Prop where
  o : o ≠ m
  k0 : q ≠ k
  k1 : q ≠ k + 1
  k2 : q ≠ k + 2
theorem HasS.putR {σ : St} {o k m q : Nat} {G : Sg} (h : HasS σ o k G) (ha : Apart o k m q) (M : RS) : HasS (putR σ m q M) o k G :=
  ⟨by simp only [Proofs.Ytlkajgjaidedkaa.putR]; rw [List.getElem?_set_ne (Ne.symm ha.o)]; exact h.o, by simp only [Proofs.Ytlkajgjaidedkaa.putR]; rw [List.getElem?_set_ne ha.k0]; exact h.r1, by simp only [Proofs.Ytlkajgjaidedkaa.putR]; rw [List.getElem?_set_ne ha.k1]; exact h.r2, by simp only [Proofs.Ytlkajgjaidedkaa.putR]; rw [List.getElem?_set_ne ha.k2]; exact h.r3⟩
end Go.Proofs.Ytlkajgjaidedkaa

/-
  Deeds: the store's and the document's stay alike.
-/
namespace Go.Proofs.Ytlkajgjaidedkaa
set_option linter.unnecessarySimpa false
set_option maxRecDepth 100000
open Go Go.Vm
set_option linter.unusedSimpArgs false
set_option linter.unusedVariables false

structure Ac where
  d : UInt8
  k : List UInt8
  v : List UInt8
structure R5 (s : Sto) (M : RS) (n : Nat) : Prop where
  ok : s.Ok n
  l : s.l = M.L
  len : s.marks.length = M.was.length
  roll : ∀ (j : Nat) x w, s.marks[j]? = some x → M.was[j]? = some w → w = unrollL s.l (s.log.drop x)
  mono : s.marks.Pairwise (· ≤ ·)
  wl : ∀ w ∈ M.was, w.length ≤ n

end Go.Proofs.Ytlkajgjaidedkaa

/-
  The document's example of a store; few deeds; both stores of a law's own.
-/
namespace Go.Proofs.Ytlkajgjaidedkaa
set_option linter.unnecessarySimpa false
set_option maxRecDepth 100000
open Go Go.Vm
set_option linter.unusedSimpArgs false
set_option linter.unusedVariables false
attribute [local simp] evalL wantedA isCall opA evalA evalAll evalsA evalOpt ofValue ofCell plain binA_eql_pn binA_neq_pn binA_gtr binA_lss binA_geq binA_leq binA_add binA_sub binA_eql binA_neq binA_orI binA_shl binA_shr binA_mul binA_quo binA_rem binA_agg_eql binA_agg_neq convA_int unA_not fieldAddrA loadA partA pickA_true pickA_false pickA_bb lenA builtinA storeA splice AV.cells AV.isCell sliceA boundA intA callOf indexAddrA newObjA buildA fillA zeroA ofCells buildSliceA indexA fieldA set_appN get_appN take_appN List.getElem?_cons_zero List.getElem?_cons_succ get_sa0 get_sa1 get_sa2 get_sa3 set_sa0 set_sa1 set_sa2 set_sa3 sliceRowA binA_eqn binA_neqn drop_mr

set_option maxHeartbeats 1600000 in
attribute [local simp] undefA List.getElem?_cons_zero List.getElem?_cons_succ binA_eql_str convA_bytes ba_toList in
theorem rolls_ok {σ : St} : CallsA Try.prog 20 [] σ (fun av σ' => av = .v (.bool true) ∧ σ = σ') := by
  refine callsA_gcS ?_ rfl
  have hnew : CallsA Try.prog 22 [] σ (fun av σ' => av = .ptr σ.objs.length 0 ∧ σ' = St1 σ newSg) := new_st_ok
  have hset : ∀ {G : Sg} (v : List UInt8) (n : Nat), G.s.Ok n → n ≤ 1000 → v.length ≤ 1000 → CallsA Try.prog 33 [.ptr σ.objs.length 0, .sl 1 (bytesA [97]) 1 .shut, .sl 1 (bytesA v) v.length .shut] (St1 σ G) (fun av σ' => ∃ G', G'.s = doS G.s [97] (some v) ∧ av = .tup [] ∧ σ' = St1 σ G') := fun {G} v n hG hn hv =>
    callsA_mono (set_ok (key := [97]) (val := v) (t1 := .shut) (t2 := .shut) (St1.has σ G) hG (by omega) (by decide) (by omega)) (fun av σ' ⟨G', e1, e2, e3⟩ => ⟨G', e1, e2, by rw [e3, St1.put]⟩)
  have hdel : ∀ {G : Sg} (n : Nat), G.s.Ok n → n ≤ 1000 → CallsA Try.prog 42 [.ptr σ.objs.length 0, .sl 1 (bytesA [97]) 1 .shut] (St1 σ G) (fun av σ' => ∃ G', G'.s = doS G.s [97] none ∧ av = .tup [] ∧ σ' = St1 σ G') := fun {G} n hG hn =>
    callsA_mono (del_ok (key := [97]) (t1 := .shut) (St1.has σ G) hG (by omega) (by decide)) (fun av σ' ⟨G', e1, e2, e3⟩ => ⟨G', e1, e2, by rw [e3, St1.put]⟩)
  have hbeg : ∀ {G : Sg} (n : Nat), G.s.Ok n → n ≤ 1000 → CallsA Try.prog 35 [.ptr σ.objs.length 0] (St1 σ G) (fun av σ' => ∃ G', G'.s = beginS G.s ∧ av = .tup [] ∧ σ' = St1 σ G') := fun {G} n hG hn =>
    callsA_mono (begin_ok (St1.has σ G) hG (by omega)) (fun av σ' ⟨G', e1, e2, e3⟩ => ⟨G', e1, e2, by rw [e3, St1.put]⟩)
  have hcom : ∀ {G : Sg} (n : Nat), G.s.Ok n → n ≤ 1000 → CallsA Try.prog 36 [.ptr σ.objs.length 0] (St1 σ G) (fun av σ' => ∃ G', G'.s = commitS G.s ∧ av = .v (.bool (decide (G.s.marks ≠ []))) ∧ σ' = St1 σ G') := fun {G} n hG hn =>
    callsA_mono (commit_ok (St1.has σ G) hG (by omega)) (fun av σ' ⟨G', e1, e2, e3⟩ => ⟨G', e1, e2, by rw [e3, St1.put]⟩)
  have hrol : ∀ {G : Sg} (n : Nat), G.s.Ok n → n ≤ 1000 → G.s.marks ≠ [] → CallsA Try.prog 40 [.ptr σ.objs.length 0] (St1 σ G) (fun av σ' => ∃ G', G'.s = rollS G.s ∧ av = .v (.bool true) ∧ σ' = St1 σ G') := fun {G} n hG hn hm =>
    callsA_mono (rollback_ok (St1.has σ G) hG (by omega) hm) (fun av σ' ⟨G', e1, e2, e3⟩ => ⟨G', e1, e2, by rw [e3, St1.put]⟩)
  have o1 := doS_ok (k := [97]) (o := some [49]) newSg_ok (by decide) (by decide)
  have o2 := beginS_ok o1
  have o3 := doS_ok (k := [97]) (o := some [50]) o2 (by decide) (by decide)
  have o4 := beginS_ok o3
  have o5 := doS_ok (k := [97]) (o := none) o4 (by decide) (by decide)
  have o6 := commitS_ok o5
  obtain ⟨s1, q1⟩ : ∃ s, s = doS newSg.s [97] (some [49]) := ⟨_, rfl⟩
  obtain ⟨s2, q2⟩ : ∃ s, s = beginS s1 := ⟨_, rfl⟩
  obtain ⟨s3, q3⟩ : ∃ s, s = doS s2 [97] (some [50]) := ⟨_, rfl⟩
  obtain ⟨s4, q4⟩ : ∃ s, s = beginS s3 := ⟨_, rfl⟩
  obtain ⟨s5, q5⟩ : ∃ s, s = doS s4 [97] none := ⟨_, rfl⟩
  obtain ⟨s6, q6⟩ : ∃ s, s = commitS s5 := ⟨_, rfl⟩
  obtain ⟨s7, q7⟩ : ∃ s, s = rollS s6 := ⟨_, rfl⟩
  have m5 : decide (s5.marks ≠ []) = true := by rw [q5, q4, q3, q2, q1]; rfl
  have m6 : s6.marks ≠ [] := by rw [q6, q5, q4, q3, q2, q1]; decide
  have e7 : s7 = ⟨[⟨[97], [49]⟩], [], []⟩ := by rw [q7, q6, q5, q4, q3, q2, q1]; rfl
  have o7 : s7.Ok 1 := by
    rw [e7]
    exact ⟨by simp [Srt], by decide, by decide, by decide, fun p hp => by simp at hp; subst hp; decide, fun p hp => by simp at hp, fun p hp => by simp at hp⟩
  simp only [← q1, ← q2, ← q3, ← q4, ← q5, ← q6] at o1 o2 o3 o4 o5 o6
  have c1 : CallsA Try.prog 33 [.ptr σ.objs.length 0, .sl 1 (bytesA [97]) 1 .shut, .sl 1 (bytesA [49]) 1 .shut] (St1 σ newSg) (fun av σ' => ∃ G', G'.s = s1 ∧ av = .tup [] ∧ σ' = St1 σ G') := q1 ▸ hset [49] 0 newSg_ok (by omega) (by decide)
  have c2 : ∀ G : Sg, G.s = s1 → CallsA Try.prog 35 [.ptr σ.objs.length 0] (St1 σ G) (fun av σ' => ∃ G', G'.s = s2 ∧ av = .tup [] ∧ σ' = St1 σ G') := fun G e => by rw [q2, ← e]; exact hbeg 1 (by rw [e]; exact o1) (by omega)
  have c3 : ∀ G : Sg, G.s = s2 → CallsA Try.prog 33 [.ptr σ.objs.length 0, .sl 1 (bytesA [97]) 1 .shut, .sl 1 (bytesA [50]) 1 .shut] (St1 σ G) (fun av σ' => ∃ G', G'.s = s3 ∧ av = .tup [] ∧ σ' = St1 σ G') := fun G e => by rw [q3, ← e]; exact hset [50] 2 (by rw [e]; exact o2) (by omega) (by decide)
  have c4 : ∀ G : Sg, G.s = s3 → CallsA Try.prog 35 [.ptr σ.objs.length 0] (St1 σ G) (fun av σ' => ∃ G', G'.s = s4 ∧ av = .tup [] ∧ σ' = St1 σ G') := fun G e => by rw [q4, ← e]; exact hbeg 3 (by rw [e]; exact o3) (by omega)
  have c5 : ∀ G : Sg, G.s = s4 → CallsA Try.prog 42 [.ptr σ.objs.length 0, .sl 1 (bytesA [97]) 1 .shut] (St1 σ G) (fun av σ' => ∃ G', G'.s = s5 ∧ av = .tup [] ∧ σ' = St1 σ G') := fun G e => by rw [q5, ← e]; exact hdel 4 (by rw [e]; exact o4) (by omega)
  have c6 : ∀ G : Sg, G.s = s5 → CallsA Try.prog 36 [.ptr σ.objs.length 0] (St1 σ G) (fun av σ' => ∃ G', G'.s = s6 ∧ av = .v (.bool true) ∧ σ' = St1 σ G') := fun G e => by
    have := hcom (G := G) 5 (by rw [e]; exact o5) (by omega)
    rw [e, m5, ← q6] at this; exact this
  have c7 : ∀ G : Sg, G.s = s6 → CallsA Try.prog 40 [.ptr σ.objs.length 0] (St1 σ G) (fun av σ' => ∃ G', G'.s = s7 ∧ av = .v (.bool true) ∧ σ' = St1 σ G') := fun G e => by rw [q7, ← e]; exact hrol 5 (by rw [e]; exact o6) (by omega) (by rw [e]; exact m6)
  have hrn : ∀ G : Sg, G.s = s7 → CallsA Try.prog 40 [.ptr σ.objs.length 0] (St1 σ G) (fun av σ' => av = .v (.bool false) ∧ St1 σ G = σ') := fun G hG => rollback_no (n := 1) (St1.has σ G) (by rw [hG]; exact o7) (by omega) (by rw [hG, e7])
  have hge : ∀ G : Sg, G.s = s7 → CallsA Try.prog 24 [.ptr σ.objs.length 0, .sl 1 (bytesA [97]) 1 .shut] (St1 σ G) (fun av σ' => av = .tup [.sl 1 (bytesA [49]) 1 .shut, .v (.bool true)] ∧ St1 σ G = σ') := fun G hG => by
    have := get_ok (key := [97]) (t1 := .shut) (St1.has σ G) (by rw [hG]; exact o7) (by omega)
    rw [hG, e7] at this; exact this
  have hle : ∀ G : Sg, G.s = s7 → CallsA Try.prog 31 [.ptr σ.objs.length 0] (St1 σ G) (fun av σ' => av = .v (.int .i64 1) ∧ St1 σ G = σ') := fun G hG => by
    have := len_ok (St1.has σ G)
    rw [hG, e7] at this; exact this
  have hb97 : [AV.v (.int .u8 97)] = bytesA [97] := rfl
  have hb49 : [AV.v (.int .u8 49)] = bytesA [49] := rfl
  have hb50 : [AV.v (.int .u8 50)] = bytesA [50] := rfl
  have hst : (⟨[49].toArray⟩ : ByteArray).toList = [49] := ba_toList [49]
  have F := And.intro hst (True.intro)
  refine callsA_body Try.func20 rfl rfl rfl ?_; refine sr fun _ hJ2 => ?_; refine hJ2 _ _ ?_; refine sr fun _ hJ4 => ?_; refine ca (c := hnew) (k := ?_); rintro _ _ ⟨rfl, rfl⟩; (repeat (first | simp [F] | simp (disch := omega) only [wC, if_pos, if_neg])); refine hJ4 _ _ ?_; refine sq fun K5 hK5 => ?_; refine rgB (h := fun J6 hJ6 => ?_); refine go0 (k := ?_); refine sb2 rfl rfl rfl (k := ?_); refine sb2 rfl rfl rfl (k := ?_); refine rl (k := ?_); refine ca (c := c1) (k := ?_); rintro _ _ ⟨G1, e1, rfl, rfl⟩; (repeat (first | simp [F] | simp (disch := omega) only [wC, if_pos, if_neg])); refine hJ6 _ _ ?_; refine hK5 _ _ ?_; refine sr fun _ hJ8 => ?_; refine ca (c := c2 G1 e1) (k := ?_); rintro _ _ ⟨G2, e2, rfl, rfl⟩; (repeat (first | simp [F] | simp (disch := omega) only [wC, if_pos, if_neg])); refine hJ8 _ _ ?_; refine sq fun K9 hK9 => ?_; refine rgB (h := fun J10 hJ10 => ?_); refine go0 (k := ?_); refine sb2 rfl rfl rfl (k := ?_); refine sb2 rfl rfl rfl (k := ?_); refine rl (k := ?_); refine ca (c := c3 G2 e2) (k := ?_); rintro _ _ ⟨G3, e3, rfl, rfl⟩; (repeat (first | simp [F] | simp (disch := omega) only [wC, if_pos, if_neg])); refine hJ10 _ _ ?_; refine hK9 _ _ ?_; refine sr fun _ hJ12 => ?_; refine ca (c := c4 G3 e3) (k := ?_); rintro _ _ ⟨G4, e4, rfl, rfl⟩; (repeat (first | simp [F] | simp (disch := omega) only [wC, if_pos, if_neg])); refine hJ12 _ _ ?_; refine sq fun K13 hK13 => ?_; refine rgB (h := fun J14 hJ14 => ?_); refine go0 (k := ?_); refine sb2 rfl rfl rfl (k := ?_); refine rl (k := ?_); refine ca (c := c5 G4 e4) (k := ?_); rintro _ _ ⟨G5, e5, rfl, rfl⟩; (repeat (first | simp [F] | simp (disch := omega) only [wC, if_pos, if_neg])); refine hJ14 _ _ ?_; refine hK13 _ _ ?_; refine sq fun K15 hK15 => ?_; refine sr fun _ hJ17 => ?_; refine ca (c := c6 G5 e5) (k := ?_); rintro _ _ ⟨G6, e6, rfl, rfl⟩; (repeat (first | simp [F] | simp (disch := omega) only [wC, if_pos, if_neg])); refine go2 (k := ?_); refine ca (c := c7 G6 e6) (k := ?_); rintro _ _ ⟨G7, e7', rfl, rfl⟩; (repeat (first | simp [F] | simp (disch := omega) only [wC, if_pos, if_neg])); (iterate 2 refine go2 (k := ?_)); refine ca (c := hrn G7 e7') (k := ?_); rintro _ _ ⟨rfl, rfl⟩; (repeat (first | simp [F] | simp (disch := omega) only [wC, if_pos, if_neg])); refine hJ17 _ _ ?_; refine cf ?_; refine run_skip ?_; refine hK15 _ _ ?_; refine sq fun K18 hK18 => ?_; refine rgB (h := fun J19 hJ19 => ?_); refine go0 (k := ?_); refine sb2 rfl rfl rfl (k := ?_); refine rl (k := ?_); refine ca (c := hge G7 e7') (k := ?_); rintro _ _ ⟨rfl, rfl⟩; (repeat (first | simp [F] | simp (disch := omega) only [wC, if_pos, if_neg])); refine hJ19 _ _ ?_; refine hK18 _ _ ?_; refine sr fun _ hJ21 => ?_; (iterate 4 refine go2 (k := ?_)); refine ca (c := hle G7 e7') (k := ?_); rintro _ _ ⟨rfl, rfl⟩; (repeat (first | simp [F] | simp (disch := omega) only [wC, if_pos, if_neg])); refine go2 (k := ?_); refine hJ21 _ _ ?_; refine ra ?_; exact gcr

def St2 (σ : St) (G : Sg) (M : RS) : St := { σ with objs := σ.objs ++ [stC σ.rows.length G, rmC (σ.rows.length + 3) M], rows := σ.rows ++ [stR1 G, stR2 G, stR3 G, rmR M] }
theorem St2.s (σ : St) (G : Sg) (M : RS) : HasS (St2 σ G M) σ.objs.length σ.rows.length G := ⟨by simp [St2], by simp [St2], by simp [St2], by simp [St2]⟩
theorem St2.r (σ : St) (G : Sg) (M : RS) : HasR (St2 σ G M) (σ.objs.length + 1) (σ.rows.length + 3) M := ⟨by simp [St2], by simp [St2]⟩
theorem St2.a (σ : St) : Apart σ.objs.length σ.rows.length (σ.objs.length + 1) (σ.rows.length + 3) := ⟨by omega, by omega, by omega, by omega⟩
section
variable {z : Zone} {P : Program} {N : Nat} {ρ : Nat → AV} {σ : St}
end
structure LS where
  i : Nat
  G : Sg
  M : RS
set_option maxHeartbeats 1600000 in
attribute [local simp] undefA List.getElem?_cons_zero List.getElem?_cons_succ in
theorem doN_ok {σ : St} {x y : AV} {is : Bool} (hx : x.under σ.bd = true) (hy : y.under σ.bd = true) :
    CallsA Try.prog 79 [.v (.pointer none), .agg [x, y], .v (.bool is)] σ (fun av σ' => av = .tup [] ∧ σ = σ') := by
  refine callsA_gcS ?_ rfl
  have F := True.intro
  refine callsA_body Try.func79 rfl rfl rfl ?_; refine sr fun _ hJ2 => ?_; refine hJ2 _ _ ?_; refine sq fun K3 hK3 => ?_; refine sr fun _ hJ5 => ?_; refine hJ5 _ _ ?_; refine ct ?_; refine run_ret ?_; (try simp only [Then, InBlock, NoGoto, if_true]); refine answer_none rfl (.inr rfl) ?_; exact gcr

set_option maxHeartbeats 1600000 in
attribute [local simp] undefA List.getElem?_cons_zero List.getElem?_cons_succ in
theorem setN_ok {σ : St} {key val : List UInt8} {t1 t2 : Tail} (hk : key.length ≤ 1000000) (hv : val.length ≤ 1000000) :
    CallsA Try.prog 33 [.v (.pointer none), .sl 1 (bytesA key) key.length t1, .sl 1 (bytesA val) val.length t2] σ (fun av σ' => av = .tup [] ∧ σ = σ') := by
  refine callsA_gcS ?_ rfl
  have F := True.intro
  refine callsA_body Try.func33 rfl rfl rfl ?_; refine rg' (h := fun J1 hJ1 => ?_); refine ca (c := clone_ok hk) (k := ?_); rintro _ _ ⟨rfl, rfl⟩; (repeat (first | simp [F] | simp (disch := omega) only [wC, if_pos, if_neg])); refine ca (c := clone_ok hv) (k := ?_); rintro _ _ ⟨rfl, rfl⟩; (repeat (first | simp [F] | simp (disch := omega) only [wC, if_pos, if_neg])); refine ca (c := doN_ok (byC_under _ key) (byC_under _ val)) (k := ?_); rintro _ _ ⟨rfl, rfl⟩; (repeat (first | simp [F] | simp (disch := omega) only [wC, if_pos, if_neg])); refine hJ1 _ _ ?_; (try simp only [Then, InBlock, NoGoto, if_true]); refine answer_none rfl (.inl rfl) ?_; exact gcr

set_option maxHeartbeats 1600000 in
attribute [local simp] undefA List.getElem?_cons_zero List.getElem?_cons_succ in
theorem delN_ok {σ : St} {key : List UInt8} {t1 : Tail} (hk : key.length ≤ 1000000) :
    CallsA Try.prog 42 [.v (.pointer none), .sl 1 (bytesA key) key.length t1] σ (fun av σ' => av = .tup [] ∧ σ = σ') := by
  refine callsA_gcS ?_ rfl
  have F := True.intro
  refine callsA_body Try.func42 rfl rfl rfl ?_; refine rg' (h := fun J1 hJ1 => ?_); refine ca (c := clone_ok hk) (k := ?_); rintro _ _ ⟨rfl, rfl⟩; (repeat (first | simp [F] | simp (disch := omega) only [wC, if_pos, if_neg])); refine ca (c := doN_ok (byC_under _ key) (y := .sl 0 [] 0 .full) rfl) (k := ?_); rintro _ _ ⟨rfl, rfl⟩; (repeat (first | simp [F] | simp (disch := omega) only [wC, if_pos, if_neg])); refine hJ1 _ _ ?_; (try simp only [Then, InBlock, NoGoto, if_true]); refine answer_none rfl (.inl rfl) ?_; exact gcr

set_option maxHeartbeats 1600000 in
attribute [local simp] undefA List.getElem?_cons_zero List.getElem?_cons_succ in
theorem sameN1_ok {σ : St} {o k : Nat} {G : Sg} (h : HasS σ o k G) (hl : G.s.l = []) :
    CallsA Try.prog 37 [.v (.pointer none), .ptr o 0] σ (fun av σ' => av = .v (.bool true) ∧ σ = σ') := by
  have hlb := len_ok h
  rw [hl] at hlb
  have F := True.intro
  refine callsA_body Try.func37 rfl rfl rfl ?_; refine sr fun _ hJ2 => ?_; refine hJ2 _ _ ?_; refine sq fun K3 hK3 => ?_; refine sr fun _ hJ5 => ?_; refine ca (c := lenN_ok) (k := ?_); rintro _ _ ⟨rfl, rfl⟩; (repeat (first | simp [F] | simp (disch := omega) only [wC, if_pos, if_neg])); refine ca (c := hlb) (k := ?_); rintro _ _ ⟨rfl, rfl⟩; (repeat (first | simp [F] | simp (disch := omega) only [wC, if_pos, if_neg])); refine hJ5 _ _ ?_; refine cf ?_; refine run_skip ?_; refine hK3 _ _ ?_; refine sq fun K6 hK6 => ?_; refine sr fun _ hJ8 => ?_; refine ca (c := keysN_ok) (k := ?_); rintro _ _ ⟨rfl, rfl⟩; (repeat (first | simp [F] | simp (disch := omega) only [wC, if_pos, if_neg])); refine hJ8 _ _ ?_; refine run_block_k ?_; refine run_loopF (X := Nat) [0, 1, 17, 18] (fun i ρ σ1 => (ρ 19 = .v (.int .i64 0)) ∧ (σ1 = σ)) (fun i => 0) (0) ?st1 ?rd1
  case st1 =>
   refine ⟨lp, lp⟩
  case rd1 =>
   rintro i ρ1 σ1 hF1 ⟨h19, hσ⟩; obtain rfl := hσ.symm
   have f1 := keepL hF1
   (try simp [KeepL, F] at f1); replace F := aF h19 F; (try replace F := aF f1 F); refine sr fun _ hJ10 => ?_; refine hJ10 _ _ ?_; refine sq fun K11 hK11 => ?_; refine cf ?_; refine run_exit ?_; refine hK6 _ _ ?_; refine sr fun _ hJ13 => ?_; refine hJ13 _ _ ?_; refine ra ?_; exact rt

set_option maxHeartbeats 1600000 in
attribute [local simp] undefA List.getElem?_cons_zero List.getElem?_cons_succ in
theorem sameNN_ok {σ : St} :
    CallsA Try.prog 37 [.v (.pointer none), .v (.pointer none)] σ (fun av σ' => av = .v (.bool true) ∧ σ = σ') := by
  have F := True.intro
  refine callsA_body Try.func37 rfl rfl rfl ?_; refine sr fun _ hJ2 => ?_; refine hJ2 _ _ ?_; refine sq fun K3 hK3 => ?_; refine sr fun _ hJ5 => ?_; refine ca (c := lenN_ok) (k := ?_); rintro _ _ ⟨rfl, rfl⟩; (repeat (first | simp [F] | simp (disch := omega) only [wC, if_pos, if_neg])); refine ca (c := lenN_ok) (k := ?_); rintro _ _ ⟨rfl, rfl⟩; (repeat (first | simp [F] | simp (disch := omega) only [wC, if_pos, if_neg])); refine hJ5 _ _ ?_; refine cf ?_; refine run_skip ?_; refine hK3 _ _ ?_; refine sq fun K6 hK6 => ?_; refine sr fun _ hJ8 => ?_; refine ca (c := keysN_ok) (k := ?_); rintro _ _ ⟨rfl, rfl⟩; (repeat (first | simp [F] | simp (disch := omega) only [wC, if_pos, if_neg])); refine hJ8 _ _ ?_; refine run_block_k ?_; refine run_loopF (X := Nat) [0, 1, 17, 18] (fun i ρ σ1 => (ρ 19 = .v (.int .i64 0)) ∧ (σ1 = σ)) (fun i => 0) (0) ?st1 ?rd1
  case st1 =>
   refine ⟨lp, lp⟩
  case rd1 =>
   rintro i ρ1 σ1 hF1 ⟨h19, hσ⟩; obtain rfl := hσ.symm
   have f1 := keepL hF1
   (try simp [KeepL, F] at f1); replace F := aF h19 F; (try replace F := aF f1 F); refine sr fun _ hJ10 => ?_; refine hJ10 _ _ ?_; refine sq fun K11 hK11 => ?_; refine cf ?_; refine run_exit ?_; refine hK6 _ _ ?_; refine sr fun _ hJ13 => ?_; refine hJ13 _ _ ?_; refine ra ?_; exact rt

set_option maxHeartbeats 1600000 in
attribute [local simp] undefA List.getElem?_cons_zero List.getElem?_cons_succ byC in
theorem storeNil_ok {σ : St} {key value : List UInt8} (hk : key.length ≤ 9223372036854775807) (hv : value.length ≤ 9223372036854775807) :
    CallsA Try.prog 10 [.sl 1 (bytesA key) key.length .shut, .sl 1 (bytesA value) value.length .shut] σ (fun av σ' => av = .v (.bool true) ∧ σ = σ') := by
  refine callsA_gcS ?_ rfl
  have hnew : CallsA Try.prog 22 [] σ (fun av σ' => av = .ptr σ.objs.length 0 ∧ σ' = St1 σ newSg) := new_st_ok
  have hsm := sameN1_ok (St1.has σ newSg) rfl
  have F := True.intro
  refine callsA_body Try.func10 rfl rfl rfl ?_; refine sr fun _ hJ2 => ?_; refine hJ2 _ _ ?_; refine sq fun K3 hK3 => ?_; refine sr fun _ hJ5 => ?_; refine ca (c := rolls_ok) (k := ?_); rintro _ _ ⟨rfl, rfl⟩; (repeat (first | simp [F] | simp (disch := omega) only [wC, if_pos, if_neg])); (iterate 3 refine go2 (k := ?_)); refine gs 15 (fun g1_7 => ?_) (fun g1_7 => ?_)
  · (try exact nope g1_7); all_goals have g1_7p := g1_7; try simp [F] at g1_7p
    all_goals
     replace F := aF g1_7 F; (try replace F := aF g1_7p F); (iterate 3 refine no2 (k := ?_)); refine hJ5 _ _ ?_; refine ct ?_; refine sr fun _ hJ7 => ?_; refine ca (c := rolls_ok) (k := ?_); rintro _ _ ⟨rfl, rfl⟩; (repeat (first | simp [F] | simp (disch := omega) only [wC, if_pos, if_neg])); refine hJ7 _ _ ?_; refine ra ?_; exact gcr
  (try exact nope g1_7); all_goals have g1_7p := g1_7; try simp [F] at g1_7p
  all_goals
   replace F := aF g1_7 F; (try replace F := aF g1_7p F); (iterate 3 refine go2 (k := ?_)); refine hJ5 _ _ ?_; refine cs (fun c19 => ?_) (fun c19 => ?_)
   · (try exact nope c19); all_goals have c19p := c19; try simp [F] at c19p
     all_goals
      replace F := aF c19 F; (try replace F := aF c19p F); refine sr fun _ hJ9 => ?_; refine ca (c := rolls_ok) (k := ?_); rintro _ _ ⟨rfl, rfl⟩; (repeat (first | simp [F] | simp (disch := omega) only [wC, if_pos, if_neg])); refine hJ9 _ _ ?_; refine ra ?_; exact gcr
   (try exact nope c19); all_goals have c19p := c19; try simp [F] at c19p
   all_goals
    replace F := aF c19 F; try replace F := aF c19p F
    have hk1 : key.length ≤ 1000000 := by have h := g1_7; simp at h; omega
    have hv1 : value.length ≤ 1000000 := by have h := c19; simp at h; omega
    refine run_skip ?_; refine hK3 _ _ ?_; refine sr fun _ hJ11 => ?_; refine hJ11 _ _ ?_; refine sr fun _ hJ13 => ?_; refine ca (c := setN_ok hk1 hv1) (k := ?_); rintro _ _ ⟨rfl, rfl⟩; (repeat (first | simp [F] | simp (disch := omega) only [wC, if_pos, if_neg])); refine hJ13 _ _ ?_; refine sr fun _ hJ15 => ?_; refine ca (c := delN_ok hk1) (k := ?_); rintro _ _ ⟨rfl, rfl⟩; (repeat (first | simp [F] | simp (disch := omega) only [wC, if_pos, if_neg])); refine hJ15 _ _ ?_; refine sr fun _ hJ17 => ?_; refine ca (c := beginN_ok) (k := ?_); rintro _ _ ⟨rfl, rfl⟩; (repeat (first | simp [F] | simp (disch := omega) only [wC, if_pos, if_neg])); refine hJ17 _ _ ?_; refine sr fun _ hJ19 => ?_; refine ca (c := getN_ok) (k := ?_); rintro _ _ ⟨rfl, rfl⟩; (repeat (first | simp [F] | simp (disch := omega) only [wC, if_pos, if_neg])); refine hJ19 _ _ ?_; refine sr fun _ hJ21 => ?_; (iterate 2 refine go2 (k := ?_)); refine ca (c := keysN_ok) (k := ?_); rintro _ _ ⟨rfl, rfl⟩; (repeat (first | simp [F] | simp (disch := omega) only [wC, if_pos, if_neg])); (iterate 3 refine go2 (k := ?_)); refine ca (c := commitN_ok) (k := ?_); rintro _ _ ⟨rfl, rfl⟩; (repeat (first | simp [F] | simp (disch := omega) only [wC, if_pos, if_neg])); (iterate 2 refine go2 (k := ?_)); refine ca (c := rollbackN_ok) (k := ?_); rintro _ _ ⟨rfl, rfl⟩; (repeat (first | simp [F] | simp (disch := omega) only [wC, if_pos, if_neg])); (iterate 2 refine go2 (k := ?_)); refine ca (c := depthN_ok) (k := ?_); rintro _ _ ⟨rfl, rfl⟩; (repeat (first | simp [F] | simp (disch := omega) only [wC, if_pos, if_neg])); (iterate 2 refine go2 (k := ?_)); refine ca (c := lenN_ok) (k := ?_); rintro _ _ ⟨rfl, rfl⟩; (repeat (first | simp [F] | simp (disch := omega) only [wC, if_pos, if_neg])); (iterate 2 refine go2 (k := ?_)); refine ca (c := copyN_ok) (k := ?_); rintro _ _ ⟨rfl, rfl⟩; (repeat (first | simp [F] | simp (disch := omega) only [wC, if_pos, if_neg])); refine go2 (k := ?_); refine ca (c := hnew) (k := ?_); rintro _ _ ⟨rfl, rfl⟩; (repeat (first | simp [F] | simp (disch := omega) only [wC, if_pos, if_neg])); refine ca (c := hsm) (k := ?_); rintro _ _ ⟨rfl, rfl⟩; (repeat (first | simp [F] | simp (disch := omega) only [wC, if_pos, if_neg])); refine ca (c := sameNN_ok) (k := ?_); rintro _ _ ⟨rfl, rfl⟩; (repeat (first | simp [F] | simp (disch := omega) only [wC, if_pos, if_neg])); refine hJ21 _ _ ?_; refine ra ?_; exact gcr
end Go.Proofs.Ytlkajgjaidedkaa

/-
  Plans: what they are, when they are right.
-/
namespace Go.Vm
open Go

structure Per where
  l : Nat
  c : List Coin
deriving DecidableEq

structure Pln where
  k : UInt8
  s : Nat
  e : Nat
  tot : List Coin
  ps : List Per
deriving DecidableEq

def perC (p : Per) : List AV := [.v (.int .u64 p.l), .sl 5 (coinsC p.c) p.c.length .shut]
def persC (l : List Per) : List AV := l.flatMap perC
@[simp] theorem persC_nil : persC [] = [] := rfl
@[simp] theorem persC_len (l : List Per) : (persC l).length = l.length * 2 := flat_length perC 2 (fun _ => rfl) l
structure PerQ where
  i : Nat
  e : Nat
  a : List Coin

section
variable {P : Program} {z : Zone} {N : Nat} {σ : St} {ρ : Nat → AV}
end

end Go.Vm

/-
  Arguments: numbers, lists of coins, plans.
-/
namespace Go.Vm
set_option linter.unnecessarySimpa false
set_option linter.unusedVariables false
open Go

theorem leavesF_mono {go go' : TypeId → Option (List TypeId)} (h : ∀ t l, go t = some l → go' t = some l) : ∀ (fs : List Field) (acc ls : List TypeId), leavesF go fs acc = some ls → leavesF go' fs acc = some ls
  | [], acc, ls, e => e
  | f :: fs, acc, ls, e => by
    simp only [leavesF] at e ⊢
    split at e
    · rename_i hf
      rw [if_pos hf]
      cases hg : go f.type with
      | none => rw [hg] at e; cases e
      | some l =>
        rw [hg] at e
        rw [h _ _ hg]
        exact leavesF_mono h fs _ ls e
    · cases e

theorem leaves_succ {P : Program} : ∀ (n : Nat) (t : TypeId) (l : List TypeId), leaves P n t = some l → leaves P (n + 1) t = some l
  | 0, t, l, h => by simp [leaves] at h
  | n + 1, t, l, h => by
    have ih := leaves_succ (P := P) n
    rw [leaves] at h ⊢
    split at h
    · exact h
    · exact h
    · exact h
    · rename_i e hu
      cases hg : leaves P n e with
      | none => rw [hg] at h; cases h
      | some l' => rw [hg] at h; simp only [ih _ _ hg]; exact h
    · rename_i fs hu
      cases hg : leavesF (leaves P n) fs.toList [] with
      | none => rw [hg] at h; cases h
      | some l' => rw [hg] at h; simp only [leavesF_mono ih _ _ _ hg]; exact h
    · rename_i k e hu
      cases hg : leaves P n e with
      | none => rw [hg] at h; cases h
      | some l' => rw [hg] at h; simp only [ih _ _ hg]; exact h
    · cases h

theorem leaves_add {P : Program} {n : Nat} {t : TypeId} {l : List TypeId} (h : leaves P n t = some l) : ∀ k, leaves P (n + k) t = some l
  | 0 => h
  | k + 1 => leaves_succ _ _ _ (leaves_add h k)
theorem leaves_one {P : Program} {n m : Nat} {t : TypeId} {l l' : List TypeId} (h : leaves P n t = some l) (h' : leaves P m t = some l') : l = l' := by
  have h1 := leaves_add h m
  have h2 := leaves_add h' n
  rw [Nat.add_comm] at h2
  rw [h1] at h2
  exact Option.some.inj h2

theorem u8_of {P : Program} {u : TypeId} {a : AV} (hu : P.underlying u = some (.int .u8)) (w : WC P u a) : ∃ b : UInt8, a = .v (.int .u8 b.toNat) := by
  cases w with
  | bool h => rw [hu] at h; cases h
  | string h _ => rw [hu] at h; cases h
  | slice h _ _ _ _ => rw [hu] at h; cases h
  | int h hw =>
    rename_i k n
    rw [hu] at h
    cases h
    have m1 : IntKind.u8.min = 0 := rfl
    have m2 : IntKind.u8.max = 255 := rfl
    simp [Lit.wf, m1, m2] at hw
    refine ⟨UInt8.ofNat n.toNat, ?_⟩
    have e : (UInt8.ofNat n.toNat).toNat = n.toNat := toNat_u8 (by omega)
    rw [e]
    congr 2; omega

theorem wc_len {P : Program} {t : TypeId} {sz n : Nat} {cs : List AV} {tl : Tail} (w : WC P t (.sl sz cs n tl)) : n ≤ 9223372036854775807 := by
  generalize hx : AV.sl sz cs n tl = x at w
  cases w with
  | bool h => cases hx
  | string h _ => cases hx
  | int h _ => cases hx
  | slice h hls hl hn hc => cases hx; exact hn

end Go.Vm
