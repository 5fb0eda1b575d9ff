import Derived.Test.YtmponlabfccjaaaZ7
import Derived.Test.YtmponlabfccjaaaZ10
import Derived.Test.YtmponlabfccjaaaZ13
/-
  Bytes: alike, compared, begun with.
-/
namespace Go.Proofs.Ytmponlabfccjaaa
set_option linter.unnecessarySimpa false
set_option maxRecDepth 100000
open Go Go.Vm
set_option linter.unusedSimpArgs false
set_option linter.unusedVariables false
attribute [local simp] evalL wantedA isCall opA evalA evalAll evalsA evalOpt ofValue ofCell plain binA_eql_pn binA_neq_pn binA_gtr binA_lss binA_geq binA_leq binA_add binA_sub binA_eql binA_neq binA_orI binA_shl binA_shr binA_mul binA_quo binA_rem binA_agg_eql binA_agg_neq convA_int unA_not fieldAddrA loadA partA pickA_true pickA_false pickA_bb lenA builtinA storeA splice AV.cells AV.isCell sliceA boundA intA callOf indexAddrA newObjA buildA fillA zeroA ofCells buildSliceA indexA fieldA set_appN get_appN take_appN List.getElem?_cons_zero List.getElem?_cons_succ

theorem convA_bytes {P : Program} {s d : TypeId} {p : List UInt8} {n : Nat} {t : Tail} : convA P s d (.sl 1 (bytesA p) n t) = (match elemT P s, isStrT P d with
    | some e, true => if isU8 P e then some (.v (.string ⟨p.toArray⟩)) else none
    | _, _ => none) := by
  simp only [convA, bytesOf_bytes]
  cases elemT P s with
  | none => rfl
  | some e => cases isStrT P d <;> simp

set_option maxHeartbeats 1600000 in
attribute [local simp] undefA List.getElem?_cons_zero List.getElem?_cons_succ convA_bytes binA_eql_str ba_toList in
theorem equal_ok {σ : St} {p q : List UInt8} {m n : Nat} {t1 t2 : Tail} : CallsA Try.prog 116 [.sl 1 (bytesA p) m t1, .sl 1 (bytesA q) n t2] σ (fun av σ' => av = .v (.bool (decide (p = q))) ∧ σ = σ') := by
  have he : (p == q) = decide (p = q) := by rw [Bool.eq_iff_iff]; simp
  have F := And.intro he (True.intro)
  refine callsA_body Try.func116 rfl rfl rfl ?_; refine sr fun _ hJ2 => ?_; refine hJ2 _ _ ?_; refine sr fun _ hJ4 => ?_; refine hJ4 _ _ ?_; refine ra ?_; exact rt

set_option maxHeartbeats 1600000 in
attribute [local simp] undefA List.getElem?_cons_zero List.getElem?_cons_succ in
theorem compare_ok {σ : St} {p q : List UInt8} {t1 t2 : Tail} : CallsA Try.prog 115 [.sl 1 (bytesA p) p.length t1, .sl 1 (bytesA q) q.length t2] σ (fun av σ' => av = .v (.int .i64 (cmpB p q)) ∧ σ = σ') := by
  have F := True.intro
  refine callsA_body Try.func115 rfl rfl rfl ?_; refine sr fun _ hJ2 => ?_; refine hJ2 _ _ ?_; refine sr fun _ hJ4 => ?_
  refine ce (c := compare_ext Try.func126 (by kernel_rfl) (by kernel_rfl) (by kernel_rfl) (by kernel_rfl)) (k := ?_)
  rintro _ _ rfl rfl; (repeat (first | simp [F] | simp (disch := omega) only [wC, if_pos, if_neg])); refine hJ4 _ _ ?_; refine ra ?_; exact rt

def preB (p q : List UInt8) : Bool := decide (q.length ≤ p.length) && decide (p.take q.length = q)

set_option maxHeartbeats 1600000 in
attribute [local simp] undefA List.getElem?_cons_zero List.getElem?_cons_succ preB in
theorem prefix_ok {σ : St} {p q : List UInt8} {t1 t2 : Tail} : CallsA Try.prog 88 [.sl 1 (bytesA p) p.length t1, .sl 1 (bytesA q) q.length t2] σ (fun av σ' => av = .v (.bool (preB p q)) ∧ σ = σ') := by
  have ht := bytesA_take p q.length
  have F := And.intro ht (True.intro)
  refine callsA_body Try.func88 rfl rfl rfl ?_; refine sr fun _ hJ2 => ?_; refine hJ2 _ _ ?_; refine sr fun _ hJ4 => ?_; refine gs 10 (fun g1_5 => ?_) (fun g1_5 => ?_)
  · (try exact nope g1_5); all_goals have g1_5p := g1_5; try simp [F] at g1_5p
    all_goals
     replace F := aF g1_5 F; (try replace F := aF g1_5p F); (iterate 5 refine go2 (k := ?_)); refine ca (c := equal_ok (p := p.take q.length) (q := q)) (k := ?_); rintro _ _ ⟨rfl, rfl⟩; (repeat (first | simp [F] | simp (disch := omega) only [wC, if_pos, if_neg])); refine hJ4 _ _ ?_; refine ra ?_; exact rt
  (try exact nope g1_5); all_goals have g1_5p := g1_5; try simp [F] at g1_5p
  all_goals
   replace F := aF g1_5 F; (try replace F := aF g1_5p F); (iterate 6 refine no2 (k := ?_)); refine hJ4 _ _ ?_; refine ra ?_; exact rt

set_option maxHeartbeats 1600000 in
attribute [local simp] undefA List.getElem?_cons_zero List.getElem?_cons_succ in
theorem search_ok {σ : St} {n fid : Nat} {caps : List AV} (pred : Nat → Bool) (hn : n ≤ 4000000000000000000) (hcb : callable Try.prog fid = true)
    (hf : ∀ i : Nat, i < n → CallsA Try.prog fid (.v (.int .i64 i) :: caps) σ (fun av σ' => av = .v (.bool (pred i)) ∧ σ = σ')) :
    CallsA Try.prog 113 [.v (.int .i64 n), .fn fid caps] σ (fun av σ' => (∃ r : Nat, av = .v (.int .i64 r) ∧ r ≤ n ∧ (0 < r → pred (r - 1) = false) ∧ (r < n → pred r = true)) ∧ σ = σ') := by
  have F := True.intro
  refine callsA_body Try.func113 rfl rfl rfl ?_; refine sr fun _ hJ2 => ?_; refine hJ2 _ _ ?_; refine sr fun _ hJ4 => ?_; refine hJ4 _ _ ?_; refine sq fun K5 hK5 => ?_; refine run_block_k ?_; refine run_loopF (X := Nat × Nat) [1, 4] (fun q ρ σ1 => (q.1 ≤ q.2) ∧ (q.2 ≤ n) ∧ (0 < q.1 → pred (q.1 - 1) = false) ∧ (q.2 < n → pred q.2 = true) ∧ (ρ 5 = .v (.int .i64 q.1)) ∧ (ρ 6 = .v (.int .i64 q.2)) ∧ (σ1 = σ)) (fun q => q.2 - q.1) ((0, n)) ?st1 ?rd1
  case st1 =>
   refine ⟨lp, lp, ?_, ?_, lp, lp, lp⟩
   · intro h
     simp at h
   · intro h
     simp at h
  case rd1 =>
   rintro q ρ1 σ1 hF1 ⟨h1, h2, h3, h4, h5, h6, hσ⟩; obtain rfl := hσ.symm
   have f1 := keepL hF1
   (try simp [KeepL, F] at f1); replace F := aF h5 F; replace F := aF h6 F; (try replace F := aF f1 F); refine sq fun K6 hK6 => ?_; refine sr fun _ hJ8 => ?_; refine hJ8 _ _ ?_; refine cs (fun c11 => ?_) (fun c11 => ?_)
   · (try exact nope c11); all_goals have c11p := c11; try simp [F] at c11p
     all_goals
      replace F := aF c11 F; (try replace F := aF c11p F); refine run_skip ?_; refine hK6 _ _ ?_; refine run_block_k ?_; refine sq fun K9 hK9 => ?_
      have hlt : q.1 < q.2 := by simp at c11; omega
      obtain ⟨i, j⟩ := q
      simp only at *
      obtain ⟨h, hh⟩ : ∃ h, h = (i + j) / 2 := ⟨_, rfl⟩
      have hw1 : IntKind.i64.wrap ((i : Int) + (j : Int)) = ((i + j : Nat) : Int) := wrap_i64 _ (by omega) (by omega)
      have hw2 : IntKind.u64.wrap ((i : Int) + (j : Int)) = ((i + j : Nat) : Int) := by rw [show (i : Int) + (j : Int) = ((i + j : Nat) : Int) by simp, wrap_u64, Nat.mod_eq_of_lt (by omega)]
      have hw3 : IntKind.i64.wrap (((i : Int) + (j : Int)).fdiv 2) = (h : Int) := by rw [Int.fdiv_eq_ediv_of_nonneg _ (by omega), wrap_i64 _ (by omega) (by omega)]; omega
      have hhj : h < j := by omega
      have hih : i ≤ h := by omega
      have hw4 : IntKind.i64.wrap ((h : Int) + 1) = ((h + 1 : Nat) : Int) := wrap_i64 _ (by omega) (by omega)
      replace F := aF hw1 F; replace F := aF hw2 F; replace F := aF hw3 F; replace F := aF hw4 F; refine rg' (h := fun J10 hJ10 => ?_); refine hJ10 _ _ ?_; refine hK9 _ _ ?_; refine sr fun _ hJ12 => ?_
      refine ca (c := hf h (by omega)) (k := ?_)
      rintro _ _ ⟨rfl, rfl⟩; (repeat (first | simp [F] | simp (disch := omega) only [wC, if_pos, if_neg])); refine hJ12 _ _ ?_; refine cs (fun c21 => ?_) (fun c21 => ?_)
      · (try exact nope c21); all_goals have c21p := c21; try simp [F] at c21p
        all_goals
         replace F := aF c21 F; (try replace F := aF c21p F); refine rg' (h := fun J13 hJ13 => ?_); refine hJ13 _ _ ?_; refine ⟨((h + 1, j)), ⟨kp, lp, lp, ?_, lp, lp, lp, lp⟩, ?_⟩
         · intro _
           simp at c21
           simpa using c21
         · simp
           omega
      (try exact nope c21); all_goals have c21p := c21; try simp [F] at c21p
      all_goals
       replace F := aF c21 F; (try replace F := aF c21p F); refine rg' (h := fun J14 hJ14 => ?_); refine hJ14 _ _ ?_; refine ⟨((i, h)), ⟨kp, lp, lp, lp, ?_, lp, lp, lp⟩, ?_⟩
       · intro _
         simp at c21
         simpa using c21
       · simp
         omega
   (try exact nope c11); all_goals have c11p := c11; try simp [F] at c11p
   all_goals
    replace F := aF c11 F; (try replace F := aF c11p F); refine run_exit ?_; refine hK5 _ _ ?_; refine sr fun _ hJ16 => ?_; refine hJ16 _ _ ?_; refine ra ?_
    refine ⟨⟨q.1, ?_, by omega, h3, fun h => ?_⟩, rfl⟩
    · simp [F]
    · have : q.1 = q.2 := by simp at c11; omega
      rw [this] at h ⊢; exact h4 h

theorem cmpB_ge (a b : List UInt8) : decide (0 ≤ cmpB a b) = !ltB a b := by
  unfold cmpB
  split
  · rename_i e; subst e; simp [ltB_irr]
  · cases ltB a b <;> simp
theorem prsC_len (l : List Pr) : (prsC l).length = l.length * 2 := by
  induction l with
  | nil => rfl
  | cons p l ih => simp only [prsC, List.flatMap_cons, List.length_append, prC, List.length_cons, List.length_nil] at ih ⊢; omega
theorem prsC_at : ∀ {l : List Pr} {i : Nat} (h : i < l.length), (prsC l)[i * 2]? = some (byC l[i].k) ∧ (prsC l)[i * 2 + 1]? = some (byC l[i].v)
  | p :: l, 0, h => ⟨rfl, rfl⟩
  | p :: l, i + 1, h => by
    have := prsC_at (l := l) (i := i) (by simpa using h)
    have e1 : (i + 1) * 2 = i * 2 + 2 := by omega
    rw [e1]
    exact this

set_option maxHeartbeats 1600000 in
attribute [local simp] undefA List.getElem?_cons_zero List.getElem?_cons_succ in
theorem findF_ok {σ : St} {b1 b2 o k i : Nat} {G : Sg} {key : List UInt8} {t : Tail} (h1 : σ.objs[b1]? = some [.ptr o 0]) (h2 : σ.objs[b2]? = some [.sl 1 (bytesA key) key.length t]) (h : HasS σ o k G) (hi : i < G.s.l.length) :
    CallsA Try.prog 114 [.v (.int .i64 i), .ptr b1 0, .ptr b2 0] σ (fun av σ' => av = .v (.bool (!ltB (G.s.l[i]).k key)) ∧ σ = σ') := by
  obtain ⟨ho, hr1, hr2, hr3⟩ := h
  obtain ⟨⟨l, log, marks⟩, g1, g2, g3⟩ := G
  simp only [stC, stR1, stR2, stR3] at ho hr1 hr2 hr3 hi ⊢
  have hat := (prsC_at hi).1
  have hc := cmpB_ge l[i].k key
  have F := And.intro ho (And.intro hr1 (And.intro h1 (And.intro h2 (And.intro hi (And.intro hat (And.intro hc (True.intro)))))))
  refine callsA_body Try.func114 rfl rfl rfl ?_; refine sr fun _ hJ2 => ?_; refine hJ2 _ _ ?_; refine sq fun K3 hK3 => ?_
  refine run_draw (by kernel_rfl) fun J4 hJ4 => ?_
  refine rp2 0 (k := ?_); refine rp2 1 (k := ?_); refine rp2 2 (k := ?_); refine rp2 3 (k := ?_); refine rp2 4 (k := ?_); refine rp2 5 (k := ?_); refine rp2 6 (k := ?_); refine rp2 7 (k := ?_); refine rp2 8 (k := ?_); refine dc 9 rfl (c := compare_ok) (k := ?_); rintro _ _ ⟨rfl, rfl⟩
  refine ⟨by first | exact fun _ _ h => h | (refine later_list [6, 5, 4, 3, 2, 1, 0] (by kernel_rfl) (List.forall_mem_cons.2 ⟨fun _ => fact2 rfl rfl ?_, List.forall_mem_cons.2 ⟨fun _ => fact2 rfl rfl ?_, List.forall_mem_cons.2 ⟨fun _ => fact2 rfl rfl ?_, List.forall_mem_cons.2 ⟨fun _ => fact2 rfl rfl ?_, List.forall_mem_cons.2 ⟨fun _ => fact2 rfl rfl ?_, List.forall_mem_cons.2 ⟨fun _ => fact2 rfl rfl ?_, List.forall_mem_cons.2 ⟨fun _ => fact2 rfl rfl ?_, fun _ h => absurd h List.not_mem_nil⟩⟩⟩⟩⟩⟩⟩) <;> constructor <;> first | rfl | (simp [F]; done)), ?_⟩
  (repeat (first | simp [F] | simp (disch := omega) only [wC, if_pos, if_neg])); refine rp2 10 (k := ?_); refine rp2 11 (k := ?_); refine dd ?_; refine hJ4 _ _ ?_; refine hK3 _ _ ?_; refine ra ?_; exact rt

def predF (l : List Pr) (key : List UInt8) (i : Nat) : Bool := match l[i]? with
  | some p => !ltB p.k key
  | none => true
theorem predF_find {l : List Pr} {key : List UInt8} {r : Nat} (hs : Srt l) (hr : r ≤ l.length) (h1 : 0 < r → predF l key (r - 1) = false) (h2 : r < l.length → predF l key r = true) : r = findL l key :=
  findL_of hs hr (fun h => by
    have := h1 h
    unfold predF at this
    split at this
    · rename_i p hp; exact ⟨p, hp, by simpa using this⟩
    · cases this) (fun p hp => by
    have := h2 (List.getElem?_eq_some_iff.1 hp).1
    unfold predF at this
    rw [hp] at this
    simpa using this)
theorem hasL_at {l : List Pr} {key : List UInt8} (hs : Srt l) : hasL l key = match l[findL l key]? with | some p => decide (p.k = key) | none => false := by
  unfold hasL
  rw [findL_get hs]
  cases h : l[findL l key]? with
  | none => rfl
  | some p => simp only; split <;> simp_all

set_option maxHeartbeats 1600000 in
attribute [local simp] undefA List.getElem?_cons_zero List.getElem?_cons_succ byC in
theorem find_ok {σ : St} {o k : Nat} {G : Sg} {key : List UInt8} {t : Tail} (h : HasS σ o k G) (hs : Srt G.s.l) (hl : G.s.l.length ≤ 4000000000000000000) :
    CallsA Try.prog 87 [.ptr o 0, .sl 1 (bytesA key) key.length t] σ (fun av σ' => av = .tup [.v (.int .i64 (findL G.s.l key)), .v (.bool (hasL G.s.l key))] ∧ σ = σ') := by
  refine callsA_gcS ?_ rfl
  have hlt := lt_of_get h.o
  have h' : HasS { σ with objs := σ.objs ++ [[.ptr o 0], [.sl 1 (bytesA key) key.length t]] } o k G := ⟨by simp only; rw [List.getElem?_append_left hlt]; exact h.o, h.r1, h.r2, h.r3⟩
  have hse := search_ok (σ := { σ with objs := σ.objs ++ [[.ptr o 0], [.sl 1 (bytesA key) key.length t]] }) (caps := [.ptr σ.objs.length 0, .ptr (σ.objs.length + 1) 0]) (fid := 114) (predF G.s.l key) hl (by simp) (fun i hi => callsA_mono (findF_ok (key := key) (t := t) (by simp) (by simp) h' hi) (fun av σ' hq => by
    refine ⟨hq.1.trans ?_, hq.2⟩
    simp [predF, hi]))
  have hho := h'.o
  obtain ⟨ho, hr1, hr2, hr3⟩ := h
  have hha := hasL_at (key := key) hs
  have hat : ∀ i (hi : i < G.s.l.length), (prsC G.s.l)[i * 2]? = some (byC G.s.l[i].k) := fun i hi => (prsC_at hi).1
  obtain ⟨⟨l, log, marks⟩, g1, g2, g3⟩ := G
  simp only [stC, stR1, stR2, stR3] at ho hr1 hr2 hr3 hl hho hse hs hha hat ⊢
  have hfl := findL_le l key
  have F := And.intro hho (And.intro hr1 (True.intro))
  refine callsA_body Try.func87 rfl rfl rfl ?_; refine sr fun _ hJ2 => ?_; refine hJ2 _ _ ?_; refine sr fun _ hJ4 => ?_; refine ca (c := hse) (k := ?_); rintro _ _ ⟨⟨r, rfl, e1, e2, e3⟩, rfl⟩; obtain rfl := predF_find hs e1 e2 e3; (repeat (first | simp [F] | simp (disch := omega) only [wC, if_pos, if_neg])); refine hJ4 _ _ ?_; refine sq fun K5 hK5 => ?_
  refine run_draw (by kernel_rfl) fun J6 hJ6 => ?_
  refine rp2 0 (k := ?_); refine rp2 1 (k := ?_); refine rp2 2 (k := ?_); refine rp2 3 (k := ?_); refine rp2 4 (k := ?_); refine rp2 5 (k := ?_); refine rp2 6 (k := ?_); refine rp2 7 (k := ?_); refine rp2 8 (k := ?_); refine gd 22 (fun g2_8 => ?_) (fun g2_8 => ?_)
  · (try exact nope g2_8); all_goals have g2_8p := g2_8; try simp [F] at g2_8p
    all_goals
     replace F := aF g2_8 F; try replace F := aF g2_8p F
     have hi : findL l key < l.length := by simp at g2_8; omega
     have hat0 := hat _ hi
     replace F := aF hi (And.intro hat0 F)
     have hhb : hasL l key = decide (l[findL l key].k = key) := by rw [hha, List.getElem?_eq_getElem hi]
     replace F := aF hhb F; refine rp2 9 (k := ?_); refine rp2 10 (k := ?_); refine rp2 11 (k := ?_); refine rp2 12 (k := ?_); refine rp2 13 (k := ?_); refine rp2 14 (k := ?_); refine rp2 15 (k := ?_); refine rp2 16 (k := ?_); refine rp2 17 (k := ?_); refine dc 18 rfl (c := equal_ok) (k := ?_); rintro _ _ ⟨rfl, rfl⟩
     refine ⟨by first | exact fun _ _ h => h | (refine later_list [15, 14, 13, 12, 11, 10, 9, 7, 6, 5, 4, 3, 2, 1, 0] (by kernel_rfl) (List.forall_mem_cons.2 ⟨fun _ => fact2 rfl rfl ?_, List.forall_mem_cons.2 ⟨fun _ => fact2 rfl rfl ?_, List.forall_mem_cons.2 ⟨fun _ => fact2 rfl rfl ?_, List.forall_mem_cons.2 ⟨fun _ => fact2 rfl rfl ?_, List.forall_mem_cons.2 ⟨fun _ => fact2 rfl rfl ?_, List.forall_mem_cons.2 ⟨fun _ => fact2 rfl rfl ?_, List.forall_mem_cons.2 ⟨fun _ => fact2 rfl rfl ?_, List.forall_mem_cons.2 ⟨fun _ => fact2 rfl rfl ?_, List.forall_mem_cons.2 ⟨fun _ => fact2 rfl rfl ?_, List.forall_mem_cons.2 ⟨fun _ => fact2 rfl rfl ?_, List.forall_mem_cons.2 ⟨fun _ => fact2 rfl rfl ?_, List.forall_mem_cons.2 ⟨fun _ => fact2 rfl rfl ?_, List.forall_mem_cons.2 ⟨fun _ => fact2 rfl rfl ?_, List.forall_mem_cons.2 ⟨fun _ => fact2 rfl rfl ?_, List.forall_mem_cons.2 ⟨fun _ => fact2 rfl rfl ?_, fun _ h => absurd h List.not_mem_nil⟩⟩⟩⟩⟩⟩⟩⟩⟩⟩⟩⟩⟩⟩⟩) <;> constructor <;> first | rfl | (simp [F]; done)), ?_⟩
     (repeat (first | simp [F] | simp (disch := omega) only [wC, if_pos, if_neg])); refine rp2 19 (k := ?_); refine rp2 20 (k := ?_); refine rp2 21 (k := ?_); refine dd ?_; refine hJ6 _ _ ?_; refine hK5 _ _ ?_; refine run_ret ?_; (try simp only [Then, InBlock, NoGoto]); refine answer_tmp2 rfl (.inr rfl) ?_; exact gcr
  (try exact nope g2_8); all_goals have g2_8p := g2_8; try simp [F] at g2_8p
  all_goals
   replace F := aF g2_8 F; try replace F := aF g2_8p F
   have hhb : hasL l key = false := by rw [hha, List.getElem?_eq_none (by simp at g2_8; omega)]
   replace F := aF hhb F; refine rp2 9 (k := ?_); refine rp2 10 (k := ?_); refine rp2 11 (k := ?_); refine rp2 12 (k := ?_); refine rp2 13 (k := ?_); refine rp2 14 (k := ?_); refine rp2 15 (k := ?_); refine rp2 16 (k := ?_); refine rp2 17 (k := ?_); refine dop 18 rfl ?_; (repeat (first | simp [F] | simp (disch := omega) only [wC, if_pos, if_neg])); refine rp2 19 (k := ?_); refine rp2 20 (k := ?_); refine rp2 21 (k := ?_); refine dd ?_; refine hJ6 _ _ ?_; refine hK5 _ _ ?_; refine run_ret ?_; (try simp only [Then, InBlock, NoGoto]); refine answer_tmp2 rfl (.inr rfl) ?_; exact gcr
end Go.Proofs.Ytmponlabfccjaaa

/-
  Pairs are taken out of a row, and laid into it.
-/
namespace Go.Proofs.Ytmponlabfccjaaa
set_option linter.unnecessarySimpa false
set_option maxRecDepth 100000
open Go Go.Vm
set_option linter.unusedSimpArgs false
set_option linter.unusedVariables false
attribute [local simp] evalL wantedA isCall opA evalA evalAll evalsA evalOpt ofValue ofCell plain binA_eql_pn binA_neq_pn binA_gtr binA_lss binA_geq binA_leq binA_add binA_sub binA_eql binA_neq binA_orI binA_shl binA_shr binA_mul binA_quo binA_rem binA_agg_eql binA_agg_neq convA_int unA_not fieldAddrA loadA partA pickA_true pickA_false pickA_bb lenA builtinA storeA splice AV.cells AV.isCell sliceA boundA intA callOf indexAddrA newObjA buildA fillA zeroA ofCells buildSliceA indexA fieldA set_appN get_appN take_appN List.getElem?_cons_zero List.getElem?_cons_succ sliceRowA appendA rowAppA readA clearA zerosA zeroCell capA copyA appendZA roomA maxLen Value.oneCell' Value.cells

set_option maxHeartbeats 1600000 in
attribute [local simp] undefA List.getElem?_cons_zero List.getElem?_cons_succ in
theorem delete_ok {σ : St} {k g i m : Nat} {A X B : List AV} (hr : σ.rows[k]? = some ⟨g, A ++ (X ++ B), none⟩) (hA : A.length = i * 2) (hX : X.length = 2) (hB : B.length = m * 2) (hn : i + m ≤ 1000000000) (hu : underL σ.bd (A ++ B) = true) :
    CallsA Try.prog 129 [.row k g 0 2 (i + 1 + m), .v (.int .i64 i), .v (.int .i64 (i + 1 : Nat))] σ (fun av σ' => ∃ g', av = .row k g' 0 2 (i + m) ∧ σ' = { σ with rows := σ.rows.set k ⟨g', A ++ B, none⟩ }) := by
  refine callsA_row_end (Q := fun av σ' => ∃ g junk sp, av = .row k g 0 2 (i + m) ∧ σ' = { σ with rows := σ.rows.set k ⟨g, (A ++ B) ++ junk, sp⟩ }) ?_ hr (by simp [hA, hB]; omega) hu (fun av σ' h => ?_)
  · have hs := set_self_of hr
    have hT : List.take (i * 2) (A ++ (X ++ B)) = A := List.take_left' hA
    have hD : List.drop ((i + 1) * 2) (A ++ (X ++ B)) = B := by rw [← List.append_assoc]; exact List.drop_left' (by simp [hA, hX]; omega)
    have hT2 : List.take (m * 2) B = B := List.take_of_length_le (by omega)
    have hN1 : ((i : Int) + (m : Int)).toNat = i + m := by omega
    have hN2 : ((i : Int) + 1 + (m : Int)).toNat = i + 1 + m := by omega
    have hN3 : i + 1 + m - (i + m) = 1 := by omega
    have hN4 : (i + 1 + m) * 2 - (i * 2 + m * 2) = 2 := by omega
    have hN5 : i * 2 + m * 2 = (i + m) * 2 := by omega
    have hD2 : ∀ Z, List.drop ((i + m) * 2 + 2) (A ++ (B ++ Z)) = List.drop 2 Z := fun Z => by rw [← List.append_assoc, ← List.drop_drop, List.drop_left' (by simp [hA, hB]; omega)]
    have hT3 : ∀ Z, List.take ((i + m) * 2) (A ++ (B ++ Z)) = A ++ B := fun Z => by rw [← List.append_assoc]; exact List.take_left' (by simp [hA, hB]; omega)
    have F := And.intro hr (And.intro hA (And.intro hX (And.intro hB (And.intro hT (And.intro hD (And.intro hT2 (And.intro hN1 (And.intro hN2 (And.intro hN3 (And.intro hN4 (And.intro hD2 (And.intro hT3 (True.intro)))))))))))))
    refine callsA_body Try.func129 rfl rfl rfl ?_; refine sr fun _ hJ2 => ?_; refine hJ2 _ _ ?_; refine sq fun K3 hK3 => ?_; refine run_learnD 0 (kk := fun s q hsq hnq => ?_); replace F := aF hs F; refine rg' (h := fun J4 hJ4 => ?_); refine hJ4 _ _ ?_; refine hK3 _ _ ?_; refine sq fun K5 hK5 => ?_; refine sr fun _ hJ7 => ?_; refine hJ7 _ _ ?_; refine cs (fun c16 => ?_) (fun c16 => ?_)
    · (try exact nope c16); all_goals have c16p := c16; try simp [F] at c16p
      all_goals
       replace F := aF c16 F; (try replace F := aF c16p F); refine sr fun _ hJ9 => ?_; refine hJ9 _ _ ?_; refine ra ?_; exact ⟨g + 1, _, _, by simp [F], by simp only [List.append_assoc]; rfl⟩
    (try exact nope c16); all_goals have c16p := c16; try simp [F] at c16p
    all_goals
     replace F := aF c16 F; (try replace F := aF c16p F); refine run_skip ?_; refine hK5 _ _ ?_; refine sr fun _ hJ11 => ?_; refine hJ11 _ _ ?_; refine sq fun K12 hK12 => ?_
     refine run_draw (by kernel_rfl) fun J13 hJ13 => ?_
     refine rp2 0 (k := ?_); refine rp2 1 (k := ?_); refine rp2 2 (k := ?_); refine rp2 3 (k := ?_); refine rp2 4 (k := ?_); refine rp2 5 (k := ?_); refine dop 6 rfl ?_; repeat (first | simp [F] | simp (disch := omega) only [wC, if_pos, if_neg])
     refine ⟨later_tmp (by kernel_rfl), ?_⟩
     refine dop 7 rfl ?_; (repeat (first | simp [F] | simp (disch := omega) only [wC, if_pos, if_neg])); (try refine ⟨ln, ?_⟩); refine dd ?_; refine hJ13 _ _ ?_; refine hK12 _ _ ?_; refine sr fun _ hJ15 => ?_; refine hJ15 _ _ ?_; refine sr fun _ hJ17 => ?_; refine hJ17 _ _ ?_; refine ra ?_; exact ⟨g + 1, _, _, by simp [F], by simp only [List.append_assoc]; rfl⟩
  · obtain ⟨g', junk, sp, e1, e2⟩ := h
    exact .inl ⟨g', junk, sp, [], [], [], e1, by rw [e2]; simp⟩

set_option maxHeartbeats 1600000 in
attribute [local simp] undefA List.getElem?_cons_zero List.getElem?_cons_succ in
theorem insert_end {σ : St} {k kv g gv i : Nat} {A X : List AV} {sv : Option Nat} (hr : σ.rows[k]? = some ⟨g, A, none⟩) (hv : σ.rows[kv]? = some ⟨gv, X, sv⟩) (hA : A.length = i * 2) (hX : X.length = 2) (hn : i ≤ 1000000000) (hu : underL σ.bd (A ++ X) = true) :
    CallsA Try.prog 130 [.row k g 0 2 i, .v (.int .i64 i), .row kv gv 0 2 1] σ (fun av σ' => ∃ g', av = .row k g' 0 2 (i + 1) ∧ σ' = { σ with rows := σ.rows.set k ⟨g', A ++ X, none⟩ }) := by
  refine callsA_row_end (Q := fun av σ' => ∃ g', av = .row k g' 0 2 (i + 1) ∧ σ' = { σ with rows := σ.rows.set k ⟨g', A ++ X, none⟩ }) ?_ hr (by simp [hA, hX]; omega) hu (fun av σ' h => ?_)
  · have hT : List.take (i * 2) A = A := List.take_of_length_le (by omega)
    have hX2 : List.take 2 X = X := List.take_of_length_le (by omega)
    have h1 : (i + 1) * 48 ≤ 140737488355328 := by omega
    have h2 : i + 1 ≤ 9223372036854775807 := by omega
    have F := And.intro hr (And.intro hv (And.intro hA (And.intro hX (And.intro hT (And.intro hX2 (And.intro h1 (And.intro h2 (True.intro))))))))
    refine callsA_body Try.func130 rfl rfl rfl ?_; refine sr fun _ hJ2 => ?_; refine hJ2 _ _ ?_; refine sr fun _ hJ4 => ?_; refine hJ4 _ _ ?_; refine sr fun _ hJ6 => ?_; refine hJ6 _ _ ?_; refine sq fun K7 hK7 => ?_; refine sr fun _ hJ9 => ?_; refine hJ9 _ _ ?_; refine cs (fun c16 => ?_) (fun c16 => ?_)
    · (try exact nope c16); all_goals have c16p := c16; try simp [F] at c16p
      all_goals
       replace F := aF c16 F; (try replace F := aF c16p F); refine sr fun _ hJ11 => ?_; refine hJ11 _ _ ?_; refine ra ?_; exact ⟨g + 1, by simp [F], rfl⟩
    (try exact nope c16); all_goals have c16p := c16; try simp [F] at c16p
    all_goals
     replace F := aF c16 F; (try replace F := aF c16p F); refine run_skip ?_; refine hK7 _ _ ?_; refine sr fun _ hJ13 => ?_; refine hJ13 _ _ ?_; refine sq fun K14 hK14 => ?_; refine sr fun _ hJ16 => ?_; refine hJ16 _ _ ?_; refine ct ?_; refine sr fun _ hJ18 => ?_; refine hJ18 _ _ ?_; refine ra ?_; exact ⟨g + 1, by simp [F], rfl⟩
  · obtain ⟨g', e1, e2⟩ := h
    exact .inl ⟨g', [], none, [], [], [], e1, by rw [e2]; simp⟩

theorem overlapsP {σ : St} {k1 g1 o1 n1 k2 g2 o2 n2 : Nat} {c1 c2 : List AV} {s1 s2 : Option Nat} (hne : k1 ≠ k2) (h1 : σ.rows[k1]? = some ⟨g1, c1, s1⟩) (h2 : σ.rows[k2]? = some ⟨g2, c2, s2⟩) :
    ExtA Try.prog 132 [.row k1 g1 o1 2 n1, .row k2 g2 o2 2 n2] σ (fun av _ => av = .v (.bool false)) :=
  overlaps_ext (tS := 94) (tR := 4) Try.func132 (by kernel_rfl) (by kernel_rfl) (by kernel_rfl) (by kernel_rfl) Try.underlying94 (ti_147) rfl (by decide) hne h1 rfl h2 rfl

set_option maxHeartbeats 1600000 in
attribute [local simp] undefA List.getElem?_cons_zero List.getElem?_cons_succ in
set_option maxHeartbeats 16000000 in
theorem insert_mid {σ : St} {k kv g gv i m : Nat} {A X B : List AV} {sv : Option Nat} (hr : σ.rows[k]? = some ⟨g, A ++ B, none⟩) (hv : σ.rows[kv]? = some ⟨gv, X, sv⟩) (hk : kv ≠ k) (hA : A.length = i * 2) (hX : X.length = 2) (hB : B.length = m * 2) (hm : 0 < m) (hn : i + m ≤ 1000000000) (hu : underL σ.bd (A ++ (X ++ B)) = true) :
    CallsA Try.prog 130 [.row k g 0 2 (i + m), .v (.int .i64 i), .row kv gv 0 2 1] σ (fun av σ' => ∃ g', av = .row k g' 0 2 (i + m + 1) ∧ σ' = { σ with rows := σ.rows.set k ⟨g', A ++ (X ++ B), none⟩ }) := by
  have hkl := lt_of_get hr
  have hvl := lt_of_get hv
  refine callsA_row_end (Q := fun av σ' => (∃ g' sp, av = .row k g' 0 2 (i + m + 1) ∧ σ' = { σ with rows := σ.rows.set k ⟨g', A ++ (X ++ B), sp⟩ }) ∨ (∃ r1 sp, av = .row σ.rows.length 0 0 2 (i + m + 1) ∧ σ' = { σ with rows := σ.rows.set k r1 ++ [⟨0, A ++ (X ++ B), sp⟩] })) ?_ hr (by simp [hA, hB, hX]; omega) hu (fun av σ' h => ?_)
  · have hs := fun x => set_self_of hr x
    have hvs : ∀ x, (σ.rows.set k x)[kv]? = some ⟨gv, X, sv⟩ := fun x => by rw [List.getElem?_set_ne (Ne.symm hk)]; exact hv
    have hT : List.take (i * 2) (A ++ B) = A := List.take_left' hA
    have hD : List.drop (i * 2) (A ++ B) = B := List.drop_left' hA
    have hT2 : List.take (m * 2) B = B := List.take_of_length_le (by omega)
    have hX2 : List.take 2 X = X := List.take_of_length_le (by omega)
    have hN1 : ((i : Int) + (m : Int)).toNat = i + m := by omega
    have hN2 : ((i : Int) + (m : Int) + 1).toNat = i + m + 1 := by omega
    have hw1 : IntKind.i64.wrap ((i : Int) + (m : Int) + 1) = ((i + m + 1 : Nat) : Int) := wrap_i64 _ (by omega) (by omega)
    have hw2 : IntKind.i64.wrap ((i : Int) + 1) = ((i + 1 : Nat) : Int) := wrap_i64 _ (by omega) (by omega)
    have hw3 : IntKind.i64.wrap ((i : Int) + (m : Int) + 1 - (i : Int)) = ((m + 1 : Nat) : Int) := by rw [wrap_i64 _ (by omega) (by omega)]; omega
    have hvs2 : ∀ r x, (σ.rows.set k r ++ [x])[kv]? = some ⟨gv, X, sv⟩ := fun r x => by rw [List.getElem?_append_left (by simpa using hvl)]; exact hvs r
    have hk1 : ∀ r x, (σ.rows.set k r ++ [x])[k]? = some r := fun r x => by rw [List.getElem?_append_left (by simpa using hkl)]; exact hs r
    have hn1 : ∀ r x, (σ.rows.set k r ++ [x])[σ.rows.length]? = some x := fun r x => by rw [List.getElem?_append_right (by simp)]; simp
    have hset1 : ∀ r x y, (σ.rows.set k r ++ [x]).set σ.rows.length y = σ.rows.set k r ++ [y] := fun r x y => by rw [List.set_append_right _ _ (by simp)]; simp
    have hTz : ∀ Z, List.take (i * 2) (A ++ Z) = A := fun Z => List.take_left' hA
    have hDz : ∀ Z, List.drop (i * 2) (A ++ Z) = Z := fun Z => List.drop_left' hA
    have hDz2 : ∀ Z, List.drop (i * 2 + 2) (A ++ Z) = List.drop 2 Z := fun Z => by rw [← List.drop_drop, hDz]
    have hT1 : ∀ Z, List.take ((i + 1) * 2) (A ++ Z) = A ++ List.take 2 Z := fun Z => by rw [show (i + 1) * 2 = A.length + 2 by omega, List.take_length_add_append]
    have hT2x : ∀ Z, List.take 2 (X ++ Z) = X := fun Z => List.take_left' hX
    have hDx : ∀ f : Nat → AV, List.drop ((i + 1) * 2 + m * 2) (A ++ (X ++ List.drop 2 (List.map f (List.range ((m + 1) * 2))))) = [] := fun f => List.drop_of_length_le (by simp [hA, hX]; omega)
    have hDx2 : ∀ E : List AV, E.length = 2 → List.drop ((i + 1) * 2 + m * 2) (A ++ (B ++ E)) = [] := fun E hE => List.drop_of_length_le (by simp [hA, hB, hE]; omega)
    have hDx3 := hDx2 [.any, .any] rfl
    have hN4 : (i + m + 1) * 2 - (i * 2 + m * 2) = 2 := by omega
    have hN5 : min 1 (m + 1) = 1 := by omega
    have hN6 : i + m + 1 - (i + 1) = m := by omega
    have hN7 : i + m + 1 - i = m + 1 := by omega
    have hN8 : min m (i + (m + 1) - (i + 1)) = m := by omega
    have hTB : ∀ E, List.take (m * 2) (B ++ E) = B := fun E => List.take_left' hB
    have hTB2 : List.take ((m + 1) * 2) (B ++ [.any, .any]) = B ++ [.any, .any] := List.take_of_length_le (by simp [hB]; omega)
    have hne : ((i : Int) == (i : Int) + (m : Int)) = false := by simp; omega
    have F := And.intro hr (And.intro hv (And.intro hA (And.intro hX (And.intro hB (And.intro hT (And.intro hD (And.intro hT2 (And.intro hX2 (And.intro hN1 (And.intro hN2 (And.intro hw1 (And.intro hw2 (And.intro hw3 (And.intro hne (True.intro)))))))))))))))
    refine callsA_body Try.func130 rfl rfl rfl ?_; refine sr fun _ hJ2 => ?_; refine hJ2 _ _ ?_; refine sr fun _ hJ4 => ?_; refine hJ4 _ _ ?_; refine sr fun _ hJ6 => ?_; refine hJ6 _ _ ?_; refine sq fun K7 hK7 => ?_; refine sr fun _ hJ9 => ?_; refine hJ9 _ _ ?_; refine cs (fun c16 => ?_) (fun c16 => ?_)
    · (try exact nope c16); all_goals have c16p := c16; try simp [F] at c16p
      all_goals
       replace F := aF c16 F; (try replace F := aF c16p F); refine sr fun _ hJ11 => ?_; refine hJ11 _ _ ?_; refine ra ?_; exact .inl ⟨g, _, by simp [F, Nat.add_assoc], rfl⟩
    (try exact nope c16); all_goals have c16p := c16; try simp [F] at c16p
    all_goals
     replace F := aF c16 F; (try replace F := aF c16p F); refine run_skip ?_; refine hK7 _ _ ?_; refine sr fun _ hJ13 => ?_; refine hJ13 _ _ ?_; refine sq fun K14 hK14 => ?_; refine sr fun _ hJ16 => ?_; refine hJ16 _ _ ?_; refine cf ?_; refine run_skip ?_; refine hK14 _ _ ?_; refine sq fun K17 hK17 => ?_; refine sq fun K18 hK18 => ?_; refine run_learnD 0 (kk := fun s q hsq hnq => ?_)
     have hql : i * 2 + m * 2 + s = q * 2 := by simp [hA, hB] at hsq; omega
     have hq1 : (i * 2 + m * 2 + s) % 2 = 0 := by omega
     have hq2 : ((i : Int) * 2 + (m : Int) * 2 + (s : Int)) / 2 = (q : Int) := by omega
     replace F := aF hs F; replace F := aF hvs F; replace F := aF hq1 F; replace F := aF hq2 F; replace F := aF hvs2 F; replace F := aF hk1 F; replace F := aF hn1 F; replace F := aF hset1 F; replace F := aF hTz F; replace F := aF hDz F; replace F := aF hDz2 F; replace F := aF hT1 F; replace F := aF hT2x F; replace F := aF hDx F; replace F := aF hDx3 F; replace F := aF hN4 F; replace F := aF hN5 F; replace F := aF hN6 F; replace F := aF hN7 F; replace F := aF hN8 F; replace F := aF hTB F; replace F := aF hTB2 F; refine rg' (h := fun J19 hJ19 => ?_); refine hJ19 _ _ ?_; refine hK18 _ _ ?_; refine cs (fun c31 => ?_) (fun c31 => ?_)
     · (try exact nope c31); all_goals have c31p := c31; try simp [F] at c31p
       all_goals
        replace F := aF c31 F; (try replace F := aF c31p F); refine sr fun _ hJ21 => ?_; refine hJ21 _ _ ?_; refine sr fun _ hJ23 => ?_; refine hJ23 _ _ ?_; refine sq fun K24 hK24 => ?_
        refine run_draw (by kernel_rfl) fun J25 hJ25 => ?_
        refine rp2 0 (k := ?_); refine rp2 1 (k := ?_); refine rp2 2 (k := ?_); refine rp2 3 (k := ?_); refine rp2 4 (k := ?_); refine rp2 5 (k := ?_); refine rp2 6 (k := ?_); refine rp2 7 (k := ?_); refine dop 8 rfl ?_; repeat (first | simp [F] | simp (disch := omega) only [wC, if_pos, if_neg])
        refine ⟨by first | exact fun _ _ h => h | (refine later_list [6, 5, 3, 2, 1, 0] (by kernel_rfl) (List.forall_mem_cons.2 ⟨fun _ => fact2 rfl rfl ?_, List.forall_mem_cons.2 ⟨fun _ => fact2 rfl rfl ?_, List.forall_mem_cons.2 ⟨fun _ => fact2 rfl rfl ?_, List.forall_mem_cons.2 ⟨fun _ => fact2 rfl rfl ?_, List.forall_mem_cons.2 ⟨fun _ => fact2 rfl rfl ?_, List.forall_mem_cons.2 ⟨fun _ => fact2 rfl rfl ?_, fun _ h => absurd h List.not_mem_nil⟩⟩⟩⟩⟩⟩) <;> constructor <;> first | rfl | (simp [F]; done)), ?_⟩
        refine dd ?_; refine hJ25 _ _ ?_; refine hK24 _ _ ?_; refine sr fun _ hJ27 => ?_; refine hJ27 _ _ ?_; refine ra ?_; exact .inr ⟨_, none, by simp [F, Nat.add_assoc], rfl⟩
     (try exact nope c31); all_goals have c31p := c31; try simp [F] at c31p
     all_goals
      replace F := aF c31 F; (try replace F := aF c31p F); refine run_skip ?_; refine hK17 _ _ ?_; refine sr fun _ hJ29 => ?_; refine hJ29 _ _ ?_; refine sq fun K30 hK30 => ?_; refine sr fun _ hJ32 => ?_
      refine ce (c := overlapsP (g1 := gv) (n1 := 1) (o1 := 0) (g2 := g) (o2 := (i + 1) * 2) (n2 := m) hk (by simp [F]; first | done | exact ⟨rfl, rfl⟩) (by simp [F]; first | done | exact ⟨rfl, rfl⟩)) (k := ?_)
      rintro _ _ rfl rfl; (repeat (first | simp [F] | simp (disch := omega) only [wC, if_pos, if_neg])); refine hJ32 _ _ ?_; refine ct ?_; refine sq fun K33 hK33 => ?_
      refine run_draw (by kernel_rfl) fun J34 hJ34 => ?_
      refine rp2 0 (k := ?_); refine rp2 1 (k := ?_); refine rp2 2 (k := ?_); refine rp2 3 (k := ?_); refine rp2 4 (k := ?_); refine rp2 5 (k := ?_); refine rp2 6 (k := ?_); refine rp2 7 (k := ?_); refine dop 8 rfl ?_; repeat (first | simp [F] | simp (disch := omega) only [wC, if_pos, if_neg])
      refine ⟨by first | exact fun _ _ h => h | (refine later_list [6, 5, 3, 2, 1, 0] (by kernel_rfl) (List.forall_mem_cons.2 ⟨fun _ => fact2 rfl rfl ?_, List.forall_mem_cons.2 ⟨fun _ => fact2 rfl rfl ?_, List.forall_mem_cons.2 ⟨fun _ => fact2 rfl rfl ?_, List.forall_mem_cons.2 ⟨fun _ => fact2 rfl rfl ?_, List.forall_mem_cons.2 ⟨fun _ => fact2 rfl rfl ?_, List.forall_mem_cons.2 ⟨fun _ => fact2 rfl rfl ?_, fun _ h => absurd h List.not_mem_nil⟩⟩⟩⟩⟩⟩) <;> constructor <;> first | rfl | (simp [F]; done)), ?_⟩
      refine dd ?_; refine hJ34 _ _ ?_; refine hK33 _ _ ?_; refine sr fun _ hJ36 => ?_; refine hJ36 _ _ ?_; refine sr fun _ hJ38 => ?_; refine hJ38 _ _ ?_; refine ra ?_; exact .inl ⟨g, _, by simp [F, Nat.add_assoc], rfl⟩
  · rcases h with ⟨g', sp, e1, e2⟩ | ⟨r1, sp, e1, e2⟩
    · exact .inl ⟨g', [], sp, [], [], [], e1, by rw [e2]; simp⟩
    · exact .inr ⟨_, sp, [], [], r1, 0, [], e1, by rw [e2]; simp, rfl⟩

end Go.Proofs.Ytmponlabfccjaaa

/-
  A store: a pair is put, or none of that key; what was there is told.
-/
namespace Go.Proofs.Ytmponlabfccjaaa
set_option linter.unnecessarySimpa false
set_option maxRecDepth 100000
open Go Go.Vm
set_option linter.unusedSimpArgs false
set_option linter.unusedVariables false
attribute [local simp] evalL wantedA isCall opA evalA evalAll evalsA evalOpt ofValue ofCell plain binA_eql_pn binA_neq_pn binA_gtr binA_lss binA_geq binA_leq binA_add binA_sub binA_eql binA_neq binA_orI binA_shl binA_shr binA_mul binA_quo binA_rem binA_agg_eql binA_agg_neq convA_int unA_not fieldAddrA loadA partA pickA_true pickA_false pickA_bb lenA builtinA storeA splice AV.cells AV.isCell sliceA boundA intA callOf indexAddrA newObjA buildA fillA zeroA ofCells buildSliceA indexA fieldA set_appN get_appN take_appN List.getElem?_cons_zero List.getElem?_cons_succ get_sa0 get_sa1 get_sa2 get_sa3 set_sa0 set_sa1 set_sa2 set_sa3

theorem prsC_app (l m : List Pr) : prsC (l ++ m) = prsC l ++ prsC m := by simp [prsC]
theorem prsC_take (l : List Pr) (i : Nat) : List.take (i * 2) (prsC l) = prsC (l.take i) := by
  by_cases h : i ≤ l.length
  · conv => lhs; rw [← List.take_append_drop i l, prsC_app]
    exact List.take_left' (by rw [prsC_len, List.length_take, Nat.min_eq_left h])
  · rw [List.take_of_length_le (by rw [prsC_len]; omega), List.take_of_length_le (by omega)]
theorem prsC_drop (l : List Pr) (i : Nat) : List.drop (i * 2) (prsC l) = prsC (l.drop i) := by
  by_cases h : i ≤ l.length
  · conv => lhs; rw [← List.take_append_drop i l, prsC_app]
    exact List.drop_left' (by rw [prsC_len, List.length_take, Nat.min_eq_left h])
  · rw [List.drop_of_length_le (by rw [prsC_len]; omega), List.drop_of_length_le (by omega)]; rfl
theorem prsC_set {l : List Pr} {i : Nat} (h : i < l.length) (p : Pr) : List.take (i * 2) (prsC l) ++ byC p.k :: byC p.v :: List.drop (i * 2 + 2) (prsC l) = prsC (l.set i p) := by
  rw [show i * 2 + 2 = (i + 1) * 2 by omega, prsC_take, prsC_drop, List.set_eq_take_append_cons_drop, if_pos h, prsC_app]
  rfl
theorem prsC_cut {l : List Pr} {i : Nat} (h : i < l.length) : prsC l = prsC (l.take i) ++ (prC l[i] ++ prsC (l.drop (i + 1))) := by
  conv => lhs; rw [← List.take_append_drop i l, prsC_app, List.drop_eq_getElem_cons h]
  rfl
theorem prsC_cut0 (l : List Pr) (i : Nat) : prsC l = prsC (l.take i) ++ prsC (l.drop i) := by
  conv => lhs; rw [← List.take_append_drop i l, prsC_app]
theorem delP_ok {σ : St} {k g i : Nat} {l : List Pr} (hr : σ.rows[k]? = some ⟨g, prsC l, none⟩) (hi : i < l.length) (hn : l.length ≤ 1000000) :
    CallsA Try.prog 129 [.row k g 0 2 l.length, .v (.int .i64 i), .v (.int .i64 ((i : Int) + 1))] σ (fun av σ' => ∃ g', av = .row k g' 0 2 (l.length - 1) ∧ σ' = { σ with rows := σ.rows.set k ⟨g', prsC (l.take i ++ l.drop (i + 1)), none⟩ }) := by
  rw [prsC_cut hi] at hr
  have := delete_ok (i := i) (m := l.length - i - 1) hr (by simp [prsC_len]; omega) rfl (by simp [prsC_len]; omega) (by omega) (by rw [← prsC_app]; exact prsC_under _ _)
  rw [← prsC_app, show i + 1 + (l.length - i - 1) = l.length by omega, show i + (l.length - i - 1) = l.length - 1 by omega] at this
  exact this
theorem insP_ok {σ : St} {k kv g gv i : Nat} {l : List Pr} {p : Pr} {sv : Option Nat} (hr : σ.rows[k]? = some ⟨g, prsC l, none⟩) (hv : σ.rows[kv]? = some ⟨gv, prC p, sv⟩) (hk : kv ≠ k) (hi : i ≤ l.length) (hn : l.length ≤ 1000000) :
    CallsA Try.prog 130 [.row k g 0 2 l.length, .v (.int .i64 i), .row kv gv 0 2 1] σ (fun av σ' => ∃ g', av = .row k g' 0 2 (l.length + 1) ∧ σ' = { σ with rows := σ.rows.set k ⟨g', prsC (l.take i ++ p :: l.drop i), none⟩ }) := by
  have e : prsC (l.take i ++ p :: l.drop i) = prsC (l.take i) ++ (prC p ++ prsC (l.drop i)) := by rw [prsC_app]; rfl
  by_cases h0 : i = l.length
  · subst h0
    have := insert_end (i := l.length) hr hv (by simp [prsC_len]) rfl (by omega) (by have := prsC_under σ.bd (l ++ [p]); rw [prsC_app] at this; simpa [prsC] using this)
    rw [e, List.take_length, List.drop_length]
    simpa [prsC] using this
  · rw [prsC_cut0 l i] at hr
    have := insert_mid (i := i) (m := l.length - i) hr hv hk (by simp [prsC_len]; omega) rfl (by simp [prsC_len]) (by omega) (by omega) (by rw [← e]; exact prsC_under _ _)
    rw [← e, show i + (l.length - i) = l.length by omega] at this
    exact this
theorem getL_some_at {l : List Pr} {key v : List UInt8} (hs : Srt l) (h : getL l key = some v) : ∃ h : findL l key < l.length, (l[findL l key]).k = key ∧ (l[findL l key]).v = v := by
  rw [findL_get hs] at h
  split at h
  · rename_i p hp
    obtain ⟨h1, h2⟩ := List.getElem?_eq_some_iff.1 hp
    split at h
    · rename_i hk
      exact ⟨h1, by rw [h2]; exact hk, by rw [h2]; exact Option.some.inj h⟩
    · cases h
  · cases h

set_option maxHeartbeats 1600000 in
attribute [local simp] undefA List.getElem?_cons_zero List.getElem?_cons_succ byC in
theorem put_ok {σ : St} {o k : Nat} {G : Sg} {key val : List UInt8} {is : Bool} (h : HasS σ o k G) (hs : Srt G.s.l) (hl : G.s.l.length ≤ 1000000) :
    CallsA Try.prog 123 [.ptr o 0, .agg [byC key, byC val], .v (.bool is)] σ (fun av σ' => ∃ g, av = .agg (udC ⟨key, getL G.s.l key⟩) ∧ σ' = putS σ o k ⟨⟨setL G.s.l key (if is then some val else none), G.s.log, G.s.marks⟩, g, G.g2, G.g3⟩) := by
  refine callsA_gcSt (X := Nat) (T := fun g => ⟨⟨setL G.s.l key (if is then some val else none), G.s.log, G.s.marks⟩, g, G.g2, G.g3⟩) h (fun _ => by simp [AV.under, udC_under]) ?_
  have hp1 := fun l' g' => putS_1 h l' g'
  have hfi := fun L m => find_ok (key := key) (t := .shut) (h.app L m) hs (by omega)
  have hbd := prsC_under σ.bd
  have hset := setL_at (k := key) (o := if is then some val else none) hs
  have hgat : ∀ v, getL G.s.l key = some v → _ := fun v h => getL_some_at (key := key) (v := v) hs h
  have hhas : hasL G.s.l key = (getL G.s.l key).isSome := rfl
  have hlo := lt_of_get h.o
  have hlr := lt_of_get h.r1
  obtain ⟨ho, hr1, hr2, hr3⟩ := h
  obtain ⟨⟨l, log, marks⟩, g1, g2, g3⟩ := G
  simp only [stC, stR1, stR2, stR3] at ho hr1 hr2 hr3 hl hp1 hset hgat hhas hfi ⊢
  have ha : ∀ L, (σ.objs ++ L)[o]? = some [.row k g1 0 2 l.length, .row (k + 1) g2 0 3 log.length, .row (k + 2) g3 0 1 marks.length] := fun L => by rw [List.getElem?_append_left hlo]; exact ho
  have hb : ∀ x L, (σ.objs ++ L).set o x = σ.objs.set o x ++ L := fun x L => List.set_append_left _ _ hlo
  have hc : ∀ x L, (σ.objs.set o x ++ L)[o]? = some x := fun x L => by rw [List.getElem?_append_left (by simpa using hlo)]; exact set_self_of ho x
  have hle := findL_le l key
  obtain ⟨i, hi⟩ : ∃ i, i = findL l key := ⟨_, rfl⟩
  obtain ⟨q, hq⟩ : ∃ q, q = getL l key := ⟨_, rfl⟩
  simp only [← hi, ← hq] at hset hgat hhas hfi hle
  obtain ⟨b, hbb⟩ : ∃ b, b = hasL l key := ⟨_, rfl⟩
  simp only [← hbb] at hfi hhas
  have hda : ∀ (x : RowSt) L, (σ.rows.set k x ++ L)[k]? = some x := fun x L => by rw [List.getElem?_append_left (by simpa using hlr)]; exact set_self_of hr1 x
  have hdb : ∀ L, (σ.rows ++ L)[k]? = some ⟨g1, prsC l, none⟩ := fun L => by rw [List.getElem?_append_left hlr]; exact hr1
  have hdc : ∀ (x : RowSt) L, (σ.rows ++ L).set k x = σ.rows.set k x ++ L := fun x L => List.set_append_left _ _ hlr
  have hso := set_same' ho
  have hsr := set_same' hr1
  have F := And.intro ha (And.intro hb (And.intro hc (And.intro hr1 (And.intro hda (And.intro hdb (And.intro hdc (And.intro hso (And.intro hsr (True.intro)))))))))
  refine callsA_body Try.func123 rfl rfl rfl ?_; refine sr fun _ hJ2 => ?_; refine hJ2 _ _ ?_; refine sr fun _ hJ4 => ?_; refine ca (c := hfi _ _) (k := ?_); rintro _ _ ⟨rfl, rfl⟩; (repeat (first | simp [F] | simp (disch := omega) only [wC, if_pos, if_neg])); refine hJ4 _ _ ?_; refine sr fun _ hJ6 => ?_; refine hJ6 _ _ ?_; refine sq fun K7 hK7 => ?_; refine run_block_k ?_; refine sr fun _ hJ9 => ?_; refine gs 24 (fun g3_1 => ?_) (fun g3_1 => ?_)
  · (try exact nope g3_1); all_goals have g3_1p := g3_1; try simp [F] at g3_1p
    all_goals
     replace F := aF g3_1 F; try replace F := aF g3_1p F
     obtain ⟨v, hv⟩ : ∃ v, q = some v := Option.isSome_iff_exists.1 (by rw [← hhas]; simpa using g3_1)
     obtain ⟨hil, hik, hiv⟩ := hgat v hv
     have hat := prsC_at hil
     rw [hiv] at hat
     have hat2 := hat.2
     have hpl := prsC_len l
     have hi2 : i * 2 + 2 ≤ l.length * 2 := by omega
     have hps := prsC_set hil ⟨key, val⟩
     simp only [byC] at hat2 hps
     replace F := aF hil (And.intro hat2 (And.intro hpl (And.intro hi2 F))); refine go2 (k := ?_); refine hJ9 _ _ ?_; refine cs (fun c22 => ?_) (fun c22 => ?_)
     · (try exact nope c22); all_goals have c22p := c22; try simp [F] at c22p
       all_goals
        replace F := aF c22 F; try replace F := aF c22p F
        have his : is = true := by simpa using c22
        have hS : setL l key (if is then some val else none) = l.set i ⟨key, val⟩ := by rw [hset, hv, his]; rfl
        replace F := aF hps F
        refine run_draw (by kernel_rfl) fun J10 hJ10 => ?_
        refine rp2 0 (k := ?_); refine rp2 1 (k := ?_); refine rp2 2 (k := ?_); refine rp2 3 (k := ?_); refine rp2 4 (k := ?_); refine rp2 5 (k := ?_); refine rp2 6 (k := ?_); refine rp2 7 (k := ?_); refine rp2 8 (k := ?_); refine rp2 9 (k := ?_); refine rp2 10 (k := ?_); refine rp2 11 (k := ?_); refine rp2 12 (k := ?_); refine rp2 13 (k := ?_); refine rp2 14 (k := ?_); refine rp2 15 (k := ?_); refine dop 16 rfl ?_; repeat (first | simp [F] | simp (disch := omega) only [wC, if_pos, if_neg])
        refine ⟨by first | exact fun _ _ h => h | (refine later_list [14, 13, 4, 3, 2, 1, 0] (by kernel_rfl) (List.forall_mem_cons.2 ⟨fun _ => fact2 rfl rfl ?_, List.forall_mem_cons.2 ⟨fun _ => fact2 rfl rfl ?_, List.forall_mem_cons.2 ⟨fun _ => fact2 rfl rfl ?_, List.forall_mem_cons.2 ⟨fun _ => fact2 rfl rfl ?_, List.forall_mem_cons.2 ⟨fun _ => fact2 rfl rfl ?_, List.forall_mem_cons.2 ⟨fun _ => fact2 rfl rfl ?_, List.forall_mem_cons.2 ⟨fun _ => fact2 rfl rfl ?_, fun _ h => absurd h List.not_mem_nil⟩⟩⟩⟩⟩⟩⟩) <;> constructor <;> first | rfl | (simp [F]; done)), ?_⟩
        refine rp2 17 (k := ?_); refine dop 18 rfl ?_; (repeat (first | simp [F] | simp (disch := omega) only [wC, if_pos, if_neg])); refine ⟨ln, ?_⟩; refine dd ?_; refine hJ10 _ _ ?_; refine hK7 _ _ ?_; refine sr fun _ hJ12 => ?_; refine hJ12 _ _ ?_; refine run_ret ?_; (try simp only [Then, InBlock, NoGoto]); refine acell (h := ?_); refine ⟨g1, ?_⟩
        rw [hp1, hS, ← hq, hv]
        exact gcr
     (try exact nope c22); all_goals have c22p := c22; try simp [F] at c22p
     all_goals
      replace F := aF c22 F; try replace F := aF c22p F
      have his : is = false := by simpa using c22
      have hS : setL l key (if is then some val else none) = l.take i ++ l.drop (i + 1) := by rw [hset, hv, his]; rfl
      have hlen : (l.take i ++ l.drop (i + 1)).length = l.length - 1 := by simp; omega
      replace F := aF hlen F; refine sr fun _ hJ14 => ?_; refine hJ14 _ _ ?_; refine ct ?_; refine sr fun _ hJ16 => ?_; refine hJ16 _ _ ?_; refine rg' (h := fun J17 hJ17 => ?_); refine ca (c := delP_ok (i := i) (l := l) (g := g1) (k := k) st hil hl) (k := ?_); rintro _ _ ⟨g', rfl, rfl⟩; (repeat (first | simp [F] | simp (disch := omega) only [wC, if_pos, if_neg])); refine hJ17 _ _ ?_; refine hK7 _ _ ?_; refine sr fun _ hJ19 => ?_; refine hJ19 _ _ ?_; refine run_ret ?_; (try simp only [Then, InBlock, NoGoto]); refine acell (h := ?_); refine ⟨g', ?_⟩
      rw [hp1, hS, ← hq, hv]
      exact gcr
  (try exact nope g3_1); all_goals have g3_1p := g3_1; try simp [F] at g3_1p
  all_goals
   replace F := aF g3_1 F; try replace F := aF g3_1p F
   have hv : q = none := by cases q with | none => rfl | some v => simp [hhas] at g3_1
   refine no2 (k := ?_); refine hJ9 _ _ ?_; refine cf ?_; refine sr fun _ hJ21 => ?_; refine hJ21 _ _ ?_; refine cf ?_; refine sr fun _ hJ23 => ?_; refine hJ23 _ _ ?_; refine cs (fun c67 => ?_) (fun c67 => ?_)
   · (try exact nope c67); all_goals have c67p := c67; try simp [F] at c67p
     all_goals
      replace F := aF c67 F; try replace F := aF c67p F
      have his : is = true := by simpa using c67
      have hS : setL l key (if is then some val else none) = l.take i ++ ⟨key, val⟩ :: l.drop i := by rw [hset, hv, his]; rfl
      have hlen : (l.take i ++ (⟨key, val⟩ : Pr) :: l.drop i).length = l.length + 1 := by simp; omega
      replace F := aF hlen F
      refine run_draw (by kernel_rfl) fun J24 hJ24 => ?_
      refine rp2 0 (k := ?_); refine rp2 1 (k := ?_); refine rp2 2 (k := ?_); refine rp2 3 (k := ?_); refine rp2 4 (k := ?_); refine rp2 5 (k := ?_); refine rp2 6 (k := ?_); refine db 7 rfl rfl (k := ?_)
      refine ⟨by first | exact fun _ _ h => h | (refine later_list [5, 4, 3, 2, 1, 0] (by kernel_rfl) (List.forall_mem_cons.2 ⟨fun _ => fact2 rfl rfl ?_, List.forall_mem_cons.2 ⟨fun _ => fact2 rfl rfl ?_, List.forall_mem_cons.2 ⟨fun _ => fact2 rfl rfl ?_, List.forall_mem_cons.2 ⟨fun _ => fact2 rfl rfl ?_, List.forall_mem_cons.2 ⟨fun _ => fact2 rfl rfl ?_, List.forall_mem_cons.2 ⟨fun _ => fact2 rfl rfl ?_, fun _ h => absurd h List.not_mem_nil⟩⟩⟩⟩⟩⟩) <;> constructor <;> first | rfl | (simp [F]; done)), ?_⟩
      repeat (first | simp [F] | simp (disch := omega) only [wC, if_pos, if_neg])
      refine dc 8 rfl (c := insP_ok (i := i) (l := l) (g := g1) (k := k) (kv := σ.rows.length) (gv := 0) (p := ⟨key, val⟩) (sv := none) st (by simp [F]; rfl) (by omega) hle hl) (k := ?_)
      rintro _ _ ⟨g', rfl, rfl⟩
      refine ⟨by first | exact fun _ _ h => h | (refine later_list [3, 2, 1, 0] (by kernel_rfl) (List.forall_mem_cons.2 ⟨fun _ => fact2 rfl rfl ?_, List.forall_mem_cons.2 ⟨fun _ => fact2 rfl rfl ?_, List.forall_mem_cons.2 ⟨fun _ => fact2 rfl rfl ?_, List.forall_mem_cons.2 ⟨fun _ => fact2 rfl rfl ?_, fun _ h => absurd h List.not_mem_nil⟩⟩⟩⟩) <;> constructor <;> first | rfl | (simp [F]; done)), ?_⟩
      (repeat (first | simp [F] | simp (disch := omega) only [wC, if_pos, if_neg])); refine rp2 9 (k := ?_); refine rp2 10 (k := ?_); refine dop 11 rfl ?_; repeat (first | simp [F] | simp (disch := omega) only [wC, if_pos, if_neg])
      refine ⟨by first | exact fun _ _ h => h | (refine later_list [9] (by kernel_rfl) (List.forall_mem_cons.2 ⟨fun _ => fact2 rfl rfl ?_, fun _ h => absurd h List.not_mem_nil⟩) <;> constructor <;> first | rfl | (simp [F]; done)), ?_⟩
      refine dd ?_; refine hJ24 _ _ ?_; refine hK7 _ _ ?_; refine sr fun _ hJ26 => ?_; refine hJ26 _ _ ?_; refine run_ret ?_; (try simp only [Then, InBlock, NoGoto]); refine acell (h := ?_); refine ⟨g', ?_⟩
      rw [hp1, hS, ← hq, hv]
      exact gcr (hA := WkL.agg (.cons (Wk.refl _) (.cons (Wk.nil _ _ _) (.cons (Wk.refl _) .nil))))
   (try exact nope c67); all_goals have c67p := c67; try simp [F] at c67p
   all_goals
    replace F := aF c67 F; try replace F := aF c67p F
    have his : is = false := by simpa using c67
    have hS : setL l key (if is then some val else none) = l := by rw [hset, hv, his]; rfl
    refine run_skip ?_; refine hK7 _ _ ?_; refine sr fun _ hJ28 => ?_; refine hJ28 _ _ ?_; refine run_ret ?_; (try simp only [Then, InBlock, NoGoto]); refine acell (h := ?_); refine ⟨g1, ?_⟩
    rw [hp1, hS, ← hq, hv]
    exact gcr (hA := WkL.agg (.cons (Wk.refl _) (.cons (Wk.nil _ _ _) (.cons (Wk.refl _) .nil))))

end Go.Proofs.Ytmponlabfccjaaa

/-
  A store: a pair is put, and what was there is noted.
-/
namespace Go.Proofs.Ytmponlabfccjaaa
set_option linter.unnecessarySimpa false
set_option maxRecDepth 100000
open Go Go.Vm
set_option linter.unusedSimpArgs false
set_option linter.unusedVariables false
attribute [local simp] evalL wantedA isCall opA evalA evalAll evalsA evalOpt ofValue ofCell plain binA_eql_pn binA_neq_pn binA_gtr binA_lss binA_geq binA_leq binA_add binA_sub binA_eql binA_neq binA_orI binA_shl binA_shr binA_mul binA_quo binA_rem binA_agg_eql binA_agg_neq convA_int unA_not fieldAddrA loadA partA pickA_true pickA_false pickA_bb lenA builtinA storeA splice AV.cells AV.isCell sliceA boundA intA callOf indexAddrA newObjA buildA fillA zeroA ofCells buildSliceA indexA fieldA set_appN get_appN take_appN List.getElem?_cons_zero List.getElem?_cons_succ get_sa0 get_sa1 get_sa2 get_sa3 set_sa0 set_sa1 set_sa2 set_sa3 appendA rowAppA readA roomA maxLen zeroCell Value.oneCell' Value.cells

theorem put_app {σ : St} {o k : Nat} {G : Sg} {key val : List UInt8} {is : Bool} (h : HasS σ o k G) (hs : Srt G.s.l) (hl : G.s.l.length ≤ 1000000) (L : List (List AV)) :
    CallsA Try.prog 123 [.ptr o 0, .agg [byC key, byC val], .v (.bool is)] { σ with objs := σ.objs ++ L } (fun av σ' => ∃ g, av = .agg (udC ⟨key, getL G.s.l key⟩) ∧ σ' = { σ with objs := σ.objs.set o [.row k g 0 2 (setL G.s.l key (if is then some val else none)).length, .row (k + 1) G.g2 0 3 G.s.log.length, .row (k + 2) G.g3 0 1 G.s.marks.length] ++ L, rows := σ.rows.set k ⟨g, prsC (setL G.s.l key (if is then some val else none)), none⟩ }) :=
  callsA_mono (put_ok (h.app L σ.toks) hs hl) (fun av σ' ⟨g, e1, e2⟩ => ⟨g, e1, by rw [e2, putS_1 (h.app L σ.toks)]; simp only; rw [List.set_append_left _ _ (lt_of_get h.o)]⟩)

set_option maxHeartbeats 1600000 in
attribute [local simp] undefA List.getElem?_cons_zero List.getElem?_cons_succ byC drop_mr in
theorem do_ok {σ : St} {o k n : Nat} {G : Sg} {key val : List UInt8} {is : Bool} (h : HasS σ o k G) (hG : G.s.Ok n) (hn : n ≤ 1000000) :
    CallsA Try.prog 101 [.ptr o 0, .agg [byC key, byC val], .v (.bool is)] σ (fun av σ' => ∃ G', G'.s = doS G.s key (if is then some val else none) ∧ av = .tup [] ∧ σ' = putS σ o k G') := by
  refine callsA_mono (callsA_gcSt (X := Nat × Nat) (A := fun _ => .tup []) (T := fun x => ⟨doS G.s key (if is then some val else none), x.1, x.2, G.g3⟩) h (fun _ => rfl) ?_) (fun av σ' ⟨x, e1, e2⟩ => ⟨_, rfl, e1, e2⟩)
  have hpa := put_app (key := key) (val := val) (is := is) h hG.srt (Nat.le_trans hG.l hn)
  have hp2 := fun l lg g g' => putS_2 h l lg g g'
  have hlo := lt_of_get h.o
  have hlr := lt_of_get h.r1
  have hlr2 := lt_of_get h.r2
  have hll := hG.log
  obtain ⟨ho, hr1, hr2, hr3⟩ := h
  obtain ⟨⟨l, log, marks⟩, g1, g2, g3⟩ := G
  simp only [stC, stR1, stR2, stR3, doS] at ho hr1 hr2 hr3 hp2 hpa hll ⊢
  have ha : ∀ x L, (σ.objs.set o x ++ L)[o]? = some x := fun x L => by rw [List.getElem?_append_left (by simpa using hlo)]; exact set_self_of ho x
  have hb : ∀ x y L, (σ.objs.set o x ++ L).set o y = σ.objs.set o y ++ L := fun x y L => by rw [List.set_append_left _ _ (by simpa using hlo), List.set_set]
  have hc : ∀ x, (σ.rows.set k x)[k + 1]? = some ⟨g2, udsC log, none⟩ := fun x => by rw [List.getElem?_set_ne (by omega)]; exact hr2
  have hsr : ∀ x, (σ.rows.set k x).set (k + 1) ⟨g2, udsC log, none⟩ = σ.rows.set k x := fun x => set_same' (hc x)
  have hul := udsC_len log
  have hut : List.take (log.length * 3) (udsC log) = udsC log := List.take_of_length_le (by omega)
  have hrm : (log.length + 1) * 56 ≤ 140737488355328 := by omega
  have hmx : log.length + 1 ≤ 9223372036854775807 := by omega
  have hua : udsC (log ++ [⟨key, getL l key⟩]) = udsC log ++ udC ⟨key, getL l key⟩ := by rw [udsC_app]; simp [udsC]
  obtain ⟨q, hq⟩ : ∃ q, q = getL l key := ⟨_, rfl⟩
  obtain ⟨l', hl'⟩ : ∃ l', l' = setL l key (if is then some val else none) := ⟨_, rfl⟩
  simp only [← hq, ← hl'] at hpa hua ⊢
  simp only [udC] at hpa hua
  have F := And.intro ha (And.intro hb (And.intro hc (And.intro hul (And.intro hut (And.intro hrm (And.intro hmx (And.intro hsr (True.intro))))))))
  refine callsA_body Try.func101 rfl rfl rfl ?_; refine sr fun _ hJ2 => ?_; refine hJ2 _ _ ?_; refine sq fun K3 hK3 => ?_; refine sr fun _ hJ5 => ?_; refine hJ5 _ _ ?_; refine cf ?_; refine run_skip ?_; refine hK3 _ _ ?_; refine sr fun _ hJ7 => ?_; refine ca (c := hpa _) (k := ?_); rintro _ _ ⟨g, rfl, rfl⟩; (repeat (first | simp [F] | simp (disch := omega) only [wC, if_pos, if_neg])); refine hJ7 _ _ ?_; refine sr fun _ hJ9 => ?_; refine hJ9 _ _ ?_; refine cs (fun c18 => ?_) (fun c18 => ?_)
  · (try exact nope c18); all_goals have c18p := c18; try simp [F] at c18p
    all_goals
     replace F := aF c18 F; try replace F := aF c18p F
     have hm : marks ≠ [] := by have h := c18; simp at h; exact List.length_pos_iff.1 h
     refine run_draw (by kernel_rfl) fun J10 hJ10 => ?_
     refine rp2 0 (k := ?_); refine rp2 1 (k := ?_); refine rp2 2 (k := ?_); refine rp2 3 (k := ?_); refine rp2 4 (k := ?_); refine rp2 5 (k := ?_); refine rp2 6 (k := ?_); refine dop 7 rfl ?_; repeat (first | simp [F] | simp (disch := omega) only [wC, if_pos, if_neg])
     refine ⟨by first | exact fun _ _ h => h | (refine later_list [5, 3, 2, 1, 0] (by kernel_rfl) (List.forall_mem_cons.2 ⟨fun _ => fact2 rfl rfl ?_, List.forall_mem_cons.2 ⟨fun _ => fact2 rfl rfl ?_, List.forall_mem_cons.2 ⟨fun _ => fact2 rfl rfl ?_, List.forall_mem_cons.2 ⟨fun _ => fact2 rfl rfl ?_, List.forall_mem_cons.2 ⟨fun _ => fact2 rfl rfl ?_, fun _ h => absurd h List.not_mem_nil⟩⟩⟩⟩⟩) <;> constructor <;> first | rfl | (simp [F]; done)), ?_⟩
     refine rp2 8 (k := ?_); refine rp2 9 (k := ?_); refine dop 10 rfl ?_; repeat (first | simp [F] | simp (disch := omega) only [wC, if_pos, if_neg])
     refine ⟨by first | exact fun _ _ h => h | (refine later_list [8] (by kernel_rfl) (List.forall_mem_cons.2 ⟨fun _ => fact2 rfl rfl ?_, fun _ h => absurd h List.not_mem_nil⟩) <;> constructor <;> first | rfl | (simp [F]; done)), ?_⟩
     refine dd ?_; refine hJ10 _ _ ?_; (try simp only [Then, InBlock, NoGoto, if_true]); refine answer_none rfl (.inl rfl) ?_; refine ⟨(g, g2 + 1), ?_⟩; simp only [if_neg hm]
     rw [hp2, hua]
     exact gcr
  (try exact nope c18); all_goals have c18p := c18; try simp [F] at c18p
  all_goals
   replace F := aF c18 F; try replace F := aF c18p F
   have hm : marks = [] := by have h := c18; simp at h; exact h
   refine run_skip ?_; (try simp only [Then, InBlock, NoGoto, if_true]); refine answer_none rfl (.inl rfl) ?_; refine ⟨(g, g2), ?_⟩; simp only [if_pos hm]
   rw [hp2, hsr]
   exact gcr

end Go.Proofs.Ytmponlabfccjaaa

/-
  A store: what its methods do.
-/
namespace Go.Proofs.Ytmponlabfccjaaa
set_option linter.unnecessarySimpa false
set_option maxRecDepth 100000
open Go Go.Vm
set_option linter.unusedSimpArgs false
set_option linter.unusedVariables false
attribute [local simp] evalL wantedA isCall opA evalA evalAll evalsA evalOpt ofValue ofCell plain binA_eql_pn binA_neq_pn binA_gtr binA_lss binA_geq binA_leq binA_add binA_sub binA_eql binA_neq binA_orI binA_shl binA_shr binA_mul binA_quo binA_rem binA_agg_eql binA_agg_neq convA_int unA_not fieldAddrA loadA partA pickA_true pickA_false pickA_bb lenA builtinA storeA splice AV.cells AV.isCell sliceA boundA intA callOf indexAddrA newObjA buildA fillA zeroA ofCells buildSliceA indexA fieldA set_appN get_appN take_appN List.getElem?_cons_zero List.getElem?_cons_succ get_sa0 get_sa1 get_sa2 get_sa3 set_sa0 set_sa1 set_sa2 set_sa3 appendA rowAppA readA roomA maxLen zeroCell Value.oneCell' Value.cells sliceRowA binA_eqn binA_neqn drop_mr

set_option maxHeartbeats 1600000 in
attribute [local simp] undefA List.getElem?_cons_zero List.getElem?_cons_succ in
theorem set_ok {σ : St} {o k n : Nat} {G : Sg} {key val : List UInt8} {t1 t2 : Tail} (h : HasS σ o k G) (hG : G.s.Ok n) (hn : n ≤ 1000000) (hk : key.length ≤ 1000000) (hv : val.length ≤ 1000000) :
    CallsA Try.prog 67 [.ptr o 0, .sl 1 (bytesA key) key.length t1, .sl 1 (bytesA val) val.length t2] σ (fun av σ' => ∃ G', G'.s = doS G.s key (some val) ∧ av = .tup [] ∧ σ' = putS σ o k G') := by
  have F := True.intro
  refine callsA_body Try.func67 rfl rfl rfl ?_; refine rg' (h := fun J1 hJ1 => ?_); refine ca (c := clone_ok hk) (k := ?_); rintro _ _ ⟨rfl, rfl⟩; (repeat (first | simp [F] | simp (disch := omega) only [wC, if_pos, if_neg])); refine ca (c := clone_ok hv) (k := ?_); rintro _ _ ⟨rfl, rfl⟩; (repeat (first | simp [F] | simp (disch := omega) only [wC, if_pos, if_neg])); refine ca (c := do_ok (key := key) (val := val) (is := true) h hG hn) (k := ?_); rintro _ _ ⟨G', e1, rfl, rfl⟩; (repeat (first | simp [F] | simp (disch := omega) only [wC, if_pos, if_neg])); refine hJ1 _ _ ?_; (try simp only [Then, InBlock, NoGoto, if_true]); refine answer_none rfl (.inl rfl) ?_; exact ⟨G', e1, rfl, rfl⟩

set_option maxHeartbeats 1600000 in
attribute [local simp] undefA List.getElem?_cons_zero List.getElem?_cons_succ in
theorem del_ok {σ : St} {o k n : Nat} {G : Sg} {key : List UInt8} {t1 : Tail} (h : HasS σ o k G) (hG : G.s.Ok n) (hn : n ≤ 1000000) (hk : key.length ≤ 1000000) :
    CallsA Try.prog 66 [.ptr o 0, .sl 1 (bytesA key) key.length t1] σ (fun av σ' => ∃ G', G'.s = doS G.s key none ∧ av = .tup [] ∧ σ' = putS σ o k G') := by
  have hdo : CallsA Try.prog 101 [.ptr o 0, .agg [.sl 1 (bytesA key) key.length .shut, .sl 0 [] 0 .full], .v (.bool false)] σ (fun av σ' => ∃ G', G'.s = doS G.s key none ∧ av = .tup [] ∧ σ' = putS σ o k G') :=
    callsA_wk (.cons (Wk.refl _) (.cons (WkL.agg (.cons (Wk.refl _) (.cons (Wk.nil _ _ _) .nil))) (.cons (Wk.refl _) .nil))) (do_ok (key := key) (val := []) (is := false) h hG hn)
  have F := True.intro
  refine callsA_body Try.func66 rfl rfl rfl ?_; refine rg' (h := fun J1 hJ1 => ?_); refine ca (c := clone_ok hk) (k := ?_); rintro _ _ ⟨rfl, rfl⟩; (repeat (first | simp [F] | simp (disch := omega) only [wC, if_pos, if_neg])); refine ca (c := hdo) (k := ?_); rintro _ _ ⟨G', e1, rfl, rfl⟩; (repeat (first | simp [F] | simp (disch := omega) only [wC, if_pos, if_neg])); refine hJ1 _ _ ?_; (try simp only [Then, InBlock, NoGoto, if_true]); refine answer_none rfl (.inl rfl) ?_; exact ⟨G', e1, rfl, rfl⟩

set_option maxHeartbeats 1600000 in
attribute [local simp] undefA List.getElem?_cons_zero List.getElem?_cons_succ byC in
theorem get_ok {σ : St} {o k n : Nat} {G : Sg} {key : List UInt8} {t1 : Tail} (h : HasS σ o k G) (hG : G.s.Ok n) (hn : n ≤ 1000000) :
    CallsA Try.prog 71 [.ptr o 0, .sl 1 (bytesA key) key.length t1] σ (fun av σ' => av = .tup [byC ((getL G.s.l key).getD []), .v (.bool (getL G.s.l key).isSome)] ∧ σ = σ') := by
  refine callsA_gcS ?_ (by simp [AV.under, underL, byC_under])
  have hfi := find_ok (key := key) (t := t1) h hG.srt (by have := hG.l; omega)
  have hgat : ∀ v, getL G.s.l key = some v → _ := fun v h => getL_some_at (key := key) (v := v) hG.srt h
  have hhas : hasL G.s.l key = (getL G.s.l key).isSome := rfl
  have hkv := hG.kv
  obtain ⟨ho, hr1, hr2, hr3⟩ := h
  obtain ⟨⟨l, log, marks⟩, g1, g2, g3⟩ := G
  simp only [stC, stR1, stR2, stR3] at ho hr1 hr2 hr3 hfi hgat hhas hkv ⊢
  obtain ⟨i, hi⟩ : ∃ i, i = findL l key := ⟨_, rfl⟩
  obtain ⟨q, hq⟩ : ∃ q, q = getL l key := ⟨_, rfl⟩
  simp only [← hi, ← hq] at hgat hhas hfi ⊢
  rw [hhas] at hfi
  cases q with
  | none =>
    have F := And.intro ho (And.intro hr1 (True.intro))
    refine callsA_body Try.func71 rfl rfl rfl ?_; refine sq fun K1 hK1 => ?_; refine rg' (h := fun J2 hJ2 => ?_); refine hJ2 _ _ ?_; refine hK1 _ _ ?_; refine sq fun K3 hK3 => ?_; refine sq fun K4 hK4 => ?_; refine rg' (h := fun J5 hJ5 => ?_); refine hJ5 _ _ ?_; refine hK4 _ _ ?_; refine cf ?_; refine run_skip ?_; refine hK3 _ _ ?_; refine sq fun K6 hK6 => ?_; refine rg' (h := fun J7 hJ7 => ?_); refine ca (c := hfi) (k := ?_); rintro _ _ ⟨rfl, rfl⟩; (repeat (first | simp [F] | simp (disch := omega) only [wC, if_pos, if_neg])); refine hJ7 _ _ ?_; refine hK6 _ _ ?_; refine sq fun K8 hK8 => ?_; refine sq fun K9 hK9 => ?_; refine rg' (h := fun J10 hJ10 => ?_); refine hJ10 _ _ ?_; refine hK9 _ _ ?_; refine ct ?_; refine sq fun K11 hK11 => ?_; refine rg' (h := fun J12 hJ12 => ?_); refine hJ12 _ _ ?_; refine hK11 _ _ ?_; refine run_ret ?_; (try simp only [Then, InBlock, NoGoto]); refine answer_tmp2 rfl (.inr rfl) ?_; exact gcr (hA := WkL.tup (.cons (Wk.nil _ _ _) (.cons (Wk.refl _) .nil)))
  | some v =>
    obtain ⟨hil, hik, hiv⟩ := hgat v rfl
    have hat := (prsC_at hil).2
    have hvl := (hkv _ (List.getElem_mem hil)).2
    rw [hiv] at hat hvl
    simp only [byC] at hat
    have F := And.intro ho (And.intro hr1 (And.intro hil (And.intro hat (True.intro))))
    refine callsA_body Try.func71 rfl rfl rfl ?_; refine sq fun K1 hK1 => ?_; refine rg' (h := fun J2 hJ2 => ?_); refine hJ2 _ _ ?_; refine hK1 _ _ ?_; refine sq fun K3 hK3 => ?_; refine sq fun K4 hK4 => ?_; refine rg' (h := fun J5 hJ5 => ?_); refine hJ5 _ _ ?_; refine hK4 _ _ ?_; refine cf ?_; refine run_skip ?_; refine hK3 _ _ ?_; refine sq fun K6 hK6 => ?_; refine rg' (h := fun J7 hJ7 => ?_); refine ca (c := hfi) (k := ?_); rintro _ _ ⟨rfl, rfl⟩; (repeat (first | simp [F] | simp (disch := omega) only [wC, if_pos, if_neg])); refine hJ7 _ _ ?_; refine hK6 _ _ ?_; refine sq fun K8 hK8 => ?_; refine sq fun K9 hK9 => ?_; refine rg' (h := fun J10 hJ10 => ?_); refine hJ10 _ _ ?_; refine hK9 _ _ ?_; refine cf ?_; refine run_skip ?_; refine hK8 _ _ ?_; refine sq fun K11 hK11 => ?_; refine rg' (h := fun J12 hJ12 => ?_); refine ca (c := clone_ok hvl) (k := ?_); rintro _ _ ⟨rfl, rfl⟩; (repeat (first | simp [F] | simp (disch := omega) only [wC, if_pos, if_neg])); refine hJ12 _ _ ?_; refine hK11 _ _ ?_; refine run_ret ?_; (try simp only [Then, InBlock, NoGoto]); refine answer_tmp2 rfl (.inr rfl) ?_; exact gcr

set_option maxHeartbeats 1600000 in
attribute [local simp] undefA List.getElem?_cons_zero List.getElem?_cons_succ in
theorem new_st_ok {σ : St} : CallsA Try.prog 16 [] σ (fun av σ' => av = .ptr σ.objs.length 0 ∧ σ' = { σ with objs := σ.objs ++ [stC σ.rows.length newSg], rows := σ.rows ++ [stR1 newSg, stR2 newSg, stR3 newSg] }) := by
  refine callsA_new_st ?_
  have F := True.intro
  refine callsA_body Try.func16 rfl rfl rfl ?_; refine sr fun _ hJ2 => ?_; refine hJ2 _ _ ?_; refine sr fun _ hJ4 => ?_; refine hJ4 _ _ ?_; refine ra ?_; exact rt

structure RbS where
  l : List Pr
  n : Nat
  g : Nat
end Go.Proofs.Ytmponlabfccjaaa

/-
  A store: its keys that begin so; another one; are two alike?
-/
namespace Go.Proofs.Ytmponlabfccjaaa
set_option linter.unnecessarySimpa false
set_option maxRecDepth 100000
open Go Go.Vm
set_option linter.unusedSimpArgs false
set_option linter.unusedVariables false
attribute [local simp] evalL wantedA isCall opA evalA evalAll evalsA evalOpt ofValue ofCell plain binA_eql_pn binA_neq_pn binA_gtr binA_lss binA_geq binA_leq binA_add binA_sub binA_eql binA_neq binA_orI binA_shl binA_shr binA_mul binA_quo binA_rem binA_agg_eql binA_agg_neq convA_int unA_not fieldAddrA loadA partA pickA_true pickA_false pickA_bb lenA builtinA storeA splice AV.cells AV.isCell sliceA boundA intA callOf indexAddrA newObjA buildA fillA zeroA ofCells buildSliceA indexA fieldA set_appN get_appN take_appN List.getElem?_cons_zero List.getElem?_cons_succ get_sa0 get_sa1 get_sa2 get_sa3 set_sa0 set_sa1 set_sa2 set_sa3 sliceRowA binA_eqn binA_neqn drop_mr

def keysL (l : List Pr) (p : List UInt8) : List (List UInt8) := ((l.drop (findL l p)).takeWhile fun x => preB x.k p).map (·.k)

theorem takeWhile_stop {α : Type} {f : α → Bool} : ∀ {l : List α} {j : Nat}, (∀ x ∈ l.take j, f x = true) → (∀ x, l[j]? = some x → f x = false) → l.takeWhile f = l.take j
  | [], _, _, _ => by simp
  | a :: l, 0, _, h => by simp [h a rfl]
  | a :: l, j + 1, h1, h2 => by
    have ha := h1 a (by simp)
    rw [List.takeWhile_cons, if_pos ha, List.take_succ_cons, takeWhile_stop (j := j) (fun x hx => h1 x (by simp [hx])) (fun x hx => h2 x (by simpa using hx))]

set_option maxHeartbeats 1600000 in
attribute [local simp] undefA List.getElem?_cons_zero List.getElem?_cons_succ byC drop_mr prsC_noObj udsC_noObj mkC_noObj kysC_noObj bytes_noObj lsA_nil lsT_nil lsZ_nil lsL_nil gcO_ls noObj_ls in
theorem keys_ok {σ : St} {o k n : Nat} {G : Sg} {p : List UInt8} {t : Tail} (h : HasS σ o k G) (hG : G.s.Ok n) (hn : n ≤ 1000000) :
    CallsA Try.prog 56 [.ptr o 0, .sl 1 (bytesA p) p.length t] σ (fun av σ' => av = .sl 1 (kysC (keysL G.s.l p)) (keysL G.s.l p).length .shut ∧ σ = σ') := by
  refine callsA_gcS ?_ (by simp [AV.under, kysC_under])
  have hfi := find_ok (key := p) (t := t) h hG.srt (by have := hG.l; omega)
  have hkv := hG.kv
  have hll := hG.l
  obtain ⟨ho, hr1, hr2, hr3⟩ := h
  obtain ⟨⟨l, log, marks⟩, g1, g2, g3⟩ := G
  simp only [stC, stR1, stR2, stR3] at ho hr1 hr2 hr3 hfi hkv hll ⊢
  have hle := findL_le l p
  have hkl : keysL l p = ((l.drop (findL l p)).takeWhile fun x => preB x.k p).map (·.k) := rfl
  obtain ⟨i, hi⟩ : ∃ i, i = findL l p := ⟨_, rfl⟩
  simp only [← hi] at hfi hle hkl
  rw [hkl]
  obtain ⟨D, hD⟩ : ∃ D, D = l.drop i := ⟨_, rfl⟩
  have hDl : D.length = l.length - i := by rw [hD]; simp
  rw [← hD]
  have hi2 : i ≤ l.length := hle
  have hlc := prsC_len l
  obtain ⟨K, hK⟩ : ∃ K, K = D.map (·.k) := ⟨_, rfl⟩
  have hKj : ∀ j, (D.take j).map (·.k) = K.take j := fun j => by rw [hK]; simp
  have hKl : K.length = l.length - i := by rw [hK]; simp [hDl]
  have F := And.intro ho (And.intro hr1 (And.intro hi2 (And.intro hlc (True.intro))))
  refine callsA_body Try.func56 rfl rfl rfl ?_; refine sr fun _ hJ2 => ?_; refine hJ2 _ _ ?_; refine sq fun K3 hK3 => ?_; refine sr fun _ hJ5 => ?_; refine hJ5 _ _ ?_; refine cf ?_; refine run_skip ?_; refine hK3 _ _ ?_; refine sr fun _ hJ7 => ?_; refine hJ7 _ _ ?_; refine sr fun _ hJ9 => ?_; refine ca (c := hfi) (k := ?_); rintro _ _ ⟨rfl, rfl⟩; (repeat (first | simp [F] | simp (disch := omega) only [wC, if_pos, if_neg])); refine hJ9 _ _ ?_; refine sq fun K10 hK10 => ?_; refine sr fun _ hJ12 => ?_; refine hJ12 _ _ ?_; refine run_block_k ?_; refine run_loopG (X := Nat) [1, 4, 23, 24] (fun j ρ σ1 => (j ≤ l.length - i) ∧ (∀ x ∈ D.take j, preB x.k p = true) ∧ (ρ 5 = lsA σ.toks.length 1 (kysC (K.take j)) j) ∧ (ρ 25 = .v (.int .i64 j)) ∧ (σ1 = { σ with toks := σ.toks ++ lsT j })) (fun j => l.length - i - j) (0) ?st1 ?rd1
  case st1 =>
   refine ⟨lp, ?_, lp, lp, ?_⟩
   · intro x hx
     simp at hx
   · simp [lsT_nil]
  case rd1 =>
   rintro j ρ1 σ1 hF1 ⟨h1, h2, h5, h25, hσ⟩; obtain rfl := hσ.symm
   have f1 := keepL hF1
   (try simp [KeepL, F] at f1); replace F := aF h5 F; replace F := aF h25 F; (try replace F := aF f1 F); refine sr fun _ hJ14 => ?_; refine hJ14 _ _ ?_; refine sq fun K15 hK15 => ?_; refine cs (fun c26 => ?_) (fun c26 => ?_)
   · (try exact nope c26); all_goals have c26p := c26; try simp [F] at c26p
     all_goals
      replace F := aF c26 F; (try replace F := aF c26p F); refine run_skip ?_; refine hK15 _ _ ?_; refine sq fun K16 hK16 => ?_; refine run_block_k ?_; refine sq fun K17 hK17 => ?_
      have hlt : j < l.length - i := by have h := c26; simp at h; omega
      have hjD : j < D.length := by omega
      obtain ⟨x, hx⟩ : ∃ x, x = D[j] := ⟨_, rfl⟩
      have hxl : x = l[i + j] := by rw [hx]; simp only [hD]; rw [List.getElem_drop]
      have hxm := (hkv x (by rw [hxl]; exact List.getElem_mem _)).1
      have hat : List.take 2 (List.drop (i * 2 + j * 2) (prsC l)) = [byC x.k, byC x.v] := by rw [show i * 2 + j * 2 = (i + j) * 2 by omega, prsC_drop, List.drop_eq_getElem_cons (by omega), ← hxl]; rfl
      simp only [byC] at hat
      have hb2 : i * 2 + j * 2 + 2 ≤ l.length * 2 := by omega
      have htk : D.take (j + 1) = D.take j ++ [x] := by rw [hx]; exact (List.take_append_getElem hjD).symm
      have htkK : K.take (j + 1) = K.take j ++ [x.k] := by rw [← hKj, ← hKj, htk]; simp
      have hap : ∀ objs, appendA Try.prog 107 (lsA σ.toks.length 1 (kysC (K.take j)) j) (.sl 1 [.sl 1 (bytesA x.k) x.k.length .shut] 1 .full) ⟨objs, σ.toks ++ lsT j, σ.gl, σ.rows⟩ = some (lsA σ.toks.length 1 (kysC (K.take (j + 1))) (j + 1), ⟨objs, σ.toks ++ lsT (j + 1), σ.gl, σ.rows⟩) := fun objs => by
        rw [htkK, kysC_app]
        exact append_ls elemT_107 ti_109 (by decide) rfl (fun h => by simp [h, kysC]) rfl (by omega) (by simp only [roomA]; omega) (by simp only [maxLen]; omega)
      replace F := aF hlt (And.intro hat (And.intro hb2 (And.intro hap F))); refine rg' (h := fun J18 hJ18 => ?_); refine hJ18 _ _ ?_; refine hK17 _ _ ?_; refine sq fun K19 hK19 => ?_; refine sr fun _ hJ21 => ?_; refine ca (c := prefix_ok) (k := ?_); rintro _ _ ⟨rfl, rfl⟩; (repeat (first | simp [F] | simp (disch := omega) only [wC, if_pos, if_neg])); refine hJ21 _ _ ?_; refine cs (fun c33 => ?_) (fun c33 => ?_)
      · (try exact nope c33); all_goals have c33p := c33; try simp [F] at c33p
        all_goals
         replace F := aF c33 F; try replace F := aF c33p F
         have hpx : preB x.k p = false := by have h := c33; simpa using h
         have hstop := takeWhile_stop (l := D) (j := j) h2 (fun y hy => by rw [List.getElem?_eq_getElem hjD, ← hx] at hy; cases hy; exact hpx)
         have hlen : (K.take j).length = j := by rw [List.length_take]; omega
         have hwk := lsA_wk (k := σ.toks.length) (sz := 1) (n := j) (cs := kysC (K.take j)) (fun h => by simp [h, kysC])
         refine run_exit ?_; refine hK10 _ _ ?_; refine sr fun _ hJ23 => ?_; refine hJ23 _ _ ?_; refine ra ?_
         rw [hstop, hKj, hlen]
         exact gcr (hA := by simp only [putA_get]; simp [F]; exact hwk)
      (try exact nope c33); all_goals have c33p := c33; try simp [F] at c33p
      all_goals
       replace F := aF c33 F; (try replace F := aF c33p F); refine run_skip ?_; refine hK19 _ _ ?_; refine rg' (h := fun J24 hJ24 => ?_); refine ca (c := clone_ok hxm) (k := ?_); rintro _ _ ⟨rfl, rfl⟩; (repeat (first | simp [F] | simp (disch := omega) only [wC, if_pos, if_neg])); refine hJ24 _ _ ?_; refine hK16 _ _ ?_; refine rg' (h := fun J25 hJ25 => ?_); refine hJ25 _ _ ?_; refine ⟨gk, (j + 1), ⟨kpG, lpG, ?_, lpG, lpG, lpG⟩, lpG⟩
       · rw [htk]
         intro y hy
         rcases List.mem_append.1 hy with h | h
         · exact h2 y h
         · simp at h; rw [h]; have h := c33; simpa using h
   (try exact nope c26); all_goals have c26p := c26; try simp [F] at c26p
   all_goals
    replace F := aF c26 F; try replace F := aF c26p F
    have hjl : D.take j = D := List.take_of_length_le (by have h := c26; simp at h; omega)
    have hstop := takeWhile_stop (l := D) (j := j) h2 (fun y hy => by rw [List.getElem?_eq_none (by have h := c26; simp at h; omega)] at hy; cases hy)
    have hlen : (K.take j).length = j := by rw [List.length_take]; omega
    have hwk := lsA_wk (k := σ.toks.length) (sz := 1) (n := j) (cs := kysC (K.take j)) (fun h => by simp [h, kysC])
    refine run_exit ?_; refine hK10 _ _ ?_; refine sr fun _ hJ27 => ?_; refine hJ27 _ _ ?_; refine ra ?_
    rw [hstop, hKj, hlen]
    exact gcr (hA := by simp only [putA_get]; simp [F]; exact hwk)

theorem getL_of_mem : ∀ {l : List Pr} {p : Pr}, Srt l → p ∈ l → getL l p.k = some p.v
  | q :: l, p, hs, h => by
    have l1 := List.pairwise_cons.1 hs
    rcases List.mem_cons.1 h with e | e
    · subst e; simp [getL]
    · have := l1.1 p e
      rw [getL, if_neg (ltB_ne this)]
      exact getL_of_mem l1.2 e
theorem preB_nil (p : List UInt8) : preB p [] = true := by simp [preB]
end Go.Proofs.Ytmponlabfccjaaa

/-
  Behind a fault: nothing is read any more.
-/
namespace Go.Proofs.Ytmponlabfccjaaa
set_option linter.unnecessarySimpa false
set_option maxRecDepth 100000
open Go Go.Vm
set_option linter.unusedSimpArgs false
set_option linter.unusedVariables false
attribute [local simp] evalL wantedA isCall opA evalA evalAll evalsA evalOpt ofValue ofCell plain binA_eql_pn binA_neq_pn binA_gtr binA_lss binA_geq binA_leq binA_add binA_sub binA_eql binA_neq binA_or binA_shl binA_shr binA_mul binA_quo binA_rem convA_int unA_not fieldAddrA loadA partA pickA_true pickA_false pickA_bb lenA builtinA storeA splice AV.cells AV.isCell sliceA boundA intA callOf indexAddrA newObjA buildA fillA zeroA ofCells buildSliceA

theorem right_nil {σ : St} : CallsA Try.prog 65 [.sl 0 [] 0 .full] σ (fun av σ' => av = .v (.bool true) ∧ σ = σ') := by
  refine callsA_body Try.func65 rfl rfl rfl ?_; refine run_seq_k fun K1 hK1 => ?_; refine run_region_k rfl fun J2 hJ2 => ?_; (try simp); refine hJ2 _ _ ?_; refine hK1 _ _ ?_; refine run_seq_k fun K3 hK3 => ?_; refine run_seq_k fun K4 hK4 => ?_; refine run_region_k rfl fun J5 hJ5 => ?_; (try simp); refine hJ5 _ _ ?_; refine hK4 _ _ ?_; refine run_block_k ?_; refine run_loop (X := Unit) (fun _ ρ σ1 => ρ 6 = .v (.int .i64 0) ∧ ρ 7 = .v (.int .i64 0) ∧ σ1 = σ) (fun _ => 0) (()) ?start ?round
  case start =>
    simp
  case round =>
    rintro _ ρ σ1 ⟨h6, h7, rfl⟩; refine run_seq_k fun K6 hK6 => ?_; refine run_region_k rfl fun J7 hJ7 => ?_; (try simp [h6, h7]); refine hJ7 _ _ ?_; refine hK6 _ _ ?_; refine run_seq_k fun K8 hK8 => ?_
    refine run_cond_false (by first | rfl | (simp [h6, h7, evalA]; done)) ?_
    refine run_exit ?_; refine hK3 _ _ ?_; refine run_seq_k fun K9 hK9 => ?_; refine run_region_k rfl fun J10 hJ10 => ?_; (try simp [h6, h7]); refine hJ10 _ _ ?_; refine hK9 _ _ ?_; refine ra ?_; simp [h6, h7]

end Go.Proofs.Ytmponlabfccjaaa

/-
  The codec's writer, whatever it holds.
-/
namespace Go.Proofs.Ytmponlabfccjaaa
set_option linter.unnecessarySimpa false
open Go Go.Vm
set_option linter.unusedSimpArgs false
set_option linter.unusedVariables false
set_option maxRecDepth 100000
attribute [local simp] evalL wantedA isCall opA evalA evalAll evalsA evalOpt ofValue ofCell plain binA_eql_pn binA_neq_pn binA_gtr binA_lss binA_geq binA_leq binA_add binA_sub binA_eql binA_neq binA_or binA_shl binA_shr binA_mul binA_quo binA_rem binA_agg_eql binA_agg_neq convA_int unA_not fieldAddrA loadA partA pickA_true pickA_false pickA_bb lenA builtinA storeA splice AV.cells AV.isCell sliceA boundA intA callOf indexAddrA newObjA buildA fillA zeroA ofCells buildSliceA indexA fieldA coinsC_at

theorem callsA_gcO {σ : St} {P : Program} {f : FuncId} {args : List AV} {Q Q' : AV → St → Prop} (k : CallsA P f args σ Q) (h : ∀ av σ0, Q av σ0 → GoneO σ σ0 ∧ Q' (av.gcO σ.objs.length) (σ.trimO σ0)) : CallsA P f args σ Q' := by
  intro G w vs R hS hl hr hK
  refine k G w vs R hS hl hr (fun v av σ0 G' w' hq hE hS' hv => ?_)
  obtain ⟨hg, hq'⟩ := h av σ0 hq
  obtain ⟨hE2, hS2⟩ := hS.trimO hS' hE hg
  exact hK v _ _ _ _ hq' hE2 hS2 (hv.gcO hE hS.tot)

theorem callsA_gcOI {σ : St} {P : Program} {f : FuncId} {args : List AV} {A : AV} {ι : Type} {Pi : ι → Prop} {τ : ι → St} (k : CallsA P f args σ (fun av σ' => ∃ i, Pi i ∧ av = A ∧ ∃ l, σ' = { τ i with objs := (τ i).objs ++ l }))
    (hA : A.gcO σ.objs.length = A) (hl : ∀ i, (τ i).objs.length = σ.objs.length) (hgl : ∀ i, (τ i).gl = σ.gl) (hkp : ∀ i, Kp σ.objs.length σ.objs (τ i).objs) (hkr : ∀ i, KpR σ.objs.length σ.rows (τ i).rows) : CallsA P f args σ (fun av σ' => av = A ∧ ∃ i, Pi i ∧ σ' = τ i) := by
  refine callsA_gcO k (fun av σ0 ⟨i, hi, hv, l, h⟩ => ?_)
  subst h hv
  refine ⟨gone_kp (hgl i) (kp_more (hkp i)) (hkr i), hA, i, hi, ?_⟩
  have := hl i
  simp [St.trimO, ← this]

/-! ### What a writer holds -/
def wrA (k : Nat) (l : List UInt8) : AV := if l = [] then .sl 0 [] 0 .full else .sl 1 (bytesA l) l.length (.own k)
def Tk (tk : List Nat) (k : Nat) (l : List UInt8) : Prop := l = [] ∨ tk[k]? = some l.length

structure Wr (tk : List Nat) (k : Nat) (l : List UInt8) (tk' : List Nat) (k' : Nat) (l' : List UInt8) : Prop where
  tok : Tk tk' k' l'
  len : tk.length ≤ tk'.length
  keep : ∀ (j v : Nat), (l = [] ∨ j ≠ k) → tk[j]? = some v → tk'[j]? = some v
  own : l' = [] ∨ (k' = k ∧ l ≠ []) ∨ tk.length ≤ k'

theorem Wr.refl {tk : List Nat} {k : Nat} {l : List UInt8} (h : Tk tk k l) : Wr tk k l tk k l := ⟨h, Nat.le_refl _, fun _ _ _ h => h, by
  by_cases e : l = []
  · exact .inl e
  · exact .inr (.inl ⟨rfl, e⟩)⟩

theorem lt_get {l : List Nat} {i v : Nat} (h : l[i]? = some v) : i < l.length := (List.getElem?_eq_some_iff.1 h).1

theorem Wr.trans {tk tk1 tk2 : List Nat} {k k1 k2 : Nat} {l l1 l2 : List UInt8} (h : Wr tk k l tk1 k1 l1) (g : Wr tk1 k1 l1 tk2 k2 l2) : Wr tk k l tk2 k2 l2 := by
  refine ⟨g.tok, Nat.le_trans h.len g.len, fun j v hj hv => g.keep j v ?_ (h.keep j v hj hv), ?_⟩
  · have hlt := lt_get hv
    rcases h.own with e | ⟨e, e2⟩ | e
    · exact .inl e
    · rcases hj with hj | hj
      · exact absurd hj e2
      · exact .inr (by omega)
    · exact .inr (by omega)
  · rcases g.own with e | ⟨e, e2⟩ | e
    · exact .inl e
    · rcases h.own with e3 | ⟨e3, e4⟩ | e3
      · exact absurd e3 e2
      · exact .inr (.inl ⟨by omega, e4⟩)
      · exact .inr (.inr (by omega))
    · have := h.len
      exact .inr (.inr (by omega))

theorem Wr.pre {tk tk' : List Nat} {k k' : Nat} {l' : List UInt8} (h : Wr tk k [] tk' k' l') : ∃ m, tk' = tk ++ m := by
  refine ⟨tk'.drop tk.length, ?_⟩; refine List.ext_getElem? fun i => ?_
  by_cases hi : i < tk.length
  · rw [List.getElem?_append_left hi]
    rw [List.getElem?_eq_getElem hi]
    exact h.keep i _ (.inl rfl) (List.getElem?_eq_getElem hi)
  · rw [List.getElem?_append_right (by omega), List.getElem?_drop]
    congr 1; omega

theorem noObj_wrA' (n k : Nat) (l : List UInt8) : AV.noObj n (wrA k l) = true := by
  unfold wrA
  split <;> simp [noObjL, AV.noObj]
theorem noObj_wrA (n k : Nat) (l : List UInt8) : noObjL n [wrA k l] = true := by
  unfold wrA
  split <;> simp [noObjL, AV.noObj]

def WP (id : Nat) (σ : St) (k : Nat) (l q : List UInt8) : AV → St → Prop := fun av σ' => av = .ptr id 0 ∧ ∃ k' tk', Wr σ.toks k l tk' k' (l ++ q) ∧ σ' = { σ with objs := σ.objs.set id [wrA k' (l ++ q)], toks := tk' }

theorem lay_ok {σ : St} {id k : Nat} {l q : List UInt8} {tq : Tail} (h : σ.objs[id]? = some [wrA k l]) (ht : Tk σ.toks k l) (hne : l ++ q ≠ []) (hl : l.length ≤ 1000000) (hq : q.length ≤ 1000000) :
    CallsA Try.prog 103 [.ptr id 0, .sl 1 (bytesA q) q.length tq] σ (WP id σ k l q) := by
  by_cases e : l = []
  · subst e
    refine callsA_mono (lay_new (by simpa [wrA] using h) hq) (fun av σ' ⟨h1, h2⟩ => ⟨h1, σ.toks.length, σ.toks ++ [q.length], ⟨.inr ?_, ?_, fun j v _ hj => ?_, .inr (.inr (Nat.le_refl _))⟩, ?_⟩)
    · simp
    · simp
    · rw [List.getElem?_append_left (lt_get hj)]; exact hj
    · rw [h2]; simp at hne; simp [wrA, hne]
  · have hk := ht.resolve_left e
    refine callsA_mono (lay_more (by simpa [wrA, e] using h) hk hl hq) (fun av σ' ⟨h1, h2⟩ => ⟨h1, k, σ.toks.set k (l ++ q).length, ⟨.inr (set_self_of hk _), by simp, fun j v hj hv => ?_, .inr (.inl ⟨rfl, e⟩)⟩, ?_⟩)
    · rw [List.getElem?_set_ne (Ne.symm (hj.resolve_left e))]; exact hv
    · rw [h2]; simp [wrA, e]

set_option maxHeartbeats 1600000 in
attribute [local simp] undefA List.getElem?_cons_zero List.getElem?_cons_succ in
theorem wbyte_ok {σ : St} {id k : Nat} {l : List UInt8} {b : UInt8} (h : σ.objs[id]? = some [wrA k l]) (ht : Tk σ.toks k l) (hl : l.length ≤ 1000000) :
    CallsA Try.prog 90 [.ptr id 0, .v (.int .u8 b.toNat)] σ (WP id σ k l [b]) := by
  have hv : (Value.int IntKind.u8 0).cells.size = 1 := rfl
  have F := And.intro hv (True.intro)
  refine callsA_body Try.func90 rfl rfl rfl ?_; refine sr fun _ hJ2 => ?_; refine hJ2 _ _ ?_; refine sr fun _ hJ4 => ?_
  refine ca (c := lay_ok (q := [b]) h ht (by simp) hl (by simp)) (k := ?_)
  rintro _ _ ⟨rfl, k1, tk1, hw1, rfl⟩; (repeat (first | simp [F] | simp (disch := omega) only [wC, if_pos, if_neg])); refine hJ4 _ _ ?_; refine ra ?_; exact ⟨rfl, k1, tk1, hw1, rfl⟩

set_option maxHeartbeats 1600000 in
attribute [local simp] undefA List.getElem?_cons_zero List.getElem?_cons_succ in
theorem wflag_ok {σ : St} {id k : Nat} {l : List UInt8} {b : Bool} (h : σ.objs[id]? = some [wrA k l]) (ht : Tk σ.toks k l) (hl : l.length ≤ 1000000) :
    CallsA Try.prog 92 [.ptr id 0, .v (.bool b)] σ (WP id σ k l [if b then 1 else 0]) := by
  have hv : (Value.int IntKind.u8 0).cells.size = 1 := rfl
  have F := And.intro hv (True.intro)
  refine callsA_body Try.func92 rfl rfl rfl ?_; refine sr fun _ hJ2 => ?_; refine hJ2 _ _ ?_; refine sq fun K3 hK3 => ?_; refine sr fun _ hJ5 => ?_; refine hJ5 _ _ ?_; refine cs (fun c5 => ?_) (fun c5 => ?_)
  · (try exact nope c5); all_goals have c5p := c5; try simp [F] at c5p
    all_goals
     replace F := aF c5 F; (try replace F := aF c5p F); refine sr fun _ hJ7 => ?_
     refine ca (c := lay_ok (q := [1]) h ht (by simp) hl (by simp)) (k := ?_)
     rintro _ _ ⟨rfl, k1, tk1, hw1, rfl⟩; (repeat (first | simp [F] | simp (disch := omega) only [wC, if_pos, if_neg])); refine hJ7 _ _ ?_; refine ra ?_
     have e : b = true := (by simpa using c5)
     subst e
     exact ⟨rfl, k1, tk1, hw1, rfl⟩
  (try exact nope c5); all_goals have c5p := c5; try simp [F] at c5p
  all_goals
   replace F := aF c5 F; (try replace F := aF c5p F); refine run_skip ?_; refine hK3 _ _ ?_; refine sr fun _ hJ9 => ?_
   refine ca (c := lay_ok (q := [0]) h ht (by simp) hl (by simp)) (k := ?_)
   rintro _ _ ⟨rfl, k1, tk1, hw1, rfl⟩; (repeat (first | simp [F] | simp (disch := omega) only [wC, if_pos, if_neg])); refine hJ9 _ _ ?_; refine ra ?_
   have e : b = false := (by simpa using c5)
   subst e
   exact ⟨rfl, k1, tk1, hw1, rfl⟩

def encN (x : Nat) : List UInt8 := UInt8.ofNat (natBytes x).length :: natBytes x

set_option maxHeartbeats 1600000 in
attribute [local simp] undefA List.getElem?_cons_zero List.getElem?_cons_succ in
theorem wnum_ok {σ : St} {id k x : Nat} {l : List UInt8} (h : σ.objs[id]? = some [wrA k l]) (ht : Tk σ.toks k l) (hx : x < 2 ^ 256) (hl : l.length ≤ 900000) :
    CallsA Try.prog 68 [.ptr id 0, .agg (numA x)] σ (WP id σ k l (encN x)) := by
  have hlt := lt_of_get h
  refine callsA_mono (callsA_gcOI (A := .ptr id 0) (Pi := fun i : Nat × List Nat => Wr σ.toks k l i.2 i.1 (l ++ encN x)) (τ := fun i => { σ with objs := σ.objs.set id [wrA i.1 (l ++ encN x)], toks := i.2 }) ?_ (by simp [AV.gcO, hlt]) (fun _ => by simp) (fun _ => rfl) (fun _ => kp_set (kp_refl _) (noObj_wrA _ _ _)) (fun _ => kpr_refl _)) (fun av σ' ⟨h1, i, h2, h3⟩ => ⟨h1, i.1, i.2, h2, h3⟩)
  have hs := set_self_of h
  have hlen : (natBytes x).length ≤ 32 := natBytes_len x 32 (by simpa using hx)
  obtain ⟨c, hc⟩ : ∃ c, c = UInt8.ofNat (natBytes x).length := ⟨_, rfl⟩
  have hcn : c.toNat = (natBytes x).length := by rw [hc]; exact toNat_ofNat (by omega)
  have hw : IntKind.u8.wrap ((natBytes x).length : Int) = (c.toNat : Int) := by rw [wrap_u8, hcn, Nat.mod_eq_of_lt (by omega)]
  have ho1 : ∀ r, (σ.objs ++ r)[id]? = some [wrA k l] := fun r => by rw [List.getElem?_append_left hlt]; exact h
  have ho2 : ∀ x r, (σ.objs.set id x ++ r)[id]? = some x := fun x r => by rw [List.getElem?_append_left (by simpa using hlt)]; exact hs x
  have ho3 : ∀ x r, (σ.objs ++ r).set id x = σ.objs.set id x ++ r := fun x r => List.set_append_left _ _ hlt
  have ho4 : ∀ x y r, (σ.objs.set id y ++ r).set id x = σ.objs.set id x ++ r := fun x y r => by rw [List.set_append_left _ _ (by simpa using hlt), List.set_set]
  have hv : (Value.int IntKind.u8 0).cells.size = 1 := rfl
  have F := And.intro hw (And.intro hv (And.intro ho1 (And.intro ho2 (And.intro ho3 (And.intro ho4 (True.intro))))))
  refine callsA_body Try.func68 rfl rfl rfl ?_; refine sr fun _ hJ2 => ?_; refine hJ2 _ _ ?_; refine sr fun _ hJ4 => ?_; refine ca (c := bytes_ok hx) (k := ?_); rintro _ _ ⟨rfl, rfl⟩; (repeat (first | simp [F] | simp (disch := omega) only [wC, if_pos, if_neg])); refine hJ4 _ _ ?_; refine sr fun _ hJ6 => ?_
  refine ca (c := lay_ok (q := [c]) (ho1 _) ht (by simp) (by omega) (by simp)) (k := ?_)
  rintro _ _ ⟨rfl, k1, tk1, hw1, rfl⟩; repeat (first | simp [F] | simp (disch := omega) only [wC, if_pos, if_neg])
  refine ca (c := lay_ok (l := l ++ [c]) (k := k1) (ho2 _ _) hw1.tok (by simp) (by simp; omega) (by omega)) (k := ?_)
  rintro _ _ ⟨rfl, k2, tk2, hw2, rfl⟩; (repeat (first | simp [F] | simp (disch := omega) only [wC, if_pos, if_neg])); refine hJ6 _ _ ?_; refine ra ?_
  have e : l ++ [c] ++ natBytes x = l ++ encN x := (by simp [encN, hc])
  rw [e] at hw2
  have e2 : c :: natBytes x = encN x := (by simp [encN, hc])
  simp only [e2]
  exact ⟨(k2, tk2), hw1.trans hw2, rfl, _, rfl⟩

def nBytes (size n : Nat) : List UInt8 := (List.range size).map fun j => UInt8.ofNat (n / 2 ^ (8 * (size - 1 - j)) % 256)
theorem nBytes_len (size n : Nat) : (nBytes size n).length = size := by simp [nBytes]

structure WSt where
  j : Nat
  k : Nat
  tk : List Nat

set_option maxHeartbeats 1600000 in
attribute [local simp] undefA List.getElem?_cons_zero List.getElem?_cons_succ in
theorem wnumber_ok {σ : St} {id k n size : Nat} {l : List UInt8} (h : σ.objs[id]? = some [wrA k l]) (ht : Tk σ.toks k l) (hn : n < 2 ^ 64) (hsz : size ≤ 8) (hl : l.length ≤ 900000) :
    CallsA Try.prog 117 [.ptr id 0, .v (.int .u64 n), .v (.int .i64 size)] σ (WP id σ k l (nBytes size n)) := by
  have hs := set_self_of h
  have hs0 := St.set_same h
  have hv : (Value.int IntKind.u8 0).cells.size = 1 := rfl
  have F := And.intro hv (True.intro)
  refine callsA_body Try.func117 rfl rfl rfl ?_; refine sr fun _ hJ2 => ?_; refine hJ2 _ _ ?_; refine sq fun K3 hK3 => ?_; refine sr fun _ hJ5 => ?_; refine hJ5 _ _ ?_; refine run_block_k ?_; refine run_loopF (X := WSt) [1, 6] (fun q ρ σ1 => (q.j ≤ size) ∧ (Wr σ.toks k l q.tk q.k (l ++ (nBytes size n).take q.j)) ∧ (ρ 0 = .ptr id 0) ∧ (ρ 7 = .v (.int .i64 ((size : Int) - 1 - q.j))) ∧ (σ1 = { σ with objs := σ.objs.set id [wrA q.k (l ++ (nBytes size n).take q.j)], toks := q.tk })) (fun q => size - q.j) (⟨0, k, σ.toks⟩) ?st1 ?rd1
  case st1 =>
   refine ⟨lp, ?_, lp, lp, ?_⟩
   · simpa using Wr.refl ht
   · simpa using hs0.symm
  case rd1 =>
   rintro q ρ1 σ1 hF1 ⟨hj, hw, h0, h7, hσ⟩; obtain rfl := hσ.symm
   have f1 := keepL hF1
   (try simp [KeepL, F] at f1); replace F := aF h0 F; replace F := aF h7 F; (try replace F := aF f1 F); refine sq fun K6 hK6 => ?_; refine sr fun _ hJ8 => ?_; refine hJ8 _ _ ?_; refine cs (fun c11 => ?_) (fun c11 => ?_)
   · (try exact nope c11); all_goals have c11p := c11; try simp [F] at c11p
     all_goals
      replace F := aF c11 F; (try replace F := aF c11p F); refine run_skip ?_; refine hK6 _ _ ?_; refine sq fun K9 hK9 => ?_; refine run_block_k ?_
      obtain ⟨i, hi⟩ : ∃ i, i = size - 1 - q.j := ⟨_, rfl⟩
      have he : (size : Int) - 1 - q.j = (i : Int) := by omega
      have hi8 : i < 8 := by omega
      obtain ⟨b, hb⟩ : ∃ b, b = UInt8.ofNat (n / 2 ^ (8 * i) % 256) := ⟨_, rfl⟩
      have hbn : b.toNat = n / 2 ^ (8 * i) % 256 := by rw [hb]; exact toNat_ofNat (by omega)
      have hnx : (nBytes size n).take (q.j + 1) = (nBytes size n).take q.j ++ [b] := by rw [take_snoc (by rw [nBytes_len]; omega)]; simp [nBytes, hb, hi]
      have htl : ((nBytes size n).take q.j).length ≤ 8 := by simp [nBytes_len]; omega
      have hnn : ¬ 8 * (i : Int) < 0 := by omega
      have hsh : Int.fdiv (n : Int) (2 ^ (min (8 * (i : Int)).toNat 64)) = ((n / 2 ^ (8 * i) : Nat) : Int) := by rw [show min (8 * (i : Int)).toNat 64 = 8 * i by omega, Int.fdiv_eq_ediv_of_nonneg _ (by exact Int.le_of_lt (Int.pow_pos (by omega)))]; simp
      have hcv : IntKind.u8.wrap ((n / 2 ^ (8 * i) : Nat) : Int) = (b.toNat : Int) := by rw [wrap_u8, hbn]
      generalize n / 2 ^ (8 * i) = z at *
      replace F := aF he F; replace F := aF hnn F; replace F := aF hsh F; replace F := aF hcv F; refine rg' (h := fun J10 hJ10 => ?_)
      refine ca (c := lay_ok (q := [b]) (hs _) hw.tok (by simp) (by simp; omega) (by simp)) (k := ?_)
      rintro _ _ ⟨rfl, k1, tk1, hw1, rfl⟩; (repeat (first | simp [F] | simp (disch := omega) only [wC, if_pos, if_neg])); refine hJ10 _ _ ?_; refine hK9 _ _ ?_; refine rg' (h := fun J11 hJ11 => ?_); refine hJ11 _ _ ?_; refine ⟨(⟨q.j + 1, k1, tk1⟩), ⟨kp, lp, ?_, lp, ?_, ?_⟩, lp⟩
      · have hq2 := hw.trans hw1
        rw [List.append_assoc, ← hnx] at hq2
        exact hq2
      · simp
        omega
      · simp [hnx]
   (try exact nope c11); all_goals have c11p := c11; try simp [F] at c11p
   all_goals
    replace F := aF c11 F; (try replace F := aF c11p F); refine run_exit ?_; refine hK3 _ _ ?_; refine sr fun _ hJ13 => ?_; refine hJ13 _ _ ?_; refine ra ?_
    have hfull : (nBytes size n).take q.j = nBytes size n := List.take_of_length_le (by rw [nBytes_len]; simp at c11; omega)
    rw [hfull] at hw
    rw [hfull]
    exact ⟨by simp [F], q.k, q.tk, hw, rfl⟩

set_option maxHeartbeats 1600000 in
attribute [local simp] undefA List.getElem?_cons_zero List.getElem?_cons_succ in
theorem wshort_ok {σ : St} {id k n : Nat} {l : List UInt8} (h : σ.objs[id]? = some [wrA k l]) (ht : Tk σ.toks k l) (hn : n < 2 ^ 16) (hl : l.length ≤ 900000) :
    CallsA Try.prog 91 [.ptr id 0, .v (.int .u16 n)] σ (WP id σ k l (nBytes 2 n)) := by
  have F := True.intro
  refine callsA_body Try.func91 rfl rfl rfl ?_; refine sr fun _ hJ2 => ?_; refine hJ2 _ _ ?_; refine sr fun _ hJ4 => ?_
  refine ca (c := wnumber_ok (size := 2) h ht (by omega) (by omega) hl) (k := ?_)
  rintro _ _ ⟨rfl, k1, tk1, hw1, rfl⟩; (repeat (first | simp [F] | simp (disch := omega) only [wC, if_pos, if_neg])); refine hJ4 _ _ ?_; refine ra ?_; exact ⟨rfl, k1, tk1, hw1, rfl⟩

def encC (c : Coin) : List UInt8 := c.d :: encN c.n.v
def encCs (l : List Coin) : List UInt8 := l.flatMap encC
def encL (l : List Coin) : List UInt8 := UInt8.ofNat l.length :: encCs l

theorem encC_len (c : Coin) : (encC c).length ≤ 34 := by
  have := natBytes_len c.n.v 32 (by simpa using c.n.h)
  simp [encC, encN]; omega
theorem encCs_len : ∀ l : List Coin, (encCs l).length ≤ 34 * l.length
  | [] => by simp [encCs]
  | c :: l => by
    have h1 := encC_len c
    have h2 := encCs_len l
    simp [encCs] at h2 ⊢
    omega
theorem encCs_snoc (l : List Coin) (c : Coin) : encCs (l ++ [c]) = encCs l ++ encC c := by simp [encCs]

set_option maxHeartbeats 1600000 in
attribute [local simp] undefA List.getElem?_cons_zero List.getElem?_cons_succ noObj_wrA noObj_wrA' coinC in
theorem wcoins_ok {σ : St} {id k : Nat} {l : List UInt8} {L : List Coin} {tL : Tail} (h : σ.objs[id]? = some [wrA k l]) (ht : Tk σ.toks k l) (hL : L.length ≤ 255) (hl : l.length ≤ 500000) :
    CallsA Try.prog 69 [.ptr id 0, .sl 5 (coinsC L) L.length tL] σ (WP id σ k l (encL L)) := by
  have hlt := lt_of_get h
  refine callsA_mono (callsA_gcOI (A := .ptr id 0) (Pi := fun i : Nat × List Nat => Wr σ.toks k l i.2 i.1 (l ++ encL L)) (τ := fun i => { σ with objs := σ.objs.set id [wrA i.1 (l ++ encL L)], toks := i.2 }) ?_ (by simp [AV.gcO, hlt]) (fun _ => by simp) (fun _ => rfl) (fun _ => kp_set (kp_refl _) (noObj_wrA _ _ _)) (fun _ => kpr_refl _)) (fun av σ' ⟨h1, i, h2, h3⟩ => ⟨h1, i.1, i.2, h2, h3⟩)
  have hs := set_self_of h
  obtain ⟨c, hc⟩ : ∃ c, c = UInt8.ofNat L.length := ⟨_, rfl⟩
  have hcn : c.toNat = L.length := by rw [hc]; exact toNat_ofNat (by omega)
  have hw : IntKind.u8.wrap (L.length : Int) = (c.toNat : Int) := by rw [wrap_u8, hcn, Nat.mod_eq_of_lt (by omega)]
  have ho1 : ∀ r, (σ.objs ++ r)[id]? = some [wrA k l] := fun r => by rw [List.getElem?_append_left hlt]; exact h
  have ho2 : ∀ x r, (σ.objs.set id x ++ r)[id]? = some x := fun x r => by rw [List.getElem?_append_left (by simpa using hlt)]; exact hs x
  have ho3 : ∀ x r, (σ.objs ++ r).set id x = σ.objs.set id x ++ r := fun x r => List.set_append_left _ _ hlt
  have ho4 : ∀ x y r, (σ.objs.set id y ++ r).set id x = σ.objs.set id x ++ r := fun x y r => by rw [List.set_append_left _ _ (by simpa using hlt), List.set_set]
  have hv : (Value.int IntKind.u8 0).cells.size = 1 := rfl
  have F := And.intro hw (And.intro hv (And.intro ho1 (And.intro ho2 (And.intro ho3 (And.intro ho4 (And.intro hlt (True.intro)))))))
  refine callsA_body Try.func69 rfl rfl rfl ?_; refine sr fun _ hJ2 => ?_; refine hJ2 _ _ ?_; refine sr fun _ hJ4 => ?_
  refine ca (c := lay_ok (q := [c]) h ht (by simp) (by omega) (by simp)) (k := ?_)
  rintro _ _ ⟨rfl, k1, tk1, hw1, rfl⟩; (repeat (first | simp [F] | simp (disch := omega) only [wC, if_pos, if_neg])); refine hJ4 _ _ ?_; refine sq fun K5 hK5 => ?_; refine sr fun _ hJ7 => ?_; refine hJ7 _ _ ?_; refine run_block_k ?_; refine run_loopG (X := WSt) [4, 13, 14] (fun q ρ σ1 => (q.j ≤ L.length) ∧ (Wr σ.toks k l q.tk q.k (l ++ c :: encCs (L.take q.j))) ∧ (ρ 0 = .ptr id 0) ∧ (ρ 15 = .v (.int .i64 q.j)) ∧ (σ1 = { σ with objs := σ.objs.set id [wrA q.k (l ++ c :: encCs (L.take q.j))], toks := q.tk })) (fun q => L.length - q.j) (⟨0, k1, tk1⟩) ?st1 ?rd1
  case st1 =>
   refine ⟨lp, ?_, lp, lp, ?_⟩
   · simpa [encCs] using hw1
   · simp [encCs]
  case rd1 =>
   rintro q ρ1 σ1 hF1 ⟨hj, hq, h0, h15, hσ⟩; obtain rfl := hσ.symm
   have f1 := keepL hF1
   (try simp [KeepL, F] at f1); replace F := aF h0 F; replace F := aF h15 F; (try replace F := aF f1 F); refine sr fun _ hJ9 => ?_; refine hJ9 _ _ ?_; refine sq fun K10 hK10 => ?_; refine cs (fun c16 => ?_) (fun c16 => ?_)
   · (try exact nope c16); all_goals have c16p := c16; try simp [F] at c16p
     all_goals
      replace F := aF c16 F; (try replace F := aF c16p F); refine run_skip ?_; refine hK10 _ _ ?_; refine sq fun K11 hK11 => ?_; refine run_block_k ?_; refine sr fun _ hJ13 => ?_; refine hJ13 _ _ ?_
      have hel := encCs_len (L.take q.j)
      have htl : (L.take q.j).length ≤ 255 := by simp; omega
      refine run_draw (by kernel_rfl) fun J14 hJ14 => ?_
      refine rp2 0 (k := ?_); refine rp2 1 (k := ?_); refine rp2 2 (k := ?_); refine rp2 3 (k := ?_); refine rp2 5 (k := ?_); refine rp2 6 (k := ?_)
      refine dc 4 rfl (c := lay_ok (l := l ++ c :: encCs (L.take q.j)) (q := [L[q.j].d]) (ho2 _ _) hq.tok (by simp) (by simp; omega) (by simp)) (k := ?_)
      rintro _ _ ⟨rfl, k2, tk2, hw2, rfl⟩
      refine ⟨by first | exact fun _ _ h => h | (refine later_list [6, 5, 2, 1] (by kernel_rfl) (List.forall_mem_cons.2 ⟨fun _ => fact2 rfl rfl ?_, List.forall_mem_cons.2 ⟨fun _ => fact2 rfl rfl ?_, List.forall_mem_cons.2 ⟨fun _ => fact2 rfl rfl ?_, List.forall_mem_cons.2 ⟨fun _ => fact2 rfl rfl ?_, fun _ h => absurd h List.not_mem_nil⟩⟩⟩⟩) <;> constructor <;> first | rfl | (simp [F]; done)), ?_⟩
      repeat (first | simp [F] | simp (disch := omega) only [wC, if_pos, if_neg])
      refine dc 7 rfl (c := wnum_ok (l := l ++ c :: (encCs (L.take q.j) ++ [L[q.j].d])) (x := L[q.j].n.v) (ho2 _ _) (by simpa using hw2.tok) L[q.j].n.h (by simp; omega)) (k := ?_)
      rintro _ _ ⟨rfl, k3, tk3, hw3, rfl⟩
      refine ⟨by first | exact fun _ _ h => h | (refine later_list [5, 2, 1] (by kernel_rfl) (List.forall_mem_cons.2 ⟨fun _ => fact2 rfl rfl ?_, List.forall_mem_cons.2 ⟨fun _ => fact2 rfl rfl ?_, List.forall_mem_cons.2 ⟨fun _ => fact2 rfl rfl ?_, fun _ h => absurd h List.not_mem_nil⟩⟩⟩) <;> constructor <;> first | rfl | (simp [F]; done)), ?_⟩
      (repeat (first | simp [F] | simp (disch := omega) only [wC, if_pos, if_neg])); refine dop 8 rfl ?_; (repeat (first | simp [F] | simp (disch := omega) only [wC, if_pos, if_neg])); (try refine ⟨ln, ?_⟩); refine dd ?_; refine hJ14 _ _ ?_; refine hK11 _ _ ?_; refine rg' (h := fun J15 hJ15 => ?_); refine hJ15 _ _ ?_
      have e3 : encCs (L.take (q.j + 1)) = encCs (L.take q.j) ++ L[q.j].d :: encN L[q.j].n.v := by rw [take_snoc (by simp at c16; omega), encCs_snoc]; rfl
      simp only [List.append_assoc, List.cons_append, List.nil_append] at hw2 hw3
      refine ⟨gk, (⟨q.j + 1, k3, tk3⟩), ⟨kpG, lpG, ?_, lpG, lpG, ?_⟩, lpG⟩
      · simp only [e3]
        exact (hq.trans hw2).trans hw3
      · simp [St.trimO, e3]
   (try exact nope c16); all_goals have c16p := c16; try simp [F] at c16p
   all_goals
    replace F := aF c16 F; (try replace F := aF c16p F); refine run_exit ?_; refine hK5 _ _ ?_; refine sr fun _ hJ17 => ?_; refine hJ17 _ _ ?_; refine ra ?_
    have hfull : L.take q.j = L := List.take_of_length_le (by simp at c16; omega)
    rw [hfull] at hq
    rw [hfull]
    have e2 : c :: encCs L = encL L := (by simp [encL, hc])
    rw [e2] at hq
    simp only [e2]
    exact ⟨(q.k, q.tk), hq, by simp [F], [], by simp⟩

end Go.Proofs.Ytmponlabfccjaaa

/-
  Lists of coins: may they be? are they alike?
-/
namespace Go.Proofs.Ytmponlabfccjaaa
set_option linter.unnecessarySimpa false
set_option maxRecDepth 100000
open Go Go.Vm
set_option linter.unusedSimpArgs false
set_option linter.unusedVariables false
attribute [local simp] evalL wantedA isCall opA evalA evalAll evalsA evalOpt ofValue ofCell plain binA_eql_pn binA_neq_pn binA_gtr binA_lss binA_geq binA_leq binA_add binA_sub binA_eql binA_neq binA_or binA_shl binA_shr binA_mul binA_quo binA_rem binA_agg_eql binA_agg_neq convA_int unA_not fieldAddrA loadA partA pickA_true pickA_false pickA_bb lenA builtinA storeA splice AV.cells AV.isCell sliceA boundA intA callOf indexAddrA newObjA buildA fillA zeroA ofCells buildSliceA indexA fieldA coinsC_at coinC List.getElem?_cons_zero List.getElem?_cons_succ

set_option maxHeartbeats 1600000 in
attribute [local simp] undefA List.getElem?_cons_zero List.getElem?_cons_succ numA in
theorem zero_ok {σ : St} {x : Num} : CallsA Try.prog 42 [.agg (numA x.v)] σ (fun av σ' => av = .v (.bool (decide (x.v = 0))) ∧ σ = σ') := by
  have hz : decide (x.v = 0) = (((limb x.v 0 : Int) == 0) && ((limb x.v 1 : Int) == 0) && ((limb x.v 2 : Int) == 0) && ((limb x.v 3 : Int) == 0)) := by
    rw [← cellsEq_num0]
    simp [numA, cellsEqA, Bool.and_assoc]
  rw [hz]
  refine callsA_gcS ?_ rfl
  have F := True.intro
  refine callsA_body Try.func42 rfl rfl rfl ?_; refine sr fun _ hJ2 => ?_; refine hJ2 _ _ ?_; refine sr fun _ hJ4 => ?_; refine gs 6 (fun g1_3 => ?_) (fun g1_3 => ?_)
  · (try exact nope g1_3); all_goals have g1_3p := g1_3; try simp [F] at g1_3p
    all_goals
     replace F := aF g1_3 F; (try replace F := aF g1_3p F); (iterate 3 refine go2 (k := ?_)); refine gs 11 (fun g1_8 => ?_) (fun g1_8 => ?_)
     · (try exact nope g1_8); all_goals have g1_8p := g1_8; try simp [F] at g1_8p
       all_goals
        replace F := aF g1_8 F; (try replace F := aF g1_8p F); (iterate 3 refine go2 (k := ?_)); refine gs 16 (fun g1_13 => ?_) (fun g1_13 => ?_)
        · (try exact nope g1_13); all_goals have g1_13p := g1_13; try simp [F] at g1_13p
          all_goals
           replace F := aF g1_13 F; (try replace F := aF g1_13p F); (iterate 3 refine go2 (k := ?_)); refine hJ4 _ _ ?_; refine ra ?_; exact gcr
        (try exact nope g1_13); all_goals have g1_13p := g1_13; try simp [F] at g1_13p
        all_goals
         replace F := aF g1_13 F; (try replace F := aF g1_13p F); (iterate 3 refine no2 (k := ?_)); refine hJ4 _ _ ?_; refine ra ?_; exact gcr
     (try exact nope g1_8); all_goals have g1_8p := g1_8; try simp [F] at g1_8p
     all_goals
      replace F := aF g1_8 F; (try replace F := aF g1_8p F); (iterate 6 refine no2 (k := ?_)); refine hJ4 _ _ ?_; refine ra ?_; exact gcr
  (try exact nope g1_3); all_goals have g1_3p := g1_3; try simp [F] at g1_3p
  all_goals
   replace F := aF g1_3 F; (try replace F := aF g1_3p F); (iterate 9 refine no2 (k := ?_)); refine hJ4 _ _ ?_; refine ra ?_; exact gcr

theorem right_no {l : List Coin} {k : Nat} (h : k < l.length) (hn : 8 ≤ l[k].d.toNat ∨ l[k].n.v = 0 ∨ ∃ j, ∃ e : k = j + 1, l[k].d.toNat ≤ (l[j]'(by omega)).d.toNat) : ¬ Right l := by
  intro hr
  have h1 := hr.1 l[k] (List.getElem_mem h)
  rcases hn with hn | hn | ⟨j, rfl, hn⟩
  · omega
  · exact h1.2 hn
  · have := List.pairwise_iff_getElem.1 hr.2 j (j + 1) (by omega) h (by omega)
    omega
theorem right_next {l : List Coin} {j : Nat} (h : j + 1 < l.length) (h1 : l[j + 1].d.toNat < 8) (h2 : ¬ l[j + 1].n.v = 0) (h3 : (l[j]'(by omega)).d.toNat < l[j + 1].d.toNat) (hR : Right (l.take (j + 1))) : Right (l.take (j + 1 + 1)) := by
  rw [take_snoc h, right_snoc]
  refine ⟨hR, ⟨h1, h2⟩, right_last hR ?_ h3⟩
  rw [take_snoc (by omega : j < l.length), List.getLast?_append]; rfl
theorem right_first {l : List Coin} (h : 0 < l.length) (h1 : l[0].d.toNat < 8) (h2 : ¬ l[0].n.v = 0) : Right (l.take 1) := by
  have := take_snoc h
  rw [Nat.zero_add] at this
  rw [this, right_snoc]
  exact ⟨by simpa using Go.Vm.right_nil, ⟨h1, h2⟩, by simp⟩

set_option maxHeartbeats 1600000 in
attribute [local simp] undefA List.getElem?_cons_zero List.getElem?_cons_succ in
theorem right_ok {σ : St} {l : List Coin} {tl : Tail} (hl : l.length ≤ 9223372036854775807) : CallsA Try.prog 65 [.sl 5 (coinsC l) l.length tl] σ (fun av σ' => av = .v (.bool (decide (Right l))) ∧ σ = σ') := by
  refine callsA_gcS ?_ rfl
  have F := True.intro
  refine callsA_body Try.func65 rfl rfl rfl ?_; refine sr fun _ hJ2 => ?_; refine hJ2 _ _ ?_; refine sq fun K3 hK3 => ?_; refine sr fun _ hJ5 => ?_; refine hJ5 _ _ ?_; refine run_block_k ?_; refine run_loopG (X := Nat) [0, 5, 6] (fun k ρ σ1 => (k ≤ l.length) ∧ (Right (l.take k)) ∧ (ρ 7 = .v (.int .i64 k)) ∧ (σ1 = σ)) (fun k => l.length - k) (0) ?st1 ?rd1
  case st1 =>
   refine ⟨lp, ?_, lp, lp⟩
   · simpa using Go.Vm.right_nil
  case rd1 =>
   rintro k ρ1 σ1 hF1 ⟨hk, hR, h7, hs⟩; obtain rfl := hs.symm
   have f1 := keepL hF1
   (try simp [KeepL, F] at f1); replace F := aF h7 F; (try replace F := aF f1 F); refine sr fun _ hJ7 => ?_; refine hJ7 _ _ ?_; refine sq fun K8 hK8 => ?_; refine cs (fun c8 => ?_) (fun c8 => ?_)
   · (try exact nope c8); all_goals have c8p := c8; try simp [F] at c8p
     all_goals
      replace F := aF c8 F; (try replace F := aF c8p F); refine run_skip ?_; refine hK8 _ _ ?_; refine sq fun K9 hK9 => ?_; refine run_block_k ?_; refine sr fun _ hJ11 => ?_; refine hJ11 _ _ ?_; refine sq fun K12 hK12 => ?_
      refine run_draw (by kernel_rfl) fun J13 hJ13 => ?_
      refine rp2 0 (k := ?_); refine rp2 1 (k := ?_); refine rp2 2 (k := ?_); refine rp2 3 (k := ?_); refine gd 15 (fun g4_3 => ?_) (fun g4_3 => ?_)
      · (try exact nope g4_3); all_goals have g4_3p := g4_3; try simp [F] at g4_3p
        all_goals
         replace F := aF g4_3 F; (try replace F := aF g4_3p F); refine rp2 4 (k := ?_); refine rp2 5 (k := ?_); refine rp2 6 (k := ?_); refine rp2 7 (k := ?_); refine rp2 8 (k := ?_); refine rp2 9 (k := ?_); refine rp2 10 (k := ?_); refine rp2 11 (k := ?_); refine rp2 12 (k := ?_); refine rp2 13 (k := ?_); refine rp2 14 (k := ?_); refine rp2 15 (k := ?_); refine rp2 16 (k := ?_); refine rp2 17 (k := ?_); refine rp2 18 (k := ?_); refine rp2 19 (k := ?_); refine rp2 20 (k := ?_); refine rp2 21 (k := ?_); refine rp2 22 (k := ?_); refine rp2 23 (k := ?_); refine dd ?_; refine hJ13 _ _ ?_; refine hK12 _ _ ?_; refine ct ?_; refine sr fun _ hJ15 => ?_; refine hJ15 _ _ ?_; refine ra ?_
         have hn : ¬ Right l := right_no c8p (.inl (by omega))
         exact gcr
      (try exact nope g4_3); all_goals have g4_3p := g4_3; try simp [F] at g4_3p
      all_goals
       replace F := aF g4_3 F; (try replace F := aF g4_3p F); refine rp2 4 (k := ?_); refine rp2 5 (k := ?_); refine rp2 6 (k := ?_); refine rp2 7 (k := ?_); refine rp2 8 (k := ?_); refine rp2 9 (k := ?_); refine gd 21 (fun g4_9 => ?_) (fun g4_9 => ?_)
       · (try exact nope g4_9); all_goals have g4_9p := g4_9; try simp [F] at g4_9p
         all_goals
          replace F := aF g4_9 F; (try replace F := aF g4_9p F); refine rp2 10 (k := ?_); refine rp2 11 (k := ?_); refine rp2 12 (k := ?_); refine rp2 13 (k := ?_); refine rp2 14 (k := ?_); refine rp2 15 (k := ?_); refine rp2 16 (k := ?_); refine rp2 17 (k := ?_); refine rp2 18 (k := ?_); refine rp2 19 (k := ?_); refine rp2 20 (k := ?_); refine rp2 21 (k := ?_); refine rp2 22 (k := ?_); refine rp2 23 (k := ?_); refine dd ?_; refine hJ13 _ _ ?_; refine hK12 _ _ ?_; refine ct ?_; refine sr fun _ hJ17 => ?_; refine hJ17 _ _ ?_; refine ra ?_
          have hn : ¬ Right l := right_no c8p (.inr (.inl g4_9p))
          exact gcr
       (try exact nope g4_9); all_goals have g4_9p := g4_9; try simp [F] at g4_9p
       all_goals
        replace F := aF g4_9 F; (try replace F := aF g4_9p F); refine rp2 10 (k := ?_); refine rp2 11 (k := ?_); refine rp2 12 (k := ?_); refine gd 24 (fun g4_12 => ?_) (fun g4_12 => ?_)
        · (try exact nope g4_12); all_goals have g4_12p := g4_12; try simp [F] at g4_12p
          all_goals
           replace F := aF g4_12 F; try replace F := aF g4_12p F
           obtain ⟨j, rfl⟩ : ∃ j, k = j + 1 := ⟨k - 1, by omega⟩
           refine rp2 13 (k := ?_); refine rp2 14 (k := ?_); refine rp2 15 (k := ?_); refine rp2 16 (k := ?_); refine rp2 17 (k := ?_); refine rp2 18 (k := ?_); refine rp2 19 (k := ?_); refine rp2 20 (k := ?_); refine rp2 21 (k := ?_); refine rp2 22 (k := ?_); refine rp2 23 (k := ?_); refine dd ?_; refine hJ13 _ _ ?_; refine hK12 _ _ ?_; refine cs (fun c35 => ?_) (fun c35 => ?_)
           · (try exact nope c35); all_goals have c35p := c35; try simp [F] at c35p
             all_goals
              replace F := aF c35 F; (try replace F := aF c35p F); refine sr fun _ hJ19 => ?_; refine hJ19 _ _ ?_; refine ra ?_
              have hn : ¬ Right l := right_no c8p (.inr (.inr ⟨j, rfl, c35p⟩))
              exact gcr
           (try exact nope c35); all_goals have c35p := c35; try simp [F] at c35p
           all_goals
            replace F := aF c35 F; (try replace F := aF c35p F); refine run_skip ?_; refine hK9 _ _ ?_; refine rg' (h := fun J20 hJ20 => ?_); refine hJ20 _ _ ?_; refine ⟨gk, (j + 1 + 1), ⟨kpG, lpG, ?_, lpG, lpG⟩, lpG⟩
            · exact right_next c8p (by omega) g4_9p c35p hR
        (try exact nope g4_12); all_goals have g4_12p := g4_12; try simp [F] at g4_12p
        all_goals
         replace F := aF g4_12 F; try replace F := aF g4_12p F
         obtain rfl : k = 0 := by omega
         refine rp2 13 (k := ?_); refine rp2 14 (k := ?_); refine rp2 15 (k := ?_); refine rp2 16 (k := ?_); refine rp2 17 (k := ?_); refine rp2 18 (k := ?_); refine rp2 19 (k := ?_); refine rp2 20 (k := ?_); refine rp2 21 (k := ?_); refine rp2 22 (k := ?_); refine rp2 23 (k := ?_); refine dd ?_; refine hJ13 _ _ ?_; refine hK12 _ _ ?_; refine cf ?_; refine run_skip ?_; refine hK9 _ _ ?_; refine rg' (h := fun J21 hJ21 => ?_); refine hJ21 _ _ ?_; refine ⟨gk, (1), ⟨kpG, lpG, ?_, lpG, lpG⟩, lpG⟩
         · exact right_first c8p (by omega) g4_9p
   (try exact nope c8); all_goals have c8p := c8; try simp [F] at c8p
   all_goals
    replace F := aF c8 F; (try replace F := aF c8p F); refine run_exit ?_; refine hK3 _ _ ?_; refine sr fun _ hJ23 => ?_; refine hJ23 _ _ ?_; refine ra ?_
    have hn : Right l := by rw [List.take_of_length_le c8p] at hR; exact hR
    exact gcr

set_option maxHeartbeats 1600000 in
attribute [local simp] undefA List.getElem?_cons_zero List.getElem?_cons_succ in
theorem rsame_ok {σ : St} {l m : List Coin} {t1 t2 : Tail} (hl : l.length ≤ 9223372036854775807) (hm : m.length ≤ 9223372036854775807) : CallsA Try.prog 21 [.sl 5 (coinsC l) l.length t1, .sl 5 (coinsC m) m.length t2] σ (fun av σ' => av = .v (.bool (decide (l = m))) ∧ σ = σ') := by
  have F := True.intro
  refine callsA_body Try.func21 rfl rfl rfl ?_; refine sr fun _ hJ2 => ?_; refine hJ2 _ _ ?_; refine sq fun K3 hK3 => ?_; refine sr fun _ hJ5 => ?_; refine hJ5 _ _ ?_; refine cs (fun c10 => ?_) (fun c10 => ?_)
  · (try exact nope c10); all_goals have c10p := c10; try simp [F] at c10p
    all_goals
     replace F := aF c10 F; (try replace F := aF c10p F); refine sr fun _ hJ7 => ?_; refine hJ7 _ _ ?_; refine ra ?_
     have hn : ¬ l = m := by rintro rfl; omega
     exact rt
  (try exact nope c10); all_goals have c10p := c10; try simp [F] at c10p
  all_goals
   replace F := aF c10 F; (try replace F := aF c10p F); refine run_skip ?_; refine hK3 _ _ ?_; refine sq fun K8 hK8 => ?_; refine sr fun _ hJ10 => ?_; refine hJ10 _ _ ?_; refine run_block_k ?_; refine run_loopF (X := Nat) [0, 1] (fun i ρ σ1 => (i ≤ l.length) ∧ (l.take i = m.take i) ∧ (ρ 5 = .v (.int .i64 i)) ∧ (σ1 = σ)) (fun i => l.length - i) (0) ?st1 ?rd1
   case st1 =>
    refine ⟨lp, lp, lp, lp⟩
   case rd1 =>
    rintro i ρ1 σ1 hF1 ⟨hi, hE, h5, hs⟩; obtain rfl := hs.symm
    have f1 := keepL hF1
    (try simp [KeepL, F] at f1); replace F := aF h5 F; (try replace F := aF f1 F); refine sq fun K11 hK11 => ?_; refine sr fun _ hJ13 => ?_; refine hJ13 _ _ ?_; refine cs (fun c14 => ?_) (fun c14 => ?_)
    · (try exact nope c14); all_goals have c14p := c14; try simp [F] at c14p
      all_goals
       replace F := aF c14 F; (try replace F := aF c14p F); refine run_skip ?_; refine hK11 _ _ ?_; refine sq fun K14 hK14 => ?_; refine run_block_k ?_; refine sq fun K15 hK15 => ?_
       refine run_draw (by kernel_rfl) fun J16 hJ16 => ?_
       refine rp2 0 (k := ?_); refine rp2 1 (k := ?_); refine rp2 2 (k := ?_); refine rp2 3 (k := ?_); refine rp2 4 (k := ?_); refine rp2 5 (k := ?_); refine rp2 6 (k := ?_); refine rp2 7 (k := ?_); refine rp2 8 (k := ?_); refine dd ?_; refine hJ16 _ _ ?_; refine hK15 _ _ ?_; refine cs (fun c25 => ?_) (fun c25 => ?_)
       · (try exact nope c25); all_goals have c25p := c25; try simp [F] at c25p
         all_goals
          replace F := aF c25 F; (try replace F := aF c25p F); refine sr fun _ hJ18 => ?_; refine hJ18 _ _ ?_; refine ra ?_
          have hn : ¬ l = m := by rintro rfl; simp at c25p
          exact rt
       (try exact nope c25); all_goals have c25p := c25; try simp [F] at c25p
       all_goals
        replace F := aF c25 F; (try replace F := aF c25p F); refine run_skip ?_; refine hK14 _ _ ?_; refine rg' (h := fun J19 hJ19 => ?_); refine hJ19 _ _ ?_; refine ⟨(i + 1), ⟨kp, lp, ?_, lp, lp⟩, lp⟩
        · rw [take_snoc (by omega : i < l.length), take_snoc (by omega : i < m.length), hE, c25p]
    (try exact nope c14); all_goals have c14p := c14; try simp [F] at c14p
    all_goals
     replace F := aF c14 F; (try replace F := aF c14p F); refine run_exit ?_; refine hK8 _ _ ?_; refine sr fun _ hJ21 => ?_; refine hJ21 _ _ ?_; refine ra ?_
     have hn : l = m := by rw [← List.take_of_length_le (l := l) (i := i) (by omega), ← List.take_of_length_le (l := m) (i := i) (by omega), hE]
     exact rt

end Go.Proofs.Ytmponlabfccjaaa

/-
  Lists of coins: what both readers make of a list's bytes.
-/
namespace Go.Proofs.Ytmponlabfccjaaa
set_option linter.unnecessarySimpa false
open Go Go.Vm
set_option linter.unusedSimpArgs false
set_option linter.unusedVariables false
set_option maxRecDepth 100000
attribute [local simp] evalL wantedA isCall opA evalA evalAll evalsA evalOpt ofValue ofCell plain binA_eql_pn binA_neq_pn binA_gtr binA_lss binA_geq binA_leq binA_add binA_sub binA_eql binA_neq binA_or binA_shl binA_shr binA_mul binA_quo binA_rem binA_agg_eql binA_agg_neq convA_int unA_not fieldAddrA loadA partA pickA_true pickA_false pickA_bb lenA builtinA storeA splice AV.cells AV.isCell sliceA boundA intA callOf indexAddrA newObjA buildA fillA zeroA ofCells indexA fieldA coinsC_at

def byteS (s : Option (List UInt8)) : UInt8 := (takeB 1 s).headD 0
theorem be_byteS (s : Option (List UInt8)) : be (takeB 1 s) = (byteS s).toNat := by
  have h := takeB_len 1 s
  unfold byteS
  match takeB 1 s, h with
  | [], _ => rfl
  | [b], _ => simp [be]
  | _ :: _ :: _, h => simp at h

theorem numOf_lt (p : List UInt8) : numOf p < 2 ^ 256 := by
  unfold numOf
  split
  · rename_i h
    simp only [numOk, Bool.and_eq_true, decide_eq_true_eq] at h
    exact Nat.lt_of_lt_of_le (be_lt p) (Nat.le_trans (Nat.pow_le_pow_right (by omega) h.1) (by decide))
  · decide

def numN (s : Option (List UInt8)) : Num := ⟨numOf (numB s), numOf_lt _⟩
def coinS (s : Option (List UInt8)) : Coin := ⟨byteS s, numN (takeS 1 s)⟩

def coinsGo : Nat → Option (List UInt8) → List Coin → List Coin × Option (List UInt8)
  | 0, s, l => (l, s)
  | _ + 1, none, l => (l, none)
  | m + 1, some p, l => coinsGo m (numS (takeS 1 (some p))) (l ++ [coinS (some p)])

theorem coinsGo_more {m : Nat} {s : Option (List UInt8)} {l : List Coin} (hm : 0 < m) (hs : ¬ s = none) : coinsGo m s l = coinsGo (m - 1) (numS (takeS 1 s)) (l ++ [coinS s]) := by
  match m, s, hm, hs with
  | m + 1, some p, _, _ => rfl
theorem coinsGo_stop {m : Nat} {s : Option (List UInt8)} {l : List Coin} (h : m = 0 ∨ s = none) : coinsGo m s l = (l, s) := by
  match m, s, h with
  | 0, _, _ => rfl
  | m + 1, none, _ => rfl

def coinsR (s : Option (List UInt8)) : List Coin × Option (List UInt8) := coinsGo (be (takeB 1 s)) (takeS 1 s) []
def coinsS (s : Option (List UInt8)) : Option (List UInt8) := if Right (coinsR s).1 then (coinsR s).2 else none
def coinsL (s : Option (List UInt8)) : List Coin := if coinsS s = none then [] else (coinsR s).1

def slA (k : Nat) (l : List Coin) : AV := if l = [] then .sl 0 [] 0 .full else .sl 5 (coinsC l) l.length (.own k)
def tkA (l : List Coin) : List Nat := if l = [] then [] else [l.length]

theorem wk_slA (k : Nat) (l : List Coin) : Wk (slA k l) (.sl 5 (coinsC l) l.length .shut) := by
  unfold slA
  split
  · rename_i h; subst h; exact Wk.nil _ _ _
  · exact Wk.shut _ _ _ _

@[simp] theorem slA_nil (k : Nat) : slA k [] = .sl 0 [] 0 .full := rfl
@[simp] theorem tkA_nil : tkA [] = [] := rfl

theorem right_slA {σ : St} {k : Nat} {l : List Coin} (hl : l.length ≤ 1000000) : CallsA Try.prog 65 [slA k l] σ (fun av σ' => av = .v (.bool (decide (Right l))) ∧ σ = σ') :=
  callsA_wk (.cons (wk_slA k l) .nil) (right_ok (by omega))
theorem right_nilA {σ : St} : CallsA Try.prog 65 [.sl 0 [] 0 .full] σ (fun av σ' => av = .v (.bool true) ∧ σ = σ') := by
  have := right_slA (σ := σ) (k := 0) (l := []) (by simp)
  have e : decide (Right []) = true := by decide
  rw [e] at this
  exact this
theorem coinS_cells (s : Option (List UInt8)) : AV.v (.int .u8 (be (takeB 1 s) : Nat)) :: numA (numOf (numB (takeS 1 s))) = coinC (coinS s) := by
  rw [be_byteS]; rfl
theorem build_coin (c : Coin) : buildSliceA Try.prog 29 1 [(0, .agg (coinC c))] = some (.sl 5 (coinC c) 1 .full) := by kernel_rfl
class Small (l : List Coin) : Prop where
  h : l.length ≤ 1000

theorem append_slA {l : List Coin} [hsm : Small l] {c : Coin} {objs : List (List AV)} {tk : List Nat} {gl : Nat → Option (List AV)} {rows : List RowSt} :
    appendA Try.prog 29 (slA tk.length l) (.sl 5 (coinC c) 1 .full) ⟨objs, tk ++ tkA l, gl, rows⟩ = some (slA tk.length (l ++ [c]), ⟨objs, tk ++ tkA (l ++ [c]), gl, rows⟩) := by
  have hl := hsm.h
  by_cases h : l = []
  · subst h
    simp [slA, tkA, appendA, readA, roomA, maxLen, coinsC]
    rfl
  · have h1 : (l.length + 1) * 40 ≤ 140737488355328 := by omega
    have h2 : l.length + 1 ≤ 9223372036854775807 := by omega
    simp [slA, tkA, h, appendA, readA, roomA, maxLen, h1, h2, coinsC_snoc]
    rfl
theorem append_nilA {c : Coin} {σ : St} : appendA Try.prog 29 (.sl 0 [] 0 .full) (.sl 5 (coinC c) 1 .full) σ = some (slA σ.toks.length [c], { σ with toks := σ.toks ++ tkA [c] }) := by
  have : Small [] := ⟨by simp⟩
  have := append_slA (l := []) (c := c) (objs := σ.objs) (tk := σ.toks) (gl := σ.gl) (rows := σ.rows)
  simpa using this

structure CSt where
  m : Nat
  s : Option (List UInt8)
  l : List Coin

theorem coinsR_none {s : Option (List UInt8)} {L : List Coin} {S : Option (List UInt8)} (h : coinsR s = (L, S)) (h2 : ¬ Right L ∨ S = none) : coinsL s = [] ∧ coinsS s = none := by
  have e : coinsS s = none := by
    unfold coinsS
    rw [h]
    rcases h2 with h2 | h2
    · rw [if_neg h2]
    · simp [h2]
  exact ⟨by simp [coinsL, e], e⟩
theorem coinsR_some {s : Option (List UInt8)} {L : List Coin} {S : Option (List UInt8)} (h : coinsR s = (L, S)) (h1 : Right L) (h2 : ¬ S = none) : coinsL s = L ∧ coinsS s = S := by
  have e : coinsS s = S := by
    unfold coinsS
    rw [h, if_pos h1]
  exact ⟨by rw [coinsL, e, if_neg h2, h], e⟩

set_option maxHeartbeats 1600000 in
attribute [local simp] undefA List.getElem?_cons_zero List.getElem?_cons_succ coinS_cells build_coin append_nilA append_slA in
theorem rcoins_raw {σ : St} {id : Nat} {s : Option (List UInt8)} (h : σ.objs[id]? = some (rd s)) :
    CallsA Try.prog 77 [.ptr id 0] σ (fun av σ' => av = .sl 5 (coinsC (coinsL s)) (coinsL s).length .shut ∧ σ' = { σ with objs := σ.objs.set id (rd (coinsS s)) }) := by
  refine callsA_gc_obj (Q := fun av σ' => Wk av (.sl 5 (coinsC (coinsL s)) (coinsL s).length .shut) ∧ ∃ l m r, σ' = { σ with objs := σ.objs.set id (rd (coinsS s)) ++ l, toks := σ.toks ++ m, rows := σ.rows ++ r }) ?_ (fun av σ' h => h) (by simp [AV.under]) (rd_under _ _)
  have hs := set_self_of h
  have hm := be_lt1 (takeB_len 1 s)
  have F := And.intro h (And.intro hs (True.intro))
  refine callsA_body Try.func77 rfl rfl rfl ?_; refine sr fun _ hJ2 => ?_; refine hJ2 _ _ ?_; refine run_scope_jumpsF 0 (X := CSt) [0] (fun q ρ σ1 => (q.m + q.l.length ≤ 255) ∧ (coinsGo q.m q.s q.l = coinsR s) ∧ (ρ 4 = .v (.int .u8 q.m)) ∧ (ρ 3 = slA σ.toks.length q.l) ∧ (σ1 = { σ with objs := σ.objs.set id (rd q.s), toks := σ.toks ++ tkA q.l })) (fun q => q.m) rfl ?first ?pass
  case first =>
   refine sr fun _ hJ4 => ?_; refine hJ4 _ _ ?_; refine sr fun _ hJ6 => ?_
   refine ca (c := byte_ok (by first | exact h | exact hs _)) (k := ?_)
   rintro _ _ ⟨rfl, rfl⟩; (repeat (first | simp [F] | simp (disch := omega) only [wC, if_pos, if_neg])); refine hJ6 _ _ ?_; refine sq fun K7 hK7 => ?_; refine run_label ?_; refine hK7 _ _ ?_; refine sq fun K8 hK8 => ?_; refine sr fun _ hJ10 => ?_; refine gs 10 (fun g3_2 => ?_) (fun g3_2 => ?_)
   · (try exact nope g3_2); all_goals have g3_2p := g3_2; try simp [F] at g3_2p
     all_goals
      replace F := aF g3_2 F; (try replace F := aF g3_2p F); refine go2 (k := ?_); refine ca (c := bad_ok (hs _)) (k := ?_); rintro _ _ ⟨rfl, rfl⟩; (repeat (first | simp [F] | simp (disch := omega) only [wC, if_pos, if_neg])); refine go2 (k := ?_); refine hJ10 _ _ ?_; refine cs (fun c14 => ?_) (fun c14 => ?_)
      · (try exact nope c14); all_goals have c14p := c14; try simp [F] at c14p
        all_goals
         replace F := aF c14 F; (try replace F := aF c14p F); refine sr fun _ hJ12 => ?_
         refine ca (c := byte_ok (by first | exact h | exact hs _)) (k := ?_)
         rintro _ _ ⟨rfl, rfl⟩; (repeat (first | simp [F] | simp (disch := omega) only [wC, if_pos, if_neg])); refine hJ12 _ _ ?_; refine sq fun K13 hK13 => ?_; (try have : Small q.l := ⟨by omega⟩); refine rg' (h := fun J14 hJ14 => ?_); refine ca (c := num_ok (hs _)) (k := ?_); rintro _ _ ⟨rfl, rfl⟩; (repeat (first | simp [F] | simp (disch := omega) only [wC, if_pos, if_neg])); refine hJ14 _ _ ?_; refine hK13 _ _ ?_; refine sr fun _ hJ16 => ?_; refine hJ16 _ _ ?_; refine run_goto ?_; refine ⟨rfl, (⟨be (takeB 1 s) - 1, numS (takeS 1 (takeS 1 s)), [coinS (takeS 1 s)]⟩), ⟨kp, lp, ?_, lp, lp, lp⟩⟩
         · exact (coinsGo_more (l := []) g3_2p (by intro e; simp [e] at c14p)).symm
      (try exact nope c14); all_goals have c14p := c14; try simp [F] at c14p
      all_goals
       replace F := aF c14 F; (try replace F := aF c14p F); refine run_skip ?_; refine hK8 _ _ ?_; refine sq fun K17 hK17 => ?_; refine sr fun _ hJ19 => ?_
       refine ca (c := (by first | exact right_nilA | exact right_slA (by omega))) (k := ?_)
       rintro _ _ ⟨rfl, rfl⟩; (repeat (first | simp [F] | simp (disch := omega) only [wC, if_pos, if_neg])); refine hJ19 _ _ ?_; refine cs (fun c28 => ?_) (fun c28 => ?_)
       · (try exact nope c28); all_goals have c28p := c28; try simp [F] at c28p
         all_goals
          replace F := aF c28 F; (try replace F := aF c28p F); refine rg' (h := fun J20 hJ20 => ?_); refine ca (c := fail_ok (hs _)) (k := ?_); rintro _ _ ⟨rfl, rfl⟩; (repeat (first | simp [F] | simp (disch := omega) only [wC, if_pos, if_neg])); refine hJ20 _ _ ?_; refine hK17 _ _ ?_; refine sq fun K21 hK21 => ?_; refine sr fun _ hJ23 => ?_; refine ca (c := bad_ok (hs _)) (k := ?_); rintro _ _ ⟨rfl, rfl⟩; (repeat (first | simp [F] | simp (disch := omega) only [wC, if_pos, if_neg])); refine hJ23 _ _ ?_; refine cs (fun c32 => ?_) (fun c32 => ?_)
          · (try exact nope c32); all_goals have c32p := c32; try simp [F] at c32p
            all_goals
             replace F := aF c32 F; (try replace F := aF c32p F); refine sr fun _ hJ25 => ?_; refine hJ25 _ _ ?_; refine ra ?_
             have e : coinsR s = (q.l, q.s) := by rw [← hg]; exact coinsGo_stop (by first | (left; simp at g3_2; omega) | (right; simpa using c14))
             obtain ⟨e1, e2⟩ := coinsR_none e (.inl (by simpa using c28))
             rw [e1, e2]
             exact ⟨Wk.nil _ _ _, [], tkA q.l, [], by simp⟩
          (try exact nope c32); all_goals have c32p := c32; try simp [F] at c32p
          all_goals
           replace F := aF c32 F; (try replace F := aF c32p F); refine run_skip ?_; refine hK21 _ _ ?_; refine sr fun _ hJ27 => ?_; refine hJ27 _ _ ?_; refine ra ?_
           have e : coinsR s = (q.l, q.s) := by rw [← hg]; exact coinsGo_stop (by first | (left; simp at g3_2; omega) | (right; simpa using c14))
           obtain ⟨e1, e2⟩ := coinsR_none e (.inl (by simpa using c28))
           rw [e1, e2]
           exact ⟨Wk.nil _ _ _, [], tkA q.l, [], by simp⟩
       (try exact nope c28); all_goals have c28p := c28; try simp [F] at c28p
       all_goals
        replace F := aF c28 F; (try replace F := aF c28p F); refine run_skip ?_; refine hK17 _ _ ?_; refine sq fun K28 hK28 => ?_; refine sr fun _ hJ30 => ?_; refine ca (c := bad_ok (hs _)) (k := ?_); rintro _ _ ⟨rfl, rfl⟩; (repeat (first | simp [F] | simp (disch := omega) only [wC, if_pos, if_neg])); refine hJ30 _ _ ?_; refine cs (fun c32 => ?_) (fun c32 => ?_)
        · (try exact nope c32); all_goals have c32p := c32; try simp [F] at c32p
          all_goals
           replace F := aF c32 F; (try replace F := aF c32p F); refine sr fun _ hJ32 => ?_; refine hJ32 _ _ ?_; refine ra ?_
           first | (obtain ⟨e1, e2⟩ := coinsR_none (L := q.l) (S := q.s) (by rw [← hg]; exact coinsGo_stop (.inr (by simpa using c14))) (.inr (by simpa using c14)); rw [e1, e2]; exact ⟨Wk.nil _ _ _, [], tkA q.l, [], by simp⟩) | (have h0 : takeS 1 s = none := (by simpa using c14); obtain ⟨e1, e2⟩ := coinsR_none (by rw [coinsR, coinsGo_stop (.inr h0)]) (.inr h0); rw [e1, e2]; exact ⟨Wk.nil _ _ _, [], [], [], by simp⟩)
        (try exact nope c32); all_goals have c32p := c32; try simp [F] at c32p
        all_goals
         replace F := aF c32 F; (try replace F := aF c32p F); refine run_skip ?_; refine hK28 _ _ ?_; refine sr fun _ hJ34 => ?_; refine hJ34 _ _ ?_; refine ra ?_
         first | (obtain ⟨e1, e2⟩ := coinsR_none (L := q.l) (S := q.s) (by rw [← hg]; exact coinsGo_stop (.inr (by simpa using c14))) (.inr (by simpa using c14)); rw [e1, e2]; exact ⟨Wk.nil _ _ _, [], tkA q.l, [], by simp⟩) | (have h0 : takeS 1 s = none := (by simpa using c14); obtain ⟨e1, e2⟩ := coinsR_none (by rw [coinsR, coinsGo_stop (.inr h0)]) (.inr h0); rw [e1, e2]; exact ⟨Wk.nil _ _ _, [], [], [], by simp⟩)
   (try exact nope g3_2); all_goals have g3_2p := g3_2; try simp [F] at g3_2p
   all_goals
    replace F := aF g3_2 F; (try replace F := aF g3_2p F); (iterate 3 refine no2 (k := ?_)); refine hJ10 _ _ ?_; refine cf ?_; refine run_skip ?_; refine hK8 _ _ ?_; refine sq fun K35 hK35 => ?_; refine sr fun _ hJ37 => ?_
    refine ca (c := (by first | exact right_nilA | exact right_slA (by omega))) (k := ?_)
    rintro _ _ ⟨rfl, rfl⟩; (repeat (first | simp [F] | simp (disch := omega) only [wC, if_pos, if_neg])); refine hJ37 _ _ ?_; refine cs (fun c28 => ?_) (fun c28 => ?_)
    · (try exact nope c28); all_goals have c28p := c28; try simp [F] at c28p
      all_goals
       replace F := aF c28 F; (try replace F := aF c28p F); refine rg' (h := fun J38 hJ38 => ?_); refine ca (c := fail_ok (hs _)) (k := ?_); rintro _ _ ⟨rfl, rfl⟩; (repeat (first | simp [F] | simp (disch := omega) only [wC, if_pos, if_neg])); refine hJ38 _ _ ?_; refine hK35 _ _ ?_; refine sq fun K39 hK39 => ?_; refine sr fun _ hJ41 => ?_; refine ca (c := bad_ok (hs _)) (k := ?_); rintro _ _ ⟨rfl, rfl⟩; (repeat (first | simp [F] | simp (disch := omega) only [wC, if_pos, if_neg])); refine hJ41 _ _ ?_; refine cs (fun c32 => ?_) (fun c32 => ?_)
       · (try exact nope c32); all_goals have c32p := c32; try simp [F] at c32p
         all_goals
          replace F := aF c32 F; (try replace F := aF c32p F); refine sr fun _ hJ43 => ?_; refine hJ43 _ _ ?_; refine ra ?_
          have e : coinsR s = (q.l, q.s) := by rw [← hg]; exact coinsGo_stop (by first | (left; simp at g3_2; omega) | (right; simpa using c14))
          obtain ⟨e1, e2⟩ := coinsR_none e (.inl (by simpa using c28))
          rw [e1, e2]
          exact ⟨Wk.nil _ _ _, [], tkA q.l, [], by simp⟩
       (try exact nope c32); all_goals have c32p := c32; try simp [F] at c32p
       all_goals
        replace F := aF c32 F; (try replace F := aF c32p F); refine run_skip ?_; refine hK39 _ _ ?_; refine sr fun _ hJ45 => ?_; refine hJ45 _ _ ?_; refine ra ?_
        have e : coinsR s = (q.l, q.s) := by rw [← hg]; exact coinsGo_stop (by first | (left; simp at g3_2; omega) | (right; simpa using c14))
        obtain ⟨e1, e2⟩ := coinsR_none e (.inl (by simpa using c28))
        rw [e1, e2]
        exact ⟨Wk.nil _ _ _, [], tkA q.l, [], by simp⟩
    (try exact nope c28); all_goals have c28p := c28; try simp [F] at c28p
    all_goals
     replace F := aF c28 F; (try replace F := aF c28p F); refine run_skip ?_; refine hK35 _ _ ?_; refine sq fun K46 hK46 => ?_; refine sr fun _ hJ48 => ?_; refine ca (c := bad_ok (hs _)) (k := ?_); rintro _ _ ⟨rfl, rfl⟩; (repeat (first | simp [F] | simp (disch := omega) only [wC, if_pos, if_neg])); refine hJ48 _ _ ?_; refine cs (fun c32 => ?_) (fun c32 => ?_)
     · (try exact nope c32); all_goals have c32p := c32; try simp [F] at c32p
       all_goals
        replace F := aF c32 F; (try replace F := aF c32p F); refine sr fun _ hJ50 => ?_; refine hJ50 _ _ ?_; refine ra ?_
        first | (obtain ⟨e1, e2⟩ := coinsR_none (L := q.l) (S := q.s) (by rw [← hg]; exact coinsGo_stop (.inr (by simpa using c32))) (.inr (by simpa using c32)); rw [e1, e2]; exact ⟨Wk.nil _ _ _, [], tkA q.l, [], by simp⟩) | (have h0 : takeS 1 s = none := (by simpa using c32); obtain ⟨e1, e2⟩ := coinsR_none (by rw [coinsR, coinsGo_stop (.inr h0)]) (.inr h0); rw [e1, e2]; exact ⟨Wk.nil _ _ _, [], [], [], by simp⟩)
     (try exact nope c32); all_goals have c32p := c32; try simp [F] at c32p
     all_goals
      replace F := aF c32 F; (try replace F := aF c32p F); refine run_skip ?_; refine hK46 _ _ ?_; refine sr fun _ hJ52 => ?_; refine hJ52 _ _ ?_; refine ra ?_
      first | (obtain ⟨e1, e2⟩ := coinsR_some (L := q.l) (S := q.s) (by rw [← hg]; exact coinsGo_stop (.inl (by simp at g3_2; omega))) (by simpa using c28) (by intro e; simp [e] at c32); rw [e1, e2]; exact ⟨wk_slA _ _, [], tkA q.l, [], by simp⟩) | (have h0 : be (takeB 1 s) = 0 := (by simp at g3_2; omega); obtain ⟨e1, e2⟩ := coinsR_some (by rw [coinsR, coinsGo_stop (.inl h0)]) (by decide) (by intro e; simp [e] at c32); rw [e1, e2]; exact ⟨Wk.nil _ _ _, [], [], [], by simp⟩)
  case pass =>
   rintro q ρgoto σ1 hFgoto ⟨hm, hg, h4, h3, hσ⟩; obtain rfl := hσ.symm
   have fgoto := keepL hFgoto
   (try simp [KeepL, F] at fgoto); replace F := aF h4 F; replace F := aF h3 F; (try replace F := aF fgoto F); refine sq fun K53 hK53 => ?_; refine run_skip ?_; refine hK53 _ _ ?_; refine sq fun K54 hK54 => ?_; refine sr fun _ hJ56 => ?_; refine gs 10 (fun g3_2 => ?_) (fun g3_2 => ?_)
   · (try exact nope g3_2); all_goals have g3_2p := g3_2; try simp [F] at g3_2p
     all_goals
      replace F := aF g3_2 F; (try replace F := aF g3_2p F); refine go2 (k := ?_); refine ca (c := bad_ok (hs _)) (k := ?_); rintro _ _ ⟨rfl, rfl⟩; (repeat (first | simp [F] | simp (disch := omega) only [wC, if_pos, if_neg])); refine go2 (k := ?_); refine hJ56 _ _ ?_; refine cs (fun c14 => ?_) (fun c14 => ?_)
      · (try exact nope c14); all_goals have c14p := c14; try simp [F] at c14p
        all_goals
         replace F := aF c14 F; (try replace F := aF c14p F); refine sr fun _ hJ58 => ?_
         refine ca (c := byte_ok (by first | exact h | exact hs _)) (k := ?_)
         rintro _ _ ⟨rfl, rfl⟩; (repeat (first | simp [F] | simp (disch := omega) only [wC, if_pos, if_neg])); refine hJ58 _ _ ?_; refine sq fun K59 hK59 => ?_; (try have : Small q.l := ⟨by omega⟩); refine rg' (h := fun J60 hJ60 => ?_); refine ca (c := num_ok (hs _)) (k := ?_); rintro _ _ ⟨rfl, rfl⟩; (repeat (first | simp [F] | simp (disch := omega) only [wC, if_pos, if_neg])); refine hJ60 _ _ ?_; refine hK59 _ _ ?_; refine sr fun _ hJ62 => ?_; refine hJ62 _ _ ?_; refine run_goto ?_; refine ⟨rfl, (⟨q.m - 1, numS (takeS 1 q.s), q.l ++ [coinS q.s]⟩), ⟨kp, ?_, ?_, lp, lp, ?_⟩, ?_⟩
         · simp
           omega
         · rw [← hg]
           exact (coinsGo_more g3_2p (by intro e; simp [e] at c14p)).symm
         · rfl
         · simp
           omega
      (try exact nope c14); all_goals have c14p := c14; try simp [F] at c14p
      all_goals
       replace F := aF c14 F; (try replace F := aF c14p F); refine run_skip ?_; refine hK54 _ _ ?_; refine sq fun K63 hK63 => ?_; refine sr fun _ hJ65 => ?_
       refine ca (c := (by first | exact right_nilA | exact right_slA (by omega))) (k := ?_)
       rintro _ _ ⟨rfl, rfl⟩; (repeat (first | simp [F] | simp (disch := omega) only [wC, if_pos, if_neg])); refine hJ65 _ _ ?_; refine cs (fun c28 => ?_) (fun c28 => ?_)
       · (try exact nope c28); all_goals have c28p := c28; try simp [F] at c28p
         all_goals
          replace F := aF c28 F; (try replace F := aF c28p F); refine rg' (h := fun J66 hJ66 => ?_); refine ca (c := fail_ok (hs _)) (k := ?_); rintro _ _ ⟨rfl, rfl⟩; (repeat (first | simp [F] | simp (disch := omega) only [wC, if_pos, if_neg])); refine hJ66 _ _ ?_; refine hK63 _ _ ?_; refine sq fun K67 hK67 => ?_; refine sr fun _ hJ69 => ?_; refine ca (c := bad_ok (hs _)) (k := ?_); rintro _ _ ⟨rfl, rfl⟩; (repeat (first | simp [F] | simp (disch := omega) only [wC, if_pos, if_neg])); refine hJ69 _ _ ?_; refine cs (fun c32 => ?_) (fun c32 => ?_)
          · (try exact nope c32); all_goals have c32p := c32; try simp [F] at c32p
            all_goals
             replace F := aF c32 F; (try replace F := aF c32p F); refine sr fun _ hJ71 => ?_; refine hJ71 _ _ ?_; refine ra ?_
             have e : coinsR s = (q.l, q.s) := by rw [← hg]; exact coinsGo_stop (by first | (left; simp at g3_2; omega) | (right; simpa using c14))
             obtain ⟨e1, e2⟩ := coinsR_none e (.inl (by simpa using c28))
             rw [e1, e2]
             exact ⟨Wk.nil _ _ _, [], tkA q.l, [], by simp⟩
          (try exact nope c32); all_goals have c32p := c32; try simp [F] at c32p
          all_goals
           replace F := aF c32 F; (try replace F := aF c32p F); refine run_skip ?_; refine hK67 _ _ ?_; refine sr fun _ hJ73 => ?_; refine hJ73 _ _ ?_; refine ra ?_
           have e : coinsR s = (q.l, q.s) := by rw [← hg]; exact coinsGo_stop (by first | (left; simp at g3_2; omega) | (right; simpa using c14))
           obtain ⟨e1, e2⟩ := coinsR_none e (.inl (by simpa using c28))
           rw [e1, e2]
           exact ⟨Wk.nil _ _ _, [], tkA q.l, [], by simp⟩
       (try exact nope c28); all_goals have c28p := c28; try simp [F] at c28p
       all_goals
        replace F := aF c28 F; (try replace F := aF c28p F); refine run_skip ?_; refine hK63 _ _ ?_; refine sq fun K74 hK74 => ?_; refine sr fun _ hJ76 => ?_; refine ca (c := bad_ok (hs _)) (k := ?_); rintro _ _ ⟨rfl, rfl⟩; (repeat (first | simp [F] | simp (disch := omega) only [wC, if_pos, if_neg])); refine hJ76 _ _ ?_; refine cs (fun c32 => ?_) (fun c32 => ?_)
        · (try exact nope c32); all_goals have c32p := c32; try simp [F] at c32p
          all_goals
           replace F := aF c32 F; (try replace F := aF c32p F); refine sr fun _ hJ78 => ?_; refine hJ78 _ _ ?_; refine ra ?_
           first | (obtain ⟨e1, e2⟩ := coinsR_none (L := q.l) (S := q.s) (by rw [← hg]; exact coinsGo_stop (.inr (by simpa using c14))) (.inr (by simpa using c14)); rw [e1, e2]; exact ⟨Wk.nil _ _ _, [], tkA q.l, [], by simp⟩) | (have h0 : takeS 1 s = none := (by simpa using c14); obtain ⟨e1, e2⟩ := coinsR_none (by rw [coinsR, coinsGo_stop (.inr h0)]) (.inr h0); rw [e1, e2]; exact ⟨Wk.nil _ _ _, [], [], [], by simp⟩)
        (try exact nope c32); all_goals have c32p := c32; try simp [F] at c32p
        all_goals
         replace F := aF c32 F; (try replace F := aF c32p F); refine run_skip ?_; refine hK74 _ _ ?_; refine sr fun _ hJ80 => ?_; refine hJ80 _ _ ?_; refine ra ?_
         first | (obtain ⟨e1, e2⟩ := coinsR_none (L := q.l) (S := q.s) (by rw [← hg]; exact coinsGo_stop (.inr (by simpa using c14))) (.inr (by simpa using c14)); rw [e1, e2]; exact ⟨Wk.nil _ _ _, [], tkA q.l, [], by simp⟩) | (have h0 : takeS 1 s = none := (by simpa using c14); obtain ⟨e1, e2⟩ := coinsR_none (by rw [coinsR, coinsGo_stop (.inr h0)]) (.inr h0); rw [e1, e2]; exact ⟨Wk.nil _ _ _, [], [], [], by simp⟩)
   (try exact nope g3_2); all_goals have g3_2p := g3_2; try simp [F] at g3_2p
   all_goals
    replace F := aF g3_2 F; (try replace F := aF g3_2p F); (iterate 3 refine no2 (k := ?_)); refine hJ56 _ _ ?_; refine cf ?_; refine run_skip ?_; refine hK54 _ _ ?_; refine sq fun K81 hK81 => ?_; refine sr fun _ hJ83 => ?_
    refine ca (c := (by first | exact right_nilA | exact right_slA (by omega))) (k := ?_)
    rintro _ _ ⟨rfl, rfl⟩; (repeat (first | simp [F] | simp (disch := omega) only [wC, if_pos, if_neg])); refine hJ83 _ _ ?_; refine cs (fun c28 => ?_) (fun c28 => ?_)
    · (try exact nope c28); all_goals have c28p := c28; try simp [F] at c28p
      all_goals
       replace F := aF c28 F; (try replace F := aF c28p F); refine rg' (h := fun J84 hJ84 => ?_); refine ca (c := fail_ok (hs _)) (k := ?_); rintro _ _ ⟨rfl, rfl⟩; (repeat (first | simp [F] | simp (disch := omega) only [wC, if_pos, if_neg])); refine hJ84 _ _ ?_; refine hK81 _ _ ?_; refine sq fun K85 hK85 => ?_; refine sr fun _ hJ87 => ?_; refine ca (c := bad_ok (hs _)) (k := ?_); rintro _ _ ⟨rfl, rfl⟩; (repeat (first | simp [F] | simp (disch := omega) only [wC, if_pos, if_neg])); refine hJ87 _ _ ?_; refine cs (fun c32 => ?_) (fun c32 => ?_)
       · (try exact nope c32); all_goals have c32p := c32; try simp [F] at c32p
         all_goals
          replace F := aF c32 F; (try replace F := aF c32p F); refine sr fun _ hJ89 => ?_; refine hJ89 _ _ ?_; refine ra ?_
          have e : coinsR s = (q.l, q.s) := by rw [← hg]; exact coinsGo_stop (by first | (left; simp at g3_2; omega) | (right; simpa using c14))
          obtain ⟨e1, e2⟩ := coinsR_none e (.inl (by simpa using c28))
          rw [e1, e2]
          exact ⟨Wk.nil _ _ _, [], tkA q.l, [], by simp⟩
       (try exact nope c32); all_goals have c32p := c32; try simp [F] at c32p
       all_goals
        replace F := aF c32 F; (try replace F := aF c32p F); refine run_skip ?_; refine hK85 _ _ ?_; refine sr fun _ hJ91 => ?_; refine hJ91 _ _ ?_; refine ra ?_
        have e : coinsR s = (q.l, q.s) := by rw [← hg]; exact coinsGo_stop (by first | (left; simp at g3_2; omega) | (right; simpa using c14))
        obtain ⟨e1, e2⟩ := coinsR_none e (.inl (by simpa using c28))
        rw [e1, e2]
        exact ⟨Wk.nil _ _ _, [], tkA q.l, [], by simp⟩
    (try exact nope c28); all_goals have c28p := c28; try simp [F] at c28p
    all_goals
     replace F := aF c28 F; (try replace F := aF c28p F); refine run_skip ?_; refine hK81 _ _ ?_; refine sq fun K92 hK92 => ?_; refine sr fun _ hJ94 => ?_; refine ca (c := bad_ok (hs _)) (k := ?_); rintro _ _ ⟨rfl, rfl⟩; (repeat (first | simp [F] | simp (disch := omega) only [wC, if_pos, if_neg])); refine hJ94 _ _ ?_; refine cs (fun c32 => ?_) (fun c32 => ?_)
     · (try exact nope c32); all_goals have c32p := c32; try simp [F] at c32p
       all_goals
        replace F := aF c32 F; (try replace F := aF c32p F); refine sr fun _ hJ96 => ?_; refine hJ96 _ _ ?_; refine ra ?_
        first | (obtain ⟨e1, e2⟩ := coinsR_none (L := q.l) (S := q.s) (by rw [← hg]; exact coinsGo_stop (.inr (by simpa using c32))) (.inr (by simpa using c32)); rw [e1, e2]; exact ⟨Wk.nil _ _ _, [], tkA q.l, [], by simp⟩) | (have h0 : takeS 1 s = none := (by simpa using c32); obtain ⟨e1, e2⟩ := coinsR_none (by rw [coinsR, coinsGo_stop (.inr h0)]) (.inr h0); rw [e1, e2]; exact ⟨Wk.nil _ _ _, [], [], [], by simp⟩)
     (try exact nope c32); all_goals have c32p := c32; try simp [F] at c32p
     all_goals
      replace F := aF c32 F; (try replace F := aF c32p F); refine run_skip ?_; refine hK92 _ _ ?_; refine sr fun _ hJ98 => ?_; refine hJ98 _ _ ?_; refine ra ?_
      first | (obtain ⟨e1, e2⟩ := coinsR_some (L := q.l) (S := q.s) (by rw [← hg]; exact coinsGo_stop (.inl (by simp at g3_2; omega))) (by simpa using c28) (by intro e; simp [e] at c32); rw [e1, e2]; exact ⟨wk_slA _ _, [], tkA q.l, [], by simp⟩) | (have h0 : be (takeB 1 s) = 0 := (by simp at g3_2; omega); obtain ⟨e1, e2⟩ := coinsR_some (by rw [coinsR, coinsGo_stop (.inl h0)]) (by decide) (by intro e; simp [e] at c32); rw [e1, e2]; exact ⟨Wk.nil _ _ _, [], [], [], by simp⟩)

end Go.Proofs.Ytmponlabfccjaaa

/-
  The plain law of what lies behind a beginning, in a store; what is written is read.
-/
namespace Go.Proofs.Ytmponlabfccjaaa
set_option linter.unnecessarySimpa false
set_option maxRecDepth 100000
open Go Go.Vm
set_option linter.unusedSimpArgs false
set_option linter.unusedVariables false

theorem preB_nil2 (b : UInt8) (p : List UInt8) : preB [] (b :: p) = false := by simp [preB]
theorem preB_cons (a b : UInt8) (l m : List UInt8) : preB (a :: l) (b :: m) = (decide (a = b) && preB l m) := by
  rw [Bool.eq_iff_iff]
  simp only [preB, List.length_cons, List.take_succ_cons, List.cons.injEq, Bool.and_eq_true, decide_eq_true_eq]
  constructor
  · rintro ⟨h1, h2, h3⟩; exact ⟨h2, by omega, h3⟩
  · rintro ⟨h1, h2, h3⟩; exact ⟨by omega, h1, h3⟩

theorem preB_lt : ∀ {a p : List UInt8}, ltB a p = true → preB a p = false
  | a, [], h => by rw [ltB_nil] at h; cases h
  | [], b :: p, _ => preB_nil2 b p
  | x :: a, y :: p, h => by
    rw [preB_cons]
    by_cases e : x = y
    · rw [ltB, if_pos e] at h; simp [preB_lt h]
    · simp [e]

theorem preB_up : ∀ {p a b : List UInt8}, ltB a p = false → preB a p = false → ltB a b = true → preB b p = false
  | [], a, b, _, h, _ => by rw [preB_nil] at h; cases h
  | y :: p, a, [], _, _, h => by rw [ltB_nil] at h; cases h
  | y :: p, [], z :: b, h, _, _ => by cases h
  | y :: p, x :: a, z :: b, h1, h2, h3 => by
    rw [preB_cons] at h2 ⊢
    rw [ltB] at h1 h3
    by_cases e : z = y
    · subst e
      by_cases e2 : x = z
      · rw [if_pos e2] at h1 h3; simp [e2] at h2; simp [preB_up h1 h2 h3]
      · rw [if_neg e2] at h1 h3; simp at h1 h3; omega
    · simp [e]

theorem tw_filter {p : List UInt8} : ∀ {l : List Pr}, Srt l → (∀ x ∈ l, ltB x.k p = false) → (l.takeWhile fun x => preB x.k p) = l.filter fun x => preB x.k p
  | [], _, _ => rfl
  | a :: l, h, hg => by
    have l1 := List.pairwise_cons.1 h
    have ih := tw_filter l1.2 (fun x hx => hg x (by simp [hx]))
    rw [List.takeWhile_cons, List.filter_cons]
    cases hp : preB a.k p with
    | true => simp [ih]
    | false =>
      simp only [Bool.false_eq_true, if_false]
      symm
      rw [List.filter_eq_nil_iff]
      intro x hx
      rw [preB_up (hg a (by simp)) hp (l1.1 x hx)]
      simp

theorem keysL_filter {p : List UInt8} : ∀ {l : List Pr}, Srt l → keysL l p = (l.filter fun x => preB x.k p).map (·.k)
  | [], _ => rfl
  | a :: l, h => by
    have l1 := List.pairwise_cons.1 h
    cases ha : ltB a.k p with
    | true =>
      have ih := keysL_filter (p := p) l1.2
      have hf : findL (a :: l) p = findL l p + 1 := by simp [findL, ha]
      unfold keysL at ih ⊢
      rw [hf, List.drop_succ_cons, ih, List.filter_cons, preB_lt ha]
      simp
    | false =>
      have hf : findL (a :: l) p = 0 := by simp [findL, ha]
      unfold keysL
      rw [hf, List.drop_zero, tw_filter h ?_]
      intro x hx
      rcases List.mem_cons.1 hx with rfl | hx
      · exact ha
      · cases hx2 : ltB x.k p with
        | false => rfl
        | true => have := ltB_trans (l1.1 x hx) hx2; rw [ha] at this; cases this

def pl (L : List Pr) (p : List UInt8) : List Pr := L.filter fun x => preB x.k p
theorem pl_srt {L : List Pr} {p : List UInt8} (h : Srt L) : Srt (pl L p) := List.Pairwise.filter _ h
theorem setL_c (a : Pr) (l : List Pr) (k : List UInt8) (o : Option (List UInt8)) : setL (a :: l) k o = if a.k = k then (match o with | some v => ⟨k, v⟩ :: l | none => l) else if ltB k a.k then (match o with | some v => ⟨k, v⟩ :: a :: l | none => a :: l) else a :: setL l k o := by cases o <;> rfl
theorem setL_front {k : List UInt8} {o : Option (List UInt8)} {l : List Pr} (h : ∀ q ∈ l, ltB k q.k = true) : setL l k o = match o with | some v => ⟨k, v⟩ :: l | none => l := by
  cases l with
  | nil => cases o <;> rfl
  | cons a l =>
    have h0 := h a (by simp)
    rw [setL_c, if_neg (fun e => ltB_ne h0 e.symm), if_pos h0]
theorem pl_in {p k : List UInt8} {o : Option (List UInt8)} (hk : preB k p = true) : ∀ {L : List Pr}, Srt L → pl (setL L k o) p = setL (pl L p) k o
  | [], _ => by cases o <;> simp [pl, setL, hk]
  | a :: L, h => by
    have l1 := List.pairwise_cons.1 h
    have ih := pl_in (o := o) hk l1.2
    have hf : pl (a :: L) p = if preB a.k p then a :: pl L p else pl L p := by simp only [pl, List.filter_cons]
    by_cases e : a.k = k
    · have ha : preB a.k p = true := by rw [e]; exact hk
      rw [hf, if_pos ha, setL_c, if_pos e, setL_c, if_pos e]
      cases o with
      | none => rfl
      | some v => simp only [pl, List.filter_cons, hk, if_true]
    · by_cases e2 : ltB k a.k = true
      · have hall : ∀ q ∈ pl (a :: L) p, ltB k q.k = true := fun q hq => by
          rcases List.mem_cons.1 (List.mem_filter.1 hq).1 with rfl | h2
          · exact e2
          · exact ltB_trans e2 (l1.1 q h2)
        rw [setL_front hall, setL_c, if_neg e, if_pos e2]
        cases o with
        | none => rfl
        | some v => simp only [pl, List.filter_cons, hk, if_true]
      · rw [setL_c, if_neg e, if_neg e2, hf]
        have hf2 : pl (a :: setL L k o) p = if preB a.k p then a :: pl (setL L k o) p else pl (setL L k o) p := by simp only [pl, List.filter_cons]
        rw [hf2, ih]
        split
        · rw [setL_c, if_neg e, if_neg e2]
        · rfl
theorem pl_out {p k : List UInt8} {o : Option (List UInt8)} (hk : preB k p = false) : ∀ {L : List Pr}, pl (setL L k o) p = pl L p
  | [] => by cases o <;> simp [pl, setL, hk]
  | a :: L => by
    have ih := pl_out (o := o) hk (L := L)
    by_cases e : a.k = k
    · have ha : preB a.k p = false := by rw [e]; exact hk
      rw [setL_c, if_pos e]
      cases o with
      | none => simp [pl, ha]
      | some v => simp [pl, ha, hk]
    · by_cases e2 : ltB k a.k = true
      · rw [setL_c, if_neg e, if_pos e2]
        cases o with
        | none => rfl
        | some v => simp [pl, hk]
      · rw [setL_c, if_neg e, if_neg e2]
        simp only [pl, List.filter_cons] at ih ⊢
        rw [ih]
theorem getL_pl {p k : List UInt8} (hk : preB k p = true) : ∀ {L : List Pr}, getL (pl L p) k = getL L k
  | [] => rfl
  | a :: L => by
    have ih := getL_pl hk (L := L)
    simp only [pl, List.filter_cons] at ih ⊢
    by_cases e : a.k = k
    · rw [if_pos (by rw [e]; exact hk), getL, getL, if_pos e, if_pos e]
    · split
      · rw [getL, getL, if_neg e, if_neg e, ih]
      · rw [getL, if_neg e, ih]

theorem tk_app {E q : List UInt8} {n : Nat} (h : E.length = n) : takeS n (some (E ++ q)) = some q ∧ takeB n (some (E ++ q)) = E := by
  subst h
  simp [takeS, takeB]
theorem byte_app (b : UInt8) (q : List UInt8) : takeS 1 (some (b :: q)) = some q ∧ takeB 1 (some (b :: q)) = [b] := tk_app (E := [b]) rfl
theorem be_natBytes (x : Nat) : be (natBytes x) = x := by
  induction x using Nat.strongRecOn with
  | _ x ih =>
    by_cases h : x = 0
    · subst h; simp [natBytes_zero, be]
    · rw [natBytes_pos (by omega), be_snoc, ih (x / 256) (by omega), toNat_ofNat (by omega)]
      omega
theorem natBytes_head (x : Nat) : (natBytes x).headD 1 ≠ 0 := by
  induction x using Nat.strongRecOn with
  | _ x ih =>
    by_cases h : x = 0
    · subst h; simp [natBytes_zero]
    · rw [natBytes_pos (by omega)]
      by_cases h2 : x / 256 = 0
      · rw [h2, natBytes_zero]
        simp only [List.nil_append, List.headD_cons]
        intro e
        have := congrArg UInt8.toNat e
        rw [toNat_ofNat (by omega)] at this
        simp at this; omega
      · have h3 := ih (x / 256) (by omega)
        cases h4 : natBytes (x / 256) with
        | nil => exact absurd (natBytes_nil.1 h4) h2
        | cons b l => rw [h4] at h3; simpa using h3
theorem natBytes_le {x : Nat} (hx : x < 2 ^ 256) : (natBytes x).length ≤ 32 := natBytes_len x 32 (by simpa using hx)
theorem encN_len {x : Nat} (hx : x < 2 ^ 256) : (encN x).length ≤ 33 := by have := natBytes_le hx; simp [encN]; omega
theorem natBytes_ok {x : Nat} (hx : x < 2 ^ 256) : numOk (natBytes x) = true := by
  have h1 := natBytes_le hx
  have h2 := natBytes_head x
  simp only [numOk, Bool.and_eq_true, decide_eq_true_eq, bne_iff_ne]
  exact ⟨h1, h2⟩
theorem num_app {x : Nat} (hx : x < 2 ^ 256) (q : List UInt8) : numS (some (encN x ++ q)) = some q ∧ numOf (numB (some (encN x ++ q))) = x := by
  have hle := natBytes_le hx
  obtain ⟨h1, h2⟩ := byte_app (UInt8.ofNat (natBytes x).length) (natBytes x ++ q)
  have h3 : be [UInt8.ofNat (natBytes x).length] = (natBytes x).length := by
    have : (UInt8.ofNat (natBytes x).length).toNat = (natBytes x).length := toNat_ofNat (by omega)
    simp only [be, List.foldl_cons, List.foldl_nil]
    omega
  obtain ⟨h4, h5⟩ := tk_app (E := natBytes x) (q := q) rfl
  have hb : numB (some (encN x ++ q)) = natBytes x := by
    show takeB (be (takeB 1 (some (UInt8.ofNat (natBytes x).length :: (natBytes x ++ q))))) (takeS 1 (some (UInt8.ofNat (natBytes x).length :: (natBytes x ++ q)))) = _
    rw [h1, h2, h3, h5]
  have hok := natBytes_ok hx
  refine ⟨?_, by rw [hb, numOf, hok]; simpa using be_natBytes x⟩
  unfold numS
  rw [hb, hok]
  show (if true = true then takeS (be (takeB 1 (some (UInt8.ofNat (natBytes x).length :: (natBytes x ++ q))))) (takeS 1 (some (UInt8.ofNat (natBytes x).length :: (natBytes x ++ q)))) else none) = _
  rw [h1, h2, h3, h4]
  rfl

theorem byteT {σ : St} {id : Nat} {b : UInt8} {q : List UInt8} (h : σ.objs[id]? = some (rd (some (b :: q)))) :
    CallsA Try.prog 73 [.ptr id 0] σ (fun av σ' => av = .v (.int .u8 b.toNat) ∧ σ' = { σ with objs := σ.objs.set id (rd (some q)) }) :=
  callsA_mono (byte_ok h) (fun av σ' ⟨e1, e2⟩ => by
    rw [(byte_app b q).2] at e1; rw [(byte_app b q).1] at e2
    exact ⟨by rw [e1]; simp [be], e2⟩)
theorem coin_app (c : Coin) (q : List UInt8) : numS (takeS 1 (some (encC c ++ q))) = some q ∧ coinS (some (encC c ++ q)) = c := by
  obtain ⟨h1, h2⟩ := byte_app c.d (encN c.n.v ++ q)
  obtain ⟨h3, h4⟩ := num_app c.n.h q
  have e : encC c ++ q = c.d :: (encN c.n.v ++ q) := by simp [encC]
  rw [e, h1]
  refine ⟨h3, ?_⟩
  unfold coinS
  rw [h1]
  refine Coin.ext ?_ (Num.ext h4)
  show byteS (some (c.d :: (encN c.n.v ++ q))) = c.d
  unfold byteS
  rw [h2]; rfl

theorem coinsGo_app : ∀ (L : List Coin) (q : List UInt8) (l : List Coin), coinsGo L.length (some (encCs L ++ q)) l = (l ++ L, some q)
  | [], q, l => by simp [coinsGo, encCs]
  | c :: L, q, l => by
    have e : encCs (c :: L) ++ q = encC c ++ (encCs L ++ q) := by simp [encCs]
    obtain ⟨h1, h2⟩ := coin_app c (encCs L ++ q)
    rw [e]
    simp only [List.length_cons, coinsGo]
    rw [h1, h2, coinsGo_app L q]
    simp

theorem len_byte {L : List Coin} (hL : L.length ≤ 255) : be [UInt8.ofNat L.length] = L.length := by
  have : (UInt8.ofNat L.length).toNat = L.length := toNat_ofNat (by omega)
  simp only [be, List.foldl_cons, List.foldl_nil]
  omega

theorem coins_app {L : List Coin} (hL : L.length ≤ 255) (hR : Right L) (q : List UInt8) : coinsS (some (encL L ++ q)) = some q := by
  obtain ⟨h1, h2⟩ := byte_app (UInt8.ofNat L.length) (encCs L ++ q)
  have e : coinsR (some (encL L ++ q)) = (L, some q) := by
    show coinsGo (be (takeB 1 (some (UInt8.ofNat L.length :: (encCs L ++ q))))) (takeS 1 (some (UInt8.ofNat L.length :: (encCs L ++ q)))) [] = _
    rw [h1, h2, len_byte hL, coinsGo_app]; simp
  unfold coinsS
  rw [e, if_pos hR]

theorem coinsL_app {L : List Coin} (hL : L.length ≤ 255) (hR : Right L) (q : List UInt8) : coinsL (some (encL L ++ q)) = L := by
  obtain ⟨h1, h2⟩ := byte_app (UInt8.ofNat L.length) (encCs L ++ q)
  have e : coinsR (some (encL L ++ q)) = (L, some q) := by
    show coinsGo (be (takeB 1 (some (UInt8.ofNat L.length :: (encCs L ++ q))))) (takeS 1 (some (UInt8.ofNat L.length :: (encCs L ++ q)))) [] = _
    rw [h1, h2, len_byte hL, coinsGo_app]; simp
  unfold coinsL
  rw [coins_app hL hR, if_neg (by simp), e]
theorem be_n2 {n : Nat} (h : n < 65536) : be (nBytes 2 n) = n := by
  have e : nBytes 2 n = [UInt8.ofNat (n / 2 ^ 8 % 256), UInt8.ofNat (n / 2 ^ 0 % 256)] := rfl
  rw [e]
  have hb : ∀ x, (UInt8.ofNat (x % 256)).toNat = x % 256 := fun x => by rw [toNat_ofNat (by omega)]
  simp only [be, List.foldl_cons, List.foldl_nil, hb]
  omega

end Go.Proofs.Ytmponlabfccjaaa

/-
  Validators and delegations: their records, and back.
-/
namespace Go.Proofs.Ytmponlabfccjaaa
set_option linter.unnecessarySimpa false
set_option maxRecDepth 100000
open Go Go.Vm
set_option linter.unusedSimpArgs false
set_option linter.unusedVariables false
attribute [local simp] evalL wantedA isCall opA evalA evalAll evalsA evalOpt ofValue ofCell plain binA_eql_pn binA_neq_pn binA_gtr binA_lss binA_geq binA_leq binA_add binA_sub binA_eql binA_neq binA_orI binA_shl binA_shr binA_mul binA_quo binA_rem binA_agg_eql binA_agg_neq convA_int unA_not fieldAddrA loadA partA pickA_true pickA_false pickA_bb lenA builtinA storeA splice AV.cells AV.isCell sliceA boundA intA callOf indexAddrA newObjA buildA fillA zeroA ofCells buildSliceA indexA fieldA set_appN get_appN take_appN List.getElem?_cons_zero List.getElem?_cons_succ get_sa0 get_sa1 get_sa2 get_sa3 set_sa0 set_sa1 set_sa2 set_sa3 sliceRowA binA_eqn binA_neqn drop_mr

def cos (L : List Coin) : AV := .sl 5 (coinsC L) L.length .shut
structure Vl where
  i : UInt8
  o : UInt8
  r : Nat
  j : Bool
  t : Num
  s : Num
  x : List Coin
  e : List Coin
def Vl.Ok (v : Vl) : Prop := v.r < 65536 ∧ v.x.length ≤ 9223372036854775807 ∧ v.e.length ≤ 9223372036854775807
def vlC (v : Vl) : List AV := [.v (.int .u8 v.i.toNat), .v (.int .u8 v.o.toNat), .v (.int .u16 v.r), .v (.bool v.j), .v (.int .u64 (limb v.t.v 0 : Nat)), .v (.int .u64 (limb v.t.v 1 : Nat)), .v (.int .u64 (limb v.t.v 2 : Nat)), .v (.int .u64 (limb v.t.v 3 : Nat)), .v (.int .u64 (limb v.s.v 0 : Nat)), .v (.int .u64 (limb v.s.v 1 : Nat)), .v (.int .u64 (limb v.s.v 2 : Nat)), .v (.int .u64 (limb v.s.v 3 : Nat)), cos v.x, cos v.e]
theorem vlC_under (B : Bd) (v : Vl) : underL B (vlC v) = true := by simp [vlC, cos, underL, AV.under]
structure Dl where
  o : UInt8
  v : UInt8
  s : Num
  x : List Coin
def Dl.Ok (d : Dl) : Prop := d.x.length ≤ 9223372036854775807
def dlC (d : Dl) : List AV := [.v (.int .u8 d.o.toNat), .v (.int .u8 d.v.toNat), .v (.int .u64 (limb d.s.v 0 : Nat)), .v (.int .u64 (limb d.s.v 1 : Nat)), .v (.int .u64 (limb d.s.v 2 : Nat)), .v (.int .u64 (limb d.s.v 3 : Nat)), cos d.x]
theorem dlC_under (B : Bd) (v : Dl) : underL B (dlC v) = true := by simp [dlC, cos, underL, AV.under]
theorem cellV (v : Vl) : (∀ x ∈ vlC v, AV.isCell x = true) := fun x hx => by simp only [vlC, cos, List.mem_cons, List.not_mem_nil, or_false] at hx; rcases hx with rfl | rfl | rfl | rfl | rfl | rfl | rfl | rfl | rfl | rfl | rfl | rfl | rfl | rfl <;> rfl
theorem cellD (v : Dl) : (∀ x ∈ dlC v, AV.isCell x = true) := fun x hx => by simp only [dlC, cos, List.mem_cons, List.not_mem_nil, or_false] at hx; rcases hx with rfl | rfl | rfl | rfl | rfl | rfl | rfl <;> rfl

def flB (b : Bool) : UInt8 := if b then 1 else 0
def encV (v : Vl) : List UInt8 := v.o :: (nBytes 2 v.r ++ (flB v.j :: (encN v.t.v ++ (encN v.s.v ++ (encL v.x ++ encL v.e)))))
def encD (d : Dl) : List UInt8 := encN d.s.v ++ encL d.x
def keyV (i : UInt8) : List UInt8 := [118, i]
def keyD (o v : UInt8) : List UInt8 := [100, o, v]
def prV (v : Vl) : Pr := ⟨keyV v.i, encV v⟩
def prD (d : Dl) : Pr := ⟨keyD d.o d.v, encD d⟩
def RightV (v : Vl) : Prop := v.o.toNat < 200 ∧ v.r ≤ 10000 ∧ Right v.x ∧ Right v.e
instance (v : Vl) : Decidable (RightV v) := by unfold RightV; exact inferInstance
theorem encL_len {L : List Coin} (h : Right L) : (encL L).length ≤ 273 := by
  have h8 := right_len h
  have := encCs_len L
  simp [encL]; omega
theorem encV_len {v : Vl} (h : RightV v) : (encV v).length ≤ 700 := by
  have := encN_len v.t.h; have := encN_len v.s.h; have := encL_len h.2.2.1; have := encL_len h.2.2.2
  simp [encV, nBytes_len]; omega
theorem encD_len {d : Dl} (h : Right d.x) : (encD d).length ≤ 400 := by
  have := encN_len d.s.h; have := encL_len h
  simp [encD]; omega

def WL (id : Nat) (σ : St) (k : Nat) (l A : List UInt8) : AV → St → Prop := fun av σ' => av = .ptr id 0 ∧ ∃ k' tk', Wr σ.toks k l tk' k' A ∧ σ' = { σ with objs := σ.objs.set id [wrA k' A], toks := tk' }
theorem wbyteL {σ : St} {id k : Nat} {l A : List UInt8} {b : UInt8} (hA : A = l ++ [b]) (h : σ.objs[id]? = some [wrA k l]) (ht : Tk σ.toks k l) (hl : l.length ≤ 300000) :
    CallsA Try.prog 90 [.ptr id 0, .v (.int .u8 b.toNat)] σ (WL id σ k l A) := by
  subst hA; exact wbyte_ok h ht (by omega)
theorem wshortL {σ : St} {id k n : Nat} {l A : List UInt8} (hA : A = l ++ nBytes 2 n) (h : σ.objs[id]? = some [wrA k l]) (ht : Tk σ.toks k l) (hn : n < 65536) (hl : l.length ≤ 300000) :
    CallsA Try.prog 91 [.ptr id 0, .v (.int .u16 n)] σ (WL id σ k l A) := by
  subst hA; exact wshort_ok h ht hn (by omega)
theorem wflagL {σ : St} {id k : Nat} {b : Bool} {l A : List UInt8} (hA : A = l ++ [flB b]) (h : σ.objs[id]? = some [wrA k l]) (ht : Tk σ.toks k l) (hl : l.length ≤ 300000) :
    CallsA Try.prog 92 [.ptr id 0, .v (.bool b)] σ (WL id σ k l A) := by
  subst hA; exact wflag_ok h ht (by omega)
theorem wnumL {σ : St} {id k : Nat} {x : Num} {l A : List UInt8} (hA : A = l ++ encN x.v) (h : σ.objs[id]? = some [wrA k l]) (ht : Tk σ.toks k l) (hl : l.length ≤ 300000) :
    CallsA Try.prog 68 [.ptr id 0, .agg (numA x.v)] σ (WL id σ k l A) := by
  subst hA; exact wnum_ok h ht x.h (by omega)
theorem wcoinsL {σ : St} {id k : Nat} {L : List Coin} {l A : List UInt8} (hA : A = l ++ encL L) (h : σ.objs[id]? = some [wrA k l]) (ht : Tk σ.toks k l) (hL : Right L) (hl : l.length ≤ 300000) :
    CallsA Try.prog 69 [.ptr id 0, .sl 5 (coinsC L) L.length .shut] σ (WL id σ k l A) := by
  subst hA; exact wcoins_ok h ht (by have := right_len hL; omega) (by omega)
theorem doneL {σ : St} {id k : Nat} {l : List UInt8} (h : σ.objs[id]? = some [wrA k l]) (hne : l ≠ []) (hl : l.length ≤ 1000000) :
    CallsA Try.prog 70 [.ptr id 0] σ (fun av σ' => av = .sl 1 (bytesA l) l.length .shut ∧ σ = σ') := done_ok (tl := .own k) (by simpa [wrA, hne] using h) hl
theorem shortT {σ : St} {id n : Nat} {p q : List UInt8} (hp : p = nBytes 2 n ++ q) (hn : n < 65536) (h : σ.objs[id]? = some (rd (some p))) :
    CallsA Try.prog 74 [.ptr id 0] σ (fun av σ' => av = .v (.int .u16 n) ∧ σ' = { σ with objs := σ.objs.set id (rd (some q)) }) := by
  subst hp
  obtain ⟨t1, t2⟩ := tk_app (E := nBytes 2 n) (q := q) (n := 2) (nBytes_len _ _)
  exact callsA_mono (short_ok h) (fun av σ' ⟨e1, e2⟩ => by
    rw [t2, be_n2 hn] at e1; rw [t1] at e2
    exact ⟨e1, e2⟩)
theorem flagT {σ : St} {id : Nat} {b : Bool} {q : List UInt8} (h : σ.objs[id]? = some (rd (some (flB b :: q)))) :
    CallsA Try.prog 75 [.ptr id 0] σ (fun av σ' => av = .v (.bool b) ∧ σ' = { σ with objs := σ.objs.set id (rd (some q)) }) := by
  obtain ⟨t1, t2⟩ := byte_app (flB b) q
  refine callsA_mono (flag_ok h) (fun av σ' ⟨e1, e2⟩ => ?_)
  rw [flagS, t2, t1] at e2
  rw [t2] at e1
  cases b with
  | true => exact ⟨by rw [e1]; rfl, by rw [e2]; rfl⟩
  | false => exact ⟨by rw [e1]; rfl, by rw [e2]; rfl⟩
theorem numT {σ : St} {id : Nat} {x : Num} {p q : List UInt8} (hp : p = encN x.v ++ q) (h : σ.objs[id]? = some (rd (some p))) :
    CallsA Try.prog 76 [.ptr id 0] σ (fun av σ' => av = .agg (numA x.v) ∧ σ' = { σ with objs := σ.objs.set id (rd (some q)) }) := by
  subst hp
  obtain ⟨t1, t2⟩ := num_app x.h q
  exact callsA_mono (num_ok h) (fun av σ' ⟨e1, e2⟩ => by
    rw [t2] at e1; rw [t1] at e2
    exact ⟨e1, e2⟩)
theorem coinsT {σ : St} {id : Nat} {L : List Coin} {p q : List UInt8} (hp : p = encL L ++ q) (hR : Right L) (h : σ.objs[id]? = some (rd (some p))) :
    CallsA Try.prog 77 [.ptr id 0] σ (fun av σ' => av = .sl 5 (coinsC L) L.length .shut ∧ σ' = { σ with objs := σ.objs.set id (rd (some q)) }) := by
  subst hp
  have h8 := right_len hR
  exact callsA_mono (rcoins_raw h) (fun av σ' ⟨e1, e2⟩ => by
    rw [coinsL_app (by omega) hR] at e1; rw [coins_app (by omega) hR] at e2
    exact ⟨e1, e2⟩)

theorem HasS.at {σ τ : St} {o k : Nat} {G : Sg} (h : HasS σ o k G) (l : List (List AV)) (m : List Nat) (hτ : τ = { σ with objs := σ.objs ++ l, toks := m }) : HasS τ o k G := by subst hτ; exact h.app l m

set_option maxHeartbeats 1600000 in
attribute [local simp] undefA List.getElem?_cons_zero List.getElem?_cons_succ vlC cos in
theorem right1_ok {σ : St} {v : Vl} (hv : v.Ok) :
    CallsA Try.prog 55 [.agg (vlC v)] σ (fun av σ' => av = .v (.bool (decide (RightV v))) ∧ σ = σ') := by
  refine callsA_gcS ?_ rfl
  have hx := fun τ => right_ok (σ := τ) (l := v.x) (tl := .shut) hv.2.1
  have he := fun τ => right_ok (σ := τ) (l := v.e) (tl := .shut) hv.2.2
  obtain ⟨B, hB⟩ : ∃ B, B = decide (RightV v) := ⟨_, rfl⟩
  rw [← hB]
  have F := True.intro
  refine callsA_body Try.func55 rfl rfl rfl ?_; refine sr fun _ hJ2 => ?_; refine hJ2 _ _ ?_; refine sr fun _ hJ4 => ?_; refine gs 6 (fun g1_3 => ?_) (fun g1_3 => ?_)
  · (try exact nope g1_3); all_goals have g1_3p := g1_3; try simp [F] at g1_3p
    all_goals
     replace F := aF g1_3 F; try replace F := aF g1_3p F
     have h1 : v.o.toNat < 200 := by have h := g1_3; simp at h; omega
     replace F := aF h1 F; (iterate 3 refine go2 (k := ?_)); refine gs 11 (fun g1_8 => ?_) (fun g1_8 => ?_)
     · (try exact nope g1_8); all_goals have g1_8p := g1_8; try simp [F] at g1_8p
       all_goals
        replace F := aF g1_8 F; try replace F := aF g1_8p F
        have h2 : v.r ≤ 10000 := by have h := g1_8; simp [F] at h; first | omega | (have h := g1_8; simp [h1] at h; omega)
        replace F := aF h2 F; (iterate 2 refine go2 (k := ?_)); refine ca (c := hx _) (k := ?_); rintro _ _ ⟨rfl, rfl⟩; (repeat (first | simp [F] | simp (disch := omega) only [wC, if_pos, if_neg])); refine gs 16 (fun g1_13 => ?_) (fun g1_13 => ?_)
        · (try exact nope g1_13); all_goals have g1_13p := g1_13; try simp [F] at g1_13p
          all_goals
           replace F := aF g1_13 F; try replace F := aF g1_13p F
           have h3 : Right v.x := by have h := g1_13; simp [h1, h2] at h; exact h
           have hfin : B = decide (Right v.e) := by rw [hB, decide_eq_decide]; exact ⟨fun q => q.2.2.2, fun q => ⟨h1, h2, h3, q⟩⟩
           replace F := aF hfin F; (iterate 2 refine go2 (k := ?_)); refine ca (c := he _) (k := ?_); rintro _ _ ⟨rfl, rfl⟩; (repeat (first | simp [F] | simp (disch := omega) only [wC, if_pos, if_neg])); refine hJ4 _ _ ?_; refine ra ?_; exact gcr
        (try exact nope g1_13); all_goals have g1_13p := g1_13; try simp [F] at g1_13p
        all_goals
         replace F := aF g1_13 F; try replace F := aF g1_13p F
         have hf : B = false := by
           rw [hB, decide_eq_false_iff_not]; intro q; have h := g1_13; simp [q.1, q.2.1, q.2.2.1] at h
         replace F := aF hf F; (iterate 3 refine no2 (k := ?_)); refine hJ4 _ _ ?_; refine ra ?_; exact gcr
     (try exact nope g1_8); all_goals have g1_8p := g1_8; try simp [F] at g1_8p
     all_goals
      replace F := aF g1_8 F; try replace F := aF g1_8p F
      have hf : B = false := by
        rw [hB, decide_eq_false_iff_not]; intro q; have h2 := q.2.1; have h1 := q.1; have h := g1_8; simp [h1] at h; omega
      replace F := aF hf F; (iterate 6 refine no2 (k := ?_)); refine hJ4 _ _ ?_; refine ra ?_; exact gcr
  (try exact nope g1_3); all_goals have g1_3p := g1_3; try simp [F] at g1_3p
  all_goals
   replace F := aF g1_3 F; try replace F := aF g1_3p F
   have hf : B = false := by rw [hB, decide_eq_false_iff_not]; intro q; have h1 := q.1; have h := g1_3; simp at h; omega
   replace F := aF hf F; (iterate 9 refine no2 (k := ?_)); refine hJ4 _ _ ?_; refine ra ?_; exact gcr

def vl0C : List AV := [.v (.int .u8 0), .v (.int .u8 0), .v (.int .u16 0), .v (.bool false), .v (.int .u64 0), .v (.int .u64 0), .v (.int .u64 0), .v (.int .u64 0), .v (.int .u64 0), .v (.int .u64 0), .v (.int .u64 0), .v (.int .u64 0), .sl 0 [] 0 .full, .sl 0 [] 0 .full]
def dl0C : List AV := [.v (.int .u8 0), .v (.int .u8 0), .v (.int .u64 0), .v (.int .u64 0), .v (.int .u64 0), .v (.int .u64 0), .sl 0 [] 0 .full]

theorem set_oG {σ : St} {o k n : Nat} {G : Sg} {K C : List UInt8} (h : HasS σ o k G) (hG : G.s.Ok n) (hn : n ≤ 900000) (hK : K.length ≤ 1000000) (hC : C.length ≤ 1000000) (l : List (List AV)) (tk : List Nat) :
    CallsA Try.prog 67 [.ptr o 0, .sl 1 (bytesA K) K.length .full, .sl 1 (bytesA C) C.length .shut] { σ with objs := σ.objs ++ l, toks := tk } (fun av σ' => ∃ G', G'.s = doS G.s K (some C) ∧ av = .tup [] ∧ σ' = putS { σ with objs := σ.objs ++ l, toks := tk } o k G') :=
  set_ok (key := K) (val := C) (t1 := .full) (t2 := .shut) (h.app l tk) hG (by omega) hK hC
theorem putS_at {σ : St} {o k : Nat} {G : Sg} (h : HasS σ o k G) (l : List (List AV)) (tk : List Nat) (G' : Sg) : putS { σ with objs := σ.objs ++ l, toks := tk } o k G' = { putS σ o k G' with objs := (putS σ o k G').objs ++ l, toks := tk } := by simp only [putS]; rw [List.set_append_left _ _ (lt_of_get h.o)]

set_option maxHeartbeats 1600000 in
attribute [local simp] undefA List.getElem?_cons_zero List.getElem?_cons_succ vlC cos in
theorem write_ok {σ : St} {o k n : Nat} {G : Sg} {v : Vl} (h : HasS σ o k G) (hG : G.s.Ok n) (hn : n ≤ 900000) (hv : RightV v) :
    CallsA Try.prog 57 [.ptr o 0, .agg (vlC v)] σ (fun av σ' => ∃ G', G'.s = doS G.s (keyV v.i) (some (encV v)) ∧ av = .tup [] ∧ σ' = putS σ o k G') := by
  have h700 := encV_len hv
  obtain ⟨A1, hA1⟩ : ∃ A, A = [] ++ [v.o] := ⟨_, rfl⟩
  obtain ⟨A2, hA2⟩ : ∃ A, A = A1 ++ nBytes 2 v.r := ⟨_, rfl⟩
  obtain ⟨A3, hA3⟩ : ∃ A, A = A2 ++ [flB v.j] := ⟨_, rfl⟩
  obtain ⟨A4, hA4⟩ : ∃ A, A = A3 ++ encN v.t.v := ⟨_, rfl⟩
  obtain ⟨A5, hA5⟩ : ∃ A, A = A4 ++ encN v.s.v := ⟨_, rfl⟩
  obtain ⟨A6, hA6⟩ : ∃ A, A = A5 ++ encL v.x := ⟨_, rfl⟩
  obtain ⟨A7, hA7⟩ : ∃ A, A = A6 ++ encL v.e := ⟨_, rfl⟩
  have hA : encV v = A7 := by rw [hA7, hA6, hA5, hA4, hA3, hA2, hA1]; simp [encV]
  rw [hA] at h700
  have l7 := congrArg List.length hA7; have l6 := congrArg List.length hA6; have l5 := congrArg List.length hA5; have l4 := congrArg List.length hA4; have l3 := congrArg List.length hA3; have l2 := congrArg List.length hA2; have l1 := congrArg List.length hA1
  simp only [List.length_append, List.length_cons, List.length_nil] at l1 l2 l3 l4 l5 l6 l7
  have hne : A7 ≠ [] := by rw [← hA]; simp [encV]
  have hw0 : [AV.sl 0 [] 0 Tail.full] = [wrA 0 []] := rfl
  have hse : ∀ l tk, CallsA Try.prog 67 [.ptr o 0, .sl 1 [.v (.int .u8 118), .v (.int .u8 v.i.toNat)] 2 .full, .sl 1 (bytesA A7) A7.length .shut] { σ with objs := σ.objs ++ l, toks := tk } (fun av σ' => ∃ G', G'.s = doS G.s (keyV v.i) (some A7) ∧ av = .tup [] ∧ σ' = putS { σ with objs := σ.objs ++ l, toks := tk } o k G') := fun l tk => set_oG (K := keyV v.i) h hG hn (by simp [keyV]) (by omega) l tk
  have hpa := putS_at h
  have hro : v.r < 65536 := by have := hv.2.1; omega
  have hg0 : ∀ (G' : Sg) x r tk, (putS { σ with objs := σ.objs ++ x :: r, toks := tk } o k G').objs[σ.objs.length]? = some x := fun G' x r tk => by rw [hpa]; simp [putS]
  rw [hA]
  refine callsA_mono (callsA_gcSt (X := Nat × Nat × Nat) (A := fun _ => .tup []) (T := fun x => ⟨doS G.s (keyV v.i) (some A7), x.1, x.2.1, x.2.2⟩) h (fun _ => rfl) ?_) (fun av σ' ⟨x, e1, e2⟩ => ⟨_, rfl, e1, e2⟩)
  have F := And.intro hg0 (True.intro)
  refine callsA_body Try.func57 rfl rfl rfl ?_; refine sr fun _ hJ2 => ?_; refine hJ2 _ _ ?_; refine sr fun _ hJ4 => ?_; refine hJ4 _ _ ?_; refine sq fun K5 hK5 => ?_; replace F := aF hw0 F
  refine run_draw (by kernel_rfl) fun J6 hJ6 => ?_
  refine rp2 0 (k := ?_); refine rp2 1 (k := ?_); refine rp2 2 (k := ?_); refine rp2 4 (k := ?_); refine rp2 5 (k := ?_); refine rp2 7 (k := ?_); refine rp2 8 (k := ?_); refine rp2 10 (k := ?_); refine rp2 11 (k := ?_); refine rp2 13 (k := ?_); refine rp2 14 (k := ?_); refine rp2 16 (k := ?_); refine rp2 17 (k := ?_); refine rp2 19 (k := ?_); refine rp2 20 (k := ?_)
  refine dc 3 rfl (c := wbyteL (k := 0) (l := []) hA1 (by simp [F, hw0]) (.inl rfl) (by simp)) (k := ?_)
  rintro _ _ ⟨rfl, k1, tk1, w1, rfl⟩
  refine ⟨by first | exact fun _ _ h => h | (refine later_list [20, 19, 17, 16, 14, 13, 11, 10, 8, 7, 5, 4, 1] (by kernel_rfl) (List.forall_mem_cons.2 ⟨fun _ => fact2 rfl rfl ?_, List.forall_mem_cons.2 ⟨fun _ => fact2 rfl rfl ?_, List.forall_mem_cons.2 ⟨fun _ => fact2 rfl rfl ?_, List.forall_mem_cons.2 ⟨fun _ => fact2 rfl rfl ?_, List.forall_mem_cons.2 ⟨fun _ => fact2 rfl rfl ?_, List.forall_mem_cons.2 ⟨fun _ => fact2 rfl rfl ?_, List.forall_mem_cons.2 ⟨fun _ => fact2 rfl rfl ?_, List.forall_mem_cons.2 ⟨fun _ => fact2 rfl rfl ?_, List.forall_mem_cons.2 ⟨fun _ => fact2 rfl rfl ?_, List.forall_mem_cons.2 ⟨fun _ => fact2 rfl rfl ?_, List.forall_mem_cons.2 ⟨fun _ => fact2 rfl rfl ?_, List.forall_mem_cons.2 ⟨fun _ => fact2 rfl rfl ?_, List.forall_mem_cons.2 ⟨fun _ => fact2 rfl rfl ?_, fun _ h => absurd h List.not_mem_nil⟩⟩⟩⟩⟩⟩⟩⟩⟩⟩⟩⟩⟩) <;> constructor <;> first | rfl | (simp [F]; done)), ?_⟩
  repeat (first | simp [F] | simp (disch := omega) only [wC, if_pos, if_neg])
  refine dc 6 rfl (c := wshortL hA2 (by simp [F]) w1.tok hro (by omega)) (k := ?_)
  rintro _ _ ⟨rfl, k2, tk2, w2, rfl⟩
  refine ⟨by first | exact fun _ _ h => h | (refine later_list [20, 19, 17, 16, 14, 13, 11, 10, 8, 7, 4, 1] (by kernel_rfl) (List.forall_mem_cons.2 ⟨fun _ => fact2 rfl rfl ?_, List.forall_mem_cons.2 ⟨fun _ => fact2 rfl rfl ?_, List.forall_mem_cons.2 ⟨fun _ => fact2 rfl rfl ?_, List.forall_mem_cons.2 ⟨fun _ => fact2 rfl rfl ?_, List.forall_mem_cons.2 ⟨fun _ => fact2 rfl rfl ?_, List.forall_mem_cons.2 ⟨fun _ => fact2 rfl rfl ?_, List.forall_mem_cons.2 ⟨fun _ => fact2 rfl rfl ?_, List.forall_mem_cons.2 ⟨fun _ => fact2 rfl rfl ?_, List.forall_mem_cons.2 ⟨fun _ => fact2 rfl rfl ?_, List.forall_mem_cons.2 ⟨fun _ => fact2 rfl rfl ?_, List.forall_mem_cons.2 ⟨fun _ => fact2 rfl rfl ?_, List.forall_mem_cons.2 ⟨fun _ => fact2 rfl rfl ?_, fun _ h => absurd h List.not_mem_nil⟩⟩⟩⟩⟩⟩⟩⟩⟩⟩⟩⟩) <;> constructor <;> first | rfl | (simp [F]; done)), ?_⟩
  repeat (first | simp [F] | simp (disch := omega) only [wC, if_pos, if_neg])
  refine dc 9 rfl (c := wflagL hA3 (by simp [F]) w2.tok (by omega)) (k := ?_)
  rintro _ _ ⟨rfl, k3, tk3, w3, rfl⟩
  refine ⟨by first | exact fun _ _ h => h | (refine later_list [20, 19, 17, 16, 14, 13, 11, 10, 7, 4, 1] (by kernel_rfl) (List.forall_mem_cons.2 ⟨fun _ => fact2 rfl rfl ?_, List.forall_mem_cons.2 ⟨fun _ => fact2 rfl rfl ?_, List.forall_mem_cons.2 ⟨fun _ => fact2 rfl rfl ?_, List.forall_mem_cons.2 ⟨fun _ => fact2 rfl rfl ?_, List.forall_mem_cons.2 ⟨fun _ => fact2 rfl rfl ?_, List.forall_mem_cons.2 ⟨fun _ => fact2 rfl rfl ?_, List.forall_mem_cons.2 ⟨fun _ => fact2 rfl rfl ?_, List.forall_mem_cons.2 ⟨fun _ => fact2 rfl rfl ?_, List.forall_mem_cons.2 ⟨fun _ => fact2 rfl rfl ?_, List.forall_mem_cons.2 ⟨fun _ => fact2 rfl rfl ?_, List.forall_mem_cons.2 ⟨fun _ => fact2 rfl rfl ?_, fun _ h => absurd h List.not_mem_nil⟩⟩⟩⟩⟩⟩⟩⟩⟩⟩⟩) <;> constructor <;> first | rfl | (simp [F]; done)), ?_⟩
  repeat (first | simp [F] | simp (disch := omega) only [wC, if_pos, if_neg])
  refine dc 12 rfl (c := wnumL hA4 (by simp [F]) w3.tok (by omega)) (k := ?_)
  rintro _ _ ⟨rfl, k4, tk4, w4, rfl⟩
  refine ⟨by first | exact fun _ _ h => h | (refine later_list [20, 19, 17, 16, 14, 13, 10, 7, 4, 1] (by kernel_rfl) (List.forall_mem_cons.2 ⟨fun _ => fact2 rfl rfl ?_, List.forall_mem_cons.2 ⟨fun _ => fact2 rfl rfl ?_, List.forall_mem_cons.2 ⟨fun _ => fact2 rfl rfl ?_, List.forall_mem_cons.2 ⟨fun _ => fact2 rfl rfl ?_, List.forall_mem_cons.2 ⟨fun _ => fact2 rfl rfl ?_, List.forall_mem_cons.2 ⟨fun _ => fact2 rfl rfl ?_, List.forall_mem_cons.2 ⟨fun _ => fact2 rfl rfl ?_, List.forall_mem_cons.2 ⟨fun _ => fact2 rfl rfl ?_, List.forall_mem_cons.2 ⟨fun _ => fact2 rfl rfl ?_, List.forall_mem_cons.2 ⟨fun _ => fact2 rfl rfl ?_, fun _ h => absurd h List.not_mem_nil⟩⟩⟩⟩⟩⟩⟩⟩⟩⟩) <;> constructor <;> first | rfl | (simp [F]; done)), ?_⟩
  repeat (first | simp [F] | simp (disch := omega) only [wC, if_pos, if_neg])
  refine dc 15 rfl (c := wnumL hA5 (by simp [F]) w4.tok (by omega)) (k := ?_)
  rintro _ _ ⟨rfl, k5, tk5, w5, rfl⟩
  refine ⟨by first | exact fun _ _ h => h | (refine later_list [20, 19, 17, 16, 13, 10, 7, 4, 1] (by kernel_rfl) (List.forall_mem_cons.2 ⟨fun _ => fact2 rfl rfl ?_, List.forall_mem_cons.2 ⟨fun _ => fact2 rfl rfl ?_, List.forall_mem_cons.2 ⟨fun _ => fact2 rfl rfl ?_, List.forall_mem_cons.2 ⟨fun _ => fact2 rfl rfl ?_, List.forall_mem_cons.2 ⟨fun _ => fact2 rfl rfl ?_, List.forall_mem_cons.2 ⟨fun _ => fact2 rfl rfl ?_, List.forall_mem_cons.2 ⟨fun _ => fact2 rfl rfl ?_, List.forall_mem_cons.2 ⟨fun _ => fact2 rfl rfl ?_, List.forall_mem_cons.2 ⟨fun _ => fact2 rfl rfl ?_, fun _ h => absurd h List.not_mem_nil⟩⟩⟩⟩⟩⟩⟩⟩⟩) <;> constructor <;> first | rfl | (simp [F]; done)), ?_⟩
  repeat (first | simp [F] | simp (disch := omega) only [wC, if_pos, if_neg])
  refine dc 18 rfl (c := wcoinsL hA6 (by simp [F]) w5.tok hv.2.2.1 (by omega)) (k := ?_)
  rintro _ _ ⟨rfl, k6, tk6, w6, rfl⟩
  refine ⟨by first | exact fun _ _ h => h | (refine later_list [20, 19, 16, 13, 10, 7, 4, 1] (by kernel_rfl) (List.forall_mem_cons.2 ⟨fun _ => fact2 rfl rfl ?_, List.forall_mem_cons.2 ⟨fun _ => fact2 rfl rfl ?_, List.forall_mem_cons.2 ⟨fun _ => fact2 rfl rfl ?_, List.forall_mem_cons.2 ⟨fun _ => fact2 rfl rfl ?_, List.forall_mem_cons.2 ⟨fun _ => fact2 rfl rfl ?_, List.forall_mem_cons.2 ⟨fun _ => fact2 rfl rfl ?_, List.forall_mem_cons.2 ⟨fun _ => fact2 rfl rfl ?_, List.forall_mem_cons.2 ⟨fun _ => fact2 rfl rfl ?_, fun _ h => absurd h List.not_mem_nil⟩⟩⟩⟩⟩⟩⟩⟩) <;> constructor <;> first | rfl | (simp [F]; done)), ?_⟩
  repeat (first | simp [F] | simp (disch := omega) only [wC, if_pos, if_neg])
  refine dc 21 rfl (c := wcoinsL hA7 (by simp [F]) w6.tok hv.2.2.2 (by omega)) (k := ?_)
  rintro _ _ ⟨rfl, k7, tk7, w7, rfl⟩
  refine ⟨by first | exact fun _ _ h => h | (refine later_list [19, 16, 13, 10, 7, 4, 1] (by kernel_rfl) (List.forall_mem_cons.2 ⟨fun _ => fact2 rfl rfl ?_, List.forall_mem_cons.2 ⟨fun _ => fact2 rfl rfl ?_, List.forall_mem_cons.2 ⟨fun _ => fact2 rfl rfl ?_, List.forall_mem_cons.2 ⟨fun _ => fact2 rfl rfl ?_, List.forall_mem_cons.2 ⟨fun _ => fact2 rfl rfl ?_, List.forall_mem_cons.2 ⟨fun _ => fact2 rfl rfl ?_, List.forall_mem_cons.2 ⟨fun _ => fact2 rfl rfl ?_, fun _ h => absurd h List.not_mem_nil⟩⟩⟩⟩⟩⟩⟩) <;> constructor <;> first | rfl | (simp [F]; done)), ?_⟩
  (repeat (first | simp [F] | simp (disch := omega) only [wC, if_pos, if_neg])); refine dd ?_; refine hJ6 _ _ ?_; refine hK5 _ _ ?_
  refine run_draw (by kernel_rfl) fun J7 hJ7 => ?_
  refine rp2 0 (k := ?_); refine rp2 1 (k := ?_); refine rp2 2 (k := ?_); refine rp2 3 (k := ?_); refine rp2 4 (k := ?_)
  refine dc 5 rfl (c := doneL (l := A7) (k := k7) (by simp [F]) hne (by omega)) (k := ?_)
  rintro _ _ ⟨rfl, rfl⟩
  refine ⟨by first | exact fun _ _ h => h | (refine later_list [3, 2, 1, 0] (by kernel_rfl) (List.forall_mem_cons.2 ⟨fun _ => fact2 rfl rfl ?_, List.forall_mem_cons.2 ⟨fun _ => fact2 rfl rfl ?_, List.forall_mem_cons.2 ⟨fun _ => fact2 rfl rfl ?_, List.forall_mem_cons.2 ⟨fun _ => fact2 rfl rfl ?_, fun _ h => absurd h List.not_mem_nil⟩⟩⟩⟩) <;> constructor <;> first | rfl | (simp [F]; done)), ?_⟩
  (repeat (first | simp [F] | simp (disch := omega) only [wC, if_pos, if_neg])); refine dc 6 rfl (c := hse _ _) (k := ?_); rintro _ _ ⟨G', e0, rfl, rfl⟩
  refine ⟨by first | exact fun _ _ h => h | (refine later_list [2, 1] (by kernel_rfl) (List.forall_mem_cons.2 ⟨fun _ => fact2 rfl rfl ?_, List.forall_mem_cons.2 ⟨fun _ => fact2 rfl rfl ?_, fun _ h => absurd h List.not_mem_nil⟩⟩) <;> constructor <;> first | rfl | (simp [F]; done)), ?_⟩
  (repeat (first | simp [F] | simp (disch := omega) only [wC, if_pos, if_neg])); refine dd ?_; refine hJ7 _ _ ?_; (try simp only [Then, InBlock, NoGoto, if_true]); refine answer_none rfl (.inl rfl) ?_
  obtain ⟨gs, a1, a2, a3⟩ := G'
  simp only at e0
  subst e0
  refine ⟨(a1, a2, a3), ?_⟩
  obtain ⟨tm, htm⟩ := ((w1.trans w2).trans ((w3.trans w4).trans ((w5.trans w6).trans w7))).pre
  rw [hpa, htm]
  exact gcr

set_option maxHeartbeats 1600000 in
attribute [local simp] undefA List.getElem?_cons_zero List.getElem?_cons_succ vlC cos numA in
theorem val_yes {σ : St} {o k n : Nat} {G : Sg} {v : Vl} (h : HasS σ o k G) (hG : G.s.Ok n) (hn : n ≤ 900000) (hv : RightV v) (hg : getL G.s.l (keyV v.i) = some (encV v)) :
    CallsA Try.prog 39 [.ptr o 0, .v (.int .u8 v.i.toNat)] σ (fun av σ' => av = .tup [.agg (vlC v), .v (.bool true)] ∧ σ = σ') := by
  refine callsA_gcS ?_ (by simp [AV.under, vlC_under, underL])
  have h700 := encV_len hv
  have hge : ∀ l, CallsA Try.prog 71 [.ptr o 0, .sl 1 [.v (.int .u8 118), .v (.int .u8 v.i.toNat)] 2 .full] { σ with objs := σ.objs ++ l } _ := fun l => get_ok (key := keyV v.i) (t1 := .full) (h.app l σ.toks) hG (by omega)
  rw [hg] at hge
  simp only [Option.getD_some, Option.isSome_some] at hge
  obtain ⟨q6, hq6⟩ : ∃ q, q = encL v.e ++ [] := ⟨_, rfl⟩
  obtain ⟨q5, hq5⟩ : ∃ q, q = encL v.x ++ q6 := ⟨_, rfl⟩
  obtain ⟨q4, hq4⟩ : ∃ q, q = encN v.s.v ++ q5 := ⟨_, rfl⟩
  obtain ⟨q3, hq3⟩ : ∃ q, q = encN v.t.v ++ q4 := ⟨_, rfl⟩
  obtain ⟨q1, hq1⟩ : ∃ q, q = nBytes 2 v.r ++ (flB v.j :: q3) := ⟨_, rfl⟩
  have hp : encV v = v.o :: q1 := by rw [hq1, hq3, hq4, hq5, hq6]; simp [encV]
  have hro : v.r < 65536 := by have := hv.2.1; omega
  rw [hp] at h700 hge
  have hrd := fun τ => new_ok (σ := τ) (p := v.o :: q1) (tl := .shut) (by omega)
  obtain ⟨P, hP⟩ : ∃ P, P = v.o :: q1 := ⟨_, rfl⟩
  rw [← hP] at hge
  simp only [← hP] at hrd
  have F := True.intro
  refine callsA_body Try.func39 rfl rfl rfl ?_; refine sr fun _ hJ2 => ?_; refine hJ2 _ _ ?_; refine sr fun _ hJ4 => ?_; refine ca (c := hge _) (k := ?_); rintro _ _ ⟨rfl, rfl⟩; (repeat (first | simp [F] | simp (disch := omega) only [wC, if_pos, if_neg])); refine hJ4 _ _ ?_; refine sq fun K5 hK5 => ?_; refine sr fun _ hJ7 => ?_; refine hJ7 _ _ ?_; refine cf ?_; refine run_skip ?_; refine hK5 _ _ ?_; refine sr fun _ hJ9 => ?_; refine ca (c := hrd _) (k := ?_); rintro _ _ ⟨rfl, rfl⟩; (repeat (first | simp [F] | simp (disch := omega) only [wC, if_pos, if_neg])); refine hJ9 _ _ ?_; refine sr fun _ hJ11 => ?_
  refine ca (c := byteT (b := v.o) (q := q1) (by simp [F, hP])) (k := ?_)
  rintro _ _ ⟨rfl, rfl⟩; repeat (first | simp [F] | simp (disch := omega) only [wC, if_pos, if_neg])
  refine ca (c := shortT hq1 hro (by simp [F])) (k := ?_)
  rintro _ _ ⟨rfl, rfl⟩; repeat (first | simp [F] | simp (disch := omega) only [wC, if_pos, if_neg])
  refine ca (c := flagT (b := v.j) (q := q3) (by simp [F])) (k := ?_)
  rintro _ _ ⟨rfl, rfl⟩; repeat (first | simp [F] | simp (disch := omega) only [wC, if_pos, if_neg])
  refine ca (c := numT (x := v.t) hq3 (by simp [F])) (k := ?_)
  rintro _ _ ⟨rfl, rfl⟩; repeat (first | simp [F] | simp (disch := omega) only [wC, if_pos, if_neg])
  refine ca (c := numT (x := v.s) hq4 (by simp [F])) (k := ?_)
  rintro _ _ ⟨rfl, rfl⟩; repeat (first | simp [F] | simp (disch := omega) only [wC, if_pos, if_neg])
  refine ca (c := coinsT hq5 hv.2.2.1 (by simp [F])) (k := ?_)
  rintro _ _ ⟨rfl, rfl⟩; repeat (first | simp [F] | simp (disch := omega) only [wC, if_pos, if_neg])
  refine ca (c := coinsT hq6 hv.2.2.2 (by simp [F])) (k := ?_)
  rintro _ _ ⟨rfl, rfl⟩; (repeat (first | simp [F] | simp (disch := omega) only [wC, if_pos, if_neg])); refine hJ11 _ _ ?_; refine run_ret ?_; (try simp only [Then, InBlock, NoGoto]); refine acell2 (h := ?_); exact gcr

set_option maxHeartbeats 1600000 in
attribute [local simp] undefA List.getElem?_cons_zero List.getElem?_cons_succ vl0C in
theorem val_no {σ : St} {o k n : Nat} {G : Sg} {i : UInt8} (h : HasS σ o k G) (hG : G.s.Ok n) (hn : n ≤ 900000) (hg : getL G.s.l (keyV i) = none) :
    CallsA Try.prog 39 [.ptr o 0, .v (.int .u8 i.toNat)] σ (fun av σ' => av = .tup [.agg vl0C, .v (.bool false)] ∧ σ = σ') := by
  refine callsA_gcS ?_ rfl
  have hge : ∀ l, CallsA Try.prog 71 [.ptr o 0, .sl 1 [.v (.int .u8 118), .v (.int .u8 i.toNat)] 2 .full] { σ with objs := σ.objs ++ l } _ := fun l => get_ok (key := keyV i) (t1 := .full) (h.app l σ.toks) hG (by omega)
  rw [hg] at hge
  have F := True.intro
  refine callsA_body Try.func39 rfl rfl rfl ?_; refine sr fun _ hJ2 => ?_; refine hJ2 _ _ ?_; refine sr fun _ hJ4 => ?_; refine ca (c := hge _) (k := ?_); rintro _ _ ⟨rfl, rfl⟩; (repeat (first | simp [F] | simp (disch := omega) only [wC, if_pos, if_neg])); refine hJ4 _ _ ?_; refine sq fun K5 hK5 => ?_; refine sr fun _ hJ7 => ?_; refine hJ7 _ _ ?_; refine ct ?_; refine sr fun _ hJ9 => ?_; refine hJ9 _ _ ?_; refine run_ret ?_; (try simp only [Then, InBlock, NoGoto]); refine acell2 (h := ?_); exact gcr

set_option maxHeartbeats 1600000 in
attribute [local simp] undefA List.getElem?_cons_zero List.getElem?_cons_succ dlC cos numA in
theorem get_yes {σ : St} {o k n : Nat} {G : Sg} {d : Dl} (h : HasS σ o k G) (hG : G.s.Ok n) (hn : n ≤ 900000) (hd : Right d.x) (hg : getL G.s.l (keyD d.o d.v) = some (encD d)) :
    CallsA Try.prog 40 [.ptr o 0, .v (.int .u8 d.o.toNat), .v (.int .u8 d.v.toNat)] σ (fun av σ' => av = .tup [.agg (dlC d), .v (.bool true)] ∧ σ = σ') := by
  refine callsA_gcS ?_ (by simp [AV.under, dlC_under, underL])
  have h700 := encD_len hd
  have hge : ∀ l, CallsA Try.prog 71 [.ptr o 0, .sl 1 [.v (.int .u8 100), .v (.int .u8 d.o.toNat), .v (.int .u8 d.v.toNat)] 3 .full] { σ with objs := σ.objs ++ l } _ := fun l => get_ok (key := keyD d.o d.v) (t1 := .full) (h.app l σ.toks) hG (by omega)
  rw [hg] at hge
  simp only [Option.getD_some, Option.isSome_some] at hge
  obtain ⟨q1, hq1⟩ : ∃ q, q = encL d.x ++ [] := ⟨_, rfl⟩
  obtain ⟨P, hP⟩ : ∃ q, q = encN d.s.v ++ q1 := ⟨_, rfl⟩
  have hp : encD d = P := by rw [hP, hq1]; simp [encD]
  rw [hp] at h700 hge
  have hrd := fun τ => new_ok (σ := τ) (p := P) (tl := .shut) (by omega)
  have F := True.intro
  refine callsA_body Try.func40 rfl rfl rfl ?_; refine sr fun _ hJ2 => ?_; refine hJ2 _ _ ?_; refine sr fun _ hJ4 => ?_; refine ca (c := hge _) (k := ?_); rintro _ _ ⟨rfl, rfl⟩; (repeat (first | simp [F] | simp (disch := omega) only [wC, if_pos, if_neg])); refine hJ4 _ _ ?_; refine sq fun K5 hK5 => ?_; refine sr fun _ hJ7 => ?_; refine hJ7 _ _ ?_; refine cf ?_; refine run_skip ?_; refine hK5 _ _ ?_; refine sr fun _ hJ9 => ?_; refine ca (c := hrd _) (k := ?_); rintro _ _ ⟨rfl, rfl⟩; (repeat (first | simp [F] | simp (disch := omega) only [wC, if_pos, if_neg])); refine hJ9 _ _ ?_; refine sr fun _ hJ11 => ?_
  refine ca (c := numT (x := d.s) hP (by simp [F])) (k := ?_)
  rintro _ _ ⟨rfl, rfl⟩; repeat (first | simp [F] | simp (disch := omega) only [wC, if_pos, if_neg])
  refine ca (c := coinsT hq1 hd (by simp [F])) (k := ?_)
  rintro _ _ ⟨rfl, rfl⟩; (repeat (first | simp [F] | simp (disch := omega) only [wC, if_pos, if_neg])); refine hJ11 _ _ ?_; refine run_ret ?_; (try simp only [Then, InBlock, NoGoto]); refine acell2 (h := ?_); exact gcr

set_option maxHeartbeats 1600000 in
attribute [local simp] undefA List.getElem?_cons_zero List.getElem?_cons_succ dl0C in
theorem get_no {σ : St} {o k n : Nat} {G : Sg} {a b : UInt8} (h : HasS σ o k G) (hG : G.s.Ok n) (hn : n ≤ 900000) (hg : getL G.s.l (keyD a b) = none) :
    CallsA Try.prog 40 [.ptr o 0, .v (.int .u8 a.toNat), .v (.int .u8 b.toNat)] σ (fun av σ' => av = .tup [.agg dl0C, .v (.bool false)] ∧ σ = σ') := by
  refine callsA_gcS ?_ rfl
  have hge : ∀ l, CallsA Try.prog 71 [.ptr o 0, .sl 1 [.v (.int .u8 100), .v (.int .u8 a.toNat), .v (.int .u8 b.toNat)] 3 .full] { σ with objs := σ.objs ++ l } _ := fun l => get_ok (key := keyD a b) (t1 := .full) (h.app l σ.toks) hG (by omega)
  rw [hg] at hge
  have F := True.intro
  refine callsA_body Try.func40 rfl rfl rfl ?_; refine sr fun _ hJ2 => ?_; refine hJ2 _ _ ?_; refine sr fun _ hJ4 => ?_; refine ca (c := hge _) (k := ?_); rintro _ _ ⟨rfl, rfl⟩; (repeat (first | simp [F] | simp (disch := omega) only [wC, if_pos, if_neg])); refine hJ4 _ _ ?_; refine sq fun K5 hK5 => ?_; refine sr fun _ hJ7 => ?_; refine hJ7 _ _ ?_; refine ct ?_; refine sr fun _ hJ9 => ?_; refine hJ9 _ _ ?_; refine run_ret ?_; (try simp only [Then, InBlock, NoGoto]); refine acell2 (h := ?_); exact gcr
theorem setL_end {k v : List UInt8} : ∀ {L : List Pr}, (∀ p ∈ L, ltB p.k k = true) → setL L k (some v) = L ++ [⟨k, v⟩]
  | [], _ => rfl
  | p :: L, h => by
    have h0 := h p (by simp)
    rw [setL_c, if_neg (ltB_ne h0), if_neg (by rw [ltB_asymm h0]; simp), setL_end (fun q hq => h q (by simp [hq]))]; rfl
theorem setL_idx {k v : List UInt8} : ∀ {L : List Pr} {i : Nat} (hi : i < L.length), Srt L → L[i].k = k → setL L k (some v) = L.set i ⟨k, v⟩
  | p :: L, 0, _, _, hk => by rw [setL_c, if_pos (by simpa using hk)]; rfl
  | p :: L, i + 1, hi, hs, hk => by
    have l1 := List.pairwise_cons.1 hs
    have hi2 : i < L.length := by simpa using hi
    have hk2 : L[i].k = k := by simpa using hk
    have h0 := l1.1 L[i] (List.getElem_mem _)
    rw [hk2] at h0
    rw [setL_c, if_neg (ltB_ne h0), if_neg (by rw [ltB_asymm h0]; simp), setL_idx hi2 l1.2 hk2]; rfl
theorem getL_no {k : List UInt8} : ∀ {L : List Pr}, (∀ p ∈ L, p.k ≠ k) → getL L k = none
  | [], _ => rfl
  | p :: L, h => by rw [getL, if_neg (h p (by simp)), getL_no (fun q hq => h q (by simp [hq]))]

theorem keyV_p1 (i : UInt8) : preB (keyV i) [118] = true := by simp [preB, keyV]
theorem keyV_p2 (i : UInt8) : preB (keyV i) [100] = false := by simp [preB, keyV]
theorem keyD_p1 (o v : UInt8) : preB (keyD o v) [100] = true := by simp [preB, keyD]
theorem keyD_p2 (o v : UInt8) : preB (keyD o v) [118] = false := by simp [preB, keyD]
theorem keyV_lt (i j : UInt8) : ltB (keyV i) (keyV j) = decide (i.toNat < j.toNat) := by
  simp only [keyV, ltB, if_true]
  by_cases e : i = j
  · subst e; simp
  · rw [if_neg e]
theorem keyV_inj {i j : UInt8} : keyV i = keyV j ↔ i = j := by simp [keyV]
def ltD (d x : Dl) : Prop := d.o.toNat < x.o.toNat ∨ d.o = x.o ∧ d.v.toNat < x.v.toNat
instance (d x : Dl) : Decidable (ltD d x) := by unfold ltD; exact inferInstance
def eqD (d x : Dl) : Prop := x.o = d.o ∧ x.v = d.v
instance (d x : Dl) : Decidable (eqD d x) := by unfold eqD; exact inferInstance
theorem keyD_lt (d x : Dl) : ltB (keyD d.o d.v) (keyD x.o x.v) = decide (ltD d x) := by
  simp only [keyD, ltB, if_true]
  rw [Bool.eq_iff_iff, decide_eq_true_eq]
  unfold ltD
  by_cases e : d.o = x.o
  · rw [if_pos e]
    by_cases e2 : d.v = x.v
    · rw [if_pos e2, e, e2]; simp
    · rw [if_neg e2, decide_eq_true_eq]
      exact ⟨fun q => .inr ⟨e, q⟩, fun q => by rcases q with q | q; · rw [e] at q; omega
                                               · exact q.2⟩
  · rw [if_neg e, decide_eq_true_eq]
    exact ⟨fun q => .inl q, fun q => by rcases q with q | q; · exact q
                                        · exact absurd q.1 e⟩
theorem keyD_inj {d x : Dl} : keyD x.o x.v = keyD d.o d.v ↔ eqD d x := by simp [keyD, eqD]

def setD (d : Dl) (z : Bool) : List Dl → List Dl
  | [] => if z then [] else [d]
  | x :: l => if eqD d x then (if z then l else d :: l) else if ltD d x then (if z then x :: l else d :: x :: l) else x :: setD d z l
theorem setD_map (d : Dl) (z : Bool) : ∀ l : List Dl, setL (l.map prD) (keyD d.o d.v) (if z then none else some (encD d)) = (setD d z l).map prD
  | [] => by cases z <;> rfl
  | x :: l => by
    have ih := setD_map d z l
    rw [List.map_cons, setL_c, setD]
    have hk : (prD x).k = keyD x.o x.v := rfl
    rw [hk]
    by_cases e : eqD d x
    · rw [if_pos (keyD_inj.2 e), if_pos e]; cases z <;> rfl
    · rw [if_neg (fun q => e (keyD_inj.1 q)), if_neg e, keyD_lt]
      by_cases e2 : ltD d x
      · rw [if_pos (decide_eq_true e2), if_pos e2]; cases z <;> rfl
      · rw [if_neg (by simpa using e2), if_neg e2, ih]; rfl
theorem setD_mem {d : Dl} {z : Bool} {y : Dl} : ∀ {l : List Dl}, y ∈ setD d z l → y = d ∨ y ∈ l
  | [], h => by cases z <;> simp [setD] at h; exact .inl h
  | x :: l, h => by
    rw [setD] at h
    split at h
    · cases z <;> simp at h
      · rcases h with h | h
        · exact .inl h
        · exact .inr (by simp [h])
      · exact .inr (by simp [h])
    · split at h
      · cases z <;> simp at h
        · rcases h with h | h | h
          · exact .inl h
          · exact .inr (by simp [h])
          · exact .inr (by simp [h])
        · rcases h with h | h
          · exact .inr (by simp [h])
          · exact .inr (by simp [h])
      · rcases List.mem_cons.1 h with h | h
        · exact .inr (by simp [h])
        · rcases setD_mem h with h | h
          · exact .inl h
          · exact .inr (by simp [h])
theorem setD_len (d : Dl) (z : Bool) : ∀ l : List Dl, (setD d z l).length ≤ l.length + 1
  | [] => by cases z <;> simp [setD]
  | x :: l => by
    have ih := setD_len d z l
    rw [setD]
    split
    · cases z <;> simp <;> omega
    · split
      · cases z <;> simp <;> omega
      · simp only [List.length_cons]; omega

structure Pw where
  V : List Vl
  D : List Dl
structure PoolS (s : Sto) (W : Pw) (n : Nat) : Prop where
  ok : s.Ok n
  pv : pl s.l [118] = W.V.map prV
  pd : pl s.l [100] = W.D.map prD
  ids : ∀ (i : Nat) (h : i < W.V.length), W.V[i].i.toNat = i
  lv : W.V.length ≤ 16
  rv : ∀ v ∈ W.V, RightV v
  rd : ∀ d ∈ W.D, Right d.x
  nd : W.D.length ≤ n
def pw0 : Pw := ⟨[], []⟩
theorem PoolS.nil : PoolS newSg.s pw0 0 := ⟨newSg_ok, rfl, rfl, fun i h => absurd h (by simp [pw0]), by simp [pw0], fun v h => absurd h (by simp [pw0]), fun v h => absurd h (by simp [pw0]), Nat.le_refl _⟩
theorem PoolS.mono {s : Sto} {W : Pw} {n m : Nat} (h : PoolS s W n) (hm : n ≤ m) : PoolS s W m := ⟨h.ok.mono hm, h.pv, h.pd, h.ids, h.lv, h.rv, h.rd, Nat.le_trans h.nd hm⟩
theorem PoolS.getV {s : Sto} {W : Pw} {n i : Nat} (h : PoolS s W n) (hi : i < W.V.length) : getL s.l (keyV W.V[i].i) = some (encV W.V[i]) := by
  have hs := pl_srt (p := [118]) h.ok.srt
  rw [← getL_pl (keyV_p1 _), h.pv]
  rw [h.pv] at hs
  exact getL_of_mem hs (p := prV W.V[i]) (List.mem_map_of_mem (List.getElem_mem _))
theorem PoolS.noV {s : Sto} {W : Pw} {n : Nat} {i : UInt8} (h : PoolS s W n) (hi : W.V.length ≤ i.toNat) : getL s.l (keyV i) = none := by
  rw [← getL_pl (keyV_p1 _), h.pv]
  refine getL_no (fun p hp => ?_)
  obtain ⟨v, hv, rfl⟩ := List.mem_map.1 hp
  obtain ⟨j, hj, rfl⟩ := List.mem_iff_getElem.1 hv
  have := h.ids j hj
  intro e
  have e2 : W.V[j].i = i := keyV_inj.1 e
  rw [e2] at this
  omega
theorem PoolS.getD {s : Sto} {W : Pw} {n : Nat} {d : Dl} (h : PoolS s W n) (hd : d ∈ W.D) : getL s.l (keyD d.o d.v) = some (encD d) := by
  have hs := pl_srt (p := [100]) h.ok.srt
  rw [← getL_pl (keyD_p1 _ _), h.pd]
  rw [h.pd] at hs
  exact getL_of_mem hs (p := prD d) (List.mem_map_of_mem hd)
theorem PoolS.add {s : Sto} {W : Pw} {n : Nat} {v : Vl} (h : PoolS s W n) (hv : RightV v) (hl : W.V.length < 16) (hi : v.i.toNat = W.V.length) : PoolS (doS s (keyV v.i) (some (encV v))) { W with V := W.V ++ [v] } (n + 1) := by
  have h700 := encV_len hv
  refine ⟨doS_ok h.ok (by simp [keyV]) (by simp; omega), ?_, ?_, fun i hi2 => ?_, by simp; omega, fun x hx => ?_, h.rd, Nat.le_succ_of_le h.nd⟩
  · show pl (setL s.l _ _) _ = _
    rw [pl_in (keyV_p1 _) h.ok.srt, h.pv, setL_end (fun p hp => ?_), List.map_append]; · rfl
    obtain ⟨x, hx, rfl⟩ := List.mem_map.1 hp
    obtain ⟨j, hj, rfl⟩ := List.mem_iff_getElem.1 hx
    show ltB (keyV _) (keyV _) = true
    rw [keyV_lt, h.ids j hj, hi]; simpa using hj
  · show pl (setL s.l _ _) _ = _
    rw [pl_out (keyV_p2 _), h.pd]
  · simp only at hi2 ⊢
    rw [List.length_append] at hi2
    by_cases e : i < W.V.length
    · rw [List.getElem_append_left e]; exact h.ids i e
    · have e2 : i = W.V.length := by simp at hi2; omega
      subst e2; simp [hi]
  · rcases List.mem_append.1 hx with hx | hx
    · exact h.rv x hx
    · simp at hx; subst hx; exact hv
theorem PoolS.setV {s : Sto} {W : Pw} {n : Nat} {v : Vl} (h : PoolS s W n) (hv : RightV v) (hl : v.i.toNat < W.V.length) : PoolS (doS s (keyV v.i) (some (encV v))) { W with V := W.V.set v.i.toNat v } (n + 1) := by
  have h700 := encV_len hv
  have hs := pl_srt (p := [118]) h.ok.srt
  rw [h.pv] at hs
  refine ⟨doS_ok h.ok (by simp [keyV]) (by simp; omega), ?_, ?_, fun i hi2 => ?_, by simpa using h.lv, fun x hx => ?_, h.rd, Nat.le_succ_of_le h.nd⟩
  · show pl (setL s.l _ _) _ = _
    rw [pl_in (keyV_p1 _) h.ok.srt, h.pv, setL_idx (i := v.i.toNat) (by simpa using hl) hs ?_, List.map_set]; · rfl
    rw [List.getElem_map]
    show keyV _ = keyV _
    rw [keyV_inj]
    exact UInt8.toNat_inj.1 (h.ids _ hl)
  · show pl (setL s.l _ _) _ = _
    rw [pl_out (keyV_p2 _), h.pd]
  · simp only [List.length_set] at hi2
    simp only
    by_cases e : v.i.toNat = i
    · subst e; simp
    · rw [List.getElem_set_ne e]; exact h.ids i hi2
  · rcases List.mem_or_eq_of_mem_set hx with hx | rfl
    · exact h.rv x hx
    · exact hv
theorem PoolS.setD {s : Sto} {W : Pw} {n : Nat} {d : Dl} {z : Bool} (h : PoolS s W n) (hd : Right d.x) : PoolS (doS s (keyD d.o d.v) (if z then none else some (encD d))) { W with D := Proofs.Ytmponlabfccjaaa.setD d z W.D } (n + 1) := by
  have h700 := encD_len hd
  refine ⟨doS_ok h.ok (by simp [keyD]) (by cases z <;> simp; omega), ?_, ?_, h.ids, h.lv, h.rv, fun x hx => ?_, ?_⟩
  · show pl (setL s.l _ _) _ = _
    rw [pl_out (keyD_p2 _ _), h.pv]
  · show pl (setL s.l _ _) _ = _
    rw [pl_in (keyD_p1 _ _) h.ok.srt, h.pd, setD_map]
  · rcases setD_mem hx with rfl | hx
    · exact hd
    · exact h.rd x hx
  · exact Nat.le_trans (setD_len d z W.D) (Nat.succ_le_succ h.nd)

def newV (i o : UInt8) (r : Nat) : Vl := ⟨i, o, r, false, Num.zero, Num.zero, [], []⟩
def rightN (o : UInt8) (r : Nat) : Prop := o.toNat < 200 ∧ r ≤ 10000
instance (o : UInt8) (r : Nat) : Decidable (rightN o r) := by unfold rightN; exact inferInstance
theorem rightN_iff {i o : UInt8} {r : Nat} : RightV (newV i o r) ↔ rightN o r := ⟨fun h => ⟨h.1, h.2.1⟩, fun h => ⟨h.1, h.2, Go.Vm.right_nil, Go.Vm.right_nil⟩⟩
structure Pr3 where
  W : Pw
  i : Nat
  e : Nat
def addP (W : Pw) (o : UInt8) (r : Nat) : Pr3 := if rightN o r then (if 16 ≤ W.V.length then ⟨W, 0, 7⟩ else ⟨{ W with V := W.V ++ [newV (UInt8.ofNat W.V.length) o r] }, W.V.length, 0⟩) else ⟨W, 0, 1⟩
def setVP (W : Pw) (v : Vl) : Pr3 := if RightV v then (if W.V.length ≤ v.i.toNat then ⟨W, 0, 5⟩ else ⟨{ W with V := W.V.set v.i.toNat v }, 0, 0⟩) else ⟨W, 0, 1⟩
def zD (d : Dl) : Bool := decide (d.s.v = 0)
def setDP (W : Pw) (d : Dl) : Pr3 := if d.o.toNat < 200 ∧ Right d.x then (if W.V.length ≤ d.v.toNat then ⟨W, 0, 5⟩ else ⟨{ W with D := setD d (zD d) W.D }, 0, 0⟩) else ⟨W, 0, 1⟩

theorem putS_app {σ : St} {o k : Nat} {G : Sg} (h : HasS σ o k G) (G' : Sg) (l : List (List AV)) : putS { σ with objs := σ.objs ++ l } o k G' = { putS σ o k G' with objs := (putS σ o k G').objs ++ l } := by
  simp only [putS]; rw [List.set_append_left _ _ (lt_of_get h.o)]
theorem wk_vl {a b c d e f g h i j k l : AV} : Wk (.agg [a, b, c, d, e, f, g, h, i, j, k, l, .sl 0 [] 0 .full, .sl 0 [] 0 .full]) (.agg [a, b, c, d, e, f, g, h, i, j, k, l, .sl 5 [] 0 .shut, .sl 5 [] 0 .shut]) :=
  WkL.agg (.cons (Wk.refl _) (.cons (Wk.refl _) (.cons (Wk.refl _) (.cons (Wk.refl _) (.cons (Wk.refl _) (.cons (Wk.refl _) (.cons (Wk.refl _) (.cons (Wk.refl _) (.cons (Wk.refl _) (.cons (Wk.refl _) (.cons (Wk.refl _) (.cons (Wk.refl _) (.cons (Wk.nil _ _ _) (.cons (Wk.nil _ _ _) .nil))))))))))))))
def nvC (i o : UInt8) (r : Nat) : List AV := [.v (.int .u8 i.toNat), .v (.int .u8 o.toNat), .v (.int .u16 r), .v (.bool false), .v (.int .u64 0), .v (.int .u64 0), .v (.int .u64 0), .v (.int .u64 0), .v (.int .u64 0), .v (.int .u64 0), .v (.int .u64 0), .v (.int .u64 0), .sl 0 [] 0 .full, .sl 0 [] 0 .full]
theorem nvC_wk (i o : UInt8) (r : Nat) : Wk (.agg (nvC i o r)) (.agg (vlC (newV i o r))) := by
  have e : vlC (newV i o r) = [.v (.int .u8 i.toNat), .v (.int .u8 o.toNat), .v (.int .u16 r), .v (.bool false), .v (.int .u64 0), .v (.int .u64 0), .v (.int .u64 0), .v (.int .u64 0), .v (.int .u64 0), .v (.int .u64 0), .v (.int .u64 0), .v (.int .u64 0), .sl 5 [] 0 .shut, .sl 5 [] 0 .shut] := by simp [vlC, newV, Num.zero, limb, cos, coinsC]
  rw [e]; exact wk_vl

set_option maxHeartbeats 1600000 in
attribute [local simp] undefA List.getElem?_cons_zero List.getElem?_cons_succ in
theorem padd_ok {σ : St} {o k n : Nat} {G : Sg} {W : Pw} {ow : UInt8} {r : Nat} (h : HasS σ o k G) (hi : PoolS G.s W n) (hn : n ≤ 1000) (hr : r < 65536) :
    CallsA Try.prog 26 [.ptr o 0, .v (.int .u8 ow.toNat), .v (.int .u16 r)] σ (fun av σ' => ∃ G', PoolS G'.s (addP W ow r).W (n + 1) ∧ av = .tup [.v (.int .u8 ((addP W ow r).i : Nat)), .v (.int .i64 ((addP W ow r).e : Nat))] ∧ σ' = putS σ o k G') := by
  obtain ⟨⟨PW, PI, PE⟩, hP0⟩ : ∃ P, P = addP W ow r := ⟨_, rfl⟩
  rw [← hP0]
  simp only
  refine callsA_mono (callsA_gcX (X := { G' : Sg // PoolS G'.s PW (n + 1) }) (A := fun _ => .tup [.v (.int .u8 (PI : Nat)), .v (.int .i64 (PE : Nat))]) (τ := fun x => putS σ o k x.1) ?_ (fun _ => rfl) (fun x => by simp [putS]) (fun x => rfl) (fun x => by simp [putS]) (fun x => rfl) (fun x => putS_o h _) (fun x => putS_r (o := o) (k := k) (σ := σ) _)) (fun av σ' ⟨x, e1, e2⟩ => ⟨x.1, x.2, e1, e2⟩)
  have hVl := hi.lv
  have hr1 : ∀ l, CallsA Try.prog 55 [.agg (nvC 0 ow r)] { σ with objs := σ.objs ++ l } (fun av σ' => av = .v (.bool (decide (rightN ow r))) ∧ { σ with objs := σ.objs ++ l } = σ') := fun l => by
    have := right1_ok (σ := { σ with objs := σ.objs ++ l }) (v := newV 0 ow r) ⟨hr, by simp [newV], by simp [newV]⟩
    rw [decide_eq_decide.2 (rightN_iff (i := 0))] at this
    exact callsA_wk (.cons (nvC_wk 0 ow r) .nil) this
  have hke : ∀ l, CallsA Try.prog 56 [.ptr o 0, .sl 1 [.v (.int .u8 118)] 1 .full] { σ with objs := σ.objs ++ l } _ := fun l => keys_ok (p := [118]) (t := .full) (h.app l σ.toks) hi.ok (by omega)
  have hkl : keysL G.s.l [118] = W.V.map fun v => keyV v.i := by rw [keysL_filter hi.ok.srt]; show (pl G.s.l [118]).map (·.k) = _; rw [hi.pv, List.map_map]; rfl
  rw [hkl, List.length_map] at hke
  obtain ⟨N, hN⟩ : ∃ N : UInt8, N = UInt8.ofNat W.V.length := ⟨_, rfl⟩
  have hNn : N.toNat = W.V.length := by rw [hN]; exact toNat_ofNat (by omega)
  have hw8 : IntKind.u8.wrap (W.V.length : Int) = (N.toNat : Int) := by rw [wrap_u8, hNn]; omega
  have hwr : rightN ow r → ∀ l, CallsA Try.prog 57 [.ptr o 0, .agg (nvC N ow r)] { σ with objs := σ.objs ++ l } (fun av σ' => ∃ G', G'.s = doS G.s (keyV N) (some (encV (newV N ow r))) ∧ av = .tup [] ∧ σ' = putS { σ with objs := σ.objs ++ l } o k G') := fun hR l =>
    callsA_wk (.cons (Wk.refl _) (.cons (nvC_wk N ow r) .nil)) (write_ok (v := newV N ow r) (h.app l σ.toks) hi.ok (by omega) (rightN_iff.2 hR))
  have hpa := fun (G' : Sg) (l : List (List AV)) => putS_app h G' l
  have hg0 : ∀ (G' : Sg) x, (putS { σ with objs := σ.objs ++ [x] } o k G').objs[σ.objs.length]? = some x := fun G' x => by rw [hpa]; simp [putS]
  have hself := putS_self h
  obtain ⟨KV, hKV⟩ : ∃ KV, KV = kysC (W.V.map fun v => keyV v.i) := ⟨_, rfl⟩
  simp only [← hKV] at hke
  simp only [nvC] at hr1 hwr
  have h00 : (((0 : UInt8).toNat : Nat) : Int) = 0 := rfl
  simp only [h00] at hr1
  have hsg : ∀ l, { σ with objs := σ.objs ++ l } = { putS σ o k G with objs := (putS σ o k G).objs ++ l } := fun l => by rw [hself]
  have F := And.intro hw8 (And.intro hg0 (True.intro))
  refine callsA_body Try.func26 rfl rfl rfl ?_; refine sr fun _ hJ2 => ?_; refine hJ2 _ _ ?_; refine sr fun _ hJ4 => ?_; refine hJ4 _ _ ?_; refine sq fun K5 hK5 => ?_; refine sr fun _ hJ7 => ?_; refine go2 (k := ?_); refine ca (c := hr1 _) (k := ?_); rintro _ _ ⟨rfl, rfl⟩; (repeat (first | simp [F] | simp (disch := omega) only [wC, if_pos, if_neg])); refine go2 (k := ?_); refine hJ7 _ _ ?_; refine cs (fun c19 => ?_) (fun c19 => ?_)
  · (try exact nope c19); all_goals have c19p := c19; try simp [F] at c19p
    all_goals
     replace F := aF c19 F; try replace F := aF c19p F
     have hR : ¬ rightN ow r := by have h := c19; simpa using h
     obtain ⟨rfl, rfl, rfl⟩ : PW = W ∧ PI = 0 ∧ PE = 1 := by rw [addP, if_neg hR] at hP0; simpa using hP0
     refine sr fun _ hJ9 => ?_; refine hJ9 _ _ ?_; refine run_ret ?_; (try simp only [Then, InBlock, NoGoto]); refine answer_tmp2 rfl (.inr rfl) ?_; refine ⟨⟨G, hi.mono (Nat.le_succ _)⟩, ?_⟩
     rw [hself]
     exact gcr
  (try exact nope c19); all_goals have c19p := c19; try simp [F] at c19p
  all_goals
   replace F := aF c19 F; try replace F := aF c19p F
   have hR : rightN ow r := by have h := c19; simpa using h
   refine run_skip ?_; refine hK5 _ _ ?_; refine sr fun _ hJ11 => ?_; refine ca (c := hke _) (k := ?_); rintro _ _ ⟨rfl, rfl⟩; (repeat (first | simp [F] | simp (disch := omega) only [wC, if_pos, if_neg])); refine hJ11 _ _ ?_; refine sq fun K12 hK12 => ?_; refine sr fun _ hJ14 => ?_; refine hJ14 _ _ ?_; refine cs (fun c25 => ?_) (fun c25 => ?_)
   · (try exact nope c25); all_goals have c25p := c25; try simp [F] at c25p
     all_goals
      replace F := aF c25 F; try replace F := aF c25p F
      have h16 : 16 ≤ W.V.length := by have h := c25; simp at h; omega
      obtain ⟨rfl, rfl, rfl⟩ : PW = W ∧ PI = 0 ∧ PE = 7 := by rw [addP, if_pos hR, if_pos h16] at hP0; simpa using hP0
      refine sr fun _ hJ16 => ?_; refine hJ16 _ _ ?_; refine run_ret ?_; (try simp only [Then, InBlock, NoGoto]); refine answer_tmp2 rfl (.inr rfl) ?_; refine ⟨⟨G, hi.mono (Nat.le_succ _)⟩, ?_⟩
      rw [hself]
      exact gcr
   (try exact nope c25); all_goals have c25p := c25; try simp [F] at c25p
   all_goals
    replace F := aF c25 F; try replace F := aF c25p F
    have h16 : ¬ 16 ≤ W.V.length := by have h := c25; simp at h; omega
    obtain ⟨rfl, rfl, rfl⟩ : PW = { W with V := W.V ++ [newV N ow r] } ∧ PI = W.V.length ∧ PE = 0 := by rw [addP, if_pos hR, if_neg h16, ← hN] at hP0; simpa using hP0
    have hw2 := hwr hR
    replace F := aF hNn F; refine run_skip ?_; refine hK12 _ _ ?_; refine sr fun _ hJ18 => ?_; refine hJ18 _ _ ?_; refine sr fun _ hJ20 => ?_; refine ca (c := hw2 _) (k := ?_); rintro _ _ ⟨G', e0, rfl, rfl⟩; (repeat (first | simp [F] | simp (disch := omega) only [wC, if_pos, if_neg])); refine hJ20 _ _ ?_; refine sr fun _ hJ22 => ?_; refine hJ22 _ _ ?_; refine run_ret ?_; (try simp only [Then, InBlock, NoGoto]); refine answer_tmp2 rfl (.inr rfl) ?_
    refine ⟨⟨G', by rw [e0]; exact hi.add (rightN_iff.2 hR) (by omega) hNn⟩, ?_⟩
    rw [hpa]
    exact gcr
theorem pval_ok {σ : St} {o k n : Nat} {G : Sg} {W : Pw} {i : UInt8} (h : HasS σ o k G) (hi : PoolS G.s W n) (hn : n ≤ 1000) :
    CallsA Try.prog 39 [.ptr o 0, .v (.int .u8 i.toNat)] σ (fun av σ' => ∃ Z : List AV, (Z.length = 14 ∧ (∀ x, x ∈ Z → x.isCell = true) = True ∧ ∀ h2 : i.toNat < W.V.length, Z = vlC (W.V[i.toNat])) ∧ av = .tup [.agg Z, .v (.bool (decide (i.toNat < W.V.length)))] ∧ σ = σ') := by
  by_cases hl : i.toNat < W.V.length
  · have e : W.V[i.toNat].i = i := UInt8.toNat_inj.1 (hi.ids _ hl)
    have hg := hi.getV hl
    have := val_yes h hi.ok (by omega) (hi.rv _ (List.getElem_mem hl)) hg
    rw [e] at this
    exact callsA_mono this (fun av σ' ⟨e1, e2⟩ => ⟨vlC W.V[i.toNat], ⟨rfl, eq_true (cellV _), fun _ => rfl⟩, by rw [e1, decide_eq_true hl], e2⟩)
  · have := val_no (i := i) h hi.ok (by omega) (hi.noV (by omega))
    exact callsA_mono this (fun av σ' ⟨e1, e2⟩ => ⟨vl0C, ⟨rfl, eq_true (fun x hx => by simp only [vl0C, List.mem_cons, List.not_mem_nil, or_false] at hx; rcases hx with rfl | rfl | rfl | rfl | rfl | rfl | rfl | rfl | rfl | rfl | rfl | rfl | rfl | rfl <;> rfl), fun h2 => absurd h2 hl⟩, by rw [e1, decide_eq_false hl], e2⟩)

set_option maxHeartbeats 1600000 in
attribute [local simp] undefA List.getElem?_cons_zero List.getElem?_cons_succ in
theorem psetV_ok {σ : St} {o k n : Nat} {G : Sg} {W : Pw} {v : Vl} (h : HasS σ o k G) (hi : PoolS G.s W n) (hn : n ≤ 1000) (hv : v.Ok) :
    CallsA Try.prog 37 [.ptr o 0, .agg (vlC v)] σ (fun av σ' => ∃ G', PoolS G'.s (setVP W v).W (n + 1) ∧ av = .v (.int .i64 ((setVP W v).e : Nat)) ∧ σ' = putS σ o k G') := by
  obtain ⟨⟨PW, PI, PE⟩, hP0⟩ : ∃ P, P = setVP W v := ⟨_, rfl⟩
  rw [← hP0]
  simp only
  refine callsA_mono (callsA_gcX (X := { G' : Sg // PoolS G'.s PW (n + 1) }) (A := fun _ => .v (.int .i64 (PE : Nat))) (τ := fun x => putS σ o k x.1) ?_ (fun _ => rfl) (fun x => by simp [putS]) (fun x => rfl) (fun x => by simp [putS]) (fun x => rfl) (fun x => putS_o h _) (fun x => putS_r (o := o) (k := k) (σ := σ) _)) (fun av σ' ⟨x, e1, e2⟩ => ⟨x.1, x.2, e1, e2⟩)
  have hr1 := fun l => right1_ok (σ := { σ with objs := σ.objs ++ l }) hv
  have hva := fun l => pval_ok (i := v.i) (h.app l σ.toks) hi hn
  have hwr := fun hR l => write_ok (v := v) (h.app l σ.toks) hi.ok (by omega) hR
  have hpa := fun (G' : Sg) (l : List (List AV)) => putS_app h G' l
  have hself := putS_self h
  obtain ⟨Q, hQ⟩ : ∃ Q, Q = vlC v := ⟨_, rfl⟩
  have hQl : Q.length = 14 := by rw [hQ]; rfl
  have hQt : List.take 14 Q = Q := by subst hQ; rfl
  have hQ0 : ∀ h2 : 0 < Q.length, Q[0]'h2 = .v (.int .u8 (v.i.toNat : Nat)) := fun h2 => by subst hQ; rfl
  have hQh : Q.head? = some (.v (.int .u8 (v.i.toNat : Nat))) := by subst hQ; rfl
  simp only [← hQ] at hr1 hwr
  rw [← hQ]
  have F := And.intro hQl (And.intro hQt (And.intro hQ0 (True.intro)))
  refine callsA_body Try.func37 rfl rfl rfl ?_; refine sr fun _ hJ2 => ?_; refine hJ2 _ _ ?_; refine sq fun K3 hK3 => ?_; refine sr fun _ hJ5 => ?_; refine go2 (k := ?_); refine ca (c := hr1 _) (k := ?_); rintro _ _ ⟨rfl, rfl⟩; (repeat (first | simp [F] | simp (disch := omega) only [wC, if_pos, if_neg])); refine go2 (k := ?_); refine hJ5 _ _ ?_; refine cs (fun c13 => ?_) (fun c13 => ?_)
  · (try exact nope c13); all_goals have c13p := c13; try simp [F] at c13p
    all_goals
     replace F := aF c13 F; try replace F := aF c13p F
     have hR : ¬ RightV v := by have h := c13; simpa using h
     obtain ⟨rfl, rfl, rfl⟩ : PW = W ∧ PI = 0 ∧ PE = 1 := by rw [setVP, if_neg hR] at hP0; simpa using hP0
     refine sr fun _ hJ7 => ?_; refine hJ7 _ _ ?_; refine ra ?_; refine ⟨⟨G, hi.mono (Nat.le_succ _)⟩, ?_⟩
     rw [hself]
     exact gcr
  (try exact nope c13); all_goals have c13p := c13; try simp [F] at c13p
  all_goals
   replace F := aF c13 F; try replace F := aF c13p F
   have hR : RightV v := by have h := c13; simpa using h
   refine run_skip ?_; refine hK3 _ _ ?_; refine sq fun K8 hK8 => ?_; refine sr fun _ hJ10 => ?_; refine ca (c := hva _) (k := ?_); rintro _ _ ⟨Z, ⟨z1, z2, z3⟩, rfl, rfl⟩; simp only [AV.isCell] at z2
   replace F := aF z1 (And.intro z2 F); (repeat (first | simp [F] | simp (disch := omega) only [wC, if_pos, if_neg])); refine hJ10 _ _ ?_; refine sr fun _ hJ12 => ?_; refine hJ12 _ _ ?_; refine cs (fun c22 => ?_) (fun c22 => ?_)
   · (try exact nope c22); all_goals have c22p := c22; try simp [F] at c22p
     all_goals
      replace F := aF c22 F; try replace F := aF c22p F
      have h16 : W.V.length ≤ v.i.toNat := by have h := c22; simp at h; omega
      obtain ⟨rfl, rfl, rfl⟩ : PW = W ∧ PI = 0 ∧ PE = 5 := by rw [setVP, if_pos hR, if_pos h16] at hP0; simpa using hP0
      refine sr fun _ hJ14 => ?_; refine hJ14 _ _ ?_; refine ra ?_; refine ⟨⟨G, hi.mono (Nat.le_succ _)⟩, ?_⟩
      rw [hself]
      exact gcr
   (try exact nope c22); all_goals have c22p := c22; try simp [F] at c22p
   all_goals
    replace F := aF c22 F; try replace F := aF c22p F
    have h16 : ¬ W.V.length ≤ v.i.toNat := by have h := c22; simp at h; omega
    obtain ⟨rfl, rfl, rfl⟩ : PW = { W with V := W.V.set v.i.toNat v } ∧ PI = 0 ∧ PE = 0 := by rw [setVP, if_pos hR, if_neg h16] at hP0; simpa using hP0
    have hw2 := hwr hR
    refine run_skip ?_; refine hK8 _ _ ?_; refine sr fun _ hJ16 => ?_; refine ca (c := hw2 _) (k := ?_); rintro _ _ ⟨G', e0, rfl, rfl⟩; (repeat (first | simp [F] | simp (disch := omega) only [wC, if_pos, if_neg])); refine hJ16 _ _ ?_; refine sr fun _ hJ18 => ?_; refine hJ18 _ _ ?_; refine ra ?_
    refine ⟨⟨G', by rw [e0]; exact hi.setV hR (by omega)⟩, ?_⟩
    rw [hpa]
    exact gcr

set_option maxHeartbeats 1600000 in
attribute [local simp] undefA List.getElem?_cons_zero List.getElem?_cons_succ dlC cos in
theorem psetD_ok {σ : St} {o k n : Nat} {G : Sg} {W : Pw} {d : Dl} (h : HasS σ o k G) (hi : PoolS G.s W n) (hn : n ≤ 1000) (hd : d.Ok) :
    CallsA Try.prog 38 [.ptr o 0, .agg (dlC d)] σ (fun av σ' => ∃ G', PoolS G'.s (setDP W d).W (n + 1) ∧ av = .v (.int .i64 ((setDP W d).e : Nat)) ∧ σ' = putS σ o k G') := by
  obtain ⟨⟨PW, PI, PE⟩, hP0⟩ : ∃ P, P = setDP W d := ⟨_, rfl⟩
  rw [← hP0]
  simp only
  refine callsA_mono (callsA_gcX (X := { G' : Sg // PoolS G'.s PW (n + 1) }) (A := fun _ => .v (.int .i64 (PE : Nat))) (τ := fun x => putS σ o k x.1) ?_ (fun _ => rfl) (fun x => by simp [putS]) (fun x => rfl) (fun x => by simp [putS]) (fun x => rfl) (fun x => putS_o h _) (fun x => putS_r (o := o) (k := k) (σ := σ) _)) (fun av σ' ⟨x, e1, e2⟩ => ⟨x.1, x.2, e1, e2⟩)
  have hr1 := fun l => right_ok (σ := { σ with objs := σ.objs ++ l }) (l := d.x) (tl := .shut) hd
  have hva := fun l => pval_ok (i := d.v) (h.app l σ.toks) hi hn
  obtain ⟨A1, hA1⟩ : ∃ A, A = [] ++ encN d.s.v := ⟨_, rfl⟩
  obtain ⟨A2, hA2⟩ : ∃ A, A = A1 ++ encL d.x := ⟨_, rfl⟩
  have hA : encD d = A2 := by rw [hA2, hA1]; simp [encD]
  have hne : A2 ≠ [] := by rw [← hA]; simp [encD, encN]
  have hw0 : [AV.sl 0 [] 0 Tail.full] = [wrA 0 []] := rfl
  have hse : A2.length ≤ 1000000 → ∀ l tk, CallsA Try.prog 67 [.ptr o 0, .sl 1 [.v (.int .u8 100), .v (.int .u8 d.o.toNat), .v (.int .u8 d.v.toNat)] 3 .full, .sl 1 (bytesA A2) A2.length .shut] { σ with objs := σ.objs ++ l, toks := tk } (fun av σ' => ∃ G', G'.s = doS G.s (keyD d.o d.v) (some A2) ∧ av = .tup [] ∧ σ' = putS { σ with objs := σ.objs ++ l, toks := tk } o k G') := fun hl l tk => set_oG (K := keyD d.o d.v) h hi.ok (by omega) (by simp [keyD]) hl l tk
  have hde : ∀ l, CallsA Try.prog 66 [.ptr o 0, .sl 1 [.v (.int .u8 100), .v (.int .u8 d.o.toNat), .v (.int .u8 d.v.toNat)] 3 .full] { σ with objs := σ.objs ++ l } _ := fun l => del_ok (key := keyD d.o d.v) (t1 := .full) (h.app l σ.toks) hi.ok (by omega) (by simp [keyD])
  have hpt := putS_at h
  have hpa := fun (G' : Sg) (l : List (List AV)) => putS_app h G' l
  have hself := putS_self h
  have hz := cellsEq_num0 d.s
  have hzd : zD d = decide (d.s.v = 0) := rfl
  simp only [numA] at hz
  have hEl : Right d.x → (encD d).length ≤ 400 := encD_len
  rw [hA] at hEl
  have hsd : Right d.x → PoolS (doS G.s (keyD d.o d.v) (if zD d then none else some A2)) { W with D := setD d (zD d) W.D } (n + 1) := fun hR => by rw [← hA]; exact hi.setD (z := zD d) hR
  have l1e := congrArg List.length hA1
  have l2e := congrArg List.length hA2
  simp only [List.length_append, List.length_nil] at l1e l2e
  have hg0 : ∀ (G' : Sg) x r tk, (putS { σ with objs := σ.objs ++ x :: r, toks := tk } o k G').objs[σ.objs.length]? = some x := fun G' x r tk => by rw [hpt]; simp [putS]
  have F := And.intro hz (And.intro hg0 (True.intro))
  refine callsA_body Try.func38 rfl rfl rfl ?_; refine sr fun _ hJ2 => ?_; refine hJ2 _ _ ?_; refine sq fun K3 hK3 => ?_; refine sr fun _ hJ5 => ?_; (iterate 3 refine go2 (k := ?_)); refine gs 16 (fun g1_7 => ?_) (fun g1_7 => ?_)
  · (try exact nope g1_7); all_goals have g1_7p := g1_7; try simp [F] at g1_7p
    all_goals
     replace F := aF g1_7 F; try replace F := aF g1_7p F
     have ho : ¬ d.o.toNat < 200 := by have h := g1_7; simp at h; omega
     obtain ⟨rfl, rfl, rfl⟩ : PW = W ∧ PI = 0 ∧ PE = 1 := by rw [setDP, if_neg (fun q => ho q.1)] at hP0; simpa using hP0
     (iterate 4 refine no2 (k := ?_)); refine hJ5 _ _ ?_; refine ct ?_; refine sr fun _ hJ7 => ?_; refine hJ7 _ _ ?_; refine ra ?_; refine ⟨⟨G, hi.mono (Nat.le_succ _)⟩, ?_⟩
     rw [hself]
     exact gcr
  (try exact nope g1_7); all_goals have g1_7p := g1_7; try simp [F] at g1_7p
  all_goals
   replace F := aF g1_7 F; try replace F := aF g1_7p F
   have ho : d.o.toNat < 200 := by have h := g1_7; simp at h; omega
   (iterate 2 refine go2 (k := ?_)); refine ca (c := hr1 _) (k := ?_); rintro _ _ ⟨rfl, rfl⟩; (repeat (first | simp [F] | simp (disch := omega) only [wC, if_pos, if_neg])); refine go2 (k := ?_); refine hJ5 _ _ ?_; refine cs (fun c21 => ?_) (fun c21 => ?_)
   · (try exact nope c21); all_goals have c21p := c21; try simp [F] at c21p
     all_goals
      replace F := aF c21 F; try replace F := aF c21p F
      have hR : ¬ Right d.x := by have h := c21; simpa using h
      obtain ⟨rfl, rfl, rfl⟩ : PW = W ∧ PI = 0 ∧ PE = 1 := by rw [setDP, if_neg (fun q => hR q.2)] at hP0; simpa using hP0
      refine sr fun _ hJ9 => ?_; refine hJ9 _ _ ?_; refine ra ?_; refine ⟨⟨G, hi.mono (Nat.le_succ _)⟩, ?_⟩
      rw [hself]
      exact gcr
   (try exact nope c21); all_goals have c21p := c21; try simp [F] at c21p
   all_goals
    replace F := aF c21 F; try replace F := aF c21p F
    have hR : Right d.x := by have h := c21; simpa using h
    refine run_skip ?_; refine hK3 _ _ ?_; refine sq fun K10 hK10 => ?_; refine sr fun _ hJ12 => ?_; refine ca (c := hva _) (k := ?_); rintro _ _ ⟨Z, ⟨z1, z2, z3⟩, rfl, rfl⟩; simp only [AV.isCell] at z2
    replace F := aF z1 (And.intro z2 F); (repeat (first | simp [F] | simp (disch := omega) only [wC, if_pos, if_neg])); refine hJ12 _ _ ?_; refine sr fun _ hJ14 => ?_; refine hJ14 _ _ ?_; refine cs (fun c30 => ?_) (fun c30 => ?_)
    · (try exact nope c30); all_goals have c30p := c30; try simp [F] at c30p
      all_goals
       replace F := aF c30 F; try replace F := aF c30p F
       have h16 : W.V.length ≤ d.v.toNat := by have h := c30; simp at h; omega
       obtain ⟨rfl, rfl, rfl⟩ : PW = W ∧ PI = 0 ∧ PE = 5 := by rw [setDP, if_pos ⟨ho, hR⟩, if_pos h16] at hP0; simpa using hP0
       refine sr fun _ hJ16 => ?_; refine hJ16 _ _ ?_; refine ra ?_; refine ⟨⟨G, hi.mono (Nat.le_succ _)⟩, ?_⟩
       rw [hself]
       exact gcr
    (try exact nope c30); all_goals have c30p := c30; try simp [F] at c30p
    all_goals
     replace F := aF c30 F; try replace F := aF c30p F
     have h16 : ¬ W.V.length ≤ d.v.toNat := by have h := c30; simp at h; omega
     obtain ⟨rfl, rfl, rfl⟩ : PW = { W with D := setD d (zD d) W.D } ∧ PI = 0 ∧ PE = 0 := by rw [setDP, if_pos ⟨ho, hR⟩, if_neg h16] at hP0; simpa using hP0
     have hel := hEl hR
     have hs2 := hse (by omega)
     have hfin := hsd hR
     refine run_skip ?_; refine hK10 _ _ ?_; refine sr fun _ hJ18 => ?_; refine hJ18 _ _ ?_; refine sq fun K19 hK19 => ?_; refine sr fun _ hJ21 => ?_; refine hJ21 _ _ ?_; refine cs (fun c39 => ?_) (fun c39 => ?_)
     · (try exact nope c39); all_goals have c39p := c39; try simp [F] at c39p
       all_goals
        replace F := aF c39 F; try replace F := aF c39p F
        have hz0 : zD d = true := by have h := c39; rw [hzd]; simpa using h
        rw [hz0, if_pos rfl] at hfin
        refine sr fun _ hJ23 => ?_; refine ca (c := hde _) (k := ?_); rintro _ _ ⟨G', e0, rfl, rfl⟩; (repeat (first | simp [F] | simp (disch := omega) only [wC, if_pos, if_neg])); refine hJ23 _ _ ?_; refine sr fun _ hJ25 => ?_; refine hJ25 _ _ ?_; refine ra ?_
        refine ⟨⟨G', by rw [e0, hz0]; exact hfin⟩, ?_⟩
        rw [hpa]
        exact gcr
     (try exact nope c39); all_goals have c39p := c39; try simp [F] at c39p
     all_goals
      replace F := aF c39 F; try replace F := aF c39p F
      have hz0 : zD d = false := by have h := c39; rw [hzd]; simpa using h
      rw [hz0, if_neg (by simp)] at hfin
      refine run_skip ?_; refine hK19 _ _ ?_; refine sr fun _ hJ27 => ?_; refine hJ27 _ _ ?_; refine sq fun K28 hK28 => ?_; replace F := aF hw0 F
      refine run_draw (by kernel_rfl) fun J29 hJ29 => ?_
      refine rp2 0 (k := ?_); refine rp2 1 (k := ?_); refine rp2 2 (k := ?_); refine rp2 3 (k := ?_); refine rp2 4 (k := ?_); refine rp2 6 (k := ?_); refine rp2 7 (k := ?_)
      refine dc 5 rfl (c := wnumL (k := 0) (l := []) hA1 (by simp [F, hw0]) (.inl rfl) (by simp)) (k := ?_)
      rintro _ _ ⟨rfl, k1, tk1, w1, rfl⟩
      refine ⟨by first | exact fun _ _ h => h | (refine later_list [7, 6, 3, 1, 0] (by kernel_rfl) (List.forall_mem_cons.2 ⟨fun _ => fact2 rfl rfl ?_, List.forall_mem_cons.2 ⟨fun _ => fact2 rfl rfl ?_, List.forall_mem_cons.2 ⟨fun _ => fact2 rfl rfl ?_, List.forall_mem_cons.2 ⟨fun _ => fact2 rfl rfl ?_, List.forall_mem_cons.2 ⟨fun _ => fact2 rfl rfl ?_, fun _ h => absurd h List.not_mem_nil⟩⟩⟩⟩⟩) <;> constructor <;> first | rfl | (simp [F]; done)), ?_⟩
      repeat (first | simp [F] | simp (disch := omega) only [wC, if_pos, if_neg])
      refine dc 8 rfl (c := wcoinsL hA2 (by simp [F]) w1.tok hR (by omega)) (k := ?_)
      rintro _ _ ⟨rfl, k2, tk2, w2, rfl⟩
      refine ⟨by first | exact fun _ _ h => h | (refine later_list [6, 3, 1, 0] (by kernel_rfl) (List.forall_mem_cons.2 ⟨fun _ => fact2 rfl rfl ?_, List.forall_mem_cons.2 ⟨fun _ => fact2 rfl rfl ?_, List.forall_mem_cons.2 ⟨fun _ => fact2 rfl rfl ?_, List.forall_mem_cons.2 ⟨fun _ => fact2 rfl rfl ?_, fun _ h => absurd h List.not_mem_nil⟩⟩⟩⟩) <;> constructor <;> first | rfl | (simp [F]; done)), ?_⟩
      repeat (first | simp [F] | simp (disch := omega) only [wC, if_pos, if_neg])
      refine dc 9 rfl (c := doneL (l := A2) (k := k2) (by simp [F]) hne (by omega)) (k := ?_)
      rintro _ _ ⟨rfl, rfl⟩
      refine ⟨by first | exact fun _ _ h => h | (refine later_list [6, 3, 1, 0] (by kernel_rfl) (List.forall_mem_cons.2 ⟨fun _ => fact2 rfl rfl ?_, List.forall_mem_cons.2 ⟨fun _ => fact2 rfl rfl ?_, List.forall_mem_cons.2 ⟨fun _ => fact2 rfl rfl ?_, List.forall_mem_cons.2 ⟨fun _ => fact2 rfl rfl ?_, fun _ h => absurd h List.not_mem_nil⟩⟩⟩⟩) <;> constructor <;> first | rfl | (simp [F]; done)), ?_⟩
      (repeat (first | simp [F] | simp (disch := omega) only [wC, if_pos, if_neg])); refine dc 10 rfl (c := hs2 _ _) (k := ?_); rintro _ _ ⟨G', e0, rfl, rfl⟩
      refine ⟨by first | exact fun _ _ h => h | (refine later_list [6, 3] (by kernel_rfl) (List.forall_mem_cons.2 ⟨fun _ => fact2 rfl rfl ?_, List.forall_mem_cons.2 ⟨fun _ => fact2 rfl rfl ?_, fun _ h => absurd h List.not_mem_nil⟩⟩) <;> constructor <;> first | rfl | (simp [F]; done)), ?_⟩
      (repeat (first | simp [F] | simp (disch := omega) only [wC, if_pos, if_neg])); refine dd ?_; refine hJ29 _ _ ?_; refine hK28 _ _ ?_; refine sr fun _ hJ31 => ?_; refine hJ31 _ _ ?_; refine ra ?_
      obtain ⟨tm, htm⟩ := (w1.trans w2).pre
      refine ⟨⟨G', by rw [e0, hz0]; exact hfin⟩, ?_⟩
      rw [hpt, htm]
      exact gcr
structure GD where
  i : Nat
  O : List Dl
  b : Bool
end Go.Proofs.Ytmponlabfccjaaa
