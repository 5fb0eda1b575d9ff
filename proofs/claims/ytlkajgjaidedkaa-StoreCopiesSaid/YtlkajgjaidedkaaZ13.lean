import Derived.Test.YtlkajgjaidedkaaZ7
import Derived.Test.YtlkajgjaidedkaaZ9
import Derived.Test.YtlkajgjaidedkaaZ12
/-
  Bytes: alike, compared, begun with.
-/
namespace Go.Proofs.Ytlkajgjaidedkaa
set_option linter.unnecessarySimpa false
set_option maxRecDepth 100000
open Go Go.Vm
set_option linter.unusedSimpArgs false
set_option linter.unusedVariables false
attribute [local simp] evalL wantedA isCall opA evalA evalAll evalsA evalOpt ofValue ofCell plain binA_eql_pn binA_neq_pn binA_gtr binA_lss binA_geq binA_leq binA_add binA_sub binA_eql binA_neq binA_orI binA_shl binA_shr binA_mul binA_quo binA_rem binA_agg_eql binA_agg_neq convA_int unA_not fieldAddrA loadA partA pickA_true pickA_false pickA_bb lenA builtinA storeA splice AV.cells AV.isCell sliceA boundA intA callOf indexAddrA newObjA buildA fillA zeroA ofCells buildSliceA indexA fieldA set_appN get_appN take_appN List.getElem?_cons_zero List.getElem?_cons_succ

theorem convA_bytes {P : Program} {s d : TypeId} {p : List UInt8} {n : Nat} {t : Tail} : convA P s d (.sl 1 (bytesA p) n t) = (match elemT P s, isStrT P d with
    | some e, true => if isU8 P e then some (.v (.string ⟨p.toArray⟩)) else none
    | _, _ => none) := by
  simp only [convA, bytesOf_bytes]
  cases elemT P s with
  | none => rfl
  | some e => cases isStrT P d <;> simp

set_option maxHeartbeats 1600000 in
attribute [local simp] undefA List.getElem?_cons_zero List.getElem?_cons_succ convA_bytes binA_eql_str ba_toList in
theorem equal_ok {σ : St} {p q : List UInt8} {m n : Nat} {t1 t2 : Tail} : CallsA Try.prog 81 [.sl 1 (bytesA p) m t1, .sl 1 (bytesA q) n t2] σ (fun av σ' => av = .v (.bool (decide (p = q))) ∧ σ = σ') := by
  have he : (p == q) = decide (p = q) := by rw [Bool.eq_iff_iff]; simp
  have F := And.intro he (True.intro)
  refine callsA_body Try.func81 rfl rfl rfl ?_; refine sr fun _ hJ2 => ?_; refine hJ2 _ _ ?_; refine sr fun _ hJ4 => ?_; refine hJ4 _ _ ?_; refine ra ?_; exact rt

set_option maxHeartbeats 1600000 in
attribute [local simp] undefA List.getElem?_cons_zero List.getElem?_cons_succ in
theorem compare_ok {σ : St} {p q : List UInt8} {t1 t2 : Tail} : CallsA Try.prog 109 [.sl 1 (bytesA p) p.length t1, .sl 1 (bytesA q) q.length t2] σ (fun av σ' => av = .v (.int .i64 (cmpB p q)) ∧ σ = σ') := by
  have F := True.intro
  refine callsA_body Try.func109 rfl rfl rfl ?_; refine sr fun _ hJ2 => ?_; refine hJ2 _ _ ?_; refine sr fun _ hJ4 => ?_
  refine ce (c := compare_ext Try.func119 (by kernel_rfl) (by kernel_rfl) (by kernel_rfl) (by kernel_rfl)) (k := ?_)
  rintro _ _ rfl rfl; (repeat (first | simp [F] | simp (disch := omega) only [wC, if_pos, if_neg])); refine hJ4 _ _ ?_; refine ra ?_; exact rt

def preB (p q : List UInt8) : Bool := decide (q.length ≤ p.length) && decide (p.take q.length = q)

set_option maxHeartbeats 1600000 in
attribute [local simp] undefA List.getElem?_cons_zero List.getElem?_cons_succ preB in
theorem prefix_ok {σ : St} {p q : List UInt8} {t1 t2 : Tail} : CallsA Try.prog 78 [.sl 1 (bytesA p) p.length t1, .sl 1 (bytesA q) q.length t2] σ (fun av σ' => av = .v (.bool (preB p q)) ∧ σ = σ') := by
  have ht := bytesA_take p q.length
  have F := And.intro ht (True.intro)
  refine callsA_body Try.func78 rfl rfl rfl ?_; refine sr fun _ hJ2 => ?_; refine hJ2 _ _ ?_; refine sr fun _ hJ4 => ?_; refine gs 10 (fun g1_5 => ?_) (fun g1_5 => ?_)
  · (try exact nope g1_5); all_goals have g1_5p := g1_5; try simp [F] at g1_5p
    all_goals
     replace F := aF g1_5 F; (try replace F := aF g1_5p F); (iterate 5 refine go2 (k := ?_)); refine ca (c := equal_ok (p := p.take q.length) (q := q)) (k := ?_); rintro _ _ ⟨rfl, rfl⟩; (repeat (first | simp [F] | simp (disch := omega) only [wC, if_pos, if_neg])); refine hJ4 _ _ ?_; refine ra ?_; exact rt
  (try exact nope g1_5); all_goals have g1_5p := g1_5; try simp [F] at g1_5p
  all_goals
   replace F := aF g1_5 F; (try replace F := aF g1_5p F); (iterate 6 refine no2 (k := ?_)); refine hJ4 _ _ ?_; refine ra ?_; exact rt

set_option maxHeartbeats 1600000 in
attribute [local simp] undefA List.getElem?_cons_zero List.getElem?_cons_succ in
theorem search_ok {σ : St} {n fid : Nat} {caps : List AV} (pred : Nat → Bool) (hn : n ≤ 4000000000000000000) (hcb : callable Try.prog fid = true)
    (hf : ∀ i : Nat, i < n → CallsA Try.prog fid (.v (.int .i64 i) :: caps) σ (fun av σ' => av = .v (.bool (pred i)) ∧ σ = σ')) :
    CallsA Try.prog 107 [.v (.int .i64 n), .fn fid caps] σ (fun av σ' => (∃ r : Nat, av = .v (.int .i64 r) ∧ r ≤ n ∧ (0 < r → pred (r - 1) = false) ∧ (r < n → pred r = true)) ∧ σ = σ') := by
  have F := True.intro
  refine callsA_body Try.func107 rfl rfl rfl ?_; refine sr fun _ hJ2 => ?_; refine hJ2 _ _ ?_; refine sr fun _ hJ4 => ?_; refine hJ4 _ _ ?_; refine sq fun K5 hK5 => ?_; refine run_block_k ?_; refine run_loopF (X := Nat × Nat) [1, 4] (fun q ρ σ1 => (q.1 ≤ q.2) ∧ (q.2 ≤ n) ∧ (0 < q.1 → pred (q.1 - 1) = false) ∧ (q.2 < n → pred q.2 = true) ∧ (ρ 5 = .v (.int .i64 q.1)) ∧ (ρ 6 = .v (.int .i64 q.2)) ∧ (σ1 = σ)) (fun q => q.2 - q.1) ((0, n)) ?st1 ?rd1
  case st1 =>
   refine ⟨lp, lp, ?_, ?_, lp, lp, lp⟩
   · intro h
     simp at h
   · intro h
     simp at h
  case rd1 =>
   rintro q ρ1 σ1 hF1 ⟨h1, h2, h3, h4, h5, h6, hσ⟩; obtain rfl := hσ.symm
   have f1 := keepL hF1
   (try simp [KeepL, F] at f1); replace F := aF h5 F; replace F := aF h6 F; (try replace F := aF f1 F); refine sq fun K6 hK6 => ?_; refine sr fun _ hJ8 => ?_; refine hJ8 _ _ ?_; refine cs (fun c11 => ?_) (fun c11 => ?_)
   · (try exact nope c11); all_goals have c11p := c11; try simp [F] at c11p
     all_goals
      replace F := aF c11 F; (try replace F := aF c11p F); refine run_skip ?_; refine hK6 _ _ ?_; refine run_block_k ?_; refine sq fun K9 hK9 => ?_
      have hlt : q.1 < q.2 := by simp at c11; omega
      obtain ⟨i, j⟩ := q
      simp only at *
      obtain ⟨h, hh⟩ : ∃ h, h = (i + j) / 2 := ⟨_, rfl⟩
      have hw1 : IntKind.i64.wrap ((i : Int) + (j : Int)) = ((i + j : Nat) : Int) := wrap_i64 _ (by omega) (by omega)
      have hw2 : IntKind.u64.wrap ((i : Int) + (j : Int)) = ((i + j : Nat) : Int) := by rw [show (i : Int) + (j : Int) = ((i + j : Nat) : Int) by simp, wrap_u64, Nat.mod_eq_of_lt (by omega)]
      have hw3 : IntKind.i64.wrap (((i : Int) + (j : Int)).fdiv 2) = (h : Int) := by rw [Int.fdiv_eq_ediv_of_nonneg _ (by omega), wrap_i64 _ (by omega) (by omega)]; omega
      have hhj : h < j := by omega
      have hih : i ≤ h := by omega
      have hw4 : IntKind.i64.wrap ((h : Int) + 1) = ((h + 1 : Nat) : Int) := wrap_i64 _ (by omega) (by omega)
      replace F := aF hw1 F; replace F := aF hw2 F; replace F := aF hw3 F; replace F := aF hw4 F; refine rg' (h := fun J10 hJ10 => ?_); refine hJ10 _ _ ?_; refine hK9 _ _ ?_; refine sr fun _ hJ12 => ?_
      refine ca (c := hf h (by omega)) (k := ?_)
      rintro _ _ ⟨rfl, rfl⟩; (repeat (first | simp [F] | simp (disch := omega) only [wC, if_pos, if_neg])); refine hJ12 _ _ ?_; refine cs (fun c21 => ?_) (fun c21 => ?_)
      · (try exact nope c21); all_goals have c21p := c21; try simp [F] at c21p
        all_goals
         replace F := aF c21 F; (try replace F := aF c21p F); refine rg' (h := fun J13 hJ13 => ?_); refine hJ13 _ _ ?_; refine ⟨((h + 1, j)), ⟨kp, lp, lp, ?_, lp, lp, lp, lp⟩, ?_⟩
         · intro _
           simp at c21
           simpa using c21
         · simp
           omega
      (try exact nope c21); all_goals have c21p := c21; try simp [F] at c21p
      all_goals
       replace F := aF c21 F; (try replace F := aF c21p F); refine rg' (h := fun J14 hJ14 => ?_); refine hJ14 _ _ ?_; refine ⟨((i, h)), ⟨kp, lp, lp, lp, ?_, lp, lp, lp⟩, ?_⟩
       · intro _
         simp at c21
         simpa using c21
       · simp
         omega
   (try exact nope c11); all_goals have c11p := c11; try simp [F] at c11p
   all_goals
    replace F := aF c11 F; (try replace F := aF c11p F); refine run_exit ?_; refine hK5 _ _ ?_; refine sr fun _ hJ16 => ?_; refine hJ16 _ _ ?_; refine ra ?_
    refine ⟨⟨q.1, ?_, by omega, h3, fun h => ?_⟩, rfl⟩
    · simp [F]
    · have : q.1 = q.2 := by simp at c11; omega
      rw [this] at h ⊢; exact h4 h

theorem cmpB_ge (a b : List UInt8) : decide (0 ≤ cmpB a b) = !ltB a b := by
  unfold cmpB
  split
  · rename_i e; subst e; simp [ltB_irr]
  · cases ltB a b <;> simp
theorem prsC_len (l : List Pr) : (prsC l).length = l.length * 2 := by
  induction l with
  | nil => rfl
  | cons p l ih => simp only [prsC, List.flatMap_cons, List.length_append, prC, List.length_cons, List.length_nil] at ih ⊢; omega
theorem prsC_at : ∀ {l : List Pr} {i : Nat} (h : i < l.length), (prsC l)[i * 2]? = some (byC l[i].k) ∧ (prsC l)[i * 2 + 1]? = some (byC l[i].v)
  | p :: l, 0, h => ⟨rfl, rfl⟩
  | p :: l, i + 1, h => by
    have := prsC_at (l := l) (i := i) (by simpa using h)
    have e1 : (i + 1) * 2 = i * 2 + 2 := by omega
    rw [e1]
    exact this

set_option maxHeartbeats 1600000 in
attribute [local simp] undefA List.getElem?_cons_zero List.getElem?_cons_succ in
theorem findF_ok {σ : St} {b1 b2 o k i : Nat} {G : Sg} {key : List UInt8} {t : Tail} (h1 : σ.objs[b1]? = some [.ptr o 0]) (h2 : σ.objs[b2]? = some [.sl 1 (bytesA key) key.length t]) (h : HasS σ o k G) (hi : i < G.s.l.length) :
    CallsA Try.prog 108 [.v (.int .i64 i), .ptr b1 0, .ptr b2 0] σ (fun av σ' => av = .v (.bool (!ltB (G.s.l[i]).k key)) ∧ σ = σ') := by
  obtain ⟨ho, hr1, hr2, hr3⟩ := h
  obtain ⟨⟨l, log, marks⟩, g1, g2, g3⟩ := G
  simp only [stC, stR1, stR2, stR3] at ho hr1 hr2 hr3 hi ⊢
  have hat := (prsC_at hi).1
  have hc := cmpB_ge l[i].k key
  have F := And.intro ho (And.intro hr1 (And.intro h1 (And.intro h2 (And.intro hi (And.intro hat (And.intro hc (True.intro)))))))
  refine callsA_body Try.func108 rfl rfl rfl ?_; refine sr fun _ hJ2 => ?_; refine hJ2 _ _ ?_; refine sq fun K3 hK3 => ?_
  refine run_draw (by kernel_rfl) fun J4 hJ4 => ?_
  refine rp2 0 (k := ?_); refine rp2 1 (k := ?_); refine rp2 2 (k := ?_); refine rp2 3 (k := ?_); refine rp2 4 (k := ?_); refine rp2 5 (k := ?_); refine rp2 6 (k := ?_); refine rp2 7 (k := ?_); refine rp2 8 (k := ?_); refine dc 9 rfl (c := compare_ok) (k := ?_); rintro _ _ ⟨rfl, rfl⟩
  refine ⟨by first | exact fun _ _ h => h | (refine later_list [6, 5, 4, 3, 2, 1, 0] (by kernel_rfl) (List.forall_mem_cons.2 ⟨fun _ => fact2 rfl rfl ?_, List.forall_mem_cons.2 ⟨fun _ => fact2 rfl rfl ?_, List.forall_mem_cons.2 ⟨fun _ => fact2 rfl rfl ?_, List.forall_mem_cons.2 ⟨fun _ => fact2 rfl rfl ?_, List.forall_mem_cons.2 ⟨fun _ => fact2 rfl rfl ?_, List.forall_mem_cons.2 ⟨fun _ => fact2 rfl rfl ?_, List.forall_mem_cons.2 ⟨fun _ => fact2 rfl rfl ?_, fun _ h => absurd h List.not_mem_nil⟩⟩⟩⟩⟩⟩⟩) <;> constructor <;> first | rfl | (simp [F]; done)), ?_⟩
  (repeat (first | simp [F] | simp (disch := omega) only [wC, if_pos, if_neg])); refine rp2 10 (k := ?_); refine rp2 11 (k := ?_); refine dd ?_; refine hJ4 _ _ ?_; refine hK3 _ _ ?_; refine ra ?_; exact rt

def predF (l : List Pr) (key : List UInt8) (i : Nat) : Bool := match l[i]? with
  | some p => !ltB p.k key
  | none => true
theorem predF_find {l : List Pr} {key : List UInt8} {r : Nat} (hs : Srt l) (hr : r ≤ l.length) (h1 : 0 < r → predF l key (r - 1) = false) (h2 : r < l.length → predF l key r = true) : r = findL l key :=
  findL_of hs hr (fun h => by
    have := h1 h
    unfold predF at this
    split at this
    · rename_i p hp; exact ⟨p, hp, by simpa using this⟩
    · cases this) (fun p hp => by
    have := h2 (List.getElem?_eq_some_iff.1 hp).1
    unfold predF at this
    rw [hp] at this
    simpa using this)
theorem hasL_at {l : List Pr} {key : List UInt8} (hs : Srt l) : hasL l key = match l[findL l key]? with | some p => decide (p.k = key) | none => false := by
  unfold hasL
  rw [findL_get hs]
  cases h : l[findL l key]? with
  | none => rfl
  | some p => simp only; split <;> simp_all

set_option maxHeartbeats 1600000 in
attribute [local simp] undefA List.getElem?_cons_zero List.getElem?_cons_succ byC in
theorem find_ok {σ : St} {o k : Nat} {G : Sg} {key : List UInt8} {t : Tail} (h : HasS σ o k G) (hs : Srt G.s.l) (hl : G.s.l.length ≤ 4000000000000000000) :
    CallsA Try.prog 76 [.ptr o 0, .sl 1 (bytesA key) key.length t] σ (fun av σ' => av = .tup [.v (.int .i64 (findL G.s.l key)), .v (.bool (hasL G.s.l key))] ∧ σ = σ') := by
  refine callsA_gcS ?_ rfl
  have hlt := lt_of_get h.o
  have h' : HasS { σ with objs := σ.objs ++ [[.ptr o 0], [.sl 1 (bytesA key) key.length t]] } o k G := ⟨by simp only; rw [List.getElem?_append_left hlt]; exact h.o, h.r1, h.r2, h.r3⟩
  have hse := search_ok (σ := { σ with objs := σ.objs ++ [[.ptr o 0], [.sl 1 (bytesA key) key.length t]] }) (caps := [.ptr σ.objs.length 0, .ptr (σ.objs.length + 1) 0]) (fid := 108) (predF G.s.l key) hl (by simp) (fun i hi => callsA_mono (findF_ok (key := key) (t := t) (by simp) (by simp) h' hi) (fun av σ' hq => by
    refine ⟨hq.1.trans ?_, hq.2⟩
    simp [predF, hi]))
  have hho := h'.o
  obtain ⟨ho, hr1, hr2, hr3⟩ := h
  have hha := hasL_at (key := key) hs
  have hat : ∀ i (hi : i < G.s.l.length), (prsC G.s.l)[i * 2]? = some (byC G.s.l[i].k) := fun i hi => (prsC_at hi).1
  obtain ⟨⟨l, log, marks⟩, g1, g2, g3⟩ := G
  simp only [stC, stR1, stR2, stR3] at ho hr1 hr2 hr3 hl hho hse hs hha hat ⊢
  have hfl := findL_le l key
  have F := And.intro hho (And.intro hr1 (True.intro))
  refine callsA_body Try.func76 rfl rfl rfl ?_; refine sr fun _ hJ2 => ?_; refine hJ2 _ _ ?_; refine sr fun _ hJ4 => ?_; refine ca (c := hse) (k := ?_); rintro _ _ ⟨⟨r, rfl, e1, e2, e3⟩, rfl⟩; obtain rfl := predF_find hs e1 e2 e3; (repeat (first | simp [F] | simp (disch := omega) only [wC, if_pos, if_neg])); refine hJ4 _ _ ?_; refine sq fun K5 hK5 => ?_
  refine run_draw (by kernel_rfl) fun J6 hJ6 => ?_
  refine rp2 0 (k := ?_); refine rp2 1 (k := ?_); refine rp2 2 (k := ?_); refine rp2 3 (k := ?_); refine rp2 4 (k := ?_); refine rp2 5 (k := ?_); refine rp2 6 (k := ?_); refine rp2 7 (k := ?_); refine rp2 8 (k := ?_); refine gd 22 (fun g2_8 => ?_) (fun g2_8 => ?_)
  · (try exact nope g2_8); all_goals have g2_8p := g2_8; try simp [F] at g2_8p
    all_goals
     replace F := aF g2_8 F; try replace F := aF g2_8p F
     have hi : findL l key < l.length := by simp at g2_8; omega
     have hat0 := hat _ hi
     replace F := aF hi (And.intro hat0 F)
     have hhb : hasL l key = decide (l[findL l key].k = key) := by rw [hha, List.getElem?_eq_getElem hi]
     replace F := aF hhb F; refine rp2 9 (k := ?_); refine rp2 10 (k := ?_); refine rp2 11 (k := ?_); refine rp2 12 (k := ?_); refine rp2 13 (k := ?_); refine rp2 14 (k := ?_); refine rp2 15 (k := ?_); refine rp2 16 (k := ?_); refine rp2 17 (k := ?_); refine dc 18 rfl (c := equal_ok) (k := ?_); rintro _ _ ⟨rfl, rfl⟩
     refine ⟨by first | exact fun _ _ h => h | (refine later_list [15, 14, 13, 12, 11, 10, 9, 7, 6, 5, 4, 3, 2, 1, 0] (by kernel_rfl) (List.forall_mem_cons.2 ⟨fun _ => fact2 rfl rfl ?_, List.forall_mem_cons.2 ⟨fun _ => fact2 rfl rfl ?_, List.forall_mem_cons.2 ⟨fun _ => fact2 rfl rfl ?_, List.forall_mem_cons.2 ⟨fun _ => fact2 rfl rfl ?_, List.forall_mem_cons.2 ⟨fun _ => fact2 rfl rfl ?_, List.forall_mem_cons.2 ⟨fun _ => fact2 rfl rfl ?_, List.forall_mem_cons.2 ⟨fun _ => fact2 rfl rfl ?_, List.forall_mem_cons.2 ⟨fun _ => fact2 rfl rfl ?_, List.forall_mem_cons.2 ⟨fun _ => fact2 rfl rfl ?_, List.forall_mem_cons.2 ⟨fun _ => fact2 rfl rfl ?_, List.forall_mem_cons.2 ⟨fun _ => fact2 rfl rfl ?_, List.forall_mem_cons.2 ⟨fun _ => fact2 rfl rfl ?_, List.forall_mem_cons.2 ⟨fun _ => fact2 rfl rfl ?_, List.forall_mem_cons.2 ⟨fun _ => fact2 rfl rfl ?_, List.forall_mem_cons.2 ⟨fun _ => fact2 rfl rfl ?_, fun _ h => absurd h List.not_mem_nil⟩⟩⟩⟩⟩⟩⟩⟩⟩⟩⟩⟩⟩⟩⟩) <;> constructor <;> first | rfl | (simp [F]; done)), ?_⟩
     (repeat (first | simp [F] | simp (disch := omega) only [wC, if_pos, if_neg])); refine rp2 19 (k := ?_); refine rp2 20 (k := ?_); refine rp2 21 (k := ?_); refine dd ?_; refine hJ6 _ _ ?_; refine hK5 _ _ ?_; refine run_ret ?_; (try simp only [Then, InBlock, NoGoto]); refine answer_tmp2 rfl (.inr rfl) ?_; exact gcr
  (try exact nope g2_8); all_goals have g2_8p := g2_8; try simp [F] at g2_8p
  all_goals
   replace F := aF g2_8 F; try replace F := aF g2_8p F
   have hhb : hasL l key = false := by rw [hha, List.getElem?_eq_none (by simp at g2_8; omega)]
   replace F := aF hhb F; refine rp2 9 (k := ?_); refine rp2 10 (k := ?_); refine rp2 11 (k := ?_); refine rp2 12 (k := ?_); refine rp2 13 (k := ?_); refine rp2 14 (k := ?_); refine rp2 15 (k := ?_); refine rp2 16 (k := ?_); refine rp2 17 (k := ?_); refine dop 18 rfl ?_; (repeat (first | simp [F] | simp (disch := omega) only [wC, if_pos, if_neg])); refine rp2 19 (k := ?_); refine rp2 20 (k := ?_); refine rp2 21 (k := ?_); refine dd ?_; refine hJ6 _ _ ?_; refine hK5 _ _ ?_; refine run_ret ?_; (try simp only [Then, InBlock, NoGoto]); refine answer_tmp2 rfl (.inr rfl) ?_; exact gcr
end Go.Proofs.Ytlkajgjaidedkaa

/-
  Pairs are taken out of a row, and laid into it.
-/
namespace Go.Proofs.Ytlkajgjaidedkaa
set_option linter.unnecessarySimpa false
set_option maxRecDepth 100000
open Go Go.Vm
set_option linter.unusedSimpArgs false
set_option linter.unusedVariables false
attribute [local simp] evalL wantedA isCall opA evalA evalAll evalsA evalOpt ofValue ofCell plain binA_eql_pn binA_neq_pn binA_gtr binA_lss binA_geq binA_leq binA_add binA_sub binA_eql binA_neq binA_orI binA_shl binA_shr binA_mul binA_quo binA_rem binA_agg_eql binA_agg_neq convA_int unA_not fieldAddrA loadA partA pickA_true pickA_false pickA_bb lenA builtinA storeA splice AV.cells AV.isCell sliceA boundA intA callOf indexAddrA newObjA buildA fillA zeroA ofCells buildSliceA indexA fieldA set_appN get_appN take_appN List.getElem?_cons_zero List.getElem?_cons_succ sliceRowA appendA rowAppA readA clearA zerosA zeroCell capA copyA appendZA roomA maxLen Value.oneCell' Value.cells

set_option maxHeartbeats 1600000 in
attribute [local simp] undefA List.getElem?_cons_zero List.getElem?_cons_succ in
theorem delete_ok {σ : St} {k g i m : Nat} {A X B : List AV} (hr : σ.rows[k]? = some ⟨g, A ++ (X ++ B), none⟩) (hA : A.length = i * 2) (hX : X.length = 2) (hB : B.length = m * 2) (hn : i + m ≤ 1000000000) (hu : underL σ.bd (A ++ B) = true) :
    CallsA Try.prog 110 [.row k g 0 2 (i + 1 + m), .v (.int .i64 i), .v (.int .i64 (i + 1 : Nat))] σ (fun av σ' => ∃ g', av = .row k g' 0 2 (i + m) ∧ σ' = { σ with rows := σ.rows.set k ⟨g', A ++ B, none⟩ }) := by
  refine callsA_row_end (Q := fun av σ' => ∃ g junk sp, av = .row k g 0 2 (i + m) ∧ σ' = { σ with rows := σ.rows.set k ⟨g, (A ++ B) ++ junk, sp⟩ }) ?_ hr (by simp [hA, hB]; omega) hu (fun av σ' h => ?_)
  · have hs := set_self_of hr
    have hT : List.take (i * 2) (A ++ (X ++ B)) = A := List.take_left' hA
    have hD : List.drop ((i + 1) * 2) (A ++ (X ++ B)) = B := by rw [← List.append_assoc]; exact List.drop_left' (by simp [hA, hX]; omega)
    have hT2 : List.take (m * 2) B = B := List.take_of_length_le (by omega)
    have hN1 : ((i : Int) + (m : Int)).toNat = i + m := by omega
    have hN2 : ((i : Int) + 1 + (m : Int)).toNat = i + 1 + m := by omega
    have hN3 : i + 1 + m - (i + m) = 1 := by omega
    have hN4 : (i + 1 + m) * 2 - (i * 2 + m * 2) = 2 := by omega
    have hN5 : i * 2 + m * 2 = (i + m) * 2 := by omega
    have hD2 : ∀ Z, List.drop ((i + m) * 2 + 2) (A ++ (B ++ Z)) = List.drop 2 Z := fun Z => by rw [← List.append_assoc, ← List.drop_drop, List.drop_left' (by simp [hA, hB]; omega)]
    have hT3 : ∀ Z, List.take ((i + m) * 2) (A ++ (B ++ Z)) = A ++ B := fun Z => by rw [← List.append_assoc]; exact List.take_left' (by simp [hA, hB]; omega)
    have F := And.intro hr (And.intro hA (And.intro hX (And.intro hB (And.intro hT (And.intro hD (And.intro hT2 (And.intro hN1 (And.intro hN2 (And.intro hN3 (And.intro hN4 (And.intro hD2 (And.intro hT3 (True.intro)))))))))))))
    refine callsA_body Try.func110 rfl rfl rfl ?_; refine sr fun _ hJ2 => ?_; refine hJ2 _ _ ?_; refine sq fun K3 hK3 => ?_; refine run_learnD 0 (kk := fun s q hsq hnq => ?_); replace F := aF hs F; refine rg' (h := fun J4 hJ4 => ?_); refine hJ4 _ _ ?_; refine hK3 _ _ ?_; refine sq fun K5 hK5 => ?_; refine sr fun _ hJ7 => ?_; refine hJ7 _ _ ?_; refine cs (fun c16 => ?_) (fun c16 => ?_)
    · (try exact nope c16); all_goals have c16p := c16; try simp [F] at c16p
      all_goals
       replace F := aF c16 F; (try replace F := aF c16p F); refine sr fun _ hJ9 => ?_; refine hJ9 _ _ ?_; refine ra ?_; exact ⟨g + 1, _, _, by simp [F], by simp only [List.append_assoc]; rfl⟩
    (try exact nope c16); all_goals have c16p := c16; try simp [F] at c16p
    all_goals
     replace F := aF c16 F; (try replace F := aF c16p F); refine run_skip ?_; refine hK5 _ _ ?_; refine sr fun _ hJ11 => ?_; refine hJ11 _ _ ?_; refine sq fun K12 hK12 => ?_
     refine run_draw (by kernel_rfl) fun J13 hJ13 => ?_
     refine rp2 0 (k := ?_); refine rp2 1 (k := ?_); refine rp2 2 (k := ?_); refine rp2 3 (k := ?_); refine rp2 4 (k := ?_); refine rp2 5 (k := ?_); refine dop 6 rfl ?_; repeat (first | simp [F] | simp (disch := omega) only [wC, if_pos, if_neg])
     refine ⟨later_tmp (by kernel_rfl), ?_⟩
     refine dop 7 rfl ?_; (repeat (first | simp [F] | simp (disch := omega) only [wC, if_pos, if_neg])); (try refine ⟨ln, ?_⟩); refine dd ?_; refine hJ13 _ _ ?_; refine hK12 _ _ ?_; refine sr fun _ hJ15 => ?_; refine hJ15 _ _ ?_; refine sr fun _ hJ17 => ?_; refine hJ17 _ _ ?_; refine ra ?_; exact ⟨g + 1, _, _, by simp [F], by simp only [List.append_assoc]; rfl⟩
  · obtain ⟨g', junk, sp, e1, e2⟩ := h
    exact .inl ⟨g', junk, sp, [], [], [], e1, by rw [e2]; simp⟩

set_option maxHeartbeats 1600000 in
attribute [local simp] undefA List.getElem?_cons_zero List.getElem?_cons_succ in
theorem insert_end {σ : St} {k kv g gv i : Nat} {A X : List AV} {sv : Option Nat} (hr : σ.rows[k]? = some ⟨g, A, none⟩) (hv : σ.rows[kv]? = some ⟨gv, X, sv⟩) (hA : A.length = i * 2) (hX : X.length = 2) (hn : i ≤ 1000000000) (hu : underL σ.bd (A ++ X) = true) :
    CallsA Try.prog 111 [.row k g 0 2 i, .v (.int .i64 i), .row kv gv 0 2 1] σ (fun av σ' => ∃ g', av = .row k g' 0 2 (i + 1) ∧ σ' = { σ with rows := σ.rows.set k ⟨g', A ++ X, none⟩ }) := by
  refine callsA_row_end (Q := fun av σ' => ∃ g', av = .row k g' 0 2 (i + 1) ∧ σ' = { σ with rows := σ.rows.set k ⟨g', A ++ X, none⟩ }) ?_ hr (by simp [hA, hX]; omega) hu (fun av σ' h => ?_)
  · have hT : List.take (i * 2) A = A := List.take_of_length_le (by omega)
    have hX2 : List.take 2 X = X := List.take_of_length_le (by omega)
    have h1 : (i + 1) * 48 ≤ 140737488355328 := by omega
    have h2 : i + 1 ≤ 9223372036854775807 := by omega
    have F := And.intro hr (And.intro hv (And.intro hA (And.intro hX (And.intro hT (And.intro hX2 (And.intro h1 (And.intro h2 (True.intro))))))))
    refine callsA_body Try.func111 rfl rfl rfl ?_; refine sr fun _ hJ2 => ?_; refine hJ2 _ _ ?_; refine sr fun _ hJ4 => ?_; refine hJ4 _ _ ?_; refine sr fun _ hJ6 => ?_; refine hJ6 _ _ ?_; refine sq fun K7 hK7 => ?_; refine sr fun _ hJ9 => ?_; refine hJ9 _ _ ?_; refine cs (fun c16 => ?_) (fun c16 => ?_)
    · (try exact nope c16); all_goals have c16p := c16; try simp [F] at c16p
      all_goals
       replace F := aF c16 F; (try replace F := aF c16p F); refine sr fun _ hJ11 => ?_; refine hJ11 _ _ ?_; refine ra ?_; exact ⟨g + 1, by simp [F], rfl⟩
    (try exact nope c16); all_goals have c16p := c16; try simp [F] at c16p
    all_goals
     replace F := aF c16 F; (try replace F := aF c16p F); refine run_skip ?_; refine hK7 _ _ ?_; refine sr fun _ hJ13 => ?_; refine hJ13 _ _ ?_; refine sq fun K14 hK14 => ?_; refine sr fun _ hJ16 => ?_; refine hJ16 _ _ ?_; refine ct ?_; refine sr fun _ hJ18 => ?_; refine hJ18 _ _ ?_; refine ra ?_; exact ⟨g + 1, by simp [F], rfl⟩
  · obtain ⟨g', e1, e2⟩ := h
    exact .inl ⟨g', [], none, [], [], [], e1, by rw [e2]; simp⟩

theorem overlapsP {σ : St} {k1 g1 o1 n1 k2 g2 o2 n2 : Nat} {c1 c2 : List AV} {s1 s2 : Option Nat} (hne : k1 ≠ k2) (h1 : σ.rows[k1]? = some ⟨g1, c1, s1⟩) (h2 : σ.rows[k2]? = some ⟨g2, c2, s2⟩) :
    ExtA Try.prog 120 [.row k1 g1 o1 2 n1, .row k2 g2 o2 2 n2] σ (fun av _ => av = .v (.bool false)) :=
  overlaps_ext (tS := 119) (tR := 4) Try.func120 (by kernel_rfl) (by kernel_rfl) (by kernel_rfl) (by kernel_rfl) Try.underlying119 (ti_130) rfl (by decide) hne h1 rfl h2 rfl

set_option maxHeartbeats 1600000 in
attribute [local simp] undefA List.getElem?_cons_zero List.getElem?_cons_succ in
set_option maxHeartbeats 16000000 in
theorem insert_mid {σ : St} {k kv g gv i m : Nat} {A X B : List AV} {sv : Option Nat} (hr : σ.rows[k]? = some ⟨g, A ++ B, none⟩) (hv : σ.rows[kv]? = some ⟨gv, X, sv⟩) (hk : kv ≠ k) (hA : A.length = i * 2) (hX : X.length = 2) (hB : B.length = m * 2) (hm : 0 < m) (hn : i + m ≤ 1000000000) (hu : underL σ.bd (A ++ (X ++ B)) = true) :
    CallsA Try.prog 111 [.row k g 0 2 (i + m), .v (.int .i64 i), .row kv gv 0 2 1] σ (fun av σ' => ∃ g', av = .row k g' 0 2 (i + m + 1) ∧ σ' = { σ with rows := σ.rows.set k ⟨g', A ++ (X ++ B), none⟩ }) := by
  have hkl := lt_of_get hr
  have hvl := lt_of_get hv
  refine callsA_row_end (Q := fun av σ' => (∃ g' sp, av = .row k g' 0 2 (i + m + 1) ∧ σ' = { σ with rows := σ.rows.set k ⟨g', A ++ (X ++ B), sp⟩ }) ∨ (∃ r1 sp, av = .row σ.rows.length 0 0 2 (i + m + 1) ∧ σ' = { σ with rows := σ.rows.set k r1 ++ [⟨0, A ++ (X ++ B), sp⟩] })) ?_ hr (by simp [hA, hB, hX]; omega) hu (fun av σ' h => ?_)
  · have hs := fun x => set_self_of hr x
    have hvs : ∀ x, (σ.rows.set k x)[kv]? = some ⟨gv, X, sv⟩ := fun x => by rw [List.getElem?_set_ne (Ne.symm hk)]; exact hv
    have hT : List.take (i * 2) (A ++ B) = A := List.take_left' hA
    have hD : List.drop (i * 2) (A ++ B) = B := List.drop_left' hA
    have hT2 : List.take (m * 2) B = B := List.take_of_length_le (by omega)
    have hX2 : List.take 2 X = X := List.take_of_length_le (by omega)
    have hN1 : ((i : Int) + (m : Int)).toNat = i + m := by omega
    have hN2 : ((i : Int) + (m : Int) + 1).toNat = i + m + 1 := by omega
    have hw1 : IntKind.i64.wrap ((i : Int) + (m : Int) + 1) = ((i + m + 1 : Nat) : Int) := wrap_i64 _ (by omega) (by omega)
    have hw2 : IntKind.i64.wrap ((i : Int) + 1) = ((i + 1 : Nat) : Int) := wrap_i64 _ (by omega) (by omega)
    have hw3 : IntKind.i64.wrap ((i : Int) + (m : Int) + 1 - (i : Int)) = ((m + 1 : Nat) : Int) := by rw [wrap_i64 _ (by omega) (by omega)]; omega
    have hvs2 : ∀ r x, (σ.rows.set k r ++ [x])[kv]? = some ⟨gv, X, sv⟩ := fun r x => by rw [List.getElem?_append_left (by simpa using hvl)]; exact hvs r
    have hk1 : ∀ r x, (σ.rows.set k r ++ [x])[k]? = some r := fun r x => by rw [List.getElem?_append_left (by simpa using hkl)]; exact hs r
    have hn1 : ∀ r x, (σ.rows.set k r ++ [x])[σ.rows.length]? = some x := fun r x => by rw [List.getElem?_append_right (by simp)]; simp
    have hset1 : ∀ r x y, (σ.rows.set k r ++ [x]).set σ.rows.length y = σ.rows.set k r ++ [y] := fun r x y => by rw [List.set_append_right _ _ (by simp)]; simp
    have hTz : ∀ Z, List.take (i * 2) (A ++ Z) = A := fun Z => List.take_left' hA
    have hDz : ∀ Z, List.drop (i * 2) (A ++ Z) = Z := fun Z => List.drop_left' hA
    have hDz2 : ∀ Z, List.drop (i * 2 + 2) (A ++ Z) = List.drop 2 Z := fun Z => by rw [← List.drop_drop, hDz]
    have hT1 : ∀ Z, List.take ((i + 1) * 2) (A ++ Z) = A ++ List.take 2 Z := fun Z => by rw [show (i + 1) * 2 = A.length + 2 by omega, List.take_length_add_append]
    have hT2x : ∀ Z, List.take 2 (X ++ Z) = X := fun Z => List.take_left' hX
    have hDx : ∀ f : Nat → AV, List.drop ((i + 1) * 2 + m * 2) (A ++ (X ++ List.drop 2 (List.map f (List.range ((m + 1) * 2))))) = [] := fun f => List.drop_of_length_le (by simp [hA, hX]; omega)
    have hDx2 : ∀ E : List AV, E.length = 2 → List.drop ((i + 1) * 2 + m * 2) (A ++ (B ++ E)) = [] := fun E hE => List.drop_of_length_le (by simp [hA, hB, hE]; omega)
    have hDx3 := hDx2 [.any, .any] rfl
    have hN4 : (i + m + 1) * 2 - (i * 2 + m * 2) = 2 := by omega
    have hN5 : min 1 (m + 1) = 1 := by omega
    have hN6 : i + m + 1 - (i + 1) = m := by omega
    have hN7 : i + m + 1 - i = m + 1 := by omega
    have hN8 : min m (i + (m + 1) - (i + 1)) = m := by omega
    have hTB : ∀ E, List.take (m * 2) (B ++ E) = B := fun E => List.take_left' hB
    have hTB2 : List.take ((m + 1) * 2) (B ++ [.any, .any]) = B ++ [.any, .any] := List.take_of_length_le (by simp [hB]; omega)
    have hne : ((i : Int) == (i : Int) + (m : Int)) = false := by simp; omega
    have F := And.intro hr (And.intro hv (And.intro hA (And.intro hX (And.intro hB (And.intro hT (And.intro hD (And.intro hT2 (And.intro hX2 (And.intro hN1 (And.intro hN2 (And.intro hw1 (And.intro hw2 (And.intro hw3 (And.intro hne (True.intro)))))))))))))))
    refine callsA_body Try.func111 rfl rfl rfl ?_; refine sr fun _ hJ2 => ?_; refine hJ2 _ _ ?_; refine sr fun _ hJ4 => ?_; refine hJ4 _ _ ?_; refine sr fun _ hJ6 => ?_; refine hJ6 _ _ ?_; refine sq fun K7 hK7 => ?_; refine sr fun _ hJ9 => ?_; refine hJ9 _ _ ?_; refine cs (fun c16 => ?_) (fun c16 => ?_)
    · (try exact nope c16); all_goals have c16p := c16; try simp [F] at c16p
      all_goals
       replace F := aF c16 F; (try replace F := aF c16p F); refine sr fun _ hJ11 => ?_; refine hJ11 _ _ ?_; refine ra ?_; exact .inl ⟨g, _, by simp [F, Nat.add_assoc], rfl⟩
    (try exact nope c16); all_goals have c16p := c16; try simp [F] at c16p
    all_goals
     replace F := aF c16 F; (try replace F := aF c16p F); refine run_skip ?_; refine hK7 _ _ ?_; refine sr fun _ hJ13 => ?_; refine hJ13 _ _ ?_; refine sq fun K14 hK14 => ?_; refine sr fun _ hJ16 => ?_; refine hJ16 _ _ ?_; refine cf ?_; refine run_skip ?_; refine hK14 _ _ ?_; refine sq fun K17 hK17 => ?_; refine sq fun K18 hK18 => ?_; refine run_learnD 0 (kk := fun s q hsq hnq => ?_)
     have hql : i * 2 + m * 2 + s = q * 2 := by simp [hA, hB] at hsq; omega
     have hq1 : (i * 2 + m * 2 + s) % 2 = 0 := by omega
     have hq2 : ((i : Int) * 2 + (m : Int) * 2 + (s : Int)) / 2 = (q : Int) := by omega
     replace F := aF hs F; replace F := aF hvs F; replace F := aF hq1 F; replace F := aF hq2 F; replace F := aF hvs2 F; replace F := aF hk1 F; replace F := aF hn1 F; replace F := aF hset1 F; replace F := aF hTz F; replace F := aF hDz F; replace F := aF hDz2 F; replace F := aF hT1 F; replace F := aF hT2x F; replace F := aF hDx F; replace F := aF hDx3 F; replace F := aF hN4 F; replace F := aF hN5 F; replace F := aF hN6 F; replace F := aF hN7 F; replace F := aF hN8 F; replace F := aF hTB F; replace F := aF hTB2 F; refine rg' (h := fun J19 hJ19 => ?_); refine hJ19 _ _ ?_; refine hK18 _ _ ?_; refine cs (fun c31 => ?_) (fun c31 => ?_)
     · (try exact nope c31); all_goals have c31p := c31; try simp [F] at c31p
       all_goals
        replace F := aF c31 F; (try replace F := aF c31p F); refine sr fun _ hJ21 => ?_; refine hJ21 _ _ ?_; refine sr fun _ hJ23 => ?_; refine hJ23 _ _ ?_; refine sq fun K24 hK24 => ?_
        refine run_draw (by kernel_rfl) fun J25 hJ25 => ?_
        refine rp2 0 (k := ?_); refine rp2 1 (k := ?_); refine rp2 2 (k := ?_); refine rp2 3 (k := ?_); refine rp2 4 (k := ?_); refine rp2 5 (k := ?_); refine rp2 6 (k := ?_); refine rp2 7 (k := ?_); refine dop 8 rfl ?_; repeat (first | simp [F] | simp (disch := omega) only [wC, if_pos, if_neg])
        refine ⟨by first | exact fun _ _ h => h | (refine later_list [6, 5, 3, 2, 1, 0] (by kernel_rfl) (List.forall_mem_cons.2 ⟨fun _ => fact2 rfl rfl ?_, List.forall_mem_cons.2 ⟨fun _ => fact2 rfl rfl ?_, List.forall_mem_cons.2 ⟨fun _ => fact2 rfl rfl ?_, List.forall_mem_cons.2 ⟨fun _ => fact2 rfl rfl ?_, List.forall_mem_cons.2 ⟨fun _ => fact2 rfl rfl ?_, List.forall_mem_cons.2 ⟨fun _ => fact2 rfl rfl ?_, fun _ h => absurd h List.not_mem_nil⟩⟩⟩⟩⟩⟩) <;> constructor <;> first | rfl | (simp [F]; done)), ?_⟩
        refine dd ?_; refine hJ25 _ _ ?_; refine hK24 _ _ ?_; refine sr fun _ hJ27 => ?_; refine hJ27 _ _ ?_; refine ra ?_; exact .inr ⟨_, none, by simp [F, Nat.add_assoc], rfl⟩
     (try exact nope c31); all_goals have c31p := c31; try simp [F] at c31p
     all_goals
      replace F := aF c31 F; (try replace F := aF c31p F); refine run_skip ?_; refine hK17 _ _ ?_; refine sr fun _ hJ29 => ?_; refine hJ29 _ _ ?_; refine sq fun K30 hK30 => ?_; refine sr fun _ hJ32 => ?_
      refine ce (c := overlapsP (g1 := gv) (n1 := 1) (o1 := 0) (g2 := g) (o2 := (i + 1) * 2) (n2 := m) hk (by simp [F]; first | done | exact ⟨rfl, rfl⟩) (by simp [F]; first | done | exact ⟨rfl, rfl⟩)) (k := ?_)
      rintro _ _ rfl rfl; (repeat (first | simp [F] | simp (disch := omega) only [wC, if_pos, if_neg])); refine hJ32 _ _ ?_; refine ct ?_; refine sq fun K33 hK33 => ?_
      refine run_draw (by kernel_rfl) fun J34 hJ34 => ?_
      refine rp2 0 (k := ?_); refine rp2 1 (k := ?_); refine rp2 2 (k := ?_); refine rp2 3 (k := ?_); refine rp2 4 (k := ?_); refine rp2 5 (k := ?_); refine rp2 6 (k := ?_); refine rp2 7 (k := ?_); refine dop 8 rfl ?_; repeat (first | simp [F] | simp (disch := omega) only [wC, if_pos, if_neg])
      refine ⟨by first | exact fun _ _ h => h | (refine later_list [6, 5, 3, 2, 1, 0] (by kernel_rfl) (List.forall_mem_cons.2 ⟨fun _ => fact2 rfl rfl ?_, List.forall_mem_cons.2 ⟨fun _ => fact2 rfl rfl ?_, List.forall_mem_cons.2 ⟨fun _ => fact2 rfl rfl ?_, List.forall_mem_cons.2 ⟨fun _ => fact2 rfl rfl ?_, List.forall_mem_cons.2 ⟨fun _ => fact2 rfl rfl ?_, List.forall_mem_cons.2 ⟨fun _ => fact2 rfl rfl ?_, fun _ h => absurd h List.not_mem_nil⟩⟩⟩⟩⟩⟩) <;> constructor <;> first | rfl | (simp [F]; done)), ?_⟩
      refine dd ?_; refine hJ34 _ _ ?_; refine hK33 _ _ ?_; refine sr fun _ hJ36 => ?_; refine hJ36 _ _ ?_; refine sr fun _ hJ38 => ?_; refine hJ38 _ _ ?_; refine ra ?_; exact .inl ⟨g, _, by simp [F, Nat.add_assoc], rfl⟩
  · rcases h with ⟨g', sp, e1, e2⟩ | ⟨r1, sp, e1, e2⟩
    · exact .inl ⟨g', [], sp, [], [], [], e1, by rw [e2]; simp⟩
    · exact .inr ⟨_, sp, [], [], r1, 0, [], e1, by rw [e2]; simp, rfl⟩

end Go.Proofs.Ytlkajgjaidedkaa

/-
  A store: a pair is put, or none of that key; what was there is told.
-/
namespace Go.Proofs.Ytlkajgjaidedkaa
set_option linter.unnecessarySimpa false
set_option maxRecDepth 100000
open Go Go.Vm
set_option linter.unusedSimpArgs false
set_option linter.unusedVariables false
attribute [local simp] evalL wantedA isCall opA evalA evalAll evalsA evalOpt ofValue ofCell plain binA_eql_pn binA_neq_pn binA_gtr binA_lss binA_geq binA_leq binA_add binA_sub binA_eql binA_neq binA_orI binA_shl binA_shr binA_mul binA_quo binA_rem binA_agg_eql binA_agg_neq convA_int unA_not fieldAddrA loadA partA pickA_true pickA_false pickA_bb lenA builtinA storeA splice AV.cells AV.isCell sliceA boundA intA callOf indexAddrA newObjA buildA fillA zeroA ofCells buildSliceA indexA fieldA set_appN get_appN take_appN List.getElem?_cons_zero List.getElem?_cons_succ get_sa0 get_sa1 get_sa2 get_sa3 set_sa0 set_sa1 set_sa2 set_sa3

theorem prsC_app (l m : List Pr) : prsC (l ++ m) = prsC l ++ prsC m := by simp [prsC]
theorem prsC_take (l : List Pr) (i : Nat) : List.take (i * 2) (prsC l) = prsC (l.take i) := by
  by_cases h : i ≤ l.length
  · conv => lhs; rw [← List.take_append_drop i l, prsC_app]
    exact List.take_left' (by rw [prsC_len, List.length_take, Nat.min_eq_left h])
  · rw [List.take_of_length_le (by rw [prsC_len]; omega), List.take_of_length_le (by omega)]
theorem prsC_drop (l : List Pr) (i : Nat) : List.drop (i * 2) (prsC l) = prsC (l.drop i) := by
  by_cases h : i ≤ l.length
  · conv => lhs; rw [← List.take_append_drop i l, prsC_app]
    exact List.drop_left' (by rw [prsC_len, List.length_take, Nat.min_eq_left h])
  · rw [List.drop_of_length_le (by rw [prsC_len]; omega), List.drop_of_length_le (by omega)]; rfl
theorem prsC_set {l : List Pr} {i : Nat} (h : i < l.length) (p : Pr) : List.take (i * 2) (prsC l) ++ byC p.k :: byC p.v :: List.drop (i * 2 + 2) (prsC l) = prsC (l.set i p) := by
  rw [show i * 2 + 2 = (i + 1) * 2 by omega, prsC_take, prsC_drop, List.set_eq_take_append_cons_drop, if_pos h, prsC_app]
  rfl
theorem prsC_cut {l : List Pr} {i : Nat} (h : i < l.length) : prsC l = prsC (l.take i) ++ (prC l[i] ++ prsC (l.drop (i + 1))) := by
  conv => lhs; rw [← List.take_append_drop i l, prsC_app, List.drop_eq_getElem_cons h]
  rfl
theorem prsC_cut0 (l : List Pr) (i : Nat) : prsC l = prsC (l.take i) ++ prsC (l.drop i) := by
  conv => lhs; rw [← List.take_append_drop i l, prsC_app]
theorem delP_ok {σ : St} {k g i : Nat} {l : List Pr} (hr : σ.rows[k]? = some ⟨g, prsC l, none⟩) (hi : i < l.length) (hn : l.length ≤ 1000000) :
    CallsA Try.prog 110 [.row k g 0 2 l.length, .v (.int .i64 i), .v (.int .i64 ((i : Int) + 1))] σ (fun av σ' => ∃ g', av = .row k g' 0 2 (l.length - 1) ∧ σ' = { σ with rows := σ.rows.set k ⟨g', prsC (l.take i ++ l.drop (i + 1)), none⟩ }) := by
  rw [prsC_cut hi] at hr
  have := delete_ok (i := i) (m := l.length - i - 1) hr (by simp [prsC_len]; omega) rfl (by simp [prsC_len]; omega) (by omega) (by rw [← prsC_app]; exact prsC_under _ _)
  rw [← prsC_app, show i + 1 + (l.length - i - 1) = l.length by omega, show i + (l.length - i - 1) = l.length - 1 by omega] at this
  exact this
theorem insP_ok {σ : St} {k kv g gv i : Nat} {l : List Pr} {p : Pr} {sv : Option Nat} (hr : σ.rows[k]? = some ⟨g, prsC l, none⟩) (hv : σ.rows[kv]? = some ⟨gv, prC p, sv⟩) (hk : kv ≠ k) (hi : i ≤ l.length) (hn : l.length ≤ 1000000) :
    CallsA Try.prog 111 [.row k g 0 2 l.length, .v (.int .i64 i), .row kv gv 0 2 1] σ (fun av σ' => ∃ g', av = .row k g' 0 2 (l.length + 1) ∧ σ' = { σ with rows := σ.rows.set k ⟨g', prsC (l.take i ++ p :: l.drop i), none⟩ }) := by
  have e : prsC (l.take i ++ p :: l.drop i) = prsC (l.take i) ++ (prC p ++ prsC (l.drop i)) := by rw [prsC_app]; rfl
  by_cases h0 : i = l.length
  · subst h0
    have := insert_end (i := l.length) hr hv (by simp [prsC_len]) rfl (by omega) (by have := prsC_under σ.bd (l ++ [p]); rw [prsC_app] at this; simpa [prsC] using this)
    rw [e, List.take_length, List.drop_length]
    simpa [prsC] using this
  · rw [prsC_cut0 l i] at hr
    have := insert_mid (i := i) (m := l.length - i) hr hv hk (by simp [prsC_len]; omega) rfl (by simp [prsC_len]) (by omega) (by omega) (by rw [← e]; exact prsC_under _ _)
    rw [← e, show i + (l.length - i) = l.length by omega] at this
    exact this
theorem getL_some_at {l : List Pr} {key v : List UInt8} (hs : Srt l) (h : getL l key = some v) : ∃ h : findL l key < l.length, (l[findL l key]).k = key ∧ (l[findL l key]).v = v := by
  rw [findL_get hs] at h
  split at h
  · rename_i p hp
    obtain ⟨h1, h2⟩ := List.getElem?_eq_some_iff.1 hp
    split at h
    · rename_i hk
      exact ⟨h1, by rw [h2]; exact hk, by rw [h2]; exact Option.some.inj h⟩
    · cases h
  · cases h

set_option maxHeartbeats 1600000 in
attribute [local simp] undefA List.getElem?_cons_zero List.getElem?_cons_succ byC in
theorem put_ok {σ : St} {o k : Nat} {G : Sg} {key val : List UInt8} {is : Bool} (h : HasS σ o k G) (hs : Srt G.s.l) (hl : G.s.l.length ≤ 1000000) :
    CallsA Try.prog 83 [.ptr o 0, .agg [byC key, byC val], .v (.bool is)] σ (fun av σ' => ∃ g, av = .agg (udC ⟨key, getL G.s.l key⟩) ∧ σ' = putS σ o k ⟨⟨setL G.s.l key (if is then some val else none), G.s.log, G.s.marks⟩, g, G.g2, G.g3⟩) := by
  refine callsA_gcSt (X := Nat) (T := fun g => ⟨⟨setL G.s.l key (if is then some val else none), G.s.log, G.s.marks⟩, g, G.g2, G.g3⟩) h (fun _ => by simp [AV.under, udC_under]) ?_
  have hp1 := fun l' g' => putS_1 h l' g'
  have hfi := fun L m => find_ok (key := key) (t := .shut) (h.app L m) hs (by omega)
  have hbd := prsC_under σ.bd
  have hset := setL_at (k := key) (o := if is then some val else none) hs
  have hgat : ∀ v, getL G.s.l key = some v → _ := fun v h => getL_some_at (key := key) (v := v) hs h
  have hhas : hasL G.s.l key = (getL G.s.l key).isSome := rfl
  have hlo := lt_of_get h.o
  have hlr := lt_of_get h.r1
  obtain ⟨ho, hr1, hr2, hr3⟩ := h
  obtain ⟨⟨l, log, marks⟩, g1, g2, g3⟩ := G
  simp only [stC, stR1, stR2, stR3] at ho hr1 hr2 hr3 hl hp1 hset hgat hhas hfi ⊢
  have ha : ∀ L, (σ.objs ++ L)[o]? = some [.row k g1 0 2 l.length, .row (k + 1) g2 0 3 log.length, .row (k + 2) g3 0 1 marks.length] := fun L => by rw [List.getElem?_append_left hlo]; exact ho
  have hb : ∀ x L, (σ.objs ++ L).set o x = σ.objs.set o x ++ L := fun x L => List.set_append_left _ _ hlo
  have hc : ∀ x L, (σ.objs.set o x ++ L)[o]? = some x := fun x L => by rw [List.getElem?_append_left (by simpa using hlo)]; exact set_self_of ho x
  have hle := findL_le l key
  obtain ⟨i, hi⟩ : ∃ i, i = findL l key := ⟨_, rfl⟩
  obtain ⟨q, hq⟩ : ∃ q, q = getL l key := ⟨_, rfl⟩
  simp only [← hi, ← hq] at hset hgat hhas hfi hle
  obtain ⟨b, hbb⟩ : ∃ b, b = hasL l key := ⟨_, rfl⟩
  simp only [← hbb] at hfi hhas
  have hda : ∀ (x : RowSt) L, (σ.rows.set k x ++ L)[k]? = some x := fun x L => by rw [List.getElem?_append_left (by simpa using hlr)]; exact set_self_of hr1 x
  have hdb : ∀ L, (σ.rows ++ L)[k]? = some ⟨g1, prsC l, none⟩ := fun L => by rw [List.getElem?_append_left hlr]; exact hr1
  have hdc : ∀ (x : RowSt) L, (σ.rows ++ L).set k x = σ.rows.set k x ++ L := fun x L => List.set_append_left _ _ hlr
  have hso := set_same' ho
  have hsr := set_same' hr1
  have F := And.intro ha (And.intro hb (And.intro hc (And.intro hr1 (And.intro hda (And.intro hdb (And.intro hdc (And.intro hso (And.intro hsr (True.intro)))))))))
  refine callsA_body Try.func83 rfl rfl rfl ?_; refine sr fun _ hJ2 => ?_; refine hJ2 _ _ ?_; refine sr fun _ hJ4 => ?_; refine ca (c := hfi _ _) (k := ?_); rintro _ _ ⟨rfl, rfl⟩; (repeat (first | simp [F] | simp (disch := omega) only [wC, if_pos, if_neg])); refine hJ4 _ _ ?_; refine sr fun _ hJ6 => ?_; refine hJ6 _ _ ?_; refine sq fun K7 hK7 => ?_; refine run_block_k ?_; refine sr fun _ hJ9 => ?_; refine gs 24 (fun g3_1 => ?_) (fun g3_1 => ?_)
  · (try exact nope g3_1); all_goals have g3_1p := g3_1; try simp [F] at g3_1p
    all_goals
     replace F := aF g3_1 F; try replace F := aF g3_1p F
     obtain ⟨v, hv⟩ : ∃ v, q = some v := Option.isSome_iff_exists.1 (by rw [← hhas]; simpa using g3_1)
     obtain ⟨hil, hik, hiv⟩ := hgat v hv
     have hat := prsC_at hil
     rw [hiv] at hat
     have hat2 := hat.2
     have hpl := prsC_len l
     have hi2 : i * 2 + 2 ≤ l.length * 2 := by omega
     have hps := prsC_set hil ⟨key, val⟩
     simp only [byC] at hat2 hps
     replace F := aF hil (And.intro hat2 (And.intro hpl (And.intro hi2 F))); refine go2 (k := ?_); refine hJ9 _ _ ?_; refine cs (fun c22 => ?_) (fun c22 => ?_)
     · (try exact nope c22); all_goals have c22p := c22; try simp [F] at c22p
       all_goals
        replace F := aF c22 F; try replace F := aF c22p F
        have his : is = true := by simpa using c22
        have hS : setL l key (if is then some val else none) = l.set i ⟨key, val⟩ := by rw [hset, hv, his]; rfl
        replace F := aF hps F
        refine run_draw (by kernel_rfl) fun J10 hJ10 => ?_
        refine rp2 0 (k := ?_); refine rp2 1 (k := ?_); refine rp2 2 (k := ?_); refine rp2 3 (k := ?_); refine rp2 4 (k := ?_); refine rp2 5 (k := ?_); refine rp2 6 (k := ?_); refine rp2 7 (k := ?_); refine rp2 8 (k := ?_); refine rp2 9 (k := ?_); refine rp2 10 (k := ?_); refine rp2 11 (k := ?_); refine rp2 12 (k := ?_); refine rp2 13 (k := ?_); refine rp2 14 (k := ?_); refine rp2 15 (k := ?_); refine dop 16 rfl ?_; repeat (first | simp [F] | simp (disch := omega) only [wC, if_pos, if_neg])
        refine ⟨by first | exact fun _ _ h => h | (refine later_list [14, 13, 4, 3, 2, 1, 0] (by kernel_rfl) (List.forall_mem_cons.2 ⟨fun _ => fact2 rfl rfl ?_, List.forall_mem_cons.2 ⟨fun _ => fact2 rfl rfl ?_, List.forall_mem_cons.2 ⟨fun _ => fact2 rfl rfl ?_, List.forall_mem_cons.2 ⟨fun _ => fact2 rfl rfl ?_, List.forall_mem_cons.2 ⟨fun _ => fact2 rfl rfl ?_, List.forall_mem_cons.2 ⟨fun _ => fact2 rfl rfl ?_, List.forall_mem_cons.2 ⟨fun _ => fact2 rfl rfl ?_, fun _ h => absurd h List.not_mem_nil⟩⟩⟩⟩⟩⟩⟩) <;> constructor <;> first | rfl | (simp [F]; done)), ?_⟩
        refine rp2 17 (k := ?_); refine dop 18 rfl ?_; (repeat (first | simp [F] | simp (disch := omega) only [wC, if_pos, if_neg])); refine ⟨ln, ?_⟩; refine dd ?_; refine hJ10 _ _ ?_; refine hK7 _ _ ?_; refine sr fun _ hJ12 => ?_; refine hJ12 _ _ ?_; refine run_ret ?_; (try simp only [Then, InBlock, NoGoto]); refine acell (h := ?_); refine ⟨g1, ?_⟩
        rw [hp1, hS, ← hq, hv]
        exact gcr
     (try exact nope c22); all_goals have c22p := c22; try simp [F] at c22p
     all_goals
      replace F := aF c22 F; try replace F := aF c22p F
      have his : is = false := by simpa using c22
      have hS : setL l key (if is then some val else none) = l.take i ++ l.drop (i + 1) := by rw [hset, hv, his]; rfl
      have hlen : (l.take i ++ l.drop (i + 1)).length = l.length - 1 := by simp; omega
      replace F := aF hlen F; refine sr fun _ hJ14 => ?_; refine hJ14 _ _ ?_; refine ct ?_; refine sr fun _ hJ16 => ?_; refine hJ16 _ _ ?_; refine rg' (h := fun J17 hJ17 => ?_); refine ca (c := delP_ok (i := i) (l := l) (g := g1) (k := k) st hil hl) (k := ?_); rintro _ _ ⟨g', rfl, rfl⟩; (repeat (first | simp [F] | simp (disch := omega) only [wC, if_pos, if_neg])); refine hJ17 _ _ ?_; refine hK7 _ _ ?_; refine sr fun _ hJ19 => ?_; refine hJ19 _ _ ?_; refine run_ret ?_; (try simp only [Then, InBlock, NoGoto]); refine acell (h := ?_); refine ⟨g', ?_⟩
      rw [hp1, hS, ← hq, hv]
      exact gcr
  (try exact nope g3_1); all_goals have g3_1p := g3_1; try simp [F] at g3_1p
  all_goals
   replace F := aF g3_1 F; try replace F := aF g3_1p F
   have hv : q = none := by cases q with | none => rfl | some v => simp [hhas] at g3_1
   refine no2 (k := ?_); refine hJ9 _ _ ?_; refine cf ?_; refine sr fun _ hJ21 => ?_; refine hJ21 _ _ ?_; refine cf ?_; refine sr fun _ hJ23 => ?_; refine hJ23 _ _ ?_; refine cs (fun c67 => ?_) (fun c67 => ?_)
   · (try exact nope c67); all_goals have c67p := c67; try simp [F] at c67p
     all_goals
      replace F := aF c67 F; try replace F := aF c67p F
      have his : is = true := by simpa using c67
      have hS : setL l key (if is then some val else none) = l.take i ++ ⟨key, val⟩ :: l.drop i := by rw [hset, hv, his]; rfl
      have hlen : (l.take i ++ (⟨key, val⟩ : Pr) :: l.drop i).length = l.length + 1 := by simp; omega
      replace F := aF hlen F
      refine run_draw (by kernel_rfl) fun J24 hJ24 => ?_
      refine rp2 0 (k := ?_); refine rp2 1 (k := ?_); refine rp2 2 (k := ?_); refine rp2 3 (k := ?_); refine rp2 4 (k := ?_); refine rp2 5 (k := ?_); refine rp2 6 (k := ?_); refine db 7 rfl rfl (k := ?_)
      refine ⟨by first | exact fun _ _ h => h | (refine later_list [5, 4, 3, 2, 1, 0] (by kernel_rfl) (List.forall_mem_cons.2 ⟨fun _ => fact2 rfl rfl ?_, List.forall_mem_cons.2 ⟨fun _ => fact2 rfl rfl ?_, List.forall_mem_cons.2 ⟨fun _ => fact2 rfl rfl ?_, List.forall_mem_cons.2 ⟨fun _ => fact2 rfl rfl ?_, List.forall_mem_cons.2 ⟨fun _ => fact2 rfl rfl ?_, List.forall_mem_cons.2 ⟨fun _ => fact2 rfl rfl ?_, fun _ h => absurd h List.not_mem_nil⟩⟩⟩⟩⟩⟩) <;> constructor <;> first | rfl | (simp [F]; done)), ?_⟩
      repeat (first | simp [F] | simp (disch := omega) only [wC, if_pos, if_neg])
      refine dc 8 rfl (c := insP_ok (i := i) (l := l) (g := g1) (k := k) (kv := σ.rows.length) (gv := 0) (p := ⟨key, val⟩) (sv := none) st (by simp [F]; rfl) (by omega) hle hl) (k := ?_)
      rintro _ _ ⟨g', rfl, rfl⟩
      refine ⟨by first | exact fun _ _ h => h | (refine later_list [3, 2, 1, 0] (by kernel_rfl) (List.forall_mem_cons.2 ⟨fun _ => fact2 rfl rfl ?_, List.forall_mem_cons.2 ⟨fun _ => fact2 rfl rfl ?_, List.forall_mem_cons.2 ⟨fun _ => fact2 rfl rfl ?_, List.forall_mem_cons.2 ⟨fun _ => fact2 rfl rfl ?_, fun _ h => absurd h List.not_mem_nil⟩⟩⟩⟩) <;> constructor <;> first | rfl | (simp [F]; done)), ?_⟩
      (repeat (first | simp [F] | simp (disch := omega) only [wC, if_pos, if_neg])); refine rp2 9 (k := ?_); refine rp2 10 (k := ?_); refine dop 11 rfl ?_; repeat (first | simp [F] | simp (disch := omega) only [wC, if_pos, if_neg])
      refine ⟨by first | exact fun _ _ h => h | (refine later_list [9] (by kernel_rfl) (List.forall_mem_cons.2 ⟨fun _ => fact2 rfl rfl ?_, fun _ h => absurd h List.not_mem_nil⟩) <;> constructor <;> first | rfl | (simp [F]; done)), ?_⟩
      refine dd ?_; refine hJ24 _ _ ?_; refine hK7 _ _ ?_; refine sr fun _ hJ26 => ?_; refine hJ26 _ _ ?_; refine run_ret ?_; (try simp only [Then, InBlock, NoGoto]); refine acell (h := ?_); refine ⟨g', ?_⟩
      rw [hp1, hS, ← hq, hv]
      exact gcr (hA := WkL.agg (.cons (Wk.refl _) (.cons (Wk.nil _ _ _) (.cons (Wk.refl _) .nil))))
   (try exact nope c67); all_goals have c67p := c67; try simp [F] at c67p
   all_goals
    replace F := aF c67 F; try replace F := aF c67p F
    have his : is = false := by simpa using c67
    have hS : setL l key (if is then some val else none) = l := by rw [hset, hv, his]; rfl
    refine run_skip ?_; refine hK7 _ _ ?_; refine sr fun _ hJ28 => ?_; refine hJ28 _ _ ?_; refine run_ret ?_; (try simp only [Then, InBlock, NoGoto]); refine acell (h := ?_); refine ⟨g1, ?_⟩
    rw [hp1, hS, ← hq, hv]
    exact gcr (hA := WkL.agg (.cons (Wk.refl _) (.cons (Wk.nil _ _ _) (.cons (Wk.refl _) .nil))))

end Go.Proofs.Ytlkajgjaidedkaa

/-
  A store: a pair is put, and what was there is noted.
-/
namespace Go.Proofs.Ytlkajgjaidedkaa
set_option linter.unnecessarySimpa false
set_option maxRecDepth 100000
open Go Go.Vm
set_option linter.unusedSimpArgs false
set_option linter.unusedVariables false
attribute [local simp] evalL wantedA isCall opA evalA evalAll evalsA evalOpt ofValue ofCell plain binA_eql_pn binA_neq_pn binA_gtr binA_lss binA_geq binA_leq binA_add binA_sub binA_eql binA_neq binA_orI binA_shl binA_shr binA_mul binA_quo binA_rem binA_agg_eql binA_agg_neq convA_int unA_not fieldAddrA loadA partA pickA_true pickA_false pickA_bb lenA builtinA storeA splice AV.cells AV.isCell sliceA boundA intA callOf indexAddrA newObjA buildA fillA zeroA ofCells buildSliceA indexA fieldA set_appN get_appN take_appN List.getElem?_cons_zero List.getElem?_cons_succ get_sa0 get_sa1 get_sa2 get_sa3 set_sa0 set_sa1 set_sa2 set_sa3 appendA rowAppA readA roomA maxLen zeroCell Value.oneCell' Value.cells

theorem put_app {σ : St} {o k : Nat} {G : Sg} {key val : List UInt8} {is : Bool} (h : HasS σ o k G) (hs : Srt G.s.l) (hl : G.s.l.length ≤ 1000000) (L : List (List AV)) :
    CallsA Try.prog 83 [.ptr o 0, .agg [byC key, byC val], .v (.bool is)] { σ with objs := σ.objs ++ L } (fun av σ' => ∃ g, av = .agg (udC ⟨key, getL G.s.l key⟩) ∧ σ' = { σ with objs := σ.objs.set o [.row k g 0 2 (setL G.s.l key (if is then some val else none)).length, .row (k + 1) G.g2 0 3 G.s.log.length, .row (k + 2) G.g3 0 1 G.s.marks.length] ++ L, rows := σ.rows.set k ⟨g, prsC (setL G.s.l key (if is then some val else none)), none⟩ }) :=
  callsA_mono (put_ok (h.app L σ.toks) hs hl) (fun av σ' ⟨g, e1, e2⟩ => ⟨g, e1, by rw [e2, putS_1 (h.app L σ.toks)]; simp only; rw [List.set_append_left _ _ (lt_of_get h.o)]⟩)

set_option maxHeartbeats 1600000 in
attribute [local simp] undefA List.getElem?_cons_zero List.getElem?_cons_succ byC drop_mr in
theorem do_ok {σ : St} {o k n : Nat} {G : Sg} {key val : List UInt8} {is : Bool} (h : HasS σ o k G) (hG : G.s.Ok n) (hn : n ≤ 1000000) :
    CallsA Try.prog 79 [.ptr o 0, .agg [byC key, byC val], .v (.bool is)] σ (fun av σ' => ∃ G', G'.s = doS G.s key (if is then some val else none) ∧ av = .tup [] ∧ σ' = putS σ o k G') := by
  refine callsA_mono (callsA_gcSt (X := Nat × Nat) (A := fun _ => .tup []) (T := fun x => ⟨doS G.s key (if is then some val else none), x.1, x.2, G.g3⟩) h (fun _ => rfl) ?_) (fun av σ' ⟨x, e1, e2⟩ => ⟨_, rfl, e1, e2⟩)
  have hpa := put_app (key := key) (val := val) (is := is) h hG.srt (Nat.le_trans hG.l hn)
  have hp2 := fun l lg g g' => putS_2 h l lg g g'
  have hlo := lt_of_get h.o
  have hlr := lt_of_get h.r1
  have hlr2 := lt_of_get h.r2
  have hll := hG.log
  obtain ⟨ho, hr1, hr2, hr3⟩ := h
  obtain ⟨⟨l, log, marks⟩, g1, g2, g3⟩ := G
  simp only [stC, stR1, stR2, stR3, doS] at ho hr1 hr2 hr3 hp2 hpa hll ⊢
  have ha : ∀ x L, (σ.objs.set o x ++ L)[o]? = some x := fun x L => by rw [List.getElem?_append_left (by simpa using hlo)]; exact set_self_of ho x
  have hb : ∀ x y L, (σ.objs.set o x ++ L).set o y = σ.objs.set o y ++ L := fun x y L => by rw [List.set_append_left _ _ (by simpa using hlo), List.set_set]
  have hc : ∀ x, (σ.rows.set k x)[k + 1]? = some ⟨g2, udsC log, none⟩ := fun x => by rw [List.getElem?_set_ne (by omega)]; exact hr2
  have hsr : ∀ x, (σ.rows.set k x).set (k + 1) ⟨g2, udsC log, none⟩ = σ.rows.set k x := fun x => set_same' (hc x)
  have hul := udsC_len log
  have hut : List.take (log.length * 3) (udsC log) = udsC log := List.take_of_length_le (by omega)
  have hrm : (log.length + 1) * 56 ≤ 140737488355328 := by omega
  have hmx : log.length + 1 ≤ 9223372036854775807 := by omega
  have hua : udsC (log ++ [⟨key, getL l key⟩]) = udsC log ++ udC ⟨key, getL l key⟩ := by rw [udsC_app]; simp [udsC]
  obtain ⟨q, hq⟩ : ∃ q, q = getL l key := ⟨_, rfl⟩
  obtain ⟨l', hl'⟩ : ∃ l', l' = setL l key (if is then some val else none) := ⟨_, rfl⟩
  simp only [← hq, ← hl'] at hpa hua ⊢
  simp only [udC] at hpa hua
  have F := And.intro ha (And.intro hb (And.intro hc (And.intro hul (And.intro hut (And.intro hrm (And.intro hmx (And.intro hsr (True.intro))))))))
  refine callsA_body Try.func79 rfl rfl rfl ?_; refine sr fun _ hJ2 => ?_; refine hJ2 _ _ ?_; refine sq fun K3 hK3 => ?_; refine sr fun _ hJ5 => ?_; refine hJ5 _ _ ?_; refine cf ?_; refine run_skip ?_; refine hK3 _ _ ?_; refine sr fun _ hJ7 => ?_; refine ca (c := hpa _) (k := ?_); rintro _ _ ⟨g, rfl, rfl⟩; (repeat (first | simp [F] | simp (disch := omega) only [wC, if_pos, if_neg])); refine hJ7 _ _ ?_; refine sr fun _ hJ9 => ?_; refine hJ9 _ _ ?_; refine cs (fun c18 => ?_) (fun c18 => ?_)
  · (try exact nope c18); all_goals have c18p := c18; try simp [F] at c18p
    all_goals
     replace F := aF c18 F; try replace F := aF c18p F
     have hm : marks ≠ [] := by have h := c18; simp at h; exact List.length_pos_iff.1 h
     refine run_draw (by kernel_rfl) fun J10 hJ10 => ?_
     refine rp2 0 (k := ?_); refine rp2 1 (k := ?_); refine rp2 2 (k := ?_); refine rp2 3 (k := ?_); refine rp2 4 (k := ?_); refine rp2 5 (k := ?_); refine rp2 6 (k := ?_); refine dop 7 rfl ?_; repeat (first | simp [F] | simp (disch := omega) only [wC, if_pos, if_neg])
     refine ⟨by first | exact fun _ _ h => h | (refine later_list [5, 3, 2, 1, 0] (by kernel_rfl) (List.forall_mem_cons.2 ⟨fun _ => fact2 rfl rfl ?_, List.forall_mem_cons.2 ⟨fun _ => fact2 rfl rfl ?_, List.forall_mem_cons.2 ⟨fun _ => fact2 rfl rfl ?_, List.forall_mem_cons.2 ⟨fun _ => fact2 rfl rfl ?_, List.forall_mem_cons.2 ⟨fun _ => fact2 rfl rfl ?_, fun _ h => absurd h List.not_mem_nil⟩⟩⟩⟩⟩) <;> constructor <;> first | rfl | (simp [F]; done)), ?_⟩
     refine rp2 8 (k := ?_); refine rp2 9 (k := ?_); refine dop 10 rfl ?_; repeat (first | simp [F] | simp (disch := omega) only [wC, if_pos, if_neg])
     refine ⟨by first | exact fun _ _ h => h | (refine later_list [8] (by kernel_rfl) (List.forall_mem_cons.2 ⟨fun _ => fact2 rfl rfl ?_, fun _ h => absurd h List.not_mem_nil⟩) <;> constructor <;> first | rfl | (simp [F]; done)), ?_⟩
     refine dd ?_; refine hJ10 _ _ ?_; (try simp only [Then, InBlock, NoGoto, if_true]); refine answer_none rfl (.inl rfl) ?_; refine ⟨(g, g2 + 1), ?_⟩; simp only [if_neg hm]
     rw [hp2, hua]
     exact gcr
  (try exact nope c18); all_goals have c18p := c18; try simp [F] at c18p
  all_goals
   replace F := aF c18 F; try replace F := aF c18p F
   have hm : marks = [] := by have h := c18; simp at h; exact h
   refine run_skip ?_; (try simp only [Then, InBlock, NoGoto, if_true]); refine answer_none rfl (.inl rfl) ?_; refine ⟨(g, g2), ?_⟩; simp only [if_pos hm]
   rw [hp2, hsr]
   exact gcr

end Go.Proofs.Ytlkajgjaidedkaa

/-
  A store: what its methods do.
-/
namespace Go.Proofs.Ytlkajgjaidedkaa
set_option linter.unnecessarySimpa false
set_option maxRecDepth 100000
open Go Go.Vm
set_option linter.unusedSimpArgs false
set_option linter.unusedVariables false
attribute [local simp] evalL wantedA isCall opA evalA evalAll evalsA evalOpt ofValue ofCell plain binA_eql_pn binA_neq_pn binA_gtr binA_lss binA_geq binA_leq binA_add binA_sub binA_eql binA_neq binA_orI binA_shl binA_shr binA_mul binA_quo binA_rem binA_agg_eql binA_agg_neq convA_int unA_not fieldAddrA loadA partA pickA_true pickA_false pickA_bb lenA builtinA storeA splice AV.cells AV.isCell sliceA boundA intA callOf indexAddrA newObjA buildA fillA zeroA ofCells buildSliceA indexA fieldA set_appN get_appN take_appN List.getElem?_cons_zero List.getElem?_cons_succ get_sa0 get_sa1 get_sa2 get_sa3 set_sa0 set_sa1 set_sa2 set_sa3 appendA rowAppA readA roomA maxLen zeroCell Value.oneCell' Value.cells sliceRowA binA_eqn binA_neqn drop_mr

set_option maxHeartbeats 1600000 in
attribute [local simp] undefA List.getElem?_cons_zero List.getElem?_cons_succ in
theorem set_ok {σ : St} {o k n : Nat} {G : Sg} {key val : List UInt8} {t1 t2 : Tail} (h : HasS σ o k G) (hG : G.s.Ok n) (hn : n ≤ 1000000) (hk : key.length ≤ 1000000) (hv : val.length ≤ 1000000) :
    CallsA Try.prog 33 [.ptr o 0, .sl 1 (bytesA key) key.length t1, .sl 1 (bytesA val) val.length t2] σ (fun av σ' => ∃ G', G'.s = doS G.s key (some val) ∧ av = .tup [] ∧ σ' = putS σ o k G') := by
  have F := True.intro
  refine callsA_body Try.func33 rfl rfl rfl ?_; refine rg' (h := fun J1 hJ1 => ?_); refine ca (c := clone_ok hk) (k := ?_); rintro _ _ ⟨rfl, rfl⟩; (repeat (first | simp [F] | simp (disch := omega) only [wC, if_pos, if_neg])); refine ca (c := clone_ok hv) (k := ?_); rintro _ _ ⟨rfl, rfl⟩; (repeat (first | simp [F] | simp (disch := omega) only [wC, if_pos, if_neg])); refine ca (c := do_ok (key := key) (val := val) (is := true) h hG hn) (k := ?_); rintro _ _ ⟨G', e1, rfl, rfl⟩; (repeat (first | simp [F] | simp (disch := omega) only [wC, if_pos, if_neg])); refine hJ1 _ _ ?_; (try simp only [Then, InBlock, NoGoto, if_true]); refine answer_none rfl (.inl rfl) ?_; exact ⟨G', e1, rfl, rfl⟩

set_option maxHeartbeats 1600000 in
attribute [local simp] undefA List.getElem?_cons_zero List.getElem?_cons_succ in
theorem del_ok {σ : St} {o k n : Nat} {G : Sg} {key : List UInt8} {t1 : Tail} (h : HasS σ o k G) (hG : G.s.Ok n) (hn : n ≤ 1000000) (hk : key.length ≤ 1000000) :
    CallsA Try.prog 42 [.ptr o 0, .sl 1 (bytesA key) key.length t1] σ (fun av σ' => ∃ G', G'.s = doS G.s key none ∧ av = .tup [] ∧ σ' = putS σ o k G') := by
  have hdo : CallsA Try.prog 79 [.ptr o 0, .agg [.sl 1 (bytesA key) key.length .shut, .sl 0 [] 0 .full], .v (.bool false)] σ (fun av σ' => ∃ G', G'.s = doS G.s key none ∧ av = .tup [] ∧ σ' = putS σ o k G') :=
    callsA_wk (.cons (Wk.refl _) (.cons (WkL.agg (.cons (Wk.refl _) (.cons (Wk.nil _ _ _) .nil))) (.cons (Wk.refl _) .nil))) (do_ok (key := key) (val := []) (is := false) h hG hn)
  have F := True.intro
  refine callsA_body Try.func42 rfl rfl rfl ?_; refine rg' (h := fun J1 hJ1 => ?_); refine ca (c := clone_ok hk) (k := ?_); rintro _ _ ⟨rfl, rfl⟩; (repeat (first | simp [F] | simp (disch := omega) only [wC, if_pos, if_neg])); refine ca (c := hdo) (k := ?_); rintro _ _ ⟨G', e1, rfl, rfl⟩; (repeat (first | simp [F] | simp (disch := omega) only [wC, if_pos, if_neg])); refine hJ1 _ _ ?_; (try simp only [Then, InBlock, NoGoto, if_true]); refine answer_none rfl (.inl rfl) ?_; exact ⟨G', e1, rfl, rfl⟩

set_option maxHeartbeats 1600000 in
attribute [local simp] undefA List.getElem?_cons_zero List.getElem?_cons_succ byC in
theorem get_ok {σ : St} {o k n : Nat} {G : Sg} {key : List UInt8} {t1 : Tail} (h : HasS σ o k G) (hG : G.s.Ok n) (hn : n ≤ 1000000) :
    CallsA Try.prog 24 [.ptr o 0, .sl 1 (bytesA key) key.length t1] σ (fun av σ' => av = .tup [byC ((getL G.s.l key).getD []), .v (.bool (getL G.s.l key).isSome)] ∧ σ = σ') := by
  refine callsA_gcS ?_ (by simp [AV.under, underL, byC_under])
  have hfi := find_ok (key := key) (t := t1) h hG.srt (by have := hG.l; omega)
  have hgat : ∀ v, getL G.s.l key = some v → _ := fun v h => getL_some_at (key := key) (v := v) hG.srt h
  have hhas : hasL G.s.l key = (getL G.s.l key).isSome := rfl
  have hkv := hG.kv
  obtain ⟨ho, hr1, hr2, hr3⟩ := h
  obtain ⟨⟨l, log, marks⟩, g1, g2, g3⟩ := G
  simp only [stC, stR1, stR2, stR3] at ho hr1 hr2 hr3 hfi hgat hhas hkv ⊢
  obtain ⟨i, hi⟩ : ∃ i, i = findL l key := ⟨_, rfl⟩
  obtain ⟨q, hq⟩ : ∃ q, q = getL l key := ⟨_, rfl⟩
  simp only [← hi, ← hq] at hgat hhas hfi ⊢
  rw [hhas] at hfi
  cases q with
  | none =>
    have F := And.intro ho (And.intro hr1 (True.intro))
    refine callsA_body Try.func24 rfl rfl rfl ?_; refine sq fun K1 hK1 => ?_; refine rg' (h := fun J2 hJ2 => ?_); refine hJ2 _ _ ?_; refine hK1 _ _ ?_; refine sq fun K3 hK3 => ?_; refine sq fun K4 hK4 => ?_; refine rg' (h := fun J5 hJ5 => ?_); refine hJ5 _ _ ?_; refine hK4 _ _ ?_; refine cf ?_; refine run_skip ?_; refine hK3 _ _ ?_; refine sq fun K6 hK6 => ?_; refine rg' (h := fun J7 hJ7 => ?_); refine ca (c := hfi) (k := ?_); rintro _ _ ⟨rfl, rfl⟩; (repeat (first | simp [F] | simp (disch := omega) only [wC, if_pos, if_neg])); refine hJ7 _ _ ?_; refine hK6 _ _ ?_; refine sq fun K8 hK8 => ?_; refine sq fun K9 hK9 => ?_; refine rg' (h := fun J10 hJ10 => ?_); refine hJ10 _ _ ?_; refine hK9 _ _ ?_; refine ct ?_; refine sq fun K11 hK11 => ?_; refine rg' (h := fun J12 hJ12 => ?_); refine hJ12 _ _ ?_; refine hK11 _ _ ?_; refine run_ret ?_; (try simp only [Then, InBlock, NoGoto]); refine answer_tmp2 rfl (.inr rfl) ?_; exact gcr (hA := WkL.tup (.cons (Wk.nil _ _ _) (.cons (Wk.refl _) .nil)))
  | some v =>
    obtain ⟨hil, hik, hiv⟩ := hgat v rfl
    have hat := (prsC_at hil).2
    have hvl := (hkv _ (List.getElem_mem hil)).2
    rw [hiv] at hat hvl
    simp only [byC] at hat
    have F := And.intro ho (And.intro hr1 (And.intro hil (And.intro hat (True.intro))))
    refine callsA_body Try.func24 rfl rfl rfl ?_; refine sq fun K1 hK1 => ?_; refine rg' (h := fun J2 hJ2 => ?_); refine hJ2 _ _ ?_; refine hK1 _ _ ?_; refine sq fun K3 hK3 => ?_; refine sq fun K4 hK4 => ?_; refine rg' (h := fun J5 hJ5 => ?_); refine hJ5 _ _ ?_; refine hK4 _ _ ?_; refine cf ?_; refine run_skip ?_; refine hK3 _ _ ?_; refine sq fun K6 hK6 => ?_; refine rg' (h := fun J7 hJ7 => ?_); refine ca (c := hfi) (k := ?_); rintro _ _ ⟨rfl, rfl⟩; (repeat (first | simp [F] | simp (disch := omega) only [wC, if_pos, if_neg])); refine hJ7 _ _ ?_; refine hK6 _ _ ?_; refine sq fun K8 hK8 => ?_; refine sq fun K9 hK9 => ?_; refine rg' (h := fun J10 hJ10 => ?_); refine hJ10 _ _ ?_; refine hK9 _ _ ?_; refine cf ?_; refine run_skip ?_; refine hK8 _ _ ?_; refine sq fun K11 hK11 => ?_; refine rg' (h := fun J12 hJ12 => ?_); refine ca (c := clone_ok hvl) (k := ?_); rintro _ _ ⟨rfl, rfl⟩; (repeat (first | simp [F] | simp (disch := omega) only [wC, if_pos, if_neg])); refine hJ12 _ _ ?_; refine hK11 _ _ ?_; refine run_ret ?_; (try simp only [Then, InBlock, NoGoto]); refine answer_tmp2 rfl (.inr rfl) ?_; exact gcr

set_option maxHeartbeats 1600000 in
attribute [local simp] undefA List.getElem?_cons_zero List.getElem?_cons_succ in
theorem len_ok {σ : St} {o k : Nat} {G : Sg} (h : HasS σ o k G) : CallsA Try.prog 31 [.ptr o 0] σ (fun av σ' => av = .v (.int .i64 G.s.l.length) ∧ σ = σ') := by
  have ho := h.o
  simp only [stC] at ho
  have F := And.intro ho (True.intro)
  refine callsA_body Try.func31 rfl rfl rfl ?_; refine sr fun _ hJ2 => ?_; refine hJ2 _ _ ?_; refine sq fun K3 hK3 => ?_; refine sr fun _ hJ5 => ?_; refine hJ5 _ _ ?_; refine cf ?_; refine run_skip ?_; refine hK3 _ _ ?_; refine sr fun _ hJ7 => ?_; refine hJ7 _ _ ?_; refine ra ?_; exact rt

set_option maxHeartbeats 1600000 in
attribute [local simp] undefA List.getElem?_cons_zero List.getElem?_cons_succ in
theorem depth_ok {σ : St} {o k : Nat} {G : Sg} (h : HasS σ o k G) : CallsA Try.prog 38 [.ptr o 0] σ (fun av σ' => av = .v (.int .i64 G.s.marks.length) ∧ σ = σ') := by
  have ho := h.o
  simp only [stC] at ho
  have F := And.intro ho (True.intro)
  refine callsA_body Try.func38 rfl rfl rfl ?_; refine sr fun _ hJ2 => ?_; refine hJ2 _ _ ?_; refine sq fun K3 hK3 => ?_; refine sr fun _ hJ5 => ?_; refine hJ5 _ _ ?_; refine cf ?_; refine run_skip ?_; refine hK3 _ _ ?_; refine sr fun _ hJ7 => ?_; refine hJ7 _ _ ?_; refine ra ?_; exact rt

set_option maxHeartbeats 1600000 in
attribute [local simp] undefA List.getElem?_cons_zero List.getElem?_cons_succ in
theorem new_st_ok {σ : St} : CallsA Try.prog 22 [] σ (fun av σ' => av = .ptr σ.objs.length 0 ∧ σ' = { σ with objs := σ.objs ++ [stC σ.rows.length newSg], rows := σ.rows ++ [stR1 newSg, stR2 newSg, stR3 newSg] }) := by
  refine callsA_new_st ?_
  have F := True.intro
  refine callsA_body Try.func22 rfl rfl rfl ?_; refine sr fun _ hJ2 => ?_; refine hJ2 _ _ ?_; refine sr fun _ hJ4 => ?_; refine hJ4 _ _ ?_; refine ra ?_; exact rt

set_option maxHeartbeats 1600000 in
attribute [local simp] undefA List.getElem?_cons_zero List.getElem?_cons_succ in
theorem begin_ok {σ : St} {o k n : Nat} {G : Sg} (h : HasS σ o k G) (hG : G.s.Ok n) (hn : n ≤ 1000000) :
    CallsA Try.prog 35 [.ptr o 0] σ (fun av σ' => ∃ G', G'.s = beginS G.s ∧ av = .tup [] ∧ σ' = putS σ o k G') := by
  refine callsA_mono (Q := fun av σ' => av = .tup [] ∧ σ' = putS σ o k ⟨beginS G.s, G.g1, G.g2, G.g3 + 1⟩) ?_ (fun av σ' ⟨e1, e2⟩ => ⟨_, rfl, e1, e2⟩)
  have hp3 := fun mk g => putS_3 h mk g
  have hml := hG.marks
  obtain ⟨ho, hr1, hr2, hr3⟩ := h
  obtain ⟨⟨l, log, marks⟩, g1, g2, g3⟩ := G
  simp only [stC, stR1, stR2, stR3, beginS] at ho hr1 hr2 hr3 hp3 hml ⊢
  rw [hp3]
  have hul := mkC_len marks
  have hut : List.take marks.length (mkC marks) = mkC marks := List.take_of_length_le (by omega)
  have hrm : (marks.length + 1) * 8 ≤ 140737488355328 := by omega
  have hmx : marks.length + 1 ≤ 9223372036854775807 := by omega
  have hua : mkC (marks ++ [log.length]) = mkC marks ++ [.v (.int .i64 (log.length : Nat))] := by rw [mkC_app]; simp [mkC]
  have F := And.intro ho (And.intro hr3 (And.intro hul (And.intro hut (And.intro hrm (And.intro hmx (True.intro))))))
  refine callsA_body Try.func35 rfl rfl rfl ?_; refine sr fun _ hJ2 => ?_; refine hJ2 _ _ ?_; refine ct ?_
  refine run_draw (by kernel_rfl) fun J3 hJ3 => ?_
  refine rp2 0 (k := ?_); refine rp2 1 (k := ?_); refine rp2 2 (k := ?_); refine rp2 3 (k := ?_); refine rp2 4 (k := ?_); refine rp2 5 (k := ?_); refine rp2 6 (k := ?_); refine rp2 7 (k := ?_); refine rp2 8 (k := ?_); refine rp2 9 (k := ?_); refine rp2 10 (k := ?_); refine dop 11 rfl ?_; repeat (first | simp [F] | simp (disch := omega) only [wC, if_pos, if_neg])
  refine ⟨by first | exact fun _ _ h => h | (refine later_list [9, 8, 7, 6, 5, 3, 2, 1, 0] (by kernel_rfl) (List.forall_mem_cons.2 ⟨fun _ => fact2 rfl rfl ?_, List.forall_mem_cons.2 ⟨fun _ => fact2 rfl rfl ?_, List.forall_mem_cons.2 ⟨fun _ => fact2 rfl rfl ?_, List.forall_mem_cons.2 ⟨fun _ => fact2 rfl rfl ?_, List.forall_mem_cons.2 ⟨fun _ => fact2 rfl rfl ?_, List.forall_mem_cons.2 ⟨fun _ => fact2 rfl rfl ?_, List.forall_mem_cons.2 ⟨fun _ => fact2 rfl rfl ?_, List.forall_mem_cons.2 ⟨fun _ => fact2 rfl rfl ?_, List.forall_mem_cons.2 ⟨fun _ => fact2 rfl rfl ?_, fun _ h => absurd h List.not_mem_nil⟩⟩⟩⟩⟩⟩⟩⟩⟩) <;> constructor <;> first | rfl | (simp [F]; done)), ?_⟩
  refine rp2 12 (k := ?_); refine rp2 13 (k := ?_); refine dop 14 rfl ?_; repeat (first | simp [F] | simp (disch := omega) only [wC, if_pos, if_neg])
  refine ⟨by first | exact fun _ _ h => h | (refine later_list [12] (by kernel_rfl) (List.forall_mem_cons.2 ⟨fun _ => fact2 rfl rfl ?_, fun _ h => absurd h List.not_mem_nil⟩) <;> constructor <;> first | rfl | (simp [F]; done)), ?_⟩
  refine dd ?_; refine hJ3 _ _ ?_; (try simp only [Then, InBlock, NoGoto, if_true]); refine answer_none rfl (.inl rfl) ?_; refine ⟨rfl, ?_⟩; simp [F, hua]

def endS (s : Sto) : Sto := { s with marks := s.marks.dropLast }
set_option maxHeartbeats 1600000 in
attribute [local simp] undefA List.getElem?_cons_zero List.getElem?_cons_succ in
theorem end_st_ok {σ : St} {o k n : Nat} {G : Sg} (h : HasS σ o k G) (hG : G.s.Ok n) (hn : n ≤ 1000000) :
    CallsA Try.prog 80 [.ptr o 0] σ (fun av σ' => av = .tup [.v (.int .i64 (G.s.marks.getLastD 0 : Nat)), .v (.bool (decide (G.s.marks ≠ [])))] ∧ σ' = putS σ o k ⟨endS G.s, G.g1, G.g2, G.g3⟩) := by
  have hp3 := fun mk g => putS_3 h mk g
  have hml := hG.marks
  have hde := depth_ok h
  obtain ⟨ho, hr1, hr2, hr3⟩ := h
  obtain ⟨⟨l, log, marks⟩, g1, g2, g3⟩ := G
  simp only [stC, stR1, stR2, stR3, endS] at ho hr1 hr2 hr3 hp3 hml hde ⊢
  rw [hp3]
  have hso := set_same' ho
  have hsr := set_same' hr3
  have hmc := mkC_take marks (marks.length - 1)
  by_cases hm : marks = []
  · subst hm
    simp only [List.length_nil] at ho hso
    have F := And.intro ho (And.intro hr3 (True.intro))
    refine callsA_body Try.func80 rfl rfl rfl ?_; refine sq fun K1 hK1 => ?_; refine rg' (h := fun J2 hJ2 => ?_); refine hJ2 _ _ ?_; refine hK1 _ _ ?_; refine sq fun K3 hK3 => ?_; refine rg' (h := fun J4 hJ4 => ?_); refine ca (c := hde) (k := ?_); rintro _ _ ⟨rfl, rfl⟩; (repeat (first | simp [F] | simp (disch := omega) only [wC, if_pos, if_neg])); refine hJ4 _ _ ?_; refine hK3 _ _ ?_; refine sq fun K5 hK5 => ?_; refine sq fun K6 hK6 => ?_; refine rg' (h := fun J7 hJ7 => ?_); refine hJ7 _ _ ?_; refine hK6 _ _ ?_; refine ct ?_; refine sq fun K8 hK8 => ?_; refine rg' (h := fun J9 hJ9 => ?_); refine hJ9 _ _ ?_; refine hK8 _ _ ?_; refine run_ret ?_; (try simp only [Then, InBlock, NoGoto]); refine answer_tmp2 rfl (.inr rfl) ?_; refine ⟨rfl, ?_⟩; simp [hso, hsr]
  · have hm2 := hm
    have h0 : 0 < marks.length := List.length_pos_iff.2 hm
    have hlast := mkC_at (l := marks) (i := marks.length - 1) (by omega)
    have hgl : marks[marks.length - 1] = marks.getLastD 0 := by rw [List.getLastD_eq_getLast?, List.getLast?_eq_getElem?, List.getElem?_eq_getElem (by omega)]; rfl
    rw [hgl] at hlast
    have hdl : marks.take (marks.length - 1) = marks.dropLast := (List.dropLast_eq_take ..).symm
    have hdn : (marks.dropLast).length = marks.length - 1 := by simp
    have hw : IntKind.i64.wrap ((marks.length : Int) - 1) = ((marks.length - 1 : Nat) : Int) := by rw [wrap_i64 _ (by omega) (by omega)]; omega
    have hz : ((marks.length : Int) == 0) = false := by simp; omega
    have hi1 : marks.length - 1 < marks.length := by omega
    have hul := mkC_len marks
    have hi2 : marks.length - 1 + 1 ≤ marks.length := by omega
    rw [hdl] at hmc
    refine callsA_mono (callsA_less (A := .tup [.v (.int .i64 (marks.getLastD 0 : Nat)), .v (.bool (decide (marks ≠ [])))]) (τ := { σ with objs := σ.objs.set o [.row k g1 0 2 l.length, .row (k + 1) g2 0 3 log.length, .row (k + 2) g3 0 1 (marks.length - 1)] }) (q := k + 2) (n := marks.length - 1) ?_ hr3 (by omega)) (fun av σ' ⟨e1, e2⟩ => ⟨e1, by rw [e2, hmc, hdn]⟩)
    have F := And.intro ho (And.intro hr3 (And.intro hw (And.intro hz (And.intro hlast (And.intro hi1 (And.intro hm2 (And.intro hul (And.intro hi2 (True.intro)))))))))
    refine callsA_body Try.func80 rfl rfl rfl ?_; refine sq fun K1 hK1 => ?_; refine rg' (h := fun J2 hJ2 => ?_); refine hJ2 _ _ ?_; refine hK1 _ _ ?_; refine sq fun K3 hK3 => ?_; refine rg' (h := fun J4 hJ4 => ?_); refine ca (c := hde) (k := ?_); rintro _ _ ⟨rfl, rfl⟩; (repeat (first | simp [F] | simp (disch := omega) only [wC, if_pos, if_neg])); refine hJ4 _ _ ?_; refine hK3 _ _ ?_; refine sq fun K5 hK5 => ?_; refine sq fun K6 hK6 => ?_; refine rg' (h := fun J7 hJ7 => ?_); refine hJ7 _ _ ?_; refine hK6 _ _ ?_; refine cf ?_; refine run_skip ?_; refine hK5 _ _ ?_; refine sq fun K8 hK8 => ?_; refine rg' (h := fun J9 hJ9 => ?_); refine hJ9 _ _ ?_; refine hK8 _ _ ?_; refine sr fun _ hJ11 => ?_; refine hJ11 _ _ ?_; refine sr fun _ hJ13 => ?_; refine hJ13 _ _ ?_; refine run_ret ?_; (try simp only [Then, InBlock, NoGoto]); refine answer_tmp2 rfl (.inr rfl) ?_; refine ⟨?_, ?_⟩
    · simp [F]
      simpa using (List.getElem?_eq_some_iff.1 hlast).2
    · simp [F]

set_option maxHeartbeats 1600000 in
attribute [local simp] undefA List.getElem?_cons_zero List.getElem?_cons_succ in
theorem commit_ok {σ : St} {o k n : Nat} {G : Sg} (h : HasS σ o k G) (hG : G.s.Ok n) (hn : n ≤ 1000000) :
    CallsA Try.prog 36 [.ptr o 0] σ (fun av σ' => ∃ G', G'.s = commitS G.s ∧ av = .v (.bool (decide (G.s.marks ≠ []))) ∧ σ' = putS σ o k G') := by
  have hen := end_st_ok h hG hn
  have hh := h.put ⟨endS G.s, G.g1, G.g2, G.g3⟩
  have hde := depth_ok hh
  have hdl : G.s.marks.dropLast.length = G.s.marks.length - 1 := by simp
  simp only [endS] at hen hh hde
  by_cases hm : G.s.marks = []
  · have hm2 := hm
    refine callsA_mono (Q := fun av σ' => av = .v (.bool false) ∧ σ' = putS σ o k ⟨commitS G.s, G.g1, G.g2, G.g3⟩) ?_ (fun av σ' ⟨e1, e2⟩ => ⟨_, rfl, by rw [e1, hm2]; rfl, e2⟩)
    have e : commitS G.s = { G.s with marks := G.s.marks.dropLast } := by simp [commitS, hm2]
    rw [e]
    rw [show decide (G.s.marks ≠ []) = false by simp [hm2]] at hen
    have F := True.intro
    refine callsA_body Try.func36 rfl rfl rfl ?_; refine sq fun K1 hK1 => ?_; refine rg' (h := fun J2 hJ2 => ?_); refine hJ2 _ _ ?_; refine hK1 _ _ ?_; refine sq fun K3 hK3 => ?_; refine rg' (h := fun J4 hJ4 => ?_); refine ca (c := hen) (k := ?_); rintro _ _ ⟨rfl, rfl⟩; (repeat (first | simp [F] | simp (disch := omega) only [wC, if_pos, if_neg])); refine hJ4 _ _ ?_; refine hK3 _ _ ?_; refine sq fun K5 hK5 => ?_; refine sq fun K6 hK6 => ?_; refine rg' (h := fun J7 hJ7 => ?_); (iterate 3 refine no2 (k := ?_)); refine hJ7 _ _ ?_; refine hK6 _ _ ?_; refine cf ?_; refine run_skip ?_; refine hK5 _ _ ?_; refine sq fun K8 hK8 => ?_; refine rg' (h := fun J9 hJ9 => ?_); refine hJ9 _ _ ?_; refine hK8 _ _ ?_; refine ra ?_; exact rt
  · have h0 : 0 < G.s.marks.length := List.length_pos_iff.2 hm
    rw [show decide (G.s.marks ≠ []) = true by simp [hm]] at hen ⊢
    by_cases h1 : G.s.marks.length = 1
    · have hz : G.s.marks.length - 1 = 0 := by omega
      have hx := callsA_drop_log (G1 := ⟨{ G.s with marks := G.s.marks.dropLast }, G.g1, G.g2, G.g3⟩) (f := 36) (P := Try.prog) (args := [.ptr o 0]) (A := .v (.bool true)) h rfl
      refine callsA_mono (hx ?_) (fun av σ' ⟨e1, e2⟩ => ⟨_, by simp [commitS, h1], e1, e2⟩)
      have hpo := hh.o
      have hso : (putS σ o k ⟨{ G.s with marks := G.s.marks.dropLast }, G.g1, G.g2, G.g3⟩).objs.set o [.row k G.g1 0 2 G.s.l.length, .sl 0 [] 0 .full, .row (k + 2) G.g3 0 1 G.s.marks.dropLast.length] = σ.objs.set o [.row k G.g1 0 2 G.s.l.length, .sl 0 [] 0 .full, .row (k + 2) G.g3 0 1 G.s.marks.dropLast.length] := by simp [putS]
      simp only [stC] at hpo
      obtain ⟨τ, hτ⟩ : ∃ τ, τ = putS σ o k ⟨{ G.s with marks := G.s.marks.dropLast }, G.g1, G.g2, G.g3⟩ := ⟨_, rfl⟩
      simp only [← hτ] at hen hde hpo hso ⊢
      have F := And.intro hz (And.intro hpo (And.intro hso (True.intro)))
      refine callsA_body Try.func36 rfl rfl rfl ?_; refine sq fun K1 hK1 => ?_; refine rg' (h := fun J2 hJ2 => ?_); refine hJ2 _ _ ?_; refine hK1 _ _ ?_; refine sq fun K3 hK3 => ?_; refine rg' (h := fun J4 hJ4 => ?_); refine ca (c := hen) (k := ?_); rintro _ _ ⟨rfl, rfl⟩; (repeat (first | simp [F] | simp (disch := omega) only [wC, if_pos, if_neg])); refine hJ4 _ _ ?_; refine hK3 _ _ ?_; refine sq fun K5 hK5 => ?_; refine sq fun K6 hK6 => ?_; refine rg' (h := fun J7 hJ7 => ?_); refine go2 (k := ?_); refine ca (c := hde) (k := ?_); rintro _ _ ⟨rfl, rfl⟩; (repeat (first | simp [F] | simp (disch := omega) only [wC, if_pos, if_neg])); refine go2 (k := ?_); refine hJ7 _ _ ?_; refine hK6 _ _ ?_; refine ct ?_; refine rg' (h := fun J8 hJ8 => ?_); refine hJ8 _ _ ?_; refine hK5 _ _ ?_; refine sq fun K9 hK9 => ?_; refine rg' (h := fun J10 hJ10 => ?_); refine hJ10 _ _ ?_; refine hK9 _ _ ?_; refine ra ?_
      refine ⟨by simp [F], ?_⟩
      simp only [List.length_dropLast, hz] at hso
      simp [hso, hz]
    · refine callsA_mono (Q := fun av σ' => av = .v (.bool true) ∧ σ' = putS σ o k ⟨commitS G.s, G.g1, G.g2, G.g3⟩) ?_ (fun av σ' ⟨e1, e2⟩ => ⟨_, rfl, e1, e2⟩)
      have e : commitS G.s = { G.s with marks := G.s.marks.dropLast } := by simp [commitS, h1]
      have hz : ¬ G.s.marks.length - 1 = 0 := by omega
      rw [e]
      obtain ⟨τ, hτ⟩ : ∃ τ, τ = putS σ o k ⟨{ G.s with marks := G.s.marks.dropLast }, G.g1, G.g2, G.g3⟩ := ⟨_, rfl⟩
      simp only [← hτ] at hen hde ⊢
      have F := And.intro hz (True.intro)
      refine callsA_body Try.func36 rfl rfl rfl ?_; refine sq fun K1 hK1 => ?_; refine rg' (h := fun J2 hJ2 => ?_); refine hJ2 _ _ ?_; refine hK1 _ _ ?_; refine sq fun K3 hK3 => ?_; refine rg' (h := fun J4 hJ4 => ?_); refine ca (c := hen) (k := ?_); rintro _ _ ⟨rfl, rfl⟩; (repeat (first | simp [F] | simp (disch := omega) only [wC, if_pos, if_neg])); refine hJ4 _ _ ?_; refine hK3 _ _ ?_; refine sq fun K5 hK5 => ?_; refine sq fun K6 hK6 => ?_; refine rg' (h := fun J7 hJ7 => ?_); refine go2 (k := ?_); refine ca (c := hde) (k := ?_); rintro _ _ ⟨rfl, rfl⟩; (repeat (first | simp [F] | simp (disch := omega) only [wC, if_pos, if_neg])); refine go2 (k := ?_); refine hJ7 _ _ ?_; refine hK6 _ _ ?_; refine cf ?_; refine run_skip ?_; refine hK5 _ _ ?_; refine sq fun K8 hK8 => ?_; refine rg' (h := fun J9 hJ9 => ?_); refine hJ9 _ _ ?_; refine hK8 _ _ ?_; refine ra ?_; exact rt
structure RbS where
  l : List Pr
  n : Nat
  g : Nat

theorem udsC_take (l : List Ud) (n : Nat) : List.take (n * 3) (udsC l) = udsC (l.take n) := by
  by_cases h : n ≤ l.length
  · conv => lhs; rw [← List.take_append_drop n l, udsC_app]
    exact List.take_left' (by rw [udsC_len, List.length_take, Nat.min_eq_left h])
  · rw [List.take_of_length_le (by rw [udsC_len]; omega), List.take_of_length_le (by omega)]
theorem udsC_at {l : List Ud} {i : Nat} (h : i < l.length) : List.take 3 (List.drop (i * 3) (udsC l)) = udC l[i] := by
  conv => lhs; rw [← List.take_append_drop i l, udsC_app, List.drop_left' (by rw [udsC_len, List.length_take, Nat.min_eq_left (by omega)]), List.drop_eq_getElem_cons h]
  exact List.take_left' rfl

set_option maxHeartbeats 1600000 in
attribute [local simp] undefA List.getElem?_cons_zero List.getElem?_cons_succ in
theorem rollback_no {σ : St} {o k n : Nat} {G : Sg} (h : HasS σ o k G) (hG : G.s.Ok n) (hn : n ≤ 500000) (hm : G.s.marks = []) :
    CallsA Try.prog 40 [.ptr o 0] σ (fun av σ' => av = .v (.bool false) ∧ σ = σ') := by
  have hen := end_st_ok h hG (by omega)
  have e : (⟨endS G.s, G.g1, G.g2, G.g3⟩ : Sg) = G := by
    obtain ⟨⟨l, log, marks⟩, g1, g2, g3⟩ := G
    simp only at hm; subst hm; rfl
  rw [e, putS_self h, show decide (G.s.marks ≠ []) = false by simp [hm]] at hen
  have hen2 := callsA_mono hen (Q' := fun av σ' => av = .tup [.v (.int .i64 (G.s.marks.getLastD 0 : Nat)), .v (.bool false)] ∧ σ = σ') (fun av σ' ⟨e1, e2⟩ => ⟨e1, e2.symm⟩)
  have F := True.intro
  refine callsA_body Try.func40 rfl rfl rfl ?_; refine sr fun _ hJ2 => ?_; refine hJ2 _ _ ?_; refine run_scope_k ?_; refine sr fun _ hJ4 => ?_; refine ca (c := hen2) (k := ?_); rintro _ _ ⟨rfl, rfl⟩; (repeat (first | simp [F] | simp (disch := omega) only [wC, if_pos, if_neg])); refine hJ4 _ _ ?_; refine sq fun K5 hK5 => ?_; refine sr fun _ hJ7 => ?_; refine hJ7 _ _ ?_; refine ct ?_; refine sr fun _ hJ9 => ?_; refine hJ9 _ _ ?_; refine ra ?_; exact rt

set_option maxHeartbeats 1600000 in
attribute [local simp] undefA List.getElem?_cons_zero List.getElem?_cons_succ byC drop_mr prsC_noObj udsC_noObj mkC_noObj in
theorem rollback_ok {σ : St} {o k n : Nat} {G : Sg} (h : HasS σ o k G) (hG : G.s.Ok n) (hn : n ≤ 500000) (hm : G.s.marks ≠ []) :
    CallsA Try.prog 40 [.ptr o 0] σ (fun av σ' => ∃ G', G'.s = rollS G.s ∧ av = .v (.bool true) ∧ σ' = putS σ o k G') := by
  refine callsA_mono (callsA_gcSt (X := Nat) (A := fun _ => .v (.bool true)) (T := fun g => ⟨rollS G.s, g, G.g2, G.g3⟩) h (fun _ => rfl) ?_) (fun av σ' ⟨g, e1, e2⟩ => ⟨_, rfl, e1, e2⟩)
  have hen := end_st_ok h hG (by omega)
  have hml : G.s.marks.getLastD 0 ≤ G.s.log.length := by
    rw [List.getLastD_eq_getLast?]
    cases hq : G.s.marks.getLast? with
    | none => simp
    | some x => exact hG.mks x (List.mem_of_getLast? hq)
  have hsr := hG.srt
  have hll := hG.l
  have hlg := hG.log
  have hlo := lt_of_get h.o
  have hl3 := lt_of_get h.r3
  have hpa := fun (G2 : Sg) (key val : List UInt8) (is : Bool) hs hl L => put_app (key := key) (val := val) (is := is) (h.put G2) hs hl L
  rw [show decide (G.s.marks ≠ []) = true by simp [hm]] at hen
  obtain ⟨⟨l, log, marks⟩, g1, g2, g3⟩ := G
  simp only [endS, putS, stC, stR1, stR2, stR3, rollS] at hen hml hsr hll hlg hpa ⊢
  obtain ⟨fr, hfr⟩ : ∃ fr, fr = marks.getLastD 0 := ⟨_, rfl⟩
  obtain ⟨mk, hmk⟩ : ∃ mk, mk = marks.dropLast := ⟨_, rfl⟩
  simp only [← hfr, ← hmk] at hen hml ⊢
  have hset : ∀ (a b c d : RowSt), (((σ.rows.set k a).set (k + 1) b).set (k + 2) c).set (k + 1) d = ((σ.rows.set k a).set (k + 1) d).set (k + 2) c := fun a b c d => by rw [set_comm' _ (by omega : k + 2 ≠ k + 1), List.set_set]
  have hset0 : ∀ (a b c d : RowSt), (((σ.rows.set k a).set (k + 1) b).set (k + 2) c).set k d = ((σ.rows.set k d).set (k + 1) b).set (k + 2) c := fun a b c d => by rw [set_comm' _ (by omega : k + 2 ≠ k), set_comm' _ (by omega : k + 1 ≠ k), List.set_set]
  have hg1 : ∀ (a b c : RowSt), (((σ.rows.set k a).set (k + 1) b).set (k + 2) c)[k + 1]? = some b := fun a b c => by rw [List.getElem?_set_ne (by omega), List.getElem?_set_self (by simp; omega)]
  have hgo : ∀ x L, (σ.objs.set o x ++ L)[o]? = some x := fun x L => by rw [List.getElem?_append_left (by simpa using hlo)]; simp [hlo]
  have hgo1 : ∀ x : List AV, (σ.objs.set o x)[o]? = some x := fun x => by simp [hlo]
  have hso : ∀ x y L, (σ.objs.set o x ++ L).set o y = σ.objs.set o y ++ L := fun x y L => by rw [List.set_append_left _ _ (by simpa using hlo), List.set_set]
  have hput : ∀ (y : List Pr) (g i : Nat) (u : Ud) (L : List (List AV)), Srt y → y.length ≤ 1000000 → CallsA Try.prog 83 [.ptr o 0, .agg [byC u.k, byC (u.o.getD [])], .v (.bool u.o.isSome)]
      { σ with objs := σ.objs.set o [.row k g 0 2 y.length, .row (k + 1) g2 0 3 (log.take i).length, .row (k + 2) g3 0 1 mk.length] ++ L, rows := ((σ.rows.set k ⟨g, prsC y, none⟩).set (k + 1) ⟨g2, udsC (log.take i), none⟩).set (k + 2) ⟨g3, mkC mk, none⟩ }
      (fun av σ' => ∃ g', av = .agg (udC ⟨u.k, getL y u.k⟩) ∧ σ' = { σ with objs := σ.objs.set o [.row k g' 0 2 (setL y u.k u.o).length, .row (k + 1) g2 0 3 (log.take i).length, .row (k + 2) g3 0 1 mk.length] ++ L, rows := ((σ.rows.set k ⟨g', prsC (setL y u.k u.o), none⟩).set (k + 1) ⟨g2, udsC (log.take i), none⟩).set (k + 2) ⟨g3, mkC mk, none⟩ }) := fun y g i u L hs hl => by
    have := hpa ⟨⟨y, log.take i, mk⟩, g, g2, g3⟩ u.k (u.o.getD []) u.o.isSome hs hl L
    have e : (if u.o.isSome = true then some (u.o.getD []) else none) = u.o := by cases u.o <;> rfl
    simp only [e, List.set_set, hset0] at this
    exact this
  have F := And.intro hgo (And.intro hgo1 (And.intro hso (And.intro hg1 (And.intro hset (And.intro hlo (True.intro))))))
  refine callsA_body Try.func40 rfl rfl rfl ?_; refine sr fun _ hJ2 => ?_; refine hJ2 _ _ ?_; refine run_scope_jumpsG 0 (X := RbS) [0] (fun x ρ σ1 => (fr ≤ x.n) ∧ (x.n ≤ log.length) ∧ (x.l = unrollL l (log.drop x.n)) ∧ (ρ 3 = .v (.int .i64 (fr : Nat))) ∧ (σ1 = { σ with objs := σ.objs.set o [.row k x.g 0 2 x.l.length, .row (k + 1) g2 0 3 x.n, .row (k + 2) g3 0 1 mk.length], rows := ((σ.rows.set k ⟨x.g, prsC x.l, none⟩).set (k + 1) ⟨g2, udsC (log.take x.n), none⟩).set (k + 2) ⟨g3, mkC mk, none⟩ })) (fun x => x.n) rfl ?first ?pass
  case first =>
   refine sr fun _ hJ4 => ?_; refine ca (c := hen) (k := ?_); rintro _ _ ⟨rfl, rfl⟩; (repeat (first | simp [F] | simp (disch := omega) only [wC, if_pos, if_neg])); refine hJ4 _ _ ?_; refine sqc (X := RbS) [0, 3] (fun x ρ σ1 => (fr ≤ x.n) ∧ (x.n ≤ log.length) ∧ (x.l = unrollL l (log.drop x.n)) ∧ (ρ 3 = .v (.int .i64 (fr : Nat))) ∧ (σ1 = { σ with objs := σ.objs.set o [.row k x.g 0 2 x.l.length, .row (k + 1) g2 0 3 x.n, .row (k + 2) g3 0 1 mk.length], rows := ((σ.rows.set k ⟨x.g, prsC x.l, none⟩).set (k + 1) ⟨g2, udsC (log.take x.n), none⟩).set (k + 2) ⟨g3, mkC mk, none⟩ })) ?cy5 ?cx5
   case cy5 =>
    rintro x ρCc13 σ1 hFCc13 ⟨h1, h2, hL, h3, hσ⟩; obtain rfl := hσ.symm
    have fCc13 := keepL hFCc13
    (try simp [KeepL, F] at fCc13); replace F := aF h3 F; (try replace F := aF fCc13 F); refine sq fun K6 hK6 => ?_; refine run_label ?_; refine hK6 _ _ ?_; refine sq fun K7 hK7 => ?_; refine sq fun K8 hK8 => ?_
    have hcl : (udsC (log.take x.n)).length = x.n * 3 := by rw [udsC_len, List.length_take, Nat.min_eq_left h2]
    have hwl : IntKind.i64.wrap ((x.n : Int) - 1) = (x.n : Int) - 1 := wrap_i64 _ (by omega) (by omega)
    replace F := aF hwl F; refine rg' (h := fun J9 hJ9 => ?_); refine hJ9 _ _ ?_; refine hK8 _ _ ?_; refine sr fun _ hJ11 => ?_; refine hJ11 _ _ ?_; refine cs (fun c22 => ?_) (fun c22 => ?_)
    · (try exact nope c22); all_goals have c22p := c22; try simp [F] at c22p
      all_goals
       replace F := aF c22 F; try replace F := aF c22p F
       have hn0 : fr < x.n := by have h := c22; simp at h; omega
       have hin : x.n - 1 < log.length := by omega
       have hin2 : ((x.n : Int) - 1).toNat = x.n - 1 := by omega
       have hat := udsC_at (l := log.take x.n) (i := x.n - 1) (by rw [List.length_take]; omega)
       rw [List.getElem_take] at hat
       obtain ⟨u, hu⟩ : ∃ u, u = log[x.n - 1] := ⟨_, rfl⟩
       rw [← hu] at hat
       simp only [udC] at hat
       have hb3 : (x.n - 1) * 3 + 3 ≤ x.n * 3 := by omega
       have hlt : (x.n : Int) - 1 < x.n := by omega
       have hge : (1 : Int) ≤ x.n := by omega
       have htk := udsC_take (log.take x.n) (x.n - 1)
       rw [List.take_take, Nat.min_eq_left (by omega)] at htk
       have hlt2 : (log.take (x.n - 1)).length = x.n - 1 := by rw [List.length_take]; omega
       replace F := aF hin2 (And.intro hat (And.intro hcl (And.intro hb3 (And.intro hlt (And.intro hge (And.intro htk F))))))
       have hpt := hput x.l x.g (x.n - 1) u [udC u] (by rw [hL]; exact unrollL_srt hsr _) (by have := unrollL_len l (log.drop x.n); rw [← hL] at this; simp at this; omega)
       rw [hlt2] at hpt
       have hL2 : setL x.l u.k u.o = unrollL l (log.drop (x.n - 1)) := by rw [hL, List.drop_eq_getElem_cons hin, ← hu, show x.n - 1 + 1 = x.n by omega]; rfl
       refine sr fun _ hJ13 => ?_; refine hJ13 _ _ ?_; refine sr fun _ hJ15 => ?_; refine hJ15 _ _ ?_; refine sq fun K16 hK16 => ?_; refine run_less (k + 1) ((x.n - 1) * 3) (kk := ?_); refine rg' (h := fun J17 hJ17 => ?_); refine ca (c := hpt) (k := ?_); rintro _ _ ⟨g', rfl, rfl⟩; (repeat (first | simp [F] | simp (disch := omega) only [wC, if_pos, if_neg])); refine hJ17 _ _ ?_; refine hK16 _ _ ?_; refine run_goto ?_; refine ⟨rfl, gk, (⟨setL x.l u.k u.o, x.n - 1, g'⟩), ⟨kpG, lpG, lpG, ?_, lpG, lpG⟩⟩
       · exact hL2
    (try exact nope c22); all_goals have c22p := c22; try simp [F] at c22p
    all_goals
     replace F := aF c22 F; try replace F := aF c22p F
     have hxf : x.n = fr := by have h := c22; simp at h; omega
     have hft : (log.take fr).length = fr := by rw [List.length_take]; omega
     have hrm := hL
     rw [hxf] at hrm
     refine run_skip ?_; refine hK7 _ _ ?_; refine sr fun _ hJ19 => ?_; refine hJ19 _ _ ?_; refine ra ?_; refine ⟨x.g, ?_⟩
     rw [← hrm, hft, ← hxf]
     exact ⟨Wk.refl _, [], [], [], by simp⟩
   case cx5 =>
    intro K5 hK5
    refine sr fun _ hJ21 => ?_; refine hJ21 _ _ ?_; refine cf ?_; refine run_skip ?_; refine hK5 (⟨l, log.length, g1⟩) _ _ ⟨kp, ?_, ?_, ?_, lp, ?_⟩
    · exact hml
    · exact Nat.le_refl _
    · simp [unrollL]
    · simp [F]
  case pass =>
   rintro x ρgoto σ1 hFgoto ⟨h1, h2, hL, h3, hσ⟩; obtain rfl := hσ.symm
   have fgoto := keepL hFgoto
   (try simp [KeepL, F] at fgoto); replace F := aF h3 F; (try replace F := aF fgoto F); refine sq fun K22 hK22 => ?_; refine run_skip ?_; refine hK22 _ _ ?_; refine sq fun K23 hK23 => ?_; refine sq fun K24 hK24 => ?_
   have hcl : (udsC (log.take x.n)).length = x.n * 3 := by rw [udsC_len, List.length_take, Nat.min_eq_left h2]
   have hwl : IntKind.i64.wrap ((x.n : Int) - 1) = (x.n : Int) - 1 := wrap_i64 _ (by omega) (by omega)
   replace F := aF hwl F; refine rg' (h := fun J25 hJ25 => ?_); refine hJ25 _ _ ?_; refine hK24 _ _ ?_; refine sr fun _ hJ27 => ?_; refine hJ27 _ _ ?_; refine cs (fun c22 => ?_) (fun c22 => ?_)
   · (try exact nope c22); all_goals have c22p := c22; try simp [F] at c22p
     all_goals
      replace F := aF c22 F; try replace F := aF c22p F
      have hn0 : fr < x.n := by have h := c22; simp at h; omega
      have hin : x.n - 1 < log.length := by omega
      have hin2 : ((x.n : Int) - 1).toNat = x.n - 1 := by omega
      have hat := udsC_at (l := log.take x.n) (i := x.n - 1) (by rw [List.length_take]; omega)
      rw [List.getElem_take] at hat
      obtain ⟨u, hu⟩ : ∃ u, u = log[x.n - 1] := ⟨_, rfl⟩
      rw [← hu] at hat
      simp only [udC] at hat
      have hb3 : (x.n - 1) * 3 + 3 ≤ x.n * 3 := by omega
      have hlt : (x.n : Int) - 1 < x.n := by omega
      have hge : (1 : Int) ≤ x.n := by omega
      have htk := udsC_take (log.take x.n) (x.n - 1)
      rw [List.take_take, Nat.min_eq_left (by omega)] at htk
      have hlt2 : (log.take (x.n - 1)).length = x.n - 1 := by rw [List.length_take]; omega
      replace F := aF hin2 (And.intro hat (And.intro hcl (And.intro hb3 (And.intro hlt (And.intro hge (And.intro htk F))))))
      have hpt := hput x.l x.g (x.n - 1) u [udC u] (by rw [hL]; exact unrollL_srt hsr _) (by have := unrollL_len l (log.drop x.n); rw [← hL] at this; simp at this; omega)
      rw [hlt2] at hpt
      have hL2 : setL x.l u.k u.o = unrollL l (log.drop (x.n - 1)) := by rw [hL, List.drop_eq_getElem_cons hin, ← hu, show x.n - 1 + 1 = x.n by omega]; rfl
      refine sr fun _ hJ29 => ?_; refine hJ29 _ _ ?_; refine sr fun _ hJ31 => ?_; refine hJ31 _ _ ?_; refine sq fun K32 hK32 => ?_; refine run_less (k + 1) ((x.n - 1) * 3) (kk := ?_); refine rg' (h := fun J33 hJ33 => ?_); refine ca (c := hpt) (k := ?_); rintro _ _ ⟨g', rfl, rfl⟩; (repeat (first | simp [F] | simp (disch := omega) only [wC, if_pos, if_neg])); refine hJ33 _ _ ?_; refine hK32 _ _ ?_; refine run_goto ?_; refine ⟨rfl, gk, (⟨setL x.l u.k u.o, x.n - 1, g'⟩), ⟨kpG, lpG, lpG, ?_, lpG, lpG⟩, lpG⟩
      · exact hL2
   (try exact nope c22); all_goals have c22p := c22; try simp [F] at c22p
   all_goals
    replace F := aF c22 F; try replace F := aF c22p F
    have hxf : x.n = fr := by have h := c22; simp at h; omega
    have hft : (log.take fr).length = fr := by rw [List.length_take]; omega
    have hrm := hL
    rw [hxf] at hrm
    refine run_skip ?_; refine hK23 _ _ ?_; refine sr fun _ hJ35 => ?_; refine hJ35 _ _ ?_; refine ra ?_; refine ⟨x.g, ?_⟩
    rw [← hrm, hft, ← hxf]
    exact ⟨Wk.refl _, [], [], [], by simp⟩
end Go.Proofs.Ytlkajgjaidedkaa

/-
  A store: its keys that begin so; another one; are two alike?
-/
namespace Go.Proofs.Ytlkajgjaidedkaa
set_option linter.unnecessarySimpa false
set_option maxRecDepth 100000
open Go Go.Vm
set_option linter.unusedSimpArgs false
set_option linter.unusedVariables false
attribute [local simp] evalL wantedA isCall opA evalA evalAll evalsA evalOpt ofValue ofCell plain binA_eql_pn binA_neq_pn binA_gtr binA_lss binA_geq binA_leq binA_add binA_sub binA_eql binA_neq binA_orI binA_shl binA_shr binA_mul binA_quo binA_rem binA_agg_eql binA_agg_neq convA_int unA_not fieldAddrA loadA partA pickA_true pickA_false pickA_bb lenA builtinA storeA splice AV.cells AV.isCell sliceA boundA intA callOf indexAddrA newObjA buildA fillA zeroA ofCells buildSliceA indexA fieldA set_appN get_appN take_appN List.getElem?_cons_zero List.getElem?_cons_succ get_sa0 get_sa1 get_sa2 get_sa3 set_sa0 set_sa1 set_sa2 set_sa3 sliceRowA binA_eqn binA_neqn drop_mr

def keysL (l : List Pr) (p : List UInt8) : List (List UInt8) := ((l.drop (findL l p)).takeWhile fun x => preB x.k p).map (·.k)

theorem takeWhile_stop {α : Type} {f : α → Bool} : ∀ {l : List α} {j : Nat}, (∀ x ∈ l.take j, f x = true) → (∀ x, l[j]? = some x → f x = false) → l.takeWhile f = l.take j
  | [], _, _, _ => by simp
  | a :: l, 0, _, h => by simp [h a rfl]
  | a :: l, j + 1, h1, h2 => by
    have ha := h1 a (by simp)
    rw [List.takeWhile_cons, if_pos ha, List.take_succ_cons, takeWhile_stop (j := j) (fun x hx => h1 x (by simp [hx])) (fun x hx => h2 x (by simpa using hx))]

set_option maxHeartbeats 1600000 in
attribute [local simp] undefA List.getElem?_cons_zero List.getElem?_cons_succ byC drop_mr prsC_noObj udsC_noObj mkC_noObj kysC_noObj bytes_noObj lsA_nil lsT_nil lsZ_nil lsL_nil gcO_ls noObj_ls in
theorem keys_ok {σ : St} {o k n : Nat} {G : Sg} {p : List UInt8} {t : Tail} (h : HasS σ o k G) (hG : G.s.Ok n) (hn : n ≤ 1000000) :
    CallsA Try.prog 28 [.ptr o 0, .sl 1 (bytesA p) p.length t] σ (fun av σ' => av = .sl 1 (kysC (keysL G.s.l p)) (keysL G.s.l p).length .shut ∧ σ = σ') := by
  refine callsA_gcS ?_ (by simp [AV.under, kysC_under])
  have hfi := find_ok (key := p) (t := t) h hG.srt (by have := hG.l; omega)
  have hkv := hG.kv
  have hll := hG.l
  obtain ⟨ho, hr1, hr2, hr3⟩ := h
  obtain ⟨⟨l, log, marks⟩, g1, g2, g3⟩ := G
  simp only [stC, stR1, stR2, stR3] at ho hr1 hr2 hr3 hfi hkv hll ⊢
  have hle := findL_le l p
  have hkl : keysL l p = ((l.drop (findL l p)).takeWhile fun x => preB x.k p).map (·.k) := rfl
  obtain ⟨i, hi⟩ : ∃ i, i = findL l p := ⟨_, rfl⟩
  simp only [← hi] at hfi hle hkl
  rw [hkl]
  obtain ⟨D, hD⟩ : ∃ D, D = l.drop i := ⟨_, rfl⟩
  have hDl : D.length = l.length - i := by rw [hD]; simp
  rw [← hD]
  have hi2 : i ≤ l.length := hle
  have hlc := prsC_len l
  obtain ⟨K, hK⟩ : ∃ K, K = D.map (·.k) := ⟨_, rfl⟩
  have hKj : ∀ j, (D.take j).map (·.k) = K.take j := fun j => by rw [hK]; simp
  have hKl : K.length = l.length - i := by rw [hK]; simp [hDl]
  have F := And.intro ho (And.intro hr1 (And.intro hi2 (And.intro hlc (True.intro))))
  refine callsA_body Try.func28 rfl rfl rfl ?_; refine sr fun _ hJ2 => ?_; refine hJ2 _ _ ?_; refine sq fun K3 hK3 => ?_; refine sr fun _ hJ5 => ?_; refine hJ5 _ _ ?_; refine cf ?_; refine run_skip ?_; refine hK3 _ _ ?_; refine sr fun _ hJ7 => ?_; refine hJ7 _ _ ?_; refine sr fun _ hJ9 => ?_; refine ca (c := hfi) (k := ?_); rintro _ _ ⟨rfl, rfl⟩; (repeat (first | simp [F] | simp (disch := omega) only [wC, if_pos, if_neg])); refine hJ9 _ _ ?_; refine sq fun K10 hK10 => ?_; refine sr fun _ hJ12 => ?_; refine hJ12 _ _ ?_; refine run_block_k ?_; refine run_loopG (X := Nat) [1, 4, 23, 24] (fun j ρ σ1 => (j ≤ l.length - i) ∧ (∀ x ∈ D.take j, preB x.k p = true) ∧ (ρ 5 = lsA σ.toks.length 1 (kysC (K.take j)) j) ∧ (ρ 25 = .v (.int .i64 j)) ∧ (σ1 = { σ with toks := σ.toks ++ lsT j })) (fun j => l.length - i - j) (0) ?st1 ?rd1
  case st1 =>
   refine ⟨lp, ?_, lp, lp, ?_⟩
   · intro x hx
     simp at hx
   · simp [lsT_nil]
  case rd1 =>
   rintro j ρ1 σ1 hF1 ⟨h1, h2, h5, h25, hσ⟩; obtain rfl := hσ.symm
   have f1 := keepL hF1
   (try simp [KeepL, F] at f1); replace F := aF h5 F; replace F := aF h25 F; (try replace F := aF f1 F); refine sr fun _ hJ14 => ?_; refine hJ14 _ _ ?_; refine sq fun K15 hK15 => ?_; refine cs (fun c26 => ?_) (fun c26 => ?_)
   · (try exact nope c26); all_goals have c26p := c26; try simp [F] at c26p
     all_goals
      replace F := aF c26 F; (try replace F := aF c26p F); refine run_skip ?_; refine hK15 _ _ ?_; refine sq fun K16 hK16 => ?_; refine run_block_k ?_; refine sq fun K17 hK17 => ?_
      have hlt : j < l.length - i := by have h := c26; simp at h; omega
      have hjD : j < D.length := by omega
      obtain ⟨x, hx⟩ : ∃ x, x = D[j] := ⟨_, rfl⟩
      have hxl : x = l[i + j] := by rw [hx]; simp only [hD]; rw [List.getElem_drop]
      have hxm := (hkv x (by rw [hxl]; exact List.getElem_mem _)).1
      have hat : List.take 2 (List.drop (i * 2 + j * 2) (prsC l)) = [byC x.k, byC x.v] := by rw [show i * 2 + j * 2 = (i + j) * 2 by omega, prsC_drop, List.drop_eq_getElem_cons (by omega), ← hxl]; rfl
      simp only [byC] at hat
      have hb2 : i * 2 + j * 2 + 2 ≤ l.length * 2 := by omega
      have htk : D.take (j + 1) = D.take j ++ [x] := by rw [hx]; exact (List.take_append_getElem hjD).symm
      have htkK : K.take (j + 1) = K.take j ++ [x.k] := by rw [← hKj, ← hKj, htk]; simp
      have hap : ∀ objs, appendA Try.prog 41 (lsA σ.toks.length 1 (kysC (K.take j)) j) (.sl 1 [.sl 1 (bytesA x.k) x.k.length .shut] 1 .full) ⟨objs, σ.toks ++ lsT j, σ.gl, σ.rows⟩ = some (lsA σ.toks.length 1 (kysC (K.take (j + 1))) (j + 1), ⟨objs, σ.toks ++ lsT (j + 1), σ.gl, σ.rows⟩) := fun objs => by
        rw [htkK, kysC_app]
        exact append_ls elemT_41 ti_23 (by decide) rfl (fun h => by simp [h, kysC]) rfl (by omega) (by simp only [roomA]; omega) (by simp only [maxLen]; omega)
      replace F := aF hlt (And.intro hat (And.intro hb2 (And.intro hap F))); refine rg' (h := fun J18 hJ18 => ?_); refine hJ18 _ _ ?_; refine hK17 _ _ ?_; refine sq fun K19 hK19 => ?_; refine sr fun _ hJ21 => ?_; refine ca (c := prefix_ok) (k := ?_); rintro _ _ ⟨rfl, rfl⟩; (repeat (first | simp [F] | simp (disch := omega) only [wC, if_pos, if_neg])); refine hJ21 _ _ ?_; refine cs (fun c33 => ?_) (fun c33 => ?_)
      · (try exact nope c33); all_goals have c33p := c33; try simp [F] at c33p
        all_goals
         replace F := aF c33 F; try replace F := aF c33p F
         have hpx : preB x.k p = false := by have h := c33; simpa using h
         have hstop := takeWhile_stop (l := D) (j := j) h2 (fun y hy => by rw [List.getElem?_eq_getElem hjD, ← hx] at hy; cases hy; exact hpx)
         have hlen : (K.take j).length = j := by rw [List.length_take]; omega
         have hwk := lsA_wk (k := σ.toks.length) (sz := 1) (n := j) (cs := kysC (K.take j)) (fun h => by simp [h, kysC])
         refine run_exit ?_; refine hK10 _ _ ?_; refine sr fun _ hJ23 => ?_; refine hJ23 _ _ ?_; refine ra ?_
         rw [hstop, hKj, hlen]
         exact gcr (hA := by simp only [putA_get]; simp [F]; exact hwk)
      (try exact nope c33); all_goals have c33p := c33; try simp [F] at c33p
      all_goals
       replace F := aF c33 F; (try replace F := aF c33p F); refine run_skip ?_; refine hK19 _ _ ?_; refine rg' (h := fun J24 hJ24 => ?_); refine ca (c := clone_ok hxm) (k := ?_); rintro _ _ ⟨rfl, rfl⟩; (repeat (first | simp [F] | simp (disch := omega) only [wC, if_pos, if_neg])); refine hJ24 _ _ ?_; refine hK16 _ _ ?_; refine rg' (h := fun J25 hJ25 => ?_); refine hJ25 _ _ ?_; refine ⟨gk, (j + 1), ⟨kpG, lpG, ?_, lpG, lpG, lpG⟩, lpG⟩
       · rw [htk]
         intro y hy
         rcases List.mem_append.1 hy with h | h
         · exact h2 y h
         · simp at h; rw [h]; have h := c33; simpa using h
   (try exact nope c26); all_goals have c26p := c26; try simp [F] at c26p
   all_goals
    replace F := aF c26 F; try replace F := aF c26p F
    have hjl : D.take j = D := List.take_of_length_le (by have h := c26; simp at h; omega)
    have hstop := takeWhile_stop (l := D) (j := j) h2 (fun y hy => by rw [List.getElem?_eq_none (by have h := c26; simp at h; omega)] at hy; cases hy)
    have hlen : (K.take j).length = j := by rw [List.length_take]; omega
    have hwk := lsA_wk (k := σ.toks.length) (sz := 1) (n := j) (cs := kysC (K.take j)) (fun h => by simp [h, kysC])
    refine run_exit ?_; refine hK10 _ _ ?_; refine sr fun _ hJ27 => ?_; refine hJ27 _ _ ?_; refine ra ?_
    rw [hstop, hKj, hlen]
    exact gcr (hA := by simp only [putA_get]; simp [F]; exact hwk)

attribute [local simp] appendA rowAppA readA roomA maxLen zeroCell Value.oneCell' Value.cells appendRowA in
set_option maxHeartbeats 1600000 in
attribute [local simp] undefA List.getElem?_cons_zero List.getElem?_cons_succ in
theorem cloneP_ok {σ : St} {k g : Nat} {l : List Pr} (hr : σ.rows[k]? = some ⟨g, prsC l, none⟩) (hl : l.length ≤ 1000000) :
    CallsA Try.prog 82 [.row k g 0 2 l.length] σ (fun av σ' => av = .row σ.rows.length 0 0 2 l.length ∧ σ' = { σ with rows := σ.rows ++ [⟨0, prsC l, none⟩] }) := by
  have hlc := prsC_len l
  have htk : List.take (l.length * 2) (prsC l) = prsC l := List.take_of_length_le (by omega)
  have h1 : l.length * 48 ≤ 140737488355328 := by omega
  have h2 : l.length ≤ 9223372036854775807 := by omega
  have F := And.intro hr (And.intro hlc (And.intro htk (And.intro h1 (And.intro h2 (True.intro)))))
  refine callsA_body Try.func82 rfl rfl rfl ?_; refine sr fun _ hJ2 => ?_; refine hJ2 _ _ ?_; refine sq fun K3 hK3 => ?_; refine sr fun _ hJ5 => ?_; refine snr rfl rfl (fun b4 hb4 => ?_); (repeat (first | simp [F] | simp (disch := omega) only [wC, if_pos, if_neg])); refine hJ5 _ _ ?_; refine cs (fun c4 => ?_) (fun c4 => ?_)
  · (try exact nope c4); all_goals have c4p := c4; try simp [F] at c4p
    all_goals
     replace F := aF c4 F; (try replace F := aF c4p F); refine sq fun K6 hK6 => ?_
     have hl0 : l = [] := by cases l with | nil => rfl | cons p l => (have := hb4 (by simp); simp_all)
     subst hl0
     refine rg' (h := fun J7 hJ7 => ?_); refine hJ7 _ _ ?_; refine hK6 _ _ ?_; (try (refine run_nilrow 2 2 (k := ?_))); refine ra ?_; exact rt
  (try exact nope c4); all_goals have c4p := c4; try simp [F] at c4p
  all_goals
   replace F := aF c4 F; (try replace F := aF c4p F); refine run_skip ?_; refine hK3 _ _ ?_; refine sq fun K8 hK8 => ?_; refine rgB (h := fun J9 hJ9 => ?_); refine go0 (k := ?_); refine go0 (k := ?_); refine ar2 rfl (k := ?_); refine hJ9 _ _ ?_; refine hK8 _ _ ?_; (try (refine run_nilrow 2 2 (k := ?_))); refine ra ?_; exact rt

set_option maxHeartbeats 1600000 in
attribute [local simp] undefA List.getElem?_cons_zero List.getElem?_cons_succ in
theorem copy_st_ok {σ : St} {o k n : Nat} {G : Sg} (h : HasS σ o k G) (hG : G.s.Ok n) (hn : n ≤ 1000000) :
    CallsA Try.prog 39 [.ptr o 0] σ (fun av σ' => av = .ptr σ.objs.length 0 ∧ σ' = { σ with objs := σ.objs ++ [stC σ.rows.length ⟨⟨G.s.l, [], []⟩, 0, 0, 0⟩], rows := σ.rows ++ [stR1 ⟨⟨G.s.l, [], []⟩, 0, 0, 0⟩, stR2 ⟨⟨G.s.l, [], []⟩, 0, 0, 0⟩, stR3 ⟨⟨G.s.l, [], []⟩, 0, 0, 0⟩] }) := by
  refine callsA_copy_st ?_
  have ho := h.o
  simp only [stC] at ho
  have F := And.intro ho (True.intro)
  refine callsA_body Try.func39 rfl rfl rfl ?_; refine sr fun _ hJ2 => ?_; refine hJ2 _ _ ?_; refine sq fun K3 hK3 => ?_; refine sr fun _ hJ5 => ?_; refine hJ5 _ _ ?_; refine cf ?_; refine run_skip ?_; refine hK3 _ _ ?_; refine sr fun _ hJ7 => ?_
  refine ca (c := cloneP_ok h.r1 (by have := hG.l; omega)) (k := ?_)
  rintro _ _ ⟨rfl, rfl⟩; (repeat (first | simp [F] | simp (disch := omega) only [wC, if_pos, if_neg])); refine hJ7 _ _ ?_; refine ra ?_; exact rt

theorem srt_sub : ∀ {m l : List Pr}, Srt l → Srt m → (∀ p ∈ l, p ∈ m) → l.Sublist m
  | m, [], _, _, _ => List.nil_sublist m
  | [], p :: l, _, _, h => by have := h p (by simp); cases this
  | q :: m, p :: l, hl, hm, h => by
    have l1 := List.pairwise_cons.1 hl
    have m1 := List.pairwise_cons.1 hm
    by_cases hpq : p = q
    · subst hpq
      refine List.Sublist.cons_cons _ (srt_sub l1.2 m1.2 (fun x hx => ?_))
      rcases List.mem_cons.1 (h x (List.mem_cons_of_mem _ hx)) with e | e
      · have := l1.1 x hx; rw [e, ltB_irr] at this; cases this
      · exact e
    · have hpm : p ∈ m := by
        rcases List.mem_cons.1 (h p (List.mem_cons_self ..)) with e | e
        · exact (hpq e).elim
        · exact e
      refine List.Sublist.cons _ (srt_sub hl m1.2 (fun x hx => ?_))
      rcases List.mem_cons.1 (h x hx) with e | e
      · rcases List.mem_cons.1 hx with e2 | e2
        · rw [e2]; exact hpm
        · have h1 := l1.1 x e2
          have h2 := m1.1 p hpm
          rw [e] at h1
          have := ltB_trans h1 h2
          rw [ltB_irr] at this; cases this
      · exact e
theorem srt_same {l m : List Pr} (hl : Srt l) (hm : Srt m) (hn : l.length = m.length) (h : ∀ p ∈ l, getL m p.k = some p.v) : l = m :=
  (srt_sub hl hm (fun p hp => getL_mem (h p hp))).eq_of_length hn
theorem getL_of_mem : ∀ {l : List Pr} {p : Pr}, Srt l → p ∈ l → getL l p.k = some p.v
  | q :: l, p, hs, h => by
    have l1 := List.pairwise_cons.1 hs
    rcases List.mem_cons.1 h with e | e
    · subst e; simp [getL]
    · have := l1.1 p e
      rw [getL, if_neg (ltB_ne this)]
      exact getL_of_mem l1.2 e
theorem preB_nil (p : List UInt8) : preB p [] = true := by simp [preB]
theorem findL_nil (l : List Pr) : findL l [] = 0 := by
  unfold findL
  cases l with
  | nil => rfl
  | cons p l => simp [ltB_nil]
theorem keysL_nil (l : List Pr) : keysL l [] = l.map (·.k) := by
  unfold keysL
  rw [findL_nil, List.drop_zero]
  congr 1
  induction l with
  | nil => rfl
  | cons p l ih => rw [List.takeWhile_cons, if_pos (preB_nil _), ih]
theorem kysC_at {l : List (List UInt8)} {i : Nat} (h : i < l.length) : (kysC l)[i]? = some (byC l[i]) := by simp [kysC, h]

set_option maxHeartbeats 1600000 in
attribute [local simp] undefA List.getElem?_cons_zero List.getElem?_cons_succ kysC_len in
theorem same_st_ok {σ : St} {oa ka ob kb n : Nat} {A B : Sg} (ha : HasS σ oa ka A) (hb : HasS σ ob kb B) (hA : A.s.Ok n) (hB : B.s.Ok n) (hn : n ≤ 1000000) :
    CallsA Try.prog 37 [.ptr oa 0, .ptr ob 0] σ (fun av σ' => av = .v (.bool (decide (A.s.l = B.s.l))) ∧ σ = σ') := by
  have hla := len_ok ha
  have hlb := len_ok hb
  have hke := keys_ok (p := []) (t := .full) ha hA hn
  rw [keysL_nil] at hke
  have hke : CallsA Try.prog 28 [.ptr oa 0, .sl 0 [] 0 .full] σ (fun av σ' => av = .sl 1 (kysC (A.s.l.map (·.k))) (A.s.l.map (·.k)).length .shut ∧ σ = σ') :=
    callsA_wk (.cons (Wk.refl _) (.cons (fun G w x h => by obtain ⟨a, c, rfl, rfl⟩ := sl_empty_full h; exact .sl0 rfl) .nil)) hke
  have hga := fun key => get_ok (key := key) (t1 := .shut) ha hA hn
  have hgb := fun key => get_ok (key := key) (t1 := .shut) hb hB hn
  have hsa := hA.srt
  have hsb := hB.srt
  have hal := hA.l
  obtain ⟨L, hL⟩ : ∃ L, L = A.s.l := ⟨_, rfl⟩
  obtain ⟨M, hM⟩ : ∃ M, M = B.s.l := ⟨_, rfl⟩
  simp only [← hL, ← hM] at hla hlb hke hga hgb hsa hsb hal ⊢
  have hkl : (L.map (·.k)).length = L.length := by simp
  rw [hkl] at hke
  have F := True.intro
  refine callsA_body Try.func37 rfl rfl rfl ?_; refine sr fun _ hJ2 => ?_; refine hJ2 _ _ ?_; refine sq fun K3 hK3 => ?_; refine sr fun _ hJ5 => ?_; refine ca (c := hla) (k := ?_); rintro _ _ ⟨rfl, rfl⟩; (repeat (first | simp [F] | simp (disch := omega) only [wC, if_pos, if_neg])); refine ca (c := hlb) (k := ?_); rintro _ _ ⟨rfl, rfl⟩; (repeat (first | simp [F] | simp (disch := omega) only [wC, if_pos, if_neg])); refine hJ5 _ _ ?_; refine cs (fun c15 => ?_) (fun c15 => ?_)
  · (try exact nope c15); all_goals have c15p := c15; try simp [F] at c15p
    all_goals
     replace F := aF c15 F; try replace F := aF c15p F
     have hne : ¬ L = M := fun e => by subst e; have h := c15; simp at h
     replace F := aF hne F; refine sr fun _ hJ7 => ?_; refine hJ7 _ _ ?_; refine ra ?_; exact rt
  (try exact nope c15); all_goals have c15p := c15; try simp [F] at c15p
  all_goals
   replace F := aF c15 F; try replace F := aF c15p F
   have hlm : L.length = M.length := by have h := c15; simp at h; omega
   refine run_skip ?_; refine hK3 _ _ ?_; refine sq fun K8 hK8 => ?_; refine sr fun _ hJ10 => ?_; refine ca (c := hke) (k := ?_); rintro _ _ ⟨rfl, rfl⟩; (repeat (first | simp [F] | simp (disch := omega) only [wC, if_pos, if_neg])); refine hJ10 _ _ ?_; refine run_block_k ?_; refine run_loopF (X := Nat) [0, 1, 17, 18] (fun i ρ σ1 => (i ≤ L.length) ∧ (∀ p ∈ L.take i, getL M p.k = some p.v) ∧ (ρ 19 = .v (.int .i64 i)) ∧ (σ1 = σ)) (fun i => L.length - i) (0) ?st1 ?rd1
   case st1 =>
    refine ⟨lp, ?_, lp, lp⟩
    · intro p hp
      simp at hp
   case rd1 =>
    rintro i ρ1 σ1 hF1 ⟨h1, h2, h19, hσ⟩; obtain rfl := hσ.symm
    have f1 := keepL hF1
    (try simp [KeepL, F] at f1); replace F := aF h19 F; (try replace F := aF f1 F); refine sr fun _ hJ12 => ?_; refine hJ12 _ _ ?_; refine sq fun K13 hK13 => ?_; refine cs (fun c20 => ?_) (fun c20 => ?_)
    · (try exact nope c20); all_goals have c20p := c20; try simp [F] at c20p
      all_goals
       replace F := aF c20 F; (try replace F := aF c20p F); refine run_skip ?_; refine hK13 _ _ ?_; refine sq fun K14 hK14 => ?_; refine run_block_k ?_; refine sq fun K15 hK15 => ?_
       have hlt : i < L.length := by have h := c20; simp at h; omega
       obtain ⟨x, hx⟩ : ∃ x, x = L[i] := ⟨_, rfl⟩
       have hxm : x ∈ L := by rw [hx]; exact List.getElem_mem _
       have hgx := getL_of_mem hsa hxm
       have hat : (kysC (L.map (·.k)))[i]? = some (byC x.k) := by rw [kysC_at (by simpa using hlt)]; simp [hx]
       have hat2 : ∀ h : i < (kysC (L.map (·.k))).length, (kysC (L.map (·.k)))[i]'h = .sl 1 (bytesA x.k) x.k.length .shut := fun h => (List.getElem?_eq_some_iff.1 hat).2
       have hta : L.take (i + 1) = L.take i ++ [x] := by rw [hx]; exact (List.take_append_getElem hlt).symm
       have h3 := hga x.k
       rw [hgx] at h3
       have h4 := hgb x.k
       obtain ⟨q, hq⟩ : ∃ q, q = getL M x.k := ⟨_, rfl⟩
       rw [← hq] at h4
       have hi1 : i + 1 ≤ L.length := hlt
       have hlt2 : i < (L.map (·.k)).length := by simpa using hlt
       replace F := aF hlt (And.intro hat2 (And.intro hi1 F)); refine rg' (h := fun J16 hJ16 => ?_); refine hJ16 _ _ ?_; refine hK15 _ _ ?_; refine sr fun _ hJ18 => ?_; refine ca (c := h3) (k := ?_); rintro _ _ ⟨rfl, rfl⟩; (repeat (first | simp [F] | simp (disch := omega) only [wC, if_pos, if_neg])); refine hJ18 _ _ ?_; refine sr fun _ hJ20 => ?_; refine ca (c := h4) (k := ?_); rintro _ _ ⟨rfl, rfl⟩; (repeat (first | simp [F] | simp (disch := omega) only [wC, if_pos, if_neg])); refine hJ20 _ _ ?_; refine sr fun _ hJ22 => ?_; refine gs 37 (fun g8_2 => ?_) (fun g8_2 => ?_)
       · (try exact nope g8_2); all_goals have g8_2p := g8_2; try simp [F] at g8_2p
         all_goals
          replace F := aF g8_2 F; try replace F := aF g8_2p F
          have hne : ¬ L = M := fun e => by subst e; rw [hgx] at hq; subst hq; have h := g8_2; simp at h
          replace F := aF hne F; (iterate 4 refine no2 (k := ?_)); refine hJ22 _ _ ?_; refine ct ?_; refine sr fun _ hJ24 => ?_; refine hJ24 _ _ ?_; refine ra ?_; exact rt
       (try exact nope g8_2); all_goals have g8_2p := g8_2; try simp [F] at g8_2p
       all_goals
        replace F := aF g8_2 F; try replace F := aF g8_2p F
        obtain ⟨v, hv⟩ : ∃ v, q = some v := by cases q with | none => (have h := g8_2; simp at h) | some v => exact ⟨v, rfl⟩
        (iterate 2 refine go2 (k := ?_)); refine ca (c := equal_ok) (k := ?_); rintro _ _ ⟨rfl, rfl⟩; (repeat (first | simp [F] | simp (disch := omega) only [wC, if_pos, if_neg])); refine go2 (k := ?_); refine hJ22 _ _ ?_; refine cs (fun c42 => ?_) (fun c42 => ?_)
        · (try exact nope c42); all_goals have c42p := c42; try simp [F] at c42p
          all_goals
           replace F := aF c42 F; try replace F := aF c42p F
           have hne : ¬ L = M := fun e => by subst e; rw [hgx] at hq; subst hq; have h := c42; simp at h
           replace F := aF hne F; refine sr fun _ hJ26 => ?_; refine hJ26 _ _ ?_; refine ra ?_; exact rt
        (try exact nope c42); all_goals have c42p := c42; try simp [F] at c42p
        all_goals
         replace F := aF c42 F; try replace F := aF c42p F
         have hvv : getL M x.k = some x.v := by rw [← hq, hv]; have h := c42; rw [hv] at h; simp at h; rw [h]
         refine run_skip ?_; refine hK14 _ _ ?_; refine rg' (h := fun J27 hJ27 => ?_); refine hJ27 _ _ ?_; refine ⟨(i + 1), ⟨kp, lp, ?_, lp, lp⟩, lp⟩
         · rw [hta]
           intro p hp
           rcases List.mem_append.1 hp with h | h
           · exact h2 p h
           · simp at h; rw [h]; exact hvv
    (try exact nope c20); all_goals have c20p := c20; try simp [F] at c20p
    all_goals
     replace F := aF c20 F; try replace F := aF c20p F
     have heq : L = M := srt_same hsa hsb hlm (by rw [List.take_of_length_le (by have h := c20; simp at h; omega)] at h2; exact h2)
     replace F := aF heq F; refine run_exit ?_; refine hK8 _ _ ?_; refine sr fun _ hJ29 => ?_; refine hJ29 _ _ ?_; refine ra ?_; exact rt
theorem ltB_step : ∀ {a b : List UInt8} {i : Nat}, a.take i = b.take i → i ≤ a.length → i ≤ b.length → ltB a b = ltB (a.drop i) (b.drop i)
  | a, b, 0, _, _, _ => rfl
  | x :: a, y :: b, i + 1, h, h1, h2 => by
    simp only [List.take_succ_cons, List.cons.injEq] at h
    obtain ⟨rfl, h⟩ := h
    simp only [List.drop_succ_cons]
    rw [← ltB_step h (by simpa using h1) (by simpa using h2)]
    simp [ltB]

set_option maxHeartbeats 1600000 in
attribute [local simp] undefA List.getElem?_cons_zero List.getElem?_cons_succ in
theorem less_ok {σ : St} {a b : List UInt8} {t1 t2 : Tail} (ha : a.length ≤ 1000000) (hb : b.length ≤ 1000000) :
    CallsA Try.prog 30 [.sl 1 (bytesA a) a.length t1, .sl 1 (bytesA b) b.length t2] σ (fun av σ' => av = .v (.bool (ltB a b)) ∧ σ = σ') := by
  have F := True.intro
  refine callsA_body Try.func30 rfl rfl rfl ?_; refine sr fun _ hJ2 => ?_; refine hJ2 _ _ ?_; refine sq fun K3 hK3 => ?_; refine sr fun _ hJ5 => ?_; refine hJ5 _ _ ?_; refine run_block_k ?_; refine run_loopF (X := Nat) [0, 1] (fun i ρ σ1 => (i ≤ a.length) ∧ (i ≤ b.length) ∧ (a.take i = b.take i) ∧ (ρ 5 = .v (.int .i64 i)) ∧ (σ1 = σ)) (fun i => a.length - i) (0) ?st1 ?rd1
  case st1 =>
   refine ⟨lp, lp, lp, lp, lp⟩
  case rd1 =>
   rintro i ρ1 σ1 hF1 ⟨h1, h2, h3, h5, hσ⟩; obtain rfl := hσ.symm
   have f1 := keepL hF1
   (try simp [KeepL, F] at f1); replace F := aF h5 F; (try replace F := aF f1 F); refine sq fun K6 hK6 => ?_; refine sr fun _ hJ8 => ?_; refine gs 10 (fun g2_4 => ?_) (fun g2_4 => ?_)
   · (try exact nope g2_4); all_goals have g2_4p := g2_4; try simp [F] at g2_4p
     all_goals
      replace F := aF g2_4 F; (try replace F := aF g2_4p F); (iterate 4 refine go2 (k := ?_)); refine hJ8 _ _ ?_; refine cs (fun c15 => ?_) (fun c15 => ?_)
      · (try exact nope c15); all_goals have c15p := c15; try simp [F] at c15p
        all_goals
         replace F := aF c15 F; try replace F := aF c15p F
         have hia : i < a.length := by have h := g2_4; simp at h; omega
         have hib : i < b.length := by have h := c15; simp at h; omega
         have hga := bytesA_get hia
         have hgb := bytesA_get hib
         have hst := ltB_step h3 h1 h2
         rw [List.drop_eq_getElem_cons hia, List.drop_eq_getElem_cons hib] at hst
         obtain ⟨x, hx⟩ : ∃ x, x = a[i] := ⟨_, rfl⟩
         obtain ⟨y, hy⟩ : ∃ y, y = b[i] := ⟨_, rfl⟩
         rw [← hx] at hga hst
         rw [← hy] at hgb hst
         have hia1 : i + 1 ≤ a.length := hia
         have hib1 : i + 1 ≤ b.length := hib
         have hx2 := hx.symm
         have hy2 := hy.symm
         replace F := aF hia (And.intro hib (And.intro hga (And.intro hgb (And.intro hia1 (And.intro hib1 (And.intro hx2 (And.intro hy2 F))))))); refine run_skip ?_; refine hK6 _ _ ?_; refine sq fun K9 hK9 => ?_; refine run_block_k ?_; refine sq fun K10 hK10 => ?_
         refine run_draw (by kernel_rfl) fun J11 hJ11 => ?_
         refine rp2 0 (k := ?_); refine rp2 1 (k := ?_); refine rp2 2 (k := ?_); refine rp2 3 (k := ?_); refine rp2 4 (k := ?_); refine rp2 5 (k := ?_); refine rp2 6 (k := ?_); refine rp2 7 (k := ?_); refine rp2 8 (k := ?_); refine dd ?_; refine hJ11 _ _ ?_; refine hK10 _ _ ?_; refine cs (fun c26 => ?_) (fun c26 => ?_)
         · (try exact nope c26); all_goals have c26p := c26; try simp [F] at c26p
           all_goals
            replace F := aF c26 F; try replace F := aF c26p F
            have hxy : ¬ x = y := fun e => by subst e; have h := c26; simp at h
            have hst2 : ltB a b = decide (x.toNat < y.toNat) := by rw [hst, ltB, if_neg hxy]
            have hst3 : decide ((x.toNat : Int) < (y.toNat : Int)) = decide (x.toNat < y.toNat) := by rw [decide_eq_decide]; omega
            replace F := aF hst2 (And.intro hst3 F); refine sq fun K12 hK12 => ?_
            refine run_draw (by kernel_rfl) fun J13 hJ13 => ?_
            refine rp2 0 (k := ?_); refine rp2 1 (k := ?_); refine rp2 2 (k := ?_); refine rp2 3 (k := ?_); refine rp2 4 (k := ?_); refine rp2 5 (k := ?_); refine rp2 6 (k := ?_); refine rp2 7 (k := ?_); refine rp2 8 (k := ?_); refine rp2 9 (k := ?_); refine dd ?_; refine hJ13 _ _ ?_; refine hK12 _ _ ?_; refine ra ?_; exact rt
         (try exact nope c26); all_goals have c26p := c26; try simp [F] at c26p
         all_goals
          replace F := aF c26 F; try replace F := aF c26p F
          have hxy : x = y := UInt8.toNat_inj.1 (by have h := c26; simp at h; omega)
          refine run_skip ?_; refine hK9 _ _ ?_; refine rg' (h := fun J14 hJ14 => ?_); refine hJ14 _ _ ?_; refine ⟨(i + 1), ⟨kp, lp, lp, ?_, lp, lp⟩, lp⟩
          · rw [← List.take_append_getElem hia, ← List.take_append_getElem hib, h3, ← hx, ← hy, hxy]
      (try exact nope c15); all_goals have c15p := c15; try simp [F] at c15p
      all_goals
       replace F := aF c15 F; try replace F := aF c15p F
       have hib : i = b.length := by have h := c15; simp at h; omega
       have hst := ltB_step h3 h1 h2
       rw [List.drop_of_length_le (l := b) (by omega), ltB_nil] at hst
       have hst2 : ltB a b = decide ((a.length : Int) < (b.length : Int)) := by rw [hst, eq_comm, decide_eq_false_iff_not]; omega
       replace F := aF hst2 F; refine run_exit ?_; refine hK3 _ _ ?_; refine sr fun _ hJ16 => ?_; refine hJ16 _ _ ?_; refine ra ?_; exact rt
   (try exact nope g2_4); all_goals have g2_4p := g2_4; try simp [F] at g2_4p
   all_goals
    replace F := aF g2_4 F; try replace F := aF g2_4p F
    have hia : i = a.length := by have h := g2_4; simp at h; omega
    have hst := ltB_step h3 h1 h2
    rw [List.drop_of_length_le (by omega)] at hst
    have hst2 : ltB a b = decide ((a.length : Int) < (b.length : Int)) := by rw [hst]; cases hd : b.drop i with | nil => (rw [show ltB [] [] = false from rfl, eq_comm, decide_eq_false_iff_not]; have := List.length_drop (i := i) (l := b); rw [hd] at this; simp at this; omega) | cons z m => (rw [show ltB [] (z :: m) = true from rfl, eq_comm, decide_eq_true_iff]; have := List.length_drop (i := i) (l := b); rw [hd] at this; simp at this; omega)
    replace F := aF hst2 F; (iterate 4 refine no2 (k := ?_)); refine hJ8 _ _ ?_; refine cf ?_; refine run_exit ?_; refine hK3 _ _ ?_; refine sr fun _ hJ18 => ?_; refine hJ18 _ _ ?_; refine ra ?_; exact rt
def rsetGo (is : Bool) (key val : List UInt8) : List Pr → Bool → List Pr → List Pr
  | [], d, out => if d then out else out ++ [⟨key, val⟩]
  | p :: l, d, out =>
    if d = false ∧ ltB key p.k = true then
      (if p.k = key then (if is then rsetGo is key val l true (out ++ [⟨key, val⟩, ⟨key, val⟩]) else rsetGo is key val l true (out ++ [⟨key, val⟩])) else rsetGo is key val l true (out ++ [⟨key, val⟩, p]))
    else (if p.k = key then (if is then rsetGo is key val l true (out ++ [⟨key, val⟩]) else rsetGo is key val l d out) else rsetGo is key val l d (out ++ [p]))

theorem rsetGo_done {is : Bool} {key val : List UInt8} : ∀ {l : List Pr} {out : List Pr}, Srt l → (∀ p ∈ l, ltB key p.k = true) → rsetGo is key val l true out = out ++ l
  | [], out, _, _ => by simp [rsetGo]
  | p :: l, out, h, hk => by
    have l1 := List.pairwise_cons.1 h
    have hp := hk p (List.mem_cons_self ..)
    rw [rsetGo, if_neg (by simp), if_neg (Ne.symm (ltB_ne hp)), rsetGo_done l1.2 (fun q hq => hk q (List.mem_cons_of_mem _ hq))]
    simp
theorem rsetGo_no {key val : List UInt8} : ∀ {l : List Pr} {out : List Pr}, Srt l → rsetGo false key val l true out = out ++ setL l key none
  | [], out, _ => by simp [rsetGo, setL]
  | p :: l, out, h => by
    have l1 := List.pairwise_cons.1 h
    rw [rsetGo, if_neg (by simp)]
    by_cases hk : p.k = key
    · have hn : setL l key none = l := by
        have := setL_at (k := key) (o := none) l1.2
        rw [getL_none_lt l1.2 (fun q hq => by rw [← hk]; exact l1.1 q hq)] at this
        exact this
      rw [if_pos hk, if_neg (by simp), rsetGo_no l1.2, hn]
      rw [setL.eq_def]; simp only; rw [if_pos hk]
    · rw [if_neg hk, rsetGo_no l1.2]
      conv => rhs; rw [setL.eq_def]
      simp only
      rw [if_neg hk]
      split
      · rename_i hlt
        have hn : setL l key none = l := by
          have := setL_at (k := key) (o := none) l1.2
          rw [getL_none_lt l1.2 (fun q hq => ltB_trans hlt (l1.1 q hq))] at this
          exact this
        rw [hn]; simp
      · simp
theorem rsetGo_yes {key val : List UInt8} : ∀ {l : List Pr} {out : List Pr}, Srt l → rsetGo true key val l false out = out ++ setL l key (some val)
  | [], out, _ => by simp [rsetGo, setL]
  | p :: l, out, h => by
    have l1 := List.pairwise_cons.1 h
    rw [rsetGo]
    by_cases hlt : ltB key p.k = true
    · have hne : ¬ p.k = key := Ne.symm (ltB_ne hlt)
      rw [if_pos ⟨rfl, hlt⟩, if_neg hne, rsetGo_done l1.2 (fun q hq => ltB_trans hlt (l1.1 q hq))]
      rw [setL.eq_def]; simp only; rw [if_neg hne, if_pos hlt]
      simp
    · rw [if_neg (fun h => hlt h.2)]
      by_cases hk : p.k = key
      · rw [if_pos hk, if_pos rfl, rsetGo_done l1.2 (fun q hq => by rw [← hk]; exact l1.1 q hq)]
        rw [setL.eq_def]; simp only; rw [if_pos hk]
        simp
      · rw [if_neg hk, rsetGo_yes l1.2]
        conv => rhs; rw [setL.eq_def]
        simp only
        rw [if_neg hk, if_neg hlt]
        simp
theorem rsetGo_all {key val : List UInt8} {is : Bool} {l : List Pr} (h : Srt l) : rsetGo is key val l (!is) [] = setL l key (if is then some val else none) := by
  cases is with
  | true => simpa using rsetGo_yes (key := key) (val := val) (out := []) h
  | false => simpa using rsetGo_no (key := key) (val := val) (out := []) h

structure RsS where
  i : Nat
  d : Bool
  out : List Pr

theorem prsC_one (p : Pr) : prsC [p] = [.sl 1 (bytesA p.k) p.k.length .shut, .sl 1 (bytesA p.v) p.v.length .shut] := rfl

set_option maxHeartbeats 1600000 in
attribute [local simp] undefA List.getElem?_cons_zero List.getElem?_cons_succ drop_mr byC lsA_nil lsT_nil lsZ_nil lsL_nil in
theorem rset_ok {σ : St} {m n : Nat} {L : List Pr} {W V : AV} {key val : List UInt8} {is : Bool} (hm : σ.objs[m]? = some [.sl 2 (prsC L) L.length .shut, W]) (hs : Srt L) (hl : L.length ≤ n) (hn : n ≤ 1000000) (hk : key.length ≤ 1000000)
    (hkl : ∀ p ∈ L, p.k.length ≤ 1000000) (hV : is = true → V = .sl 1 (bytesA val) val.length .shut) (hW : W.under σ.bd = true) :
    CallsA Try.prog 73 [.ptr m 0, .sl 1 (bytesA key) key.length .shut, V, .v (.bool is)] σ (fun av σ' => av = .tup [] ∧ σ' = { σ with objs := σ.objs.set m [.sl 2 (prsC (setL L key (if is then some val else none))) (setL L key (if is then some val else none)).length .shut, W] }) := by
  have hbd := prsC_under σ.bd
  refine callsA_gcT (A := .tup []) (τ := { σ with objs := σ.objs.set m [.sl 2 (prsC (setL L key (if is then some val else none))) (setL L key (if is then some val else none)).length .shut, W] }) ?_ rfl (by simp) rfl rfl rfl (ku_set (ku_refl _) (by simp [underL, AV.under, hbd, hW])) (kur_refl _)
  have hT := rsetGo_all (key := key) (val := val) (is := is) hs
  obtain ⟨T, hTd⟩ : ∃ T, T = setL L key (if is then some val else none) := ⟨_, rfl⟩
  rw [← hTd] at hT ⊢
  have hsm := set_self_of hm
  refine callsA_wkS (Q := fun av σ' => av = .tup [] ∧ ∃ tk q, σ' = { σ with objs := σ.objs.set m [lsA q 2 (prsC T) T.length, W], toks := σ.toks ++ tk }) ?_ (fun av σ' h => by
    obtain ⟨rfl, tk, q, rfl⟩ := h
    exact ⟨.tup [], { σ with objs := σ.objs.set m [.sl 2 (prsC T) T.length .shut, W], toks := σ.toks ++ tk }, Wk.refl _, WkS.set (σ := { σ with toks := σ.toks ++ tk }) (.cons (lsA_wk (cs := prsC T) (n := T.length) (fun h => by rw [List.eq_nil_of_length_eq_zero h]; rfl)) (.cons (Wk.refl _) .nil)), Wk.refl _, [], tk, [], by simp⟩)
  have hap : ∀ (O : List Pr) (c : Pr) objs, O.length ≤ 10000000 → appendA Try.prog 29 (lsA σ.toks.length 2 (prsC O) O.length) (.sl 2 [.sl 1 (bytesA c.k) c.k.length .shut, .sl 1 (bytesA c.v) c.v.length .shut] 1 .full) ⟨objs, σ.toks ++ lsT O.length, σ.gl, σ.rows⟩ = some (lsA σ.toks.length 2 (prsC (O ++ [c])) (O.length + 1), ⟨objs, σ.toks ++ lsT (O.length + 1), σ.gl, σ.rows⟩) := fun O c objs hO => by
    rw [prsC_app, prsC_one]
    exact append_ls elemT_29 ti_132 (by decide) rfl (fun h => by rw [List.eq_nil_of_length_eq_zero h]; rfl) rfl (by omega) (by simp only [roomA]; omega) (by simp only [maxLen]; omega)
  have hlc := prsC_len L
  have F := And.intro hm (And.intro hlc (And.intro hsm (True.intro)))
  refine callsA_body Try.func73 rfl rfl rfl ?_; refine sr fun _ hJ2 => ?_; refine hJ2 _ _ ?_; refine sr fun _ hJ4 => ?_; refine hJ4 _ _ ?_; refine sq fun K5 hK5 => ?_; refine sr fun _ hJ7 => ?_; refine hJ7 _ _ ?_; refine run_block_k ?_; refine run_loopF (X := RsS) [0, 1, 2, 3] (fun x ρ σ1 => (x.i ≤ L.length) ∧ (rsetGo is key val (L.drop x.i) x.d x.out = T) ∧ (x.out.length ≤ 2 * x.i) ∧ (x.d = false → is = true) ∧ (ρ 10 = .v (.int .i64 x.i)) ∧ (ρ 9 = .v (.bool x.d)) ∧ (ρ 8 = lsA σ.toks.length 2 (prsC x.out) x.out.length) ∧ (σ1 = { σ with toks := σ.toks ++ lsT x.out.length })) (fun x => L.length - x.i) (⟨0, !is, []⟩) ?st1 ?rd1
  case st1 =>
   refine ⟨lp, ?_, lp, ?_, lp, lp, lp, ?_⟩
   · exact hT
   · intro h
     simpa using h
   · simp [lsT_nil]
  case rd1 =>
   rintro x ρ1 σ1 hF1 ⟨h1, h2, h3, h4, h5, h6, h7, hσ⟩; obtain rfl := hσ.symm
   have f1 := keepL hF1
   (try simp [KeepL, F] at f1); replace F := aF h5 F; replace F := aF h6 F; replace F := aF h7 F; (try replace F := aF f1 F); refine sq fun K8 hK8 => ?_; refine sr fun _ hJ10 => ?_; refine hJ10 _ _ ?_; refine cs (fun c19 => ?_) (fun c19 => ?_)
   · (try exact nope c19); all_goals have c19p := c19; try simp [F] at c19p
     all_goals
      replace F := aF c19 F; try replace F := aF c19p F
      have hlt : x.i < L.length := by have h := c19; simp at h; omega
      obtain ⟨p, hp⟩ : ∃ p, p = L[x.i] := ⟨_, rfl⟩
      have hat := (prsC_at hlt).1
      have hat2 : List.take 2 (List.drop (x.i * 2) (prsC L)) = [byC p.k, byC p.v] := by rw [prsC_drop, List.drop_eq_getElem_cons hlt, ← hp]; rfl
      rw [← hp] at hat
      have hpl := hkl p (by rw [hp]; exact List.getElem_mem _)
      simp only [byC] at hat hat2
      have hatE : ∀ h : x.i * 2 < (prsC L).length, (prsC L)[x.i * 2]'h = .sl 1 (bytesA p.k) p.k.length .shut := fun h => (List.getElem?_eq_some_iff.1 hat).2
      have hb2 : x.i * 2 + 2 ≤ L.length * 2 := by omega
      have hi1 : x.i + 1 ≤ L.length := hlt
      have hgo : L.drop x.i = p :: L.drop (x.i + 1) := by rw [hp]; exact List.drop_eq_getElem_cons hlt
      rw [hgo, rsetGo] at h2
      have hap0 := fun c objs => hap x.out c objs (by omega)
      have hap1 := fun c objs => hap (x.out ++ [⟨key, val⟩]) c objs (by simp; omega)
      simp only [List.length_append, List.length_cons, List.length_nil, Nat.zero_add] at hap1
      have hk0 := hap0 ⟨key, val⟩
      have hp0 := hap0 p
      have hk1 := hap1 ⟨key, val⟩
      have hp1 := hap1 p
      replace F := aF hlt (And.intro hatE (And.intro hat2 (And.intro hb2 (And.intro hi1 (And.intro hk0 (And.intro hp0 (And.intro hk1 (And.intro hp1 F)))))))); refine run_skip ?_; refine hK8 _ _ ?_; refine sq fun K11 hK11 => ?_; refine run_block_k ?_; refine sq fun K12 hK12 => ?_; refine sr fun _ hJ14 => ?_; refine gs 24 (fun g5_2 => ?_) (fun g5_2 => ?_)
      · (try exact nope g5_2); all_goals have g5_2p := g5_2; try simp [F] at g5_2p
        all_goals
         replace F := aF g5_2 F; (try replace F := aF g5_2p F); (iterate 9 refine go2 (k := ?_)); refine ca (c := less_ok (a := key) (b := p.k) hk hpl) (k := ?_); rintro _ _ ⟨rfl, rfl⟩; (repeat (first | simp [F] | simp (disch := omega) only [wC, if_pos, if_neg])); refine hJ14 _ _ ?_; refine cs (fun c35 => ?_) (fun c35 => ?_)
         · (try exact nope c35); all_goals have c35p := c35; try simp [F] at c35p
           all_goals
            replace F := aF c35 F; try replace F := aF c35p F
            have hd : x.d = false := by have h := g5_2; simpa using h
            have hVe := hV (h4 hd)
            have hlk : ltB key p.k = true := by have h := c35; simpa using h
            rw [if_pos ⟨hd, hlk⟩] at h2
            replace F := aF hVe F; refine sr fun _ hJ16 => ?_; refine hJ16 _ _ ?_; refine rg' (h := fun J17 hJ17 => ?_); refine hJ17 _ _ ?_; refine hK12 _ _ ?_; refine sr fun _ hJ19 => ?_; refine ca (c := same_ok (p := p.k) (q := key) hpl) (k := ?_); rintro _ _ ⟨rfl, rfl⟩; (repeat (first | simp [F] | simp (disch := omega) only [wC, if_pos, if_neg])); refine hJ19 _ _ ?_; refine cs (fun c52 => ?_) (fun c52 => ?_)
            · (try exact nope c52); all_goals have c52p := c52; try simp [F] at c52p
              all_goals
               replace F := aF c52 F; try replace F := aF c52p F
               have hne : ¬ p.k = key := by have h := c52; simpa using h
               rw [if_neg hne] at h2
               refine rg' (h := fun J20 hJ20 => ?_); refine hJ20 _ _ ?_; refine hK11 _ _ ?_; refine rg' (h := fun J21 hJ21 => ?_); refine hJ21 _ _ ?_; refine ⟨(⟨x.i + 1, true, x.out ++ [⟨key, val⟩, p]⟩), ⟨kp, lp, ?_, lp, lp, lp, lp, lp, lp⟩, lp⟩
               · exact h2
            (try exact nope c52); all_goals have c52p := c52; try simp [F] at c52p
            all_goals
             replace F := aF c52 F; try replace F := aF c52p F
             have heq : p.k = key := by have h := c52; simpa using h
             rw [if_pos heq] at h2
             refine sr fun _ hJ23 => ?_; refine hJ23 _ _ ?_; refine cs (fun c63 => ?_) (fun c63 => ?_)
             · (try exact nope c63); all_goals have c63p := c63; try simp [F] at c63p
               all_goals
                replace F := aF c63 F; try replace F := aF c63p F
                have his : is = true := by have h := c63; simpa using h
                rw [if_pos his] at h2
                have hVe := hV his
                replace F := aF hVe F; refine sr fun _ hJ25 => ?_; refine hJ25 _ _ ?_; refine rg' (h := fun J26 hJ26 => ?_); refine hJ26 _ _ ?_; refine hK11 _ _ ?_; refine rg' (h := fun J27 hJ27 => ?_); refine hJ27 _ _ ?_; refine ⟨(⟨x.i + 1, true, x.out ++ [⟨key, val⟩, ⟨key, val⟩]⟩), ⟨kp, lp, ?_, lp, lp, lp, lp, lp, lp⟩, lp⟩
                · exact h2
             (try exact nope c63); all_goals have c63p := c63; try simp [F] at c63p
             all_goals
              replace F := aF c63 F; try replace F := aF c63p F
              have his : is = false := by have h := c63; simpa using h
              rw [if_neg (by rw [his]; simp)] at h2
              refine run_skip ?_; refine hK11 _ _ ?_; refine rg' (h := fun J28 hJ28 => ?_); refine hJ28 _ _ ?_; refine ⟨(⟨x.i + 1, true, x.out ++ [⟨key, val⟩]⟩), ⟨kp, lp, ?_, lp, lp, lp, lp, lp, lp⟩, lp⟩
              · exact h2
         (try exact nope c35); all_goals have c35p := c35; try simp [F] at c35p
         all_goals
          replace F := aF c35 F; try replace F := aF c35p F
          have hlk : ltB key p.k = false := by have h := c35; simpa using h
          rw [if_neg (by rw [hlk]; simp)] at h2
          refine run_skip ?_; refine hK12 _ _ ?_; refine sr fun _ hJ30 => ?_; refine ca (c := same_ok (p := p.k) (q := key) hpl) (k := ?_); rintro _ _ ⟨rfl, rfl⟩; (repeat (first | simp [F] | simp (disch := omega) only [wC, if_pos, if_neg])); refine hJ30 _ _ ?_; refine cs (fun c52 => ?_) (fun c52 => ?_)
          · (try exact nope c52); all_goals have c52p := c52; try simp [F] at c52p
            all_goals
             replace F := aF c52 F; try replace F := aF c52p F
             have hne : ¬ p.k = key := by have h := c52; simpa using h
             rw [if_neg hne] at h2
             refine rg' (h := fun J31 hJ31 => ?_); refine hJ31 _ _ ?_; refine hK11 _ _ ?_; refine rg' (h := fun J32 hJ32 => ?_); refine hJ32 _ _ ?_; refine ⟨(⟨x.i + 1, x.d, x.out ++ [p]⟩), ⟨kp, lp, ?_, lp, lp, lp, lp, lp, lp⟩, lp⟩
             · exact h2
          (try exact nope c52); all_goals have c52p := c52; try simp [F] at c52p
          all_goals
           replace F := aF c52 F; try replace F := aF c52p F
           have heq : p.k = key := by have h := c52; simpa using h
           rw [if_pos heq] at h2
           refine sr fun _ hJ34 => ?_; refine hJ34 _ _ ?_; refine cs (fun c63 => ?_) (fun c63 => ?_)
           · (try exact nope c63); all_goals have c63p := c63; try simp [F] at c63p
             all_goals
              replace F := aF c63 F; try replace F := aF c63p F
              have his : is = true := by have h := c63; simpa using h
              rw [if_pos his] at h2
              have hVe := hV his
              replace F := aF hVe F; refine sr fun _ hJ36 => ?_; refine hJ36 _ _ ?_; refine rg' (h := fun J37 hJ37 => ?_); refine hJ37 _ _ ?_; refine hK11 _ _ ?_; refine rg' (h := fun J38 hJ38 => ?_); refine hJ38 _ _ ?_; refine ⟨(⟨x.i + 1, true, x.out ++ [⟨key, val⟩]⟩), ⟨kp, lp, ?_, lp, lp, lp, lp, lp, lp⟩, lp⟩
              · exact h2
           (try exact nope c63); all_goals have c63p := c63; try simp [F] at c63p
           all_goals
            replace F := aF c63 F; try replace F := aF c63p F
            have his : is = false := by have h := c63; simpa using h
            rw [if_neg (by rw [his]; simp)] at h2
            refine run_skip ?_; refine hK11 _ _ ?_; refine rg' (h := fun J39 hJ39 => ?_); refine hJ39 _ _ ?_; refine ⟨(⟨x.i + 1, x.d, x.out⟩), ⟨kp, lp, ?_, lp, lp, lp, lp, lp, lp⟩, lp⟩
            · exact h2
      (try exact nope g5_2); all_goals have g5_2p := g5_2; try simp [F] at g5_2p
      all_goals
       replace F := aF g5_2 F; try replace F := aF g5_2p F
       have hd : x.d = true := by have h := g5_2; simpa using h
       rw [if_neg (by rw [hd]; simp)] at h2
       (iterate 10 refine no2 (k := ?_)); refine hJ14 _ _ ?_; refine cf ?_; refine run_skip ?_; refine hK12 _ _ ?_; refine sr fun _ hJ41 => ?_; refine ca (c := same_ok (p := p.k) (q := key) hpl) (k := ?_); rintro _ _ ⟨rfl, rfl⟩; (repeat (first | simp [F] | simp (disch := omega) only [wC, if_pos, if_neg])); refine hJ41 _ _ ?_; refine cs (fun c52 => ?_) (fun c52 => ?_)
       · (try exact nope c52); all_goals have c52p := c52; try simp [F] at c52p
         all_goals
          replace F := aF c52 F; try replace F := aF c52p F
          have hne : ¬ p.k = key := by have h := c52; simpa using h
          rw [if_neg hne] at h2
          refine rg' (h := fun J42 hJ42 => ?_); refine hJ42 _ _ ?_; refine hK11 _ _ ?_; refine rg' (h := fun J43 hJ43 => ?_); refine hJ43 _ _ ?_; refine ⟨(⟨x.i + 1, x.d, x.out ++ [p]⟩), ⟨kp, lp, ?_, lp, lp, lp, lp, lp, lp⟩, lp⟩
          · exact h2
       (try exact nope c52); all_goals have c52p := c52; try simp [F] at c52p
       all_goals
        replace F := aF c52 F; try replace F := aF c52p F
        have heq : p.k = key := by have h := c52; simpa using h
        rw [if_pos heq] at h2
        refine sr fun _ hJ45 => ?_; refine hJ45 _ _ ?_; refine cs (fun c63 => ?_) (fun c63 => ?_)
        · (try exact nope c63); all_goals have c63p := c63; try simp [F] at c63p
          all_goals
           replace F := aF c63 F; try replace F := aF c63p F
           have his : is = true := by have h := c63; simpa using h
           rw [if_pos his] at h2
           have hVe := hV his
           replace F := aF hVe F; refine sr fun _ hJ47 => ?_; refine hJ47 _ _ ?_; refine rg' (h := fun J48 hJ48 => ?_); refine hJ48 _ _ ?_; refine hK11 _ _ ?_; refine rg' (h := fun J49 hJ49 => ?_); refine hJ49 _ _ ?_; refine ⟨(⟨x.i + 1, true, x.out ++ [⟨key, val⟩]⟩), ⟨kp, lp, ?_, lp, lp, lp, lp, lp, lp⟩, lp⟩
           · exact h2
        (try exact nope c63); all_goals have c63p := c63; try simp [F] at c63p
        all_goals
         replace F := aF c63 F; try replace F := aF c63p F
         have his : is = false := by have h := c63; simpa using h
         rw [if_neg (by rw [his]; simp)] at h2
         refine run_skip ?_; refine hK11 _ _ ?_; refine rg' (h := fun J50 hJ50 => ?_); refine hJ50 _ _ ?_; refine ⟨(⟨x.i + 1, x.d, x.out⟩), ⟨kp, lp, ?_, lp, lp, lp, lp, lp, lp⟩, lp⟩
         · exact h2
   (try exact nope c19); all_goals have c19p := c19; try simp [F] at c19p
   all_goals
    replace F := aF c19 F; try replace F := aF c19p F
    have hde : L.drop x.i = [] := List.drop_of_length_le (by have h := c19; simp at h; omega)
    rw [hde, rsetGo] at h2
    refine run_exit ?_; refine hK5 _ _ ?_; refine sq fun K51 hK51 => ?_; refine sr fun _ hJ53 => ?_; refine hJ53 _ _ ?_; refine cs (fun c71 => ?_) (fun c71 => ?_)
    · (try exact nope c71); all_goals have c71p := c71; try simp [F] at c71p
      all_goals
       replace F := aF c71 F; try replace F := aF c71p F
       have hd : x.d = false := by have h := c71; simpa using h
       have hVe := hV (h4 hd)
       have hap0 := fun c objs => hap x.out c objs (by omega)
       have hk0 := hap0 ⟨key, val⟩
       rw [if_neg (by rw [hd]; simp)] at h2
       replace F := aF hVe (And.intro hk0 F); refine rg' (h := fun J54 hJ54 => ?_); refine hJ54 _ _ ?_; refine hK51 _ _ ?_; refine rg' (h := fun J55 hJ55 => ?_); refine hJ55 _ _ ?_; (try simp only [Then, InBlock, NoGoto, if_true]); refine answer_none rfl (.inl rfl) ?_; refine ⟨rfl, lsT (x.out.length + 1), σ.toks.length, ?_⟩
       rw [← h2]
       simp [F]
    (try exact nope c71); all_goals have c71p := c71; try simp [F] at c71p
    all_goals
     replace F := aF c71 F; try replace F := aF c71p F
     have hd : x.d = true := by have h := c71; simpa using h
     rw [if_pos hd] at h2
     refine run_skip ?_; refine hK51 _ _ ?_; refine rg' (h := fun J56 hJ56 => ?_); refine hJ56 _ _ ?_; (try simp only [Then, InBlock, NoGoto, if_true]); refine answer_none rfl (.inl rfl) ?_; refine ⟨rfl, lsT x.out.length, σ.toks.length, ?_⟩
     rw [← h2]
def wasC (l : List (List Pr)) : List AV := l.map fun w => .sl 2 (prsC w) w.length .shut
theorem wasC_len (l : List (List Pr)) : (wasC l).length = l.length := by simp [wasC]
theorem wasC_app (l m : List (List Pr)) : wasC (l ++ m) = wasC l ++ wasC m := by simp [wasC]
theorem wasC_under (B : Bd) : ∀ l : List (List Pr), underL B (wasC l) = true
  | [] => rfl
  | a :: l => by
    have ih := wasC_under B l
    simp only [wasC, List.map_cons, underL, AV.under, prsC_under, Bool.true_and] at ih ⊢; exact ih
theorem wasC_at {l : List (List Pr)} {i : Nat} (h : i < l.length) : (wasC l)[i]? = some (.sl 2 (prsC l[i]) l[i].length .shut) := by simp [wasC, h]
theorem wasC_take (l : List (List Pr)) (n : Nat) : (wasC l).take n = wasC (l.take n) := by simp [wasC]

attribute [local simp] appendA rowAppA readA roomA maxLen zeroCell Value.oneCell' Value.cells in
set_option maxHeartbeats 1600000 in
attribute [local simp] undefA List.getElem?_cons_zero List.getElem?_cons_succ in
theorem rbegin_ok {σ : St} {m q g : Nat} {L : List Pr} {w : List (List Pr)} (hm : σ.objs[m]? = some [.sl 2 (prsC L) L.length .shut, .row q g 0 1 w.length]) (hr : σ.rows[q]? = some ⟨g, wasC w, none⟩) (hn : w.length ≤ 1000000) :
    CallsA Try.prog 74 [.ptr m 0] σ (fun av σ' => av = .tup [] ∧ σ' = { σ with objs := σ.objs.set m [.sl 2 (prsC L) L.length .shut, .row q (g + 1) 0 1 (w ++ [L]).length], rows := σ.rows.set q ⟨g + 1, wasC (w ++ [L]), none⟩ }) := by
  have hul := wasC_len w
  have hut : List.take w.length (wasC w) = wasC w := List.take_of_length_le (by omega)
  have hrm : (w.length + 1) * 24 ≤ 140737488355328 := by omega
  have hmx : w.length + 1 ≤ 9223372036854775807 := by omega
  have hua : wasC (w ++ [L]) = wasC w ++ [.sl 2 (prsC L) L.length .shut] := by rw [wasC_app]; rfl
  have F := And.intro hm (And.intro hr (And.intro hul (And.intro hut (And.intro hrm (And.intro hmx (True.intro))))))
  refine callsA_body Try.func74 rfl rfl rfl ?_
  refine run_draw (by kernel_rfl) fun J1 hJ1 => ?_
  refine rp2 0 (k := ?_); refine rp2 1 (k := ?_); refine rp2 2 (k := ?_); refine rp2 3 (k := ?_); refine rp2 4 (k := ?_); refine rp2 5 (k := ?_); refine rp2 6 (k := ?_); refine rp2 7 (k := ?_); refine rp2 8 (k := ?_); refine rp2 9 (k := ?_); refine dop 10 rfl ?_; repeat (first | simp [F] | simp (disch := omega) only [wC, if_pos, if_neg])
  refine ⟨by first | exact fun _ _ h => h | (refine later_list [8, 7, 6, 5, 3, 2, 1, 0] (by kernel_rfl) (List.forall_mem_cons.2 ⟨fun _ => fact2 rfl rfl ?_, List.forall_mem_cons.2 ⟨fun _ => fact2 rfl rfl ?_, List.forall_mem_cons.2 ⟨fun _ => fact2 rfl rfl ?_, List.forall_mem_cons.2 ⟨fun _ => fact2 rfl rfl ?_, List.forall_mem_cons.2 ⟨fun _ => fact2 rfl rfl ?_, List.forall_mem_cons.2 ⟨fun _ => fact2 rfl rfl ?_, List.forall_mem_cons.2 ⟨fun _ => fact2 rfl rfl ?_, List.forall_mem_cons.2 ⟨fun _ => fact2 rfl rfl ?_, fun _ h => absurd h List.not_mem_nil⟩⟩⟩⟩⟩⟩⟩⟩) <;> constructor <;> first | rfl | (simp [F]; done)), ?_⟩
  refine rp2 11 (k := ?_); refine rp2 12 (k := ?_); refine dop 13 rfl ?_; repeat (first | simp [F] | simp (disch := omega) only [wC, if_pos, if_neg])
  refine ⟨by first | exact fun _ _ h => h | (refine later_list [11] (by kernel_rfl) (List.forall_mem_cons.2 ⟨fun _ => fact2 rfl rfl ?_, fun _ h => absurd h List.not_mem_nil⟩) <;> constructor <;> first | rfl | (simp [F]; done)), ?_⟩
  refine dd ?_; refine hJ1 _ _ ?_; (try simp only [Then, InBlock, NoGoto, if_true]); refine answer_none rfl (.inl rfl) ?_; refine ⟨rfl, ?_⟩; simp [F, hua]

set_option maxHeartbeats 1600000 in
attribute [local simp] undefA List.getElem?_cons_zero List.getElem?_cons_succ in
theorem rend_no {σ : St} {m : Nat} {A : AV} {q g : Nat} {stay : Bool} (hm : σ.objs[m]? = some [A, .row q g 0 1 0]) :
    CallsA Try.prog 75 [.ptr m 0, .v (.bool stay)] σ (fun av σ' => av = .v (.bool false) ∧ σ = σ') := by
  have F := And.intro hm (True.intro)
  refine callsA_body Try.func75 rfl rfl rfl ?_; refine sr fun _ hJ2 => ?_; refine hJ2 _ _ ?_; refine sr fun _ hJ4 => ?_; refine hJ4 _ _ ?_; refine sq fun K5 hK5 => ?_; refine sr fun _ hJ7 => ?_; refine hJ7 _ _ ?_; refine ct ?_; refine sr fun _ hJ9 => ?_; refine hJ9 _ _ ?_; refine ra ?_; exact rt

set_option maxHeartbeats 1600000 in
attribute [local simp] undefA List.getElem?_cons_zero List.getElem?_cons_succ in
theorem rend_ok {σ : St} {m q g : Nat} {L : List Pr} {w : List (List Pr)} {stay : Bool} (hm : σ.objs[m]? = some [.sl 2 (prsC L) L.length .shut, .row q g 0 1 w.length]) (hr : σ.rows[q]? = some ⟨g, wasC w, none⟩) (hn : w.length ≤ 1000000) (hw : w ≠ []) :
    CallsA Try.prog 75 [.ptr m 0, .v (.bool stay)] σ (fun av σ' => av = .v (.bool true) ∧ σ' = { σ with objs := σ.objs.set m [.sl 2 (prsC (if stay then L else w.getLastD [])) (if stay then L else w.getLastD []).length .shut, .row q g 0 1 w.dropLast.length], rows := σ.rows.set q ⟨g, wasC w.dropLast, none⟩ }) := by
  have h0 : 0 < w.length := List.length_pos_iff.2 hw
  have hdl : w.take (w.length - 1) = w.dropLast := (List.dropLast_eq_take ..).symm
  have hdn : (w.dropLast).length = w.length - 1 := by simp
  have hwl := wasC_len w
  refine callsA_mono (callsA_less (A := .v (.bool true)) (τ := { σ with objs := σ.objs.set m [.sl 2 (prsC (if stay then L else w.getLastD [])) (if stay then L else w.getLastD []).length .shut, .row q g 0 1 (w.length - 1)] }) (q := q) (n := w.length - 1) ?_ hr (by omega)) (fun av σ' ⟨e1, e2⟩ => ⟨e1, by rw [e2, wasC_take, hdl, hdn]⟩)
  have hlast := wasC_at (l := w) (i := w.length - 1) (by omega)
  obtain ⟨M, hM⟩ : ∃ M, M = w.getLastD [] := ⟨_, rfl⟩
  have hgl : w[w.length - 1] = M := by rw [hM, List.getLastD_eq_getLast?, List.getLast?_eq_getElem?, List.getElem?_eq_getElem (by omega)]; rfl
  rw [hgl] at hlast
  have hlE : ∀ h : w.length - 1 < (wasC w).length, (wasC w)[w.length - 1]'h = .sl 2 (prsC M) M.length .shut := fun h => (List.getElem?_eq_some_iff.1 hlast).2
  have hws : IntKind.i64.wrap ((w.length : Int) - 1) = ((w.length - 1 : Nat) : Int) := by rw [wrap_i64 _ (by omega) (by omega)]; omega
  have hz : ((w.length : Int) == 0) = false := by simp; omega
  have hi1 : w.length - 1 < w.length := by omega
  have hi2 : w.length - 1 + 1 ≤ w.length := by omega
  have hset : ∀ x : List AV, (σ.objs.set m x)[m]? = some x := set_self_of hm
  rw [← hM]
  have F := And.intro hm (And.intro hr (And.intro hws (And.intro hz (And.intro hlE (And.intro hi1 (And.intro hwl (And.intro hi2 (And.intro hset (True.intro)))))))))
  refine callsA_body Try.func75 rfl rfl rfl ?_; refine sr fun _ hJ2 => ?_; refine hJ2 _ _ ?_; refine sr fun _ hJ4 => ?_; refine hJ4 _ _ ?_; refine sq fun K5 hK5 => ?_; refine sr fun _ hJ7 => ?_; refine hJ7 _ _ ?_; refine cf ?_; refine run_skip ?_; refine hK5 _ _ ?_; refine sq fun K8 hK8 => ?_; refine sr fun _ hJ10 => ?_; refine hJ10 _ _ ?_; refine cs (fun c14 => ?_) (fun c14 => ?_)
  · (try exact nope c14); all_goals have c14p := c14; try simp [F] at c14p
    all_goals
     replace F := aF c14 F; try replace F := aF c14p F
     have hst : stay = false := by have h := c14; simpa using h
     replace F := aF hst F; refine rg' (h := fun J11 hJ11 => ?_); refine hJ11 _ _ ?_; refine hK8 _ _ ?_; refine sr fun _ hJ13 => ?_; refine hJ13 _ _ ?_; refine sr fun _ hJ15 => ?_; refine hJ15 _ _ ?_; refine ra ?_
     refine ⟨by simp [F], ?_⟩
     simp [F]
  (try exact nope c14); all_goals have c14p := c14; try simp [F] at c14p
  all_goals
   replace F := aF c14 F; try replace F := aF c14p F
   have hst : stay = true := by have h := c14; simpa using h
   replace F := aF hst F; refine run_skip ?_; refine hK8 _ _ ?_; refine sr fun _ hJ17 => ?_; refine hJ17 _ _ ?_; refine sr fun _ hJ19 => ?_; refine hJ19 _ _ ?_; refine ra ?_
   refine ⟨by simp [F], ?_⟩
   simp [F]
structure RS where
  L : List Pr
  was : List (List Pr)
  g : Nat
def rmC (q : Nat) (M : RS) : List AV := [.sl 2 (prsC M.L) M.L.length .shut, .row q M.g 0 1 M.was.length]
def rmR (M : RS) : RowSt := ⟨M.g, wasC M.was, none⟩
structure HasR (σ : St) (m q : Nat) (M : RS) : Prop where
  o : σ.objs[m]? = some (rmC q M)
  r : σ.rows[q]? = some (rmR M)
def putR (σ : St) (m q : Nat) (M : RS) : St := { σ with objs := σ.objs.set m (rmC q M), rows := σ.rows.set q (rmR M) }
theorem HasR.put {σ : St} {m q : Nat} {M : RS} (h : HasR σ m q M) (M' : RS) : HasR (putR σ m q M') m q M' := ⟨set_self_of h.o _, set_self_of h.r _⟩
theorem HasR.app {σ : St} {m q : Nat} {M : RS} (h : HasR σ m q M) (l : List (List AV)) : HasR { σ with objs := σ.objs ++ l } m q M := ⟨by simp only; rw [List.getElem?_append_left (lt_of_get h.o)]; exact h.o, h.r⟩
structure Apart (o k m q : Nat) : Prop where
  o : o ≠ m
  k0 : q ≠ k
  k1 : q ≠ k + 1
  k2 : q ≠ k + 2
theorem HasR.putS {σ : St} {o k m q : Nat} {M : RS} (h : HasR σ m q M) (ha : Apart o k m q) (G : Sg) : HasR (putS σ o k G) m q M :=
  ⟨by simp only [Go.Vm.putS]; rw [List.getElem?_set_ne ha.o]; exact h.o, by simp only [Go.Vm.putS]; rw [List.getElem?_set_ne (Ne.symm ha.k2), List.getElem?_set_ne (Ne.symm ha.k1), List.getElem?_set_ne (Ne.symm ha.k0)]; exact h.r⟩
theorem HasS.putR {σ : St} {o k m q : Nat} {G : Sg} (h : HasS σ o k G) (ha : Apart o k m q) (M : RS) : HasS (putR σ m q M) o k G :=
  ⟨by simp only [Proofs.Ytlkajgjaidedkaa.putR]; rw [List.getElem?_set_ne (Ne.symm ha.o)]; exact h.o, by simp only [Proofs.Ytlkajgjaidedkaa.putR]; rw [List.getElem?_set_ne ha.k0]; exact h.r1, by simp only [Proofs.Ytlkajgjaidedkaa.putR]; rw [List.getElem?_set_ne ha.k1]; exact h.r2, by simp only [Proofs.Ytlkajgjaidedkaa.putR]; rw [List.getElem?_set_ne ha.k2]; exact h.r3⟩
theorem putR_self {σ : St} {m q : Nat} {M : RS} (h : HasR σ m q M) : putR σ m q M = σ := by
  simp only [putR]; rw [set_same' h.o, set_same' h.r]
theorem putS_app {σ : St} {o k : Nat} {G : Sg} (h : HasS σ o k G) (G' : Sg) (l : List (List AV)) : putS { σ with objs := σ.objs ++ l } o k G' = { putS σ o k G' with objs := (putS σ o k G').objs ++ l } := by
  simp only [putS]; rw [List.set_append_left _ _ (lt_of_get h.o)]
theorem putR_app {σ : St} {m q : Nat} {M : RS} (h : HasR σ m q M) (M' : RS) (l : List (List AV)) : putR { σ with objs := σ.objs ++ l } m q M' = { putR σ m q M' with objs := (putR σ m q M').objs ++ l } := by
  simp only [putR]; rw [List.set_append_left _ _ (lt_of_get h.o)]

theorem rsetR {σ : St} {m q n : Nat} {M : RS} {V : AV} {key val : List UInt8} {is : Bool} (h : HasR σ m q M) (hs : Srt M.L) (hl : M.L.length ≤ n) (hn : n ≤ 1000000) (hk : key.length ≤ 1000000)
    (hkl : ∀ p ∈ M.L, p.k.length ≤ 1000000) (hV : is = true → V = .sl 1 (bytesA val) val.length .shut) :
    CallsA Try.prog 73 [.ptr m 0, .sl 1 (bytesA key) key.length .shut, V, .v (.bool is)] σ (fun av σ' => av = .tup [] ∧ σ' = putR σ m q ⟨setL M.L key (if is then some val else none), M.was, M.g⟩) :=
  callsA_mono (rset_ok h.o hs hl hn hk hkl hV (decide_eq_true (lt_of_get h.r))) (fun av σ' ⟨e1, e2⟩ => ⟨e1, by rw [e2]; simp only [putR, rmC]; congr 1; exact (set_same' h.r).symm⟩)
theorem rbeginR {σ : St} {m q : Nat} {M : RS} (h : HasR σ m q M) (hn : M.was.length ≤ 1000000) :
    CallsA Try.prog 74 [.ptr m 0] σ (fun av σ' => av = .tup [] ∧ σ' = putR σ m q ⟨M.L, M.was ++ [M.L], M.g + 1⟩) := rbegin_ok h.o h.r hn
def endR (M : RS) (stay : Bool) : RS := ⟨if M.was = [] then M.L else if stay then M.L else M.was.getLastD [], M.was.dropLast, M.g⟩
theorem rendR {σ : St} {m q : Nat} {M : RS} {stay : Bool} (h : HasR σ m q M) (hn : M.was.length ≤ 1000000) :
    CallsA Try.prog 75 [.ptr m 0, .v (.bool stay)] σ (fun av σ' => av = .v (.bool (decide (M.was ≠ []))) ∧ σ' = putR σ m q (endR M stay)) := by
  by_cases hw : M.was = []
  · have ho := h.o
    rw [rmC, hw] at ho
    refine callsA_mono (rend_no ho) (fun av σ' ⟨e1, e2⟩ => ⟨by rw [e1]; simp [hw], ?_⟩)
    have : endR M stay = M := by
      obtain ⟨L, w, g⟩ := M
      simp only at hw; subst hw; simp [endR]
    rw [this, putR_self h, e2]
  · refine callsA_mono (rend_ok h.o h.r hn hw) (fun av σ' ⟨e1, e2⟩ => ⟨by rw [e1]; simp [hw], ?_⟩)
    rw [e2]
    simp only [putR, rmC, rmR, endR, if_neg hw]

attribute [local simp] appendA readA roomA maxLen in
set_option maxHeartbeats 1600000 in
attribute [local simp] undefA List.getElem?_cons_zero List.getElem?_cons_succ in
theorem join0_ok {σ : St} {p : List UInt8} {t : Tail} (hp : p.length ≤ 1000000) :
    CallsA Try.prog 32 [.sl 1 (bytesA p) p.length t, .sl 0 [] 0 .full] σ (fun av σ' => av = .sl 1 (bytesA p) p.length .shut ∧ σ = σ') := by
  refine callsA_gcS ?_ (by simp [AV.under, under_bytes])
  have h1 : p.length ≤ 140737488355328 := by omega
  have h2 : p.length ≤ 9223372036854775807 := by omega
  have F := And.intro h1 (And.intro h2 (True.intro))
  refine callsA_body Try.func32 rfl rfl rfl ?_; refine sr fun _ hJ2 => ?_; refine hJ2 _ _ ?_; refine sr fun _ hJ4 => ?_; refine hJ4 _ _ ?_; refine sr fun _ hJ6 => ?_; refine hJ6 _ _ ?_; refine sr fun _ hJ8 => ?_; refine hJ8 _ _ ?_; refine ra ?_; exact gcr
end Go.Proofs.Ytlkajgjaidedkaa

/-
  Deeds: the store's and the document's stay alike.
-/
namespace Go.Proofs.Ytlkajgjaidedkaa
set_option linter.unnecessarySimpa false
set_option maxRecDepth 100000
open Go Go.Vm
set_option linter.unusedSimpArgs false
set_option linter.unusedVariables false

structure Ac where
  d : UInt8
  k : List UInt8
  v : List UInt8
def acC (a : Ac) : List AV := [.v (.int .u8 a.d.toNat), byC a.k, byC a.v]
def acsC (l : List Ac) : List AV := l.flatMap acC
def Ac.Few (a : Ac) : Prop := a.k.length ≤ 30 ∧ a.v.length ≤ 60

structure R5 (s : Sto) (M : RS) (n : Nat) : Prop where
  ok : s.Ok n
  l : s.l = M.L
  len : s.marks.length = M.was.length
  roll : ∀ (j : Nat) x w, s.marks[j]? = some x → M.was[j]? = some w → w = unrollL s.l (s.log.drop x)
  mono : s.marks.Pairwise (· ≤ ·)
  wl : ∀ w ∈ M.was, w.length ≤ n

def actS (s : Sto) (a : Ac) : Sto :=
  if a.d.toNat % 8 < 3 then doS s a.k (some a.v) else if a.d.toNat % 8 = 3 then doS s a.k none else if a.d.toNat % 8 < 6 then beginS s else if a.d.toNat % 8 = 6 then commitS s else if s.marks = [] then s else rollS s
def actR (M : RS) (a : Ac) : RS :=
  if a.d.toNat % 8 < 3 then ⟨setL M.L a.k (some a.v), M.was, M.g⟩ else if a.d.toNat % 8 = 3 then ⟨setL M.L a.k none, M.was, M.g⟩ else if a.d.toNat % 8 < 6 then ⟨M.L, M.was ++ [M.L], M.g + 1⟩ else if a.d.toNat % 8 = 6 then endR M true else endR M false

theorem R5.mono' {s : Sto} {M : RS} {n m : Nat} (h : R5 s M n) (hn : n ≤ m) : R5 s M m := ⟨h.ok.mono hn, h.l, h.len, h.roll, h.mono, fun w hw => Nat.le_trans (h.wl w hw) hn⟩

theorem R5.set {s : Sto} {M : RS} {n : Nat} (h : R5 s M n) {k : List UInt8} {o : Option (List UInt8)} (hk : k.length ≤ 1000000) (ho : (o.getD []).length ≤ 1000000) : R5 (doS s k o) ⟨setL M.L k o, M.was, M.g⟩ (n + 1) := by
  refine ⟨doS_ok h.ok hk ho, by simp only [doS]; rw [h.l], h.len, fun j x w hx hw => ?_, h.mono, fun w hw => Nat.le_succ_of_le (h.wl w hw)⟩
  have hm : s.marks ≠ [] := by intro e; simp only [doS] at hx; rw [e] at hx; simp at hx
  have hxl : x ≤ s.log.length := h.ok.mks x (List.mem_of_getElem? hx)
  simp only [doS, if_neg hm]
  rw [List.drop_append_of_le_length hxl, unrollL_app]
  have : unrollL (setL s.l k o) [⟨k, getL s.l k⟩] = s.l := setL_undo h.ok.srt k o
  rw [this]
  exact h.roll j x w hx hw

theorem R5.begin {s : Sto} {M : RS} {n : Nat} (h : R5 s M n) : R5 (beginS s) ⟨M.L, M.was ++ [M.L], M.g + 1⟩ (n + 1) := by
  refine ⟨beginS_ok h.ok, h.l, by simp [beginS, h.len], fun j x w hx hw => ?_, ?_, fun w hw => ?_⟩
  · simp only [beginS] at hx ⊢
    by_cases hj : j < s.marks.length
    · rw [List.getElem?_append_left hj] at hx
      rw [List.getElem?_append_left (by rw [← h.len]; exact hj)] at hw
      exact h.roll j x w hx hw
    · rw [List.getElem?_append_right (by omega)] at hx
      rw [List.getElem?_append_right (by rw [← h.len]; omega)] at hw
      have h1 := List.mem_of_getElem? hx
      have h2 := List.mem_of_getElem? hw
      simp at h1 h2
      rw [h1, h2, List.drop_length, h.l]; rfl
  · simp only [beginS]
    rw [List.pairwise_append]
    exact ⟨h.mono, List.pairwise_singleton _ _, fun a ha b hb => by simp at hb; rw [hb]; exact h.ok.mks a ha⟩
  · rcases List.mem_append.1 hw with h1 | h1
    · exact Nat.le_succ_of_le (h.wl w h1)
    · simp at h1; rw [h1, ← h.l]; exact Nat.le_succ_of_le h.ok.l

theorem R5.none_iff {s : Sto} {M : RS} {n : Nat} (h : R5 s M n) : (s.marks = []) ↔ (M.was = []) := by
  rw [← List.length_eq_zero_iff, ← List.length_eq_zero_iff, h.len]

theorem R5.commit {s : Sto} {M : RS} {n : Nat} (h : R5 s M n) : R5 (commitS s) (endR M true) n := by
  refine ⟨commitS_ok h.ok, by simp [commitS, endR, h.l], by simp [commitS, endR, h.len], fun j x w hx hw => ?_, (h.mono.sublist (List.dropLast_sublist _)), fun w hw => h.wl w ((List.dropLast_sublist _).subset hw)⟩
  simp only [commitS, endR] at hx hw ⊢
  rw [List.getElem?_dropLast] at hx hw
  split at hx
  · rename_i hj
    rw [if_pos (by rw [← h.len]; exact hj)] at hw
    rw [if_neg (by omega)]
    exact h.roll j x w hx hw
  · cases hx

theorem unrollL_mem {l : List Pr} : ∀ {us : List Ud} {q : Pr}, q ∈ unrollL l us → q ∈ l ∨ ∃ u ∈ us, u.o = some q.v ∧ u.k = q.k
  | [], q, h => .inl h
  | u :: us, q, h => by
    rcases setL_memv (show q ∈ setL (unrollL l us) u.k u.o from h) with h1 | ⟨h1, h2⟩
    · rcases unrollL_mem h1 with h3 | ⟨x, hx, h3⟩
      · exact .inl h3
      · exact .inr ⟨x, List.mem_cons_of_mem _ hx, h3⟩
    · exact .inr ⟨u, List.mem_cons_self .., h1, h2.symm⟩

theorem R5.rollb {s : Sto} {M : RS} {n : Nat} (h : R5 s M n) (hm : s.marks ≠ []) : R5 (rollS s) (endR M false) n := by
  have hw := fun e => hm (h.none_iff.2 e)
  have h0 : 0 < s.marks.length := List.length_pos_iff.2 hm
  obtain ⟨fr, hfr⟩ : ∃ fr, fr = s.marks.getLastD 0 := ⟨_, rfl⟩
  obtain ⟨lw, hlw⟩ : ∃ lw, lw = M.was.getLastD [] := ⟨_, rfl⟩
  have e1 : s.marks[s.marks.length - 1]? = some fr := by
    rw [hfr, List.getLastD_eq_getLast?, List.getLast?_eq_getElem?, List.getElem?_eq_getElem (by omega)]; rfl
  have e2 : M.was[s.marks.length - 1]? = some lw := by
    rw [hlw, h.len, List.getLastD_eq_getLast?, List.getLast?_eq_getElem?, List.getElem?_eq_getElem (by have := h.len; omega)]; rfl
  have e3 := h.roll _ _ _ e1 e2
  have hfl := h.ok.mks fr (List.mem_of_getElem? e1)
  have hle : ∀ x ∈ s.marks.dropLast, x ≤ fr := fun x hx => by
    have hp := h.mono
    rw [← List.dropLast_concat_getLast hm, List.pairwise_append] at hp
    have : s.marks.getLast hm = fr := by
      have := e1
      rw [List.getElem?_eq_getElem (by omega)] at this
      rw [List.getLast_eq_getElem]; exact Option.some.inj this
    exact hp.2.2 x hx fr (by rw [this]; simp)
  have ht : (s.log.take fr).length = fr := by rw [List.length_take]; omega
  have er : rollS s = ⟨lw, s.log.take fr, s.marks.dropLast⟩ := by simp only [rollS, ← hfr]; rw [e3]
  have em : endR M false = ⟨lw, M.was.dropLast, M.g⟩ := by simp only [endR, if_neg hw, hlw]; rfl
  rw [er, em]
  refine ⟨⟨?_, h.wl lw (List.mem_of_getElem? e2), ?_, ?_, fun p hp => ?_, fun u hu => h.ok.ud u (List.mem_of_mem_take hu), fun x hx => by rw [ht]; exact hle x hx⟩, rfl, by simp [h.len], fun j x w hx hw => ?_, h.mono.sublist (List.dropLast_sublist _), fun w hw => h.wl w ((List.dropLast_sublist _).subset hw)⟩
  · rw [e3]; exact unrollL_srt h.ok.srt _
  · have := h.ok.log; simp; omega
  · have := h.ok.marks; simp; omega
  · rw [e3] at hp
    rcases unrollL_mem hp with h1 | ⟨u, hu, h1, h2⟩
    · exact h.ok.kv p h1
    · have := h.ok.ud u (List.mem_of_mem_drop hu)
      rw [h1, h2] at this; exact this
  · simp only at hx hw ⊢
    rw [List.getElem?_dropLast] at hx hw
    have hxd : x ∈ s.marks.dropLast := by
      apply List.mem_of_getElem? (i := j); rw [List.getElem?_dropLast]; exact hx
    have hxf := hle x hxd
    split at hx
    · rename_i hj
      rw [if_pos (by rw [← h.len]; exact hj)] at hw
      have := h.roll j x w hx hw
      rw [this]
      have hd : s.log.drop x = (s.log.take fr).drop x ++ s.log.drop fr := by
        conv => lhs; rw [← List.take_append_drop fr s.log, List.drop_append_of_le_length (by rw [ht]; exact hxf)]
      rw [hd, unrollL_app, ← e3]
    · cases hx

theorem R5.act {s : Sto} {M : RS} {n : Nat} (h : R5 s M n) {a : Ac} (ha : a.Few) : R5 (actS s a) (actR M a) (n + 1) := by
  have h1 := ha.1
  have h2 := ha.2
  unfold actS actR
  split
  · exact h.set (by omega) (by simp; omega)
  · split
    · exact h.set (by omega) (by simp)
    · split
      · exact h.begin
      · split
        · exact h.commit.mono' (Nat.le_succ _)
        · by_cases hm : s.marks = []
          · rw [if_pos hm]
            have : endR M false = M := by
              have hw := h.none_iff.1 hm
              obtain ⟨L, w, g⟩ := M
              simp only at hw; subst hw; simp [endR]
            rw [this]; exact h.mono' (Nat.le_succ _)
          · rw [if_neg hm]
            exact (h.rollb hm).mono' (Nat.le_succ _)

end Go.Proofs.Ytlkajgjaidedkaa

/-
  A deed, of both.
-/
namespace Go.Proofs.Ytlkajgjaidedkaa
set_option linter.unnecessarySimpa false
set_option maxRecDepth 100000
open Go Go.Vm
set_option linter.unusedSimpArgs false
set_option linter.unusedVariables false
attribute [local simp] evalL wantedA isCall opA evalA evalAll evalsA evalOpt ofValue ofCell plain binA_eql_pn binA_neq_pn binA_gtr binA_lss binA_geq binA_leq binA_add binA_sub binA_eql binA_neq binA_orI binA_shl binA_shr binA_mul binA_quo binA_rem binA_agg_eql binA_agg_neq convA_int unA_not fieldAddrA loadA partA pickA_true pickA_false pickA_bb lenA builtinA storeA splice AV.cells AV.isCell sliceA boundA intA callOf indexAddrA newObjA buildA fillA zeroA ofCells buildSliceA indexA fieldA set_appN get_appN take_appN List.getElem?_cons_zero List.getElem?_cons_succ get_sa0 get_sa1 get_sa2 get_sa3 set_sa0 set_sa1 set_sa2 set_sa3 sliceRowA binA_eqn binA_neqn drop_mr

theorem putR_under {σ : St} {m q : Nat} {M M' : RS} (h : HasR σ m q M) : underL σ.bd (rmC q M') = true := by
  have := lt_of_get h.r
  simp [rmC, underL, AV.under, prsC_under, St.bd, this]
theorem callsA_gc2 {σ : St} {X : Type} {A : X → AV} {T : X → Sg} {U : X → RS} {f : FuncId} {args : List AV} {o k m q : Nat} {G : Sg} {M : RS} (h : HasS σ o k G) (hr : HasR σ m q M) (hA : ∀ x, (A x).under σ.bd = true)
    (kk : CallsA Try.prog f args σ (fun av σ' => ∃ x, Wk av (A x) ∧ ∃ l t r, σ' = { putR (putS σ o k (T x)) m q (U x) with objs := (putR (putS σ o k (T x)) m q (U x)).objs ++ l, toks := σ.toks ++ t, rows := (putR (putS σ o k (T x)) m q (U x)).rows ++ r })) :
    CallsA Try.prog f args σ (fun av σ' => ∃ x, av = A x ∧ σ' = putR (putS σ o k (T x)) m q (U x)) :=
  callsA_gcX (τ := fun x => putR (putS σ o k (T x)) m q (U x)) kk hA (fun x => by simp [putR, putS]) (fun _ => rfl) (fun x => by simp [putR, putS]) (fun _ => rfl)
    (fun x => ku_set (fun id cs hc => putS_o h _ id cs hc) (putR_under hr)) (fun x => kur_set (fun i r hc => putS_r _ i r hc) (wasC_under _ _))

set_option maxHeartbeats 1600000 in
attribute [local simp] undefA List.getElem?_cons_zero List.getElem?_cons_succ in
theorem does_ok {σ : St} {o k m q n : Nat} {G : Sg} {M : RS} {a : Ac} (h : HasS σ o k G) (hr : HasR σ m q M) (ha : Apart o k m q) (hi : R5 G.s M n) (hn : n ≤ 400000) (hf : a.Few) :
    CallsA Try.prog 23 [.ptr o 0, .ptr m 0, .agg (acC a)] σ (fun av σ' => ∃ G', G'.s = actS G.s a ∧ av = .v (.bool true) ∧ σ' = putR (putS σ o k G') m q (actR M a)) := by
  refine callsA_mono (Q := fun av σ' => ∃ x : Nat × Nat × Nat, av = .v (.bool true) ∧ σ' = putR (putS σ o k ⟨actS G.s a, x.1, x.2.1, x.2.2⟩) m q (actR M a)) ?_ (fun av σ' ⟨x, e1, e2⟩ => ⟨_, rfl, e1, e2⟩); refine callsA_gc2 (X := Nat × Nat × Nat) (A := fun _ => .v (.bool true)) (T := fun x => ⟨actS G.s a, x.1, x.2.1, x.2.2⟩) (U := fun _ => actR M a) h hr (fun _ => rfl) ?_
  have f1 := hf.1
  have f2 := hf.2
  have hl := hi.l
  have hML : M.L.length ≤ n := by rw [← hl]; exact hi.ok.l
  have hMs : Srt M.L := by rw [← hl]; exact hi.ok.srt
  have hMk : ∀ p ∈ M.L, p.k.length ≤ 1000000 := fun p hp => (hi.ok.kv p (by rw [hl]; exact hp)).1
  have hMw : M.was.length ≤ 1000000 := by rw [← hi.len]; have := hi.ok.marks; omega
  have hdm : decide (G.s.marks ≠ []) = decide (M.was ≠ []) := by rw [decide_eq_decide]; exact not_congr hi.none_iff
  obtain ⟨τ, hτ⟩ : ∃ τ, τ = { σ with objs := σ.objs ++ [acC a] } := ⟨_, rfl⟩
  have hS := h.app [acC a] σ.toks
  have hR := hr.app [acC a]
  rw [← hτ] at hR
  have hS : HasS τ o k G := by rw [hτ]; exact hS
  have hpa : ∀ (G' : Sg) (M' : RS), putR (putS τ o k G') m q M' = { putR (putS σ o k G') m q M' with objs := (putR (putS σ o k G') m q M').objs ++ [acC a], toks := σ.toks ++ [], rows := (putR (putS σ o k G') m q M').rows ++ [] } := fun G' M' => by
    have e1 := putS_app h G' [acC a]
    have e2 := putR_app (hr.putS ha G') M' [acC a]
    rw [hτ, e1, e2]; simp; rfl
  obtain ⟨r, hrd⟩ : ∃ r, r = a.d.toNat % 8 := ⟨_, rfl⟩
  have hr8 : r < 8 := by omega
  have hrem : ∀ xo yo, binA Try.prog .rem 5 xo yo (.v (.int .u8 (a.d.toNat : Nat))) (.v (.int .u8 8)) = some (.v (.int .u8 (r : Nat))) := fun xo yo => by rw [binA_rem (h := by decide), hrd]; rfl
  have ht : ∀ (S : Sto) (U : RS), actS G.s a = S → actR M a = U → ∀ (av : AV) (σ' : St) (a1 a2 a3 : Nat), av = .v (.bool true) → σ' = putR (putS τ o k ⟨S, a1, a2, a3⟩) m q U →
      ∃ x : Nat × Nat × Nat, Wk av (.v (.bool true)) ∧ ∃ l t r, σ' = { putR (putS σ o k ⟨actS G.s a, x.1, x.2.1, x.2.2⟩) m q (actR M a) with objs := (putR (putS σ o k ⟨actS G.s a, x.1, x.2.1, x.2.2⟩) m q (actR M a)).objs ++ l, toks := σ.toks ++ t, rows := (putR (putS σ o k ⟨actS G.s a, x.1, x.2.1, x.2.2⟩) m q (actR M a)).rows ++ r } := fun S U e1 e2 av σ' a1 a2 a3 e3 e4 => by
    subst e1 e2 e3 e4
    exact ⟨(a1, a2, a3), Wk.refl _, [acC a], [], [], hpa _ _⟩
  have k0 : r < 3 → actS G.s a = doS G.s a.k (some a.v) ∧ actR M a = ⟨setL M.L a.k (some a.v), M.was, M.g⟩ := fun h => by rw [hrd] at h; simp [actS, actR, h]
  have k3 : r = 3 → actS G.s a = doS G.s a.k none ∧ actR M a = ⟨setL M.L a.k none, M.was, M.g⟩ := fun h => by rw [hrd] at h; simp [actS, actR, h]
  have k4 : 3 < r → r < 6 → actS G.s a = beginS G.s ∧ actR M a = ⟨M.L, M.was ++ [M.L], M.g + 1⟩ := fun h h2 => by
    rw [hrd] at h h2; have h1 : ¬ a.d.toNat % 8 < 3 := by omega
    have h3 : ¬ a.d.toNat % 8 = 3 := by omega
    simp [actS, actR, h1, h2, h3]
  have k6 : r = 6 → actS G.s a = commitS G.s ∧ actR M a = endR M true := fun h => by
    rw [hrd] at h; simp [actS, actR, h]
  have k7 : 6 < r → actS G.s a = (if G.s.marks = [] then G.s else rollS G.s) ∧ actR M a = endR M false := fun h => by
    rw [hrd] at h; have h1 : ¬ a.d.toNat % 8 < 3 := by omega
    have h3 : ¬ a.d.toNat % 8 = 3 := by omega
    have h4 : ¬ a.d.toNat % 8 < 6 := by omega
    have h6 : ¬ a.d.toNat % 8 = 6 := by omega
    simp [actS, actR, h1, h3, h4, h6]
  have hset := set_ok (key := a.k) (val := a.v) (t1 := .shut) (t2 := .shut) hS hi.ok (by omega) (by omega) (by omega)
  have hdel := del_ok (key := a.k) (t1 := .shut) hS hi.ok (by omega) (by omega)
  have hbeg := begin_ok hS hi.ok (by omega)
  have hcom := commit_ok hS hi.ok (by omega)
  have hrs := fun (G' : Sg) V is hV => rsetR (key := a.k) (val := a.v) (V := V) (is := is) (hR.putS ha G') hMs hML (by omega) (by omega) hMk hV
  have hrs1 := fun (G' : Sg) => hrs G' _ true (fun _ => rfl)
  have hrs2 := fun (G' : Sg) => hrs G' (.sl 0 [] 0 .full) false (fun h => by cases h)
  have hrb := fun (G' : Sg) => rbeginR (hR.putS ha G') hMw
  have hre := fun (G' : Sg) stay => rendR (stay := stay) (hR.putS ha G') hMw
  have hro : ∃ b : Bool, b = decide (M.was ≠ []) ∧ CallsA Try.prog 40 [.ptr o 0] τ (fun av σ' => ∃ G', G'.s = (if G.s.marks = [] then G.s else rollS G.s) ∧ av = .v (.bool b) ∧ σ' = putS τ o k G') := by
    refine ⟨_, rfl, ?_⟩
    by_cases hm : G.s.marks = []
    · have hw := hi.none_iff.1 hm
      refine callsA_mono (rollback_no hS hi.ok (by omega) hm) (fun av σ' ⟨e1, e2⟩ => ⟨G, by rw [if_pos hm], by rw [e1]; simp [hw], by rw [putS_self hS, e2]⟩)
    · have hw : M.was ≠ [] := fun e => hm (hi.none_iff.2 e)
      refine callsA_mono (rollback_ok hS hi.ok (by omega) hm) (fun av σ' ⟨G', e0, e1, e2⟩ => ⟨G', by rw [if_neg hm, e0], by rw [e1]; simp [hw], e2⟩)
  obtain ⟨b, hb, hrol⟩ := hro
  rw [hdm, ← hb] at hcom
  simp only [← hb] at hre
  have hgτ : τ.objs[σ.objs.length]? = some (acC a) := by rw [hτ]; simp
  have hoT : σ.objs ++ [acC a] = τ.objs := by rw [hτ]
  have hτ2 : τ.toks = σ.toks ∧ τ.gl = σ.gl ∧ τ.rows = σ.rows := by rw [hτ]; exact ⟨rfl, rfl, rfl⟩
  obtain ⟨t1, t2, t3⟩ := hτ2
  have heta : (⟨τ.objs, σ.toks, σ.gl, σ.rows⟩ : St) = τ := by rw [← t1, ← t2, ← t3]
  obtain ⟨ad, ak, av⟩ := a
  simp only [acC, byC] at *
  have F := And.intro hgτ (And.intro hoT (And.intro heta (And.intro hrem (True.intro))))
  refine callsA_body Try.func23 rfl rfl rfl ?_; refine sr fun _ hJ2 => ?_; refine hJ2 _ _ ?_; refine sq fun K3 hK3 => ?_
  refine run_draw (by kernel_rfl) fun J4 hJ4 => ?_
  refine rp2 0 (k := ?_); refine rp2 1 (k := ?_); refine rp2 3 (k := ?_); refine rp2 4 (k := ?_)
  refine dc 2 rfl (c := join0_ok (p := ak) (by omega)) (k := ?_)
  rintro _ _ ⟨rfl, rfl⟩
  refine ⟨by first | exact fun _ _ h => h | (refine later_list [4, 3, 0] (by kernel_rfl) (List.forall_mem_cons.2 ⟨fun _ => fact2 rfl rfl ?_, List.forall_mem_cons.2 ⟨fun _ => fact2 rfl rfl ?_, List.forall_mem_cons.2 ⟨fun _ => fact2 rfl rfl ?_, fun _ h => absurd h List.not_mem_nil⟩⟩⟩) <;> constructor <;> first | rfl | (simp [F]; done)), ?_⟩
  repeat (first | simp [F] | simp (disch := omega) only [wC, if_pos, if_neg])
  refine dc 5 rfl (c := join0_ok (p := av) (by omega)) (k := ?_)
  rintro _ _ ⟨rfl, rfl⟩
  refine ⟨by first | exact fun _ _ h => h | (refine later_list [3, 0] (by kernel_rfl) (List.forall_mem_cons.2 ⟨fun _ => fact2 rfl rfl ?_, List.forall_mem_cons.2 ⟨fun _ => fact2 rfl rfl ?_, fun _ h => absurd h List.not_mem_nil⟩⟩) <;> constructor <;> first | rfl | (simp [F]; done)), ?_⟩
  (repeat (first | simp [F] | simp (disch := omega) only [wC, if_pos, if_neg])); refine rp2 6 (k := ?_); refine rp2 7 (k := ?_); refine dd ?_; refine hJ4 _ _ ?_; refine hK3 _ _ ?_; refine sq fun K5 hK5 => ?_; refine sr fun _ hJ7 => ?_; refine hJ7 _ _ ?_; refine run_block_k ?_; refine sq fun K8 hK8 => ?_; refine sr fun _ hJ10 => ?_; refine hJ10 _ _ ?_; refine cs (fun c23 => ?_) (fun c23 => ?_)
  · (try exact nope c23); all_goals have c23p := c23; try simp [F] at c23p
    all_goals
     replace F := aF c23 F; (try replace F := aF c23p F); refine run_skip ?_; refine hK8 _ _ ?_; refine cs (fun c23 => ?_) (fun c23 => ?_)
     · (try exact nope c23); all_goals have c23p := c23; try simp [F] at c23p
       all_goals
        replace F := aF c23 F; (try replace F := aF c23p F); refine sr fun _ hJ12 => ?_; refine ca (c := hset) (k := ?_); rintro _ _ ⟨G', e0, rfl, rfl⟩; (repeat (first | simp [F] | simp (disch := omega) only [wC, if_pos, if_neg])); refine hJ12 _ _ ?_; refine rg' (h := fun J13 hJ13 => ?_); refine ca (c := hrs1 G') (k := ?_); rintro _ _ ⟨rfl, rfl⟩; (repeat (first | simp [F] | simp (disch := omega) only [wC, if_pos, if_neg])); refine hJ13 _ _ ?_; refine hK5 _ _ ?_; refine sr fun _ hJ15 => ?_; refine hJ15 _ _ ?_; refine ra ?_
        obtain ⟨gs, a1, a2, a3⟩ := G'
        simp only at e0
        subst e0
        first | exact ht _ _ (k0 (by omega)).1 (k0 (by omega)).2 _ _ a1 a2 a3 (by simp [F]) rfl | exact ht _ _ (k3 (by omega)).1 (k3 (by omega)).2 _ _ a1 a2 a3 (by simp [F]) rfl | exact ht _ _ (k4 (by omega) (by omega)).1 (k4 (by omega) (by omega)).2 _ _ a1 a2 a3 (by simp [F]) rfl | exact ht _ _ (k6 (by omega)).1 (k6 (by omega)).2 _ _ a1 a2 a3 (by simp [F]) rfl | exact ht _ _ (k7 (by omega)).1 (k7 (by omega)).2 _ _ a1 a2 a3 (by simp [F]) rfl
     (try exact nope c23); all_goals have c23p := c23; try simp [F] at c23p
     all_goals
      replace F := aF c23 F; (try replace F := aF c23p F); refine sr fun _ hJ17 => ?_; refine hJ17 _ _ ?_; refine cs (fun c37 => ?_) (fun c37 => ?_)
      · (try exact nope c37); all_goals have c37p := c37; try simp [F] at c37p
        all_goals
         replace F := aF c37 F; (try replace F := aF c37p F); refine sr fun _ hJ19 => ?_; refine ca (c := hdel) (k := ?_); rintro _ _ ⟨G', e0, rfl, rfl⟩; (repeat (first | simp [F] | simp (disch := omega) only [wC, if_pos, if_neg])); refine hJ19 _ _ ?_; refine rg' (h := fun J20 hJ20 => ?_); refine ca (c := hrs2 G') (k := ?_); rintro _ _ ⟨rfl, rfl⟩; (repeat (first | simp [F] | simp (disch := omega) only [wC, if_pos, if_neg])); refine hJ20 _ _ ?_; refine hK5 _ _ ?_; refine sr fun _ hJ22 => ?_; refine hJ22 _ _ ?_; refine ra ?_
         obtain ⟨gs, a1, a2, a3⟩ := G'
         simp only at e0
         subst e0
         first | exact ht _ _ (k0 (by omega)).1 (k0 (by omega)).2 _ _ a1 a2 a3 (by simp [F]) rfl | exact ht _ _ (k3 (by omega)).1 (k3 (by omega)).2 _ _ a1 a2 a3 (by simp [F]) rfl | exact ht _ _ (k4 (by omega) (by omega)).1 (k4 (by omega) (by omega)).2 _ _ a1 a2 a3 (by simp [F]) rfl | exact ht _ _ (k6 (by omega)).1 (k6 (by omega)).2 _ _ a1 a2 a3 (by simp [F]) rfl | exact ht _ _ (k7 (by omega)).1 (k7 (by omega)).2 _ _ a1 a2 a3 (by simp [F]) rfl
      (try exact nope c37); all_goals have c37p := c37; try simp [F] at c37p
      all_goals
       replace F := aF c37 F; (try replace F := aF c37p F); refine sq fun K23 hK23 => ?_; refine sr fun _ hJ25 => ?_; refine hJ25 _ _ ?_; refine cs (fun c46 => ?_) (fun c46 => ?_)
       · (try exact nope c46); all_goals have c46p := c46; try simp [F] at c46p
         all_goals
          replace F := aF c46 F; (try replace F := aF c46p F); refine run_skip ?_; refine hK23 _ _ ?_; refine cs (fun c46 => ?_) (fun c46 => ?_)
          · (try exact nope c46); all_goals have c46p := c46; try simp [F] at c46p
            all_goals
             replace F := aF c46 F; (try replace F := aF c46p F); refine sr fun _ hJ27 => ?_; refine ca (c := hbeg) (k := ?_); rintro _ _ ⟨G', e0, rfl, rfl⟩; (repeat (first | simp [F] | simp (disch := omega) only [wC, if_pos, if_neg])); refine hJ27 _ _ ?_; refine rg' (h := fun J28 hJ28 => ?_); refine ca (c := hrb G') (k := ?_); rintro _ _ ⟨rfl, rfl⟩; (repeat (first | simp [F] | simp (disch := omega) only [wC, if_pos, if_neg])); refine hJ28 _ _ ?_; refine hK5 _ _ ?_; refine sr fun _ hJ30 => ?_; refine hJ30 _ _ ?_; refine ra ?_
             obtain ⟨gs, a1, a2, a3⟩ := G'
             simp only at e0
             subst e0
             first | exact ht _ _ (k0 (by omega)).1 (k0 (by omega)).2 _ _ a1 a2 a3 (by simp [F]) rfl | exact ht _ _ (k3 (by omega)).1 (k3 (by omega)).2 _ _ a1 a2 a3 (by simp [F]) rfl | exact ht _ _ (k4 (by omega) (by omega)).1 (k4 (by omega) (by omega)).2 _ _ a1 a2 a3 (by simp [F]) rfl | exact ht _ _ (k6 (by omega)).1 (k6 (by omega)).2 _ _ a1 a2 a3 (by simp [F]) rfl | exact ht _ _ (k7 (by omega)).1 (k7 (by omega)).2 _ _ a1 a2 a3 (by simp [F]) rfl
          (try exact nope c46); all_goals have c46p := c46; try simp [F] at c46p
          all_goals
           replace F := aF c46 F; (try replace F := aF c46p F); refine sr fun _ hJ32 => ?_; refine hJ32 _ _ ?_; refine cs (fun c53 => ?_) (fun c53 => ?_)
           · (try exact nope c53); all_goals have c53p := c53; try simp [F] at c53p
             all_goals
              replace F := aF c53 F; (try replace F := aF c53p F); refine sr fun _ hJ34 => ?_; refine ca (c := hcom) (k := ?_); rintro _ _ ⟨G', e0, rfl, rfl⟩; (repeat (first | simp [F] | simp (disch := omega) only [wC, if_pos, if_neg])); refine ca (c := hre G' true) (k := ?_); rintro _ _ ⟨rfl, rfl⟩; (repeat (first | simp [F] | simp (disch := omega) only [wC, if_pos, if_neg])); refine hJ34 _ _ ?_; refine ra ?_
              obtain ⟨gs, a1, a2, a3⟩ := G'
              simp only at e0
              subst e0
              first | exact ht _ _ (k0 (by omega)).1 (k0 (by omega)).2 _ _ a1 a2 a3 (by simp [F]) rfl | exact ht _ _ (k3 (by omega)).1 (k3 (by omega)).2 _ _ a1 a2 a3 (by simp [F]) rfl | exact ht _ _ (k4 (by omega) (by omega)).1 (k4 (by omega) (by omega)).2 _ _ a1 a2 a3 (by simp [F]) rfl | exact ht _ _ (k6 (by omega)).1 (k6 (by omega)).2 _ _ a1 a2 a3 (by simp [F]) rfl | exact ht _ _ (k7 (by omega)).1 (k7 (by omega)).2 _ _ a1 a2 a3 (by simp [F]) rfl
           (try exact nope c53); all_goals have c53p := c53; try simp [F] at c53p
           all_goals
            replace F := aF c53 F; (try replace F := aF c53p F); refine sr fun _ hJ36 => ?_; refine ca (c := hrol) (k := ?_); rintro _ _ ⟨G', e0, rfl, rfl⟩; (repeat (first | simp [F] | simp (disch := omega) only [wC, if_pos, if_neg])); refine ca (c := hre G' false) (k := ?_); rintro _ _ ⟨rfl, rfl⟩; (repeat (first | simp [F] | simp (disch := omega) only [wC, if_pos, if_neg])); refine hJ36 _ _ ?_; refine ra ?_
            obtain ⟨gs, a1, a2, a3⟩ := G'
            simp only at e0
            subst e0
            first | exact ht _ _ (k0 (by omega)).1 (k0 (by omega)).2 _ _ a1 a2 a3 (by simp [F]) rfl | exact ht _ _ (k3 (by omega)).1 (k3 (by omega)).2 _ _ a1 a2 a3 (by simp [F]) rfl | exact ht _ _ (k4 (by omega) (by omega)).1 (k4 (by omega) (by omega)).2 _ _ a1 a2 a3 (by simp [F]) rfl | exact ht _ _ (k6 (by omega)).1 (k6 (by omega)).2 _ _ a1 a2 a3 (by simp [F]) rfl | exact ht _ _ (k7 (by omega)).1 (k7 (by omega)).2 _ _ a1 a2 a3 (by simp [F]) rfl
       (try exact nope c46); all_goals have c46p := c46; try simp [F] at c46p
       all_goals
        replace F := aF c46 F; (try replace F := aF c46p F); refine rg' (h := fun J37 hJ37 => ?_); refine hJ37 _ _ ?_; refine hK23 _ _ ?_; refine cs (fun c46 => ?_) (fun c46 => ?_)
        · (try exact nope c46); all_goals have c46p := c46; try simp [F] at c46p
          all_goals
           replace F := aF c46 F; (try replace F := aF c46p F); refine sr fun _ hJ39 => ?_; refine ca (c := hbeg) (k := ?_); rintro _ _ ⟨G', e0, rfl, rfl⟩; (repeat (first | simp [F] | simp (disch := omega) only [wC, if_pos, if_neg])); refine hJ39 _ _ ?_; refine rg' (h := fun J40 hJ40 => ?_); refine ca (c := hrb G') (k := ?_); rintro _ _ ⟨rfl, rfl⟩; (repeat (first | simp [F] | simp (disch := omega) only [wC, if_pos, if_neg])); refine hJ40 _ _ ?_; refine hK5 _ _ ?_; refine sr fun _ hJ42 => ?_; refine hJ42 _ _ ?_; refine ra ?_
           obtain ⟨gs, a1, a2, a3⟩ := G'
           simp only at e0
           subst e0
           first | exact ht _ _ (k0 (by omega)).1 (k0 (by omega)).2 _ _ a1 a2 a3 (by simp [F]) rfl | exact ht _ _ (k3 (by omega)).1 (k3 (by omega)).2 _ _ a1 a2 a3 (by simp [F]) rfl | exact ht _ _ (k4 (by omega) (by omega)).1 (k4 (by omega) (by omega)).2 _ _ a1 a2 a3 (by simp [F]) rfl | exact ht _ _ (k6 (by omega)).1 (k6 (by omega)).2 _ _ a1 a2 a3 (by simp [F]) rfl | exact ht _ _ (k7 (by omega)).1 (k7 (by omega)).2 _ _ a1 a2 a3 (by simp [F]) rfl
        (try exact nope c46); all_goals have c46p := c46; try simp [F] at c46p
        all_goals
         replace F := aF c46 F; (try replace F := aF c46p F); refine sr fun _ hJ44 => ?_; refine hJ44 _ _ ?_; refine cs (fun c53 => ?_) (fun c53 => ?_)
         · (try exact nope c53); all_goals have c53p := c53; try simp [F] at c53p
           all_goals
            replace F := aF c53 F; (try replace F := aF c53p F); refine sr fun _ hJ46 => ?_; refine ca (c := hcom) (k := ?_); rintro _ _ ⟨G', e0, rfl, rfl⟩; (repeat (first | simp [F] | simp (disch := omega) only [wC, if_pos, if_neg])); refine ca (c := hre G' true) (k := ?_); rintro _ _ ⟨rfl, rfl⟩; (repeat (first | simp [F] | simp (disch := omega) only [wC, if_pos, if_neg])); refine hJ46 _ _ ?_; refine ra ?_
            obtain ⟨gs, a1, a2, a3⟩ := G'
            simp only at e0
            subst e0
            first | exact ht _ _ (k0 (by omega)).1 (k0 (by omega)).2 _ _ a1 a2 a3 (by simp [F]) rfl | exact ht _ _ (k3 (by omega)).1 (k3 (by omega)).2 _ _ a1 a2 a3 (by simp [F]) rfl | exact ht _ _ (k4 (by omega) (by omega)).1 (k4 (by omega) (by omega)).2 _ _ a1 a2 a3 (by simp [F]) rfl | exact ht _ _ (k6 (by omega)).1 (k6 (by omega)).2 _ _ a1 a2 a3 (by simp [F]) rfl | exact ht _ _ (k7 (by omega)).1 (k7 (by omega)).2 _ _ a1 a2 a3 (by simp [F]) rfl
         (try exact nope c53); all_goals have c53p := c53; try simp [F] at c53p
         all_goals
          replace F := aF c53 F; (try replace F := aF c53p F); refine sr fun _ hJ48 => ?_; refine ca (c := hrol) (k := ?_); rintro _ _ ⟨G', e0, rfl, rfl⟩; (repeat (first | simp [F] | simp (disch := omega) only [wC, if_pos, if_neg])); refine ca (c := hre G' false) (k := ?_); rintro _ _ ⟨rfl, rfl⟩; (repeat (first | simp [F] | simp (disch := omega) only [wC, if_pos, if_neg])); refine hJ48 _ _ ?_; refine ra ?_
          obtain ⟨gs, a1, a2, a3⟩ := G'
          simp only at e0
          subst e0
          first | exact ht _ _ (k0 (by omega)).1 (k0 (by omega)).2 _ _ a1 a2 a3 (by simp [F]) rfl | exact ht _ _ (k3 (by omega)).1 (k3 (by omega)).2 _ _ a1 a2 a3 (by simp [F]) rfl | exact ht _ _ (k4 (by omega) (by omega)).1 (k4 (by omega) (by omega)).2 _ _ a1 a2 a3 (by simp [F]) rfl | exact ht _ _ (k6 (by omega)).1 (k6 (by omega)).2 _ _ a1 a2 a3 (by simp [F]) rfl | exact ht _ _ (k7 (by omega)).1 (k7 (by omega)).2 _ _ a1 a2 a3 (by simp [F]) rfl
  (try exact nope c23); all_goals have c23p := c23; try simp [F] at c23p
  all_goals
   replace F := aF c23 F; (try replace F := aF c23p F); refine sr fun _ hJ50 => ?_; refine hJ50 _ _ ?_; refine cs (fun c23 => ?_) (fun c23 => ?_)
   · (try exact nope c23); all_goals have c23p := c23; try simp [F] at c23p
     all_goals
      replace F := aF c23 F; (try replace F := aF c23p F); refine run_skip ?_; refine hK8 _ _ ?_; refine cs (fun c23 => ?_) (fun c23 => ?_)
      · (try exact nope c23); all_goals have c23p := c23; try simp [F] at c23p
        all_goals
         replace F := aF c23 F; (try replace F := aF c23p F); refine sr fun _ hJ52 => ?_; refine ca (c := hset) (k := ?_); rintro _ _ ⟨G', e0, rfl, rfl⟩; (repeat (first | simp [F] | simp (disch := omega) only [wC, if_pos, if_neg])); refine hJ52 _ _ ?_; refine rg' (h := fun J53 hJ53 => ?_); refine ca (c := hrs1 G') (k := ?_); rintro _ _ ⟨rfl, rfl⟩; (repeat (first | simp [F] | simp (disch := omega) only [wC, if_pos, if_neg])); refine hJ53 _ _ ?_; refine hK5 _ _ ?_; refine sr fun _ hJ55 => ?_; refine hJ55 _ _ ?_; refine ra ?_
         obtain ⟨gs, a1, a2, a3⟩ := G'
         simp only at e0
         subst e0
         first | exact ht _ _ (k0 (by omega)).1 (k0 (by omega)).2 _ _ a1 a2 a3 (by simp [F]) rfl | exact ht _ _ (k3 (by omega)).1 (k3 (by omega)).2 _ _ a1 a2 a3 (by simp [F]) rfl | exact ht _ _ (k4 (by omega) (by omega)).1 (k4 (by omega) (by omega)).2 _ _ a1 a2 a3 (by simp [F]) rfl | exact ht _ _ (k6 (by omega)).1 (k6 (by omega)).2 _ _ a1 a2 a3 (by simp [F]) rfl | exact ht _ _ (k7 (by omega)).1 (k7 (by omega)).2 _ _ a1 a2 a3 (by simp [F]) rfl
      (try exact nope c23); all_goals have c23p := c23; try simp [F] at c23p
      all_goals
       replace F := aF c23 F; (try replace F := aF c23p F); refine sr fun _ hJ57 => ?_; refine hJ57 _ _ ?_; refine cs (fun c37 => ?_) (fun c37 => ?_)
       · (try exact nope c37); all_goals have c37p := c37; try simp [F] at c37p
         all_goals
          replace F := aF c37 F; (try replace F := aF c37p F); refine sr fun _ hJ59 => ?_; refine ca (c := hdel) (k := ?_); rintro _ _ ⟨G', e0, rfl, rfl⟩; (repeat (first | simp [F] | simp (disch := omega) only [wC, if_pos, if_neg])); refine hJ59 _ _ ?_; refine rg' (h := fun J60 hJ60 => ?_); refine ca (c := hrs2 G') (k := ?_); rintro _ _ ⟨rfl, rfl⟩; (repeat (first | simp [F] | simp (disch := omega) only [wC, if_pos, if_neg])); refine hJ60 _ _ ?_; refine hK5 _ _ ?_; refine sr fun _ hJ62 => ?_; refine hJ62 _ _ ?_; refine ra ?_
          obtain ⟨gs, a1, a2, a3⟩ := G'
          simp only at e0
          subst e0
          first | exact ht _ _ (k0 (by omega)).1 (k0 (by omega)).2 _ _ a1 a2 a3 (by simp [F]) rfl | exact ht _ _ (k3 (by omega)).1 (k3 (by omega)).2 _ _ a1 a2 a3 (by simp [F]) rfl | exact ht _ _ (k4 (by omega) (by omega)).1 (k4 (by omega) (by omega)).2 _ _ a1 a2 a3 (by simp [F]) rfl | exact ht _ _ (k6 (by omega)).1 (k6 (by omega)).2 _ _ a1 a2 a3 (by simp [F]) rfl | exact ht _ _ (k7 (by omega)).1 (k7 (by omega)).2 _ _ a1 a2 a3 (by simp [F]) rfl
       (try exact nope c37); all_goals have c37p := c37; try simp [F] at c37p
       all_goals
        replace F := aF c37 F; (try replace F := aF c37p F); refine sq fun K63 hK63 => ?_; refine sr fun _ hJ65 => ?_; refine hJ65 _ _ ?_; refine cs (fun c46 => ?_) (fun c46 => ?_)
        · (try exact nope c46); all_goals have c46p := c46; try simp [F] at c46p
          all_goals
           replace F := aF c46 F; (try replace F := aF c46p F); refine run_skip ?_; refine hK63 _ _ ?_; refine cs (fun c46 => ?_) (fun c46 => ?_)
           · (try exact nope c46); all_goals have c46p := c46; try simp [F] at c46p
             all_goals
              replace F := aF c46 F; (try replace F := aF c46p F); refine sr fun _ hJ67 => ?_; refine ca (c := hbeg) (k := ?_); rintro _ _ ⟨G', e0, rfl, rfl⟩; (repeat (first | simp [F] | simp (disch := omega) only [wC, if_pos, if_neg])); refine hJ67 _ _ ?_; refine rg' (h := fun J68 hJ68 => ?_); refine ca (c := hrb G') (k := ?_); rintro _ _ ⟨rfl, rfl⟩; (repeat (first | simp [F] | simp (disch := omega) only [wC, if_pos, if_neg])); refine hJ68 _ _ ?_; refine hK5 _ _ ?_; refine sr fun _ hJ70 => ?_; refine hJ70 _ _ ?_; refine ra ?_
              obtain ⟨gs, a1, a2, a3⟩ := G'
              simp only at e0
              subst e0
              first | exact ht _ _ (k0 (by omega)).1 (k0 (by omega)).2 _ _ a1 a2 a3 (by simp [F]) rfl | exact ht _ _ (k3 (by omega)).1 (k3 (by omega)).2 _ _ a1 a2 a3 (by simp [F]) rfl | exact ht _ _ (k4 (by omega) (by omega)).1 (k4 (by omega) (by omega)).2 _ _ a1 a2 a3 (by simp [F]) rfl | exact ht _ _ (k6 (by omega)).1 (k6 (by omega)).2 _ _ a1 a2 a3 (by simp [F]) rfl | exact ht _ _ (k7 (by omega)).1 (k7 (by omega)).2 _ _ a1 a2 a3 (by simp [F]) rfl
           (try exact nope c46); all_goals have c46p := c46; try simp [F] at c46p
           all_goals
            replace F := aF c46 F; (try replace F := aF c46p F); refine sr fun _ hJ72 => ?_; refine hJ72 _ _ ?_; refine cs (fun c53 => ?_) (fun c53 => ?_)
            · (try exact nope c53); all_goals have c53p := c53; try simp [F] at c53p
              all_goals
               replace F := aF c53 F; (try replace F := aF c53p F); refine sr fun _ hJ74 => ?_; refine ca (c := hcom) (k := ?_); rintro _ _ ⟨G', e0, rfl, rfl⟩; (repeat (first | simp [F] | simp (disch := omega) only [wC, if_pos, if_neg])); refine ca (c := hre G' true) (k := ?_); rintro _ _ ⟨rfl, rfl⟩; (repeat (first | simp [F] | simp (disch := omega) only [wC, if_pos, if_neg])); refine hJ74 _ _ ?_; refine ra ?_
               obtain ⟨gs, a1, a2, a3⟩ := G'
               simp only at e0
               subst e0
               first | exact ht _ _ (k0 (by omega)).1 (k0 (by omega)).2 _ _ a1 a2 a3 (by simp [F]) rfl | exact ht _ _ (k3 (by omega)).1 (k3 (by omega)).2 _ _ a1 a2 a3 (by simp [F]) rfl | exact ht _ _ (k4 (by omega) (by omega)).1 (k4 (by omega) (by omega)).2 _ _ a1 a2 a3 (by simp [F]) rfl | exact ht _ _ (k6 (by omega)).1 (k6 (by omega)).2 _ _ a1 a2 a3 (by simp [F]) rfl | exact ht _ _ (k7 (by omega)).1 (k7 (by omega)).2 _ _ a1 a2 a3 (by simp [F]) rfl
            (try exact nope c53); all_goals have c53p := c53; try simp [F] at c53p
            all_goals
             replace F := aF c53 F; (try replace F := aF c53p F); refine sr fun _ hJ76 => ?_; refine ca (c := hrol) (k := ?_); rintro _ _ ⟨G', e0, rfl, rfl⟩; (repeat (first | simp [F] | simp (disch := omega) only [wC, if_pos, if_neg])); refine ca (c := hre G' false) (k := ?_); rintro _ _ ⟨rfl, rfl⟩; (repeat (first | simp [F] | simp (disch := omega) only [wC, if_pos, if_neg])); refine hJ76 _ _ ?_; refine ra ?_
             obtain ⟨gs, a1, a2, a3⟩ := G'
             simp only at e0
             subst e0
             first | exact ht _ _ (k0 (by omega)).1 (k0 (by omega)).2 _ _ a1 a2 a3 (by simp [F]) rfl | exact ht _ _ (k3 (by omega)).1 (k3 (by omega)).2 _ _ a1 a2 a3 (by simp [F]) rfl | exact ht _ _ (k4 (by omega) (by omega)).1 (k4 (by omega) (by omega)).2 _ _ a1 a2 a3 (by simp [F]) rfl | exact ht _ _ (k6 (by omega)).1 (k6 (by omega)).2 _ _ a1 a2 a3 (by simp [F]) rfl | exact ht _ _ (k7 (by omega)).1 (k7 (by omega)).2 _ _ a1 a2 a3 (by simp [F]) rfl
        (try exact nope c46); all_goals have c46p := c46; try simp [F] at c46p
        all_goals
         replace F := aF c46 F; (try replace F := aF c46p F); refine rg' (h := fun J77 hJ77 => ?_); refine hJ77 _ _ ?_; refine hK63 _ _ ?_; refine cs (fun c46 => ?_) (fun c46 => ?_)
         · (try exact nope c46); all_goals have c46p := c46; try simp [F] at c46p
           all_goals
            replace F := aF c46 F; (try replace F := aF c46p F); refine sr fun _ hJ79 => ?_; refine ca (c := hbeg) (k := ?_); rintro _ _ ⟨G', e0, rfl, rfl⟩; (repeat (first | simp [F] | simp (disch := omega) only [wC, if_pos, if_neg])); refine hJ79 _ _ ?_; refine rg' (h := fun J80 hJ80 => ?_); refine ca (c := hrb G') (k := ?_); rintro _ _ ⟨rfl, rfl⟩; (repeat (first | simp [F] | simp (disch := omega) only [wC, if_pos, if_neg])); refine hJ80 _ _ ?_; refine hK5 _ _ ?_; refine sr fun _ hJ82 => ?_; refine hJ82 _ _ ?_; refine ra ?_
            obtain ⟨gs, a1, a2, a3⟩ := G'
            simp only at e0
            subst e0
            first | exact ht _ _ (k0 (by omega)).1 (k0 (by omega)).2 _ _ a1 a2 a3 (by simp [F]) rfl | exact ht _ _ (k3 (by omega)).1 (k3 (by omega)).2 _ _ a1 a2 a3 (by simp [F]) rfl | exact ht _ _ (k4 (by omega) (by omega)).1 (k4 (by omega) (by omega)).2 _ _ a1 a2 a3 (by simp [F]) rfl | exact ht _ _ (k6 (by omega)).1 (k6 (by omega)).2 _ _ a1 a2 a3 (by simp [F]) rfl | exact ht _ _ (k7 (by omega)).1 (k7 (by omega)).2 _ _ a1 a2 a3 (by simp [F]) rfl
         (try exact nope c46); all_goals have c46p := c46; try simp [F] at c46p
         all_goals
          replace F := aF c46 F; (try replace F := aF c46p F); refine sr fun _ hJ84 => ?_; refine hJ84 _ _ ?_; refine cs (fun c53 => ?_) (fun c53 => ?_)
          · (try exact nope c53); all_goals have c53p := c53; try simp [F] at c53p
            all_goals
             replace F := aF c53 F; (try replace F := aF c53p F); refine sr fun _ hJ86 => ?_; refine ca (c := hcom) (k := ?_); rintro _ _ ⟨G', e0, rfl, rfl⟩; (repeat (first | simp [F] | simp (disch := omega) only [wC, if_pos, if_neg])); refine ca (c := hre G' true) (k := ?_); rintro _ _ ⟨rfl, rfl⟩; (repeat (first | simp [F] | simp (disch := omega) only [wC, if_pos, if_neg])); refine hJ86 _ _ ?_; refine ra ?_
             obtain ⟨gs, a1, a2, a3⟩ := G'
             simp only at e0
             subst e0
             first | exact ht _ _ (k0 (by omega)).1 (k0 (by omega)).2 _ _ a1 a2 a3 (by simp [F]) rfl | exact ht _ _ (k3 (by omega)).1 (k3 (by omega)).2 _ _ a1 a2 a3 (by simp [F]) rfl | exact ht _ _ (k4 (by omega) (by omega)).1 (k4 (by omega) (by omega)).2 _ _ a1 a2 a3 (by simp [F]) rfl | exact ht _ _ (k6 (by omega)).1 (k6 (by omega)).2 _ _ a1 a2 a3 (by simp [F]) rfl | exact ht _ _ (k7 (by omega)).1 (k7 (by omega)).2 _ _ a1 a2 a3 (by simp [F]) rfl
          (try exact nope c53); all_goals have c53p := c53; try simp [F] at c53p
          all_goals
           replace F := aF c53 F; (try replace F := aF c53p F); refine sr fun _ hJ88 => ?_; refine ca (c := hrol) (k := ?_); rintro _ _ ⟨G', e0, rfl, rfl⟩; (repeat (first | simp [F] | simp (disch := omega) only [wC, if_pos, if_neg])); refine ca (c := hre G' false) (k := ?_); rintro _ _ ⟨rfl, rfl⟩; (repeat (first | simp [F] | simp (disch := omega) only [wC, if_pos, if_neg])); refine hJ88 _ _ ?_; refine ra ?_
           obtain ⟨gs, a1, a2, a3⟩ := G'
           simp only at e0
           subst e0
           first | exact ht _ _ (k0 (by omega)).1 (k0 (by omega)).2 _ _ a1 a2 a3 (by simp [F]) rfl | exact ht _ _ (k3 (by omega)).1 (k3 (by omega)).2 _ _ a1 a2 a3 (by simp [F]) rfl | exact ht _ _ (k4 (by omega) (by omega)).1 (k4 (by omega) (by omega)).2 _ _ a1 a2 a3 (by simp [F]) rfl | exact ht _ _ (k6 (by omega)).1 (k6 (by omega)).2 _ _ a1 a2 a3 (by simp [F]) rfl | exact ht _ _ (k7 (by omega)).1 (k7 (by omega)).2 _ _ a1 a2 a3 (by simp [F]) rfl
   (try exact nope c23); all_goals have c23p := c23; try simp [F] at c23p
   all_goals
    replace F := aF c23 F; (try replace F := aF c23p F); refine rg' (h := fun J89 hJ89 => ?_); refine hJ89 _ _ ?_; refine hK8 _ _ ?_; refine cs (fun c23 => ?_) (fun c23 => ?_)
    · (try exact nope c23); all_goals have c23p := c23; try simp [F] at c23p
      all_goals
       replace F := aF c23 F; (try replace F := aF c23p F); refine sr fun _ hJ91 => ?_; refine ca (c := hset) (k := ?_); rintro _ _ ⟨G', e0, rfl, rfl⟩; (repeat (first | simp [F] | simp (disch := omega) only [wC, if_pos, if_neg])); refine hJ91 _ _ ?_; refine rg' (h := fun J92 hJ92 => ?_); refine ca (c := hrs1 G') (k := ?_); rintro _ _ ⟨rfl, rfl⟩; (repeat (first | simp [F] | simp (disch := omega) only [wC, if_pos, if_neg])); refine hJ92 _ _ ?_; refine hK5 _ _ ?_; refine sr fun _ hJ94 => ?_; refine hJ94 _ _ ?_; refine ra ?_
       obtain ⟨gs, a1, a2, a3⟩ := G'
       simp only at e0
       subst e0
       first | exact ht _ _ (k0 (by omega)).1 (k0 (by omega)).2 _ _ a1 a2 a3 (by simp [F]) rfl | exact ht _ _ (k3 (by omega)).1 (k3 (by omega)).2 _ _ a1 a2 a3 (by simp [F]) rfl | exact ht _ _ (k4 (by omega) (by omega)).1 (k4 (by omega) (by omega)).2 _ _ a1 a2 a3 (by simp [F]) rfl | exact ht _ _ (k6 (by omega)).1 (k6 (by omega)).2 _ _ a1 a2 a3 (by simp [F]) rfl | exact ht _ _ (k7 (by omega)).1 (k7 (by omega)).2 _ _ a1 a2 a3 (by simp [F]) rfl
    (try exact nope c23); all_goals have c23p := c23; try simp [F] at c23p
    all_goals
     replace F := aF c23 F; (try replace F := aF c23p F); refine sr fun _ hJ96 => ?_; refine hJ96 _ _ ?_; refine cs (fun c37 => ?_) (fun c37 => ?_)
     · (try exact nope c37); all_goals have c37p := c37; try simp [F] at c37p
       all_goals
        replace F := aF c37 F; (try replace F := aF c37p F); refine sr fun _ hJ98 => ?_; refine ca (c := hdel) (k := ?_); rintro _ _ ⟨G', e0, rfl, rfl⟩; (repeat (first | simp [F] | simp (disch := omega) only [wC, if_pos, if_neg])); refine hJ98 _ _ ?_; refine rg' (h := fun J99 hJ99 => ?_); refine ca (c := hrs2 G') (k := ?_); rintro _ _ ⟨rfl, rfl⟩; (repeat (first | simp [F] | simp (disch := omega) only [wC, if_pos, if_neg])); refine hJ99 _ _ ?_; refine hK5 _ _ ?_; refine sr fun _ hJ101 => ?_; refine hJ101 _ _ ?_; refine ra ?_
        obtain ⟨gs, a1, a2, a3⟩ := G'
        simp only at e0
        subst e0
        first | exact ht _ _ (k0 (by omega)).1 (k0 (by omega)).2 _ _ a1 a2 a3 (by simp [F]) rfl | exact ht _ _ (k3 (by omega)).1 (k3 (by omega)).2 _ _ a1 a2 a3 (by simp [F]) rfl | exact ht _ _ (k4 (by omega) (by omega)).1 (k4 (by omega) (by omega)).2 _ _ a1 a2 a3 (by simp [F]) rfl | exact ht _ _ (k6 (by omega)).1 (k6 (by omega)).2 _ _ a1 a2 a3 (by simp [F]) rfl | exact ht _ _ (k7 (by omega)).1 (k7 (by omega)).2 _ _ a1 a2 a3 (by simp [F]) rfl
     (try exact nope c37); all_goals have c37p := c37; try simp [F] at c37p
     all_goals
      replace F := aF c37 F; (try replace F := aF c37p F); refine sq fun K102 hK102 => ?_; refine sr fun _ hJ104 => ?_; refine hJ104 _ _ ?_; refine cs (fun c46 => ?_) (fun c46 => ?_)
      · (try exact nope c46); all_goals have c46p := c46; try simp [F] at c46p
        all_goals
         replace F := aF c46 F; (try replace F := aF c46p F); refine run_skip ?_; refine hK102 _ _ ?_; refine cs (fun c46 => ?_) (fun c46 => ?_)
         · (try exact nope c46); all_goals have c46p := c46; try simp [F] at c46p
           all_goals
            replace F := aF c46 F; (try replace F := aF c46p F); refine sr fun _ hJ106 => ?_; refine ca (c := hbeg) (k := ?_); rintro _ _ ⟨G', e0, rfl, rfl⟩; (repeat (first | simp [F] | simp (disch := omega) only [wC, if_pos, if_neg])); refine hJ106 _ _ ?_; refine rg' (h := fun J107 hJ107 => ?_); refine ca (c := hrb G') (k := ?_); rintro _ _ ⟨rfl, rfl⟩; (repeat (first | simp [F] | simp (disch := omega) only [wC, if_pos, if_neg])); refine hJ107 _ _ ?_; refine hK5 _ _ ?_; refine sr fun _ hJ109 => ?_; refine hJ109 _ _ ?_; refine ra ?_
            obtain ⟨gs, a1, a2, a3⟩ := G'
            simp only at e0
            subst e0
            first | exact ht _ _ (k0 (by omega)).1 (k0 (by omega)).2 _ _ a1 a2 a3 (by simp [F]) rfl | exact ht _ _ (k3 (by omega)).1 (k3 (by omega)).2 _ _ a1 a2 a3 (by simp [F]) rfl | exact ht _ _ (k4 (by omega) (by omega)).1 (k4 (by omega) (by omega)).2 _ _ a1 a2 a3 (by simp [F]) rfl | exact ht _ _ (k6 (by omega)).1 (k6 (by omega)).2 _ _ a1 a2 a3 (by simp [F]) rfl | exact ht _ _ (k7 (by omega)).1 (k7 (by omega)).2 _ _ a1 a2 a3 (by simp [F]) rfl
         (try exact nope c46); all_goals have c46p := c46; try simp [F] at c46p
         all_goals
          replace F := aF c46 F; (try replace F := aF c46p F); refine sr fun _ hJ111 => ?_; refine hJ111 _ _ ?_; refine cs (fun c53 => ?_) (fun c53 => ?_)
          · (try exact nope c53); all_goals have c53p := c53; try simp [F] at c53p
            all_goals
             replace F := aF c53 F; (try replace F := aF c53p F); refine sr fun _ hJ113 => ?_; refine ca (c := hcom) (k := ?_); rintro _ _ ⟨G', e0, rfl, rfl⟩; (repeat (first | simp [F] | simp (disch := omega) only [wC, if_pos, if_neg])); refine ca (c := hre G' true) (k := ?_); rintro _ _ ⟨rfl, rfl⟩; (repeat (first | simp [F] | simp (disch := omega) only [wC, if_pos, if_neg])); refine hJ113 _ _ ?_; refine ra ?_
             obtain ⟨gs, a1, a2, a3⟩ := G'
             simp only at e0
             subst e0
             first | exact ht _ _ (k0 (by omega)).1 (k0 (by omega)).2 _ _ a1 a2 a3 (by simp [F]) rfl | exact ht _ _ (k3 (by omega)).1 (k3 (by omega)).2 _ _ a1 a2 a3 (by simp [F]) rfl | exact ht _ _ (k4 (by omega) (by omega)).1 (k4 (by omega) (by omega)).2 _ _ a1 a2 a3 (by simp [F]) rfl | exact ht _ _ (k6 (by omega)).1 (k6 (by omega)).2 _ _ a1 a2 a3 (by simp [F]) rfl | exact ht _ _ (k7 (by omega)).1 (k7 (by omega)).2 _ _ a1 a2 a3 (by simp [F]) rfl
          (try exact nope c53); all_goals have c53p := c53; try simp [F] at c53p
          all_goals
           replace F := aF c53 F; (try replace F := aF c53p F); refine sr fun _ hJ115 => ?_; refine ca (c := hrol) (k := ?_); rintro _ _ ⟨G', e0, rfl, rfl⟩; (repeat (first | simp [F] | simp (disch := omega) only [wC, if_pos, if_neg])); refine ca (c := hre G' false) (k := ?_); rintro _ _ ⟨rfl, rfl⟩; (repeat (first | simp [F] | simp (disch := omega) only [wC, if_pos, if_neg])); refine hJ115 _ _ ?_; refine ra ?_
           obtain ⟨gs, a1, a2, a3⟩ := G'
           simp only at e0
           subst e0
           first | exact ht _ _ (k0 (by omega)).1 (k0 (by omega)).2 _ _ a1 a2 a3 (by simp [F]) rfl | exact ht _ _ (k3 (by omega)).1 (k3 (by omega)).2 _ _ a1 a2 a3 (by simp [F]) rfl | exact ht _ _ (k4 (by omega) (by omega)).1 (k4 (by omega) (by omega)).2 _ _ a1 a2 a3 (by simp [F]) rfl | exact ht _ _ (k6 (by omega)).1 (k6 (by omega)).2 _ _ a1 a2 a3 (by simp [F]) rfl | exact ht _ _ (k7 (by omega)).1 (k7 (by omega)).2 _ _ a1 a2 a3 (by simp [F]) rfl
      (try exact nope c46); all_goals have c46p := c46; try simp [F] at c46p
      all_goals
       replace F := aF c46 F; (try replace F := aF c46p F); refine rg' (h := fun J116 hJ116 => ?_); refine hJ116 _ _ ?_; refine hK102 _ _ ?_; refine cs (fun c46 => ?_) (fun c46 => ?_)
       · (try exact nope c46); all_goals have c46p := c46; try simp [F] at c46p
         all_goals
          replace F := aF c46 F; (try replace F := aF c46p F); refine sr fun _ hJ118 => ?_; refine ca (c := hbeg) (k := ?_); rintro _ _ ⟨G', e0, rfl, rfl⟩; (repeat (first | simp [F] | simp (disch := omega) only [wC, if_pos, if_neg])); refine hJ118 _ _ ?_; refine rg' (h := fun J119 hJ119 => ?_); refine ca (c := hrb G') (k := ?_); rintro _ _ ⟨rfl, rfl⟩; (repeat (first | simp [F] | simp (disch := omega) only [wC, if_pos, if_neg])); refine hJ119 _ _ ?_; refine hK5 _ _ ?_; refine sr fun _ hJ121 => ?_; refine hJ121 _ _ ?_; refine ra ?_
          obtain ⟨gs, a1, a2, a3⟩ := G'
          simp only at e0
          subst e0
          first | exact ht _ _ (k0 (by omega)).1 (k0 (by omega)).2 _ _ a1 a2 a3 (by simp [F]) rfl | exact ht _ _ (k3 (by omega)).1 (k3 (by omega)).2 _ _ a1 a2 a3 (by simp [F]) rfl | exact ht _ _ (k4 (by omega) (by omega)).1 (k4 (by omega) (by omega)).2 _ _ a1 a2 a3 (by simp [F]) rfl | exact ht _ _ (k6 (by omega)).1 (k6 (by omega)).2 _ _ a1 a2 a3 (by simp [F]) rfl | exact ht _ _ (k7 (by omega)).1 (k7 (by omega)).2 _ _ a1 a2 a3 (by simp [F]) rfl
       (try exact nope c46); all_goals have c46p := c46; try simp [F] at c46p
       all_goals
        replace F := aF c46 F; (try replace F := aF c46p F); refine sr fun _ hJ123 => ?_; refine hJ123 _ _ ?_; refine cs (fun c53 => ?_) (fun c53 => ?_)
        · (try exact nope c53); all_goals have c53p := c53; try simp [F] at c53p
          all_goals
           replace F := aF c53 F; (try replace F := aF c53p F); refine sr fun _ hJ125 => ?_; refine ca (c := hcom) (k := ?_); rintro _ _ ⟨G', e0, rfl, rfl⟩; (repeat (first | simp [F] | simp (disch := omega) only [wC, if_pos, if_neg])); refine ca (c := hre G' true) (k := ?_); rintro _ _ ⟨rfl, rfl⟩; (repeat (first | simp [F] | simp (disch := omega) only [wC, if_pos, if_neg])); refine hJ125 _ _ ?_; refine ra ?_
           obtain ⟨gs, a1, a2, a3⟩ := G'
           simp only at e0
           subst e0
           first | exact ht _ _ (k0 (by omega)).1 (k0 (by omega)).2 _ _ a1 a2 a3 (by simp [F]) rfl | exact ht _ _ (k3 (by omega)).1 (k3 (by omega)).2 _ _ a1 a2 a3 (by simp [F]) rfl | exact ht _ _ (k4 (by omega) (by omega)).1 (k4 (by omega) (by omega)).2 _ _ a1 a2 a3 (by simp [F]) rfl | exact ht _ _ (k6 (by omega)).1 (k6 (by omega)).2 _ _ a1 a2 a3 (by simp [F]) rfl | exact ht _ _ (k7 (by omega)).1 (k7 (by omega)).2 _ _ a1 a2 a3 (by simp [F]) rfl
        (try exact nope c53); all_goals have c53p := c53; try simp [F] at c53p
        all_goals
         replace F := aF c53 F; (try replace F := aF c53p F); refine sr fun _ hJ127 => ?_; refine ca (c := hrol) (k := ?_); rintro _ _ ⟨G', e0, rfl, rfl⟩; (repeat (first | simp [F] | simp (disch := omega) only [wC, if_pos, if_neg])); refine ca (c := hre G' false) (k := ?_); rintro _ _ ⟨rfl, rfl⟩; (repeat (first | simp [F] | simp (disch := omega) only [wC, if_pos, if_neg])); refine hJ127 _ _ ?_; refine ra ?_
         obtain ⟨gs, a1, a2, a3⟩ := G'
         simp only at e0
         subst e0
         first | exact ht _ _ (k0 (by omega)).1 (k0 (by omega)).2 _ _ a1 a2 a3 (by simp [F]) rfl | exact ht _ _ (k3 (by omega)).1 (k3 (by omega)).2 _ _ a1 a2 a3 (by simp [F]) rfl | exact ht _ _ (k4 (by omega) (by omega)).1 (k4 (by omega) (by omega)).2 _ _ a1 a2 a3 (by simp [F]) rfl | exact ht _ _ (k6 (by omega)).1 (k6 (by omega)).2 _ _ a1 a2 a3 (by simp [F]) rfl | exact ht _ _ (k7 (by omega)).1 (k7 (by omega)).2 _ _ a1 a2 a3 (by simp [F]) rfl

set_option maxHeartbeats 1600000 in
attribute [local simp] undefA List.getElem?_cons_zero List.getElem?_cons_succ binA_eql_str convA_bytes ba_toList in
theorem rolls_ok {σ : St} : CallsA Try.prog 20 [] σ (fun av σ' => av = .v (.bool true) ∧ σ = σ') := by
  refine callsA_gcS ?_ rfl
  have hnew : CallsA Try.prog 22 [] σ (fun av σ' => av = .ptr σ.objs.length 0 ∧ σ' = St1 σ newSg) := new_st_ok
  have hset : ∀ {G : Sg} (v : List UInt8) (n : Nat), G.s.Ok n → n ≤ 1000 → v.length ≤ 1000 → CallsA Try.prog 33 [.ptr σ.objs.length 0, .sl 1 (bytesA [97]) 1 .shut, .sl 1 (bytesA v) v.length .shut] (St1 σ G) (fun av σ' => ∃ G', G'.s = doS G.s [97] (some v) ∧ av = .tup [] ∧ σ' = St1 σ G') := fun {G} v n hG hn hv =>
    callsA_mono (set_ok (key := [97]) (val := v) (t1 := .shut) (t2 := .shut) (St1.has σ G) hG (by omega) (by decide) (by omega)) (fun av σ' ⟨G', e1, e2, e3⟩ => ⟨G', e1, e2, by rw [e3, St1.put]⟩)
  have hdel : ∀ {G : Sg} (n : Nat), G.s.Ok n → n ≤ 1000 → CallsA Try.prog 42 [.ptr σ.objs.length 0, .sl 1 (bytesA [97]) 1 .shut] (St1 σ G) (fun av σ' => ∃ G', G'.s = doS G.s [97] none ∧ av = .tup [] ∧ σ' = St1 σ G') := fun {G} n hG hn =>
    callsA_mono (del_ok (key := [97]) (t1 := .shut) (St1.has σ G) hG (by omega) (by decide)) (fun av σ' ⟨G', e1, e2, e3⟩ => ⟨G', e1, e2, by rw [e3, St1.put]⟩)
  have hbeg : ∀ {G : Sg} (n : Nat), G.s.Ok n → n ≤ 1000 → CallsA Try.prog 35 [.ptr σ.objs.length 0] (St1 σ G) (fun av σ' => ∃ G', G'.s = beginS G.s ∧ av = .tup [] ∧ σ' = St1 σ G') := fun {G} n hG hn =>
    callsA_mono (begin_ok (St1.has σ G) hG (by omega)) (fun av σ' ⟨G', e1, e2, e3⟩ => ⟨G', e1, e2, by rw [e3, St1.put]⟩)
  have hcom : ∀ {G : Sg} (n : Nat), G.s.Ok n → n ≤ 1000 → CallsA Try.prog 36 [.ptr σ.objs.length 0] (St1 σ G) (fun av σ' => ∃ G', G'.s = commitS G.s ∧ av = .v (.bool (decide (G.s.marks ≠ []))) ∧ σ' = St1 σ G') := fun {G} n hG hn =>
    callsA_mono (commit_ok (St1.has σ G) hG (by omega)) (fun av σ' ⟨G', e1, e2, e3⟩ => ⟨G', e1, e2, by rw [e3, St1.put]⟩)
  have hrol : ∀ {G : Sg} (n : Nat), G.s.Ok n → n ≤ 1000 → G.s.marks ≠ [] → CallsA Try.prog 40 [.ptr σ.objs.length 0] (St1 σ G) (fun av σ' => ∃ G', G'.s = rollS G.s ∧ av = .v (.bool true) ∧ σ' = St1 σ G') := fun {G} n hG hn hm =>
    callsA_mono (rollback_ok (St1.has σ G) hG (by omega) hm) (fun av σ' ⟨G', e1, e2, e3⟩ => ⟨G', e1, e2, by rw [e3, St1.put]⟩)
  have o1 := doS_ok (k := [97]) (o := some [49]) newSg_ok (by decide) (by decide)
  have o2 := beginS_ok o1
  have o3 := doS_ok (k := [97]) (o := some [50]) o2 (by decide) (by decide)
  have o4 := beginS_ok o3
  have o5 := doS_ok (k := [97]) (o := none) o4 (by decide) (by decide)
  have o6 := commitS_ok o5
  obtain ⟨s1, q1⟩ : ∃ s, s = doS newSg.s [97] (some [49]) := ⟨_, rfl⟩
  obtain ⟨s2, q2⟩ : ∃ s, s = beginS s1 := ⟨_, rfl⟩
  obtain ⟨s3, q3⟩ : ∃ s, s = doS s2 [97] (some [50]) := ⟨_, rfl⟩
  obtain ⟨s4, q4⟩ : ∃ s, s = beginS s3 := ⟨_, rfl⟩
  obtain ⟨s5, q5⟩ : ∃ s, s = doS s4 [97] none := ⟨_, rfl⟩
  obtain ⟨s6, q6⟩ : ∃ s, s = commitS s5 := ⟨_, rfl⟩
  obtain ⟨s7, q7⟩ : ∃ s, s = rollS s6 := ⟨_, rfl⟩
  have m5 : decide (s5.marks ≠ []) = true := by rw [q5, q4, q3, q2, q1]; rfl
  have m6 : s6.marks ≠ [] := by rw [q6, q5, q4, q3, q2, q1]; decide
  have e7 : s7 = ⟨[⟨[97], [49]⟩], [], []⟩ := by rw [q7, q6, q5, q4, q3, q2, q1]; rfl
  have o7 : s7.Ok 1 := by
    rw [e7]
    exact ⟨by simp [Srt], by decide, by decide, by decide, fun p hp => by simp at hp; subst hp; decide, fun p hp => by simp at hp, fun p hp => by simp at hp⟩
  simp only [← q1, ← q2, ← q3, ← q4, ← q5, ← q6] at o1 o2 o3 o4 o5 o6
  have c1 : CallsA Try.prog 33 [.ptr σ.objs.length 0, .sl 1 (bytesA [97]) 1 .shut, .sl 1 (bytesA [49]) 1 .shut] (St1 σ newSg) (fun av σ' => ∃ G', G'.s = s1 ∧ av = .tup [] ∧ σ' = St1 σ G') := q1 ▸ hset [49] 0 newSg_ok (by omega) (by decide)
  have c2 : ∀ G : Sg, G.s = s1 → CallsA Try.prog 35 [.ptr σ.objs.length 0] (St1 σ G) (fun av σ' => ∃ G', G'.s = s2 ∧ av = .tup [] ∧ σ' = St1 σ G') := fun G e => by rw [q2, ← e]; exact hbeg 1 (by rw [e]; exact o1) (by omega)
  have c3 : ∀ G : Sg, G.s = s2 → CallsA Try.prog 33 [.ptr σ.objs.length 0, .sl 1 (bytesA [97]) 1 .shut, .sl 1 (bytesA [50]) 1 .shut] (St1 σ G) (fun av σ' => ∃ G', G'.s = s3 ∧ av = .tup [] ∧ σ' = St1 σ G') := fun G e => by rw [q3, ← e]; exact hset [50] 2 (by rw [e]; exact o2) (by omega) (by decide)
  have c4 : ∀ G : Sg, G.s = s3 → CallsA Try.prog 35 [.ptr σ.objs.length 0] (St1 σ G) (fun av σ' => ∃ G', G'.s = s4 ∧ av = .tup [] ∧ σ' = St1 σ G') := fun G e => by rw [q4, ← e]; exact hbeg 3 (by rw [e]; exact o3) (by omega)
  have c5 : ∀ G : Sg, G.s = s4 → CallsA Try.prog 42 [.ptr σ.objs.length 0, .sl 1 (bytesA [97]) 1 .shut] (St1 σ G) (fun av σ' => ∃ G', G'.s = s5 ∧ av = .tup [] ∧ σ' = St1 σ G') := fun G e => by rw [q5, ← e]; exact hdel 4 (by rw [e]; exact o4) (by omega)
  have c6 : ∀ G : Sg, G.s = s5 → CallsA Try.prog 36 [.ptr σ.objs.length 0] (St1 σ G) (fun av σ' => ∃ G', G'.s = s6 ∧ av = .v (.bool true) ∧ σ' = St1 σ G') := fun G e => by
    have := hcom (G := G) 5 (by rw [e]; exact o5) (by omega)
    rw [e, m5, ← q6] at this; exact this
  have c7 : ∀ G : Sg, G.s = s6 → CallsA Try.prog 40 [.ptr σ.objs.length 0] (St1 σ G) (fun av σ' => ∃ G', G'.s = s7 ∧ av = .v (.bool true) ∧ σ' = St1 σ G') := fun G e => by rw [q7, ← e]; exact hrol 5 (by rw [e]; exact o6) (by omega) (by rw [e]; exact m6)
  have hrn : ∀ G : Sg, G.s = s7 → CallsA Try.prog 40 [.ptr σ.objs.length 0] (St1 σ G) (fun av σ' => av = .v (.bool false) ∧ St1 σ G = σ') := fun G hG => rollback_no (n := 1) (St1.has σ G) (by rw [hG]; exact o7) (by omega) (by rw [hG, e7])
  have hge : ∀ G : Sg, G.s = s7 → CallsA Try.prog 24 [.ptr σ.objs.length 0, .sl 1 (bytesA [97]) 1 .shut] (St1 σ G) (fun av σ' => av = .tup [.sl 1 (bytesA [49]) 1 .shut, .v (.bool true)] ∧ St1 σ G = σ') := fun G hG => by
    have := get_ok (key := [97]) (t1 := .shut) (St1.has σ G) (by rw [hG]; exact o7) (by omega)
    rw [hG, e7] at this; exact this
  have hle : ∀ G : Sg, G.s = s7 → CallsA Try.prog 31 [.ptr σ.objs.length 0] (St1 σ G) (fun av σ' => av = .v (.int .i64 1) ∧ St1 σ G = σ') := fun G hG => by
    have := len_ok (St1.has σ G)
    rw [hG, e7] at this; exact this
  have hb97 : [AV.v (.int .u8 97)] = bytesA [97] := rfl
  have hb49 : [AV.v (.int .u8 49)] = bytesA [49] := rfl
  have hb50 : [AV.v (.int .u8 50)] = bytesA [50] := rfl
  have hst : (⟨[49].toArray⟩ : ByteArray).toList = [49] := ba_toList [49]
  have F := And.intro hst (True.intro)
  refine callsA_body Try.func20 rfl rfl rfl ?_; refine sr fun _ hJ2 => ?_; refine hJ2 _ _ ?_; refine sr fun _ hJ4 => ?_; refine ca (c := hnew) (k := ?_); rintro _ _ ⟨rfl, rfl⟩; (repeat (first | simp [F] | simp (disch := omega) only [wC, if_pos, if_neg])); refine hJ4 _ _ ?_; refine sq fun K5 hK5 => ?_; refine rgB (h := fun J6 hJ6 => ?_); refine go0 (k := ?_); refine sb2 rfl rfl rfl (k := ?_); refine sb2 rfl rfl rfl (k := ?_); refine rl (k := ?_); refine ca (c := c1) (k := ?_); rintro _ _ ⟨G1, e1, rfl, rfl⟩; (repeat (first | simp [F] | simp (disch := omega) only [wC, if_pos, if_neg])); refine hJ6 _ _ ?_; refine hK5 _ _ ?_; refine sr fun _ hJ8 => ?_; refine ca (c := c2 G1 e1) (k := ?_); rintro _ _ ⟨G2, e2, rfl, rfl⟩; (repeat (first | simp [F] | simp (disch := omega) only [wC, if_pos, if_neg])); refine hJ8 _ _ ?_; refine sq fun K9 hK9 => ?_; refine rgB (h := fun J10 hJ10 => ?_); refine go0 (k := ?_); refine sb2 rfl rfl rfl (k := ?_); refine sb2 rfl rfl rfl (k := ?_); refine rl (k := ?_); refine ca (c := c3 G2 e2) (k := ?_); rintro _ _ ⟨G3, e3, rfl, rfl⟩; (repeat (first | simp [F] | simp (disch := omega) only [wC, if_pos, if_neg])); refine hJ10 _ _ ?_; refine hK9 _ _ ?_; refine sr fun _ hJ12 => ?_; refine ca (c := c4 G3 e3) (k := ?_); rintro _ _ ⟨G4, e4, rfl, rfl⟩; (repeat (first | simp [F] | simp (disch := omega) only [wC, if_pos, if_neg])); refine hJ12 _ _ ?_; refine sq fun K13 hK13 => ?_; refine rgB (h := fun J14 hJ14 => ?_); refine go0 (k := ?_); refine sb2 rfl rfl rfl (k := ?_); refine rl (k := ?_); refine ca (c := c5 G4 e4) (k := ?_); rintro _ _ ⟨G5, e5, rfl, rfl⟩; (repeat (first | simp [F] | simp (disch := omega) only [wC, if_pos, if_neg])); refine hJ14 _ _ ?_; refine hK13 _ _ ?_; refine sq fun K15 hK15 => ?_; refine sr fun _ hJ17 => ?_; refine ca (c := c6 G5 e5) (k := ?_); rintro _ _ ⟨G6, e6, rfl, rfl⟩; (repeat (first | simp [F] | simp (disch := omega) only [wC, if_pos, if_neg])); refine go2 (k := ?_); refine ca (c := c7 G6 e6) (k := ?_); rintro _ _ ⟨G7, e7', rfl, rfl⟩; (repeat (first | simp [F] | simp (disch := omega) only [wC, if_pos, if_neg])); (iterate 2 refine go2 (k := ?_)); refine ca (c := hrn G7 e7') (k := ?_); rintro _ _ ⟨rfl, rfl⟩; (repeat (first | simp [F] | simp (disch := omega) only [wC, if_pos, if_neg])); refine hJ17 _ _ ?_; refine cf ?_; refine run_skip ?_; refine hK15 _ _ ?_; refine sq fun K18 hK18 => ?_; refine rgB (h := fun J19 hJ19 => ?_); refine go0 (k := ?_); refine sb2 rfl rfl rfl (k := ?_); refine rl (k := ?_); refine ca (c := hge G7 e7') (k := ?_); rintro _ _ ⟨rfl, rfl⟩; (repeat (first | simp [F] | simp (disch := omega) only [wC, if_pos, if_neg])); refine hJ19 _ _ ?_; refine hK18 _ _ ?_; refine sr fun _ hJ21 => ?_; (iterate 4 refine go2 (k := ?_)); refine ca (c := hle G7 e7') (k := ?_); rintro _ _ ⟨rfl, rfl⟩; (repeat (first | simp [F] | simp (disch := omega) only [wC, if_pos, if_neg])); refine go2 (k := ?_); refine hJ21 _ _ ?_; refine ra ?_; exact gcr
end Go.Proofs.Ytlkajgjaidedkaa
