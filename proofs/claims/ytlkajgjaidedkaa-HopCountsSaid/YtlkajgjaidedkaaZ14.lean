import Derived.Test.YtlkajgjaidedkaaZ7
import Derived.Test.YtlkajgjaidedkaaZ10
import Derived.Test.YtlkajgjaidedkaaZ13
/-
  Bytes: alike, compared, begun with.
-/
namespace Go.Proofs.Ytlkajgjaidedkaa
set_option linter.unnecessarySimpa false
set_option maxRecDepth 100000
open Go Go.Vm
set_option linter.unusedSimpArgs false
set_option linter.unusedVariables false
attribute [local simp] evalL wantedA isCall opA evalA evalAll evalsA evalOpt ofValue ofCell plain binA_eql_pn binA_neq_pn binA_gtr binA_lss binA_geq binA_leq binA_add binA_sub binA_eql binA_neq binA_orI binA_shl binA_shr binA_mul binA_quo binA_rem binA_agg_eql binA_agg_neq convA_int unA_not fieldAddrA loadA partA pickA_true pickA_false pickA_bb lenA builtinA storeA splice AV.cells AV.isCell sliceA boundA intA callOf indexAddrA newObjA buildA fillA zeroA ofCells buildSliceA indexA fieldA set_appN get_appN take_appN List.getElem?_cons_zero List.getElem?_cons_succ

theorem convA_bytes {P : Program} {s d : TypeId} {p : List UInt8} {n : Nat} {t : Tail} : convA P s d (.sl 1 (bytesA p) n t) = (match elemT P s, isStrT P d with
    | some e, true => if isU8 P e then some (.v (.string ⟨p.toArray⟩)) else none
    | _, _ => none) := by
  simp only [convA, bytesOf_bytes]
  cases elemT P s with
  | none => rfl
  | some e => cases isStrT P d <;> simp

set_option maxHeartbeats 1600000 in
attribute [local simp] undefA List.getElem?_cons_zero List.getElem?_cons_succ convA_bytes binA_eql_str ba_toList in
theorem equal_ok {σ : St} {p q : List UInt8} {m n : Nat} {t1 t2 : Tail} : CallsA Try.prog 81 [.sl 1 (bytesA p) m t1, .sl 1 (bytesA q) n t2] σ (fun av σ' => av = .v (.bool (decide (p = q))) ∧ σ = σ') := by
  have he : (p == q) = decide (p = q) := by rw [Bool.eq_iff_iff]; simp
  have F := And.intro he (True.intro)
  refine callsA_body Try.func81 rfl rfl rfl ?_; refine sr fun _ hJ2 => ?_; refine hJ2 _ _ ?_; refine sr fun _ hJ4 => ?_; refine hJ4 _ _ ?_; refine ra ?_; exact rt

set_option maxHeartbeats 1600000 in
attribute [local simp] undefA List.getElem?_cons_zero List.getElem?_cons_succ in
theorem compare_ok {σ : St} {p q : List UInt8} {t1 t2 : Tail} : CallsA Try.prog 109 [.sl 1 (bytesA p) p.length t1, .sl 1 (bytesA q) q.length t2] σ (fun av σ' => av = .v (.int .i64 (cmpB p q)) ∧ σ = σ') := by
  have F := True.intro
  refine callsA_body Try.func109 rfl rfl rfl ?_; refine sr fun _ hJ2 => ?_; refine hJ2 _ _ ?_; refine sr fun _ hJ4 => ?_
  refine ce (c := compare_ext Try.func119 (by kernel_rfl) (by kernel_rfl) (by kernel_rfl) (by kernel_rfl)) (k := ?_)
  rintro _ _ rfl rfl; (repeat (first | simp [F] | simp (disch := omega) only [wC, if_pos, if_neg])); refine hJ4 _ _ ?_; refine ra ?_; exact rt

def preB (p q : List UInt8) : Bool := decide (q.length ≤ p.length) && decide (p.take q.length = q)

set_option maxHeartbeats 1600000 in
attribute [local simp] undefA List.getElem?_cons_zero List.getElem?_cons_succ preB in
theorem prefix_ok {σ : St} {p q : List UInt8} {t1 t2 : Tail} : CallsA Try.prog 78 [.sl 1 (bytesA p) p.length t1, .sl 1 (bytesA q) q.length t2] σ (fun av σ' => av = .v (.bool (preB p q)) ∧ σ = σ') := by
  have ht := bytesA_take p q.length
  have F := And.intro ht (True.intro)
  refine callsA_body Try.func78 rfl rfl rfl ?_; refine sr fun _ hJ2 => ?_; refine hJ2 _ _ ?_; refine sr fun _ hJ4 => ?_; refine gs 10 (fun g1_5 => ?_) (fun g1_5 => ?_)
  · (try exact nope g1_5); all_goals have g1_5p := g1_5; try simp [F] at g1_5p
    all_goals
     replace F := aF g1_5 F; (try replace F := aF g1_5p F); (iterate 5 refine go2 (k := ?_)); refine ca (c := equal_ok (p := p.take q.length) (q := q)) (k := ?_); rintro _ _ ⟨rfl, rfl⟩; (repeat (first | simp [F] | simp (disch := omega) only [wC, if_pos, if_neg])); refine hJ4 _ _ ?_; refine ra ?_; exact rt
  (try exact nope g1_5); all_goals have g1_5p := g1_5; try simp [F] at g1_5p
  all_goals
   replace F := aF g1_5 F; (try replace F := aF g1_5p F); (iterate 6 refine no2 (k := ?_)); refine hJ4 _ _ ?_; refine ra ?_; exact rt

set_option maxHeartbeats 1600000 in
attribute [local simp] undefA List.getElem?_cons_zero List.getElem?_cons_succ in
theorem search_ok {σ : St} {n fid : Nat} {caps : List AV} (pred : Nat → Bool) (hn : n ≤ 4000000000000000000) (hcb : callable Try.prog fid = true)
    (hf : ∀ i : Nat, i < n → CallsA Try.prog fid (.v (.int .i64 i) :: caps) σ (fun av σ' => av = .v (.bool (pred i)) ∧ σ = σ')) :
    CallsA Try.prog 107 [.v (.int .i64 n), .fn fid caps] σ (fun av σ' => (∃ r : Nat, av = .v (.int .i64 r) ∧ r ≤ n ∧ (0 < r → pred (r - 1) = false) ∧ (r < n → pred r = true)) ∧ σ = σ') := by
  have F := True.intro
  refine callsA_body Try.func107 rfl rfl rfl ?_; refine sr fun _ hJ2 => ?_; refine hJ2 _ _ ?_; refine sr fun _ hJ4 => ?_; refine hJ4 _ _ ?_; refine sq fun K5 hK5 => ?_; refine run_block_k ?_; refine run_loopF (X := Nat × Nat) [1, 4] (fun q ρ σ1 => (q.1 ≤ q.2) ∧ (q.2 ≤ n) ∧ (0 < q.1 → pred (q.1 - 1) = false) ∧ (q.2 < n → pred q.2 = true) ∧ (ρ 5 = .v (.int .i64 q.1)) ∧ (ρ 6 = .v (.int .i64 q.2)) ∧ (σ1 = σ)) (fun q => q.2 - q.1) ((0, n)) ?st1 ?rd1
  case st1 =>
   refine ⟨lp, lp, ?_, ?_, lp, lp, lp⟩
   · intro h
     simp at h
   · intro h
     simp at h
  case rd1 =>
   rintro q ρ1 σ1 hF1 ⟨h1, h2, h3, h4, h5, h6, hσ⟩; obtain rfl := hσ.symm
   have f1 := keepL hF1
   (try simp [KeepL, F] at f1); replace F := aF h5 F; replace F := aF h6 F; (try replace F := aF f1 F); refine sq fun K6 hK6 => ?_; refine sr fun _ hJ8 => ?_; refine hJ8 _ _ ?_; refine cs (fun c11 => ?_) (fun c11 => ?_)
   · (try exact nope c11); all_goals have c11p := c11; try simp [F] at c11p
     all_goals
      replace F := aF c11 F; (try replace F := aF c11p F); refine run_skip ?_; refine hK6 _ _ ?_; refine run_block_k ?_; refine sq fun K9 hK9 => ?_
      have hlt : q.1 < q.2 := by simp at c11; omega
      obtain ⟨i, j⟩ := q
      simp only at *
      obtain ⟨h, hh⟩ : ∃ h, h = (i + j) / 2 := ⟨_, rfl⟩
      have hw1 : IntKind.i64.wrap ((i : Int) + (j : Int)) = ((i + j : Nat) : Int) := wrap_i64 _ (by omega) (by omega)
      have hw2 : IntKind.u64.wrap ((i : Int) + (j : Int)) = ((i + j : Nat) : Int) := by rw [show (i : Int) + (j : Int) = ((i + j : Nat) : Int) by simp, wrap_u64, Nat.mod_eq_of_lt (by omega)]
      have hw3 : IntKind.i64.wrap (((i : Int) + (j : Int)).fdiv 2) = (h : Int) := by rw [Int.fdiv_eq_ediv_of_nonneg _ (by omega), wrap_i64 _ (by omega) (by omega)]; omega
      have hhj : h < j := by omega
      have hih : i ≤ h := by omega
      have hw4 : IntKind.i64.wrap ((h : Int) + 1) = ((h + 1 : Nat) : Int) := wrap_i64 _ (by omega) (by omega)
      replace F := aF hw1 F; replace F := aF hw2 F; replace F := aF hw3 F; replace F := aF hw4 F; refine rg' (h := fun J10 hJ10 => ?_); refine hJ10 _ _ ?_; refine hK9 _ _ ?_; refine sr fun _ hJ12 => ?_
      refine ca (c := hf h (by omega)) (k := ?_)
      rintro _ _ ⟨rfl, rfl⟩; (repeat (first | simp [F] | simp (disch := omega) only [wC, if_pos, if_neg])); refine hJ12 _ _ ?_; refine cs (fun c21 => ?_) (fun c21 => ?_)
      · (try exact nope c21); all_goals have c21p := c21; try simp [F] at c21p
        all_goals
         replace F := aF c21 F; (try replace F := aF c21p F); refine rg' (h := fun J13 hJ13 => ?_); refine hJ13 _ _ ?_; refine ⟨((h + 1, j)), ⟨kp, lp, lp, ?_, lp, lp, lp, lp⟩, ?_⟩
         · intro _
           simp at c21
           simpa using c21
         · simp
           omega
      (try exact nope c21); all_goals have c21p := c21; try simp [F] at c21p
      all_goals
       replace F := aF c21 F; (try replace F := aF c21p F); refine rg' (h := fun J14 hJ14 => ?_); refine hJ14 _ _ ?_; refine ⟨((i, h)), ⟨kp, lp, lp, lp, ?_, lp, lp, lp⟩, ?_⟩
       · intro _
         simp at c21
         simpa using c21
       · simp
         omega
   (try exact nope c11); all_goals have c11p := c11; try simp [F] at c11p
   all_goals
    replace F := aF c11 F; (try replace F := aF c11p F); refine run_exit ?_; refine hK5 _ _ ?_; refine sr fun _ hJ16 => ?_; refine hJ16 _ _ ?_; refine ra ?_
    refine ⟨⟨q.1, ?_, by omega, h3, fun h => ?_⟩, rfl⟩
    · simp [F]
    · have : q.1 = q.2 := by simp at c11; omega
      rw [this] at h ⊢; exact h4 h

theorem cmpB_ge (a b : List UInt8) : decide (0 ≤ cmpB a b) = !ltB a b := by
  unfold cmpB
  split
  · rename_i e; subst e; simp [ltB_irr]
  · cases ltB a b <;> simp
theorem prsC_len (l : List Pr) : (prsC l).length = l.length * 2 := by
  induction l with
  | nil => rfl
  | cons p l ih => simp only [prsC, List.flatMap_cons, List.length_append, prC, List.length_cons, List.length_nil] at ih ⊢; omega
theorem prsC_at : ∀ {l : List Pr} {i : Nat} (h : i < l.length), (prsC l)[i * 2]? = some (byC l[i].k) ∧ (prsC l)[i * 2 + 1]? = some (byC l[i].v)
  | p :: l, 0, h => ⟨rfl, rfl⟩
  | p :: l, i + 1, h => by
    have := prsC_at (l := l) (i := i) (by simpa using h)
    have e1 : (i + 1) * 2 = i * 2 + 2 := by omega
    rw [e1]
    exact this

set_option maxHeartbeats 1600000 in
attribute [local simp] undefA List.getElem?_cons_zero List.getElem?_cons_succ in
theorem findF_ok {σ : St} {b1 b2 o k i : Nat} {G : Sg} {key : List UInt8} {t : Tail} (h1 : σ.objs[b1]? = some [.ptr o 0]) (h2 : σ.objs[b2]? = some [.sl 1 (bytesA key) key.length t]) (h : HasS σ o k G) (hi : i < G.s.l.length) :
    CallsA Try.prog 108 [.v (.int .i64 i), .ptr b1 0, .ptr b2 0] σ (fun av σ' => av = .v (.bool (!ltB (G.s.l[i]).k key)) ∧ σ = σ') := by
  obtain ⟨ho, hr1, hr2, hr3⟩ := h
  obtain ⟨⟨l, log, marks⟩, g1, g2, g3⟩ := G
  simp only [stC, stR1, stR2, stR3] at ho hr1 hr2 hr3 hi ⊢
  have hat := (prsC_at hi).1
  have hc := cmpB_ge l[i].k key
  have F := And.intro ho (And.intro hr1 (And.intro h1 (And.intro h2 (And.intro hi (And.intro hat (And.intro hc (True.intro)))))))
  refine callsA_body Try.func108 rfl rfl rfl ?_; refine sr fun _ hJ2 => ?_; refine hJ2 _ _ ?_; refine sq fun K3 hK3 => ?_
  refine run_draw (by kernel_rfl) fun J4 hJ4 => ?_
  refine rp2 0 (k := ?_); refine rp2 1 (k := ?_); refine rp2 2 (k := ?_); refine rp2 3 (k := ?_); refine rp2 4 (k := ?_); refine rp2 5 (k := ?_); refine rp2 6 (k := ?_); refine rp2 7 (k := ?_); refine rp2 8 (k := ?_); refine dc 9 rfl (c := compare_ok) (k := ?_); rintro _ _ ⟨rfl, rfl⟩
  refine ⟨by first | exact fun _ _ h => h | (refine later_list [6, 5, 4, 3, 2, 1, 0] (by kernel_rfl) (List.forall_mem_cons.2 ⟨fun _ => fact2 rfl rfl ?_, List.forall_mem_cons.2 ⟨fun _ => fact2 rfl rfl ?_, List.forall_mem_cons.2 ⟨fun _ => fact2 rfl rfl ?_, List.forall_mem_cons.2 ⟨fun _ => fact2 rfl rfl ?_, List.forall_mem_cons.2 ⟨fun _ => fact2 rfl rfl ?_, List.forall_mem_cons.2 ⟨fun _ => fact2 rfl rfl ?_, List.forall_mem_cons.2 ⟨fun _ => fact2 rfl rfl ?_, fun _ h => absurd h List.not_mem_nil⟩⟩⟩⟩⟩⟩⟩) <;> constructor <;> first | rfl | (simp [F]; done)), ?_⟩
  (repeat (first | simp [F] | simp (disch := omega) only [wC, if_pos, if_neg])); refine rp2 10 (k := ?_); refine rp2 11 (k := ?_); refine dd ?_; refine hJ4 _ _ ?_; refine hK3 _ _ ?_; refine ra ?_; exact rt

def predF (l : List Pr) (key : List UInt8) (i : Nat) : Bool := match l[i]? with
  | some p => !ltB p.k key
  | none => true
theorem predF_find {l : List Pr} {key : List UInt8} {r : Nat} (hs : Srt l) (hr : r ≤ l.length) (h1 : 0 < r → predF l key (r - 1) = false) (h2 : r < l.length → predF l key r = true) : r = findL l key :=
  findL_of hs hr (fun h => by
    have := h1 h
    unfold predF at this
    split at this
    · rename_i p hp; exact ⟨p, hp, by simpa using this⟩
    · cases this) (fun p hp => by
    have := h2 (List.getElem?_eq_some_iff.1 hp).1
    unfold predF at this
    rw [hp] at this
    simpa using this)
theorem hasL_at {l : List Pr} {key : List UInt8} (hs : Srt l) : hasL l key = match l[findL l key]? with | some p => decide (p.k = key) | none => false := by
  unfold hasL
  rw [findL_get hs]
  cases h : l[findL l key]? with
  | none => rfl
  | some p => simp only; split <;> simp_all

set_option maxHeartbeats 1600000 in
attribute [local simp] undefA List.getElem?_cons_zero List.getElem?_cons_succ byC in
theorem find_ok {σ : St} {o k : Nat} {G : Sg} {key : List UInt8} {t : Tail} (h : HasS σ o k G) (hs : Srt G.s.l) (hl : G.s.l.length ≤ 4000000000000000000) :
    CallsA Try.prog 76 [.ptr o 0, .sl 1 (bytesA key) key.length t] σ (fun av σ' => av = .tup [.v (.int .i64 (findL G.s.l key)), .v (.bool (hasL G.s.l key))] ∧ σ = σ') := by
  refine callsA_gcS ?_ rfl
  have hlt := lt_of_get h.o
  have h' : HasS { σ with objs := σ.objs ++ [[.ptr o 0], [.sl 1 (bytesA key) key.length t]] } o k G := ⟨by simp only; rw [List.getElem?_append_left hlt]; exact h.o, h.r1, h.r2, h.r3⟩
  have hse := search_ok (σ := { σ with objs := σ.objs ++ [[.ptr o 0], [.sl 1 (bytesA key) key.length t]] }) (caps := [.ptr σ.objs.length 0, .ptr (σ.objs.length + 1) 0]) (fid := 108) (predF G.s.l key) hl (by simp) (fun i hi => callsA_mono (findF_ok (key := key) (t := t) (by simp) (by simp) h' hi) (fun av σ' hq => by
    refine ⟨hq.1.trans ?_, hq.2⟩
    simp [predF, hi]))
  have hho := h'.o
  obtain ⟨ho, hr1, hr2, hr3⟩ := h
  have hha := hasL_at (key := key) hs
  have hat : ∀ i (hi : i < G.s.l.length), (prsC G.s.l)[i * 2]? = some (byC G.s.l[i].k) := fun i hi => (prsC_at hi).1
  obtain ⟨⟨l, log, marks⟩, g1, g2, g3⟩ := G
  simp only [stC, stR1, stR2, stR3] at ho hr1 hr2 hr3 hl hho hse hs hha hat ⊢
  have hfl := findL_le l key
  have F := And.intro hho (And.intro hr1 (True.intro))
  refine callsA_body Try.func76 rfl rfl rfl ?_; refine sr fun _ hJ2 => ?_; refine hJ2 _ _ ?_; refine sr fun _ hJ4 => ?_; refine ca (c := hse) (k := ?_); rintro _ _ ⟨⟨r, rfl, e1, e2, e3⟩, rfl⟩; obtain rfl := predF_find hs e1 e2 e3; (repeat (first | simp [F] | simp (disch := omega) only [wC, if_pos, if_neg])); refine hJ4 _ _ ?_; refine sq fun K5 hK5 => ?_
  refine run_draw (by kernel_rfl) fun J6 hJ6 => ?_
  refine rp2 0 (k := ?_); refine rp2 1 (k := ?_); refine rp2 2 (k := ?_); refine rp2 3 (k := ?_); refine rp2 4 (k := ?_); refine rp2 5 (k := ?_); refine rp2 6 (k := ?_); refine rp2 7 (k := ?_); refine rp2 8 (k := ?_); refine gd 22 (fun g2_8 => ?_) (fun g2_8 => ?_)
  · (try exact nope g2_8); all_goals have g2_8p := g2_8; try simp [F] at g2_8p
    all_goals
     replace F := aF g2_8 F; try replace F := aF g2_8p F
     have hi : findL l key < l.length := by simp at g2_8; omega
     have hat0 := hat _ hi
     replace F := aF hi (And.intro hat0 F)
     have hhb : hasL l key = decide (l[findL l key].k = key) := by rw [hha, List.getElem?_eq_getElem hi]
     replace F := aF hhb F; refine rp2 9 (k := ?_); refine rp2 10 (k := ?_); refine rp2 11 (k := ?_); refine rp2 12 (k := ?_); refine rp2 13 (k := ?_); refine rp2 14 (k := ?_); refine rp2 15 (k := ?_); refine rp2 16 (k := ?_); refine rp2 17 (k := ?_); refine dc 18 rfl (c := equal_ok) (k := ?_); rintro _ _ ⟨rfl, rfl⟩
     refine ⟨by first | exact fun _ _ h => h | (refine later_list [15, 14, 13, 12, 11, 10, 9, 7, 6, 5, 4, 3, 2, 1, 0] (by kernel_rfl) (List.forall_mem_cons.2 ⟨fun _ => fact2 rfl rfl ?_, List.forall_mem_cons.2 ⟨fun _ => fact2 rfl rfl ?_, List.forall_mem_cons.2 ⟨fun _ => fact2 rfl rfl ?_, List.forall_mem_cons.2 ⟨fun _ => fact2 rfl rfl ?_, List.forall_mem_cons.2 ⟨fun _ => fact2 rfl rfl ?_, List.forall_mem_cons.2 ⟨fun _ => fact2 rfl rfl ?_, List.forall_mem_cons.2 ⟨fun _ => fact2 rfl rfl ?_, List.forall_mem_cons.2 ⟨fun _ => fact2 rfl rfl ?_, List.forall_mem_cons.2 ⟨fun _ => fact2 rfl rfl ?_, List.forall_mem_cons.2 ⟨fun _ => fact2 rfl rfl ?_, List.forall_mem_cons.2 ⟨fun _ => fact2 rfl rfl ?_, List.forall_mem_cons.2 ⟨fun _ => fact2 rfl rfl ?_, List.forall_mem_cons.2 ⟨fun _ => fact2 rfl rfl ?_, List.forall_mem_cons.2 ⟨fun _ => fact2 rfl rfl ?_, List.forall_mem_cons.2 ⟨fun _ => fact2 rfl rfl ?_, fun _ h => absurd h List.not_mem_nil⟩⟩⟩⟩⟩⟩⟩⟩⟩⟩⟩⟩⟩⟩⟩) <;> constructor <;> first | rfl | (simp [F]; done)), ?_⟩
     (repeat (first | simp [F] | simp (disch := omega) only [wC, if_pos, if_neg])); refine rp2 19 (k := ?_); refine rp2 20 (k := ?_); refine rp2 21 (k := ?_); refine dd ?_; refine hJ6 _ _ ?_; refine hK5 _ _ ?_; refine run_ret ?_; (try simp only [Then, InBlock, NoGoto]); refine answer_tmp2 rfl (.inr rfl) ?_; exact gcr
  (try exact nope g2_8); all_goals have g2_8p := g2_8; try simp [F] at g2_8p
  all_goals
   replace F := aF g2_8 F; try replace F := aF g2_8p F
   have hhb : hasL l key = false := by rw [hha, List.getElem?_eq_none (by simp at g2_8; omega)]
   replace F := aF hhb F; refine rp2 9 (k := ?_); refine rp2 10 (k := ?_); refine rp2 11 (k := ?_); refine rp2 12 (k := ?_); refine rp2 13 (k := ?_); refine rp2 14 (k := ?_); refine rp2 15 (k := ?_); refine rp2 16 (k := ?_); refine rp2 17 (k := ?_); refine dop 18 rfl ?_; (repeat (first | simp [F] | simp (disch := omega) only [wC, if_pos, if_neg])); refine rp2 19 (k := ?_); refine rp2 20 (k := ?_); refine rp2 21 (k := ?_); refine dd ?_; refine hJ6 _ _ ?_; refine hK5 _ _ ?_; refine run_ret ?_; (try simp only [Then, InBlock, NoGoto]); refine answer_tmp2 rfl (.inr rfl) ?_; exact gcr
end Go.Proofs.Ytlkajgjaidedkaa

/-
  Pairs are taken out of a row, and laid into it.
-/
namespace Go.Proofs.Ytlkajgjaidedkaa
set_option linter.unnecessarySimpa false
set_option maxRecDepth 100000
open Go Go.Vm
set_option linter.unusedSimpArgs false
set_option linter.unusedVariables false
attribute [local simp] evalL wantedA isCall opA evalA evalAll evalsA evalOpt ofValue ofCell plain binA_eql_pn binA_neq_pn binA_gtr binA_lss binA_geq binA_leq binA_add binA_sub binA_eql binA_neq binA_orI binA_shl binA_shr binA_mul binA_quo binA_rem binA_agg_eql binA_agg_neq convA_int unA_not fieldAddrA loadA partA pickA_true pickA_false pickA_bb lenA builtinA storeA splice AV.cells AV.isCell sliceA boundA intA callOf indexAddrA newObjA buildA fillA zeroA ofCells buildSliceA indexA fieldA set_appN get_appN take_appN List.getElem?_cons_zero List.getElem?_cons_succ sliceRowA appendA rowAppA readA clearA zerosA zeroCell capA copyA appendZA roomA maxLen Value.oneCell' Value.cells

set_option maxHeartbeats 1600000 in
attribute [local simp] undefA List.getElem?_cons_zero List.getElem?_cons_succ in
theorem delete_ok {σ : St} {k g i m : Nat} {A X B : List AV} (hr : σ.rows[k]? = some ⟨g, A ++ (X ++ B), none⟩) (hA : A.length = i * 2) (hX : X.length = 2) (hB : B.length = m * 2) (hn : i + m ≤ 1000000000) (hu : underL σ.bd (A ++ B) = true) :
    CallsA Try.prog 110 [.row k g 0 2 (i + 1 + m), .v (.int .i64 i), .v (.int .i64 (i + 1 : Nat))] σ (fun av σ' => ∃ g', av = .row k g' 0 2 (i + m) ∧ σ' = { σ with rows := σ.rows.set k ⟨g', A ++ B, none⟩ }) := by
  refine callsA_row_end (Q := fun av σ' => ∃ g junk sp, av = .row k g 0 2 (i + m) ∧ σ' = { σ with rows := σ.rows.set k ⟨g, (A ++ B) ++ junk, sp⟩ }) ?_ hr (by simp [hA, hB]; omega) hu (fun av σ' h => ?_)
  · have hs := set_self_of hr
    have hT : List.take (i * 2) (A ++ (X ++ B)) = A := List.take_left' hA
    have hD : List.drop ((i + 1) * 2) (A ++ (X ++ B)) = B := by rw [← List.append_assoc]; exact List.drop_left' (by simp [hA, hX]; omega)
    have hT2 : List.take (m * 2) B = B := List.take_of_length_le (by omega)
    have hN1 : ((i : Int) + (m : Int)).toNat = i + m := by omega
    have hN2 : ((i : Int) + 1 + (m : Int)).toNat = i + 1 + m := by omega
    have hN3 : i + 1 + m - (i + m) = 1 := by omega
    have hN4 : (i + 1 + m) * 2 - (i * 2 + m * 2) = 2 := by omega
    have hN5 : i * 2 + m * 2 = (i + m) * 2 := by omega
    have hD2 : ∀ Z, List.drop ((i + m) * 2 + 2) (A ++ (B ++ Z)) = List.drop 2 Z := fun Z => by rw [← List.append_assoc, ← List.drop_drop, List.drop_left' (by simp [hA, hB]; omega)]
    have hT3 : ∀ Z, List.take ((i + m) * 2) (A ++ (B ++ Z)) = A ++ B := fun Z => by rw [← List.append_assoc]; exact List.take_left' (by simp [hA, hB]; omega)
    have F := And.intro hr (And.intro hA (And.intro hX (And.intro hB (And.intro hT (And.intro hD (And.intro hT2 (And.intro hN1 (And.intro hN2 (And.intro hN3 (And.intro hN4 (And.intro hD2 (And.intro hT3 (True.intro)))))))))))))
    refine callsA_body Try.func110 rfl rfl rfl ?_; refine sr fun _ hJ2 => ?_; refine hJ2 _ _ ?_; refine sq fun K3 hK3 => ?_; refine run_learnD 0 (kk := fun s q hsq hnq => ?_); replace F := aF hs F; refine rg' (h := fun J4 hJ4 => ?_); refine hJ4 _ _ ?_; refine hK3 _ _ ?_; refine sq fun K5 hK5 => ?_; refine sr fun _ hJ7 => ?_; refine hJ7 _ _ ?_; refine cs (fun c16 => ?_) (fun c16 => ?_)
    · (try exact nope c16); all_goals have c16p := c16; try simp [F] at c16p
      all_goals
       replace F := aF c16 F; (try replace F := aF c16p F); refine sr fun _ hJ9 => ?_; refine hJ9 _ _ ?_; refine ra ?_; exact ⟨g + 1, _, _, by simp [F], by simp only [List.append_assoc]; rfl⟩
    (try exact nope c16); all_goals have c16p := c16; try simp [F] at c16p
    all_goals
     replace F := aF c16 F; (try replace F := aF c16p F); refine run_skip ?_; refine hK5 _ _ ?_; refine sr fun _ hJ11 => ?_; refine hJ11 _ _ ?_; refine sq fun K12 hK12 => ?_
     refine run_draw (by kernel_rfl) fun J13 hJ13 => ?_
     refine rp2 0 (k := ?_); refine rp2 1 (k := ?_); refine rp2 2 (k := ?_); refine rp2 3 (k := ?_); refine rp2 4 (k := ?_); refine rp2 5 (k := ?_); refine dop 6 rfl ?_; repeat (first | simp [F] | simp (disch := omega) only [wC, if_pos, if_neg])
     refine ⟨later_tmp (by kernel_rfl), ?_⟩
     refine dop 7 rfl ?_; (repeat (first | simp [F] | simp (disch := omega) only [wC, if_pos, if_neg])); (try refine ⟨ln, ?_⟩); refine dd ?_; refine hJ13 _ _ ?_; refine hK12 _ _ ?_; refine sr fun _ hJ15 => ?_; refine hJ15 _ _ ?_; refine sr fun _ hJ17 => ?_; refine hJ17 _ _ ?_; refine ra ?_; exact ⟨g + 1, _, _, by simp [F], by simp only [List.append_assoc]; rfl⟩
  · obtain ⟨g', junk, sp, e1, e2⟩ := h
    exact .inl ⟨g', junk, sp, [], [], [], e1, by rw [e2]; simp⟩

set_option maxHeartbeats 1600000 in
attribute [local simp] undefA List.getElem?_cons_zero List.getElem?_cons_succ in
theorem insert_end {σ : St} {k kv g gv i : Nat} {A X : List AV} {sv : Option Nat} (hr : σ.rows[k]? = some ⟨g, A, none⟩) (hv : σ.rows[kv]? = some ⟨gv, X, sv⟩) (hA : A.length = i * 2) (hX : X.length = 2) (hn : i ≤ 1000000000) (hu : underL σ.bd (A ++ X) = true) :
    CallsA Try.prog 111 [.row k g 0 2 i, .v (.int .i64 i), .row kv gv 0 2 1] σ (fun av σ' => ∃ g', av = .row k g' 0 2 (i + 1) ∧ σ' = { σ with rows := σ.rows.set k ⟨g', A ++ X, none⟩ }) := by
  refine callsA_row_end (Q := fun av σ' => ∃ g', av = .row k g' 0 2 (i + 1) ∧ σ' = { σ with rows := σ.rows.set k ⟨g', A ++ X, none⟩ }) ?_ hr (by simp [hA, hX]; omega) hu (fun av σ' h => ?_)
  · have hT : List.take (i * 2) A = A := List.take_of_length_le (by omega)
    have hX2 : List.take 2 X = X := List.take_of_length_le (by omega)
    have h1 : (i + 1) * 48 ≤ 140737488355328 := by omega
    have h2 : i + 1 ≤ 9223372036854775807 := by omega
    have F := And.intro hr (And.intro hv (And.intro hA (And.intro hX (And.intro hT (And.intro hX2 (And.intro h1 (And.intro h2 (True.intro))))))))
    refine callsA_body Try.func111 rfl rfl rfl ?_; refine sr fun _ hJ2 => ?_; refine hJ2 _ _ ?_; refine sr fun _ hJ4 => ?_; refine hJ4 _ _ ?_; refine sr fun _ hJ6 => ?_; refine hJ6 _ _ ?_; refine sq fun K7 hK7 => ?_; refine sr fun _ hJ9 => ?_; refine hJ9 _ _ ?_; refine cs (fun c16 => ?_) (fun c16 => ?_)
    · (try exact nope c16); all_goals have c16p := c16; try simp [F] at c16p
      all_goals
       replace F := aF c16 F; (try replace F := aF c16p F); refine sr fun _ hJ11 => ?_; refine hJ11 _ _ ?_; refine ra ?_; exact ⟨g + 1, by simp [F], rfl⟩
    (try exact nope c16); all_goals have c16p := c16; try simp [F] at c16p
    all_goals
     replace F := aF c16 F; (try replace F := aF c16p F); refine run_skip ?_; refine hK7 _ _ ?_; refine sr fun _ hJ13 => ?_; refine hJ13 _ _ ?_; refine sq fun K14 hK14 => ?_; refine sr fun _ hJ16 => ?_; refine hJ16 _ _ ?_; refine ct ?_; refine sr fun _ hJ18 => ?_; refine hJ18 _ _ ?_; refine ra ?_; exact ⟨g + 1, by simp [F], rfl⟩
  · obtain ⟨g', e1, e2⟩ := h
    exact .inl ⟨g', [], none, [], [], [], e1, by rw [e2]; simp⟩

theorem overlapsP {σ : St} {k1 g1 o1 n1 k2 g2 o2 n2 : Nat} {c1 c2 : List AV} {s1 s2 : Option Nat} (hne : k1 ≠ k2) (h1 : σ.rows[k1]? = some ⟨g1, c1, s1⟩) (h2 : σ.rows[k2]? = some ⟨g2, c2, s2⟩) :
    ExtA Try.prog 120 [.row k1 g1 o1 2 n1, .row k2 g2 o2 2 n2] σ (fun av _ => av = .v (.bool false)) :=
  overlaps_ext (tS := 119) (tR := 4) Try.func120 (by kernel_rfl) (by kernel_rfl) (by kernel_rfl) (by kernel_rfl) Try.underlying119 (ti_130) rfl (by decide) hne h1 rfl h2 rfl

set_option maxHeartbeats 1600000 in
attribute [local simp] undefA List.getElem?_cons_zero List.getElem?_cons_succ in
set_option maxHeartbeats 16000000 in
theorem insert_mid {σ : St} {k kv g gv i m : Nat} {A X B : List AV} {sv : Option Nat} (hr : σ.rows[k]? = some ⟨g, A ++ B, none⟩) (hv : σ.rows[kv]? = some ⟨gv, X, sv⟩) (hk : kv ≠ k) (hA : A.length = i * 2) (hX : X.length = 2) (hB : B.length = m * 2) (hm : 0 < m) (hn : i + m ≤ 1000000000) (hu : underL σ.bd (A ++ (X ++ B)) = true) :
    CallsA Try.prog 111 [.row k g 0 2 (i + m), .v (.int .i64 i), .row kv gv 0 2 1] σ (fun av σ' => ∃ g', av = .row k g' 0 2 (i + m + 1) ∧ σ' = { σ with rows := σ.rows.set k ⟨g', A ++ (X ++ B), none⟩ }) := by
  have hkl := lt_of_get hr
  have hvl := lt_of_get hv
  refine callsA_row_end (Q := fun av σ' => (∃ g' sp, av = .row k g' 0 2 (i + m + 1) ∧ σ' = { σ with rows := σ.rows.set k ⟨g', A ++ (X ++ B), sp⟩ }) ∨ (∃ r1 sp, av = .row σ.rows.length 0 0 2 (i + m + 1) ∧ σ' = { σ with rows := σ.rows.set k r1 ++ [⟨0, A ++ (X ++ B), sp⟩] })) ?_ hr (by simp [hA, hB, hX]; omega) hu (fun av σ' h => ?_)
  · have hs := fun x => set_self_of hr x
    have hvs : ∀ x, (σ.rows.set k x)[kv]? = some ⟨gv, X, sv⟩ := fun x => by rw [List.getElem?_set_ne (Ne.symm hk)]; exact hv
    have hT : List.take (i * 2) (A ++ B) = A := List.take_left' hA
    have hD : List.drop (i * 2) (A ++ B) = B := List.drop_left' hA
    have hT2 : List.take (m * 2) B = B := List.take_of_length_le (by omega)
    have hX2 : List.take 2 X = X := List.take_of_length_le (by omega)
    have hN1 : ((i : Int) + (m : Int)).toNat = i + m := by omega
    have hN2 : ((i : Int) + (m : Int) + 1).toNat = i + m + 1 := by omega
    have hw1 : IntKind.i64.wrap ((i : Int) + (m : Int) + 1) = ((i + m + 1 : Nat) : Int) := wrap_i64 _ (by omega) (by omega)
    have hw2 : IntKind.i64.wrap ((i : Int) + 1) = ((i + 1 : Nat) : Int) := wrap_i64 _ (by omega) (by omega)
    have hw3 : IntKind.i64.wrap ((i : Int) + (m : Int) + 1 - (i : Int)) = ((m + 1 : Nat) : Int) := by rw [wrap_i64 _ (by omega) (by omega)]; omega
    have hvs2 : ∀ r x, (σ.rows.set k r ++ [x])[kv]? = some ⟨gv, X, sv⟩ := fun r x => by rw [List.getElem?_append_left (by simpa using hvl)]; exact hvs r
    have hk1 : ∀ r x, (σ.rows.set k r ++ [x])[k]? = some r := fun r x => by rw [List.getElem?_append_left (by simpa using hkl)]; exact hs r
    have hn1 : ∀ r x, (σ.rows.set k r ++ [x])[σ.rows.length]? = some x := fun r x => by rw [List.getElem?_append_right (by simp)]; simp
    have hset1 : ∀ r x y, (σ.rows.set k r ++ [x]).set σ.rows.length y = σ.rows.set k r ++ [y] := fun r x y => by rw [List.set_append_right _ _ (by simp)]; simp
    have hTz : ∀ Z, List.take (i * 2) (A ++ Z) = A := fun Z => List.take_left' hA
    have hDz : ∀ Z, List.drop (i * 2) (A ++ Z) = Z := fun Z => List.drop_left' hA
    have hDz2 : ∀ Z, List.drop (i * 2 + 2) (A ++ Z) = List.drop 2 Z := fun Z => by rw [← List.drop_drop, hDz]
    have hT1 : ∀ Z, List.take ((i + 1) * 2) (A ++ Z) = A ++ List.take 2 Z := fun Z => by rw [show (i + 1) * 2 = A.length + 2 by omega, List.take_length_add_append]
    have hT2x : ∀ Z, List.take 2 (X ++ Z) = X := fun Z => List.take_left' hX
    have hDx : ∀ f : Nat → AV, List.drop ((i + 1) * 2 + m * 2) (A ++ (X ++ List.drop 2 (List.map f (List.range ((m + 1) * 2))))) = [] := fun f => List.drop_of_length_le (by simp [hA, hX]; omega)
    have hDx2 : ∀ E : List AV, E.length = 2 → List.drop ((i + 1) * 2 + m * 2) (A ++ (B ++ E)) = [] := fun E hE => List.drop_of_length_le (by simp [hA, hB, hE]; omega)
    have hDx3 := hDx2 [.any, .any] rfl
    have hN4 : (i + m + 1) * 2 - (i * 2 + m * 2) = 2 := by omega
    have hN5 : min 1 (m + 1) = 1 := by omega
    have hN6 : i + m + 1 - (i + 1) = m := by omega
    have hN7 : i + m + 1 - i = m + 1 := by omega
    have hN8 : min m (i + (m + 1) - (i + 1)) = m := by omega
    have hTB : ∀ E, List.take (m * 2) (B ++ E) = B := fun E => List.take_left' hB
    have hTB2 : List.take ((m + 1) * 2) (B ++ [.any, .any]) = B ++ [.any, .any] := List.take_of_length_le (by simp [hB]; omega)
    have hne : ((i : Int) == (i : Int) + (m : Int)) = false := by simp; omega
    have F := And.intro hr (And.intro hv (And.intro hA (And.intro hX (And.intro hB (And.intro hT (And.intro hD (And.intro hT2 (And.intro hX2 (And.intro hN1 (And.intro hN2 (And.intro hw1 (And.intro hw2 (And.intro hw3 (And.intro hne (True.intro)))))))))))))))
    refine callsA_body Try.func111 rfl rfl rfl ?_; refine sr fun _ hJ2 => ?_; refine hJ2 _ _ ?_; refine sr fun _ hJ4 => ?_; refine hJ4 _ _ ?_; refine sr fun _ hJ6 => ?_; refine hJ6 _ _ ?_; refine sq fun K7 hK7 => ?_; refine sr fun _ hJ9 => ?_; refine hJ9 _ _ ?_; refine cs (fun c16 => ?_) (fun c16 => ?_)
    · (try exact nope c16); all_goals have c16p := c16; try simp [F] at c16p
      all_goals
       replace F := aF c16 F; (try replace F := aF c16p F); refine sr fun _ hJ11 => ?_; refine hJ11 _ _ ?_; refine ra ?_; exact .inl ⟨g, _, by simp [F, Nat.add_assoc], rfl⟩
    (try exact nope c16); all_goals have c16p := c16; try simp [F] at c16p
    all_goals
     replace F := aF c16 F; (try replace F := aF c16p F); refine run_skip ?_; refine hK7 _ _ ?_; refine sr fun _ hJ13 => ?_; refine hJ13 _ _ ?_; refine sq fun K14 hK14 => ?_; refine sr fun _ hJ16 => ?_; refine hJ16 _ _ ?_; refine cf ?_; refine run_skip ?_; refine hK14 _ _ ?_; refine sq fun K17 hK17 => ?_; refine sq fun K18 hK18 => ?_; refine run_learnD 0 (kk := fun s q hsq hnq => ?_)
     have hql : i * 2 + m * 2 + s = q * 2 := by simp [hA, hB] at hsq; omega
     have hq1 : (i * 2 + m * 2 + s) % 2 = 0 := by omega
     have hq2 : ((i : Int) * 2 + (m : Int) * 2 + (s : Int)) / 2 = (q : Int) := by omega
     replace F := aF hs F; replace F := aF hvs F; replace F := aF hq1 F; replace F := aF hq2 F; replace F := aF hvs2 F; replace F := aF hk1 F; replace F := aF hn1 F; replace F := aF hset1 F; replace F := aF hTz F; replace F := aF hDz F; replace F := aF hDz2 F; replace F := aF hT1 F; replace F := aF hT2x F; replace F := aF hDx F; replace F := aF hDx3 F; replace F := aF hN4 F; replace F := aF hN5 F; replace F := aF hN6 F; replace F := aF hN7 F; replace F := aF hN8 F; replace F := aF hTB F; replace F := aF hTB2 F; refine rg' (h := fun J19 hJ19 => ?_); refine hJ19 _ _ ?_; refine hK18 _ _ ?_; refine cs (fun c31 => ?_) (fun c31 => ?_)
     · (try exact nope c31); all_goals have c31p := c31; try simp [F] at c31p
       all_goals
        replace F := aF c31 F; (try replace F := aF c31p F); refine sr fun _ hJ21 => ?_; refine hJ21 _ _ ?_; refine sr fun _ hJ23 => ?_; refine hJ23 _ _ ?_; refine sq fun K24 hK24 => ?_
        refine run_draw (by kernel_rfl) fun J25 hJ25 => ?_
        refine rp2 0 (k := ?_); refine rp2 1 (k := ?_); refine rp2 2 (k := ?_); refine rp2 3 (k := ?_); refine rp2 4 (k := ?_); refine rp2 5 (k := ?_); refine rp2 6 (k := ?_); refine rp2 7 (k := ?_); refine dop 8 rfl ?_; repeat (first | simp [F] | simp (disch := omega) only [wC, if_pos, if_neg])
        refine ⟨by first | exact fun _ _ h => h | (refine later_list [6, 5, 3, 2, 1, 0] (by kernel_rfl) (List.forall_mem_cons.2 ⟨fun _ => fact2 rfl rfl ?_, List.forall_mem_cons.2 ⟨fun _ => fact2 rfl rfl ?_, List.forall_mem_cons.2 ⟨fun _ => fact2 rfl rfl ?_, List.forall_mem_cons.2 ⟨fun _ => fact2 rfl rfl ?_, List.forall_mem_cons.2 ⟨fun _ => fact2 rfl rfl ?_, List.forall_mem_cons.2 ⟨fun _ => fact2 rfl rfl ?_, fun _ h => absurd h List.not_mem_nil⟩⟩⟩⟩⟩⟩) <;> constructor <;> first | rfl | (simp [F]; done)), ?_⟩
        refine dd ?_; refine hJ25 _ _ ?_; refine hK24 _ _ ?_; refine sr fun _ hJ27 => ?_; refine hJ27 _ _ ?_; refine ra ?_; exact .inr ⟨_, none, by simp [F, Nat.add_assoc], rfl⟩
     (try exact nope c31); all_goals have c31p := c31; try simp [F] at c31p
     all_goals
      replace F := aF c31 F; (try replace F := aF c31p F); refine run_skip ?_; refine hK17 _ _ ?_; refine sr fun _ hJ29 => ?_; refine hJ29 _ _ ?_; refine sq fun K30 hK30 => ?_; refine sr fun _ hJ32 => ?_
      refine ce (c := overlapsP (g1 := gv) (n1 := 1) (o1 := 0) (g2 := g) (o2 := (i + 1) * 2) (n2 := m) hk (by simp [F]; first | done | exact ⟨rfl, rfl⟩) (by simp [F]; first | done | exact ⟨rfl, rfl⟩)) (k := ?_)
      rintro _ _ rfl rfl; (repeat (first | simp [F] | simp (disch := omega) only [wC, if_pos, if_neg])); refine hJ32 _ _ ?_; refine ct ?_; refine sq fun K33 hK33 => ?_
      refine run_draw (by kernel_rfl) fun J34 hJ34 => ?_
      refine rp2 0 (k := ?_); refine rp2 1 (k := ?_); refine rp2 2 (k := ?_); refine rp2 3 (k := ?_); refine rp2 4 (k := ?_); refine rp2 5 (k := ?_); refine rp2 6 (k := ?_); refine rp2 7 (k := ?_); refine dop 8 rfl ?_; repeat (first | simp [F] | simp (disch := omega) only [wC, if_pos, if_neg])
      refine ⟨by first | exact fun _ _ h => h | (refine later_list [6, 5, 3, 2, 1, 0] (by kernel_rfl) (List.forall_mem_cons.2 ⟨fun _ => fact2 rfl rfl ?_, List.forall_mem_cons.2 ⟨fun _ => fact2 rfl rfl ?_, List.forall_mem_cons.2 ⟨fun _ => fact2 rfl rfl ?_, List.forall_mem_cons.2 ⟨fun _ => fact2 rfl rfl ?_, List.forall_mem_cons.2 ⟨fun _ => fact2 rfl rfl ?_, List.forall_mem_cons.2 ⟨fun _ => fact2 rfl rfl ?_, fun _ h => absurd h List.not_mem_nil⟩⟩⟩⟩⟩⟩) <;> constructor <;> first | rfl | (simp [F]; done)), ?_⟩
      refine dd ?_; refine hJ34 _ _ ?_; refine hK33 _ _ ?_; refine sr fun _ hJ36 => ?_; refine hJ36 _ _ ?_; refine sr fun _ hJ38 => ?_; refine hJ38 _ _ ?_; refine ra ?_; exact .inl ⟨g, _, by simp [F, Nat.add_assoc], rfl⟩
  · rcases h with ⟨g', sp, e1, e2⟩ | ⟨r1, sp, e1, e2⟩
    · exact .inl ⟨g', [], sp, [], [], [], e1, by rw [e2]; simp⟩
    · exact .inr ⟨_, sp, [], [], r1, 0, [], e1, by rw [e2]; simp, rfl⟩

end Go.Proofs.Ytlkajgjaidedkaa

/-
  A store: a pair is put, or none of that key; what was there is told.
-/
namespace Go.Proofs.Ytlkajgjaidedkaa
set_option linter.unnecessarySimpa false
set_option maxRecDepth 100000
open Go Go.Vm
set_option linter.unusedSimpArgs false
set_option linter.unusedVariables false
attribute [local simp] evalL wantedA isCall opA evalA evalAll evalsA evalOpt ofValue ofCell plain binA_eql_pn binA_neq_pn binA_gtr binA_lss binA_geq binA_leq binA_add binA_sub binA_eql binA_neq binA_orI binA_shl binA_shr binA_mul binA_quo binA_rem binA_agg_eql binA_agg_neq convA_int unA_not fieldAddrA loadA partA pickA_true pickA_false pickA_bb lenA builtinA storeA splice AV.cells AV.isCell sliceA boundA intA callOf indexAddrA newObjA buildA fillA zeroA ofCells buildSliceA indexA fieldA set_appN get_appN take_appN List.getElem?_cons_zero List.getElem?_cons_succ get_sa0 get_sa1 get_sa2 get_sa3 set_sa0 set_sa1 set_sa2 set_sa3

theorem prsC_app (l m : List Pr) : prsC (l ++ m) = prsC l ++ prsC m := by simp [prsC]
theorem prsC_take (l : List Pr) (i : Nat) : List.take (i * 2) (prsC l) = prsC (l.take i) := by
  by_cases h : i ≤ l.length
  · conv => lhs; rw [← List.take_append_drop i l, prsC_app]
    exact List.take_left' (by rw [prsC_len, List.length_take, Nat.min_eq_left h])
  · rw [List.take_of_length_le (by rw [prsC_len]; omega), List.take_of_length_le (by omega)]
theorem prsC_drop (l : List Pr) (i : Nat) : List.drop (i * 2) (prsC l) = prsC (l.drop i) := by
  by_cases h : i ≤ l.length
  · conv => lhs; rw [← List.take_append_drop i l, prsC_app]
    exact List.drop_left' (by rw [prsC_len, List.length_take, Nat.min_eq_left h])
  · rw [List.drop_of_length_le (by rw [prsC_len]; omega), List.drop_of_length_le (by omega)]; rfl
theorem prsC_set {l : List Pr} {i : Nat} (h : i < l.length) (p : Pr) : List.take (i * 2) (prsC l) ++ byC p.k :: byC p.v :: List.drop (i * 2 + 2) (prsC l) = prsC (l.set i p) := by
  rw [show i * 2 + 2 = (i + 1) * 2 by omega, prsC_take, prsC_drop, List.set_eq_take_append_cons_drop, if_pos h, prsC_app]
  rfl
theorem prsC_cut {l : List Pr} {i : Nat} (h : i < l.length) : prsC l = prsC (l.take i) ++ (prC l[i] ++ prsC (l.drop (i + 1))) := by
  conv => lhs; rw [← List.take_append_drop i l, prsC_app, List.drop_eq_getElem_cons h]
  rfl
theorem prsC_cut0 (l : List Pr) (i : Nat) : prsC l = prsC (l.take i) ++ prsC (l.drop i) := by
  conv => lhs; rw [← List.take_append_drop i l, prsC_app]
theorem delP_ok {σ : St} {k g i : Nat} {l : List Pr} (hr : σ.rows[k]? = some ⟨g, prsC l, none⟩) (hi : i < l.length) (hn : l.length ≤ 1000000) :
    CallsA Try.prog 110 [.row k g 0 2 l.length, .v (.int .i64 i), .v (.int .i64 ((i : Int) + 1))] σ (fun av σ' => ∃ g', av = .row k g' 0 2 (l.length - 1) ∧ σ' = { σ with rows := σ.rows.set k ⟨g', prsC (l.take i ++ l.drop (i + 1)), none⟩ }) := by
  rw [prsC_cut hi] at hr
  have := delete_ok (i := i) (m := l.length - i - 1) hr (by simp [prsC_len]; omega) rfl (by simp [prsC_len]; omega) (by omega) (by rw [← prsC_app]; exact prsC_under _ _)
  rw [← prsC_app, show i + 1 + (l.length - i - 1) = l.length by omega, show i + (l.length - i - 1) = l.length - 1 by omega] at this
  exact this
theorem insP_ok {σ : St} {k kv g gv i : Nat} {l : List Pr} {p : Pr} {sv : Option Nat} (hr : σ.rows[k]? = some ⟨g, prsC l, none⟩) (hv : σ.rows[kv]? = some ⟨gv, prC p, sv⟩) (hk : kv ≠ k) (hi : i ≤ l.length) (hn : l.length ≤ 1000000) :
    CallsA Try.prog 111 [.row k g 0 2 l.length, .v (.int .i64 i), .row kv gv 0 2 1] σ (fun av σ' => ∃ g', av = .row k g' 0 2 (l.length + 1) ∧ σ' = { σ with rows := σ.rows.set k ⟨g', prsC (l.take i ++ p :: l.drop i), none⟩ }) := by
  have e : prsC (l.take i ++ p :: l.drop i) = prsC (l.take i) ++ (prC p ++ prsC (l.drop i)) := by rw [prsC_app]; rfl
  by_cases h0 : i = l.length
  · subst h0
    have := insert_end (i := l.length) hr hv (by simp [prsC_len]) rfl (by omega) (by have := prsC_under σ.bd (l ++ [p]); rw [prsC_app] at this; simpa [prsC] using this)
    rw [e, List.take_length, List.drop_length]
    simpa [prsC] using this
  · rw [prsC_cut0 l i] at hr
    have := insert_mid (i := i) (m := l.length - i) hr hv hk (by simp [prsC_len]; omega) rfl (by simp [prsC_len]) (by omega) (by omega) (by rw [← e]; exact prsC_under _ _)
    rw [← e, show i + (l.length - i) = l.length by omega] at this
    exact this
theorem getL_some_at {l : List Pr} {key v : List UInt8} (hs : Srt l) (h : getL l key = some v) : ∃ h : findL l key < l.length, (l[findL l key]).k = key ∧ (l[findL l key]).v = v := by
  rw [findL_get hs] at h
  split at h
  · rename_i p hp
    obtain ⟨h1, h2⟩ := List.getElem?_eq_some_iff.1 hp
    split at h
    · rename_i hk
      exact ⟨h1, by rw [h2]; exact hk, by rw [h2]; exact Option.some.inj h⟩
    · cases h
  · cases h

set_option maxHeartbeats 1600000 in
attribute [local simp] undefA List.getElem?_cons_zero List.getElem?_cons_succ byC in
theorem put_ok {σ : St} {o k : Nat} {G : Sg} {key val : List UInt8} {is : Bool} (h : HasS σ o k G) (hs : Srt G.s.l) (hl : G.s.l.length ≤ 1000000) :
    CallsA Try.prog 83 [.ptr o 0, .agg [byC key, byC val], .v (.bool is)] σ (fun av σ' => ∃ g, av = .agg (udC ⟨key, getL G.s.l key⟩) ∧ σ' = putS σ o k ⟨⟨setL G.s.l key (if is then some val else none), G.s.log, G.s.marks⟩, g, G.g2, G.g3⟩) := by
  refine callsA_gcSt (X := Nat) (T := fun g => ⟨⟨setL G.s.l key (if is then some val else none), G.s.log, G.s.marks⟩, g, G.g2, G.g3⟩) h (fun _ => by simp [AV.under, udC_under]) ?_
  have hp1 := fun l' g' => putS_1 h l' g'
  have hfi := fun L m => find_ok (key := key) (t := .shut) (h.app L m) hs (by omega)
  have hbd := prsC_under σ.bd
  have hset := setL_at (k := key) (o := if is then some val else none) hs
  have hgat : ∀ v, getL G.s.l key = some v → _ := fun v h => getL_some_at (key := key) (v := v) hs h
  have hhas : hasL G.s.l key = (getL G.s.l key).isSome := rfl
  have hlo := lt_of_get h.o
  have hlr := lt_of_get h.r1
  obtain ⟨ho, hr1, hr2, hr3⟩ := h
  obtain ⟨⟨l, log, marks⟩, g1, g2, g3⟩ := G
  simp only [stC, stR1, stR2, stR3] at ho hr1 hr2 hr3 hl hp1 hset hgat hhas hfi ⊢
  have ha : ∀ L, (σ.objs ++ L)[o]? = some [.row k g1 0 2 l.length, .row (k + 1) g2 0 3 log.length, .row (k + 2) g3 0 1 marks.length] := fun L => by rw [List.getElem?_append_left hlo]; exact ho
  have hb : ∀ x L, (σ.objs ++ L).set o x = σ.objs.set o x ++ L := fun x L => List.set_append_left _ _ hlo
  have hc : ∀ x L, (σ.objs.set o x ++ L)[o]? = some x := fun x L => by rw [List.getElem?_append_left (by simpa using hlo)]; exact set_self_of ho x
  have hle := findL_le l key
  obtain ⟨i, hi⟩ : ∃ i, i = findL l key := ⟨_, rfl⟩
  obtain ⟨q, hq⟩ : ∃ q, q = getL l key := ⟨_, rfl⟩
  simp only [← hi, ← hq] at hset hgat hhas hfi hle
  obtain ⟨b, hbb⟩ : ∃ b, b = hasL l key := ⟨_, rfl⟩
  simp only [← hbb] at hfi hhas
  have hda : ∀ (x : RowSt) L, (σ.rows.set k x ++ L)[k]? = some x := fun x L => by rw [List.getElem?_append_left (by simpa using hlr)]; exact set_self_of hr1 x
  have hdb : ∀ L, (σ.rows ++ L)[k]? = some ⟨g1, prsC l, none⟩ := fun L => by rw [List.getElem?_append_left hlr]; exact hr1
  have hdc : ∀ (x : RowSt) L, (σ.rows ++ L).set k x = σ.rows.set k x ++ L := fun x L => List.set_append_left _ _ hlr
  have hso := set_same' ho
  have hsr := set_same' hr1
  have F := And.intro ha (And.intro hb (And.intro hc (And.intro hr1 (And.intro hda (And.intro hdb (And.intro hdc (And.intro hso (And.intro hsr (True.intro)))))))))
  refine callsA_body Try.func83 rfl rfl rfl ?_; refine sr fun _ hJ2 => ?_; refine hJ2 _ _ ?_; refine sr fun _ hJ4 => ?_; refine ca (c := hfi _ _) (k := ?_); rintro _ _ ⟨rfl, rfl⟩; (repeat (first | simp [F] | simp (disch := omega) only [wC, if_pos, if_neg])); refine hJ4 _ _ ?_; refine sr fun _ hJ6 => ?_; refine hJ6 _ _ ?_; refine sq fun K7 hK7 => ?_; refine run_block_k ?_; refine sr fun _ hJ9 => ?_; refine gs 24 (fun g3_1 => ?_) (fun g3_1 => ?_)
  · (try exact nope g3_1); all_goals have g3_1p := g3_1; try simp [F] at g3_1p
    all_goals
     replace F := aF g3_1 F; try replace F := aF g3_1p F
     obtain ⟨v, hv⟩ : ∃ v, q = some v := Option.isSome_iff_exists.1 (by rw [← hhas]; simpa using g3_1)
     obtain ⟨hil, hik, hiv⟩ := hgat v hv
     have hat := prsC_at hil
     rw [hiv] at hat
     have hat2 := hat.2
     have hpl := prsC_len l
     have hi2 : i * 2 + 2 ≤ l.length * 2 := by omega
     have hps := prsC_set hil ⟨key, val⟩
     simp only [byC] at hat2 hps
     replace F := aF hil (And.intro hat2 (And.intro hpl (And.intro hi2 F))); refine go2 (k := ?_); refine hJ9 _ _ ?_; refine cs (fun c22 => ?_) (fun c22 => ?_)
     · (try exact nope c22); all_goals have c22p := c22; try simp [F] at c22p
       all_goals
        replace F := aF c22 F; try replace F := aF c22p F
        have his : is = true := by simpa using c22
        have hS : setL l key (if is then some val else none) = l.set i ⟨key, val⟩ := by rw [hset, hv, his]; rfl
        replace F := aF hps F
        refine run_draw (by kernel_rfl) fun J10 hJ10 => ?_
        refine rp2 0 (k := ?_); refine rp2 1 (k := ?_); refine rp2 2 (k := ?_); refine rp2 3 (k := ?_); refine rp2 4 (k := ?_); refine rp2 5 (k := ?_); refine rp2 6 (k := ?_); refine rp2 7 (k := ?_); refine rp2 8 (k := ?_); refine rp2 9 (k := ?_); refine rp2 10 (k := ?_); refine rp2 11 (k := ?_); refine rp2 12 (k := ?_); refine rp2 13 (k := ?_); refine rp2 14 (k := ?_); refine rp2 15 (k := ?_); refine dop 16 rfl ?_; repeat (first | simp [F] | simp (disch := omega) only [wC, if_pos, if_neg])
        refine ⟨by first | exact fun _ _ h => h | (refine later_list [14, 13, 4, 3, 2, 1, 0] (by kernel_rfl) (List.forall_mem_cons.2 ⟨fun _ => fact2 rfl rfl ?_, List.forall_mem_cons.2 ⟨fun _ => fact2 rfl rfl ?_, List.forall_mem_cons.2 ⟨fun _ => fact2 rfl rfl ?_, List.forall_mem_cons.2 ⟨fun _ => fact2 rfl rfl ?_, List.forall_mem_cons.2 ⟨fun _ => fact2 rfl rfl ?_, List.forall_mem_cons.2 ⟨fun _ => fact2 rfl rfl ?_, List.forall_mem_cons.2 ⟨fun _ => fact2 rfl rfl ?_, fun _ h => absurd h List.not_mem_nil⟩⟩⟩⟩⟩⟩⟩) <;> constructor <;> first | rfl | (simp [F]; done)), ?_⟩
        refine rp2 17 (k := ?_); refine dop 18 rfl ?_; (repeat (first | simp [F] | simp (disch := omega) only [wC, if_pos, if_neg])); refine ⟨ln, ?_⟩; refine dd ?_; refine hJ10 _ _ ?_; refine hK7 _ _ ?_; refine sr fun _ hJ12 => ?_; refine hJ12 _ _ ?_; refine run_ret ?_; (try simp only [Then, InBlock, NoGoto]); refine acell (h := ?_); refine ⟨g1, ?_⟩
        rw [hp1, hS, ← hq, hv]
        exact gcr
     (try exact nope c22); all_goals have c22p := c22; try simp [F] at c22p
     all_goals
      replace F := aF c22 F; try replace F := aF c22p F
      have his : is = false := by simpa using c22
      have hS : setL l key (if is then some val else none) = l.take i ++ l.drop (i + 1) := by rw [hset, hv, his]; rfl
      have hlen : (l.take i ++ l.drop (i + 1)).length = l.length - 1 := by simp; omega
      replace F := aF hlen F; refine sr fun _ hJ14 => ?_; refine hJ14 _ _ ?_; refine ct ?_; refine sr fun _ hJ16 => ?_; refine hJ16 _ _ ?_; refine rg' (h := fun J17 hJ17 => ?_); refine ca (c := delP_ok (i := i) (l := l) (g := g1) (k := k) st hil hl) (k := ?_); rintro _ _ ⟨g', rfl, rfl⟩; (repeat (first | simp [F] | simp (disch := omega) only [wC, if_pos, if_neg])); refine hJ17 _ _ ?_; refine hK7 _ _ ?_; refine sr fun _ hJ19 => ?_; refine hJ19 _ _ ?_; refine run_ret ?_; (try simp only [Then, InBlock, NoGoto]); refine acell (h := ?_); refine ⟨g', ?_⟩
      rw [hp1, hS, ← hq, hv]
      exact gcr
  (try exact nope g3_1); all_goals have g3_1p := g3_1; try simp [F] at g3_1p
  all_goals
   replace F := aF g3_1 F; try replace F := aF g3_1p F
   have hv : q = none := by cases q with | none => rfl | some v => simp [hhas] at g3_1
   refine no2 (k := ?_); refine hJ9 _ _ ?_; refine cf ?_; refine sr fun _ hJ21 => ?_; refine hJ21 _ _ ?_; refine cf ?_; refine sr fun _ hJ23 => ?_; refine hJ23 _ _ ?_; refine cs (fun c67 => ?_) (fun c67 => ?_)
   · (try exact nope c67); all_goals have c67p := c67; try simp [F] at c67p
     all_goals
      replace F := aF c67 F; try replace F := aF c67p F
      have his : is = true := by simpa using c67
      have hS : setL l key (if is then some val else none) = l.take i ++ ⟨key, val⟩ :: l.drop i := by rw [hset, hv, his]; rfl
      have hlen : (l.take i ++ (⟨key, val⟩ : Pr) :: l.drop i).length = l.length + 1 := by simp; omega
      replace F := aF hlen F
      refine run_draw (by kernel_rfl) fun J24 hJ24 => ?_
      refine rp2 0 (k := ?_); refine rp2 1 (k := ?_); refine rp2 2 (k := ?_); refine rp2 3 (k := ?_); refine rp2 4 (k := ?_); refine rp2 5 (k := ?_); refine rp2 6 (k := ?_); refine db 7 rfl rfl (k := ?_)
      refine ⟨by first | exact fun _ _ h => h | (refine later_list [5, 4, 3, 2, 1, 0] (by kernel_rfl) (List.forall_mem_cons.2 ⟨fun _ => fact2 rfl rfl ?_, List.forall_mem_cons.2 ⟨fun _ => fact2 rfl rfl ?_, List.forall_mem_cons.2 ⟨fun _ => fact2 rfl rfl ?_, List.forall_mem_cons.2 ⟨fun _ => fact2 rfl rfl ?_, List.forall_mem_cons.2 ⟨fun _ => fact2 rfl rfl ?_, List.forall_mem_cons.2 ⟨fun _ => fact2 rfl rfl ?_, fun _ h => absurd h List.not_mem_nil⟩⟩⟩⟩⟩⟩) <;> constructor <;> first | rfl | (simp [F]; done)), ?_⟩
      repeat (first | simp [F] | simp (disch := omega) only [wC, if_pos, if_neg])
      refine dc 8 rfl (c := insP_ok (i := i) (l := l) (g := g1) (k := k) (kv := σ.rows.length) (gv := 0) (p := ⟨key, val⟩) (sv := none) st (by simp [F]; rfl) (by omega) hle hl) (k := ?_)
      rintro _ _ ⟨g', rfl, rfl⟩
      refine ⟨by first | exact fun _ _ h => h | (refine later_list [3, 2, 1, 0] (by kernel_rfl) (List.forall_mem_cons.2 ⟨fun _ => fact2 rfl rfl ?_, List.forall_mem_cons.2 ⟨fun _ => fact2 rfl rfl ?_, List.forall_mem_cons.2 ⟨fun _ => fact2 rfl rfl ?_, List.forall_mem_cons.2 ⟨fun _ => fact2 rfl rfl ?_, fun _ h => absurd h List.not_mem_nil⟩⟩⟩⟩) <;> constructor <;> first | rfl | (simp [F]; done)), ?_⟩
      (repeat (first | simp [F] | simp (disch := omega) only [wC, if_pos, if_neg])); refine rp2 9 (k := ?_); refine rp2 10 (k := ?_); refine dop 11 rfl ?_; repeat (first | simp [F] | simp (disch := omega) only [wC, if_pos, if_neg])
      refine ⟨by first | exact fun _ _ h => h | (refine later_list [9] (by kernel_rfl) (List.forall_mem_cons.2 ⟨fun _ => fact2 rfl rfl ?_, fun _ h => absurd h List.not_mem_nil⟩) <;> constructor <;> first | rfl | (simp [F]; done)), ?_⟩
      refine dd ?_; refine hJ24 _ _ ?_; refine hK7 _ _ ?_; refine sr fun _ hJ26 => ?_; refine hJ26 _ _ ?_; refine run_ret ?_; (try simp only [Then, InBlock, NoGoto]); refine acell (h := ?_); refine ⟨g', ?_⟩
      rw [hp1, hS, ← hq, hv]
      exact gcr (hA := WkL.agg (.cons (Wk.refl _) (.cons (Wk.nil _ _ _) (.cons (Wk.refl _) .nil))))
   (try exact nope c67); all_goals have c67p := c67; try simp [F] at c67p
   all_goals
    replace F := aF c67 F; try replace F := aF c67p F
    have his : is = false := by simpa using c67
    have hS : setL l key (if is then some val else none) = l := by rw [hset, hv, his]; rfl
    refine run_skip ?_; refine hK7 _ _ ?_; refine sr fun _ hJ28 => ?_; refine hJ28 _ _ ?_; refine run_ret ?_; (try simp only [Then, InBlock, NoGoto]); refine acell (h := ?_); refine ⟨g1, ?_⟩
    rw [hp1, hS, ← hq, hv]
    exact gcr (hA := WkL.agg (.cons (Wk.refl _) (.cons (Wk.nil _ _ _) (.cons (Wk.refl _) .nil))))

end Go.Proofs.Ytlkajgjaidedkaa

/-
  A store: a pair is put, and what was there is noted.
-/
namespace Go.Proofs.Ytlkajgjaidedkaa
set_option linter.unnecessarySimpa false
set_option maxRecDepth 100000
open Go Go.Vm
set_option linter.unusedSimpArgs false
set_option linter.unusedVariables false
attribute [local simp] evalL wantedA isCall opA evalA evalAll evalsA evalOpt ofValue ofCell plain binA_eql_pn binA_neq_pn binA_gtr binA_lss binA_geq binA_leq binA_add binA_sub binA_eql binA_neq binA_orI binA_shl binA_shr binA_mul binA_quo binA_rem binA_agg_eql binA_agg_neq convA_int unA_not fieldAddrA loadA partA pickA_true pickA_false pickA_bb lenA builtinA storeA splice AV.cells AV.isCell sliceA boundA intA callOf indexAddrA newObjA buildA fillA zeroA ofCells buildSliceA indexA fieldA set_appN get_appN take_appN List.getElem?_cons_zero List.getElem?_cons_succ get_sa0 get_sa1 get_sa2 get_sa3 set_sa0 set_sa1 set_sa2 set_sa3 appendA rowAppA readA roomA maxLen zeroCell Value.oneCell' Value.cells

theorem put_app {σ : St} {o k : Nat} {G : Sg} {key val : List UInt8} {is : Bool} (h : HasS σ o k G) (hs : Srt G.s.l) (hl : G.s.l.length ≤ 1000000) (L : List (List AV)) :
    CallsA Try.prog 83 [.ptr o 0, .agg [byC key, byC val], .v (.bool is)] { σ with objs := σ.objs ++ L } (fun av σ' => ∃ g, av = .agg (udC ⟨key, getL G.s.l key⟩) ∧ σ' = { σ with objs := σ.objs.set o [.row k g 0 2 (setL G.s.l key (if is then some val else none)).length, .row (k + 1) G.g2 0 3 G.s.log.length, .row (k + 2) G.g3 0 1 G.s.marks.length] ++ L, rows := σ.rows.set k ⟨g, prsC (setL G.s.l key (if is then some val else none)), none⟩ }) :=
  callsA_mono (put_ok (h.app L σ.toks) hs hl) (fun av σ' ⟨g, e1, e2⟩ => ⟨g, e1, by rw [e2, putS_1 (h.app L σ.toks)]; simp only; rw [List.set_append_left _ _ (lt_of_get h.o)]⟩)

set_option maxHeartbeats 1600000 in
attribute [local simp] undefA List.getElem?_cons_zero List.getElem?_cons_succ byC drop_mr in
theorem do_ok {σ : St} {o k n : Nat} {G : Sg} {key val : List UInt8} {is : Bool} (h : HasS σ o k G) (hG : G.s.Ok n) (hn : n ≤ 1000000) :
    CallsA Try.prog 79 [.ptr o 0, .agg [byC key, byC val], .v (.bool is)] σ (fun av σ' => ∃ G', G'.s = doS G.s key (if is then some val else none) ∧ av = .tup [] ∧ σ' = putS σ o k G') := by
  refine callsA_mono (callsA_gcSt (X := Nat × Nat) (A := fun _ => .tup []) (T := fun x => ⟨doS G.s key (if is then some val else none), x.1, x.2, G.g3⟩) h (fun _ => rfl) ?_) (fun av σ' ⟨x, e1, e2⟩ => ⟨_, rfl, e1, e2⟩)
  have hpa := put_app (key := key) (val := val) (is := is) h hG.srt (Nat.le_trans hG.l hn)
  have hp2 := fun l lg g g' => putS_2 h l lg g g'
  have hlo := lt_of_get h.o
  have hlr := lt_of_get h.r1
  have hlr2 := lt_of_get h.r2
  have hll := hG.log
  obtain ⟨ho, hr1, hr2, hr3⟩ := h
  obtain ⟨⟨l, log, marks⟩, g1, g2, g3⟩ := G
  simp only [stC, stR1, stR2, stR3, doS] at ho hr1 hr2 hr3 hp2 hpa hll ⊢
  have ha : ∀ x L, (σ.objs.set o x ++ L)[o]? = some x := fun x L => by rw [List.getElem?_append_left (by simpa using hlo)]; exact set_self_of ho x
  have hb : ∀ x y L, (σ.objs.set o x ++ L).set o y = σ.objs.set o y ++ L := fun x y L => by rw [List.set_append_left _ _ (by simpa using hlo), List.set_set]
  have hc : ∀ x, (σ.rows.set k x)[k + 1]? = some ⟨g2, udsC log, none⟩ := fun x => by rw [List.getElem?_set_ne (by omega)]; exact hr2
  have hsr : ∀ x, (σ.rows.set k x).set (k + 1) ⟨g2, udsC log, none⟩ = σ.rows.set k x := fun x => set_same' (hc x)
  have hul := udsC_len log
  have hut : List.take (log.length * 3) (udsC log) = udsC log := List.take_of_length_le (by omega)
  have hrm : (log.length + 1) * 56 ≤ 140737488355328 := by omega
  have hmx : log.length + 1 ≤ 9223372036854775807 := by omega
  have hua : udsC (log ++ [⟨key, getL l key⟩]) = udsC log ++ udC ⟨key, getL l key⟩ := by rw [udsC_app]; simp [udsC]
  obtain ⟨q, hq⟩ : ∃ q, q = getL l key := ⟨_, rfl⟩
  obtain ⟨l', hl'⟩ : ∃ l', l' = setL l key (if is then some val else none) := ⟨_, rfl⟩
  simp only [← hq, ← hl'] at hpa hua ⊢
  simp only [udC] at hpa hua
  have F := And.intro ha (And.intro hb (And.intro hc (And.intro hul (And.intro hut (And.intro hrm (And.intro hmx (And.intro hsr (True.intro))))))))
  refine callsA_body Try.func79 rfl rfl rfl ?_; refine sr fun _ hJ2 => ?_; refine hJ2 _ _ ?_; refine sq fun K3 hK3 => ?_; refine sr fun _ hJ5 => ?_; refine hJ5 _ _ ?_; refine cf ?_; refine run_skip ?_; refine hK3 _ _ ?_; refine sr fun _ hJ7 => ?_; refine ca (c := hpa _) (k := ?_); rintro _ _ ⟨g, rfl, rfl⟩; (repeat (first | simp [F] | simp (disch := omega) only [wC, if_pos, if_neg])); refine hJ7 _ _ ?_; refine sr fun _ hJ9 => ?_; refine hJ9 _ _ ?_; refine cs (fun c18 => ?_) (fun c18 => ?_)
  · (try exact nope c18); all_goals have c18p := c18; try simp [F] at c18p
    all_goals
     replace F := aF c18 F; try replace F := aF c18p F
     have hm : marks ≠ [] := by have h := c18; simp at h; exact List.length_pos_iff.1 h
     refine run_draw (by kernel_rfl) fun J10 hJ10 => ?_
     refine rp2 0 (k := ?_); refine rp2 1 (k := ?_); refine rp2 2 (k := ?_); refine rp2 3 (k := ?_); refine rp2 4 (k := ?_); refine rp2 5 (k := ?_); refine rp2 6 (k := ?_); refine dop 7 rfl ?_; repeat (first | simp [F] | simp (disch := omega) only [wC, if_pos, if_neg])
     refine ⟨by first | exact fun _ _ h => h | (refine later_list [5, 3, 2, 1, 0] (by kernel_rfl) (List.forall_mem_cons.2 ⟨fun _ => fact2 rfl rfl ?_, List.forall_mem_cons.2 ⟨fun _ => fact2 rfl rfl ?_, List.forall_mem_cons.2 ⟨fun _ => fact2 rfl rfl ?_, List.forall_mem_cons.2 ⟨fun _ => fact2 rfl rfl ?_, List.forall_mem_cons.2 ⟨fun _ => fact2 rfl rfl ?_, fun _ h => absurd h List.not_mem_nil⟩⟩⟩⟩⟩) <;> constructor <;> first | rfl | (simp [F]; done)), ?_⟩
     refine rp2 8 (k := ?_); refine rp2 9 (k := ?_); refine dop 10 rfl ?_; repeat (first | simp [F] | simp (disch := omega) only [wC, if_pos, if_neg])
     refine ⟨by first | exact fun _ _ h => h | (refine later_list [8] (by kernel_rfl) (List.forall_mem_cons.2 ⟨fun _ => fact2 rfl rfl ?_, fun _ h => absurd h List.not_mem_nil⟩) <;> constructor <;> first | rfl | (simp [F]; done)), ?_⟩
     refine dd ?_; refine hJ10 _ _ ?_; (try simp only [Then, InBlock, NoGoto, if_true]); refine answer_none rfl (.inl rfl) ?_; refine ⟨(g, g2 + 1), ?_⟩; simp only [if_neg hm]
     rw [hp2, hua]
     exact gcr
  (try exact nope c18); all_goals have c18p := c18; try simp [F] at c18p
  all_goals
   replace F := aF c18 F; try replace F := aF c18p F
   have hm : marks = [] := by have h := c18; simp at h; exact h
   refine run_skip ?_; (try simp only [Then, InBlock, NoGoto, if_true]); refine answer_none rfl (.inl rfl) ?_; refine ⟨(g, g2), ?_⟩; simp only [if_pos hm]
   rw [hp2, hsr]
   exact gcr

end Go.Proofs.Ytlkajgjaidedkaa

/-
  A store: what its methods do.
-/
namespace Go.Proofs.Ytlkajgjaidedkaa
set_option linter.unnecessarySimpa false
set_option maxRecDepth 100000
open Go Go.Vm
set_option linter.unusedSimpArgs false
set_option linter.unusedVariables false
attribute [local simp] evalL wantedA isCall opA evalA evalAll evalsA evalOpt ofValue ofCell plain binA_eql_pn binA_neq_pn binA_gtr binA_lss binA_geq binA_leq binA_add binA_sub binA_eql binA_neq binA_orI binA_shl binA_shr binA_mul binA_quo binA_rem binA_agg_eql binA_agg_neq convA_int unA_not fieldAddrA loadA partA pickA_true pickA_false pickA_bb lenA builtinA storeA splice AV.cells AV.isCell sliceA boundA intA callOf indexAddrA newObjA buildA fillA zeroA ofCells buildSliceA indexA fieldA set_appN get_appN take_appN List.getElem?_cons_zero List.getElem?_cons_succ get_sa0 get_sa1 get_sa2 get_sa3 set_sa0 set_sa1 set_sa2 set_sa3 appendA rowAppA readA roomA maxLen zeroCell Value.oneCell' Value.cells sliceRowA binA_eqn binA_neqn drop_mr

set_option maxHeartbeats 1600000 in
attribute [local simp] undefA List.getElem?_cons_zero List.getElem?_cons_succ in
theorem set_ok {σ : St} {o k n : Nat} {G : Sg} {key val : List UInt8} {t1 t2 : Tail} (h : HasS σ o k G) (hG : G.s.Ok n) (hn : n ≤ 1000000) (hk : key.length ≤ 1000000) (hv : val.length ≤ 1000000) :
    CallsA Try.prog 33 [.ptr o 0, .sl 1 (bytesA key) key.length t1, .sl 1 (bytesA val) val.length t2] σ (fun av σ' => ∃ G', G'.s = doS G.s key (some val) ∧ av = .tup [] ∧ σ' = putS σ o k G') := by
  have F := True.intro
  refine callsA_body Try.func33 rfl rfl rfl ?_; refine rg' (h := fun J1 hJ1 => ?_); refine ca (c := clone_ok hk) (k := ?_); rintro _ _ ⟨rfl, rfl⟩; (repeat (first | simp [F] | simp (disch := omega) only [wC, if_pos, if_neg])); refine ca (c := clone_ok hv) (k := ?_); rintro _ _ ⟨rfl, rfl⟩; (repeat (first | simp [F] | simp (disch := omega) only [wC, if_pos, if_neg])); refine ca (c := do_ok (key := key) (val := val) (is := true) h hG hn) (k := ?_); rintro _ _ ⟨G', e1, rfl, rfl⟩; (repeat (first | simp [F] | simp (disch := omega) only [wC, if_pos, if_neg])); refine hJ1 _ _ ?_; (try simp only [Then, InBlock, NoGoto, if_true]); refine answer_none rfl (.inl rfl) ?_; exact ⟨G', e1, rfl, rfl⟩

set_option maxHeartbeats 1600000 in
attribute [local simp] undefA List.getElem?_cons_zero List.getElem?_cons_succ in
theorem del_ok {σ : St} {o k n : Nat} {G : Sg} {key : List UInt8} {t1 : Tail} (h : HasS σ o k G) (hG : G.s.Ok n) (hn : n ≤ 1000000) (hk : key.length ≤ 1000000) :
    CallsA Try.prog 42 [.ptr o 0, .sl 1 (bytesA key) key.length t1] σ (fun av σ' => ∃ G', G'.s = doS G.s key none ∧ av = .tup [] ∧ σ' = putS σ o k G') := by
  have hdo : CallsA Try.prog 79 [.ptr o 0, .agg [.sl 1 (bytesA key) key.length .shut, .sl 0 [] 0 .full], .v (.bool false)] σ (fun av σ' => ∃ G', G'.s = doS G.s key none ∧ av = .tup [] ∧ σ' = putS σ o k G') :=
    callsA_wk (.cons (Wk.refl _) (.cons (WkL.agg (.cons (Wk.refl _) (.cons (Wk.nil _ _ _) .nil))) (.cons (Wk.refl _) .nil))) (do_ok (key := key) (val := []) (is := false) h hG hn)
  have F := True.intro
  refine callsA_body Try.func42 rfl rfl rfl ?_; refine rg' (h := fun J1 hJ1 => ?_); refine ca (c := clone_ok hk) (k := ?_); rintro _ _ ⟨rfl, rfl⟩; (repeat (first | simp [F] | simp (disch := omega) only [wC, if_pos, if_neg])); refine ca (c := hdo) (k := ?_); rintro _ _ ⟨G', e1, rfl, rfl⟩; (repeat (first | simp [F] | simp (disch := omega) only [wC, if_pos, if_neg])); refine hJ1 _ _ ?_; (try simp only [Then, InBlock, NoGoto, if_true]); refine answer_none rfl (.inl rfl) ?_; exact ⟨G', e1, rfl, rfl⟩

set_option maxHeartbeats 1600000 in
attribute [local simp] undefA List.getElem?_cons_zero List.getElem?_cons_succ byC in
theorem get_ok {σ : St} {o k n : Nat} {G : Sg} {key : List UInt8} {t1 : Tail} (h : HasS σ o k G) (hG : G.s.Ok n) (hn : n ≤ 1000000) :
    CallsA Try.prog 24 [.ptr o 0, .sl 1 (bytesA key) key.length t1] σ (fun av σ' => av = .tup [byC ((getL G.s.l key).getD []), .v (.bool (getL G.s.l key).isSome)] ∧ σ = σ') := by
  refine callsA_gcS ?_ (by simp [AV.under, underL, byC_under])
  have hfi := find_ok (key := key) (t := t1) h hG.srt (by have := hG.l; omega)
  have hgat : ∀ v, getL G.s.l key = some v → _ := fun v h => getL_some_at (key := key) (v := v) hG.srt h
  have hhas : hasL G.s.l key = (getL G.s.l key).isSome := rfl
  have hkv := hG.kv
  obtain ⟨ho, hr1, hr2, hr3⟩ := h
  obtain ⟨⟨l, log, marks⟩, g1, g2, g3⟩ := G
  simp only [stC, stR1, stR2, stR3] at ho hr1 hr2 hr3 hfi hgat hhas hkv ⊢
  obtain ⟨i, hi⟩ : ∃ i, i = findL l key := ⟨_, rfl⟩
  obtain ⟨q, hq⟩ : ∃ q, q = getL l key := ⟨_, rfl⟩
  simp only [← hi, ← hq] at hgat hhas hfi ⊢
  rw [hhas] at hfi
  cases q with
  | none =>
    have F := And.intro ho (And.intro hr1 (True.intro))
    refine callsA_body Try.func24 rfl rfl rfl ?_; refine sq fun K1 hK1 => ?_; refine rg' (h := fun J2 hJ2 => ?_); refine hJ2 _ _ ?_; refine hK1 _ _ ?_; refine sq fun K3 hK3 => ?_; refine sq fun K4 hK4 => ?_; refine rg' (h := fun J5 hJ5 => ?_); refine hJ5 _ _ ?_; refine hK4 _ _ ?_; refine cf ?_; refine run_skip ?_; refine hK3 _ _ ?_; refine sq fun K6 hK6 => ?_; refine rg' (h := fun J7 hJ7 => ?_); refine ca (c := hfi) (k := ?_); rintro _ _ ⟨rfl, rfl⟩; (repeat (first | simp [F] | simp (disch := omega) only [wC, if_pos, if_neg])); refine hJ7 _ _ ?_; refine hK6 _ _ ?_; refine sq fun K8 hK8 => ?_; refine sq fun K9 hK9 => ?_; refine rg' (h := fun J10 hJ10 => ?_); refine hJ10 _ _ ?_; refine hK9 _ _ ?_; refine ct ?_; refine sq fun K11 hK11 => ?_; refine rg' (h := fun J12 hJ12 => ?_); refine hJ12 _ _ ?_; refine hK11 _ _ ?_; refine run_ret ?_; (try simp only [Then, InBlock, NoGoto]); refine answer_tmp2 rfl (.inr rfl) ?_; exact gcr (hA := WkL.tup (.cons (Wk.nil _ _ _) (.cons (Wk.refl _) .nil)))
  | some v =>
    obtain ⟨hil, hik, hiv⟩ := hgat v rfl
    have hat := (prsC_at hil).2
    have hvl := (hkv _ (List.getElem_mem hil)).2
    rw [hiv] at hat hvl
    simp only [byC] at hat
    have F := And.intro ho (And.intro hr1 (And.intro hil (And.intro hat (True.intro))))
    refine callsA_body Try.func24 rfl rfl rfl ?_; refine sq fun K1 hK1 => ?_; refine rg' (h := fun J2 hJ2 => ?_); refine hJ2 _ _ ?_; refine hK1 _ _ ?_; refine sq fun K3 hK3 => ?_; refine sq fun K4 hK4 => ?_; refine rg' (h := fun J5 hJ5 => ?_); refine hJ5 _ _ ?_; refine hK4 _ _ ?_; refine cf ?_; refine run_skip ?_; refine hK3 _ _ ?_; refine sq fun K6 hK6 => ?_; refine rg' (h := fun J7 hJ7 => ?_); refine ca (c := hfi) (k := ?_); rintro _ _ ⟨rfl, rfl⟩; (repeat (first | simp [F] | simp (disch := omega) only [wC, if_pos, if_neg])); refine hJ7 _ _ ?_; refine hK6 _ _ ?_; refine sq fun K8 hK8 => ?_; refine sq fun K9 hK9 => ?_; refine rg' (h := fun J10 hJ10 => ?_); refine hJ10 _ _ ?_; refine hK9 _ _ ?_; refine cf ?_; refine run_skip ?_; refine hK8 _ _ ?_; refine sq fun K11 hK11 => ?_; refine rg' (h := fun J12 hJ12 => ?_); refine ca (c := clone_ok hvl) (k := ?_); rintro _ _ ⟨rfl, rfl⟩; (repeat (first | simp [F] | simp (disch := omega) only [wC, if_pos, if_neg])); refine hJ12 _ _ ?_; refine hK11 _ _ ?_; refine run_ret ?_; (try simp only [Then, InBlock, NoGoto]); refine answer_tmp2 rfl (.inr rfl) ?_; exact gcr

set_option maxHeartbeats 1600000 in
attribute [local simp] undefA List.getElem?_cons_zero List.getElem?_cons_succ in
theorem new_st_ok {σ : St} : CallsA Try.prog 22 [] σ (fun av σ' => av = .ptr σ.objs.length 0 ∧ σ' = { σ with objs := σ.objs ++ [stC σ.rows.length newSg], rows := σ.rows ++ [stR1 newSg, stR2 newSg, stR3 newSg] }) := by
  refine callsA_new_st ?_
  have F := True.intro
  refine callsA_body Try.func22 rfl rfl rfl ?_; refine sr fun _ hJ2 => ?_; refine hJ2 _ _ ?_; refine sr fun _ hJ4 => ?_; refine hJ4 _ _ ?_; refine ra ?_; exact rt

structure RbS where
  l : List Pr
  n : Nat
  g : Nat
end Go.Proofs.Ytlkajgjaidedkaa

/-
  A store: its keys that begin so; another one; are two alike?
-/
namespace Go.Proofs.Ytlkajgjaidedkaa
set_option linter.unnecessarySimpa false
set_option maxRecDepth 100000
open Go Go.Vm
set_option linter.unusedSimpArgs false
set_option linter.unusedVariables false
attribute [local simp] evalL wantedA isCall opA evalA evalAll evalsA evalOpt ofValue ofCell plain binA_eql_pn binA_neq_pn binA_gtr binA_lss binA_geq binA_leq binA_add binA_sub binA_eql binA_neq binA_orI binA_shl binA_shr binA_mul binA_quo binA_rem binA_agg_eql binA_agg_neq convA_int unA_not fieldAddrA loadA partA pickA_true pickA_false pickA_bb lenA builtinA storeA splice AV.cells AV.isCell sliceA boundA intA callOf indexAddrA newObjA buildA fillA zeroA ofCells buildSliceA indexA fieldA set_appN get_appN take_appN List.getElem?_cons_zero List.getElem?_cons_succ get_sa0 get_sa1 get_sa2 get_sa3 set_sa0 set_sa1 set_sa2 set_sa3 sliceRowA binA_eqn binA_neqn drop_mr

def keysL (l : List Pr) (p : List UInt8) : List (List UInt8) := ((l.drop (findL l p)).takeWhile fun x => preB x.k p).map (·.k)

theorem takeWhile_stop {α : Type} {f : α → Bool} : ∀ {l : List α} {j : Nat}, (∀ x ∈ l.take j, f x = true) → (∀ x, l[j]? = some x → f x = false) → l.takeWhile f = l.take j
  | [], _, _, _ => by simp
  | a :: l, 0, _, h => by simp [h a rfl]
  | a :: l, j + 1, h1, h2 => by
    have ha := h1 a (by simp)
    rw [List.takeWhile_cons, if_pos ha, List.take_succ_cons, takeWhile_stop (j := j) (fun x hx => h1 x (by simp [hx])) (fun x hx => h2 x (by simpa using hx))]

set_option maxHeartbeats 1600000 in
attribute [local simp] undefA List.getElem?_cons_zero List.getElem?_cons_succ byC drop_mr prsC_noObj udsC_noObj mkC_noObj kysC_noObj bytes_noObj lsA_nil lsT_nil lsZ_nil lsL_nil gcO_ls noObj_ls in
theorem keys_ok {σ : St} {o k n : Nat} {G : Sg} {p : List UInt8} {t : Tail} (h : HasS σ o k G) (hG : G.s.Ok n) (hn : n ≤ 1000000) :
    CallsA Try.prog 28 [.ptr o 0, .sl 1 (bytesA p) p.length t] σ (fun av σ' => av = .sl 1 (kysC (keysL G.s.l p)) (keysL G.s.l p).length .shut ∧ σ = σ') := by
  refine callsA_gcS ?_ (by simp [AV.under, kysC_under])
  have hfi := find_ok (key := p) (t := t) h hG.srt (by have := hG.l; omega)
  have hkv := hG.kv
  have hll := hG.l
  obtain ⟨ho, hr1, hr2, hr3⟩ := h
  obtain ⟨⟨l, log, marks⟩, g1, g2, g3⟩ := G
  simp only [stC, stR1, stR2, stR3] at ho hr1 hr2 hr3 hfi hkv hll ⊢
  have hle := findL_le l p
  have hkl : keysL l p = ((l.drop (findL l p)).takeWhile fun x => preB x.k p).map (·.k) := rfl
  obtain ⟨i, hi⟩ : ∃ i, i = findL l p := ⟨_, rfl⟩
  simp only [← hi] at hfi hle hkl
  rw [hkl]
  obtain ⟨D, hD⟩ : ∃ D, D = l.drop i := ⟨_, rfl⟩
  have hDl : D.length = l.length - i := by rw [hD]; simp
  rw [← hD]
  have hi2 : i ≤ l.length := hle
  have hlc := prsC_len l
  obtain ⟨K, hK⟩ : ∃ K, K = D.map (·.k) := ⟨_, rfl⟩
  have hKj : ∀ j, (D.take j).map (·.k) = K.take j := fun j => by rw [hK]; simp
  have hKl : K.length = l.length - i := by rw [hK]; simp [hDl]
  have F := And.intro ho (And.intro hr1 (And.intro hi2 (And.intro hlc (True.intro))))
  refine callsA_body Try.func28 rfl rfl rfl ?_; refine sr fun _ hJ2 => ?_; refine hJ2 _ _ ?_; refine sq fun K3 hK3 => ?_; refine sr fun _ hJ5 => ?_; refine hJ5 _ _ ?_; refine cf ?_; refine run_skip ?_; refine hK3 _ _ ?_; refine sr fun _ hJ7 => ?_; refine hJ7 _ _ ?_; refine sr fun _ hJ9 => ?_; refine ca (c := hfi) (k := ?_); rintro _ _ ⟨rfl, rfl⟩; (repeat (first | simp [F] | simp (disch := omega) only [wC, if_pos, if_neg])); refine hJ9 _ _ ?_; refine sq fun K10 hK10 => ?_; refine sr fun _ hJ12 => ?_; refine hJ12 _ _ ?_; refine run_block_k ?_; refine run_loopG (X := Nat) [1, 4, 23, 24] (fun j ρ σ1 => (j ≤ l.length - i) ∧ (∀ x ∈ D.take j, preB x.k p = true) ∧ (ρ 5 = lsA σ.toks.length 1 (kysC (K.take j)) j) ∧ (ρ 25 = .v (.int .i64 j)) ∧ (σ1 = { σ with toks := σ.toks ++ lsT j })) (fun j => l.length - i - j) (0) ?st1 ?rd1
  case st1 =>
   refine ⟨lp, ?_, lp, lp, ?_⟩
   · intro x hx
     simp at hx
   · simp [lsT_nil]
  case rd1 =>
   rintro j ρ1 σ1 hF1 ⟨h1, h2, h5, h25, hσ⟩; obtain rfl := hσ.symm
   have f1 := keepL hF1
   (try simp [KeepL, F] at f1); replace F := aF h5 F; replace F := aF h25 F; (try replace F := aF f1 F); refine sr fun _ hJ14 => ?_; refine hJ14 _ _ ?_; refine sq fun K15 hK15 => ?_; refine cs (fun c26 => ?_) (fun c26 => ?_)
   · (try exact nope c26); all_goals have c26p := c26; try simp [F] at c26p
     all_goals
      replace F := aF c26 F; (try replace F := aF c26p F); refine run_skip ?_; refine hK15 _ _ ?_; refine sq fun K16 hK16 => ?_; refine run_block_k ?_; refine sq fun K17 hK17 => ?_
      have hlt : j < l.length - i := by have h := c26; simp at h; omega
      have hjD : j < D.length := by omega
      obtain ⟨x, hx⟩ : ∃ x, x = D[j] := ⟨_, rfl⟩
      have hxl : x = l[i + j] := by rw [hx]; simp only [hD]; rw [List.getElem_drop]
      have hxm := (hkv x (by rw [hxl]; exact List.getElem_mem _)).1
      have hat : List.take 2 (List.drop (i * 2 + j * 2) (prsC l)) = [byC x.k, byC x.v] := by rw [show i * 2 + j * 2 = (i + j) * 2 by omega, prsC_drop, List.drop_eq_getElem_cons (by omega), ← hxl]; rfl
      simp only [byC] at hat
      have hb2 : i * 2 + j * 2 + 2 ≤ l.length * 2 := by omega
      have htk : D.take (j + 1) = D.take j ++ [x] := by rw [hx]; exact (List.take_append_getElem hjD).symm
      have htkK : K.take (j + 1) = K.take j ++ [x.k] := by rw [← hKj, ← hKj, htk]; simp
      have hap : ∀ objs, appendA Try.prog 41 (lsA σ.toks.length 1 (kysC (K.take j)) j) (.sl 1 [.sl 1 (bytesA x.k) x.k.length .shut] 1 .full) ⟨objs, σ.toks ++ lsT j, σ.gl, σ.rows⟩ = some (lsA σ.toks.length 1 (kysC (K.take (j + 1))) (j + 1), ⟨objs, σ.toks ++ lsT (j + 1), σ.gl, σ.rows⟩) := fun objs => by
        rw [htkK, kysC_app]
        exact append_ls elemT_41 ti_23 (by decide) rfl (fun h => by simp [h, kysC]) rfl (by omega) (by simp only [roomA]; omega) (by simp only [maxLen]; omega)
      replace F := aF hlt (And.intro hat (And.intro hb2 (And.intro hap F))); refine rg' (h := fun J18 hJ18 => ?_); refine hJ18 _ _ ?_; refine hK17 _ _ ?_; refine sq fun K19 hK19 => ?_; refine sr fun _ hJ21 => ?_; refine ca (c := prefix_ok) (k := ?_); rintro _ _ ⟨rfl, rfl⟩; (repeat (first | simp [F] | simp (disch := omega) only [wC, if_pos, if_neg])); refine hJ21 _ _ ?_; refine cs (fun c33 => ?_) (fun c33 => ?_)
      · (try exact nope c33); all_goals have c33p := c33; try simp [F] at c33p
        all_goals
         replace F := aF c33 F; try replace F := aF c33p F
         have hpx : preB x.k p = false := by have h := c33; simpa using h
         have hstop := takeWhile_stop (l := D) (j := j) h2 (fun y hy => by rw [List.getElem?_eq_getElem hjD, ← hx] at hy; cases hy; exact hpx)
         have hlen : (K.take j).length = j := by rw [List.length_take]; omega
         have hwk := lsA_wk (k := σ.toks.length) (sz := 1) (n := j) (cs := kysC (K.take j)) (fun h => by simp [h, kysC])
         refine run_exit ?_; refine hK10 _ _ ?_; refine sr fun _ hJ23 => ?_; refine hJ23 _ _ ?_; refine ra ?_
         rw [hstop, hKj, hlen]
         exact gcr (hA := by simp only [putA_get]; simp [F]; exact hwk)
      (try exact nope c33); all_goals have c33p := c33; try simp [F] at c33p
      all_goals
       replace F := aF c33 F; (try replace F := aF c33p F); refine run_skip ?_; refine hK19 _ _ ?_; refine rg' (h := fun J24 hJ24 => ?_); refine ca (c := clone_ok hxm) (k := ?_); rintro _ _ ⟨rfl, rfl⟩; (repeat (first | simp [F] | simp (disch := omega) only [wC, if_pos, if_neg])); refine hJ24 _ _ ?_; refine hK16 _ _ ?_; refine rg' (h := fun J25 hJ25 => ?_); refine hJ25 _ _ ?_; refine ⟨gk, (j + 1), ⟨kpG, lpG, ?_, lpG, lpG, lpG⟩, lpG⟩
       · rw [htk]
         intro y hy
         rcases List.mem_append.1 hy with h | h
         · exact h2 y h
         · simp at h; rw [h]; have h := c33; simpa using h
   (try exact nope c26); all_goals have c26p := c26; try simp [F] at c26p
   all_goals
    replace F := aF c26 F; try replace F := aF c26p F
    have hjl : D.take j = D := List.take_of_length_le (by have h := c26; simp at h; omega)
    have hstop := takeWhile_stop (l := D) (j := j) h2 (fun y hy => by rw [List.getElem?_eq_none (by have h := c26; simp at h; omega)] at hy; cases hy)
    have hlen : (K.take j).length = j := by rw [List.length_take]; omega
    have hwk := lsA_wk (k := σ.toks.length) (sz := 1) (n := j) (cs := kysC (K.take j)) (fun h => by simp [h, kysC])
    refine run_exit ?_; refine hK10 _ _ ?_; refine sr fun _ hJ27 => ?_; refine hJ27 _ _ ?_; refine ra ?_
    rw [hstop, hKj, hlen]
    exact gcr (hA := by simp only [putA_get]; simp [F]; exact hwk)

theorem getL_of_mem : ∀ {l : List Pr} {p : Pr}, Srt l → p ∈ l → getL l p.k = some p.v
  | q :: l, p, hs, h => by
    have l1 := List.pairwise_cons.1 hs
    rcases List.mem_cons.1 h with e | e
    · subst e; simp [getL]
    · have := l1.1 p e
      rw [getL, if_neg (ltB_ne this)]
      exact getL_of_mem l1.2 e
theorem preB_nil (p : List UInt8) : preB p [] = true := by simp [preB]
theorem kysC_at {l : List (List UInt8)} {i : Nat} (h : i < l.length) : (kysC l)[i]? = some (byC l[i]) := by simp [kysC, h]
structure RsS where
  i : Nat
  d : Bool
  out : List Pr
def wasC (l : List (List Pr)) : List AV := l.map fun w => .sl 2 (prsC w) w.length .shut
structure RS where
  L : List Pr
  was : List (List Pr)
  g : Nat
def rmC (q : Nat) (M : RS) : List AV := [.sl 2 (prsC M.L) M.L.length .shut, .row q M.g 0 1 M.was.length]
def rmR (M : RS) : RowSt := ⟨M.g, wasC M.was, none⟩
structure HasR (σ : St) (m q : Nat) (M : RS) : Prop where
  o : σ.objs[m]? = some (rmC q M)
  r : σ.rows[q]? = some (rmR M)
def putR (σ : St) (m q : Nat) (M : RS) : St := { σ with objs := σ.objs.set m (rmC q M), rows := σ.rows.set q (rmR M) }
theorem HasR.put {σ : St} {m q : Nat} {M : RS} (h : HasR σ m q M) (M' : RS) : HasR (putR σ m q M') m q M' := ⟨set_self_of h.o _, set_self_of h.r _⟩
theorem HasR.app {σ : St} {m q : Nat} {M : RS} (h : HasR σ m q M) (l : List (List AV)) : HasR { σ with objs := σ.objs ++ l } m q M := ⟨by simp only; rw [List.getElem?_append_left (lt_of_get h.o)]; exact h.o, h.r⟩
structure Apart (o k m q : Nat) : Prop where
  o : o ≠ m
  k0 : q ≠ k
  k1 : q ≠ k + 1
  k2 : q ≠ k + 2
theorem HasR.putS {σ : St} {o k m q : Nat} {M : RS} (h : HasR σ m q M) (ha : Apart o k m q) (G : Sg) : HasR (putS σ o k G) m q M :=
  ⟨by simp only [Go.Vm.putS]; rw [List.getElem?_set_ne ha.o]; exact h.o, by simp only [Go.Vm.putS]; rw [List.getElem?_set_ne (Ne.symm ha.k2), List.getElem?_set_ne (Ne.symm ha.k1), List.getElem?_set_ne (Ne.symm ha.k0)]; exact h.r⟩
theorem HasS.putR {σ : St} {o k m q : Nat} {G : Sg} (h : HasS σ o k G) (ha : Apart o k m q) (M : RS) : HasS (putR σ m q M) o k G :=
  ⟨by simp only [Proofs.Ytlkajgjaidedkaa.putR]; rw [List.getElem?_set_ne (Ne.symm ha.o)]; exact h.o, by simp only [Proofs.Ytlkajgjaidedkaa.putR]; rw [List.getElem?_set_ne ha.k0]; exact h.r1, by simp only [Proofs.Ytlkajgjaidedkaa.putR]; rw [List.getElem?_set_ne ha.k1]; exact h.r2, by simp only [Proofs.Ytlkajgjaidedkaa.putR]; rw [List.getElem?_set_ne ha.k2]; exact h.r3⟩
theorem putS_app {σ : St} {o k : Nat} {G : Sg} (h : HasS σ o k G) (G' : Sg) (l : List (List AV)) : putS { σ with objs := σ.objs ++ l } o k G' = { putS σ o k G' with objs := (putS σ o k G').objs ++ l } := by
  simp only [putS]; rw [List.set_append_left _ _ (lt_of_get h.o)]
end Go.Proofs.Ytlkajgjaidedkaa

/-
  Deeds: the store's and the document's stay alike.
-/
namespace Go.Proofs.Ytlkajgjaidedkaa
set_option linter.unnecessarySimpa false
set_option maxRecDepth 100000
open Go Go.Vm
set_option linter.unusedSimpArgs false
set_option linter.unusedVariables false

structure Ac where
  d : UInt8
  k : List UInt8
  v : List UInt8
structure R5 (s : Sto) (M : RS) (n : Nat) : Prop where
  ok : s.Ok n
  l : s.l = M.L
  len : s.marks.length = M.was.length
  roll : ∀ (j : Nat) x w, s.marks[j]? = some x → M.was[j]? = some w → w = unrollL s.l (s.log.drop x)
  mono : s.marks.Pairwise (· ≤ ·)
  wl : ∀ w ∈ M.was, w.length ≤ n

theorem R5.set {s : Sto} {M : RS} {n : Nat} (h : R5 s M n) {k : List UInt8} {o : Option (List UInt8)} (hk : k.length ≤ 1000000) (ho : (o.getD []).length ≤ 1000000) : R5 (doS s k o) ⟨setL M.L k o, M.was, M.g⟩ (n + 1) := by
  refine ⟨doS_ok h.ok hk ho, by simp only [doS]; rw [h.l], h.len, fun j x w hx hw => ?_, h.mono, fun w hw => Nat.le_succ_of_le (h.wl w hw)⟩
  have hm : s.marks ≠ [] := by intro e; simp only [doS] at hx; rw [e] at hx; simp at hx
  have hxl : x ≤ s.log.length := h.ok.mks x (List.mem_of_getElem? hx)
  simp only [doS, if_neg hm]
  rw [List.drop_append_of_le_length hxl, unrollL_app]
  have : unrollL (setL s.l k o) [⟨k, getL s.l k⟩] = s.l := setL_undo h.ok.srt k o
  rw [this]
  exact h.roll j x w hx hw

end Go.Proofs.Ytlkajgjaidedkaa

/-
  Few deeds; both stores of a law's own; the law StoreGets.
-/
namespace Go.Proofs.Ytlkajgjaidedkaa
set_option linter.unnecessarySimpa false
set_option maxRecDepth 100000
open Go Go.Vm
set_option linter.unusedSimpArgs false
set_option linter.unusedVariables false
attribute [local simp] evalL wantedA isCall opA evalA evalAll evalsA evalOpt ofValue ofCell plain binA_eql_pn binA_neq_pn binA_gtr binA_lss binA_geq binA_leq binA_add binA_sub binA_eql binA_neq binA_orI binA_shl binA_shr binA_mul binA_quo binA_rem binA_agg_eql binA_agg_neq convA_int unA_not fieldAddrA loadA partA pickA_true pickA_false pickA_bb lenA builtinA storeA splice AV.cells AV.isCell sliceA boundA intA callOf indexAddrA newObjA buildA fillA zeroA ofCells buildSliceA indexA fieldA set_appN get_appN take_appN List.getElem?_cons_zero List.getElem?_cons_succ get_sa0 get_sa1 get_sa2 get_sa3 set_sa0 set_sa1 set_sa2 set_sa3 sliceRowA binA_eqn binA_neqn drop_mr

def St2 (σ : St) (G : Sg) (M : RS) : St := { σ with objs := σ.objs ++ [stC σ.rows.length G, rmC (σ.rows.length + 3) M], rows := σ.rows ++ [stR1 G, stR2 G, stR3 G, rmR M] }
theorem St2.s (σ : St) (G : Sg) (M : RS) : HasS (St2 σ G M) σ.objs.length σ.rows.length G := ⟨by simp [St2], by simp [St2], by simp [St2], by simp [St2]⟩
theorem St2.r (σ : St) (G : Sg) (M : RS) : HasR (St2 σ G M) (σ.objs.length + 1) (σ.rows.length + 3) M := ⟨by simp [St2], by simp [St2]⟩
theorem St2.a (σ : St) : Apart σ.objs.length σ.rows.length (σ.objs.length + 1) (σ.rows.length + 3) := ⟨by omega, by omega, by omega, by omega⟩
theorem St2.put (σ : St) (G G' : Sg) (M M' : RS) : putR (putS (St2 σ G M) σ.objs.length σ.rows.length G') (σ.objs.length + 1) (σ.rows.length + 3) M' = St2 σ G' M' := by simp [St2, putS, putR]
section
variable {z : Zone} {P : Program} {N : Nat} {ρ : Nat → AV} {σ : St}
end

structure LS where
  i : Nat
  G : Sg
  M : RS
structure AS where
  i : Nat
  G : Sg
  M : RS

section
variable {z : Zone} {P : Program} {N : Nat} {ρ : Nat → AV}
end

def St4 (σ : St) (G : Sg) (M M2 : RS) (W : Sg) : St := { σ with objs := σ.objs ++ [stC σ.rows.length G, rmC (σ.rows.length + 3) M, rmC (σ.rows.length + 4) M2, stC (σ.rows.length + 5) W], rows := σ.rows ++ [stR1 G, stR2 G, stR3 G, rmR M, rmR M2, stR1 W, stR2 W, stR3 W] }
theorem St4.s (σ : St) (G : Sg) (M M2 : RS) (W : Sg) : HasS (St4 σ G M M2 W) σ.objs.length σ.rows.length G := ⟨by simp [St4], by simp [St4], by simp [St4], by simp [St4]⟩
theorem St4.r (σ : St) (G : Sg) (M M2 : RS) (W : Sg) : HasR (St4 σ G M M2 W) (σ.objs.length + 2) (σ.rows.length + 4) M2 := ⟨by simp [St4], by simp [St4]⟩
theorem St4.w (σ : St) (G : Sg) (M M2 : RS) (W : Sg) : HasS (St4 σ G M M2 W) (σ.objs.length + 3) (σ.rows.length + 5) W := ⟨by simp [St4], by simp [St4], by simp only [St4]; rw [List.getElem?_append_right (by omega), show σ.rows.length + 5 + 1 - σ.rows.length = 6 by omega]; rfl, by simp only [St4]; rw [List.getElem?_append_right (by omega), show σ.rows.length + 5 + 2 - σ.rows.length = 7 by omega]; rfl⟩
theorem St4.a (σ : St) : Apart σ.objs.length σ.rows.length (σ.objs.length + 2) (σ.rows.length + 4) := ⟨by omega, by omega, by omega, by omega⟩
theorem St4.put (σ : St) (G G' : Sg) (M M2 M' : RS) (W : Sg) : putR (putS (St4 σ G M M2 W) σ.objs.length σ.rows.length G') (σ.objs.length + 2) (σ.rows.length + 4) M' = St4 σ G' M M' W := by simp [St4, putS, putR]
structure BS where
  i : Nat
  G : Sg
  M : RS
  M2 : RS
  sg : Sto
  r : List (List Pr)
def Sab (σ : St) (A : Sg) (M : RS) (B : Sg) (N : RS) : St := { σ with objs := σ.objs ++ [stC σ.rows.length A, rmC (σ.rows.length + 3) M, stC (σ.rows.length + 4) B, rmC (σ.rows.length + 7) N], rows := σ.rows ++ [stR1 A, stR2 A, stR3 A, rmR M, stR1 B, stR2 B, stR3 B, rmR N] }
theorem Sab.a (σ : St) (A : Sg) (M : RS) (B : Sg) (N : RS) : HasS (Sab σ A M B N) σ.objs.length σ.rows.length A := ⟨by simp [Sab], by simp [Sab], by simp [Sab], by simp [Sab]⟩
theorem Sab.b (σ : St) (A : Sg) (M : RS) (B : Sg) (N : RS) : HasS (Sab σ A M B N) (σ.objs.length + 2) (σ.rows.length + 4) B := ⟨by simp [Sab], by simp [Sab], by simp only [Sab]; rw [List.getElem?_append_right (by omega), show σ.rows.length + 4 + 1 - σ.rows.length = 5 by omega]; rfl, by simp only [Sab]; rw [List.getElem?_append_right (by omega), show σ.rows.length + 4 + 2 - σ.rows.length = 6 by omega]; rfl⟩
structure CS where
  i : Nat
  A : Sg
  B : Sg
  MA : RS
  MB : RS
  l : List (List AV)
  r : List RowSt
def S3 (σ : St) (G : Sg) (M : RS) (C : Sg) : St := { σ with objs := σ.objs ++ [stC σ.rows.length G, rmC (σ.rows.length + 3) M, stC (σ.rows.length + 4) C], rows := σ.rows ++ [stR1 G, stR2 G, stR3 G, rmR M, stR1 C, stR2 C, stR3 C] }
theorem S3.s (σ : St) (G : Sg) (M : RS) (C : Sg) : HasS (S3 σ G M C) σ.objs.length σ.rows.length G := ⟨by simp [S3], by simp [S3], by simp [S3], by simp [S3]⟩
theorem S3.r (σ : St) (G : Sg) (M : RS) (C : Sg) : HasR (S3 σ G M C) (σ.objs.length + 1) (σ.rows.length + 3) M := ⟨by simp [S3], by simp [S3]⟩
theorem S3.c (σ : St) (G : Sg) (M : RS) (C : Sg) : HasS (S3 σ G M C) (σ.objs.length + 2) (σ.rows.length + 4) C := ⟨by simp [S3], by simp [S3], by simp only [S3]; rw [List.getElem?_append_right (by omega), show σ.rows.length + 4 + 1 - σ.rows.length = 5 by omega]; rfl, by simp only [S3]; rw [List.getElem?_append_right (by omega), show σ.rows.length + 4 + 2 - σ.rows.length = 6 by omega]; rfl⟩
theorem S3.put (σ : St) (G : Sg) (M : RS) (C C' : Sg) : putS (S3 σ G M C) (σ.objs.length + 2) (σ.rows.length + 4) C' = S3 σ G M C' := by
  have h1 : σ.rows.length + 4 + 1 - σ.rows.length = 5 := by omega
  have h2 : σ.rows.length + 4 + 2 - σ.rows.length = 6 := by omega
  simp only [S3, putS]
  rw [List.set_append_right _ _ (by omega), List.set_append_right _ _ (by omega), List.set_append_right _ _ (by omega), List.set_append_right _ _ (by omega), h1, h2, show σ.objs.length + 2 - σ.objs.length = 2 by omega, show σ.rows.length + 4 - σ.rows.length = 4 by omega]
  rfl
structure DS where
  i : Nat
  C : Sg
  MC : RS
  l : List (List AV)
  r : List RowSt
end Go.Proofs.Ytlkajgjaidedkaa

/-
  The codec's writer, whatever it holds.
-/
namespace Go.Proofs.Ytlkajgjaidedkaa
set_option linter.unnecessarySimpa false
open Go Go.Vm
set_option linter.unusedSimpArgs false
set_option linter.unusedVariables false
set_option maxRecDepth 100000
attribute [local simp] evalL wantedA isCall opA evalA evalAll evalsA evalOpt ofValue ofCell plain binA_eql_pn binA_neq_pn binA_gtr binA_lss binA_geq binA_leq binA_add binA_sub binA_eql binA_neq binA_or binA_shl binA_shr binA_mul binA_quo binA_rem binA_agg_eql binA_agg_neq convA_int unA_not fieldAddrA loadA partA pickA_true pickA_false pickA_bb lenA builtinA storeA splice AV.cells AV.isCell sliceA boundA intA callOf indexAddrA newObjA buildA fillA zeroA ofCells buildSliceA indexA fieldA coinsC_at

theorem callsA_gcO {σ : St} {P : Program} {f : FuncId} {args : List AV} {Q Q' : AV → St → Prop} (k : CallsA P f args σ Q) (h : ∀ av σ0, Q av σ0 → GoneO σ σ0 ∧ Q' (av.gcO σ.objs.length) (σ.trimO σ0)) : CallsA P f args σ Q' := by
  intro G w vs R hS hl hr hK
  refine k G w vs R hS hl hr (fun v av σ0 G' w' hq hE hS' hv => ?_)
  obtain ⟨hg, hq'⟩ := h av σ0 hq
  obtain ⟨hE2, hS2⟩ := hS.trimO hS' hE hg
  exact hK v _ _ _ _ hq' hE2 hS2 (hv.gcO hE hS.tot)

theorem callsA_gcOI {σ : St} {P : Program} {f : FuncId} {args : List AV} {A : AV} {ι : Type} {Pi : ι → Prop} {τ : ι → St} (k : CallsA P f args σ (fun av σ' => ∃ i, Pi i ∧ av = A ∧ ∃ l, σ' = { τ i with objs := (τ i).objs ++ l }))
    (hA : A.gcO σ.objs.length = A) (hl : ∀ i, (τ i).objs.length = σ.objs.length) (hgl : ∀ i, (τ i).gl = σ.gl) (hkp : ∀ i, Kp σ.objs.length σ.objs (τ i).objs) (hkr : ∀ i, KpR σ.objs.length σ.rows (τ i).rows) : CallsA P f args σ (fun av σ' => av = A ∧ ∃ i, Pi i ∧ σ' = τ i) := by
  refine callsA_gcO k (fun av σ0 ⟨i, hi, hv, l, h⟩ => ?_)
  subst h hv
  refine ⟨gone_kp (hgl i) (kp_more (hkp i)) (hkr i), hA, i, hi, ?_⟩
  have := hl i
  simp [St.trimO, ← this]

/-! ### What a writer holds -/
def wrA (k : Nat) (l : List UInt8) : AV := if l = [] then .sl 0 [] 0 .full else .sl 1 (bytesA l) l.length (.own k)
def Tk (tk : List Nat) (k : Nat) (l : List UInt8) : Prop := l = [] ∨ tk[k]? = some l.length

structure Wr (tk : List Nat) (k : Nat) (l : List UInt8) (tk' : List Nat) (k' : Nat) (l' : List UInt8) : Prop where
  tok : Tk tk' k' l'
  len : tk.length ≤ tk'.length
  keep : ∀ (j v : Nat), (l = [] ∨ j ≠ k) → tk[j]? = some v → tk'[j]? = some v
  own : l' = [] ∨ (k' = k ∧ l ≠ []) ∨ tk.length ≤ k'

theorem Wr.refl {tk : List Nat} {k : Nat} {l : List UInt8} (h : Tk tk k l) : Wr tk k l tk k l := ⟨h, Nat.le_refl _, fun _ _ _ h => h, by
  by_cases e : l = []
  · exact .inl e
  · exact .inr (.inl ⟨rfl, e⟩)⟩

theorem lt_get {l : List Nat} {i v : Nat} (h : l[i]? = some v) : i < l.length := (List.getElem?_eq_some_iff.1 h).1

theorem Wr.trans {tk tk1 tk2 : List Nat} {k k1 k2 : Nat} {l l1 l2 : List UInt8} (h : Wr tk k l tk1 k1 l1) (g : Wr tk1 k1 l1 tk2 k2 l2) : Wr tk k l tk2 k2 l2 := by
  refine ⟨g.tok, Nat.le_trans h.len g.len, fun j v hj hv => g.keep j v ?_ (h.keep j v hj hv), ?_⟩
  · have hlt := lt_get hv
    rcases h.own with e | ⟨e, e2⟩ | e
    · exact .inl e
    · rcases hj with hj | hj
      · exact absurd hj e2
      · exact .inr (by omega)
    · exact .inr (by omega)
  · rcases g.own with e | ⟨e, e2⟩ | e
    · exact .inl e
    · rcases h.own with e3 | ⟨e3, e4⟩ | e3
      · exact absurd e3 e2
      · exact .inr (.inl ⟨by omega, e4⟩)
      · exact .inr (.inr (by omega))
    · have := h.len
      exact .inr (.inr (by omega))

theorem Wr.other {tk tk' : List Nat} {k k' j : Nat} {l l' p : List UInt8} (h : Wr tk k l tk' k' l') (hp : Tk tk j p) (hd : p = [] ∨ l = [] ∨ j ≠ k) : Tk tk' j p ∧ (p = [] ∨ l' = [] ∨ j ≠ k') := by
  by_cases e : p = []
  · exact ⟨.inl e, .inl e⟩
  · have hp := hp.resolve_left e
    have hd := hd.resolve_left e
    refine ⟨.inr (h.keep j _ hd hp), .inr ?_⟩
    have hlt := lt_get hp
    rcases h.own with e1 | ⟨e1, e2⟩ | e1
    · exact .inl e1
    · have := hd.resolve_left e2
      exact .inr (by omega)
    · exact .inr (by omega)

theorem Wr.pre {tk tk' : List Nat} {k k' : Nat} {l' : List UInt8} (h : Wr tk k [] tk' k' l') : ∃ m, tk' = tk ++ m := by
  refine ⟨tk'.drop tk.length, ?_⟩; refine List.ext_getElem? fun i => ?_
  by_cases hi : i < tk.length
  · rw [List.getElem?_append_left hi]
    rw [List.getElem?_eq_getElem hi]
    exact h.keep i _ (.inl rfl) (List.getElem?_eq_getElem hi)
  · rw [List.getElem?_append_right (by omega), List.getElem?_drop]
    congr 1; omega

theorem noObj_wrA (n k : Nat) (l : List UInt8) : noObjL n [wrA k l] = true := by
  unfold wrA
  split <;> simp [noObjL, AV.noObj]

def WP (id : Nat) (σ : St) (k : Nat) (l q : List UInt8) : AV → St → Prop := fun av σ' => av = .ptr id 0 ∧ ∃ k' tk', Wr σ.toks k l tk' k' (l ++ q) ∧ σ' = { σ with objs := σ.objs.set id [wrA k' (l ++ q)], toks := tk' }

theorem lay_ok {σ : St} {id k : Nat} {l q : List UInt8} {tq : Tail} (h : σ.objs[id]? = some [wrA k l]) (ht : Tk σ.toks k l) (hne : l ++ q ≠ []) (hl : l.length ≤ 1000000) (hq : q.length ≤ 1000000) :
    CallsA Try.prog 123 [.ptr id 0, .sl 1 (bytesA q) q.length tq] σ (WP id σ k l q) := by
  by_cases e : l = []
  · subst e
    refine callsA_mono (lay_new (by simpa [wrA] using h) hq) (fun av σ' ⟨h1, h2⟩ => ⟨h1, σ.toks.length, σ.toks ++ [q.length], ⟨.inr ?_, ?_, fun j v _ hj => ?_, .inr (.inr (Nat.le_refl _))⟩, ?_⟩)
    · simp
    · simp
    · rw [List.getElem?_append_left (lt_get hj)]; exact hj
    · rw [h2]; simp at hne; simp [wrA, hne]
  · have hk := ht.resolve_left e
    refine callsA_mono (lay_more (by simpa [wrA, e] using h) hk hl hq) (fun av σ' ⟨h1, h2⟩ => ⟨h1, k, σ.toks.set k (l ++ q).length, ⟨.inr (set_self_of hk _), by simp, fun j v hj hv => ?_, .inr (.inl ⟨rfl, e⟩)⟩, ?_⟩)
    · rw [List.getElem?_set_ne (Ne.symm (hj.resolve_left e))]; exact hv
    · rw [h2]; simp [wrA, e]

set_option maxHeartbeats 1600000 in
attribute [local simp] undefA List.getElem?_cons_zero List.getElem?_cons_succ in
theorem wbyte_ok {σ : St} {id k : Nat} {l : List UInt8} {b : UInt8} (h : σ.objs[id]? = some [wrA k l]) (ht : Tk σ.toks k l) (hl : l.length ≤ 1000000) :
    CallsA Try.prog 114 [.ptr id 0, .v (.int .u8 b.toNat)] σ (WP id σ k l [b]) := by
  have hv : (Value.int IntKind.u8 0).cells.size = 1 := rfl
  have F := And.intro hv (True.intro)
  refine callsA_body Try.func114 rfl rfl rfl ?_; refine sr fun _ hJ2 => ?_; refine hJ2 _ _ ?_; refine sr fun _ hJ4 => ?_
  refine ca (c := lay_ok (q := [b]) h ht (by simp) hl (by simp)) (k := ?_)
  rintro _ _ ⟨rfl, k1, tk1, hw1, rfl⟩; (repeat (first | simp [F] | simp (disch := omega) only [wC, if_pos, if_neg])); refine hJ4 _ _ ?_; refine ra ?_; exact ⟨rfl, k1, tk1, hw1, rfl⟩

def encN (x : Nat) : List UInt8 := UInt8.ofNat (natBytes x).length :: natBytes x

set_option maxHeartbeats 1600000 in
attribute [local simp] undefA List.getElem?_cons_zero List.getElem?_cons_succ in
theorem wnum_ok {σ : St} {id k x : Nat} {l : List UInt8} (h : σ.objs[id]? = some [wrA k l]) (ht : Tk σ.toks k l) (hx : x < 2 ^ 256) (hl : l.length ≤ 900000) :
    CallsA Try.prog 116 [.ptr id 0, .agg (numA x)] σ (WP id σ k l (encN x)) := by
  have hlt := lt_of_get h
  refine callsA_mono (callsA_gcOI (A := .ptr id 0) (Pi := fun i : Nat × List Nat => Wr σ.toks k l i.2 i.1 (l ++ encN x)) (τ := fun i => { σ with objs := σ.objs.set id [wrA i.1 (l ++ encN x)], toks := i.2 }) ?_ (by simp [AV.gcO, hlt]) (fun _ => by simp) (fun _ => rfl) (fun _ => kp_set (kp_refl _) (noObj_wrA _ _ _)) (fun _ => kpr_refl _)) (fun av σ' ⟨h1, i, h2, h3⟩ => ⟨h1, i.1, i.2, h2, h3⟩)
  have hs := set_self_of h
  have hlen : (natBytes x).length ≤ 32 := natBytes_len x 32 (by simpa using hx)
  obtain ⟨c, hc⟩ : ∃ c, c = UInt8.ofNat (natBytes x).length := ⟨_, rfl⟩
  have hcn : c.toNat = (natBytes x).length := by rw [hc]; exact toNat_ofNat (by omega)
  have hw : IntKind.u8.wrap ((natBytes x).length : Int) = (c.toNat : Int) := by rw [wrap_u8, hcn, Nat.mod_eq_of_lt (by omega)]
  have ho1 : ∀ r, (σ.objs ++ r)[id]? = some [wrA k l] := fun r => by rw [List.getElem?_append_left hlt]; exact h
  have ho2 : ∀ x r, (σ.objs.set id x ++ r)[id]? = some x := fun x r => by rw [List.getElem?_append_left (by simpa using hlt)]; exact hs x
  have ho3 : ∀ x r, (σ.objs ++ r).set id x = σ.objs.set id x ++ r := fun x r => List.set_append_left _ _ hlt
  have ho4 : ∀ x y r, (σ.objs.set id y ++ r).set id x = σ.objs.set id x ++ r := fun x y r => by rw [List.set_append_left _ _ (by simpa using hlt), List.set_set]
  have hv : (Value.int IntKind.u8 0).cells.size = 1 := rfl
  have F := And.intro hw (And.intro hv (And.intro ho1 (And.intro ho2 (And.intro ho3 (And.intro ho4 (True.intro))))))
  refine callsA_body Try.func116 rfl rfl rfl ?_; refine sr fun _ hJ2 => ?_; refine hJ2 _ _ ?_; refine sr fun _ hJ4 => ?_; refine ca (c := bytes_ok hx) (k := ?_); rintro _ _ ⟨rfl, rfl⟩; (repeat (first | simp [F] | simp (disch := omega) only [wC, if_pos, if_neg])); refine hJ4 _ _ ?_; refine sr fun _ hJ6 => ?_
  refine ca (c := lay_ok (q := [c]) (ho1 _) ht (by simp) (by omega) (by simp)) (k := ?_)
  rintro _ _ ⟨rfl, k1, tk1, hw1, rfl⟩; repeat (first | simp [F] | simp (disch := omega) only [wC, if_pos, if_neg])
  refine ca (c := lay_ok (l := l ++ [c]) (k := k1) (ho2 _ _) hw1.tok (by simp) (by simp; omega) (by omega)) (k := ?_)
  rintro _ _ ⟨rfl, k2, tk2, hw2, rfl⟩; (repeat (first | simp [F] | simp (disch := omega) only [wC, if_pos, if_neg])); refine hJ6 _ _ ?_; refine ra ?_
  have e : l ++ [c] ++ natBytes x = l ++ encN x := (by simp [encN, hc])
  rw [e] at hw2
  have e2 : c :: natBytes x = encN x := (by simp [encN, hc])
  simp only [e2]
  exact ⟨(k2, tk2), hw1.trans hw2, rfl, _, rfl⟩

def nBytes (size n : Nat) : List UInt8 := (List.range size).map fun j => UInt8.ofNat (n / 2 ^ (8 * (size - 1 - j)) % 256)
theorem nBytes_len (size n : Nat) : (nBytes size n).length = size := by simp [nBytes]

structure WSt where
  j : Nat
  k : Nat
  tk : List Nat

set_option maxHeartbeats 1600000 in
attribute [local simp] undefA List.getElem?_cons_zero List.getElem?_cons_succ in
theorem wnumber_ok {σ : St} {id k n size : Nat} {l : List UInt8} (h : σ.objs[id]? = some [wrA k l]) (ht : Tk σ.toks k l) (hn : n < 2 ^ 64) (hsz : size ≤ 8) (hl : l.length ≤ 900000) :
    CallsA Try.prog 113 [.ptr id 0, .v (.int .u64 n), .v (.int .i64 size)] σ (WP id σ k l (nBytes size n)) := by
  have hs := set_self_of h
  have hs0 := St.set_same h
  have hv : (Value.int IntKind.u8 0).cells.size = 1 := rfl
  have F := And.intro hv (True.intro)
  refine callsA_body Try.func113 rfl rfl rfl ?_; refine sr fun _ hJ2 => ?_; refine hJ2 _ _ ?_; refine sq fun K3 hK3 => ?_; refine sr fun _ hJ5 => ?_; refine hJ5 _ _ ?_; refine run_block_k ?_; refine run_loopF (X := WSt) [1, 6] (fun q ρ σ1 => (q.j ≤ size) ∧ (Wr σ.toks k l q.tk q.k (l ++ (nBytes size n).take q.j)) ∧ (ρ 0 = .ptr id 0) ∧ (ρ 7 = .v (.int .i64 ((size : Int) - 1 - q.j))) ∧ (σ1 = { σ with objs := σ.objs.set id [wrA q.k (l ++ (nBytes size n).take q.j)], toks := q.tk })) (fun q => size - q.j) (⟨0, k, σ.toks⟩) ?st1 ?rd1
  case st1 =>
   refine ⟨lp, ?_, lp, lp, ?_⟩
   · simpa using Wr.refl ht
   · simpa using hs0.symm
  case rd1 =>
   rintro q ρ1 σ1 hF1 ⟨hj, hw, h0, h7, hσ⟩; obtain rfl := hσ.symm
   have f1 := keepL hF1
   (try simp [KeepL, F] at f1); replace F := aF h0 F; replace F := aF h7 F; (try replace F := aF f1 F); refine sq fun K6 hK6 => ?_; refine sr fun _ hJ8 => ?_; refine hJ8 _ _ ?_; refine cs (fun c11 => ?_) (fun c11 => ?_)
   · (try exact nope c11); all_goals have c11p := c11; try simp [F] at c11p
     all_goals
      replace F := aF c11 F; (try replace F := aF c11p F); refine run_skip ?_; refine hK6 _ _ ?_; refine sq fun K9 hK9 => ?_; refine run_block_k ?_
      obtain ⟨i, hi⟩ : ∃ i, i = size - 1 - q.j := ⟨_, rfl⟩
      have he : (size : Int) - 1 - q.j = (i : Int) := by omega
      have hi8 : i < 8 := by omega
      obtain ⟨b, hb⟩ : ∃ b, b = UInt8.ofNat (n / 2 ^ (8 * i) % 256) := ⟨_, rfl⟩
      have hbn : b.toNat = n / 2 ^ (8 * i) % 256 := by rw [hb]; exact toNat_ofNat (by omega)
      have hnx : (nBytes size n).take (q.j + 1) = (nBytes size n).take q.j ++ [b] := by rw [take_snoc (by rw [nBytes_len]; omega)]; simp [nBytes, hb, hi]
      have htl : ((nBytes size n).take q.j).length ≤ 8 := by simp [nBytes_len]; omega
      have hnn : ¬ 8 * (i : Int) < 0 := by omega
      have hsh : Int.fdiv (n : Int) (2 ^ (min (8 * (i : Int)).toNat 64)) = ((n / 2 ^ (8 * i) : Nat) : Int) := by rw [show min (8 * (i : Int)).toNat 64 = 8 * i by omega, Int.fdiv_eq_ediv_of_nonneg _ (by exact Int.le_of_lt (Int.pow_pos (by omega)))]; simp
      have hcv : IntKind.u8.wrap ((n / 2 ^ (8 * i) : Nat) : Int) = (b.toNat : Int) := by rw [wrap_u8, hbn]
      generalize n / 2 ^ (8 * i) = z at *
      replace F := aF he F; replace F := aF hnn F; replace F := aF hsh F; replace F := aF hcv F; refine rg' (h := fun J10 hJ10 => ?_)
      refine ca (c := lay_ok (q := [b]) (hs _) hw.tok (by simp) (by simp; omega) (by simp)) (k := ?_)
      rintro _ _ ⟨rfl, k1, tk1, hw1, rfl⟩; (repeat (first | simp [F] | simp (disch := omega) only [wC, if_pos, if_neg])); refine hJ10 _ _ ?_; refine hK9 _ _ ?_; refine rg' (h := fun J11 hJ11 => ?_); refine hJ11 _ _ ?_; refine ⟨(⟨q.j + 1, k1, tk1⟩), ⟨kp, lp, ?_, lp, ?_, ?_⟩, lp⟩
      · have hq2 := hw.trans hw1
        rw [List.append_assoc, ← hnx] at hq2
        exact hq2
      · simp
        omega
      · simp [hnx]
   (try exact nope c11); all_goals have c11p := c11; try simp [F] at c11p
   all_goals
    replace F := aF c11 F; (try replace F := aF c11p F); refine run_exit ?_; refine hK3 _ _ ?_; refine sr fun _ hJ13 => ?_; refine hJ13 _ _ ?_; refine ra ?_
    have hfull : (nBytes size n).take q.j = nBytes size n := List.take_of_length_le (by rw [nBytes_len]; simp at c11; omega)
    rw [hfull] at hw
    rw [hfull]
    exact ⟨by simp [F], q.k, q.tk, hw, rfl⟩

set_option maxHeartbeats 1600000 in
attribute [local simp] undefA List.getElem?_cons_zero List.getElem?_cons_succ in
theorem wlong_ok {σ : St} {id k n : Nat} {l : List UInt8} (h : σ.objs[id]? = some [wrA k l]) (ht : Tk σ.toks k l) (hn : n < 2 ^ 64) (hl : l.length ≤ 900000) :
    CallsA Try.prog 86 [.ptr id 0, .v (.int .u64 n)] σ (WP id σ k l (nBytes 8 n)) := by
  have F := True.intro
  refine callsA_body Try.func86 rfl rfl rfl ?_; refine sr fun _ hJ2 => ?_; refine hJ2 _ _ ?_; refine sr fun _ hJ4 => ?_
  refine ca (c := wnumber_ok (size := 8) h ht hn (by omega) hl) (k := ?_)
  rintro _ _ ⟨rfl, k1, tk1, hw1, rfl⟩; (repeat (first | simp [F] | simp (disch := omega) only [wC, if_pos, if_neg])); refine hJ4 _ _ ?_; refine ra ?_; exact ⟨rfl, k1, tk1, hw1, rfl⟩

end Go.Proofs.Ytlkajgjaidedkaa

/-
  The package line: where a record is kept; one more, another one, one less.
-/
namespace Go.Proofs.Ytlkajgjaidedkaa
set_option linter.unnecessarySimpa false
set_option maxRecDepth 100000
open Go Go.Vm
set_option linter.unusedSimpArgs false
set_option linter.unusedVariables false
attribute [local simp] evalL wantedA isCall opA evalA evalAll evalsA evalOpt ofValue ofCell plain binA_eql_pn binA_neq_pn binA_gtr binA_lss binA_geq binA_leq binA_add binA_sub binA_eql binA_neq binA_orI binA_shl binA_shr binA_mul binA_quo binA_rem binA_agg_eql binA_agg_neq convA_int unA_not fieldAddrA loadA partA pickA_true pickA_false pickA_bb lenA builtinA storeA splice AV.cells AV.isCell sliceA boundA intA callOf indexAddrA newObjA buildA fillA zeroA ofCells buildSliceA indexA fieldA set_appN get_appN take_appN List.getElem?_cons_zero List.getElem?_cons_succ get_sa0 get_sa1 get_sa2 get_sa3 set_sa0 set_sa1 set_sa2 set_sa3 sliceRowA binA_eqn binA_neqn drop_mr

def WL (id : Nat) (σ : St) (k : Nat) (l A : List UInt8) : AV → St → Prop := fun av σ' => av = .ptr id 0 ∧ ∃ k' tk', Wr σ.toks k l tk' k' A ∧ σ' = { σ with objs := σ.objs.set id [wrA k' A], toks := tk' }
theorem wbyteL {σ : St} {id k : Nat} {l A : List UInt8} {b : UInt8} (hA : A = l ++ [b]) (h : σ.objs[id]? = some [wrA k l]) (ht : Tk σ.toks k l) (hl : l.length ≤ 300000) :
    CallsA Try.prog 114 [.ptr id 0, .v (.int .u8 b.toNat)] σ (WL id σ k l A) := by
  subst hA; exact wbyte_ok h ht (by omega)
theorem wlongL {σ : St} {id k n : Nat} {l A : List UInt8} (hA : A = l ++ nBytes 8 n) (h : σ.objs[id]? = some [wrA k l]) (ht : Tk σ.toks k l) (hn : n < 2 ^ 64) (hl : l.length ≤ 300000) :
    CallsA Try.prog 86 [.ptr id 0, .v (.int .u64 n)] σ (WL id σ k l A) := by
  subst hA; exact wlong_ok h ht hn (by omega)
theorem doneL {σ : St} {id k : Nat} {l : List UInt8} (h : σ.objs[id]? = some [wrA k l]) (hne : l ≠ []) (hl : l.length ≤ 1000000) :
    CallsA Try.prog 87 [.ptr id 0] σ (fun av σ' => av = .sl 1 (bytesA l) l.length .shut ∧ σ = σ') := done_ok (tl := .own k) (by simpa [wrA, hne] using h) hl

def keyW (k : UInt8) (d n : Nat) : List UInt8 := 119 :: k :: (nBytes 8 d ++ nBytes 8 n)
theorem keyW_len (k : UInt8) (d n : Nat) : (keyW k d n).length = 18 := by simp [keyW, nBytes_len]

set_option maxHeartbeats 1600000 in
attribute [local simp] undefA List.getElem?_cons_zero List.getElem?_cons_succ in
theorem key_ok {σ : St} {kind : UInt8} {d n : Nat} (hd : d < 2 ^ 64) (hn : n < 2 ^ 64) :
    CallsA Try.prog 88 [.v (.int .u8 kind.toNat), .v (.int .u64 d), .v (.int .u64 n)] σ (fun av σ' => av = .sl 1 (bytesA (keyW kind d n)) (keyW kind d n).length .shut ∧ σ = σ') := by
  refine callsA_gcS ?_ (by simp [AV.under, under_bytes])
  obtain ⟨A1, hA1⟩ : ∃ A, A = [] ++ [(119 : UInt8)] := ⟨_, rfl⟩
  obtain ⟨A2, hA2⟩ : ∃ A, A = A1 ++ [kind] := ⟨_, rfl⟩
  obtain ⟨A3, hA3⟩ : ∃ A, A = A2 ++ nBytes 8 d := ⟨_, rfl⟩
  obtain ⟨A4, hA4⟩ : ∃ A, A = A3 ++ nBytes 8 n := ⟨_, rfl⟩
  have hA : keyW kind d n = A4 := by rw [hA4, hA3, hA2, hA1]; simp [keyW]
  have l1 : A1.length ≤ 1 := by rw [hA1]; simp
  have l2 : A2.length ≤ 2 := by rw [hA2]; simp; omega
  have l3 : A3.length ≤ 10 := by rw [hA3, List.length_append, nBytes_len]; omega
  have l4 : A4.length ≤ 18 := by rw [hA4, List.length_append, nBytes_len]; omega
  have hne : A4 ≠ [] := by rw [← hA]; simp [keyW]
  have h119 : (119 : Int) = ((119 : UInt8).toNat : Int) := rfl
  rw [hA]
  have hw0 : [AV.sl 0 [] 0 Tail.full] = [wrA 0 []] := rfl
  have F := True.intro
  refine callsA_body Try.func88 rfl rfl rfl ?_; refine sr fun _ hJ2 => ?_; refine hJ2 _ _ ?_; refine sr fun _ hJ4 => ?_; refine hJ4 _ _ ?_; refine sq fun K5 hK5 => ?_; replace F := aF hw0 F; refine rg' (h := fun J6 hJ6 => ?_)
  refine ca (c := wbyteL (b := 119) (k := 0) (l := []) hA1 (by simp [F, hw0]) (.inl rfl) (by simp)) (k := ?_)
  rintro _ _ ⟨rfl, k1, tk1, w1, rfl⟩; repeat (first | simp [F] | simp (disch := omega) only [wC, if_pos, if_neg])
  refine ca (c := wbyteL hA2 (by simp [F]) w1.tok (by omega)) (k := ?_)
  rintro _ _ ⟨rfl, k2, tk2, w2, rfl⟩; repeat (first | simp [F] | simp (disch := omega) only [wC, if_pos, if_neg])
  refine ca (c := wlongL hA3 (by simp [F]) w2.tok hd (by omega)) (k := ?_)
  rintro _ _ ⟨rfl, k3, tk3, w3, rfl⟩; repeat (first | simp [F] | simp (disch := omega) only [wC, if_pos, if_neg])
  refine ca (c := wlongL hA4 (by simp [F]) w3.tok hn (by omega)) (k := ?_)
  rintro _ _ ⟨rfl, k4, tk4, w4, rfl⟩; repeat (first | simp [F] | simp (disch := omega) only [wC, if_pos, if_neg])
  refine ca (c := doneL (l := A4) (k := k4) (by simp [F]) hne (by omega)) (k := ?_)
  rintro _ _ ⟨rfl, rfl⟩; (repeat (first | simp [F] | simp (disch := omega) only [wC, if_pos, if_neg])); refine hJ6 _ _ ?_; refine hK5 _ _ ?_; refine ra ?_
  obtain ⟨tm, htm⟩ := ((w1.trans w2).trans (w3.trans w4)).pre
  rw [htm]
  exact gcr

set_option maxHeartbeats 1600000 in
attribute [local simp] undefA List.getElem?_cons_zero List.getElem?_cons_succ in
theorem lremove_ok {σ : St} {o k n : Nat} {G : Sg} {kind : UInt8} {d no : Nat} (h : HasS σ o k G) (hG : G.s.Ok n) (hn : n ≤ 900000) (hd : d < 2 ^ 64) (hno : no < 2 ^ 64) :
    CallsA Try.prog 47 [.ptr o 0, .v (.int .u8 kind.toNat), .v (.int .u64 d), .v (.int .u64 no)] σ (fun av σ' => ∃ G', G'.s = doS G.s (keyW kind d no) none ∧ av = .v (.bool (getL G.s.l (keyW kind d no)).isSome) ∧ σ' = putS σ o k G') := by
  have hkl := keyW_len kind d no
  have hke := fun τ => key_ok (σ := τ) (kind := kind) hd hno
  have hge := get_ok (key := keyW kind d no) (t1 := .shut) h hG (by omega)
  have hde := del_ok (key := keyW kind d no) (t1 := .shut) h hG (by omega) (by omega)
  have F := True.intro
  refine callsA_body Try.func47 rfl rfl rfl ?_; refine sr fun _ hJ2 => ?_; refine hJ2 _ _ ?_; refine sr fun _ hJ4 => ?_; refine ca (c := hke _) (k := ?_); rintro _ _ ⟨rfl, rfl⟩; (repeat (first | simp [F] | simp (disch := omega) only [wC, if_pos, if_neg])); refine hJ4 _ _ ?_; refine sr fun _ hJ6 => ?_; refine ca (c := hge) (k := ?_); rintro _ _ ⟨rfl, rfl⟩; (repeat (first | simp [F] | simp (disch := omega) only [wC, if_pos, if_neg])); refine hJ6 _ _ ?_; refine sr fun _ hJ8 => ?_; refine ca (c := hde) (k := ?_); rintro _ _ ⟨G', e0, rfl, rfl⟩; (repeat (first | simp [F] | simp (disch := omega) only [wC, if_pos, if_neg])); refine hJ8 _ _ ?_; refine sr fun _ hJ10 => ?_; refine hJ10 _ _ ?_; refine ra ?_; exact ⟨G', e0, by simp [F], rfl⟩

set_option maxHeartbeats 1600000 in
attribute [local simp] undefA List.getElem?_cons_zero List.getElem?_cons_succ byC in
theorem lset_ok {σ : St} {o k n : Nat} {G : Sg} {kind : UInt8} {d no : Nat} {p : List UInt8} (h : HasS σ o k G) (hG : G.s.Ok n) (hn : n ≤ 900000) (hd : d < 2 ^ 64) (hno : no < 2 ^ 64) (hp : p.length ≤ 1000000) :
    CallsA Try.prog 54 [.ptr o 0, .v (.int .u8 kind.toNat), .agg [.v (.int .u64 d), .v (.int .u64 no), byC p]] σ (fun av σ' => ∃ G', G'.s = (if (getL G.s.l (keyW kind d no)).isSome then doS G.s (keyW kind d no) (some p) else G.s) ∧ av = .v (.bool (getL G.s.l (keyW kind d no)).isSome) ∧ σ' = putS σ o k G') := by
  have hkl := keyW_len kind d no
  have hke := fun τ => key_ok (σ := τ) (kind := kind) hd hno
  have hge := fun l => get_ok (key := keyW kind d no) (t1 := .shut) (h.app l σ.toks) hG (by omega)
  have hse := fun l => set_ok (key := keyW kind d no) (val := p) (t1 := .shut) (t2 := .shut) (h.app l σ.toks) hG (by omega) (by omega) (by omega)
  obtain ⟨K, hK⟩ : ∃ K, K = keyW kind d no := ⟨_, rfl⟩
  rw [← hK] at hkl
  simp only [← hK] at hke hge hse ⊢
  obtain ⟨w, hw⟩ : ∃ w, w = getL G.s.l K := ⟨_, rfl⟩
  simp only [← hw] at hge ⊢
  have hpa := fun (G' : Sg) (l : List (List AV)) => putS_app h G' l
  refine callsA_mono (callsA_gcSt (X := Nat × Nat × Nat) (A := fun _ => .v (.bool w.isSome)) (T := fun x => ⟨if w.isSome then doS G.s K (some p) else G.s, x.1, x.2.1, x.2.2⟩) h (fun _ => rfl) ?_) (fun av σ' ⟨x, e1, e2⟩ => ⟨_, rfl, e1, e2⟩)
  have F := True.intro
  refine callsA_body Try.func54 rfl rfl rfl ?_; refine sr fun _ hJ2 => ?_; refine hJ2 _ _ ?_; refine sr fun _ hJ4 => ?_; refine ca (c := hke _) (k := ?_); rintro _ _ ⟨rfl, rfl⟩; (repeat (first | simp [F] | simp (disch := omega) only [wC, if_pos, if_neg])); refine hJ4 _ _ ?_; refine sr fun _ hJ6 => ?_; refine ca (c := hge _) (k := ?_); rintro _ _ ⟨rfl, rfl⟩; (repeat (first | simp [F] | simp (disch := omega) only [wC, if_pos, if_neg])); refine hJ6 _ _ ?_; refine sq fun K7 hK7 => ?_; refine sr fun _ hJ9 => ?_; refine hJ9 _ _ ?_; refine cs (fun c22 => ?_) (fun c22 => ?_)
  · (try exact nope c22); all_goals have c22p := c22; try simp [F] at c22p
    all_goals
     replace F := aF c22 F; (try replace F := aF c22p F); refine rg' (h := fun J10 hJ10 => ?_); refine ca (c := hse _) (k := ?_); rintro _ _ ⟨G', e0, rfl, rfl⟩; (repeat (first | simp [F] | simp (disch := omega) only [wC, if_pos, if_neg])); refine hJ10 _ _ ?_; refine hK7 _ _ ?_; refine sr fun _ hJ12 => ?_; refine hJ12 _ _ ?_; refine ra ?_
     obtain ⟨gs, a1, a2, a3⟩ := G'
     simp only at e0
     subst e0
     refine ⟨(a1, a2, a3), ?_⟩
     have hw1 : w.isSome = true := by simpa using c22
     rw [hpa, if_pos hw1, hw1]
     exact gcr
  (try exact nope c22); all_goals have c22p := c22; try simp [F] at c22p
  all_goals
   replace F := aF c22 F; (try replace F := aF c22p F); refine run_skip ?_; refine hK7 _ _ ?_; refine sr fun _ hJ14 => ?_; refine hJ14 _ _ ?_; refine ra ?_; refine ⟨(G.g1, G.g2, G.g3), ?_⟩
   have hw1 : w.isSome = false := by simpa using c22
   rw [hw1, if_neg (by simp), putS_self h]
   exact gcr

def ctK (kind : UInt8) : List UInt8 := [110, kind]
def addL (s : Sto) (kind : UInt8) (d : Nat) (p : List UInt8) (m : Nat) : Sto := doS (doS s (ctK kind) (some (nBytes 8 (m + 1)))) (keyW kind d (m + 1)) (some p)
theorem takeL {l q : List UInt8} (h : l.length = 8) : takeS 8 (some (l ++ q)) = some q ∧ takeB 8 (some (l ++ q)) = l := by
  simp [takeS, takeB, h]
theorem be_n8 {n : Nat} (h : n < 2 ^ 64) : be (nBytes 8 n) = n := by
  have e : nBytes 8 n = [UInt8.ofNat (n / 2 ^ 56 % 256), UInt8.ofNat (n / 2 ^ 48 % 256), UInt8.ofNat (n / 2 ^ 40 % 256), UInt8.ofNat (n / 2 ^ 32 % 256), UInt8.ofNat (n / 2 ^ 24 % 256), UInt8.ofNat (n / 2 ^ 16 % 256), UInt8.ofNat (n / 2 ^ 8 % 256), UInt8.ofNat (n / 2 ^ 0 % 256)] := rfl
  rw [e]
  have hb : ∀ x, (UInt8.ofNat (x % 256)).toNat = x % 256 := fun x => by rw [toNat_ofNat (by omega)]
  simp only [be, List.foldl_cons, List.foldl_nil, hb]
  omega

theorem wlongV {σ : St} {id k n : Nat} {l A : List UInt8} {v : Int} (hv : v = (n : Int)) (hA : A = l ++ nBytes 8 n) (h : σ.objs[id]? = some [wrA k l]) (ht : Tk σ.toks k l) (hn : n < 2 ^ 64) (hl : l.length ≤ 300000) :
    CallsA Try.prog 86 [.ptr id 0, .v (.int .u64 v)] σ (WL id σ k l A) := by
  subst hv; exact wlongL hA h ht hn hl

theorem HasS.at {σ τ : St} {o k : Nat} {G : Sg} (h : HasS σ o k G) (l : List (List AV)) (m : List Nat) (hτ : τ = { σ with objs := σ.objs ++ l, toks := m }) : HasS τ o k G := by subst hτ; exact h.app l m

set_option maxHeartbeats 1600000 in
attribute [local simp] undefA List.getElem?_cons_zero List.getElem?_cons_succ byC in
theorem ladd_ok {σ : St} {o k n m : Nat} {G : Sg} {kind : UInt8} {d : Nat} {p : List UInt8} {tp : Tail} (h : HasS σ o k G) (hG : G.s.Ok n) (hn : n ≤ 900000) (hd : d < 2 ^ 64) (hp : p.length ≤ 1000000) (hm : m + 1 < 2 ^ 64) (hc : getL G.s.l (ctK kind) = if m = 0 then none else some (nBytes 8 m)) :
    CallsA Try.prog 45 [.ptr o 0, .v (.int .u8 kind.toNat), .v (.int .u64 d), .sl 1 (bytesA p) p.length tp] σ (fun av σ' => ∃ G', G'.s = addL G.s kind d p m ∧ av = .v (.int .u64 (m + 1 : Nat)) ∧ σ' = putS σ o k G') := by
  have hkl := keyW_len kind d (m + 1)
  have hke := fun τ => key_ok (σ := τ) (kind := kind) hd hm
  have hge := get_ok (key := ctK kind) (t1 := .full) h hG (by omega)
  rw [hc] at hge
  have hGo := doS_ok hG (k := ctK kind) (o := some (nBytes 8 (m + 1))) (by simp [ctK]) (by simp [nBytes_len])
  have hse : ∀ (l : List (List AV)) (tk : List Nat), CallsA Try.prog 33 [.ptr o 0, .sl 1 (bytesA (ctK kind)) (ctK kind).length .full, .sl 1 (bytesA (nBytes 8 (m + 1))) (nBytes 8 (m + 1)).length .shut] { σ with objs := σ.objs ++ l, toks := tk } (fun av σ' => ∃ G', G'.s = doS G.s (ctK kind) (some (nBytes 8 (m + 1))) ∧ av = .tup [] ∧ σ' = putS { σ with objs := σ.objs ++ l, toks := tk } o k G') := fun l tk =>
    set_ok (h.app l tk) hG (by omega) (by simp [ctK]) (by simp [nBytes_len])
  have hs2 : ∀ (l : List (List AV)) (tk : List Nat) (G1 : Sg), G1.s = doS G.s (ctK kind) (some (nBytes 8 (m + 1))) → CallsA Try.prog 33 [.ptr o 0, .sl 1 (bytesA (keyW kind d (m + 1))) (keyW kind d (m + 1)).length .shut, .sl 1 (bytesA p) p.length tp] (putS { σ with objs := σ.objs ++ l, toks := tk } o k G1) (fun av σ' => ∃ G', G'.s = addL G.s kind d p m ∧ av = .tup [] ∧ σ' = putS { σ with objs := σ.objs ++ l, toks := tk } o k G') := fun l tk G1 e =>
    callsA_mono (set_ok ((h.app l tk).put G1) (by rw [e]; exact hGo) (by omega) (by omega) hp) (fun av σ' ⟨G', q0, q1, q2⟩ => ⟨G', by rw [q0, e]; rfl, q1, by rw [q2, putS_put]⟩)
  have hpa : ∀ (l : List (List AV)) (tk : List Nat) (G' : Sg), putS { σ with objs := σ.objs ++ l, toks := tk } o k G' = { putS σ o k G' with objs := (putS σ o k G').objs ++ l, toks := tk } := fun l tk G' => by simp only [putS]; rw [List.set_append_left _ _ (lt_of_get h.o)]
  refine callsA_mono (callsA_gcSt (X := Nat × Nat × Nat) (A := fun _ => .v (.int .u64 (m + 1 : Nat))) (T := fun x => ⟨addL G.s kind d p m, x.1, x.2.1, x.2.2⟩) h (fun _ => rfl) ?_) (fun av σ' ⟨x, e1, e2⟩ => ⟨_, rfl, e1, e2⟩)
  have hw0 : [AV.sl 0 [] 0 Tail.full] = [wrA 0 []] := rfl
  have hct : bytesA (ctK kind) = [.v (.int .u8 110), .v (.int .u8 kind.toNat)] := rfl
  have hcl : (ctK kind).length = 2 := rfl
  obtain ⟨K, hK⟩ : ∃ K, K = keyW kind d (m + 1) := ⟨_, rfl⟩
  obtain ⟨C, hC⟩ : ∃ C, C = nBytes 8 (m + 1) := ⟨_, rfl⟩
  have hCl : C.length = 8 := by rw [hC]; exact nBytes_len _ _
  have hCne : C ≠ [] := fun e => by rw [e] at hCl; simp at hCl
  have hm1 : m < 2 ^ 64 := by omega
  have hwr : IntKind.u64.wrap (((m : Nat) : Int) + 1) = ((m + 1 : Nat) : Int) := wrap_u64c (by omega)
  rw [← hK] at hkl
  simp only [← hK, ← hC] at hke hse hs2
  simp only [hct, hcl] at hge hse
  obtain ⟨w, hw⟩ : ∃ w : Option (List UInt8), w = if m = 0 then none else some (nBytes 8 m) := ⟨_, rfl⟩
  rw [← hw] at hge
  have hw1 : w.isSome = true → be (takeB 8 (some (w.getD []))) = m ∧ (w.getD []).length = 8 := fun e => by
    by_cases hm0 : m = 0
    · rw [if_pos hm0] at hw; rw [hw] at e; cases e
    · rw [if_neg hm0] at hw
      rw [hw]
      have := (takeL (l := nBytes 8 m) (q := []) (nBytes_len _ _)).2
      rw [List.append_nil] at this
      exact ⟨by show be (takeB 8 (some (nBytes 8 m))) = m; rw [this, be_n8 hm1], nBytes_len _ _⟩
  have hw2 : w.isSome = false → m = 0 := fun e => by
    by_cases hm0 : m = 0
    · exact hm0
    · rw [if_neg hm0] at hw; rw [hw] at e; cases e
  have F := True.intro
  refine callsA_body Try.func45 rfl rfl rfl ?_; refine sr fun _ hJ2 => ?_; refine hJ2 _ _ ?_; refine sq fun K3 hK3 => ?_; refine sr fun _ hJ5 => ?_; refine hJ5 _ _ ?_; refine cf ?_; refine run_skip ?_; refine hK3 _ _ ?_; refine sr fun _ hJ7 => ?_; refine hJ7 _ _ ?_; refine sr fun _ hJ9 => ?_; refine hJ9 _ _ ?_; refine sq fun K10 hK10 => ?_; refine sr fun _ hJ12 => ?_; refine ca (c := hge) (k := ?_); rintro _ _ ⟨rfl, rfl⟩; (repeat (first | simp [F] | simp (disch := omega) only [wC, if_pos, if_neg])); refine hJ12 _ _ ?_; refine sr fun _ hJ14 => ?_; refine hJ14 _ _ ?_; refine cs (fun c24 => ?_) (fun c24 => ?_)
  · (try exact nope c24); all_goals have c24p := c24; try simp [F] at c24p
    all_goals
     replace F := aF c24 F; try replace F := aF c24p F
     obtain ⟨hb1, hb2⟩ := hw1 (by simpa using c24)
     replace F := aF hb1 (And.intro hwr F); refine rg' (h := fun J15 hJ15 => ?_)
     refine ca (c := new_ok (p := w.getD []) (by omega)) (k := ?_)
     rintro _ _ ⟨rfl, rfl⟩; repeat (first | simp [F] | simp (disch := omega) only [wC, if_pos, if_neg])
     refine ca (c := long_ok (s := some (w.getD [])) (by simp [F])) (k := ?_)
     rintro _ _ ⟨rfl, rfl⟩; (repeat (first | simp [F] | simp (disch := omega) only [wC, if_pos, if_neg])); refine hJ15 _ _ ?_; refine hK10 _ _ ?_; refine sr fun _ hJ17 => ?_; refine hJ17 _ _ ?_; refine sr fun _ hJ19 => ?_
     refine ca (c := wlongV (k := 0) (l := []) (n := m + 1) (A := C) (by omega) hC (by simp [F, hw0]) (.inl rfl) hm (by simp)) (k := ?_)
     rintro _ _ ⟨rfl, k1, tk1, w1, rfl⟩; repeat (first | simp [F] | simp (disch := omega) only [wC, if_pos, if_neg])
     refine ca (c := doneL (l := C) (k := k1) (by simp [F]) hCne (by omega)) (k := ?_)
     rintro _ _ ⟨rfl, rfl⟩; (repeat (first | simp [F] | simp (disch := omega) only [wC, if_pos, if_neg])); refine ca (c := hse _ _) (k := ?_); rintro _ _ ⟨G1, e1, rfl, rfl⟩; (repeat (first | simp [F] | simp (disch := omega) only [wC, if_pos, if_neg])); refine hJ19 _ _ ?_; refine sr fun _ hJ21 => ?_; refine ca (c := hke _) (k := ?_); rintro _ _ ⟨rfl, rfl⟩; (repeat (first | simp [F] | simp (disch := omega) only [wC, if_pos, if_neg])); refine ca (c := hs2 _ _ G1 e1) (k := ?_); rintro _ _ ⟨G', e0, rfl, rfl⟩; (repeat (first | simp [F] | simp (disch := omega) only [wC, if_pos, if_neg])); refine hJ21 _ _ ?_; refine sr fun _ hJ23 => ?_; refine hJ23 _ _ ?_; refine ra ?_
     obtain ⟨gs, a1, a2, a3⟩ := G'
     simp only at e0
     subst e0
     refine ⟨(a1, a2, a3), ?_⟩
     obtain ⟨tm, htm⟩ := w1.pre
     rw [hpa, htm]
     exact gcr
  (try exact nope c24); all_goals have c24p := c24; try simp [F] at c24p
  all_goals
   replace F := aF c24 F; try replace F := aF c24p F
   have hm0 : m = 0 := hw2 (by simpa using c24)
   replace F := aF hm0 F; refine run_skip ?_; refine hK10 _ _ ?_; refine sr fun _ hJ25 => ?_; refine hJ25 _ _ ?_; refine sr fun _ hJ27 => ?_
   refine ca (c := wlongV (k := 0) (l := []) (n := m + 1) (A := C) (by omega) hC (by simp [F, hw0]) (.inl rfl) hm (by simp)) (k := ?_)
   rintro _ _ ⟨rfl, k1, tk1, w1, rfl⟩; repeat (first | simp [F] | simp (disch := omega) only [wC, if_pos, if_neg])
   refine ca (c := doneL (l := C) (k := k1) (by simp [F]) hCne (by omega)) (k := ?_)
   rintro _ _ ⟨rfl, rfl⟩; (repeat (first | simp [F] | simp (disch := omega) only [wC, if_pos, if_neg])); refine ca (c := hse _ _) (k := ?_); rintro _ _ ⟨G1, e1, rfl, rfl⟩; (repeat (first | simp [F] | simp (disch := omega) only [wC, if_pos, if_neg])); refine hJ27 _ _ ?_; refine sr fun _ hJ29 => ?_; refine ca (c := hke _) (k := ?_); rintro _ _ ⟨rfl, rfl⟩; (repeat (first | simp [F] | simp (disch := omega) only [wC, if_pos, if_neg])); refine ca (c := hs2 _ _ G1 e1) (k := ?_); rintro _ _ ⟨G', e0, rfl, rfl⟩; (repeat (first | simp [F] | simp (disch := omega) only [wC, if_pos, if_neg])); refine hJ29 _ _ ?_; refine sr fun _ hJ31 => ?_; refine hJ31 _ _ ?_; refine ra ?_
   obtain ⟨gs, a1, a2, a3⟩ := G'
   simp only at e0
   subst e0
   refine ⟨(a1, a2, a3), ?_⟩
   obtain ⟨tm, htm⟩ := w1.pre
   rw [hpa, htm]
   exact gcr

theorem preB_nil2 (b : UInt8) (p : List UInt8) : preB [] (b :: p) = false := by simp [preB]
theorem preB_cons (a b : UInt8) (l m : List UInt8) : preB (a :: l) (b :: m) = (decide (a = b) && preB l m) := by
  rw [Bool.eq_iff_iff]
  simp only [preB, List.length_cons, List.take_succ_cons, List.cons.injEq, Bool.and_eq_true, decide_eq_true_eq]
  constructor
  · rintro ⟨h1, h2, h3⟩; exact ⟨h2, by omega, h3⟩
  · rintro ⟨h1, h2, h3⟩; exact ⟨by omega, h1, h3⟩

theorem preB_lt : ∀ {a p : List UInt8}, ltB a p = true → preB a p = false
  | a, [], h => by rw [ltB_nil] at h; cases h
  | [], b :: p, _ => preB_nil2 b p
  | x :: a, y :: p, h => by
    rw [preB_cons]
    by_cases e : x = y
    · rw [ltB, if_pos e] at h; simp [preB_lt h]
    · simp [e]

theorem preB_up : ∀ {p a b : List UInt8}, ltB a p = false → preB a p = false → ltB a b = true → preB b p = false
  | [], a, b, _, h, _ => by rw [preB_nil] at h; cases h
  | y :: p, a, [], _, _, h => by rw [ltB_nil] at h; cases h
  | y :: p, [], z :: b, h, _, _ => by cases h
  | y :: p, x :: a, z :: b, h1, h2, h3 => by
    rw [preB_cons] at h2 ⊢
    rw [ltB] at h1 h3
    by_cases e : z = y
    · subst e
      by_cases e2 : x = z
      · rw [if_pos e2] at h1 h3; simp [e2] at h2; simp [preB_up h1 h2 h3]
      · rw [if_neg e2] at h1 h3; simp at h1 h3; omega
    · simp [e]

theorem tw_filter {p : List UInt8} : ∀ {l : List Pr}, Srt l → (∀ x ∈ l, ltB x.k p = false) → (l.takeWhile fun x => preB x.k p) = l.filter fun x => preB x.k p
  | [], _, _ => rfl
  | a :: l, h, hg => by
    have l1 := List.pairwise_cons.1 h
    have ih := tw_filter l1.2 (fun x hx => hg x (by simp [hx]))
    rw [List.takeWhile_cons, List.filter_cons]
    cases hp : preB a.k p with
    | true => simp [ih]
    | false =>
      simp only [Bool.false_eq_true, if_false]
      symm
      rw [List.filter_eq_nil_iff]
      intro x hx
      rw [preB_up (hg a (by simp)) hp (l1.1 x hx)]
      simp

theorem keysL_filter {p : List UInt8} : ∀ {l : List Pr}, Srt l → keysL l p = (l.filter fun x => preB x.k p).map (·.k)
  | [], _ => rfl
  | a :: l, h => by
    have l1 := List.pairwise_cons.1 h
    cases ha : ltB a.k p with
    | true =>
      have ih := keysL_filter (p := p) l1.2
      have hf : findL (a :: l) p = findL l p + 1 := by simp [findL, ha]
      unfold keysL at ih ⊢
      rw [hf, List.drop_succ_cons, ih, List.filter_cons, preB_lt ha]
      simp
    | false =>
      have hf : findL (a :: l) p = 0 := by simp [findL, ha]
      unfold keysL
      rw [hf, List.drop_zero, tw_filter h ?_]
      intro x hx
      rcases List.mem_cons.1 hx with rfl | hx
      · exact ha
      · cases hx2 : ltB x.k p with
        | false => rfl
        | true => have := ltB_trans (l1.1 x hx) hx2; rw [ha] at this; cases this

theorem keysL_mem {l : List Pr} {p k : List UInt8} (h : Srt l) (hk : k ∈ keysL l p) : ∃ x ∈ l, x.k = k := by
  rw [keysL_filter h] at hk
  obtain ⟨x, hx, rfl⟩ := List.mem_map.1 hk
  exact ⟨x, (List.mem_filter.1 hx).1, rfl⟩

theorem kysC_ix {K : List (List UInt8)} {i : Nat} (h : i < K.length) (h2 : i < (kysC K).length) : (kysC K)[i]'h2 = .sl 1 (bytesA K[i]) K[i].length .shut := (List.getElem?_eq_some_iff.1 (kysC_at h)).2
structure It where
  d : Nat
  n : Nat
  p : List UInt8
def itC (x : It) : List AV := [.v (.int .u64 x.d), .v (.int .u64 x.n), byC x.p]
def itsC (l : List It) : List AV := l.flatMap itC
theorem itsC_len (l : List It) : (itsC l).length = l.length * 3 := by
  induction l with
  | nil => rfl
  | cons p l ih => simp only [itsC, List.flatMap_cons, List.length_append, itC, List.length_cons, List.length_nil] at ih ⊢; omega
theorem itsC_app (l m : List It) : itsC (l ++ m) = itsC l ++ itsC m := by simp [itsC]
theorem itsC_under (B : Bd) : ∀ l : List It, underL B (itsC l) = true
  | [] => rfl
  | a :: l => by
    have ih := itsC_under B l
    simp only [itsC, List.flatMap_cons, itC, List.cons_append, List.nil_append, underL, AV.under, byC_under, Bool.true_and, Bool.and_true] at ih ⊢
    exact ih
theorem itsC_noObj (nb : Nat) : ∀ l : List It, noObjL nb (itsC l) = true
  | [] => rfl
  | a :: l => by
    have ih := itsC_noObj nb l
    simp only [itsC, List.flatMap_cons, itC, List.cons_append, List.nil_append, noObjL, AV.noObj, byC, bytes_noObj, Bool.true_and, Bool.and_true] at ih ⊢
    exact ih
theorem itsC_at : ∀ {l : List It} {i : Nat} (h : i < l.length), ∃ R, (itsC l).drop (i * 3) = itC l[i] ++ R
  | p :: l, 0, h => ⟨itsC l, rfl⟩
  | p :: l, i + 1, h => by
    obtain ⟨R, hR⟩ := itsC_at (l := l) (i := i) (by simpa using h)
    refine ⟨R, ?_⟩
    rw [show (i + 1) * 3 = 3 + i * 3 by omega]
    show List.drop (3 + i * 3) (itC p ++ itsC l) = _
    rw [← List.drop_drop]
    exact hR
def itK (L : List Pr) (k : List UInt8) : It := ⟨be (takeB 8 (some (k.drop 2))), be (takeB 8 (takeS 8 (some (k.drop 2)))), (getL L k).getD []⟩
def allL (L : List Pr) (kind : UInt8) : List It := (keysL L [119, kind]).map (itK L)

theorem keysL_pre {l : List Pr} {p k : List UInt8} (h : Srt l) (hk : k ∈ keysL l p) : p.length ≤ k.length := by
  rw [keysL_filter h] at hk
  obtain ⟨x, hx, rfl⟩ := List.mem_map.1 hk
  have := (List.mem_filter.1 hx).2
  simp only [preB, Bool.and_eq_true, decide_eq_true_eq] at this
  exact this.1
theorem bytesA_drop2 (p : List UInt8) (n : Nat) : (bytesA p).drop n = bytesA (p.drop n) := by simp [bytesA]

set_option maxHeartbeats 1600000 in
attribute [local simp] undefA List.getElem?_cons_zero List.getElem?_cons_succ drop_mr byC lsA_nil lsT_nil lsZ_nil lsL_nil gcO_ls noObj_ls itsC_noObj kysC_noObj bytes_noObj in
theorem all_ok {σ : St} {o k n : Nat} {G : Sg} {kind : UInt8} (h : HasS σ o k G) (hG : G.s.Ok n) (hn : n ≤ 900000) :
    CallsA Try.prog 46 [.ptr o 0, .v (.int .u8 kind.toNat)] σ (fun av σ' => av = .sl 3 (itsC (allL G.s.l kind)) (allL G.s.l kind).length .shut ∧ σ = σ') := by
  refine callsA_gcS ?_ (by simp [AV.under, itsC_under])
  have hke : CallsA Try.prog 28 [.ptr o 0, .sl 1 [.v (.int .u8 119), .v (.int .u8 kind.toNat)] 2 .full] σ _ := keys_ok (p := [119, kind]) (t := .full) h hG (by omega)
  have hsrt := hG.srt
  have hkv := hG.kv
  have hKl : (keysL G.s.l [119, kind]).length ≤ 900000 := by rw [keysL_filter hsrt, List.length_map]; have := List.length_filter_le (fun y : Pr => preB y.k [119, kind]) G.s.l; have := hG.l; omega
  have hKm : ∀ x ∈ keysL G.s.l [119, kind], 2 ≤ x.length ∧ x.length ≤ 1000000 := fun x hx => ⟨keysL_pre hsrt hx, by obtain ⟨y, hy, rfl⟩ := keysL_mem hsrt hx; exact (hkv y hy).1⟩
  obtain ⟨K, hK⟩ : ∃ K, K = keysL G.s.l [119, kind] := ⟨_, rfl⟩
  have hT0 : allL G.s.l kind = K.map (itK G.s.l) := by rw [hK]; rfl
  obtain ⟨T, hT⟩ : ∃ T, T = K.map (itK G.s.l) := ⟨_, rfl⟩
  rw [hT0, ← hT]
  rw [← hK] at hke hKl hKm
  have hTl : T.length = K.length := by rw [hT]; simp
  have hkc := kysC_len K
  have hap : ∀ (O : List It) (x : It) objs, O.length ≤ 1000000 → appendA Try.prog 58 (lsA σ.toks.length 3 (itsC O) O.length) (.sl 3 [.v (.int .u64 x.d), .v (.int .u64 x.n), .sl 1 (bytesA x.p) x.p.length .shut] 1 .full) ⟨objs, σ.toks ++ lsT O.length, σ.gl, σ.rows⟩ = some (lsA σ.toks.length 3 (itsC (O ++ [x])) (O.length + 1), ⟨objs, σ.toks ++ lsT (O.length + 1), σ.gl, σ.rows⟩) := fun O x objs hO => by
    rw [itsC_app]
    exact append_ls elemT_58 ti_61 (by decide) rfl (fun h => by rw [List.eq_nil_of_length_eq_zero h]; rfl) rfl (by omega) (by simp only [roomA]; omega) (by simp only [maxLen]; omega)
  have hol := lt_of_get h.o
  have hge := fun x l tk => get_ok (key := x) (t1 := .shut) (h.app l tk) hG (by omega)
  have F := And.intro hol (And.intro hkc (True.intro))
  refine callsA_body Try.func46 rfl rfl rfl ?_; refine sr fun _ hJ2 => ?_; refine hJ2 _ _ ?_; refine sr fun _ hJ4 => ?_; refine hJ4 _ _ ?_; refine sq fun K5 hK5 => ?_; refine sr fun _ hJ7 => ?_; refine ca (c := hke) (k := ?_); rintro _ _ ⟨rfl, rfl⟩; (repeat (first | simp [F] | simp (disch := omega) only [wC, if_pos, if_neg])); refine hJ7 _ _ ?_; refine run_block_k ?_; refine run_loopG (X := Nat) [0, 4, 14, 15] (fun j ρ σ1 => (j ≤ K.length) ∧ (ρ 16 = .v (.int .i64 j)) ∧ (ρ 5 = lsA σ.toks.length 3 (itsC (T.take j)) j) ∧ (σ1 = { σ with toks := σ.toks ++ lsT j })) (fun j => K.length - j) (0) ?st1 ?rd1
  case st1 =>
   refine ⟨lp, lp, lp, ?_⟩
   · simp [lsT_nil]
  case rd1 =>
   rintro j ρ1 σ1 hF1 ⟨h1, h16, h7, hσ⟩; obtain rfl := hσ.symm
   have f1 := keepL hF1
   (try simp [KeepL, F] at f1); replace F := aF h16 F; replace F := aF h7 F; (try replace F := aF f1 F); refine sr fun _ hJ9 => ?_; refine hJ9 _ _ ?_; refine sq fun K10 hK10 => ?_; refine cs (fun c17 => ?_) (fun c17 => ?_)
   · (try exact nope c17); all_goals have c17p := c17; try simp [F] at c17p
     all_goals
      replace F := aF c17 F; try replace F := aF c17p F
      have hlt : j < K.length := by have h := c17; simp at h; omega
      obtain ⟨x, hx⟩ : ∃ x, x = K[j] := ⟨_, rfl⟩
      have hxm := hKm x (by rw [hx]; exact List.getElem_mem _)
      have hgK : ∀ h : j < (kysC K).length, (kysC K)[j]'h = .sl 1 (bytesA x) x.length .shut := fun h => by rw [kysC_ix hlt h, ← hx]
      have hj1 : j + 1 ≤ K.length := hlt
      have hjT : j < T.length := by omega
      have hTj : (T.take j).length = j := by rw [List.length_take]; omega
      have hta : T.take (j + 1) = T.take j ++ [itK G.s.l x] := by rw [← List.take_append_getElem hjT]; simp [hT, hx]
      obtain ⟨D, hD⟩ : ∃ D, D = x.drop 2 := ⟨_, rfl⟩
      have hdr := bytesA_drop2 x 2
      rw [← hD] at hdr
      have hDl : D.length = x.length - 2 := by rw [hD]; simp
      have htkD : List.take (x.length - 2) (bytesA D) = bytesA D := List.take_of_length_le (by rw [bytesA_length]; omega)
      have hnr := fun τ => new_ok (σ := τ) (p := D) (tl := .shut) (by omega)
      simp only [hDl] at hnr
      obtain ⟨P, hP⟩ : ∃ P, P = (getL G.s.l x).getD [] := ⟨_, rfl⟩
      have hgx := hge x
      simp only [← hP] at hgx
      have hit : itK G.s.l x = ⟨be (takeB 8 (some D)), be (takeB 8 (takeS 8 (some D))), P⟩ := by rw [itK, ← hD, ← hP]
      have hap0 : ∀ objs, appendA Try.prog 58 (lsA σ.toks.length 3 (itsC (T.take j)) j) (.sl 3 [.v (.int .u64 (be (takeB 8 (some D)) : Nat)), .v (.int .u64 (be (takeB 8 (takeS 8 (some D))) : Nat)), .sl 1 (bytesA P) P.length .shut] 1 .full) ⟨objs, σ.toks ++ lsT j, σ.gl, σ.rows⟩ = some (lsA σ.toks.length 3 (itsC (T.take (j + 1))) (j + 1), ⟨objs, σ.toks ++ lsT (j + 1), σ.gl, σ.rows⟩) := fun objs => by have e := hap (T.take j) ⟨be (takeB 8 (some D)), be (takeB 8 (takeS 8 (some D))), P⟩ objs (by omega); rw [← hit, ← hta, hit] at e; simp only [hTj] at e; exact e
      have hx2 := hxm.1
      replace F := aF hlt (And.intro hgK (And.intro hj1 (And.intro hdr (And.intro hap0 (And.intro hx2 (And.intro htkD F)))))); refine run_skip ?_; refine hK10 _ _ ?_; refine sq fun K11 hK11 => ?_; refine run_block_k ?_; refine sr fun _ hJ13 => ?_; refine hJ13 _ _ ?_; refine sr fun _ hJ15 => ?_; refine ca (c := hnr _) (k := ?_); rintro _ _ ⟨rfl, rfl⟩; (repeat (first | simp [F] | simp (disch := omega) only [wC, if_pos, if_neg])); refine hJ15 _ _ ?_; refine sr fun _ hJ17 => ?_; refine ca (c := hgx _ _) (k := ?_); rintro _ _ ⟨rfl, rfl⟩; (repeat (first | simp [F] | simp (disch := omega) only [wC, if_pos, if_neg])); refine hJ17 _ _ ?_; refine rg' (h := fun J18 hJ18 => ?_)
      refine ca (c := long_ok (s := some D) (by simp [F])) (k := ?_)
      rintro _ _ ⟨rfl, rfl⟩; repeat (first | simp [F] | simp (disch := omega) only [wC, if_pos, if_neg])
      refine ca (c := long_ok (s := takeS 8 (some D)) (by simp [F])) (k := ?_)
      rintro _ _ ⟨rfl, rfl⟩; (repeat (first | simp [F] | simp (disch := omega) only [wC, if_pos, if_neg])); refine hJ18 _ _ ?_; refine hK11 _ _ ?_; refine rg' (h := fun J19 hJ19 => ?_); refine hJ19 _ _ ?_; refine ⟨gk, (j + 1), ⟨kpG, lpG, lpG, lpG, lpG⟩, lpG⟩
   (try exact nope c17); all_goals have c17p := c17; try simp [F] at c17p
   all_goals
    replace F := aF c17 F; try replace F := aF c17p F
    have hje : T.take j = T := List.take_of_length_le (by have h := c17; simp at h; omega)
    have hjl : j = T.length := by have h := c17; simp at h; omega
    have hwk := lsA_wk (k := σ.toks.length) (sz := 3) (n := j) (cs := itsC T) (fun h => by rw [List.eq_nil_of_length_eq_zero (l := T) (by omega)]; rfl)
    refine run_exit ?_; refine hK5 _ _ ?_; refine sr fun _ hJ21 => ?_; refine hJ21 _ _ ?_; refine ra ?_
    rw [hje] at h7
    rw [← hjl]
    exact gcr (hA := by simp only [putA_get]; simp [F]; rw [hje]; exact hwk)
end Go.Proofs.Ytlkajgjaidedkaa

/-
  Records of a kind in a store: the plain law.
-/
namespace Go.Proofs.Ytlkajgjaidedkaa
set_option linter.unnecessarySimpa false
set_option maxRecDepth 100000
open Go Go.Vm
set_option linter.unusedSimpArgs false
set_option linter.unusedVariables false

def pl (L : List Pr) (p : List UInt8) : List Pr := L.filter fun x => preB x.k p
theorem pl_srt {L : List Pr} {p : List UInt8} (h : Srt L) : Srt (pl L p) := List.Pairwise.filter _ h
theorem setL_c (a : Pr) (l : List Pr) (k : List UInt8) (o : Option (List UInt8)) : setL (a :: l) k o = if a.k = k then (match o with | some v => ⟨k, v⟩ :: l | none => l) else if ltB k a.k then (match o with | some v => ⟨k, v⟩ :: a :: l | none => a :: l) else a :: setL l k o := by cases o <;> rfl
theorem setL_front {k : List UInt8} {o : Option (List UInt8)} {l : List Pr} (h : ∀ q ∈ l, ltB k q.k = true) : setL l k o = match o with | some v => ⟨k, v⟩ :: l | none => l := by
  cases l with
  | nil => cases o <;> rfl
  | cons a l =>
    have h0 := h a (by simp)
    rw [setL_c, if_neg (fun e => ltB_ne h0 e.symm), if_pos h0]
theorem pl_in {p k : List UInt8} {o : Option (List UInt8)} (hk : preB k p = true) : ∀ {L : List Pr}, Srt L → pl (setL L k o) p = setL (pl L p) k o
  | [], _ => by cases o <;> simp [pl, setL, hk]
  | a :: L, h => by
    have l1 := List.pairwise_cons.1 h
    have ih := pl_in (o := o) hk l1.2
    have hf : pl (a :: L) p = if preB a.k p then a :: pl L p else pl L p := by simp only [pl, List.filter_cons]
    by_cases e : a.k = k
    · have ha : preB a.k p = true := by rw [e]; exact hk
      rw [hf, if_pos ha, setL_c, if_pos e, setL_c, if_pos e]
      cases o with
      | none => rfl
      | some v => simp only [pl, List.filter_cons, hk, if_true]
    · by_cases e2 : ltB k a.k = true
      · have hall : ∀ q ∈ pl (a :: L) p, ltB k q.k = true := fun q hq => by
          rcases List.mem_cons.1 (List.mem_filter.1 hq).1 with rfl | h2
          · exact e2
          · exact ltB_trans e2 (l1.1 q h2)
        rw [setL_front hall, setL_c, if_neg e, if_pos e2]
        cases o with
        | none => rfl
        | some v => simp only [pl, List.filter_cons, hk, if_true]
      · rw [setL_c, if_neg e, if_neg e2, hf]
        have hf2 : pl (a :: setL L k o) p = if preB a.k p then a :: pl (setL L k o) p else pl (setL L k o) p := by simp only [pl, List.filter_cons]
        rw [hf2, ih]
        split
        · rw [setL_c, if_neg e, if_neg e2]
        · rfl
theorem pl_out {p k : List UInt8} {o : Option (List UInt8)} (hk : preB k p = false) : ∀ {L : List Pr}, pl (setL L k o) p = pl L p
  | [] => by cases o <;> simp [pl, setL, hk]
  | a :: L => by
    have ih := pl_out (o := o) hk (L := L)
    by_cases e : a.k = k
    · have ha : preB a.k p = false := by rw [e]; exact hk
      rw [setL_c, if_pos e]
      cases o with
      | none => simp [pl, ha]
      | some v => simp [pl, ha, hk]
    · by_cases e2 : ltB k a.k = true
      · rw [setL_c, if_neg e, if_pos e2]
        cases o with
        | none => rfl
        | some v => simp [pl, hk]
      · rw [setL_c, if_neg e, if_neg e2]
        simp only [pl, List.filter_cons] at ih ⊢
        rw [ih]
theorem getL_pl {p k : List UInt8} (hk : preB k p = true) : ∀ {L : List Pr}, getL (pl L p) k = getL L k
  | [] => rfl
  | a :: L => by
    have ih := getL_pl hk (L := L)
    simp only [pl, List.filter_cons] at ih ⊢
    by_cases e : a.k = k
    · rw [if_pos (by rw [e]; exact hk), getL, getL, if_pos e, if_pos e]
    · split
      · rw [getL, getL, if_neg e, if_neg e, ih]
      · rw [getL, if_neg e, ih]

theorem ltB_be : ∀ {l m : List UInt8}, l.length = m.length → ltB l m = decide (be l < be m)
  | [], [], _ => rfl
  | [], _ :: _, h => by simp at h
  | _ :: _, [], h => by simp at h
  | a :: l, b :: m, h => by
    have hl : l.length = m.length := by simpa using h
    have ih := ltB_be hl
    have h1 := be_lt l
    have h2 := be_lt m
    rw [be_cons, be_cons, hl, ltB]
    rw [hl] at h1
    by_cases e : a = b
    · subst e; rw [if_pos rfl, ih, decide_eq_decide]; omega
    · rw [if_neg e, decide_eq_decide]
      have hne : a.toNat ≠ b.toNat := fun e2 => e (UInt8.toNat_inj.1 e2)
      constructor
      · intro hlt
        have : (a.toNat + 1) * 256 ^ m.length ≤ b.toNat * 256 ^ m.length := Nat.mul_le_mul_right _ hlt
        rw [Nat.add_mul, Nat.one_mul] at this
        omega
      · intro hlt
        by_cases h3 : a.toNat < b.toNat
        · exact h3
        · have : (b.toNat + 1) * 256 ^ m.length ≤ a.toNat * 256 ^ m.length := Nat.mul_le_mul_right _ (by omega)
          rw [Nat.add_mul, Nat.one_mul] at this
          omega
theorem ltB_app : ∀ {l m x y : List UInt8}, l.length = m.length → ltB (l ++ x) (m ++ y) = if l = m then ltB x y else ltB l m
  | [], [], _, _, _ => by simp
  | [], _ :: _, _, _, h => by simp at h
  | _ :: _, [], _, _, h => by simp at h
  | a :: l, b :: m, x, y, h => by
    have ih := ltB_app (l := l) (m := m) (x := x) (y := y) (by simpa using h)
    simp only [List.cons_append, ltB, List.cons.injEq]
    by_cases e : a = b
    · subst e; simp [ih]
    · simp [e]
theorem nBytes_inj {a b : Nat} (ha : a < 2 ^ 64) (hb : b < 2 ^ 64) (h : nBytes 8 a = nBytes 8 b) : a = b := by rw [← be_n8 ha, h, be_n8 hb]
theorem ltB_n8 {a b : Nat} (ha : a < 2 ^ 64) (hb : b < 2 ^ 64) : ltB (nBytes 8 a) (nBytes 8 b) = decide (a < b) := by
  rw [ltB_be (by rw [nBytes_len, nBytes_len]), be_n8 ha, be_n8 hb]

theorem keyW_lt {k : UInt8} {d n d' n' : Nat} (h1 : d < 2 ^ 64) (h2 : n < 2 ^ 64) (h3 : d' < 2 ^ 64) (h4 : n' < 2 ^ 64) : ltB (keyW k d n) (keyW k d' n') = decide (d < d' ∨ d = d' ∧ n < n') := by
  simp only [keyW, ltB, if_true]
  rw [ltB_app (by rw [nBytes_len, nBytes_len]), ltB_n8 h1 h3, ltB_n8 h2 h4]
  by_cases e : d = d'
  · subst e; simp
  · rw [if_neg (fun x => e (nBytes_inj h1 h3 x))]; simp [e]
theorem keyW_inj {k k' : UInt8} {d n d' n' : Nat} (h1 : d < 2 ^ 64) (h2 : n < 2 ^ 64) (h3 : d' < 2 ^ 64) (h4 : n' < 2 ^ 64) (h : keyW k d n = keyW k' d' n') : k = k' ∧ d = d' ∧ n = n' := by
  simp only [keyW, List.cons.injEq, true_and] at h
  have := List.append_inj h.2 (by rw [nBytes_len, nBytes_len])
  exact ⟨h.1, nBytes_inj h1 h3 this.1, nBytes_inj h2 h4 this.2⟩
theorem keyW_pre (k k' : UInt8) (d n : Nat) : preB (keyW k d n) [119, k'] = decide (k = k') := by
  simp [preB, keyW]
theorem ctK_pre (k k' : UInt8) : preB (ctK k) [119, k'] = false := by
  simp [preB, ctK]
theorem keyW_ct (k k' : UInt8) (d n : Nat) : keyW k d n ≠ ctK k' := fun h => by simp [keyW, ctK] at h
theorem ctK_inj {k k' : UInt8} (h : ctK k = ctK k') : k = k' := by simpa [ctK] using h

def It.Ok (x : It) : Prop := x.d < 2 ^ 64 ∧ x.n < 2 ^ 64
def recs (k : UInt8) (I : List It) : List Pr := I.map fun x => ⟨keyW k x.d x.n, x.p⟩
def setI : List It → Nat → Nat → Option (List UInt8) → List It
  | [], d, n, some p => [⟨d, n, p⟩]
  | [], _, _, none => []
  | x :: l, d, n, o => if x.d = d ∧ x.n = n then (match o with | some p => ⟨d, n, p⟩ :: l | none => l)
    else if d < x.d ∨ d = x.d ∧ n < x.n then (match o with | some p => ⟨d, n, p⟩ :: x :: l | none => x :: l) else x :: setI l d n o
theorem recs_setI {k : UInt8} {d n : Nat} {o : Option (List UInt8)} (hd : d < 2 ^ 64) (hn : n < 2 ^ 64) : ∀ {I : List It}, (∀ x ∈ I, x.Ok) → setL (recs k I) (keyW k d n) o = recs k (setI I d n o)
  | [], _ => by cases o <;> rfl
  | x :: I, h => by
    have hx := h x (by simp)
    have ih := recs_setI (k := k) (o := o) hd hn (fun y hy => h y (by simp [hy]) : ∀ y ∈ I, y.Ok)
    have he : keyW k x.d x.n = keyW k d n ↔ x.d = d ∧ x.n = n := ⟨fun e => (keyW_inj hx.1 hx.2 hd hn e).2, fun e => by rw [e.1, e.2]⟩
    have hlt := keyW_lt (k := k) hd hn hx.1 hx.2
    simp only [recs, List.map_cons, setL, setI, hlt, decide_eq_true_eq] at ih ⊢
    by_cases e : x.d = d ∧ x.n = n
    · rw [if_pos (he.2 e), if_pos e]; cases o <;> simp
    · rw [if_neg (fun q => e (he.1 q)), if_neg e]
      split
      · cases o <;> simp
      · rw [ih]; simp

structure Ln (L : List Pr) (k : UInt8) (I : List It) (c : Nat) : Prop where
  pl : pl L [119, k] = recs k I
  ct : getL L (ctK k) = if c = 0 then none else some (nBytes 8 c)
  ok : ∀ x ∈ I, x.Ok
  num : ∀ x ∈ I, 1 ≤ x.n ∧ x.n ≤ c

theorem setI_mem {d n : Nat} {o : Option (List UInt8)} : ∀ {I : List It} {x : It}, x ∈ setI I d n o → x ∈ I ∨ (x.d = d ∧ x.n = n ∧ o = some x.p)
  | [], x, h => by
    cases o with
    | none => simp [setI] at h
    | some p => simp [setI] at h; subst h; exact .inr ⟨rfl, rfl, rfl⟩
  | y :: I, x, h => by
    unfold setI at h
    split at h
    · cases o with
      | none => exact .inl (by simp [h])
      | some p => rcases List.mem_cons.1 h with rfl | h1
                  · exact .inr ⟨rfl, rfl, rfl⟩
                  · exact .inl (by simp [h1])
    · split at h
      · cases o with
        | none => exact .inl h
        | some p => rcases List.mem_cons.1 h with rfl | h1
                    · exact .inr ⟨rfl, rfl, rfl⟩
                    · exact .inl h1
      · rcases List.mem_cons.1 h with rfl | h1
        · exact .inl (by simp)
        · rcases setI_mem h1 with h2 | h2
          · exact .inl (by simp [h2])
          · exact .inr h2

theorem Ln.nil (k : UInt8) : Ln [] k [] 0 := ⟨rfl, rfl, fun x hx => by simp at hx, fun x hx => by simp at hx⟩
theorem Ln.set {L : List Pr} {k : UInt8} {I : List It} {c : Nat} (h : Ln L k I c) (hs : Srt L) {d n : Nat} {o : Option (List UInt8)} (hd : d < 2 ^ 64) (hn : n < 2 ^ 64) (h1 : o ≠ none → 1 ≤ n ∧ n ≤ c) : Ln (setL L (keyW k d n) o) k (setI I d n o) c := by
  refine ⟨?_, ?_, fun x hx => ?_, fun x hx => ?_⟩
  · rw [pl_in (by rw [keyW_pre]; simp) hs, h.pl, recs_setI hd hn h.ok]
  · rw [getL_setL hs, if_neg (fun e => keyW_ct _ _ _ _ e.symm), h.ct]
  · rcases setI_mem hx with h2 | ⟨h2, h3, _⟩
    · exact h.ok x h2
    · exact ⟨by rw [h2]; exact hd, by rw [h3]; exact hn⟩
  · rcases setI_mem hx with h2 | ⟨h2, h3, h4⟩
    · exact h.num x h2
    · rw [h3]; exact h1 (by rw [h4]; simp)
theorem Ln.other {L : List Pr} {k k' : UInt8} {I : List It} {c : Nat} (h : Ln L k I c) (hs : Srt L) (hk : k' ≠ k) {d n : Nat} {o : Option (List UInt8)} : Ln (setL L (keyW k' d n) o) k I c := by
  refine ⟨?_, ?_, h.ok, h.num⟩
  · rw [pl_out (by rw [keyW_pre]; simp [hk]), h.pl]
  · rw [getL_setL hs, if_neg (fun e => keyW_ct _ _ _ _ e.symm), h.ct]
theorem Ln.count {L : List Pr} {k : UInt8} {I : List It} {c c' : Nat} (h : Ln L k I c) (hs : Srt L) (hc : c ≤ c') (h0 : 0 < c') : Ln (setL L (ctK k) (some (nBytes 8 c'))) k I c' := by
  refine ⟨?_, ?_, h.ok, fun x hx => ⟨(h.num x hx).1, Nat.le_trans (h.num x hx).2 hc⟩⟩
  · rw [pl_out (ctK_pre _ _), h.pl]
  · rw [getL_setL hs, if_pos rfl, if_neg (by omega)]
theorem Ln.count' {L : List Pr} {k k' : UInt8} {I : List It} {c : Nat} (h : Ln L k I c) (hs : Srt L) (hk : k' ≠ k) {o : Option (List UInt8)} : Ln (setL L (ctK k') o) k I c := by
  refine ⟨?_, ?_, h.ok, h.num⟩
  · rw [pl_out (ctK_pre _ _), h.pl]
  · rw [getL_setL hs, if_neg (fun e => hk (ctK_inj e).symm), h.ct]

theorem addL_l (s : Sto) (k : UInt8) (d : Nat) (p : List UInt8) (m : Nat) : (addL s k d p m).l = setL (setL s.l (ctK k) (some (nBytes 8 (m + 1)))) (keyW k d (m + 1)) (some p) := rfl
theorem Ln.add {s : Sto} {k : UInt8} {I : List It} {c : Nat} (h : Ln s.l k I c) (hs : Srt s.l) {d : Nat} {p : List UInt8} (hd : d < 2 ^ 64) (hc : c + 1 < 2 ^ 64) : Ln (addL s k d p c).l k (setI I d (c + 1) (some p)) (c + 1) := by
  rw [addL_l]
  exact (h.count hs (Nat.le_succ c) (Nat.succ_pos c)).set (setL_srt hs) hd hc (fun _ => ⟨Nat.succ_pos c, Nat.le_refl _⟩)
theorem Ln.add' {s : Sto} {k k' : UInt8} {I : List It} {c : Nat} (h : Ln s.l k I c) (hs : Srt s.l) (hk : k' ≠ k) {d m : Nat} {p : List UInt8} : Ln (addL s k' d p m).l k I c := by
  rw [addL_l]
  exact (h.count' hs hk).other (setL_srt hs) hk

theorem Ln.all {L : List Pr} {k : UInt8} {I : List It} {c : Nat} (h : Ln L k I c) (hs : Srt L) : allL L k = I := by
  have hsp := pl_srt (p := [119, k]) hs
  rw [h.pl] at hsp
  have e1 : keysL L [119, k] = I.map fun x => keyW k x.d x.n := by
    rw [keysL_filter hs]
    show (Proofs.Ytlkajgjaidedkaa.pl L [119, k]).map (·.k) = _
    rw [h.pl, recs, List.map_map]; rfl
  rw [allL, e1, List.map_map]
  conv => rhs; rw [← List.map_id I]
  refine List.map_congr_left fun x hx => ?_
  have hx1 := h.ok x hx
  have hg : getL L (keyW k x.d x.n) = some x.p := by
    rw [← getL_pl (p := [119, k]) (by rw [keyW_pre]; simp), h.pl]
    exact getL_of_mem hsp (p := ⟨keyW k x.d x.n, x.p⟩) (List.mem_map.2 ⟨x, hx, rfl⟩)
  have ed : (keyW k x.d x.n).drop 2 = nBytes 8 x.d ++ nBytes 8 x.n := rfl
  have t1 := takeL (l := nBytes 8 x.d) (q := nBytes 8 x.n) (nBytes_len _ _)
  have t2 := takeL (l := nBytes 8 x.n) (q := []) (nBytes_len _ _)
  rw [List.append_nil] at t2
  simp only [Function.comp, itK, ed, hg, t1.1, t1.2, t2.2, be_n8 hx1.1, be_n8 hx1.2, id, Option.getD_some]

theorem Ln.get {L : List Pr} {k : UInt8} {I : List It} {c : Nat} (h : Ln L k I c) {d n : Nat} (hd : d < 2 ^ 64) (hn : n < 2 ^ 64) : (getL L (keyW k d n)).isSome = I.any fun x => decide (x.d = d ∧ x.n = n) := by
  rw [← getL_pl (p := [119, k]) (by rw [keyW_pre]; simp), h.pl]
  have ho := h.ok
  clear h
  induction I with
  | nil => rfl
  | cons x I ih =>
    have hx := ho x (by simp)
    rw [recs, List.map_cons, getL, List.any_cons]
    by_cases e : x.d = d ∧ x.n = n
    · rw [if_pos (by simp only; rw [e.1, e.2]), decide_eq_true e]; rfl
    · rw [if_neg (fun q => e (keyW_inj hx.1 hx.2 hd hn q).2), decide_eq_false e, Bool.false_or]
      exact ih (fun y hy => ho y (by simp [hy]))

theorem Ln.sorted {L : List Pr} {k : UInt8} {I : List It} {c : Nat} (h : Ln L k I c) (hs : Srt L) : I.Pairwise fun x y => x.d < y.d ∨ x.d = y.d ∧ x.n < y.n := by
  have hsp := pl_srt (p := [119, k]) hs
  rw [h.pl, Srt, recs, List.pairwise_map] at hsp
  refine List.Pairwise.imp_of_mem (fun {x y} hx hy hxy => ?_) hsp; simp only at hxy
  rw [keyW_lt (h.ok x hx).1 (h.ok x hx).2 (h.ok y hy).1 (h.ok y hy).2] at hxy
  simpa using hxy

end Go.Proofs.Ytlkajgjaidedkaa

/-
  The laws LineNil, LineNumbers, LineOrders.
-/
namespace Go.Proofs.Ytlkajgjaidedkaa
set_option linter.unnecessarySimpa false
set_option maxRecDepth 100000
open Go Go.Vm
set_option linter.unusedSimpArgs false
set_option linter.unusedVariables false
attribute [local simp] evalL wantedA isCall opA evalA evalAll evalsA evalOpt ofValue ofCell plain binA_eql_pn binA_neq_pn binA_gtr binA_lss binA_geq binA_leq binA_add binA_sub binA_eql binA_neq binA_orI binA_shl binA_shr binA_mul binA_quo binA_rem binA_agg_eql binA_agg_neq convA_int unA_not fieldAddrA loadA partA pickA_true pickA_false pickA_bb lenA builtinA storeA splice AV.cells AV.isCell sliceA boundA intA callOf indexAddrA newObjA buildA fillA zeroA ofCells buildSliceA indexA fieldA set_appN get_appN take_appN List.getElem?_cons_zero List.getElem?_cons_succ get_sa0 get_sa1 get_sa2 get_sa3 set_sa0 set_sa1 set_sa2 set_sa3 sliceRowA binA_eqn binA_neqn drop_mr

structure AL where
  f : UInt8
  kd : UInt8
  d : Nat
  n : Nat
  p : List UInt8
def AL.Ok (a : AL) : Prop := a.d < 2 ^ 64 ∧ a.n < 2 ^ 64 ∧ a.p.length ≤ 9223372036854775807
theorem get_drop {l : List AV} {i j : Nat} {x : AV} (h : (l.drop i)[j]? = some x) : ∀ h2 : i + j < l.length, l[i + j]'h2 = x := fun h2 => by
  rw [List.getElem?_drop] at h
  exact (List.getElem?_eq_some_iff.1 h).2
theorem addL_ok {s : Sto} {n m : Nat} {kind : UInt8} {d : Nat} {p : List UInt8} (h : s.Ok n) (hp : p.length ≤ 1000000) : (addL s kind d p m).Ok (n + 2) :=
  doS_ok (doS_ok h (by simp [ctK]) (by simp [nBytes_len])) (by rw [keyW_len]; omega) (by simpa using hp)
structure NS where
  i : Nat
  G : Sg

theorem rem_ok {s : Sto} {n : Nat} {kind : UInt8} {d no : Nat} (h : s.Ok n) : (doS s (keyW kind d no) none).Ok (n + 1) := doS_ok h (by rw [keyW_len]; omega) (by simp)
end Go.Proofs.Ytlkajgjaidedkaa

/-
  Plans: what they are, when they are right.
-/
namespace Go.Vm
open Go

structure Per where
  l : Nat
  c : List Coin
deriving DecidableEq

structure Pln where
  k : UInt8
  s : Nat
  e : Nat
  tot : List Coin
  ps : List Per
deriving DecidableEq

def perC (p : Per) : List AV := [.v (.int .u64 p.l), .sl 5 (coinsC p.c) p.c.length .shut]
def persC (l : List Per) : List AV := l.flatMap perC
@[simp] theorem persC_nil : persC [] = [] := rfl
@[simp] theorem persC_len (l : List Per) : (persC l).length = l.length * 2 := flat_length perC 2 (fun _ => rfl) l
def Pln.Ok (p : Pln) : Prop := p.s < 2 ^ 64 ∧ p.e < 2 ^ 64 ∧ p.tot.length ≤ 9223372036854775807 ∧ p.ps.length ≤ 9223372036854775807 ∧ ∀ x ∈ p.ps, x.l < 2 ^ 64 ∧ x.c.length ≤ 9223372036854775807

structure PerQ where
  i : Nat
  e : Nat
  a : List Coin

section
variable {P : Program} {z : Zone} {N : Nat} {σ : St} {ρ : Nat → AV}
end

end Go.Vm

/-
  Arguments: numbers, lists of coins, plans.
-/
namespace Go.Vm
set_option linter.unnecessarySimpa false
set_option linter.unusedVariables false
open Go

theorem leavesF_mono {go go' : TypeId → Option (List TypeId)} (h : ∀ t l, go t = some l → go' t = some l) : ∀ (fs : List Field) (acc ls : List TypeId), leavesF go fs acc = some ls → leavesF go' fs acc = some ls
  | [], acc, ls, e => e
  | f :: fs, acc, ls, e => by
    simp only [leavesF] at e ⊢
    split at e
    · rename_i hf
      rw [if_pos hf]
      cases hg : go f.type with
      | none => rw [hg] at e; cases e
      | some l =>
        rw [hg] at e
        rw [h _ _ hg]
        exact leavesF_mono h fs _ ls e
    · cases e

theorem leaves_succ {P : Program} : ∀ (n : Nat) (t : TypeId) (l : List TypeId), leaves P n t = some l → leaves P (n + 1) t = some l
  | 0, t, l, h => by simp [leaves] at h
  | n + 1, t, l, h => by
    have ih := leaves_succ (P := P) n
    rw [leaves] at h ⊢
    split at h
    · exact h
    · exact h
    · exact h
    · rename_i e hu
      cases hg : leaves P n e with
      | none => rw [hg] at h; cases h
      | some l' => rw [hg] at h; simp only [ih _ _ hg]; exact h
    · rename_i fs hu
      cases hg : leavesF (leaves P n) fs.toList [] with
      | none => rw [hg] at h; cases h
      | some l' => rw [hg] at h; simp only [leavesF_mono ih _ _ _ hg]; exact h
    · rename_i k e hu
      cases hg : leaves P n e with
      | none => rw [hg] at h; cases h
      | some l' => rw [hg] at h; simp only [ih _ _ hg]; exact h
    · cases h

theorem leaves_add {P : Program} {n : Nat} {t : TypeId} {l : List TypeId} (h : leaves P n t = some l) : ∀ k, leaves P (n + k) t = some l
  | 0 => h
  | k + 1 => leaves_succ _ _ _ (leaves_add h k)
theorem leaves_one {P : Program} {n m : Nat} {t : TypeId} {l l' : List TypeId} (h : leaves P n t = some l) (h' : leaves P m t = some l') : l = l' := by
  have h1 := leaves_add h m
  have h2 := leaves_add h' n
  rw [Nat.add_comm] at h2
  rw [h1] at h2
  exact Option.some.inj h2

theorem join4' {a b c d : Nat} (ha : a < 2 ^ 64) (hb : b < 2 ^ 64) (hc : c < 2 ^ 64) (hd : d < 2 ^ 64) : ∃ x, x < 2 ^ 256 ∧ limb x 0 = a ∧ limb x 1 = b ∧ limb x 2 = c ∧ limb x 3 = d := by
  refine ⟨a + 2 ^ 64 * (b + 2 ^ 64 * (c + 2 ^ 64 * d)), ?_, ?_, ?_, ?_, ?_⟩ <;> (try simp only [limb, Nat.reduceMul, Nat.reducePow]) <;> omega

theorem u64_of' {P : Program} {u : TypeId} {a : AV} (hu : P.underlying u = some (.int .u64)) (w : WC P u a) : ∃ n : Nat, n < 2 ^ 64 ∧ a = .v (.int .u64 n) := by
  cases w with
  | bool h => rw [hu] at h; cases h
  | string h _ => rw [hu] at h; cases h
  | slice h _ _ _ _ => rw [hu] at h; cases h
  | int h hw =>
    rename_i k n
    rw [hu] at h
    cases h
    have m1 : IntKind.u64.min = 0 := rfl
    have m2 : IntKind.u64.max = 18446744073709551615 := rfl
    simp [Lit.wf, m1, m2] at hw
    exact ⟨n.toNat, by omega, by congr 2; omega⟩
theorem u8_of {P : Program} {u : TypeId} {a : AV} (hu : P.underlying u = some (.int .u8)) (w : WC P u a) : ∃ b : UInt8, a = .v (.int .u8 b.toNat) := by
  cases w with
  | bool h => rw [hu] at h; cases h
  | string h _ => rw [hu] at h; cases h
  | slice h _ _ _ _ => rw [hu] at h; cases h
  | int h hw =>
    rename_i k n
    rw [hu] at h
    cases h
    have m1 : IntKind.u8.min = 0 := rfl
    have m2 : IntKind.u8.max = 255 := rfl
    simp [Lit.wf, m1, m2] at hw
    refine ⟨UInt8.ofNat n.toNat, ?_⟩
    have e : (UInt8.ofNat n.toNat).toNat = n.toNat := toNat_u8 (by omega)
    rw [e]
    congr 2; omega

theorem num_of {P : Program} {u : TypeId} {a b c d : AV} (hu : P.underlying u = some (.int .u64)) (ha : WC P u a) (hb : WC P u b) (hc : WC P u c) (hd : WC P u d) : ∃ x : Num, [a, b, c, d] = numA x.v := by
  obtain ⟨na, ga, rfl⟩ := u64_of' hu ha
  obtain ⟨nb, gb, rfl⟩ := u64_of' hu hb
  obtain ⟨nc, gc, rfl⟩ := u64_of' hu hc
  obtain ⟨nd, gd, rfl⟩ := u64_of' hu hd
  obtain ⟨x, hx, x0, x1, x2, x3⟩ := join4' ga gb gc gd
  exact ⟨⟨x, hx⟩, by simp [numA, x0, x1, x2, x3]⟩

theorem groups {P : Program} {α : Type} {f : α → List AV} {ls : List TypeId} (hl : 0 < ls.length) (hf : ∀ a, (f a).length = ls.length)
    (one : ∀ cs : List AV, cs.length = ls.length → (∀ (j : Nat) a u, cs[j]? = some a → ls[j]? = some u → WC P u a) → ∃ x, cs = f x) :
    ∀ (n : Nat) (cs : List AV), cs.length = n * ls.length → (∀ (j : Nat) a u, cs[j]? = some a → ls[j % ls.length]? = some u → WC P u a) → ∃ l : List α, l.length = n ∧ cs = l.flatMap f
  | 0, cs, h, _ => ⟨[], rfl, by simpa using h⟩
  | n + 1, cs, h, hc => by
    have hle : ls.length ≤ cs.length := by rw [h, Nat.add_mul]; omega
    obtain ⟨x, hx⟩ := one (cs.take ls.length) (by simp; omega) (fun j a u ha hu => by
      have hj : j < ls.length := (List.getElem?_eq_some_iff.1 hu).1
      rw [List.getElem?_take, if_pos hj] at ha
      exact hc j a u ha (by rw [Nat.mod_eq_of_lt hj]; exact hu))
    obtain ⟨l, hln, hl2⟩ := groups hl hf one n (cs.drop ls.length) (by rw [List.length_drop, h, Nat.add_mul]; omega) (fun j a u ha hu => by
      rw [List.getElem?_drop] at ha
      exact hc (ls.length + j) a u ha (by rw [Nat.add_mod_left]; exact hu))
    exact ⟨x :: l, by simp [hln], by rw [List.flatMap_cons, ← hx, ← hl2, List.take_append_drop]⟩

end Go.Vm

/-
  The lines of the document: an object of lists, each a row.
-/
namespace Go.Proofs.Ytlkajgjaidedkaa
set_option linter.unnecessarySimpa false
set_option maxRecDepth 100000
open Go Go.Vm
set_option linter.unusedSimpArgs false
set_option linter.unusedVariables false
attribute [local simp] evalL wantedA isCall opA evalA evalAll evalsA evalOpt ofValue ofCell plain binA_eql_pn binA_neq_pn binA_gtr binA_lss binA_geq binA_leq binA_add binA_sub binA_eql binA_neq binA_orI binA_shl binA_shr binA_mul binA_quo binA_rem binA_agg_eql binA_agg_neq convA_int unA_not fieldAddrA loadA partA pickA_true pickA_false pickA_bb lenA builtinA storeA splice AV.cells AV.isCell sliceA boundA intA callOf indexAddrA newObjA buildA fillA zeroA ofCells buildSliceA indexA fieldA set_appN get_appN take_appN List.getElem?_cons_zero List.getElem?_cons_succ get_sa0 get_sa1 get_sa2 get_sa3 set_sa0 set_sa1 set_sa2 set_sa3 sliceRowA binA_eqn binA_neqn drop_mr

structure Rl where
  I : List It
  c : Nat
  q : Nat
  g : Nat
def rlC (r : Rl) : List AV := [.row r.q r.g 0 3 r.I.length, .v (.int .u64 r.c)]
def mC (l : List Rl) : List AV := l.flatMap rlC
structure HasM (σ : St) (m : Nat) (Ms : List Rl) : Prop where
  o : σ.objs[m]? = some (mC Ms)
  r : ∀ (k : Nat) (h : k < Ms.length), σ.rows[Ms[k].q]? = some ⟨Ms[k].g, itsC Ms[k].I, none⟩

structure ES where
  i : Nat
  O : List It
  b : Bool
  g : Nat
end Go.Proofs.Ytlkajgjaidedkaa

/-
  Lists of things that have a time and a number, beside their records: the plain law.
-/
namespace Go.Proofs.Ytlkajgjaidedkaa
set_option linter.unnecessarySimpa false
set_option maxRecDepth 100000
open Go Go.Vm
set_option linter.unusedSimpArgs false
set_option linter.unusedVariables false
section
variable {α : Type} (it : α → It)

def insG : List α → α → List α
  | [], x => [x]
  | y :: l, x => if (it x).d < (it y).d then x :: y :: l else y :: insG l x
theorem insG_map : ∀ {l : List α} {x : α}, (∀ y ∈ l, (it y).n < (it x).n) → setI (l.map it) (it x).d (it x).n (some (it x).p) = (insG it l x).map it
  | [], x, _ => rfl
  | y :: l, x, h => by
    have h0 := h y (by simp)
    have ih := insG_map (l := l) (x := x) (fun z hz => h z (by simp [hz]))
    rw [List.map_cons, setI, if_neg (fun e => by have := e.2; omega), insG]
    by_cases e : (it x).d < (it y).d
    · rw [if_pos (.inl e), if_pos e]; rfl
    · rw [if_neg (fun q => by rcases q with q | q <;> omega), if_neg e, ih]; rfl
theorem insG_split {x : α} : ∀ {l : List α} {i : Nat} (h : i < l.length), (∀ y ∈ l.take i, (it y).d ≤ (it x).d) → (it x).d < (it l[i]).d → insG it l x = l.take i ++ x :: l.drop i
  | y :: l, 0, h, _, h2 => by rw [insG, if_pos (by simpa using h2)]; rfl
  | y :: l, i + 1, h, h1, h2 => by
    have hx := h1 y (by simp)
    rw [insG, if_neg (by omega), insG_split (l := l) (i := i) (by simpa using h) (fun z hz => h1 z (by simp [hz])) (by simpa using h2)]
    rfl
theorem insG_end {x : α} : ∀ {l : List α}, (∀ y ∈ l, (it y).d ≤ (it x).d) → insG it l x = l ++ [x]
  | [], _ => rfl
  | y :: l, h => by
    have hx := h y (by simp)
    rw [insG, if_neg (by omega), insG_end (fun z hz => h z (by simp [hz]))]; rfl
theorem insG_len {x : α} : ∀ l : List α, (insG it l x).length = l.length + 1
  | [] => rfl
  | y :: l => by
    rw [insG]; split
    · simp
    · simp [insG_len l]
theorem insG_mem {x z : α} : ∀ {l : List α}, z ∈ insG it l x → z = x ∨ z ∈ l
  | [], h => by simp [insG] at h; exact .inl h
  | y :: l, h => by
    rw [insG] at h
    split at h
    · rcases List.mem_cons.1 h with h | h
      · exact .inl h
      · exact .inr h
    · rcases List.mem_cons.1 h with h | h
      · exact .inr (by simp [h])
      · rcases insG_mem h with h | h
        · exact .inl h
        · exact .inr (by simp [h])

def isG (d n : Nat) (y : α) : Bool := decide ((it y).d = d ∧ (it y).n = n)
def repG (l : List α) (x : α) : List α := l.map fun y => if isG it (it x).d (it x).n y then x else y
def remG (l : List α) (d n : Nat) : List α := l.filter fun y => !isG it d n y
def SrtG (l : List α) : Prop := l.Pairwise fun x y => (it x).d < (it y).d ∨ (it x).d = (it y).d ∧ (it x).n < (it y).n
theorem isG_later {d n : Nat} {l : List α} (h : ∀ y ∈ l, d < (it y).d ∨ d = (it y).d ∧ n < (it y).n) : ∀ y ∈ l, isG it d n y = false := fun y hy => by
  have := h y hy
  rw [isG, decide_eq_false_iff_not]
  omega
theorem remG_no {d n : Nat} {l : List α} (h : ∀ y ∈ l, isG it d n y = false) : remG it l d n = l := by
  rw [remG, List.filter_eq_self]; intro y hy; rw [h y hy]; rfl
theorem repG_no {x : α} {l : List α} (h : ∀ y ∈ l, isG it (it x).d (it x).n y = false) : repG it l x = l := by
  rw [repG]
  conv => rhs; rw [← List.map_id l]
  exact List.map_congr_left fun y hy => by rw [h y hy]; rfl
theorem remG_map {d n : Nat} : ∀ {l : List α}, SrtG it l → setI (l.map it) d n none = (remG it l d n).map it
  | [], _ => rfl
  | y :: l, h => by
    have l1 := List.pairwise_cons.1 h
    have ih := remG_map (d := d) (n := n) l1.2
    rw [List.map_cons, setI]
    by_cases e : (it y).d = d ∧ (it y).n = n
    · rw [if_pos e]
      have hno := remG_no it (isG_later it (d := d) (n := n) (fun z hz => by have := l1.1 z hz; omega) : ∀ z ∈ l, _)
      simp only [remG, List.filter_cons] at hno ⊢
      rw [if_neg (by rw [isG, decide_eq_true e]; simp), hno]
    · have e1 : isG it d n y = false := by rw [isG, decide_eq_false e]
      rw [if_neg e]
      split
      · rename_i h2
        have hno := remG_no it (isG_later it (d := d) (n := n) (fun z hz => by have := l1.1 z hz; omega) : ∀ z ∈ l, _)
        simp only [remG, List.filter_cons] at hno ⊢
        rw [if_pos (by rw [e1]; rfl), hno]; rfl
      · rw [ih]
        simp only [remG, List.filter_cons]
        rw [if_pos (by rw [e1]; rfl)]; rfl
theorem repG_map {x : α} : ∀ {l : List α}, SrtG it l → l.any (isG it (it x).d (it x).n) = true → setI (l.map it) (it x).d (it x).n (some (it x).p) = (repG it l x).map it
  | [], _, h => by simp at h
  | y :: l, h, ha => by
    have l1 := List.pairwise_cons.1 h
    rw [List.map_cons, setI]
    by_cases e : (it y).d = (it x).d ∧ (it y).n = (it x).n
    · rw [if_pos e]
      have hno := repG_no it (x := x) (isG_later it (fun z hz => by have := l1.1 z hz; omega) : ∀ z ∈ l, _)
      simp only [repG, List.map_cons] at hno ⊢
      rw [hno, if_pos (by rw [isG, decide_eq_true e])]
    · have e1 : isG it (it x).d (it x).n y = false := by rw [isG, decide_eq_false e]
      rw [List.any_cons, e1, Bool.false_or] at ha
      have ih := repG_map l1.2 ha
      obtain ⟨z, hz, hz2⟩ := List.any_eq_true.1 ha
      have hz3 := l1.1 z hz
      rw [isG, decide_eq_true_eq] at hz2
      rw [if_neg e, if_neg (by omega), ih]
      simp only [repG, List.map_cons]
      rw [e1]; rfl
theorem any_map {d n : Nat} (l : List α) : ((l.map it).any fun x => decide (x.d = d ∧ x.n = n)) = l.any (isG it d n) := by
  rw [List.any_map]; rfl
end

end Go.Proofs.Ytlkajgjaidedkaa

/-
  Entries and hops: their records, and back.
-/
namespace Go.Proofs.Ytlkajgjaidedkaa
set_option linter.unnecessarySimpa false
set_option maxRecDepth 100000
open Go Go.Vm
set_option linter.unusedSimpArgs false
set_option linter.unusedVariables false
attribute [local simp] evalL wantedA isCall opA evalA evalAll evalsA evalOpt ofValue ofCell plain binA_eql_pn binA_neq_pn binA_gtr binA_lss binA_geq binA_leq binA_add binA_sub binA_eql binA_neq binA_orI binA_shl binA_shr binA_mul binA_quo binA_rem binA_agg_eql binA_agg_neq convA_int unA_not fieldAddrA loadA partA pickA_true pickA_false pickA_bb lenA builtinA storeA splice AV.cells AV.isCell sliceA boundA intA callOf indexAddrA newObjA buildA fillA zeroA ofCells buildSliceA indexA fieldA set_appN get_appN take_appN List.getElem?_cons_zero List.getElem?_cons_succ get_sa0 get_sa1 get_sa2 get_sa3 set_sa0 set_sa1 set_sa2 set_sa3 sliceRowA binA_eqn binA_neqn drop_mr

structure En where
  n : Nat
  o : UInt8
  v : UInt8
  m : Nat
  d : Nat
  f : Num
  w : Num
def En.Ok (e : En) : Prop := e.n < 2 ^ 64 ∧ e.m < 2 ^ 64 ∧ e.d < 2 ^ 64
def enC (e : En) : List AV := [.v (.int .u64 e.n), .v (.int .u8 e.o.toNat), .v (.int .u8 e.v.toNat), .v (.int .u64 e.m), .v (.int .u64 e.d), .v (.int .u64 (limb e.f.v 0 : Nat)), .v (.int .u64 (limb e.f.v 1 : Nat)), .v (.int .u64 (limb e.f.v 2 : Nat)), .v (.int .u64 (limb e.f.v 3 : Nat)), .v (.int .u64 (limb e.w.v 0 : Nat)), .v (.int .u64 (limb e.w.v 1 : Nat)), .v (.int .u64 (limb e.w.v 2 : Nat)), .v (.int .u64 (limb e.w.v 3 : Nat))]
def ensC (l : List En) : List AV := l.flatMap enC
theorem ensC_len (l : List En) : (ensC l).length = l.length * 13 := flat_length enC 13 (fun _ => rfl) l
theorem ensC_app (l m : List En) : ensC (l ++ m) = ensC l ++ ensC m := by simp [ensC]
theorem ensC_under (B : Bd) (l : List En) : underL B (ensC l) = true := underL_flat (fun _ => rfl) l
theorem ensC_noObj (nb : Nat) (l : List En) : noObjL nb (ensC l) = true := noObjL_flat (fun _ => rfl) l
theorem ensC_at {l : List En} {i : Nat} (h : i < l.length) : ∃ R, (ensC l).drop (i * 13) = enC l[i] ++ R := ⟨_, flat_at enC 13 (fun _ => rfl) l i h⟩
structure Hp where
  n : Nat
  o : UInt8
  f : UInt8
  t : UInt8
  m : Nat
  d : Nat
  a : Num
  w : Num
def Hp.Ok (e : Hp) : Prop := e.n < 2 ^ 64 ∧ e.m < 2 ^ 64 ∧ e.d < 2 ^ 64
def hpC (e : Hp) : List AV := [.v (.int .u64 e.n), .v (.int .u8 e.o.toNat), .v (.int .u8 e.f.toNat), .v (.int .u8 e.t.toNat), .v (.int .u64 e.m), .v (.int .u64 e.d), .v (.int .u64 (limb e.a.v 0 : Nat)), .v (.int .u64 (limb e.a.v 1 : Nat)), .v (.int .u64 (limb e.a.v 2 : Nat)), .v (.int .u64 (limb e.a.v 3 : Nat)), .v (.int .u64 (limb e.w.v 0 : Nat)), .v (.int .u64 (limb e.w.v 1 : Nat)), .v (.int .u64 (limb e.w.v 2 : Nat)), .v (.int .u64 (limb e.w.v 3 : Nat))]
def hpsC (l : List Hp) : List AV := l.flatMap hpC
theorem hpsC_len (l : List Hp) : (hpsC l).length = l.length * 14 := flat_length hpC 14 (fun _ => rfl) l
theorem hpsC_app (l m : List Hp) : hpsC (l ++ m) = hpsC l ++ hpsC m := by simp [hpsC]
theorem hpsC_under (B : Bd) (l : List Hp) : underL B (hpsC l) = true := underL_flat (fun _ => rfl) l
theorem hpsC_noObj (nb : Nat) (l : List Hp) : noObjL nb (hpsC l) = true := noObjL_flat (fun _ => rfl) l
theorem hpsC_at {l : List Hp} {i : Nat} (h : i < l.length) : ∃ R, (hpsC l).drop (i * 14) = hpC l[i] ++ R := ⟨_, flat_at hpC 14 (fun _ => rfl) l i h⟩

def encE (e : En) : List UInt8 := e.o :: e.v :: (nBytes 8 e.m ++ (encN e.f.v ++ encN e.w.v))
def encH (e : Hp) : List UInt8 := e.o :: e.f :: e.t :: (nBytes 8 e.m ++ (encN e.a.v ++ encN e.w.v))
def itE (e : En) : It := ⟨e.d, e.n, encE e⟩
def itH (e : Hp) : It := ⟨e.d, e.n, encH e⟩

theorem tk_app {E q : List UInt8} {n : Nat} (h : E.length = n) : takeS n (some (E ++ q)) = some q ∧ takeB n (some (E ++ q)) = E := by
  subst h
  simp [takeS, takeB]
theorem byte_app (b : UInt8) (q : List UInt8) : takeS 1 (some (b :: q)) = some q ∧ takeB 1 (some (b :: q)) = [b] := tk_app (E := [b]) rfl
theorem be_natBytes (x : Nat) : be (natBytes x) = x := by
  induction x using Nat.strongRecOn with
  | _ x ih =>
    by_cases h : x = 0
    · subst h; simp [natBytes_zero, be]
    · rw [natBytes_pos (by omega), be_snoc, ih (x / 256) (by omega), toNat_ofNat (by omega)]
      omega
theorem natBytes_head (x : Nat) : (natBytes x).headD 1 ≠ 0 := by
  induction x using Nat.strongRecOn with
  | _ x ih =>
    by_cases h : x = 0
    · subst h; simp [natBytes_zero]
    · rw [natBytes_pos (by omega)]
      by_cases h2 : x / 256 = 0
      · rw [h2, natBytes_zero]
        simp only [List.nil_append, List.headD_cons]
        intro e
        have := congrArg UInt8.toNat e
        rw [toNat_ofNat (by omega)] at this
        simp at this; omega
      · have h3 := ih (x / 256) (by omega)
        cases h4 : natBytes (x / 256) with
        | nil => exact absurd (natBytes_nil.1 h4) h2
        | cons b l => rw [h4] at h3; simpa using h3
theorem natBytes_le {x : Nat} (hx : x < 2 ^ 256) : (natBytes x).length ≤ 32 := natBytes_len x 32 (by simpa using hx)
theorem encN_len {x : Nat} (hx : x < 2 ^ 256) : (encN x).length ≤ 33 := by have := natBytes_le hx; simp [encN]; omega
theorem natBytes_ok {x : Nat} (hx : x < 2 ^ 256) : numOk (natBytes x) = true := by
  have h1 := natBytes_le hx
  have h2 := natBytes_head x
  simp only [numOk, Bool.and_eq_true, decide_eq_true_eq, bne_iff_ne]
  exact ⟨h1, h2⟩
theorem num_app {x : Nat} (hx : x < 2 ^ 256) (q : List UInt8) : numS (some (encN x ++ q)) = some q ∧ numOf (numB (some (encN x ++ q))) = x := by
  have hle := natBytes_le hx
  obtain ⟨h1, h2⟩ := byte_app (UInt8.ofNat (natBytes x).length) (natBytes x ++ q)
  have h3 : be [UInt8.ofNat (natBytes x).length] = (natBytes x).length := by
    have : (UInt8.ofNat (natBytes x).length).toNat = (natBytes x).length := toNat_ofNat (by omega)
    simp only [be, List.foldl_cons, List.foldl_nil]
    omega
  obtain ⟨h4, h5⟩ := tk_app (E := natBytes x) (q := q) rfl
  have hb : numB (some (encN x ++ q)) = natBytes x := by
    show takeB (be (takeB 1 (some (UInt8.ofNat (natBytes x).length :: (natBytes x ++ q))))) (takeS 1 (some (UInt8.ofNat (natBytes x).length :: (natBytes x ++ q)))) = _
    rw [h1, h2, h3, h5]
  have hok := natBytes_ok hx
  refine ⟨?_, by rw [hb, numOf, hok]; simpa using be_natBytes x⟩
  unfold numS
  rw [hb, hok]
  show (if true = true then takeS (be (takeB 1 (some (UInt8.ofNat (natBytes x).length :: (natBytes x ++ q))))) (takeS 1 (some (UInt8.ofNat (natBytes x).length :: (natBytes x ++ q)))) else none) = _
  rw [h1, h2, h3, h4]
  rfl

theorem byteT {σ : St} {id : Nat} {b : UInt8} {q : List UInt8} (h : σ.objs[id]? = some (rd (some (b :: q)))) :
    CallsA Try.prog 117 [.ptr id 0] σ (fun av σ' => av = .v (.int .u8 b.toNat) ∧ σ' = { σ with objs := σ.objs.set id (rd (some q)) }) :=
  callsA_mono (byte_ok h) (fun av σ' ⟨e1, e2⟩ => by
    rw [(byte_app b q).2] at e1; rw [(byte_app b q).1] at e2
    exact ⟨by rw [e1]; simp [be], e2⟩)
theorem longT {σ : St} {id n : Nat} {p q : List UInt8} (hp : p = nBytes 8 n ++ q) (hn : n < 2 ^ 64) (h : σ.objs[id]? = some (rd (some p))) :
    CallsA Try.prog 85 [.ptr id 0] σ (fun av σ' => av = .v (.int .u64 n) ∧ σ' = { σ with objs := σ.objs.set id (rd (some q)) }) := by
  subst hp
  obtain ⟨t1, t2⟩ := takeL (l := nBytes 8 n) (q := q) (nBytes_len _ _)
  exact callsA_mono (long_ok h) (fun av σ' ⟨e1, e2⟩ => by
    rw [t2, be_n8 hn] at e1; rw [t1] at e2
    exact ⟨e1, e2⟩)
theorem numT {σ : St} {id : Nat} {x : Num} {p q : List UInt8} (hp : p = encN x.v ++ q) (h : σ.objs[id]? = some (rd (some p))) :
    CallsA Try.prog 118 [.ptr id 0] σ (fun av σ' => av = .agg (numA x.v) ∧ σ' = { σ with objs := σ.objs.set id (rd (some q)) }) := by
  subst hp
  obtain ⟨t1, t2⟩ := num_app x.h q
  exact callsA_mono (num_ok h) (fun av σ' ⟨e1, e2⟩ => by
    rw [t2] at e1; rw [t1] at e2
    exact ⟨e1, e2⟩)
theorem wnumL {σ : St} {id k : Nat} {x : Num} {l A : List UInt8} (hA : A = l ++ encN x.v) (h : σ.objs[id]? = some [wrA k l]) (ht : Tk σ.toks k l) (hl : l.length ≤ 300000) :
    CallsA Try.prog 116 [.ptr id 0, .agg (numA x.v)] σ (WL id σ k l A) := by
  subst hA; exact wnum_ok h ht x.h (by omega)

theorem encE_len (e : En) : (encE e).length ≤ 80 := by
  have := encN_len e.f.h; have := encN_len e.w.h
  simp [encE, nBytes_len]; omega
theorem encH_len (e : Hp) : (encH e).length ≤ 80 := by
  have := encN_len e.a.h; have := encN_len e.w.h
  simp [encH, nBytes_len]; omega

set_option maxHeartbeats 1600000 in
attribute [local simp] undefA List.getElem?_cons_zero List.getElem?_cons_succ enC in
theorem layE_ok {σ : St} {e : En} (hm : e.m < 2 ^ 64) :
    CallsA Try.prog 92 [.agg (enC e)] σ (fun av σ' => av = .sl 1 (bytesA (encE e)) (encE e).length .shut ∧ σ = σ') := by
  refine callsA_gcS ?_ (by simp [AV.under, under_bytes])
  have h80 := encE_len e
  obtain ⟨A1, hA1⟩ : ∃ A, A = [] ++ [e.o] := ⟨_, rfl⟩
  obtain ⟨A2, hA2⟩ : ∃ A, A = A1 ++ [e.v] := ⟨_, rfl⟩
  obtain ⟨A3, hA3⟩ : ∃ A, A = A2 ++ nBytes 8 e.m := ⟨_, rfl⟩
  obtain ⟨A4, hA4⟩ : ∃ A, A = A3 ++ encN e.f.v := ⟨_, rfl⟩
  obtain ⟨A5, hA5⟩ : ∃ A, A = A4 ++ encN e.w.v := ⟨_, rfl⟩
  have hA : encE e = A5 := by rw [hA5, hA4, hA3, hA2, hA1]; simp [encE]
  rw [hA] at h80 ⊢
  have l5 := congrArg List.length hA5; have l4 := congrArg List.length hA4; have l3 := congrArg List.length hA3; have l2 := congrArg List.length hA2; have l1 := congrArg List.length hA1
  simp only [List.length_append, List.length_cons, List.length_nil] at l1 l2 l3 l4 l5
  have hne : A5 ≠ [] := by rw [← hA]; simp [encE]
  have hw0 : [AV.sl 0 [] 0 Tail.full] = [wrA 0 []] := rfl
  have F := True.intro
  refine callsA_body Try.func92 rfl rfl rfl ?_; refine sr fun _ hJ2 => ?_; refine hJ2 _ _ ?_; refine sr fun _ hJ4 => ?_; refine hJ4 _ _ ?_; refine sq fun K5 hK5 => ?_; replace F := aF hw0 F
  refine run_draw (by kernel_rfl) fun J6 hJ6 => ?_
  refine rp2 0 (k := ?_); refine rp2 1 (k := ?_); refine rp2 2 (k := ?_); refine rp2 4 (k := ?_); refine rp2 5 (k := ?_); refine rp2 7 (k := ?_); refine rp2 8 (k := ?_); refine rp2 10 (k := ?_); refine rp2 11 (k := ?_); refine rp2 13 (k := ?_); refine rp2 14 (k := ?_)
  refine dc 3 rfl (c := wbyteL (k := 0) (l := []) hA1 (by simp [F, hw0]) (.inl rfl) (by simp)) (k := ?_)
  rintro _ _ ⟨rfl, k1, tk1, w1, rfl⟩
  refine ⟨by first | exact fun _ _ h => h | (refine later_list [14, 13, 11, 10, 8, 7, 5, 4, 1] (by kernel_rfl) (List.forall_mem_cons.2 ⟨fun _ => fact2 rfl rfl ?_, List.forall_mem_cons.2 ⟨fun _ => fact2 rfl rfl ?_, List.forall_mem_cons.2 ⟨fun _ => fact2 rfl rfl ?_, List.forall_mem_cons.2 ⟨fun _ => fact2 rfl rfl ?_, List.forall_mem_cons.2 ⟨fun _ => fact2 rfl rfl ?_, List.forall_mem_cons.2 ⟨fun _ => fact2 rfl rfl ?_, List.forall_mem_cons.2 ⟨fun _ => fact2 rfl rfl ?_, List.forall_mem_cons.2 ⟨fun _ => fact2 rfl rfl ?_, List.forall_mem_cons.2 ⟨fun _ => fact2 rfl rfl ?_, fun _ h => absurd h List.not_mem_nil⟩⟩⟩⟩⟩⟩⟩⟩⟩) <;> constructor <;> first | rfl | (simp [F]; done)), ?_⟩
  repeat (first | simp [F] | simp (disch := omega) only [wC, if_pos, if_neg])
  refine dc 6 rfl (c := wbyteL hA2 (by simp [F]) w1.tok (by omega)) (k := ?_)
  rintro _ _ ⟨rfl, k2, tk2, w2, rfl⟩
  refine ⟨by first | exact fun _ _ h => h | (refine later_list [14, 13, 11, 10, 8, 7, 4, 1] (by kernel_rfl) (List.forall_mem_cons.2 ⟨fun _ => fact2 rfl rfl ?_, List.forall_mem_cons.2 ⟨fun _ => fact2 rfl rfl ?_, List.forall_mem_cons.2 ⟨fun _ => fact2 rfl rfl ?_, List.forall_mem_cons.2 ⟨fun _ => fact2 rfl rfl ?_, List.forall_mem_cons.2 ⟨fun _ => fact2 rfl rfl ?_, List.forall_mem_cons.2 ⟨fun _ => fact2 rfl rfl ?_, List.forall_mem_cons.2 ⟨fun _ => fact2 rfl rfl ?_, List.forall_mem_cons.2 ⟨fun _ => fact2 rfl rfl ?_, fun _ h => absurd h List.not_mem_nil⟩⟩⟩⟩⟩⟩⟩⟩) <;> constructor <;> first | rfl | (simp [F]; done)), ?_⟩
  repeat (first | simp [F] | simp (disch := omega) only [wC, if_pos, if_neg])
  refine dc 9 rfl (c := wlongL hA3 (by simp [F]) w2.tok hm (by omega)) (k := ?_)
  rintro _ _ ⟨rfl, k3, tk3, w3, rfl⟩
  refine ⟨by first | exact fun _ _ h => h | (refine later_list [14, 13, 11, 10, 7, 4, 1] (by kernel_rfl) (List.forall_mem_cons.2 ⟨fun _ => fact2 rfl rfl ?_, List.forall_mem_cons.2 ⟨fun _ => fact2 rfl rfl ?_, List.forall_mem_cons.2 ⟨fun _ => fact2 rfl rfl ?_, List.forall_mem_cons.2 ⟨fun _ => fact2 rfl rfl ?_, List.forall_mem_cons.2 ⟨fun _ => fact2 rfl rfl ?_, List.forall_mem_cons.2 ⟨fun _ => fact2 rfl rfl ?_, List.forall_mem_cons.2 ⟨fun _ => fact2 rfl rfl ?_, fun _ h => absurd h List.not_mem_nil⟩⟩⟩⟩⟩⟩⟩) <;> constructor <;> first | rfl | (simp [F]; done)), ?_⟩
  repeat (first | simp [F] | simp (disch := omega) only [wC, if_pos, if_neg])
  refine dc 12 rfl (c := wnumL hA4 (by simp [F]) w3.tok (by omega)) (k := ?_)
  rintro _ _ ⟨rfl, k4, tk4, w4, rfl⟩
  refine ⟨by first | exact fun _ _ h => h | (refine later_list [14, 13, 10, 7, 4, 1] (by kernel_rfl) (List.forall_mem_cons.2 ⟨fun _ => fact2 rfl rfl ?_, List.forall_mem_cons.2 ⟨fun _ => fact2 rfl rfl ?_, List.forall_mem_cons.2 ⟨fun _ => fact2 rfl rfl ?_, List.forall_mem_cons.2 ⟨fun _ => fact2 rfl rfl ?_, List.forall_mem_cons.2 ⟨fun _ => fact2 rfl rfl ?_, List.forall_mem_cons.2 ⟨fun _ => fact2 rfl rfl ?_, fun _ h => absurd h List.not_mem_nil⟩⟩⟩⟩⟩⟩) <;> constructor <;> first | rfl | (simp [F]; done)), ?_⟩
  repeat (first | simp [F] | simp (disch := omega) only [wC, if_pos, if_neg])
  refine dc 15 rfl (c := wnumL hA5 (by simp [F]) w4.tok (by omega)) (k := ?_)
  rintro _ _ ⟨rfl, k5, tk5, w5, rfl⟩
  refine ⟨by first | exact fun _ _ h => h | (refine later_list [13, 10, 7, 4, 1] (by kernel_rfl) (List.forall_mem_cons.2 ⟨fun _ => fact2 rfl rfl ?_, List.forall_mem_cons.2 ⟨fun _ => fact2 rfl rfl ?_, List.forall_mem_cons.2 ⟨fun _ => fact2 rfl rfl ?_, List.forall_mem_cons.2 ⟨fun _ => fact2 rfl rfl ?_, List.forall_mem_cons.2 ⟨fun _ => fact2 rfl rfl ?_, fun _ h => absurd h List.not_mem_nil⟩⟩⟩⟩⟩) <;> constructor <;> first | rfl | (simp [F]; done)), ?_⟩
  repeat (first | simp [F] | simp (disch := omega) only [wC, if_pos, if_neg])
  refine dc 16 rfl (c := doneL (l := A5) (k := k5) (by simp [F]) hne (by omega)) (k := ?_)
  rintro _ _ ⟨rfl, rfl⟩
  refine ⟨by first | exact fun _ _ h => h | (refine later_list [13, 10, 7, 4, 1] (by kernel_rfl) (List.forall_mem_cons.2 ⟨fun _ => fact2 rfl rfl ?_, List.forall_mem_cons.2 ⟨fun _ => fact2 rfl rfl ?_, List.forall_mem_cons.2 ⟨fun _ => fact2 rfl rfl ?_, List.forall_mem_cons.2 ⟨fun _ => fact2 rfl rfl ?_, List.forall_mem_cons.2 ⟨fun _ => fact2 rfl rfl ?_, fun _ h => absurd h List.not_mem_nil⟩⟩⟩⟩⟩) <;> constructor <;> first | rfl | (simp [F]; done)), ?_⟩
  (repeat (first | simp [F] | simp (disch := omega) only [wC, if_pos, if_neg])); refine rp2 17 (k := ?_); refine dd ?_; refine hJ6 _ _ ?_; refine hK5 _ _ ?_; refine ra ?_
  obtain ⟨tm, htm⟩ := ((w1.trans w2).trans ((w3.trans w4).trans w5)).pre
  rw [htm]
  exact gcr

set_option maxHeartbeats 1600000 in
attribute [local simp] undefA List.getElem?_cons_zero List.getElem?_cons_succ hpC in
theorem layH_ok {σ : St} {e : Hp} (hm : e.m < 2 ^ 64) :
    CallsA Try.prog 93 [.agg (hpC e)] σ (fun av σ' => av = .sl 1 (bytesA (encH e)) (encH e).length .shut ∧ σ = σ') := by
  refine callsA_gcS ?_ (by simp [AV.under, under_bytes])
  have h80 := encH_len e
  obtain ⟨A0, hA0⟩ : ∃ A, A = [] ++ [e.o] := ⟨_, rfl⟩
  obtain ⟨A1, hA1⟩ : ∃ A, A = A0 ++ [e.f] := ⟨_, rfl⟩
  obtain ⟨A2, hA2⟩ : ∃ A, A = A1 ++ [e.t] := ⟨_, rfl⟩
  obtain ⟨A3, hA3⟩ : ∃ A, A = A2 ++ nBytes 8 e.m := ⟨_, rfl⟩
  obtain ⟨A4, hA4⟩ : ∃ A, A = A3 ++ encN e.a.v := ⟨_, rfl⟩
  obtain ⟨A5, hA5⟩ : ∃ A, A = A4 ++ encN e.w.v := ⟨_, rfl⟩
  have hA : encH e = A5 := by rw [hA5, hA4, hA3, hA2, hA1, hA0]; simp [encH]
  rw [hA] at h80 ⊢
  have l5 := congrArg List.length hA5; have l4 := congrArg List.length hA4; have l3 := congrArg List.length hA3; have l2 := congrArg List.length hA2; have l1 := congrArg List.length hA1; have l0 := congrArg List.length hA0
  simp only [List.length_append, List.length_cons, List.length_nil] at l0 l1 l2 l3 l4 l5
  have hne : A5 ≠ [] := by rw [← hA]; simp [encH]
  have hw0 : [AV.sl 0 [] 0 Tail.full] = [wrA 0 []] := rfl
  have F := True.intro
  refine callsA_body Try.func93 rfl rfl rfl ?_; refine sr fun _ hJ2 => ?_; refine hJ2 _ _ ?_; refine sr fun _ hJ4 => ?_; refine hJ4 _ _ ?_; refine sq fun K5 hK5 => ?_; replace F := aF hw0 F
  refine run_draw (by kernel_rfl) fun J6 hJ6 => ?_
  refine rp2 0 (k := ?_); refine rp2 1 (k := ?_); refine rp2 2 (k := ?_); refine rp2 4 (k := ?_); refine rp2 5 (k := ?_); refine rp2 7 (k := ?_); refine rp2 8 (k := ?_); refine rp2 10 (k := ?_); refine rp2 11 (k := ?_); refine rp2 13 (k := ?_); refine rp2 14 (k := ?_); refine rp2 16 (k := ?_); refine rp2 17 (k := ?_)
  refine dc 3 rfl (c := wbyteL (k := 0) (l := []) hA0 (by simp [F, hw0]) (.inl rfl) (by simp)) (k := ?_)
  rintro _ _ ⟨rfl, k0, tk0, w0, rfl⟩
  refine ⟨by first | exact fun _ _ h => h | (refine later_list [17, 16, 14, 13, 11, 10, 8, 7, 5, 4, 1] (by kernel_rfl) (List.forall_mem_cons.2 ⟨fun _ => fact2 rfl rfl ?_, List.forall_mem_cons.2 ⟨fun _ => fact2 rfl rfl ?_, List.forall_mem_cons.2 ⟨fun _ => fact2 rfl rfl ?_, List.forall_mem_cons.2 ⟨fun _ => fact2 rfl rfl ?_, List.forall_mem_cons.2 ⟨fun _ => fact2 rfl rfl ?_, List.forall_mem_cons.2 ⟨fun _ => fact2 rfl rfl ?_, List.forall_mem_cons.2 ⟨fun _ => fact2 rfl rfl ?_, List.forall_mem_cons.2 ⟨fun _ => fact2 rfl rfl ?_, List.forall_mem_cons.2 ⟨fun _ => fact2 rfl rfl ?_, List.forall_mem_cons.2 ⟨fun _ => fact2 rfl rfl ?_, List.forall_mem_cons.2 ⟨fun _ => fact2 rfl rfl ?_, fun _ h => absurd h List.not_mem_nil⟩⟩⟩⟩⟩⟩⟩⟩⟩⟩⟩) <;> constructor <;> first | rfl | (simp [F]; done)), ?_⟩
  repeat (first | simp [F] | simp (disch := omega) only [wC, if_pos, if_neg])
  refine dc 6 rfl (c := wbyteL hA1 (by simp [F]) w0.tok (by omega)) (k := ?_)
  rintro _ _ ⟨rfl, k1, tk1, w1, rfl⟩
  refine ⟨by first | exact fun _ _ h => h | (refine later_list [17, 16, 14, 13, 11, 10, 8, 7, 4, 1] (by kernel_rfl) (List.forall_mem_cons.2 ⟨fun _ => fact2 rfl rfl ?_, List.forall_mem_cons.2 ⟨fun _ => fact2 rfl rfl ?_, List.forall_mem_cons.2 ⟨fun _ => fact2 rfl rfl ?_, List.forall_mem_cons.2 ⟨fun _ => fact2 rfl rfl ?_, List.forall_mem_cons.2 ⟨fun _ => fact2 rfl rfl ?_, List.forall_mem_cons.2 ⟨fun _ => fact2 rfl rfl ?_, List.forall_mem_cons.2 ⟨fun _ => fact2 rfl rfl ?_, List.forall_mem_cons.2 ⟨fun _ => fact2 rfl rfl ?_, List.forall_mem_cons.2 ⟨fun _ => fact2 rfl rfl ?_, List.forall_mem_cons.2 ⟨fun _ => fact2 rfl rfl ?_, fun _ h => absurd h List.not_mem_nil⟩⟩⟩⟩⟩⟩⟩⟩⟩⟩) <;> constructor <;> first | rfl | (simp [F]; done)), ?_⟩
  repeat (first | simp [F] | simp (disch := omega) only [wC, if_pos, if_neg])
  refine dc 9 rfl (c := wbyteL hA2 (by simp [F]) w1.tok (by omega)) (k := ?_)
  rintro _ _ ⟨rfl, k2, tk2, w2, rfl⟩
  refine ⟨by first | exact fun _ _ h => h | (refine later_list [17, 16, 14, 13, 11, 10, 7, 4, 1] (by kernel_rfl) (List.forall_mem_cons.2 ⟨fun _ => fact2 rfl rfl ?_, List.forall_mem_cons.2 ⟨fun _ => fact2 rfl rfl ?_, List.forall_mem_cons.2 ⟨fun _ => fact2 rfl rfl ?_, List.forall_mem_cons.2 ⟨fun _ => fact2 rfl rfl ?_, List.forall_mem_cons.2 ⟨fun _ => fact2 rfl rfl ?_, List.forall_mem_cons.2 ⟨fun _ => fact2 rfl rfl ?_, List.forall_mem_cons.2 ⟨fun _ => fact2 rfl rfl ?_, List.forall_mem_cons.2 ⟨fun _ => fact2 rfl rfl ?_, List.forall_mem_cons.2 ⟨fun _ => fact2 rfl rfl ?_, fun _ h => absurd h List.not_mem_nil⟩⟩⟩⟩⟩⟩⟩⟩⟩) <;> constructor <;> first | rfl | (simp [F]; done)), ?_⟩
  repeat (first | simp [F] | simp (disch := omega) only [wC, if_pos, if_neg])
  refine dc 12 rfl (c := wlongL hA3 (by simp [F]) w2.tok hm (by omega)) (k := ?_)
  rintro _ _ ⟨rfl, k3, tk3, w3, rfl⟩
  refine ⟨by first | exact fun _ _ h => h | (refine later_list [17, 16, 14, 13, 10, 7, 4, 1] (by kernel_rfl) (List.forall_mem_cons.2 ⟨fun _ => fact2 rfl rfl ?_, List.forall_mem_cons.2 ⟨fun _ => fact2 rfl rfl ?_, List.forall_mem_cons.2 ⟨fun _ => fact2 rfl rfl ?_, List.forall_mem_cons.2 ⟨fun _ => fact2 rfl rfl ?_, List.forall_mem_cons.2 ⟨fun _ => fact2 rfl rfl ?_, List.forall_mem_cons.2 ⟨fun _ => fact2 rfl rfl ?_, List.forall_mem_cons.2 ⟨fun _ => fact2 rfl rfl ?_, List.forall_mem_cons.2 ⟨fun _ => fact2 rfl rfl ?_, fun _ h => absurd h List.not_mem_nil⟩⟩⟩⟩⟩⟩⟩⟩) <;> constructor <;> first | rfl | (simp [F]; done)), ?_⟩
  repeat (first | simp [F] | simp (disch := omega) only [wC, if_pos, if_neg])
  refine dc 15 rfl (c := wnumL hA4 (by simp [F]) w3.tok (by omega)) (k := ?_)
  rintro _ _ ⟨rfl, k4, tk4, w4, rfl⟩
  refine ⟨by first | exact fun _ _ h => h | (refine later_list [17, 16, 13, 10, 7, 4, 1] (by kernel_rfl) (List.forall_mem_cons.2 ⟨fun _ => fact2 rfl rfl ?_, List.forall_mem_cons.2 ⟨fun _ => fact2 rfl rfl ?_, List.forall_mem_cons.2 ⟨fun _ => fact2 rfl rfl ?_, List.forall_mem_cons.2 ⟨fun _ => fact2 rfl rfl ?_, List.forall_mem_cons.2 ⟨fun _ => fact2 rfl rfl ?_, List.forall_mem_cons.2 ⟨fun _ => fact2 rfl rfl ?_, List.forall_mem_cons.2 ⟨fun _ => fact2 rfl rfl ?_, fun _ h => absurd h List.not_mem_nil⟩⟩⟩⟩⟩⟩⟩) <;> constructor <;> first | rfl | (simp [F]; done)), ?_⟩
  repeat (first | simp [F] | simp (disch := omega) only [wC, if_pos, if_neg])
  refine dc 18 rfl (c := wnumL hA5 (by simp [F]) w4.tok (by omega)) (k := ?_)
  rintro _ _ ⟨rfl, k5, tk5, w5, rfl⟩
  refine ⟨by first | exact fun _ _ h => h | (refine later_list [16, 13, 10, 7, 4, 1] (by kernel_rfl) (List.forall_mem_cons.2 ⟨fun _ => fact2 rfl rfl ?_, List.forall_mem_cons.2 ⟨fun _ => fact2 rfl rfl ?_, List.forall_mem_cons.2 ⟨fun _ => fact2 rfl rfl ?_, List.forall_mem_cons.2 ⟨fun _ => fact2 rfl rfl ?_, List.forall_mem_cons.2 ⟨fun _ => fact2 rfl rfl ?_, List.forall_mem_cons.2 ⟨fun _ => fact2 rfl rfl ?_, fun _ h => absurd h List.not_mem_nil⟩⟩⟩⟩⟩⟩) <;> constructor <;> first | rfl | (simp [F]; done)), ?_⟩
  repeat (first | simp [F] | simp (disch := omega) only [wC, if_pos, if_neg])
  refine dc 19 rfl (c := doneL (l := A5) (k := k5) (by simp [F]) hne (by omega)) (k := ?_)
  rintro _ _ ⟨rfl, rfl⟩
  refine ⟨by first | exact fun _ _ h => h | (refine later_list [16, 13, 10, 7, 4, 1] (by kernel_rfl) (List.forall_mem_cons.2 ⟨fun _ => fact2 rfl rfl ?_, List.forall_mem_cons.2 ⟨fun _ => fact2 rfl rfl ?_, List.forall_mem_cons.2 ⟨fun _ => fact2 rfl rfl ?_, List.forall_mem_cons.2 ⟨fun _ => fact2 rfl rfl ?_, List.forall_mem_cons.2 ⟨fun _ => fact2 rfl rfl ?_, List.forall_mem_cons.2 ⟨fun _ => fact2 rfl rfl ?_, fun _ h => absurd h List.not_mem_nil⟩⟩⟩⟩⟩⟩) <;> constructor <;> first | rfl | (simp [F]; done)), ?_⟩
  (repeat (first | simp [F] | simp (disch := omega) only [wC, if_pos, if_neg])); refine rp2 20 (k := ?_); refine dd ?_; refine hJ6 _ _ ?_; refine hK5 _ _ ?_; refine ra ?_
  obtain ⟨tm, htm⟩ := ((w0.trans w1).trans ((w2.trans w3).trans (w4.trans w5))).pre
  rw [htm]
  exact gcr

set_option maxHeartbeats 1600000 in
attribute [local simp] undefA List.getElem?_cons_zero List.getElem?_cons_succ enC numA in
theorem takeE_ok {σ : St} {e : En} (he : e.Ok) :
    CallsA Try.prog 95 [.agg (itC (itE e))] σ (fun av σ' => av = .agg (enC e) ∧ σ = σ') := by
  refine callsA_gcS ?_ rfl
  have h80 := encE_len e
  obtain ⟨q3, hq3⟩ : ∃ q, q = encN e.w.v ++ [] := ⟨_, rfl⟩
  obtain ⟨q2, hq2⟩ : ∃ q, q = encN e.f.v ++ q3 := ⟨_, rfl⟩
  obtain ⟨q1, hq1⟩ : ∃ q, q = nBytes 8 e.m ++ q2 := ⟨_, rfl⟩
  have hp : encE e = e.o :: e.v :: q1 := by rw [hq1, hq2, hq3]; simp [encE]
  simp only [itE, itC, byC]
  rw [hp] at h80 ⊢
  have hm := he.2.1
  have F := True.intro
  refine callsA_body Try.func95 rfl rfl rfl ?_; refine sr fun _ hJ2 => ?_; refine hJ2 _ _ ?_; refine sr fun _ hJ4 => ?_
  refine ca (c := new_ok (p := e.o :: e.v :: q1) (by omega)) (k := ?_)
  rintro _ _ ⟨rfl, rfl⟩; (repeat (first | simp [F] | simp (disch := omega) only [wC, if_pos, if_neg])); refine hJ4 _ _ ?_; refine sq fun K5 hK5 => ?_
  refine run_draw (by kernel_rfl) fun J6 hJ6 => ?_
  refine rp2 0 (k := ?_); refine rp2 1 (k := ?_); refine rp2 2 (k := ?_); refine rp2 4 (k := ?_); refine rp2 6 (k := ?_); refine rp2 8 (k := ?_); refine rp2 9 (k := ?_); refine rp2 10 (k := ?_); refine rp2 12 (k := ?_)
  refine dc 3 rfl (c := byteT (b := e.o) (q := e.v :: q1) (by simp [F])) (k := ?_)
  rintro _ _ ⟨rfl, rfl⟩
  refine ⟨by first | exact fun _ _ h => h | (refine later_list [12, 10, 9, 8, 6, 4, 1, 0] (by kernel_rfl) (List.forall_mem_cons.2 ⟨fun _ => fact2 rfl rfl ?_, List.forall_mem_cons.2 ⟨fun _ => fact2 rfl rfl ?_, List.forall_mem_cons.2 ⟨fun _ => fact2 rfl rfl ?_, List.forall_mem_cons.2 ⟨fun _ => fact2 rfl rfl ?_, List.forall_mem_cons.2 ⟨fun _ => fact2 rfl rfl ?_, List.forall_mem_cons.2 ⟨fun _ => fact2 rfl rfl ?_, List.forall_mem_cons.2 ⟨fun _ => fact2 rfl rfl ?_, List.forall_mem_cons.2 ⟨fun _ => fact2 rfl rfl ?_, fun _ h => absurd h List.not_mem_nil⟩⟩⟩⟩⟩⟩⟩⟩) <;> constructor <;> first | rfl | (simp [F]; done)), ?_⟩
  repeat (first | simp [F] | simp (disch := omega) only [wC, if_pos, if_neg])
  refine dc 5 rfl (c := byteT (b := e.v) (q := q1) (by simp [F])) (k := ?_)
  rintro _ _ ⟨rfl, rfl⟩
  refine ⟨by first | exact fun _ _ h => h | (refine later_list [12, 10, 9, 8, 6, 1, 0] (by kernel_rfl) (List.forall_mem_cons.2 ⟨fun _ => fact2 rfl rfl ?_, List.forall_mem_cons.2 ⟨fun _ => fact2 rfl rfl ?_, List.forall_mem_cons.2 ⟨fun _ => fact2 rfl rfl ?_, List.forall_mem_cons.2 ⟨fun _ => fact2 rfl rfl ?_, List.forall_mem_cons.2 ⟨fun _ => fact2 rfl rfl ?_, List.forall_mem_cons.2 ⟨fun _ => fact2 rfl rfl ?_, List.forall_mem_cons.2 ⟨fun _ => fact2 rfl rfl ?_, fun _ h => absurd h List.not_mem_nil⟩⟩⟩⟩⟩⟩⟩) <;> constructor <;> first | rfl | (simp [F]; done)), ?_⟩
  repeat (first | simp [F] | simp (disch := omega) only [wC, if_pos, if_neg])
  refine dc 7 rfl (c := longT hq1 hm (by simp [F])) (k := ?_)
  rintro _ _ ⟨rfl, rfl⟩
  refine ⟨by first | exact fun _ _ h => h | (refine later_list [12, 10, 9, 8, 1, 0] (by kernel_rfl) (List.forall_mem_cons.2 ⟨fun _ => fact2 rfl rfl ?_, List.forall_mem_cons.2 ⟨fun _ => fact2 rfl rfl ?_, List.forall_mem_cons.2 ⟨fun _ => fact2 rfl rfl ?_, List.forall_mem_cons.2 ⟨fun _ => fact2 rfl rfl ?_, List.forall_mem_cons.2 ⟨fun _ => fact2 rfl rfl ?_, List.forall_mem_cons.2 ⟨fun _ => fact2 rfl rfl ?_, fun _ h => absurd h List.not_mem_nil⟩⟩⟩⟩⟩⟩) <;> constructor <;> first | rfl | (simp [F]; done)), ?_⟩
  repeat (first | simp [F] | simp (disch := omega) only [wC, if_pos, if_neg])
  refine dc 11 rfl (c := numT (x := e.f) hq2 (by simp [F])) (k := ?_)
  rintro _ _ ⟨rfl, rfl⟩
  refine ⟨by first | exact fun _ _ h => h | (refine later_list [12, 9, 8, 1, 0] (by kernel_rfl) (List.forall_mem_cons.2 ⟨fun _ => fact2 rfl rfl ?_, List.forall_mem_cons.2 ⟨fun _ => fact2 rfl rfl ?_, List.forall_mem_cons.2 ⟨fun _ => fact2 rfl rfl ?_, List.forall_mem_cons.2 ⟨fun _ => fact2 rfl rfl ?_, List.forall_mem_cons.2 ⟨fun _ => fact2 rfl rfl ?_, fun _ h => absurd h List.not_mem_nil⟩⟩⟩⟩⟩) <;> constructor <;> first | rfl | (simp [F]; done)), ?_⟩
  repeat (first | simp [F] | simp (disch := omega) only [wC, if_pos, if_neg])
  refine dc 13 rfl (c := numT (x := e.w) hq3 (by simp [F])) (k := ?_)
  rintro _ _ ⟨rfl, rfl⟩
  refine ⟨by first | exact fun _ _ h => h | (refine later_list [9, 8, 1, 0] (by kernel_rfl) (List.forall_mem_cons.2 ⟨fun _ => fact2 rfl rfl ?_, List.forall_mem_cons.2 ⟨fun _ => fact2 rfl rfl ?_, List.forall_mem_cons.2 ⟨fun _ => fact2 rfl rfl ?_, List.forall_mem_cons.2 ⟨fun _ => fact2 rfl rfl ?_, fun _ h => absurd h List.not_mem_nil⟩⟩⟩⟩) <;> constructor <;> first | rfl | (simp [F]; done)), ?_⟩
  (repeat (first | simp [F] | simp (disch := omega) only [wC, if_pos, if_neg])); refine rp2 14 (k := ?_); refine dop 15 rfl ?_; (repeat (first | simp [F] | simp (disch := omega) only [wC, if_pos, if_neg])); refine ⟨ln, ?_⟩; refine dd ?_; refine hJ6 _ _ ?_; refine hK5 _ _ ?_; refine run_ret ?_; (try simp only [Then, InBlock, NoGoto]); refine acell (h := ?_); exact gcr

set_option maxHeartbeats 1600000 in
attribute [local simp] undefA List.getElem?_cons_zero List.getElem?_cons_succ hpC numA in
theorem takeH_ok {σ : St} {e : Hp} (he : e.Ok) :
    CallsA Try.prog 97 [.agg (itC (itH e))] σ (fun av σ' => av = .agg (hpC e) ∧ σ = σ') := by
  refine callsA_gcS ?_ rfl
  have h80 := encH_len e
  obtain ⟨q3, hq3⟩ : ∃ q, q = encN e.w.v ++ [] := ⟨_, rfl⟩
  obtain ⟨q2, hq2⟩ : ∃ q, q = encN e.a.v ++ q3 := ⟨_, rfl⟩
  obtain ⟨q1, hq1⟩ : ∃ q, q = nBytes 8 e.m ++ q2 := ⟨_, rfl⟩
  have hp : encH e = e.o :: e.f :: e.t :: q1 := by rw [hq1, hq2, hq3]; simp [encH]
  simp only [itH, itC, byC]
  rw [hp] at h80 ⊢
  have hm := he.2.1
  have F := True.intro
  refine callsA_body Try.func97 rfl rfl rfl ?_; refine sr fun _ hJ2 => ?_; refine hJ2 _ _ ?_; refine sr fun _ hJ4 => ?_
  refine ca (c := new_ok (p := e.o :: e.f :: e.t :: q1) (by omega)) (k := ?_)
  rintro _ _ ⟨rfl, rfl⟩; (repeat (first | simp [F] | simp (disch := omega) only [wC, if_pos, if_neg])); refine hJ4 _ _ ?_; refine sq fun K5 hK5 => ?_
  refine run_draw (by kernel_rfl) fun J6 hJ6 => ?_
  refine rp2 0 (k := ?_); refine rp2 1 (k := ?_); refine rp2 2 (k := ?_); refine rp2 4 (k := ?_); refine rp2 6 (k := ?_); refine rp2 8 (k := ?_); refine rp2 10 (k := ?_); refine rp2 11 (k := ?_); refine rp2 12 (k := ?_); refine rp2 14 (k := ?_)
  refine dc 3 rfl (c := byteT (b := e.o) (q := e.f :: e.t :: q1) (by simp [F])) (k := ?_)
  rintro _ _ ⟨rfl, rfl⟩
  refine ⟨by first | exact fun _ _ h => h | (refine later_list [14, 12, 11, 10, 8, 6, 4, 1, 0] (by kernel_rfl) (List.forall_mem_cons.2 ⟨fun _ => fact2 rfl rfl ?_, List.forall_mem_cons.2 ⟨fun _ => fact2 rfl rfl ?_, List.forall_mem_cons.2 ⟨fun _ => fact2 rfl rfl ?_, List.forall_mem_cons.2 ⟨fun _ => fact2 rfl rfl ?_, List.forall_mem_cons.2 ⟨fun _ => fact2 rfl rfl ?_, List.forall_mem_cons.2 ⟨fun _ => fact2 rfl rfl ?_, List.forall_mem_cons.2 ⟨fun _ => fact2 rfl rfl ?_, List.forall_mem_cons.2 ⟨fun _ => fact2 rfl rfl ?_, List.forall_mem_cons.2 ⟨fun _ => fact2 rfl rfl ?_, fun _ h => absurd h List.not_mem_nil⟩⟩⟩⟩⟩⟩⟩⟩⟩) <;> constructor <;> first | rfl | (simp [F]; done)), ?_⟩
  repeat (first | simp [F] | simp (disch := omega) only [wC, if_pos, if_neg])
  refine dc 5 rfl (c := byteT (b := e.f) (q := e.t :: q1) (by simp [F])) (k := ?_)
  rintro _ _ ⟨rfl, rfl⟩
  refine ⟨by first | exact fun _ _ h => h | (refine later_list [14, 12, 11, 10, 8, 6, 1, 0] (by kernel_rfl) (List.forall_mem_cons.2 ⟨fun _ => fact2 rfl rfl ?_, List.forall_mem_cons.2 ⟨fun _ => fact2 rfl rfl ?_, List.forall_mem_cons.2 ⟨fun _ => fact2 rfl rfl ?_, List.forall_mem_cons.2 ⟨fun _ => fact2 rfl rfl ?_, List.forall_mem_cons.2 ⟨fun _ => fact2 rfl rfl ?_, List.forall_mem_cons.2 ⟨fun _ => fact2 rfl rfl ?_, List.forall_mem_cons.2 ⟨fun _ => fact2 rfl rfl ?_, List.forall_mem_cons.2 ⟨fun _ => fact2 rfl rfl ?_, fun _ h => absurd h List.not_mem_nil⟩⟩⟩⟩⟩⟩⟩⟩) <;> constructor <;> first | rfl | (simp [F]; done)), ?_⟩
  repeat (first | simp [F] | simp (disch := omega) only [wC, if_pos, if_neg])
  refine dc 7 rfl (c := byteT (b := e.t) (q := q1) (by simp [F])) (k := ?_)
  rintro _ _ ⟨rfl, rfl⟩
  refine ⟨by first | exact fun _ _ h => h | (refine later_list [14, 12, 11, 10, 8, 1, 0] (by kernel_rfl) (List.forall_mem_cons.2 ⟨fun _ => fact2 rfl rfl ?_, List.forall_mem_cons.2 ⟨fun _ => fact2 rfl rfl ?_, List.forall_mem_cons.2 ⟨fun _ => fact2 rfl rfl ?_, List.forall_mem_cons.2 ⟨fun _ => fact2 rfl rfl ?_, List.forall_mem_cons.2 ⟨fun _ => fact2 rfl rfl ?_, List.forall_mem_cons.2 ⟨fun _ => fact2 rfl rfl ?_, List.forall_mem_cons.2 ⟨fun _ => fact2 rfl rfl ?_, fun _ h => absurd h List.not_mem_nil⟩⟩⟩⟩⟩⟩⟩) <;> constructor <;> first | rfl | (simp [F]; done)), ?_⟩
  repeat (first | simp [F] | simp (disch := omega) only [wC, if_pos, if_neg])
  refine dc 9 rfl (c := longT hq1 hm (by simp [F])) (k := ?_)
  rintro _ _ ⟨rfl, rfl⟩
  refine ⟨by first | exact fun _ _ h => h | (refine later_list [14, 12, 11, 10, 1, 0] (by kernel_rfl) (List.forall_mem_cons.2 ⟨fun _ => fact2 rfl rfl ?_, List.forall_mem_cons.2 ⟨fun _ => fact2 rfl rfl ?_, List.forall_mem_cons.2 ⟨fun _ => fact2 rfl rfl ?_, List.forall_mem_cons.2 ⟨fun _ => fact2 rfl rfl ?_, List.forall_mem_cons.2 ⟨fun _ => fact2 rfl rfl ?_, List.forall_mem_cons.2 ⟨fun _ => fact2 rfl rfl ?_, fun _ h => absurd h List.not_mem_nil⟩⟩⟩⟩⟩⟩) <;> constructor <;> first | rfl | (simp [F]; done)), ?_⟩
  repeat (first | simp [F] | simp (disch := omega) only [wC, if_pos, if_neg])
  refine dc 13 rfl (c := numT (x := e.a) hq2 (by simp [F])) (k := ?_)
  rintro _ _ ⟨rfl, rfl⟩
  refine ⟨by first | exact fun _ _ h => h | (refine later_list [14, 11, 10, 1, 0] (by kernel_rfl) (List.forall_mem_cons.2 ⟨fun _ => fact2 rfl rfl ?_, List.forall_mem_cons.2 ⟨fun _ => fact2 rfl rfl ?_, List.forall_mem_cons.2 ⟨fun _ => fact2 rfl rfl ?_, List.forall_mem_cons.2 ⟨fun _ => fact2 rfl rfl ?_, List.forall_mem_cons.2 ⟨fun _ => fact2 rfl rfl ?_, fun _ h => absurd h List.not_mem_nil⟩⟩⟩⟩⟩) <;> constructor <;> first | rfl | (simp [F]; done)), ?_⟩
  repeat (first | simp [F] | simp (disch := omega) only [wC, if_pos, if_neg])
  refine dc 15 rfl (c := numT (x := e.w) hq3 (by simp [F])) (k := ?_)
  rintro _ _ ⟨rfl, rfl⟩
  refine ⟨by first | exact fun _ _ h => h | (refine later_list [11, 10, 1, 0] (by kernel_rfl) (List.forall_mem_cons.2 ⟨fun _ => fact2 rfl rfl ?_, List.forall_mem_cons.2 ⟨fun _ => fact2 rfl rfl ?_, List.forall_mem_cons.2 ⟨fun _ => fact2 rfl rfl ?_, List.forall_mem_cons.2 ⟨fun _ => fact2 rfl rfl ?_, fun _ h => absurd h List.not_mem_nil⟩⟩⟩⟩) <;> constructor <;> first | rfl | (simp [F]; done)), ?_⟩
  (repeat (first | simp [F] | simp (disch := omega) only [wC, if_pos, if_neg])); refine rp2 16 (k := ?_); refine dop 17 rfl ?_; (repeat (first | simp [F] | simp (disch := omega) only [wC, if_pos, if_neg])); refine ⟨ln, ?_⟩; refine dd ?_; refine hJ6 _ _ ?_; refine hK5 _ _ ?_; refine run_ret ?_; (try simp only [Then, InBlock, NoGoto]); refine acell (h := ?_); exact gcr

set_option maxHeartbeats 1600000 in
attribute [local simp] undefA List.getElem?_cons_zero List.getElem?_cons_succ drop_mr byC lsA_nil lsT_nil lsZ_nil lsL_nil gcO_ls noObj_ls ensC_noObj itsC_noObj bytes_noObj in
theorem eachE_ok {σ : St} {o k n : Nat} {G : Sg} {E : List En} (h : HasS σ o k G) (hG : G.s.Ok n) (hn : n ≤ 900000) (hE : allL G.s.l 101 = E.map itE) (hok : ∀ e ∈ E, e.Ok) :
    CallsA Try.prog 94 [.ptr o 0, .v (.int .u8 101), .fn 95 []] σ (fun av σ' => av = .sl 13 (ensC E) E.length .shut ∧ σ = σ') := by
  refine callsA_gcS ?_ (by simp [AV.under, ensC_under])
  have hal : CallsA Try.prog 46 [.ptr o 0, .v (.int .u8 101)] σ _ := all_ok (kind := 101) h hG hn
  have hEl : E.length ≤ 900000 := by
    have h1 : (allL G.s.l 101).length = E.length := by rw [hE, List.length_map]
    rw [← h1, allL, List.length_map, keysL_filter hG.srt, List.length_map]; have := List.length_filter_le (fun y : Pr => preB y.k [119, 101]) G.s.l; have := hG.l; omega
  rw [hE] at hal
  obtain ⟨I, hI⟩ : ∃ I, I = E.map itE := ⟨_, rfl⟩
  have hIl : I.length = E.length := by rw [hI, List.length_map]
  rw [← hI] at hal
  have hic := itsC_len I
  rw [hIl] at hic hal
  have hap : ∀ (O : List En) (x : En) objs, O.length ≤ 1000000 → appendA Try.prog 86 (lsA σ.toks.length 13 (ensC O) O.length) (.sl 13 (enC x) 1 .full) ⟨objs, σ.toks ++ lsT O.length, σ.gl, σ.rows⟩ = some (lsA σ.toks.length 13 (ensC (O ++ [x])) (O.length + 1), ⟨objs, σ.toks ++ lsT (O.length + 1), σ.gl, σ.rows⟩) := fun O x objs hO => by
    rw [ensC_app, show ensC [x] = enC x by simp [ensC]]
    exact append_ls elemT_86 ti_81 (by decide) rfl (fun h => by rw [List.eq_nil_of_length_eq_zero h]; rfl) rfl (by omega) (by simp only [roomA]; omega) (by simp only [maxLen]; omega)
  have F := And.intro hic (And.intro hIl (True.intro))
  refine callsA_body Try.func94 rfl rfl rfl ?_; refine sr fun _ hJ2 => ?_; refine hJ2 _ _ ?_; refine sr fun _ hJ4 => ?_; refine hJ4 _ _ ?_; refine sq fun K5 hK5 => ?_; refine sr fun _ hJ7 => ?_; refine ca (c := hal) (k := ?_); rintro _ _ ⟨rfl, rfl⟩; (repeat (first | simp [F] | simp (disch := omega) only [wC, if_pos, if_neg])); refine hJ7 _ _ ?_; refine run_block_k ?_; refine run_loopG (X := Nat) [2, 6, 12, 13] (fun j ρ σ1 => (j ≤ E.length) ∧ (ρ 14 = .v (.int .i64 j)) ∧ (ρ 7 = lsA σ.toks.length 13 (ensC (E.take j)) j) ∧ (σ1 = { σ with toks := σ.toks ++ lsT j })) (fun j => E.length - j) (0) ?st1 ?rd1
  case st1 =>
   refine ⟨lp, lp, lp, ?_⟩
   · simp [lsT_nil]
  case rd1 =>
   rintro j ρ1 σ1 hF1 ⟨h1, h16, h7, hσ⟩; obtain rfl := hσ.symm
   have f1 := keepL hF1
   (try simp [KeepL, F] at f1); replace F := aF h16 F; replace F := aF h7 F; (try replace F := aF f1 F); refine sr fun _ hJ9 => ?_; refine hJ9 _ _ ?_; refine sq fun K10 hK10 => ?_; refine cs (fun c15 => ?_) (fun c15 => ?_)
   · (try exact nope c15); all_goals have c15p := c15; try simp [F] at c15p
     all_goals
      replace F := aF c15 F; try replace F := aF c15p F
      have hlt : j < E.length := by have h := c15; simp at h; omega
      obtain ⟨R, hR⟩ := itsC_at (l := I) (i := j) (by omega)
      obtain ⟨e, he⟩ : ∃ e, e = E[j] := ⟨_, rfl⟩
      have hIe : I[j]'(by omega) = itE e := by simp only [hI, List.getElem_map, he]
      rw [hIe] at hR
      have heo := hok e (by rw [he]; exact List.getElem_mem _)
      have htk := fun τ => takeE_ok (σ := τ) heo
      obtain ⟨P, hP⟩ : ∃ P, P = encE e := ⟨_, rfl⟩
      simp only [itC, itE, byC, ← hP] at htk hR
      have hR3 : List.take 3 (List.drop (j * 3) (itsC I)) = [.v (.int .u64 e.d), .v (.int .u64 e.n), .sl 1 (bytesA P) P.length .shut] := by rw [hR]; rfl
      have b3 : j * 3 + 3 ≤ E.length * 3 := by omega
      have hj1 : j + 1 ≤ E.length := hlt
      have hTj : (E.take j).length = j := by rw [List.length_take]; omega
      have hta : E.take j ++ [e] = E.take (j + 1) := by rw [he]; exact List.take_append_getElem hlt
      have hap0 := fun objs => hap (E.take j) e objs (by omega)
      simp only [hta, hTj] at hap0
      have hec : (enC e).length = 13 := rfl
      have hcl : (∀ x, x ∈ enC e → x.isCell = true) = True := eq_true (fun x hx => by simp only [enC, List.mem_cons, List.not_mem_nil, or_false] at hx; rcases hx with rfl | rfl | rfl | rfl | rfl | rfl | rfl | rfl | rfl | rfl | rfl | rfl | rfl <;> rfl)
      obtain ⟨Q, hQ⟩ : ∃ Q, Q = enC e := ⟨_, rfl⟩
      rw [← hQ] at hec hcl
      simp only [← hQ] at htk hap0
      simp only [AV.isCell] at hcl
      replace F := aF hlt (And.intro hR3 (And.intro b3 (And.intro hj1 (And.intro hec (And.intro hcl (And.intro hap0 F)))))); refine run_skip ?_; refine hK10 _ _ ?_; refine sq fun K11 hK11 => ?_; refine run_block_k ?_; refine sr fun _ hJ13 => ?_; refine hJ13 _ _ ?_; refine rg' (h := fun J14 hJ14 => ?_); refine ca (c := htk _) (k := ?_); rintro _ _ ⟨rfl, rfl⟩; (repeat (first | simp [F] | simp (disch := omega) only [wC, if_pos, if_neg])); refine hJ14 _ _ ?_; refine hK11 _ _ ?_; refine rg' (h := fun J15 hJ15 => ?_); refine hJ15 _ _ ?_; refine ⟨gk, (j + 1), ⟨kpG, lpG, lpG, lpG, lpG⟩, lpG⟩
   (try exact nope c15); all_goals have c15p := c15; try simp [F] at c15p
   all_goals
    replace F := aF c15 F; try replace F := aF c15p F
    have hje : E.take j = E := List.take_of_length_le (by have h := c15; simp at h; omega)
    have hjl : j = E.length := by have h := c15; simp at h; omega
    have hwk := lsA_wk (k := σ.toks.length) (sz := 13) (n := j) (cs := ensC E) (fun h => by rw [List.eq_nil_of_length_eq_zero (l := E) (by omega)]; rfl)
    refine run_exit ?_; refine hK5 _ _ ?_; refine sr fun _ hJ17 => ?_; refine hJ17 _ _ ?_; refine ra ?_
    rw [hje] at h7
    rw [← hjl]
    exact gcr (hA := by simp only [putA_get]; simp [F]; rw [hje]; exact hwk)

set_option maxHeartbeats 1600000 in
attribute [local simp] undefA List.getElem?_cons_zero List.getElem?_cons_succ ensC_noObj in
theorem countE_ok {σ : St} {E : List En} {f : FuncId} {caps : List AV} {p : En → Bool} {tl : Tail} (hl : E.length ≤ 1000000) (hcb : callable Try.prog f = true) (hno : noObjL σ.objs.length caps = true)
    (hf : ∀ (l : List (List AV)) (x : En), CallsA Try.prog f (.agg (enC x) :: caps) { σ with objs := σ.objs ++ l } (fun av σ' => av = .v (.bool (p x)) ∧ { σ with objs := σ.objs ++ l } = σ')) :
    CallsA Try.prog 102 [.sl 13 (ensC E) E.length tl, .fn f caps] σ (fun av σ' => av = .v (.int .i64 ((E.filter p).length : Nat)) ∧ σ = σ') := by
  refine callsA_gcS ?_ rfl
  have hec := ensC_len E
  have F := And.intro hec (And.intro hno (True.intro))
  refine callsA_body Try.func102 rfl rfl rfl ?_; refine sr fun _ hJ2 => ?_; refine hJ2 _ _ ?_; refine sr fun _ hJ4 => ?_; refine hJ4 _ _ ?_; refine sq fun K5 hK5 => ?_; refine sr fun _ hJ7 => ?_; refine hJ7 _ _ ?_; refine run_block_k ?_; refine run_loopG (X := Nat) [1, 4, 8, 9] (fun j ρ σ1 => (j ≤ E.length) ∧ (ρ 10 = .v (.int .i64 j)) ∧ (ρ 5 = .v (.int .i64 (((E.take j).filter p).length : Nat))) ∧ (σ1 = σ)) (fun j => E.length - j) (0) ?st1 ?rd1
  case st1 =>
   refine ⟨lp, lp, lp, lp⟩
  case rd1 =>
   rintro j ρ1 σ1 hF1 ⟨h1, h16, h7, hσ⟩; obtain rfl := hσ.symm
   have f1 := keepL hF1
   (try simp [KeepL, F] at f1); replace F := aF h16 F; replace F := aF h7 F; (try replace F := aF f1 F); refine sr fun _ hJ9 => ?_; refine hJ9 _ _ ?_; refine sq fun K10 hK10 => ?_; refine cs (fun c11 => ?_) (fun c11 => ?_)
   · (try exact nope c11); all_goals have c11p := c11; try simp [F] at c11p
     all_goals
      replace F := aF c11 F; try replace F := aF c11p F
      have hlt : j < E.length := by have h := c11; simp at h; omega
      obtain ⟨R, hR⟩ := ensC_at (l := E) (i := j) hlt
      obtain ⟨e, he⟩ : ∃ e, e = E[j] := ⟨_, rfl⟩
      rw [← he] at hR
      have b3 : j * 13 + 13 ≤ E.length * 13 := by omega
      have hj1 : j + 1 ≤ E.length := hlt
      have hR3 : List.take 13 (List.drop (j * 13) (ensC E)) = enC e := by rw [hR]; rfl
      have hfl : ((E.take j).filter p).length ≤ j := Nat.le_trans (List.length_filter_le _ _) (by rw [List.length_take]; omega)
      have hta : ((E.take (j + 1)).filter p).length = ((E.take j).filter p).length + if p e then 1 else 0 := by rw [← List.take_append_getElem hlt, List.filter_append, List.length_append, ← he, List.filter_cons]; split <;> simp
      obtain ⟨m, hm⟩ : ∃ m, m = ((E.take j).filter p).length := ⟨_, rfl⟩
      rw [← hm] at hfl hta h7
      have hw1 : IntKind.i64.wrap ((m : Int) + 1) = ((m + 1 : Nat) : Int) := by rw [wrap_i64 _ (by omega) (by omega)]; omega
      have hcl : (∀ x, x ∈ enC e → x.isCell = true) = True := eq_true (fun x hx => by simp only [enC, List.mem_cons, List.not_mem_nil, or_false] at hx; rcases hx with rfl | rfl | rfl | rfl | rfl | rfl | rfl | rfl | rfl | rfl | rfl | rfl | rfl <;> rfl)
      have hec1 : (enC e).length = 13 := rfl
      have hff := fun l => hf l e
      have hQt : List.take 13 (enC e) = enC e := rfl
      obtain ⟨Q, hQ⟩ : ∃ Q, Q = enC e := ⟨_, rfl⟩
      rw [← hQ] at hec1 hcl hR3 hQt
      simp only [← hQ] at hff
      simp only [AV.isCell] at hcl
      replace F := aF hlt (And.intro hR3 (And.intro b3 (And.intro hj1 (And.intro hcl (And.intro hec1 (And.intro hQt (And.intro hw1 (And.intro h7 F)))))))); refine run_skip ?_; refine hK10 _ _ ?_; refine sq fun K11 hK11 => ?_; refine run_block_k ?_; refine sr fun _ hJ13 => ?_; refine hJ13 _ _ ?_; refine sr fun _ hJ15 => ?_; refine ca (c := hff _) (k := ?_); rintro _ _ ⟨rfl, rfl⟩; (repeat (first | simp [F] | simp (disch := omega) only [wC, if_pos, if_neg])); refine hJ15 _ _ ?_; refine cs (fun c16 => ?_) (fun c16 => ?_)
      · (try exact nope c16); all_goals have c16p := c16; try simp [F] at c16p
        all_goals
         replace F := aF c16 F; (try replace F := aF c16p F); refine rg' (h := fun J16 hJ16 => ?_); refine hJ16 _ _ ?_; refine hK11 _ _ ?_; refine rg' (h := fun J17 hJ17 => ?_); refine hJ17 _ _ ?_; refine ⟨gk, (j + 1), ⟨kpG, lpG, lpG, ?_, lpG⟩, lpG⟩
         · have hp : p e = true := (by simpa using c16)
           rw [hta, hp]
           simp [F, AV.gcO]
      (try exact nope c16); all_goals have c16p := c16; try simp [F] at c16p
      all_goals
       replace F := aF c16 F; (try replace F := aF c16p F); refine run_skip ?_; refine hK11 _ _ ?_; refine rg' (h := fun J18 hJ18 => ?_); refine hJ18 _ _ ?_; refine ⟨gk, (j + 1), ⟨kpG, lpG, lpG, ?_, lpG⟩, lpG⟩
       · have hp : p e = false := (by simpa using c16)
         rw [hta, hp]
         simp [F, AV.gcO]
   (try exact nope c11); all_goals have c11p := c11; try simp [F] at c11p
   all_goals
    replace F := aF c11 F; try replace F := aF c11p F
    have hje : E.take j = E := List.take_of_length_le (by have h := c11; simp at h; omega)
    refine run_exit ?_; refine hK5 _ _ ?_; refine sr fun _ hJ20 => ?_; refine hJ20 _ _ ?_; refine ra ?_
    rw [hje] at h7
    exact gcr

set_option maxHeartbeats 1600000 in
attribute [local simp] undefA List.getElem?_cons_zero List.getElem?_cons_succ drop_mr byC lsA_nil lsT_nil lsZ_nil lsL_nil gcO_ls noObj_ls hpsC_noObj itsC_noObj bytes_noObj in
theorem eachH_ok {σ : St} {o k n : Nat} {G : Sg} {E : List Hp} (h : HasS σ o k G) (hG : G.s.Ok n) (hn : n ≤ 900000) (hE : allL G.s.l 104 = E.map itH) (hok : ∀ e ∈ E, e.Ok) :
    CallsA Try.prog 96 [.ptr o 0, .v (.int .u8 104), .fn 97 []] σ (fun av σ' => av = .sl 14 (hpsC E) E.length .shut ∧ σ = σ') := by
  refine callsA_gcS ?_ (by simp [AV.under, hpsC_under])
  have hal : CallsA Try.prog 46 [.ptr o 0, .v (.int .u8 104)] σ _ := all_ok (kind := 104) h hG hn
  have hEl : E.length ≤ 900000 := by
    have h1 : (allL G.s.l 104).length = E.length := by rw [hE, List.length_map]
    rw [← h1, allL, List.length_map, keysL_filter hG.srt, List.length_map]; have := List.length_filter_le (fun y : Pr => preB y.k [119, 104]) G.s.l; have := hG.l; omega
  rw [hE] at hal
  obtain ⟨I, hI⟩ : ∃ I, I = E.map itH := ⟨_, rfl⟩
  have hIl : I.length = E.length := by rw [hI, List.length_map]
  rw [← hI] at hal
  have hic := itsC_len I
  rw [hIl] at hic hal
  have hap : ∀ (O : List Hp) (x : Hp) objs, O.length ≤ 1000000 → appendA Try.prog 88 (lsA σ.toks.length 14 (hpsC O) O.length) (.sl 14 (hpC x) 1 .full) ⟨objs, σ.toks ++ lsT O.length, σ.gl, σ.rows⟩ = some (lsA σ.toks.length 14 (hpsC (O ++ [x])) (O.length + 1), ⟨objs, σ.toks ++ lsT (O.length + 1), σ.gl, σ.rows⟩) := fun O x objs hO => by
    rw [hpsC_app, show hpsC [x] = hpC x by simp [hpsC]]
    exact append_ls elemT_88 ti_83 (by decide) rfl (fun h => by rw [List.eq_nil_of_length_eq_zero h]; rfl) rfl (by omega) (by simp only [roomA]; omega) (by simp only [maxLen]; omega)
  have F := And.intro hic (And.intro hIl (True.intro))
  refine callsA_body Try.func96 rfl rfl rfl ?_; refine sr fun _ hJ2 => ?_; refine hJ2 _ _ ?_; refine sr fun _ hJ4 => ?_; refine hJ4 _ _ ?_; refine sq fun K5 hK5 => ?_; refine sr fun _ hJ7 => ?_; refine ca (c := hal) (k := ?_); rintro _ _ ⟨rfl, rfl⟩; (repeat (first | simp [F] | simp (disch := omega) only [wC, if_pos, if_neg])); refine hJ7 _ _ ?_; refine run_block_k ?_; refine run_loopG (X := Nat) [2, 6, 12, 13] (fun j ρ σ1 => (j ≤ E.length) ∧ (ρ 14 = .v (.int .i64 j)) ∧ (ρ 7 = lsA σ.toks.length 14 (hpsC (E.take j)) j) ∧ (σ1 = { σ with toks := σ.toks ++ lsT j })) (fun j => E.length - j) (0) ?st1 ?rd1
  case st1 =>
   refine ⟨lp, lp, lp, ?_⟩
   · simp [lsT_nil]
  case rd1 =>
   rintro j ρ1 σ1 hF1 ⟨h1, h16, h7, hσ⟩; obtain rfl := hσ.symm
   have f1 := keepL hF1
   (try simp [KeepL, F] at f1); replace F := aF h16 F; replace F := aF h7 F; (try replace F := aF f1 F); refine sr fun _ hJ9 => ?_; refine hJ9 _ _ ?_; refine sq fun K10 hK10 => ?_; refine cs (fun c15 => ?_) (fun c15 => ?_)
   · (try exact nope c15); all_goals have c15p := c15; try simp [F] at c15p
     all_goals
      replace F := aF c15 F; try replace F := aF c15p F
      have hlt : j < E.length := by have h := c15; simp at h; omega
      obtain ⟨R, hR⟩ := itsC_at (l := I) (i := j) (by omega)
      obtain ⟨e, he⟩ : ∃ e, e = E[j] := ⟨_, rfl⟩
      have hIe : I[j]'(by omega) = itH e := by simp only [hI, List.getElem_map, he]
      rw [hIe] at hR
      have heo := hok e (by rw [he]; exact List.getElem_mem _)
      have htk := fun τ => takeH_ok (σ := τ) heo
      obtain ⟨P, hP⟩ : ∃ P, P = encH e := ⟨_, rfl⟩
      simp only [itC, itH, byC, ← hP] at htk hR
      have hR3 : List.take 3 (List.drop (j * 3) (itsC I)) = [.v (.int .u64 e.d), .v (.int .u64 e.n), .sl 1 (bytesA P) P.length .shut] := by rw [hR]; rfl
      have b3 : j * 3 + 3 ≤ E.length * 3 := by omega
      have hj1 : j + 1 ≤ E.length := hlt
      have hTj : (E.take j).length = j := by rw [List.length_take]; omega
      have hta : E.take j ++ [e] = E.take (j + 1) := by rw [he]; exact List.take_append_getElem hlt
      have hap0 := fun objs => hap (E.take j) e objs (by omega)
      simp only [hta, hTj] at hap0
      have hec : (hpC e).length = 14 := rfl
      have hcl : (∀ x, x ∈ hpC e → x.isCell = true) = True := eq_true (fun x hx => by simp only [hpC, List.mem_cons, List.not_mem_nil, or_false] at hx; rcases hx with rfl | rfl | rfl | rfl | rfl | rfl | rfl | rfl | rfl | rfl | rfl | rfl | rfl | rfl <;> rfl)
      obtain ⟨Q, hQ⟩ : ∃ Q, Q = hpC e := ⟨_, rfl⟩
      rw [← hQ] at hec hcl
      simp only [← hQ] at htk hap0
      simp only [AV.isCell] at hcl
      replace F := aF hlt (And.intro hR3 (And.intro b3 (And.intro hj1 (And.intro hec (And.intro hcl (And.intro hap0 F)))))); refine run_skip ?_; refine hK10 _ _ ?_; refine sq fun K11 hK11 => ?_; refine run_block_k ?_; refine sr fun _ hJ13 => ?_; refine hJ13 _ _ ?_; refine rg' (h := fun J14 hJ14 => ?_); refine ca (c := htk _) (k := ?_); rintro _ _ ⟨rfl, rfl⟩; (repeat (first | simp [F] | simp (disch := omega) only [wC, if_pos, if_neg])); refine hJ14 _ _ ?_; refine hK11 _ _ ?_; refine rg' (h := fun J15 hJ15 => ?_); refine hJ15 _ _ ?_; refine ⟨gk, (j + 1), ⟨kpG, lpG, lpG, lpG, lpG⟩, lpG⟩
   (try exact nope c15); all_goals have c15p := c15; try simp [F] at c15p
   all_goals
    replace F := aF c15 F; try replace F := aF c15p F
    have hje : E.take j = E := List.take_of_length_le (by have h := c15; simp at h; omega)
    have hjl : j = E.length := by have h := c15; simp at h; omega
    have hwk := lsA_wk (k := σ.toks.length) (sz := 14) (n := j) (cs := hpsC E) (fun h => by rw [List.eq_nil_of_length_eq_zero (l := E) (by omega)]; rfl)
    refine run_exit ?_; refine hK5 _ _ ?_; refine sr fun _ hJ17 => ?_; refine hJ17 _ _ ?_; refine ra ?_
    rw [hje] at h7
    rw [← hjl]
    exact gcr (hA := by simp only [putA_get]; simp [F]; rw [hje]; exact hwk)

set_option maxHeartbeats 1600000 in
attribute [local simp] undefA List.getElem?_cons_zero List.getElem?_cons_succ hpsC_noObj in
theorem countH_ok {σ : St} {E : List Hp} {f : FuncId} {caps : List AV} {p : Hp → Bool} {tl : Tail} (hl : E.length ≤ 1000000) (hcb : callable Try.prog f = true) (hno : noObjL σ.objs.length caps = true)
    (hf : ∀ (l : List (List AV)) (x : Hp), CallsA Try.prog f (.agg (hpC x) :: caps) { σ with objs := σ.objs ++ l } (fun av σ' => av = .v (.bool (p x)) ∧ { σ with objs := σ.objs ++ l } = σ')) :
    CallsA Try.prog 104 [.sl 14 (hpsC E) E.length tl, .fn f caps] σ (fun av σ' => av = .v (.int .i64 ((E.filter p).length : Nat)) ∧ σ = σ') := by
  refine callsA_gcS ?_ rfl
  have hec := hpsC_len E
  have F := And.intro hec (And.intro hno (True.intro))
  refine callsA_body Try.func104 rfl rfl rfl ?_; refine sr fun _ hJ2 => ?_; refine hJ2 _ _ ?_; refine sr fun _ hJ4 => ?_; refine hJ4 _ _ ?_; refine sq fun K5 hK5 => ?_; refine sr fun _ hJ7 => ?_; refine hJ7 _ _ ?_; refine run_block_k ?_; refine run_loopG (X := Nat) [1, 4, 8, 9] (fun j ρ σ1 => (j ≤ E.length) ∧ (ρ 10 = .v (.int .i64 j)) ∧ (ρ 5 = .v (.int .i64 (((E.take j).filter p).length : Nat))) ∧ (σ1 = σ)) (fun j => E.length - j) (0) ?st1 ?rd1
  case st1 =>
   refine ⟨lp, lp, lp, lp⟩
  case rd1 =>
   rintro j ρ1 σ1 hF1 ⟨h1, h16, h7, hσ⟩; obtain rfl := hσ.symm
   have f1 := keepL hF1
   (try simp [KeepL, F] at f1); replace F := aF h16 F; replace F := aF h7 F; (try replace F := aF f1 F); refine sr fun _ hJ9 => ?_; refine hJ9 _ _ ?_; refine sq fun K10 hK10 => ?_; refine cs (fun c11 => ?_) (fun c11 => ?_)
   · (try exact nope c11); all_goals have c11p := c11; try simp [F] at c11p
     all_goals
      replace F := aF c11 F; try replace F := aF c11p F
      have hlt : j < E.length := by have h := c11; simp at h; omega
      obtain ⟨R, hR⟩ := hpsC_at (l := E) (i := j) hlt
      obtain ⟨e, he⟩ : ∃ e, e = E[j] := ⟨_, rfl⟩
      rw [← he] at hR
      have b3 : j * 14 + 14 ≤ E.length * 14 := by omega
      have hj1 : j + 1 ≤ E.length := hlt
      have hR3 : List.take 14 (List.drop (j * 14) (hpsC E)) = hpC e := by rw [hR]; rfl
      have hfl : ((E.take j).filter p).length ≤ j := Nat.le_trans (List.length_filter_le _ _) (by rw [List.length_take]; omega)
      have hta : ((E.take (j + 1)).filter p).length = ((E.take j).filter p).length + if p e then 1 else 0 := by rw [← List.take_append_getElem hlt, List.filter_append, List.length_append, ← he, List.filter_cons]; split <;> simp
      obtain ⟨m, hm⟩ : ∃ m, m = ((E.take j).filter p).length := ⟨_, rfl⟩
      rw [← hm] at hfl hta h7
      have hw1 : IntKind.i64.wrap ((m : Int) + 1) = ((m + 1 : Nat) : Int) := by rw [wrap_i64 _ (by omega) (by omega)]; omega
      have hcl : (∀ x, x ∈ hpC e → x.isCell = true) = True := eq_true (fun x hx => by simp only [hpC, List.mem_cons, List.not_mem_nil, or_false] at hx; rcases hx with rfl | rfl | rfl | rfl | rfl | rfl | rfl | rfl | rfl | rfl | rfl | rfl | rfl | rfl <;> rfl)
      have hec1 : (hpC e).length = 14 := rfl
      have hff := fun l => hf l e
      have hQt : List.take 14 (hpC e) = hpC e := rfl
      obtain ⟨Q, hQ⟩ : ∃ Q, Q = hpC e := ⟨_, rfl⟩
      rw [← hQ] at hec1 hcl hR3 hQt
      simp only [← hQ] at hff
      simp only [AV.isCell] at hcl
      replace F := aF hlt (And.intro hR3 (And.intro b3 (And.intro hj1 (And.intro hcl (And.intro hec1 (And.intro hQt (And.intro hw1 (And.intro h7 F)))))))); refine run_skip ?_; refine hK10 _ _ ?_; refine sq fun K11 hK11 => ?_; refine run_block_k ?_; refine sr fun _ hJ13 => ?_; refine hJ13 _ _ ?_; refine sr fun _ hJ15 => ?_; refine ca (c := hff _) (k := ?_); rintro _ _ ⟨rfl, rfl⟩; (repeat (first | simp [F] | simp (disch := omega) only [wC, if_pos, if_neg])); refine hJ15 _ _ ?_; refine cs (fun c16 => ?_) (fun c16 => ?_)
      · (try exact nope c16); all_goals have c16p := c16; try simp [F] at c16p
        all_goals
         replace F := aF c16 F; (try replace F := aF c16p F); refine rg' (h := fun J16 hJ16 => ?_); refine hJ16 _ _ ?_; refine hK11 _ _ ?_; refine rg' (h := fun J17 hJ17 => ?_); refine hJ17 _ _ ?_; refine ⟨gk, (j + 1), ⟨kpG, lpG, lpG, ?_, lpG⟩, lpG⟩
         · have hp : p e = true := (by simpa using c16)
           rw [hta, hp]
           simp [F, AV.gcO]
      (try exact nope c16); all_goals have c16p := c16; try simp [F] at c16p
      all_goals
       replace F := aF c16 F; (try replace F := aF c16p F); refine run_skip ?_; refine hK11 _ _ ?_; refine rg' (h := fun J18 hJ18 => ?_); refine hJ18 _ _ ?_; refine ⟨gk, (j + 1), ⟨kpG, lpG, lpG, ?_, lpG⟩, lpG⟩
       · have hp : p e = false := (by simpa using c16)
         rw [hta, hp]
         simp [F, AV.gcO]
   (try exact nope c11); all_goals have c11p := c11; try simp [F] at c11p
   all_goals
    replace F := aF c11 F; try replace F := aF c11p F
    have hje : E.take j = E := List.take_of_length_le (by have h := c11; simp at h; omega)
    refine run_exit ?_; refine hK5 _ _ ?_; refine sr fun _ hJ20 => ?_; refine hJ20 _ _ ?_; refine ra ?_
    rw [hje] at h7
    exact gcr
end Go.Proofs.Ytlkajgjaidedkaa
