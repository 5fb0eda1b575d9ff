import Derived.Test.YtlkajgjaidedkaaZ7
import Derived.Test.YtlkajgjaidedkaaZ10
import Derived.Test.YtlkajgjaidedkaaZ13
/-
  Bytes: alike, compared, begun with.
-/
namespace Go.Proofs.Ytlkajgjaidedkaa
set_option linter.unnecessarySimpa false
set_option maxRecDepth 100000
open Go Go.Vm
set_option linter.unusedSimpArgs false
set_option linter.unusedVariables false
attribute [local simp] evalL wantedA isCall opA evalA evalAll evalsA evalOpt ofValue ofCell plain binA_eql_pn binA_neq_pn binA_gtr binA_lss binA_geq binA_leq binA_add binA_sub binA_eql binA_neq binA_orI binA_shl binA_shr binA_mul binA_quo binA_rem binA_agg_eql binA_agg_neq convA_int unA_not fieldAddrA loadA partA pickA_true pickA_false pickA_bb lenA builtinA storeA splice AV.cells AV.isCell sliceA boundA intA callOf indexAddrA newObjA buildA fillA zeroA ofCells buildSliceA indexA fieldA set_appN get_appN take_appN List.getElem?_cons_zero List.getElem?_cons_succ

theorem convA_bytes {P : Program} {s d : TypeId} {p : List UInt8} {n : Nat} {t : Tail} : convA P s d (.sl 1 (bytesA p) n t) = (match elemT P s, isStrT P d with
    | some e, true => if isU8 P e then some (.v (.string ⟨p.toArray⟩)) else none
    | _, _ => none) := by
  simp only [convA, bytesOf_bytes]
  cases elemT P s with
  | none => rfl
  | some e => cases isStrT P d <;> simp

set_option maxHeartbeats 1600000 in
attribute [local simp] undefA List.getElem?_cons_zero List.getElem?_cons_succ convA_bytes binA_eql_str ba_toList in
theorem equal_ok {σ : St} {p q : List UInt8} {m n : Nat} {t1 t2 : Tail} : CallsA Try.prog 81 [.sl 1 (bytesA p) m t1, .sl 1 (bytesA q) n t2] σ (fun av σ' => av = .v (.bool (decide (p = q))) ∧ σ = σ') := by
  have he : (p == q) = decide (p = q) := by rw [Bool.eq_iff_iff]; simp
  have F := And.intro he (True.intro)
  refine callsA_body Try.func81 rfl rfl rfl ?_; refine sr fun _ hJ2 => ?_; refine hJ2 _ _ ?_; refine sr fun _ hJ4 => ?_; refine hJ4 _ _ ?_; refine ra ?_; exact rt

set_option maxHeartbeats 1600000 in
attribute [local simp] undefA List.getElem?_cons_zero List.getElem?_cons_succ in
theorem compare_ok {σ : St} {p q : List UInt8} {t1 t2 : Tail} : CallsA Try.prog 109 [.sl 1 (bytesA p) p.length t1, .sl 1 (bytesA q) q.length t2] σ (fun av σ' => av = .v (.int .i64 (cmpB p q)) ∧ σ = σ') := by
  have F := True.intro
  refine callsA_body Try.func109 rfl rfl rfl ?_; refine sr fun _ hJ2 => ?_; refine hJ2 _ _ ?_; refine sr fun _ hJ4 => ?_
  refine ce (c := compare_ext Try.func119 (by kernel_rfl) (by kernel_rfl) (by kernel_rfl) (by kernel_rfl)) (k := ?_)
  rintro _ _ rfl rfl; (repeat (first | simp [F] | simp (disch := omega) only [wC, if_pos, if_neg])); refine hJ4 _ _ ?_; refine ra ?_; exact rt

def preB (p q : List UInt8) : Bool := decide (q.length ≤ p.length) && decide (p.take q.length = q)

set_option maxHeartbeats 1600000 in
attribute [local simp] undefA List.getElem?_cons_zero List.getElem?_cons_succ preB in
theorem prefix_ok {σ : St} {p q : List UInt8} {t1 t2 : Tail} : CallsA Try.prog 78 [.sl 1 (bytesA p) p.length t1, .sl 1 (bytesA q) q.length t2] σ (fun av σ' => av = .v (.bool (preB p q)) ∧ σ = σ') := by
  have ht := bytesA_take p q.length
  have F := And.intro ht (True.intro)
  refine callsA_body Try.func78 rfl rfl rfl ?_; refine sr fun _ hJ2 => ?_; refine hJ2 _ _ ?_; refine sr fun _ hJ4 => ?_; refine gs 10 (fun g1_5 => ?_) (fun g1_5 => ?_)
  · (try exact nope g1_5); all_goals have g1_5p := g1_5; try simp [F] at g1_5p
    all_goals
     replace F := aF g1_5 F; (try replace F := aF g1_5p F); (iterate 5 refine go2 (k := ?_)); refine ca (c := equal_ok (p := p.take q.length) (q := q)) (k := ?_); rintro _ _ ⟨rfl, rfl⟩; (repeat (first | simp [F] | simp (disch := omega) only [wC, if_pos, if_neg])); refine hJ4 _ _ ?_; refine ra ?_; exact rt
  (try exact nope g1_5); all_goals have g1_5p := g1_5; try simp [F] at g1_5p
  all_goals
   replace F := aF g1_5 F; (try replace F := aF g1_5p F); (iterate 6 refine no2 (k := ?_)); refine hJ4 _ _ ?_; refine ra ?_; exact rt

set_option maxHeartbeats 1600000 in
attribute [local simp] undefA List.getElem?_cons_zero List.getElem?_cons_succ in
theorem search_ok {σ : St} {n fid : Nat} {caps : List AV} (pred : Nat → Bool) (hn : n ≤ 4000000000000000000) (hcb : callable Try.prog fid = true)
    (hf : ∀ i : Nat, i < n → CallsA Try.prog fid (.v (.int .i64 i) :: caps) σ (fun av σ' => av = .v (.bool (pred i)) ∧ σ = σ')) :
    CallsA Try.prog 107 [.v (.int .i64 n), .fn fid caps] σ (fun av σ' => (∃ r : Nat, av = .v (.int .i64 r) ∧ r ≤ n ∧ (0 < r → pred (r - 1) = false) ∧ (r < n → pred r = true)) ∧ σ = σ') := by
  have F := True.intro
  refine callsA_body Try.func107 rfl rfl rfl ?_; refine sr fun _ hJ2 => ?_; refine hJ2 _ _ ?_; refine sr fun _ hJ4 => ?_; refine hJ4 _ _ ?_; refine sq fun K5 hK5 => ?_; refine run_block_k ?_; refine run_loopF (X := Nat × Nat) [1, 4] (fun q ρ σ1 => (q.1 ≤ q.2) ∧ (q.2 ≤ n) ∧ (0 < q.1 → pred (q.1 - 1) = false) ∧ (q.2 < n → pred q.2 = true) ∧ (ρ 5 = .v (.int .i64 q.1)) ∧ (ρ 6 = .v (.int .i64 q.2)) ∧ (σ1 = σ)) (fun q => q.2 - q.1) ((0, n)) ?st1 ?rd1
  case st1 =>
   refine ⟨lp, lp, ?_, ?_, lp, lp, lp⟩
   · intro h
     simp at h
   · intro h
     simp at h
  case rd1 =>
   rintro q ρ1 σ1 hF1 ⟨h1, h2, h3, h4, h5, h6, hσ⟩; obtain rfl := hσ.symm
   have f1 := keepL hF1
   (try simp [KeepL, F] at f1); replace F := aF h5 F; replace F := aF h6 F; (try replace F := aF f1 F); refine sq fun K6 hK6 => ?_; refine sr fun _ hJ8 => ?_; refine hJ8 _ _ ?_; refine cs (fun c11 => ?_) (fun c11 => ?_)
   · (try exact nope c11); all_goals have c11p := c11; try simp [F] at c11p
     all_goals
      replace F := aF c11 F; (try replace F := aF c11p F); refine run_skip ?_; refine hK6 _ _ ?_; refine run_block_k ?_; refine sq fun K9 hK9 => ?_
      have hlt : q.1 < q.2 := by simp at c11; omega
      obtain ⟨i, j⟩ := q
      simp only at *
      obtain ⟨h, hh⟩ : ∃ h, h = (i + j) / 2 := ⟨_, rfl⟩
      have hw1 : IntKind.i64.wrap ((i : Int) + (j : Int)) = ((i + j : Nat) : Int) := wrap_i64 _ (by omega) (by omega)
      have hw2 : IntKind.u64.wrap ((i : Int) + (j : Int)) = ((i + j : Nat) : Int) := by rw [show (i : Int) + (j : Int) = ((i + j : Nat) : Int) by simp, wrap_u64, Nat.mod_eq_of_lt (by omega)]
      have hw3 : IntKind.i64.wrap (((i : Int) + (j : Int)).fdiv 2) = (h : Int) := by rw [Int.fdiv_eq_ediv_of_nonneg _ (by omega), wrap_i64 _ (by omega) (by omega)]; omega
      have hhj : h < j := by omega
      have hih : i ≤ h := by omega
      have hw4 : IntKind.i64.wrap ((h : Int) + 1) = ((h + 1 : Nat) : Int) := wrap_i64 _ (by omega) (by omega)
      replace F := aF hw1 F; replace F := aF hw2 F; replace F := aF hw3 F; replace F := aF hw4 F; refine rg' (h := fun J10 hJ10 => ?_); refine hJ10 _ _ ?_; refine hK9 _ _ ?_; refine sr fun _ hJ12 => ?_
      refine ca (c := hf h (by omega)) (k := ?_)
      rintro _ _ ⟨rfl, rfl⟩; (repeat (first | simp [F] | simp (disch := omega) only [wC, if_pos, if_neg])); refine hJ12 _ _ ?_; refine cs (fun c21 => ?_) (fun c21 => ?_)
      · (try exact nope c21); all_goals have c21p := c21; try simp [F] at c21p
        all_goals
         replace F := aF c21 F; (try replace F := aF c21p F); refine rg' (h := fun J13 hJ13 => ?_); refine hJ13 _ _ ?_; refine ⟨((h + 1, j)), ⟨kp, lp, lp, ?_, lp, lp, lp, lp⟩, ?_⟩
         · intro _
           simp at c21
           simpa using c21
         · simp
           omega
      (try exact nope c21); all_goals have c21p := c21; try simp [F] at c21p
      all_goals
       replace F := aF c21 F; (try replace F := aF c21p F); refine rg' (h := fun J14 hJ14 => ?_); refine hJ14 _ _ ?_; refine ⟨((i, h)), ⟨kp, lp, lp, lp, ?_, lp, lp, lp⟩, ?_⟩
       · intro _
         simp at c21
         simpa using c21
       · simp
         omega
   (try exact nope c11); all_goals have c11p := c11; try simp [F] at c11p
   all_goals
    replace F := aF c11 F; (try replace F := aF c11p F); refine run_exit ?_; refine hK5 _ _ ?_; refine sr fun _ hJ16 => ?_; refine hJ16 _ _ ?_; refine ra ?_
    refine ⟨⟨q.1, ?_, by omega, h3, fun h => ?_⟩, rfl⟩
    · simp [F]
    · have : q.1 = q.2 := by simp at c11; omega
      rw [this] at h ⊢; exact h4 h

theorem cmpB_ge (a b : List UInt8) : decide (0 ≤ cmpB a b) = !ltB a b := by
  unfold cmpB
  split
  · rename_i e; subst e; simp [ltB_irr]
  · cases ltB a b <;> simp
theorem prsC_len (l : List Pr) : (prsC l).length = l.length * 2 := by
  induction l with
  | nil => rfl
  | cons p l ih => simp only [prsC, List.flatMap_cons, List.length_append, prC, List.length_cons, List.length_nil] at ih ⊢; omega
theorem prsC_at : ∀ {l : List Pr} {i : Nat} (h : i < l.length), (prsC l)[i * 2]? = some (byC l[i].k) ∧ (prsC l)[i * 2 + 1]? = some (byC l[i].v)
  | p :: l, 0, h => ⟨rfl, rfl⟩
  | p :: l, i + 1, h => by
    have := prsC_at (l := l) (i := i) (by simpa using h)
    have e1 : (i + 1) * 2 = i * 2 + 2 := by omega
    rw [e1]
    exact this

set_option maxHeartbeats 1600000 in
attribute [local simp] undefA List.getElem?_cons_zero List.getElem?_cons_succ in
theorem findF_ok {σ : St} {b1 b2 o k i : Nat} {G : Sg} {key : List UInt8} {t : Tail} (h1 : σ.objs[b1]? = some [.ptr o 0]) (h2 : σ.objs[b2]? = some [.sl 1 (bytesA key) key.length t]) (h : HasS σ o k G) (hi : i < G.s.l.length) :
    CallsA Try.prog 108 [.v (.int .i64 i), .ptr b1 0, .ptr b2 0] σ (fun av σ' => av = .v (.bool (!ltB (G.s.l[i]).k key)) ∧ σ = σ') := by
  obtain ⟨ho, hr1, hr2, hr3⟩ := h
  obtain ⟨⟨l, log, marks⟩, g1, g2, g3⟩ := G
  simp only [stC, stR1, stR2, stR3] at ho hr1 hr2 hr3 hi ⊢
  have hat := (prsC_at hi).1
  have hc := cmpB_ge l[i].k key
  have F := And.intro ho (And.intro hr1 (And.intro h1 (And.intro h2 (And.intro hi (And.intro hat (And.intro hc (True.intro)))))))
  refine callsA_body Try.func108 rfl rfl rfl ?_; refine sr fun _ hJ2 => ?_; refine hJ2 _ _ ?_; refine sq fun K3 hK3 => ?_
  refine run_draw (by kernel_rfl) fun J4 hJ4 => ?_
  refine rp2 0 (k := ?_); refine rp2 1 (k := ?_); refine rp2 2 (k := ?_); refine rp2 3 (k := ?_); refine rp2 4 (k := ?_); refine rp2 5 (k := ?_); refine rp2 6 (k := ?_); refine rp2 7 (k := ?_); refine rp2 8 (k := ?_); refine dc 9 rfl (c := compare_ok) (k := ?_); rintro _ _ ⟨rfl, rfl⟩
  refine ⟨by first | exact fun _ _ h => h | (refine later_list [6, 5, 4, 3, 2, 1, 0] (by kernel_rfl) (List.forall_mem_cons.2 ⟨fun _ => fact2 rfl rfl ?_, List.forall_mem_cons.2 ⟨fun _ => fact2 rfl rfl ?_, List.forall_mem_cons.2 ⟨fun _ => fact2 rfl rfl ?_, List.forall_mem_cons.2 ⟨fun _ => fact2 rfl rfl ?_, List.forall_mem_cons.2 ⟨fun _ => fact2 rfl rfl ?_, List.forall_mem_cons.2 ⟨fun _ => fact2 rfl rfl ?_, List.forall_mem_cons.2 ⟨fun _ => fact2 rfl rfl ?_, fun _ h => absurd h List.not_mem_nil⟩⟩⟩⟩⟩⟩⟩) <;> constructor <;> first | rfl | (simp [F]; done)), ?_⟩
  (repeat (first | simp [F] | simp (disch := omega) only [wC, if_pos, if_neg])); refine rp2 10 (k := ?_); refine rp2 11 (k := ?_); refine dd ?_; refine hJ4 _ _ ?_; refine hK3 _ _ ?_; refine ra ?_; exact rt

def predF (l : List Pr) (key : List UInt8) (i : Nat) : Bool := match l[i]? with
  | some p => !ltB p.k key
  | none => true
theorem predF_find {l : List Pr} {key : List UInt8} {r : Nat} (hs : Srt l) (hr : r ≤ l.length) (h1 : 0 < r → predF l key (r - 1) = false) (h2 : r < l.length → predF l key r = true) : r = findL l key :=
  findL_of hs hr (fun h => by
    have := h1 h
    unfold predF at this
    split at this
    · rename_i p hp; exact ⟨p, hp, by simpa using this⟩
    · cases this) (fun p hp => by
    have := h2 (List.getElem?_eq_some_iff.1 hp).1
    unfold predF at this
    rw [hp] at this
    simpa using this)
theorem hasL_at {l : List Pr} {key : List UInt8} (hs : Srt l) : hasL l key = match l[findL l key]? with | some p => decide (p.k = key) | none => false := by
  unfold hasL
  rw [findL_get hs]
  cases h : l[findL l key]? with
  | none => rfl
  | some p => simp only; split <;> simp_all

set_option maxHeartbeats 1600000 in
attribute [local simp] undefA List.getElem?_cons_zero List.getElem?_cons_succ byC in
theorem find_ok {σ : St} {o k : Nat} {G : Sg} {key : List UInt8} {t : Tail} (h : HasS σ o k G) (hs : Srt G.s.l) (hl : G.s.l.length ≤ 4000000000000000000) :
    CallsA Try.prog 76 [.ptr o 0, .sl 1 (bytesA key) key.length t] σ (fun av σ' => av = .tup [.v (.int .i64 (findL G.s.l key)), .v (.bool (hasL G.s.l key))] ∧ σ = σ') := by
  refine callsA_gcS ?_ rfl
  have hlt := lt_of_get h.o
  have h' : HasS { σ with objs := σ.objs ++ [[.ptr o 0], [.sl 1 (bytesA key) key.length t]] } o k G := ⟨by simp only; rw [List.getElem?_append_left hlt]; exact h.o, h.r1, h.r2, h.r3⟩
  have hse := search_ok (σ := { σ with objs := σ.objs ++ [[.ptr o 0], [.sl 1 (bytesA key) key.length t]] }) (caps := [.ptr σ.objs.length 0, .ptr (σ.objs.length + 1) 0]) (fid := 108) (predF G.s.l key) hl (by simp) (fun i hi => callsA_mono (findF_ok (key := key) (t := t) (by simp) (by simp) h' hi) (fun av σ' hq => by
    refine ⟨hq.1.trans ?_, hq.2⟩
    simp [predF, hi]))
  have hho := h'.o
  obtain ⟨ho, hr1, hr2, hr3⟩ := h
  have hha := hasL_at (key := key) hs
  have hat : ∀ i (hi : i < G.s.l.length), (prsC G.s.l)[i * 2]? = some (byC G.s.l[i].k) := fun i hi => (prsC_at hi).1
  obtain ⟨⟨l, log, marks⟩, g1, g2, g3⟩ := G
  simp only [stC, stR1, stR2, stR3] at ho hr1 hr2 hr3 hl hho hse hs hha hat ⊢
  have hfl := findL_le l key
  have F := And.intro hho (And.intro hr1 (True.intro))
  refine callsA_body Try.func76 rfl rfl rfl ?_; refine sr fun _ hJ2 => ?_; refine hJ2 _ _ ?_; refine sr fun _ hJ4 => ?_; refine ca (c := hse) (k := ?_); rintro _ _ ⟨⟨r, rfl, e1, e2, e3⟩, rfl⟩; obtain rfl := predF_find hs e1 e2 e3; (repeat (first | simp [F] | simp (disch := omega) only [wC, if_pos, if_neg])); refine hJ4 _ _ ?_; refine sq fun K5 hK5 => ?_
  refine run_draw (by kernel_rfl) fun J6 hJ6 => ?_
  refine rp2 0 (k := ?_); refine rp2 1 (k := ?_); refine rp2 2 (k := ?_); refine rp2 3 (k := ?_); refine rp2 4 (k := ?_); refine rp2 5 (k := ?_); refine rp2 6 (k := ?_); refine rp2 7 (k := ?_); refine rp2 8 (k := ?_); refine gd 22 (fun g2_8 => ?_) (fun g2_8 => ?_)
  · (try exact nope g2_8); all_goals have g2_8p := g2_8; try simp [F] at g2_8p
    all_goals
     replace F := aF g2_8 F; try replace F := aF g2_8p F
     have hi : findL l key < l.length := by simp at g2_8; omega
     have hat0 := hat _ hi
     replace F := aF hi (And.intro hat0 F)
     have hhb : hasL l key = decide (l[findL l key].k = key) := by rw [hha, List.getElem?_eq_getElem hi]
     replace F := aF hhb F; refine rp2 9 (k := ?_); refine rp2 10 (k := ?_); refine rp2 11 (k := ?_); refine rp2 12 (k := ?_); refine rp2 13 (k := ?_); refine rp2 14 (k := ?_); refine rp2 15 (k := ?_); refine rp2 16 (k := ?_); refine rp2 17 (k := ?_); refine dc 18 rfl (c := equal_ok) (k := ?_); rintro _ _ ⟨rfl, rfl⟩
     refine ⟨by first | exact fun _ _ h => h | (refine later_list [15, 14, 13, 12, 11, 10, 9, 7, 6, 5, 4, 3, 2, 1, 0] (by kernel_rfl) (List.forall_mem_cons.2 ⟨fun _ => fact2 rfl rfl ?_, List.forall_mem_cons.2 ⟨fun _ => fact2 rfl rfl ?_, List.forall_mem_cons.2 ⟨fun _ => fact2 rfl rfl ?_, List.forall_mem_cons.2 ⟨fun _ => fact2 rfl rfl ?_, List.forall_mem_cons.2 ⟨fun _ => fact2 rfl rfl ?_, List.forall_mem_cons.2 ⟨fun _ => fact2 rfl rfl ?_, List.forall_mem_cons.2 ⟨fun _ => fact2 rfl rfl ?_, List.forall_mem_cons.2 ⟨fun _ => fact2 rfl rfl ?_, List.forall_mem_cons.2 ⟨fun _ => fact2 rfl rfl ?_, List.forall_mem_cons.2 ⟨fun _ => fact2 rfl rfl ?_, List.forall_mem_cons.2 ⟨fun _ => fact2 rfl rfl ?_, List.forall_mem_cons.2 ⟨fun _ => fact2 rfl rfl ?_, List.forall_mem_cons.2 ⟨fun _ => fact2 rfl rfl ?_, List.forall_mem_cons.2 ⟨fun _ => fact2 rfl rfl ?_, List.forall_mem_cons.2 ⟨fun _ => fact2 rfl rfl ?_, fun _ h => absurd h List.not_mem_nil⟩⟩⟩⟩⟩⟩⟩⟩⟩⟩⟩⟩⟩⟩⟩) <;> constructor <;> first | rfl | (simp [F]; done)), ?_⟩
     (repeat (first | simp [F] | simp (disch := omega) only [wC, if_pos, if_neg])); refine rp2 19 (k := ?_); refine rp2 20 (k := ?_); refine rp2 21 (k := ?_); refine dd ?_; refine hJ6 _ _ ?_; refine hK5 _ _ ?_; refine run_ret ?_; (try simp only [Then, InBlock, NoGoto]); refine answer_tmp2 rfl (.inr rfl) ?_; exact gcr
  (try exact nope g2_8); all_goals have g2_8p := g2_8; try simp [F] at g2_8p
  all_goals
   replace F := aF g2_8 F; try replace F := aF g2_8p F
   have hhb : hasL l key = false := by rw [hha, List.getElem?_eq_none (by simp at g2_8; omega)]
   replace F := aF hhb F; refine rp2 9 (k := ?_); refine rp2 10 (k := ?_); refine rp2 11 (k := ?_); refine rp2 12 (k := ?_); refine rp2 13 (k := ?_); refine rp2 14 (k := ?_); refine rp2 15 (k := ?_); refine rp2 16 (k := ?_); refine rp2 17 (k := ?_); refine dop 18 rfl ?_; (repeat (first | simp [F] | simp (disch := omega) only [wC, if_pos, if_neg])); refine rp2 19 (k := ?_); refine rp2 20 (k := ?_); refine rp2 21 (k := ?_); refine dd ?_; refine hJ6 _ _ ?_; refine hK5 _ _ ?_; refine run_ret ?_; (try simp only [Then, InBlock, NoGoto]); refine answer_tmp2 rfl (.inr rfl) ?_; exact gcr
end Go.Proofs.Ytlkajgjaidedkaa

/-
  Pairs are taken out of a row, and laid into it.
-/
namespace Go.Proofs.Ytlkajgjaidedkaa
set_option linter.unnecessarySimpa false
set_option maxRecDepth 100000
open Go Go.Vm
set_option linter.unusedSimpArgs false
set_option linter.unusedVariables false
attribute [local simp] evalL wantedA isCall opA evalA evalAll evalsA evalOpt ofValue ofCell plain binA_eql_pn binA_neq_pn binA_gtr binA_lss binA_geq binA_leq binA_add binA_sub binA_eql binA_neq binA_orI binA_shl binA_shr binA_mul binA_quo binA_rem binA_agg_eql binA_agg_neq convA_int unA_not fieldAddrA loadA partA pickA_true pickA_false pickA_bb lenA builtinA storeA splice AV.cells AV.isCell sliceA boundA intA callOf indexAddrA newObjA buildA fillA zeroA ofCells buildSliceA indexA fieldA set_appN get_appN take_appN List.getElem?_cons_zero List.getElem?_cons_succ sliceRowA appendA rowAppA readA clearA zerosA zeroCell capA copyA appendZA roomA maxLen Value.oneCell' Value.cells

set_option maxHeartbeats 1600000 in
attribute [local simp] undefA List.getElem?_cons_zero List.getElem?_cons_succ in
theorem delete_ok {σ : St} {k g i m : Nat} {A X B : List AV} (hr : σ.rows[k]? = some ⟨g, A ++ (X ++ B), none⟩) (hA : A.length = i * 2) (hX : X.length = 2) (hB : B.length = m * 2) (hn : i + m ≤ 1000000000) (hu : underL σ.bd (A ++ B) = true) :
    CallsA Try.prog 110 [.row k g 0 2 (i + 1 + m), .v (.int .i64 i), .v (.int .i64 (i + 1 : Nat))] σ (fun av σ' => ∃ g', av = .row k g' 0 2 (i + m) ∧ σ' = { σ with rows := σ.rows.set k ⟨g', A ++ B, none⟩ }) := by
  refine callsA_row_end (Q := fun av σ' => ∃ g junk sp, av = .row k g 0 2 (i + m) ∧ σ' = { σ with rows := σ.rows.set k ⟨g, (A ++ B) ++ junk, sp⟩ }) ?_ hr (by simp [hA, hB]; omega) hu (fun av σ' h => ?_)
  · have hs := set_self_of hr
    have hT : List.take (i * 2) (A ++ (X ++ B)) = A := List.take_left' hA
    have hD : List.drop ((i + 1) * 2) (A ++ (X ++ B)) = B := by rw [← List.append_assoc]; exact List.drop_left' (by simp [hA, hX]; omega)
    have hT2 : List.take (m * 2) B = B := List.take_of_length_le (by omega)
    have hN1 : ((i : Int) + (m : Int)).toNat = i + m := by omega
    have hN2 : ((i : Int) + 1 + (m : Int)).toNat = i + 1 + m := by omega
    have hN3 : i + 1 + m - (i + m) = 1 := by omega
    have hN4 : (i + 1 + m) * 2 - (i * 2 + m * 2) = 2 := by omega
    have hN5 : i * 2 + m * 2 = (i + m) * 2 := by omega
    have hD2 : ∀ Z, List.drop ((i + m) * 2 + 2) (A ++ (B ++ Z)) = List.drop 2 Z := fun Z => by rw [← List.append_assoc, ← List.drop_drop, List.drop_left' (by simp [hA, hB]; omega)]
    have hT3 : ∀ Z, List.take ((i + m) * 2) (A ++ (B ++ Z)) = A ++ B := fun Z => by rw [← List.append_assoc]; exact List.take_left' (by simp [hA, hB]; omega)
    have F := And.intro hr (And.intro hA (And.intro hX (And.intro hB (And.intro hT (And.intro hD (And.intro hT2 (And.intro hN1 (And.intro hN2 (And.intro hN3 (And.intro hN4 (And.intro hD2 (And.intro hT3 (True.intro)))))))))))))
    refine callsA_body Try.func110 rfl rfl rfl ?_; refine sr fun _ hJ2 => ?_; refine hJ2 _ _ ?_; refine sq fun K3 hK3 => ?_; refine run_learnD 0 (kk := fun s q hsq hnq => ?_); replace F := aF hs F; refine rg' (h := fun J4 hJ4 => ?_); refine hJ4 _ _ ?_; refine hK3 _ _ ?_; refine sq fun K5 hK5 => ?_; refine sr fun _ hJ7 => ?_; refine hJ7 _ _ ?_; refine cs (fun c16 => ?_) (fun c16 => ?_)
    · (try exact nope c16); all_goals have c16p := c16; try simp [F] at c16p
      all_goals
       replace F := aF c16 F; (try replace F := aF c16p F); refine sr fun _ hJ9 => ?_; refine hJ9 _ _ ?_; refine ra ?_; exact ⟨g + 1, _, _, by simp [F], by simp only [List.append_assoc]; rfl⟩
    (try exact nope c16); all_goals have c16p := c16; try simp [F] at c16p
    all_goals
     replace F := aF c16 F; (try replace F := aF c16p F); refine run_skip ?_; refine hK5 _ _ ?_; refine sr fun _ hJ11 => ?_; refine hJ11 _ _ ?_; refine sq fun K12 hK12 => ?_
     refine run_draw (by kernel_rfl) fun J13 hJ13 => ?_
     refine rp2 0 (k := ?_); refine rp2 1 (k := ?_); refine rp2 2 (k := ?_); refine rp2 3 (k := ?_); refine rp2 4 (k := ?_); refine rp2 5 (k := ?_); refine dop 6 rfl ?_; repeat (first | simp [F] | simp (disch := omega) only [wC, if_pos, if_neg])
     refine ⟨later_tmp (by kernel_rfl), ?_⟩
     refine dop 7 rfl ?_; (repeat (first | simp [F] | simp (disch := omega) only [wC, if_pos, if_neg])); (try refine ⟨ln, ?_⟩); refine dd ?_; refine hJ13 _ _ ?_; refine hK12 _ _ ?_; refine sr fun _ hJ15 => ?_; refine hJ15 _ _ ?_; refine sr fun _ hJ17 => ?_; refine hJ17 _ _ ?_; refine ra ?_; exact ⟨g + 1, _, _, by simp [F], by simp only [List.append_assoc]; rfl⟩
  · obtain ⟨g', junk, sp, e1, e2⟩ := h
    exact .inl ⟨g', junk, sp, [], [], [], e1, by rw [e2]; simp⟩

set_option maxHeartbeats 1600000 in
attribute [local simp] undefA List.getElem?_cons_zero List.getElem?_cons_succ in
theorem insert_end {σ : St} {k kv g gv i : Nat} {A X : List AV} {sv : Option Nat} (hr : σ.rows[k]? = some ⟨g, A, none⟩) (hv : σ.rows[kv]? = some ⟨gv, X, sv⟩) (hA : A.length = i * 2) (hX : X.length = 2) (hn : i ≤ 1000000000) (hu : underL σ.bd (A ++ X) = true) :
    CallsA Try.prog 111 [.row k g 0 2 i, .v (.int .i64 i), .row kv gv 0 2 1] σ (fun av σ' => ∃ g', av = .row k g' 0 2 (i + 1) ∧ σ' = { σ with rows := σ.rows.set k ⟨g', A ++ X, none⟩ }) := by
  refine callsA_row_end (Q := fun av σ' => ∃ g', av = .row k g' 0 2 (i + 1) ∧ σ' = { σ with rows := σ.rows.set k ⟨g', A ++ X, none⟩ }) ?_ hr (by simp [hA, hX]; omega) hu (fun av σ' h => ?_)
  · have hT : List.take (i * 2) A = A := List.take_of_length_le (by omega)
    have hX2 : List.take 2 X = X := List.take_of_length_le (by omega)
    have h1 : (i + 1) * 48 ≤ 140737488355328 := by omega
    have h2 : i + 1 ≤ 9223372036854775807 := by omega
    have F := And.intro hr (And.intro hv (And.intro hA (And.intro hX (And.intro hT (And.intro hX2 (And.intro h1 (And.intro h2 (True.intro))))))))
    refine callsA_body Try.func111 rfl rfl rfl ?_; refine sr fun _ hJ2 => ?_; refine hJ2 _ _ ?_; refine sr fun _ hJ4 => ?_; refine hJ4 _ _ ?_; refine sr fun _ hJ6 => ?_; refine hJ6 _ _ ?_; refine sq fun K7 hK7 => ?_; refine sr fun _ hJ9 => ?_; refine hJ9 _ _ ?_; refine cs (fun c16 => ?_) (fun c16 => ?_)
    · (try exact nope c16); all_goals have c16p := c16; try simp [F] at c16p
      all_goals
       replace F := aF c16 F; (try replace F := aF c16p F); refine sr fun _ hJ11 => ?_; refine hJ11 _ _ ?_; refine ra ?_; exact ⟨g + 1, by simp [F], rfl⟩
    (try exact nope c16); all_goals have c16p := c16; try simp [F] at c16p
    all_goals
     replace F := aF c16 F; (try replace F := aF c16p F); refine run_skip ?_; refine hK7 _ _ ?_; refine sr fun _ hJ13 => ?_; refine hJ13 _ _ ?_; refine sq fun K14 hK14 => ?_; refine sr fun _ hJ16 => ?_; refine hJ16 _ _ ?_; refine ct ?_; refine sr fun _ hJ18 => ?_; refine hJ18 _ _ ?_; refine ra ?_; exact ⟨g + 1, by simp [F], rfl⟩
  · obtain ⟨g', e1, e2⟩ := h
    exact .inl ⟨g', [], none, [], [], [], e1, by rw [e2]; simp⟩

theorem overlapsP {σ : St} {k1 g1 o1 n1 k2 g2 o2 n2 : Nat} {c1 c2 : List AV} {s1 s2 : Option Nat} (hne : k1 ≠ k2) (h1 : σ.rows[k1]? = some ⟨g1, c1, s1⟩) (h2 : σ.rows[k2]? = some ⟨g2, c2, s2⟩) :
    ExtA Try.prog 120 [.row k1 g1 o1 2 n1, .row k2 g2 o2 2 n2] σ (fun av _ => av = .v (.bool false)) :=
  overlaps_ext (tS := 119) (tR := 4) Try.func120 (by kernel_rfl) (by kernel_rfl) (by kernel_rfl) (by kernel_rfl) Try.underlying119 (ti_130) rfl (by decide) hne h1 rfl h2 rfl

set_option maxHeartbeats 1600000 in
attribute [local simp] undefA List.getElem?_cons_zero List.getElem?_cons_succ in
set_option maxHeartbeats 16000000 in
theorem insert_mid {σ : St} {k kv g gv i m : Nat} {A X B : List AV} {sv : Option Nat} (hr : σ.rows[k]? = some ⟨g, A ++ B, none⟩) (hv : σ.rows[kv]? = some ⟨gv, X, sv⟩) (hk : kv ≠ k) (hA : A.length = i * 2) (hX : X.length = 2) (hB : B.length = m * 2) (hm : 0 < m) (hn : i + m ≤ 1000000000) (hu : underL σ.bd (A ++ (X ++ B)) = true) :
    CallsA Try.prog 111 [.row k g 0 2 (i + m), .v (.int .i64 i), .row kv gv 0 2 1] σ (fun av σ' => ∃ g', av = .row k g' 0 2 (i + m + 1) ∧ σ' = { σ with rows := σ.rows.set k ⟨g', A ++ (X ++ B), none⟩ }) := by
  have hkl := lt_of_get hr
  have hvl := lt_of_get hv
  refine callsA_row_end (Q := fun av σ' => (∃ g' sp, av = .row k g' 0 2 (i + m + 1) ∧ σ' = { σ with rows := σ.rows.set k ⟨g', A ++ (X ++ B), sp⟩ }) ∨ (∃ r1 sp, av = .row σ.rows.length 0 0 2 (i + m + 1) ∧ σ' = { σ with rows := σ.rows.set k r1 ++ [⟨0, A ++ (X ++ B), sp⟩] })) ?_ hr (by simp [hA, hB, hX]; omega) hu (fun av σ' h => ?_)
  · have hs := fun x => set_self_of hr x
    have hvs : ∀ x, (σ.rows.set k x)[kv]? = some ⟨gv, X, sv⟩ := fun x => by rw [List.getElem?_set_ne (Ne.symm hk)]; exact hv
    have hT : List.take (i * 2) (A ++ B) = A := List.take_left' hA
    have hD : List.drop (i * 2) (A ++ B) = B := List.drop_left' hA
    have hT2 : List.take (m * 2) B = B := List.take_of_length_le (by omega)
    have hX2 : List.take 2 X = X := List.take_of_length_le (by omega)
    have hN1 : ((i : Int) + (m : Int)).toNat = i + m := by omega
    have hN2 : ((i : Int) + (m : Int) + 1).toNat = i + m + 1 := by omega
    have hw1 : IntKind.i64.wrap ((i : Int) + (m : Int) + 1) = ((i + m + 1 : Nat) : Int) := wrap_i64 _ (by omega) (by omega)
    have hw2 : IntKind.i64.wrap ((i : Int) + 1) = ((i + 1 : Nat) : Int) := wrap_i64 _ (by omega) (by omega)
    have hw3 : IntKind.i64.wrap ((i : Int) + (m : Int) + 1 - (i : Int)) = ((m + 1 : Nat) : Int) := by rw [wrap_i64 _ (by omega) (by omega)]; omega
    have hvs2 : ∀ r x, (σ.rows.set k r ++ [x])[kv]? = some ⟨gv, X, sv⟩ := fun r x => by rw [List.getElem?_append_left (by simpa using hvl)]; exact hvs r
    have hk1 : ∀ r x, (σ.rows.set k r ++ [x])[k]? = some r := fun r x => by rw [List.getElem?_append_left (by simpa using hkl)]; exact hs r
    have hn1 : ∀ r x, (σ.rows.set k r ++ [x])[σ.rows.length]? = some x := fun r x => by rw [List.getElem?_append_right (by simp)]; simp
    have hset1 : ∀ r x y, (σ.rows.set k r ++ [x]).set σ.rows.length y = σ.rows.set k r ++ [y] := fun r x y => by rw [List.set_append_right _ _ (by simp)]; simp
    have hTz : ∀ Z, List.take (i * 2) (A ++ Z) = A := fun Z => List.take_left' hA
    have hDz : ∀ Z, List.drop (i * 2) (A ++ Z) = Z := fun Z => List.drop_left' hA
    have hDz2 : ∀ Z, List.drop (i * 2 + 2) (A ++ Z) = List.drop 2 Z := fun Z => by rw [← List.drop_drop, hDz]
    have hT1 : ∀ Z, List.take ((i + 1) * 2) (A ++ Z) = A ++ List.take 2 Z := fun Z => by rw [show (i + 1) * 2 = A.length + 2 by omega, List.take_length_add_append]
    have hT2x : ∀ Z, List.take 2 (X ++ Z) = X := fun Z => List.take_left' hX
    have hDx : ∀ f : Nat → AV, List.drop ((i + 1) * 2 + m * 2) (A ++ (X ++ List.drop 2 (List.map f (List.range ((m + 1) * 2))))) = [] := fun f => List.drop_of_length_le (by simp [hA, hX]; omega)
    have hDx2 : ∀ E : List AV, E.length = 2 → List.drop ((i + 1) * 2 + m * 2) (A ++ (B ++ E)) = [] := fun E hE => List.drop_of_length_le (by simp [hA, hB, hE]; omega)
    have hDx3 := hDx2 [.any, .any] rfl
    have hN4 : (i + m + 1) * 2 - (i * 2 + m * 2) = 2 := by omega
    have hN5 : min 1 (m + 1) = 1 := by omega
    have hN6 : i + m + 1 - (i + 1) = m := by omega
    have hN7 : i + m + 1 - i = m + 1 := by omega
    have hN8 : min m (i + (m + 1) - (i + 1)) = m := by omega
    have hTB : ∀ E, List.take (m * 2) (B ++ E) = B := fun E => List.take_left' hB
    have hTB2 : List.take ((m + 1) * 2) (B ++ [.any, .any]) = B ++ [.any, .any] := List.take_of_length_le (by simp [hB]; omega)
    have hne : ((i : Int) == (i : Int) + (m : Int)) = false := by simp; omega
    have F := And.intro hr (And.intro hv (And.intro hA (And.intro hX (And.intro hB (And.intro hT (And.intro hD (And.intro hT2 (And.intro hX2 (And.intro hN1 (And.intro hN2 (And.intro hw1 (And.intro hw2 (And.intro hw3 (And.intro hne (True.intro)))))))))))))))
    refine callsA_body Try.func111 rfl rfl rfl ?_; refine sr fun _ hJ2 => ?_; refine hJ2 _ _ ?_; refine sr fun _ hJ4 => ?_; refine hJ4 _ _ ?_; refine sr fun _ hJ6 => ?_; refine hJ6 _ _ ?_; refine sq fun K7 hK7 => ?_; refine sr fun _ hJ9 => ?_; refine hJ9 _ _ ?_; refine cs (fun c16 => ?_) (fun c16 => ?_)
    · (try exact nope c16); all_goals have c16p := c16; try simp [F] at c16p
      all_goals
       replace F := aF c16 F; (try replace F := aF c16p F); refine sr fun _ hJ11 => ?_; refine hJ11 _ _ ?_; refine ra ?_; exact .inl ⟨g, _, by simp [F, Nat.add_assoc], rfl⟩
    (try exact nope c16); all_goals have c16p := c16; try simp [F] at c16p
    all_goals
     replace F := aF c16 F; (try replace F := aF c16p F); refine run_skip ?_; refine hK7 _ _ ?_; refine sr fun _ hJ13 => ?_; refine hJ13 _ _ ?_; refine sq fun K14 hK14 => ?_; refine sr fun _ hJ16 => ?_; refine hJ16 _ _ ?_; refine cf ?_; refine run_skip ?_; refine hK14 _ _ ?_; refine sq fun K17 hK17 => ?_; refine sq fun K18 hK18 => ?_; refine run_learnD 0 (kk := fun s q hsq hnq => ?_)
     have hql : i * 2 + m * 2 + s = q * 2 := by simp [hA, hB] at hsq; omega
     have hq1 : (i * 2 + m * 2 + s) % 2 = 0 := by omega
     have hq2 : ((i : Int) * 2 + (m : Int) * 2 + (s : Int)) / 2 = (q : Int) := by omega
     replace F := aF hs F; replace F := aF hvs F; replace F := aF hq1 F; replace F := aF hq2 F; replace F := aF hvs2 F; replace F := aF hk1 F; replace F := aF hn1 F; replace F := aF hset1 F; replace F := aF hTz F; replace F := aF hDz F; replace F := aF hDz2 F; replace F := aF hT1 F; replace F := aF hT2x F; replace F := aF hDx F; replace F := aF hDx3 F; replace F := aF hN4 F; replace F := aF hN5 F; replace F := aF hN6 F; replace F := aF hN7 F; replace F := aF hN8 F; replace F := aF hTB F; replace F := aF hTB2 F; refine rg' (h := fun J19 hJ19 => ?_); refine hJ19 _ _ ?_; refine hK18 _ _ ?_; refine cs (fun c31 => ?_) (fun c31 => ?_)
     · (try exact nope c31); all_goals have c31p := c31; try simp [F] at c31p
       all_goals
        replace F := aF c31 F; (try replace F := aF c31p F); refine sr fun _ hJ21 => ?_; refine hJ21 _ _ ?_; refine sr fun _ hJ23 => ?_; refine hJ23 _ _ ?_; refine sq fun K24 hK24 => ?_
        refine run_draw (by kernel_rfl) fun J25 hJ25 => ?_
        refine rp2 0 (k := ?_); refine rp2 1 (k := ?_); refine rp2 2 (k := ?_); refine rp2 3 (k := ?_); refine rp2 4 (k := ?_); refine rp2 5 (k := ?_); refine rp2 6 (k := ?_); refine rp2 7 (k := ?_); refine dop 8 rfl ?_; repeat (first | simp [F] | simp (disch := omega) only [wC, if_pos, if_neg])
        refine ⟨by first | exact fun _ _ h => h | (refine later_list [6, 5, 3, 2, 1, 0] (by kernel_rfl) (List.forall_mem_cons.2 ⟨fun _ => fact2 rfl rfl ?_, List.forall_mem_cons.2 ⟨fun _ => fact2 rfl rfl ?_, List.forall_mem_cons.2 ⟨fun _ => fact2 rfl rfl ?_, List.forall_mem_cons.2 ⟨fun _ => fact2 rfl rfl ?_, List.forall_mem_cons.2 ⟨fun _ => fact2 rfl rfl ?_, List.forall_mem_cons.2 ⟨fun _ => fact2 rfl rfl ?_, fun _ h => absurd h List.not_mem_nil⟩⟩⟩⟩⟩⟩) <;> constructor <;> first | rfl | (simp [F]; done)), ?_⟩
        refine dd ?_; refine hJ25 _ _ ?_; refine hK24 _ _ ?_; refine sr fun _ hJ27 => ?_; refine hJ27 _ _ ?_; refine ra ?_; exact .inr ⟨_, none, by simp [F, Nat.add_assoc], rfl⟩
     (try exact nope c31); all_goals have c31p := c31; try simp [F] at c31p
     all_goals
      replace F := aF c31 F; (try replace F := aF c31p F); refine run_skip ?_; refine hK17 _ _ ?_; refine sr fun _ hJ29 => ?_; refine hJ29 _ _ ?_; refine sq fun K30 hK30 => ?_; refine sr fun _ hJ32 => ?_
      refine ce (c := overlapsP (g1 := gv) (n1 := 1) (o1 := 0) (g2 := g) (o2 := (i + 1) * 2) (n2 := m) hk (by simp [F]; first | done | exact ⟨rfl, rfl⟩) (by simp [F]; first | done | exact ⟨rfl, rfl⟩)) (k := ?_)
      rintro _ _ rfl rfl; (repeat (first | simp [F] | simp (disch := omega) only [wC, if_pos, if_neg])); refine hJ32 _ _ ?_; refine ct ?_; refine sq fun K33 hK33 => ?_
      refine run_draw (by kernel_rfl) fun J34 hJ34 => ?_
      refine rp2 0 (k := ?_); refine rp2 1 (k := ?_); refine rp2 2 (k := ?_); refine rp2 3 (k := ?_); refine rp2 4 (k := ?_); refine rp2 5 (k := ?_); refine rp2 6 (k := ?_); refine rp2 7 (k := ?_); refine dop 8 rfl ?_; repeat (first | simp [F] | simp (disch := omega) only [wC, if_pos, if_neg])
      refine ⟨by first | exact fun _ _ h => h | (refine later_list [6, 5, 3, 2, 1, 0] (by kernel_rfl) (List.forall_mem_cons.2 ⟨fun _ => fact2 rfl rfl ?_, List.forall_mem_cons.2 ⟨fun _ => fact2 rfl rfl ?_, List.forall_mem_cons.2 ⟨fun _ => fact2 rfl rfl ?_, List.forall_mem_cons.2 ⟨fun _ => fact2 rfl rfl ?_, List.forall_mem_cons.2 ⟨fun _ => fact2 rfl rfl ?_, List.forall_mem_cons.2 ⟨fun _ => fact2 rfl rfl ?_, fun _ h => absurd h List.not_mem_nil⟩⟩⟩⟩⟩⟩) <;> constructor <;> first | rfl | (simp [F]; done)), ?_⟩
      refine dd ?_; refine hJ34 _ _ ?_; refine hK33 _ _ ?_; refine sr fun _ hJ36 => ?_; refine hJ36 _ _ ?_; refine sr fun _ hJ38 => ?_; refine hJ38 _ _ ?_; refine ra ?_; exact .inl ⟨g, _, by simp [F, Nat.add_assoc], rfl⟩
  · rcases h with ⟨g', sp, e1, e2⟩ | ⟨r1, sp, e1, e2⟩
    · exact .inl ⟨g', [], sp, [], [], [], e1, by rw [e2]; simp⟩
    · exact .inr ⟨_, sp, [], [], r1, 0, [], e1, by rw [e2]; simp, rfl⟩

end Go.Proofs.Ytlkajgjaidedkaa

/-
  A store: a pair is put, or none of that key; what was there is told.
-/
namespace Go.Proofs.Ytlkajgjaidedkaa
set_option linter.unnecessarySimpa false
set_option maxRecDepth 100000
open Go Go.Vm
set_option linter.unusedSimpArgs false
set_option linter.unusedVariables false
attribute [local simp] evalL wantedA isCall opA evalA evalAll evalsA evalOpt ofValue ofCell plain binA_eql_pn binA_neq_pn binA_gtr binA_lss binA_geq binA_leq binA_add binA_sub binA_eql binA_neq binA_orI binA_shl binA_shr binA_mul binA_quo binA_rem binA_agg_eql binA_agg_neq convA_int unA_not fieldAddrA loadA partA pickA_true pickA_false pickA_bb lenA builtinA storeA splice AV.cells AV.isCell sliceA boundA intA callOf indexAddrA newObjA buildA fillA zeroA ofCells buildSliceA indexA fieldA set_appN get_appN take_appN List.getElem?_cons_zero List.getElem?_cons_succ get_sa0 get_sa1 get_sa2 get_sa3 set_sa0 set_sa1 set_sa2 set_sa3

theorem prsC_app (l m : List Pr) : prsC (l ++ m) = prsC l ++ prsC m := by simp [prsC]
theorem prsC_take (l : List Pr) (i : Nat) : List.take (i * 2) (prsC l) = prsC (l.take i) := by
  by_cases h : i ≤ l.length
  · conv => lhs; rw [← List.take_append_drop i l, prsC_app]
    exact List.take_left' (by rw [prsC_len, List.length_take, Nat.min_eq_left h])
  · rw [List.take_of_length_le (by rw [prsC_len]; omega), List.take_of_length_le (by omega)]
theorem prsC_drop (l : List Pr) (i : Nat) : List.drop (i * 2) (prsC l) = prsC (l.drop i) := by
  by_cases h : i ≤ l.length
  · conv => lhs; rw [← List.take_append_drop i l, prsC_app]
    exact List.drop_left' (by rw [prsC_len, List.length_take, Nat.min_eq_left h])
  · rw [List.drop_of_length_le (by rw [prsC_len]; omega), List.drop_of_length_le (by omega)]; rfl
theorem prsC_set {l : List Pr} {i : Nat} (h : i < l.length) (p : Pr) : List.take (i * 2) (prsC l) ++ byC p.k :: byC p.v :: List.drop (i * 2 + 2) (prsC l) = prsC (l.set i p) := by
  rw [show i * 2 + 2 = (i + 1) * 2 by omega, prsC_take, prsC_drop, List.set_eq_take_append_cons_drop, if_pos h, prsC_app]
  rfl
theorem prsC_cut {l : List Pr} {i : Nat} (h : i < l.length) : prsC l = prsC (l.take i) ++ (prC l[i] ++ prsC (l.drop (i + 1))) := by
  conv => lhs; rw [← List.take_append_drop i l, prsC_app, List.drop_eq_getElem_cons h]
  rfl
theorem prsC_cut0 (l : List Pr) (i : Nat) : prsC l = prsC (l.take i) ++ prsC (l.drop i) := by
  conv => lhs; rw [← List.take_append_drop i l, prsC_app]
theorem delP_ok {σ : St} {k g i : Nat} {l : List Pr} (hr : σ.rows[k]? = some ⟨g, prsC l, none⟩) (hi : i < l.length) (hn : l.length ≤ 1000000) :
    CallsA Try.prog 110 [.row k g 0 2 l.length, .v (.int .i64 i), .v (.int .i64 ((i : Int) + 1))] σ (fun av σ' => ∃ g', av = .row k g' 0 2 (l.length - 1) ∧ σ' = { σ with rows := σ.rows.set k ⟨g', prsC (l.take i ++ l.drop (i + 1)), none⟩ }) := by
  rw [prsC_cut hi] at hr
  have := delete_ok (i := i) (m := l.length - i - 1) hr (by simp [prsC_len]; omega) rfl (by simp [prsC_len]; omega) (by omega) (by rw [← prsC_app]; exact prsC_under _ _)
  rw [← prsC_app, show i + 1 + (l.length - i - 1) = l.length by omega, show i + (l.length - i - 1) = l.length - 1 by omega] at this
  exact this
theorem insP_ok {σ : St} {k kv g gv i : Nat} {l : List Pr} {p : Pr} {sv : Option Nat} (hr : σ.rows[k]? = some ⟨g, prsC l, none⟩) (hv : σ.rows[kv]? = some ⟨gv, prC p, sv⟩) (hk : kv ≠ k) (hi : i ≤ l.length) (hn : l.length ≤ 1000000) :
    CallsA Try.prog 111 [.row k g 0 2 l.length, .v (.int .i64 i), .row kv gv 0 2 1] σ (fun av σ' => ∃ g', av = .row k g' 0 2 (l.length + 1) ∧ σ' = { σ with rows := σ.rows.set k ⟨g', prsC (l.take i ++ p :: l.drop i), none⟩ }) := by
  have e : prsC (l.take i ++ p :: l.drop i) = prsC (l.take i) ++ (prC p ++ prsC (l.drop i)) := by rw [prsC_app]; rfl
  by_cases h0 : i = l.length
  · subst h0
    have := insert_end (i := l.length) hr hv (by simp [prsC_len]) rfl (by omega) (by have := prsC_under σ.bd (l ++ [p]); rw [prsC_app] at this; simpa [prsC] using this)
    rw [e, List.take_length, List.drop_length]
    simpa [prsC] using this
  · rw [prsC_cut0 l i] at hr
    have := insert_mid (i := i) (m := l.length - i) hr hv hk (by simp [prsC_len]; omega) rfl (by simp [prsC_len]) (by omega) (by omega) (by rw [← e]; exact prsC_under _ _)
    rw [← e, show i + (l.length - i) = l.length by omega] at this
    exact this
theorem getL_some_at {l : List Pr} {key v : List UInt8} (hs : Srt l) (h : getL l key = some v) : ∃ h : findL l key < l.length, (l[findL l key]).k = key ∧ (l[findL l key]).v = v := by
  rw [findL_get hs] at h
  split at h
  · rename_i p hp
    obtain ⟨h1, h2⟩ := List.getElem?_eq_some_iff.1 hp
    split at h
    · rename_i hk
      exact ⟨h1, by rw [h2]; exact hk, by rw [h2]; exact Option.some.inj h⟩
    · cases h
  · cases h

set_option maxHeartbeats 1600000 in
attribute [local simp] undefA List.getElem?_cons_zero List.getElem?_cons_succ byC in
theorem put_ok {σ : St} {o k : Nat} {G : Sg} {key val : List UInt8} {is : Bool} (h : HasS σ o k G) (hs : Srt G.s.l) (hl : G.s.l.length ≤ 1000000) :
    CallsA Try.prog 83 [.ptr o 0, .agg [byC key, byC val], .v (.bool is)] σ (fun av σ' => ∃ g, av = .agg (udC ⟨key, getL G.s.l key⟩) ∧ σ' = putS σ o k ⟨⟨setL G.s.l key (if is then some val else none), G.s.log, G.s.marks⟩, g, G.g2, G.g3⟩) := by
  refine callsA_gcSt (X := Nat) (T := fun g => ⟨⟨setL G.s.l key (if is then some val else none), G.s.log, G.s.marks⟩, g, G.g2, G.g3⟩) h (fun _ => by simp [AV.under, udC_under]) ?_
  have hp1 := fun l' g' => putS_1 h l' g'
  have hfi := fun L m => find_ok (key := key) (t := .shut) (h.app L m) hs (by omega)
  have hbd := prsC_under σ.bd
  have hset := setL_at (k := key) (o := if is then some val else none) hs
  have hgat : ∀ v, getL G.s.l key = some v → _ := fun v h => getL_some_at (key := key) (v := v) hs h
  have hhas : hasL G.s.l key = (getL G.s.l key).isSome := rfl
  have hlo := lt_of_get h.o
  have hlr := lt_of_get h.r1
  obtain ⟨ho, hr1, hr2, hr3⟩ := h
  obtain ⟨⟨l, log, marks⟩, g1, g2, g3⟩ := G
  simp only [stC, stR1, stR2, stR3] at ho hr1 hr2 hr3 hl hp1 hset hgat hhas hfi ⊢
  have ha : ∀ L, (σ.objs ++ L)[o]? = some [.row k g1 0 2 l.length, .row (k + 1) g2 0 3 log.length, .row (k + 2) g3 0 1 marks.length] := fun L => by rw [List.getElem?_append_left hlo]; exact ho
  have hb : ∀ x L, (σ.objs ++ L).set o x = σ.objs.set o x ++ L := fun x L => List.set_append_left _ _ hlo
  have hc : ∀ x L, (σ.objs.set o x ++ L)[o]? = some x := fun x L => by rw [List.getElem?_append_left (by simpa using hlo)]; exact set_self_of ho x
  have hle := findL_le l key
  obtain ⟨i, hi⟩ : ∃ i, i = findL l key := ⟨_, rfl⟩
  obtain ⟨q, hq⟩ : ∃ q, q = getL l key := ⟨_, rfl⟩
  simp only [← hi, ← hq] at hset hgat hhas hfi hle
  obtain ⟨b, hbb⟩ : ∃ b, b = hasL l key := ⟨_, rfl⟩
  simp only [← hbb] at hfi hhas
  have hda : ∀ (x : RowSt) L, (σ.rows.set k x ++ L)[k]? = some x := fun x L => by rw [List.getElem?_append_left (by simpa using hlr)]; exact set_self_of hr1 x
  have hdb : ∀ L, (σ.rows ++ L)[k]? = some ⟨g1, prsC l, none⟩ := fun L => by rw [List.getElem?_append_left hlr]; exact hr1
  have hdc : ∀ (x : RowSt) L, (σ.rows ++ L).set k x = σ.rows.set k x ++ L := fun x L => List.set_append_left _ _ hlr
  have hso := set_same' ho
  have hsr := set_same' hr1
  have F := And.intro ha (And.intro hb (And.intro hc (And.intro hr1 (And.intro hda (And.intro hdb (And.intro hdc (And.intro hso (And.intro hsr (True.intro)))))))))
  refine callsA_body Try.func83 rfl rfl rfl ?_; refine sr fun _ hJ2 => ?_; refine hJ2 _ _ ?_; refine sr fun _ hJ4 => ?_; refine ca (c := hfi _ _) (k := ?_); rintro _ _ ⟨rfl, rfl⟩; (repeat (first | simp [F] | simp (disch := omega) only [wC, if_pos, if_neg])); refine hJ4 _ _ ?_; refine sr fun _ hJ6 => ?_; refine hJ6 _ _ ?_; refine sq fun K7 hK7 => ?_; refine run_block_k ?_; refine sr fun _ hJ9 => ?_; refine gs 24 (fun g3_1 => ?_) (fun g3_1 => ?_)
  · (try exact nope g3_1); all_goals have g3_1p := g3_1; try simp [F] at g3_1p
    all_goals
     replace F := aF g3_1 F; try replace F := aF g3_1p F
     obtain ⟨v, hv⟩ : ∃ v, q = some v := Option.isSome_iff_exists.1 (by rw [← hhas]; simpa using g3_1)
     obtain ⟨hil, hik, hiv⟩ := hgat v hv
     have hat := prsC_at hil
     rw [hiv] at hat
     have hat2 := hat.2
     have hpl := prsC_len l
     have hi2 : i * 2 + 2 ≤ l.length * 2 := by omega
     have hps := prsC_set hil ⟨key, val⟩
     simp only [byC] at hat2 hps
     replace F := aF hil (And.intro hat2 (And.intro hpl (And.intro hi2 F))); refine go2 (k := ?_); refine hJ9 _ _ ?_; refine cs (fun c22 => ?_) (fun c22 => ?_)
     · (try exact nope c22); all_goals have c22p := c22; try simp [F] at c22p
       all_goals
        replace F := aF c22 F; try replace F := aF c22p F
        have his : is = true := by simpa using c22
        have hS : setL l key (if is then some val else none) = l.set i ⟨key, val⟩ := by rw [hset, hv, his]; rfl
        replace F := aF hps F
        refine run_draw (by kernel_rfl) fun J10 hJ10 => ?_
        refine rp2 0 (k := ?_); refine rp2 1 (k := ?_); refine rp2 2 (k := ?_); refine rp2 3 (k := ?_); refine rp2 4 (k := ?_); refine rp2 5 (k := ?_); refine rp2 6 (k := ?_); refine rp2 7 (k := ?_); refine rp2 8 (k := ?_); refine rp2 9 (k := ?_); refine rp2 10 (k := ?_); refine rp2 11 (k := ?_); refine rp2 12 (k := ?_); refine rp2 13 (k := ?_); refine rp2 14 (k := ?_); refine rp2 15 (k := ?_); refine dop 16 rfl ?_; repeat (first | simp [F] | simp (disch := omega) only [wC, if_pos, if_neg])
        refine ⟨by first | exact fun _ _ h => h | (refine later_list [14, 13, 4, 3, 2, 1, 0] (by kernel_rfl) (List.forall_mem_cons.2 ⟨fun _ => fact2 rfl rfl ?_, List.forall_mem_cons.2 ⟨fun _ => fact2 rfl rfl ?_, List.forall_mem_cons.2 ⟨fun _ => fact2 rfl rfl ?_, List.forall_mem_cons.2 ⟨fun _ => fact2 rfl rfl ?_, List.forall_mem_cons.2 ⟨fun _ => fact2 rfl rfl ?_, List.forall_mem_cons.2 ⟨fun _ => fact2 rfl rfl ?_, List.forall_mem_cons.2 ⟨fun _ => fact2 rfl rfl ?_, fun _ h => absurd h List.not_mem_nil⟩⟩⟩⟩⟩⟩⟩) <;> constructor <;> first | rfl | (simp [F]; done)), ?_⟩
        refine rp2 17 (k := ?_); refine dop 18 rfl ?_; (repeat (first | simp [F] | simp (disch := omega) only [wC, if_pos, if_neg])); refine ⟨ln, ?_⟩; refine dd ?_; refine hJ10 _ _ ?_; refine hK7 _ _ ?_; refine sr fun _ hJ12 => ?_; refine hJ12 _ _ ?_; refine run_ret ?_; (try simp only [Then, InBlock, NoGoto]); refine acell (h := ?_); refine ⟨g1, ?_⟩
        rw [hp1, hS, ← hq, hv]
        exact gcr
     (try exact nope c22); all_goals have c22p := c22; try simp [F] at c22p
     all_goals
      replace F := aF c22 F; try replace F := aF c22p F
      have his : is = false := by simpa using c22
      have hS : setL l key (if is then some val else none) = l.take i ++ l.drop (i + 1) := by rw [hset, hv, his]; rfl
      have hlen : (l.take i ++ l.drop (i + 1)).length = l.length - 1 := by simp; omega
      replace F := aF hlen F; refine sr fun _ hJ14 => ?_; refine hJ14 _ _ ?_; refine ct ?_; refine sr fun _ hJ16 => ?_; refine hJ16 _ _ ?_; refine rg' (h := fun J17 hJ17 => ?_); refine ca (c := delP_ok (i := i) (l := l) (g := g1) (k := k) st hil hl) (k := ?_); rintro _ _ ⟨g', rfl, rfl⟩; (repeat (first | simp [F] | simp (disch := omega) only [wC, if_pos, if_neg])); refine hJ17 _ _ ?_; refine hK7 _ _ ?_; refine sr fun _ hJ19 => ?_; refine hJ19 _ _ ?_; refine run_ret ?_; (try simp only [Then, InBlock, NoGoto]); refine acell (h := ?_); refine ⟨g', ?_⟩
      rw [hp1, hS, ← hq, hv]
      exact gcr
  (try exact nope g3_1); all_goals have g3_1p := g3_1; try simp [F] at g3_1p
  all_goals
   replace F := aF g3_1 F; try replace F := aF g3_1p F
   have hv : q = none := by cases q with | none => rfl | some v => simp [hhas] at g3_1
   refine no2 (k := ?_); refine hJ9 _ _ ?_; refine cf ?_; refine sr fun _ hJ21 => ?_; refine hJ21 _ _ ?_; refine cf ?_; refine sr fun _ hJ23 => ?_; refine hJ23 _ _ ?_; refine cs (fun c67 => ?_) (fun c67 => ?_)
   · (try exact nope c67); all_goals have c67p := c67; try simp [F] at c67p
     all_goals
      replace F := aF c67 F; try replace F := aF c67p F
      have his : is = true := by simpa using c67
      have hS : setL l key (if is then some val else none) = l.take i ++ ⟨key, val⟩ :: l.drop i := by rw [hset, hv, his]; rfl
      have hlen : (l.take i ++ (⟨key, val⟩ : Pr) :: l.drop i).length = l.length + 1 := by simp; omega
      replace F := aF hlen F
      refine run_draw (by kernel_rfl) fun J24 hJ24 => ?_
      refine rp2 0 (k := ?_); refine rp2 1 (k := ?_); refine rp2 2 (k := ?_); refine rp2 3 (k := ?_); refine rp2 4 (k := ?_); refine rp2 5 (k := ?_); refine rp2 6 (k := ?_); refine db 7 rfl rfl (k := ?_)
      refine ⟨by first | exact fun _ _ h => h | (refine later_list [5, 4, 3, 2, 1, 0] (by kernel_rfl) (List.forall_mem_cons.2 ⟨fun _ => fact2 rfl rfl ?_, List.forall_mem_cons.2 ⟨fun _ => fact2 rfl rfl ?_, List.forall_mem_cons.2 ⟨fun _ => fact2 rfl rfl ?_, List.forall_mem_cons.2 ⟨fun _ => fact2 rfl rfl ?_, List.forall_mem_cons.2 ⟨fun _ => fact2 rfl rfl ?_, List.forall_mem_cons.2 ⟨fun _ => fact2 rfl rfl ?_, fun _ h => absurd h List.not_mem_nil⟩⟩⟩⟩⟩⟩) <;> constructor <;> first | rfl | (simp [F]; done)), ?_⟩
      repeat (first | simp [F] | simp (disch := omega) only [wC, if_pos, if_neg])
      refine dc 8 rfl (c := insP_ok (i := i) (l := l) (g := g1) (k := k) (kv := σ.rows.length) (gv := 0) (p := ⟨key, val⟩) (sv := none) st (by simp [F]; rfl) (by omega) hle hl) (k := ?_)
      rintro _ _ ⟨g', rfl, rfl⟩
      refine ⟨by first | exact fun _ _ h => h | (refine later_list [3, 2, 1, 0] (by kernel_rfl) (List.forall_mem_cons.2 ⟨fun _ => fact2 rfl rfl ?_, List.forall_mem_cons.2 ⟨fun _ => fact2 rfl rfl ?_, List.forall_mem_cons.2 ⟨fun _ => fact2 rfl rfl ?_, List.forall_mem_cons.2 ⟨fun _ => fact2 rfl rfl ?_, fun _ h => absurd h List.not_mem_nil⟩⟩⟩⟩) <;> constructor <;> first | rfl | (simp [F]; done)), ?_⟩
      (repeat (first | simp [F] | simp (disch := omega) only [wC, if_pos, if_neg])); refine rp2 9 (k := ?_); refine rp2 10 (k := ?_); refine dop 11 rfl ?_; repeat (first | simp [F] | simp (disch := omega) only [wC, if_pos, if_neg])
      refine ⟨by first | exact fun _ _ h => h | (refine later_list [9] (by kernel_rfl) (List.forall_mem_cons.2 ⟨fun _ => fact2 rfl rfl ?_, fun _ h => absurd h List.not_mem_nil⟩) <;> constructor <;> first | rfl | (simp [F]; done)), ?_⟩
      refine dd ?_; refine hJ24 _ _ ?_; refine hK7 _ _ ?_; refine sr fun _ hJ26 => ?_; refine hJ26 _ _ ?_; refine run_ret ?_; (try simp only [Then, InBlock, NoGoto]); refine acell (h := ?_); refine ⟨g', ?_⟩
      rw [hp1, hS, ← hq, hv]
      exact gcr (hA := WkL.agg (.cons (Wk.refl _) (.cons (Wk.nil _ _ _) (.cons (Wk.refl _) .nil))))
   (try exact nope c67); all_goals have c67p := c67; try simp [F] at c67p
   all_goals
    replace F := aF c67 F; try replace F := aF c67p F
    have his : is = false := by simpa using c67
    have hS : setL l key (if is then some val else none) = l := by rw [hset, hv, his]; rfl
    refine run_skip ?_; refine hK7 _ _ ?_; refine sr fun _ hJ28 => ?_; refine hJ28 _ _ ?_; refine run_ret ?_; (try simp only [Then, InBlock, NoGoto]); refine acell (h := ?_); refine ⟨g1, ?_⟩
    rw [hp1, hS, ← hq, hv]
    exact gcr (hA := WkL.agg (.cons (Wk.refl _) (.cons (Wk.nil _ _ _) (.cons (Wk.refl _) .nil))))

end Go.Proofs.Ytlkajgjaidedkaa

/-
  A store: a pair is put, and what was there is noted.
-/
namespace Go.Proofs.Ytlkajgjaidedkaa
set_option linter.unnecessarySimpa false
set_option maxRecDepth 100000
open Go Go.Vm
set_option linter.unusedSimpArgs false
set_option linter.unusedVariables false
attribute [local simp] evalL wantedA isCall opA evalA evalAll evalsA evalOpt ofValue ofCell plain binA_eql_pn binA_neq_pn binA_gtr binA_lss binA_geq binA_leq binA_add binA_sub binA_eql binA_neq binA_orI binA_shl binA_shr binA_mul binA_quo binA_rem binA_agg_eql binA_agg_neq convA_int unA_not fieldAddrA loadA partA pickA_true pickA_false pickA_bb lenA builtinA storeA splice AV.cells AV.isCell sliceA boundA intA callOf indexAddrA newObjA buildA fillA zeroA ofCells buildSliceA indexA fieldA set_appN get_appN take_appN List.getElem?_cons_zero List.getElem?_cons_succ get_sa0 get_sa1 get_sa2 get_sa3 set_sa0 set_sa1 set_sa2 set_sa3 appendA rowAppA readA roomA maxLen zeroCell Value.oneCell' Value.cells

theorem put_app {σ : St} {o k : Nat} {G : Sg} {key val : List UInt8} {is : Bool} (h : HasS σ o k G) (hs : Srt G.s.l) (hl : G.s.l.length ≤ 1000000) (L : List (List AV)) :
    CallsA Try.prog 83 [.ptr o 0, .agg [byC key, byC val], .v (.bool is)] { σ with objs := σ.objs ++ L } (fun av σ' => ∃ g, av = .agg (udC ⟨key, getL G.s.l key⟩) ∧ σ' = { σ with objs := σ.objs.set o [.row k g 0 2 (setL G.s.l key (if is then some val else none)).length, .row (k + 1) G.g2 0 3 G.s.log.length, .row (k + 2) G.g3 0 1 G.s.marks.length] ++ L, rows := σ.rows.set k ⟨g, prsC (setL G.s.l key (if is then some val else none)), none⟩ }) :=
  callsA_mono (put_ok (h.app L σ.toks) hs hl) (fun av σ' ⟨g, e1, e2⟩ => ⟨g, e1, by rw [e2, putS_1 (h.app L σ.toks)]; simp only; rw [List.set_append_left _ _ (lt_of_get h.o)]⟩)

set_option maxHeartbeats 1600000 in
attribute [local simp] undefA List.getElem?_cons_zero List.getElem?_cons_succ byC drop_mr in
theorem do_ok {σ : St} {o k n : Nat} {G : Sg} {key val : List UInt8} {is : Bool} (h : HasS σ o k G) (hG : G.s.Ok n) (hn : n ≤ 1000000) :
    CallsA Try.prog 79 [.ptr o 0, .agg [byC key, byC val], .v (.bool is)] σ (fun av σ' => ∃ G', G'.s = doS G.s key (if is then some val else none) ∧ av = .tup [] ∧ σ' = putS σ o k G') := by
  refine callsA_mono (callsA_gcSt (X := Nat × Nat) (A := fun _ => .tup []) (T := fun x => ⟨doS G.s key (if is then some val else none), x.1, x.2, G.g3⟩) h (fun _ => rfl) ?_) (fun av σ' ⟨x, e1, e2⟩ => ⟨_, rfl, e1, e2⟩)
  have hpa := put_app (key := key) (val := val) (is := is) h hG.srt (Nat.le_trans hG.l hn)
  have hp2 := fun l lg g g' => putS_2 h l lg g g'
  have hlo := lt_of_get h.o
  have hlr := lt_of_get h.r1
  have hlr2 := lt_of_get h.r2
  have hll := hG.log
  obtain ⟨ho, hr1, hr2, hr3⟩ := h
  obtain ⟨⟨l, log, marks⟩, g1, g2, g3⟩ := G
  simp only [stC, stR1, stR2, stR3, doS] at ho hr1 hr2 hr3 hp2 hpa hll ⊢
  have ha : ∀ x L, (σ.objs.set o x ++ L)[o]? = some x := fun x L => by rw [List.getElem?_append_left (by simpa using hlo)]; exact set_self_of ho x
  have hb : ∀ x y L, (σ.objs.set o x ++ L).set o y = σ.objs.set o y ++ L := fun x y L => by rw [List.set_append_left _ _ (by simpa using hlo), List.set_set]
  have hc : ∀ x, (σ.rows.set k x)[k + 1]? = some ⟨g2, udsC log, none⟩ := fun x => by rw [List.getElem?_set_ne (by omega)]; exact hr2
  have hsr : ∀ x, (σ.rows.set k x).set (k + 1) ⟨g2, udsC log, none⟩ = σ.rows.set k x := fun x => set_same' (hc x)
  have hul := udsC_len log
  have hut : List.take (log.length * 3) (udsC log) = udsC log := List.take_of_length_le (by omega)
  have hrm : (log.length + 1) * 56 ≤ 140737488355328 := by omega
  have hmx : log.length + 1 ≤ 9223372036854775807 := by omega
  have hua : udsC (log ++ [⟨key, getL l key⟩]) = udsC log ++ udC ⟨key, getL l key⟩ := by rw [udsC_app]; simp [udsC]
  obtain ⟨q, hq⟩ : ∃ q, q = getL l key := ⟨_, rfl⟩
  obtain ⟨l', hl'⟩ : ∃ l', l' = setL l key (if is then some val else none) := ⟨_, rfl⟩
  simp only [← hq, ← hl'] at hpa hua ⊢
  simp only [udC] at hpa hua
  have F := And.intro ha (And.intro hb (And.intro hc (And.intro hul (And.intro hut (And.intro hrm (And.intro hmx (And.intro hsr (True.intro))))))))
  refine callsA_body Try.func79 rfl rfl rfl ?_; refine sr fun _ hJ2 => ?_; refine hJ2 _ _ ?_; refine sq fun K3 hK3 => ?_; refine sr fun _ hJ5 => ?_; refine hJ5 _ _ ?_; refine cf ?_; refine run_skip ?_; refine hK3 _ _ ?_; refine sr fun _ hJ7 => ?_; refine ca (c := hpa _) (k := ?_); rintro _ _ ⟨g, rfl, rfl⟩; (repeat (first | simp [F] | simp (disch := omega) only [wC, if_pos, if_neg])); refine hJ7 _ _ ?_; refine sr fun _ hJ9 => ?_; refine hJ9 _ _ ?_; refine cs (fun c18 => ?_) (fun c18 => ?_)
  · (try exact nope c18); all_goals have c18p := c18; try simp [F] at c18p
    all_goals
     replace F := aF c18 F; try replace F := aF c18p F
     have hm : marks ≠ [] := by have h := c18; simp at h; exact List.length_pos_iff.1 h
     refine run_draw (by kernel_rfl) fun J10 hJ10 => ?_
     refine rp2 0 (k := ?_); refine rp2 1 (k := ?_); refine rp2 2 (k := ?_); refine rp2 3 (k := ?_); refine rp2 4 (k := ?_); refine rp2 5 (k := ?_); refine rp2 6 (k := ?_); refine dop 7 rfl ?_; repeat (first | simp [F] | simp (disch := omega) only [wC, if_pos, if_neg])
     refine ⟨by first | exact fun _ _ h => h | (refine later_list [5, 3, 2, 1, 0] (by kernel_rfl) (List.forall_mem_cons.2 ⟨fun _ => fact2 rfl rfl ?_, List.forall_mem_cons.2 ⟨fun _ => fact2 rfl rfl ?_, List.forall_mem_cons.2 ⟨fun _ => fact2 rfl rfl ?_, List.forall_mem_cons.2 ⟨fun _ => fact2 rfl rfl ?_, List.forall_mem_cons.2 ⟨fun _ => fact2 rfl rfl ?_, fun _ h => absurd h List.not_mem_nil⟩⟩⟩⟩⟩) <;> constructor <;> first | rfl | (simp [F]; done)), ?_⟩
     refine rp2 8 (k := ?_); refine rp2 9 (k := ?_); refine dop 10 rfl ?_; repeat (first | simp [F] | simp (disch := omega) only [wC, if_pos, if_neg])
     refine ⟨by first | exact fun _ _ h => h | (refine later_list [8] (by kernel_rfl) (List.forall_mem_cons.2 ⟨fun _ => fact2 rfl rfl ?_, fun _ h => absurd h List.not_mem_nil⟩) <;> constructor <;> first | rfl | (simp [F]; done)), ?_⟩
     refine dd ?_; refine hJ10 _ _ ?_; (try simp only [Then, InBlock, NoGoto, if_true]); refine answer_none rfl (.inl rfl) ?_; refine ⟨(g, g2 + 1), ?_⟩; simp only [if_neg hm]
     rw [hp2, hua]
     exact gcr
  (try exact nope c18); all_goals have c18p := c18; try simp [F] at c18p
  all_goals
   replace F := aF c18 F; try replace F := aF c18p F
   have hm : marks = [] := by have h := c18; simp at h; exact h
   refine run_skip ?_; (try simp only [Then, InBlock, NoGoto, if_true]); refine answer_none rfl (.inl rfl) ?_; refine ⟨(g, g2), ?_⟩; simp only [if_pos hm]
   rw [hp2, hsr]
   exact gcr

end Go.Proofs.Ytlkajgjaidedkaa

/-
  A store: what its methods do.
-/
namespace Go.Proofs.Ytlkajgjaidedkaa
set_option linter.unnecessarySimpa false
set_option maxRecDepth 100000
open Go Go.Vm
set_option linter.unusedSimpArgs false
set_option linter.unusedVariables false
attribute [local simp] evalL wantedA isCall opA evalA evalAll evalsA evalOpt ofValue ofCell plain binA_eql_pn binA_neq_pn binA_gtr binA_lss binA_geq binA_leq binA_add binA_sub binA_eql binA_neq binA_orI binA_shl binA_shr binA_mul binA_quo binA_rem binA_agg_eql binA_agg_neq convA_int unA_not fieldAddrA loadA partA pickA_true pickA_false pickA_bb lenA builtinA storeA splice AV.cells AV.isCell sliceA boundA intA callOf indexAddrA newObjA buildA fillA zeroA ofCells buildSliceA indexA fieldA set_appN get_appN take_appN List.getElem?_cons_zero List.getElem?_cons_succ get_sa0 get_sa1 get_sa2 get_sa3 set_sa0 set_sa1 set_sa2 set_sa3 appendA rowAppA readA roomA maxLen zeroCell Value.oneCell' Value.cells sliceRowA binA_eqn binA_neqn drop_mr

set_option maxHeartbeats 1600000 in
attribute [local simp] undefA List.getElem?_cons_zero List.getElem?_cons_succ in
theorem set_ok {σ : St} {o k n : Nat} {G : Sg} {key val : List UInt8} {t1 t2 : Tail} (h : HasS σ o k G) (hG : G.s.Ok n) (hn : n ≤ 1000000) (hk : key.length ≤ 1000000) (hv : val.length ≤ 1000000) :
    CallsA Try.prog 33 [.ptr o 0, .sl 1 (bytesA key) key.length t1, .sl 1 (bytesA val) val.length t2] σ (fun av σ' => ∃ G', G'.s = doS G.s key (some val) ∧ av = .tup [] ∧ σ' = putS σ o k G') := by
  have F := True.intro
  refine callsA_body Try.func33 rfl rfl rfl ?_; refine rg' (h := fun J1 hJ1 => ?_); refine ca (c := clone_ok hk) (k := ?_); rintro _ _ ⟨rfl, rfl⟩; (repeat (first | simp [F] | simp (disch := omega) only [wC, if_pos, if_neg])); refine ca (c := clone_ok hv) (k := ?_); rintro _ _ ⟨rfl, rfl⟩; (repeat (first | simp [F] | simp (disch := omega) only [wC, if_pos, if_neg])); refine ca (c := do_ok (key := key) (val := val) (is := true) h hG hn) (k := ?_); rintro _ _ ⟨G', e1, rfl, rfl⟩; (repeat (first | simp [F] | simp (disch := omega) only [wC, if_pos, if_neg])); refine hJ1 _ _ ?_; (try simp only [Then, InBlock, NoGoto, if_true]); refine answer_none rfl (.inl rfl) ?_; exact ⟨G', e1, rfl, rfl⟩

set_option maxHeartbeats 1600000 in
attribute [local simp] undefA List.getElem?_cons_zero List.getElem?_cons_succ in
theorem del_ok {σ : St} {o k n : Nat} {G : Sg} {key : List UInt8} {t1 : Tail} (h : HasS σ o k G) (hG : G.s.Ok n) (hn : n ≤ 1000000) (hk : key.length ≤ 1000000) :
    CallsA Try.prog 42 [.ptr o 0, .sl 1 (bytesA key) key.length t1] σ (fun av σ' => ∃ G', G'.s = doS G.s key none ∧ av = .tup [] ∧ σ' = putS σ o k G') := by
  have hdo : CallsA Try.prog 79 [.ptr o 0, .agg [.sl 1 (bytesA key) key.length .shut, .sl 0 [] 0 .full], .v (.bool false)] σ (fun av σ' => ∃ G', G'.s = doS G.s key none ∧ av = .tup [] ∧ σ' = putS σ o k G') :=
    callsA_wk (.cons (Wk.refl _) (.cons (WkL.agg (.cons (Wk.refl _) (.cons (Wk.nil _ _ _) .nil))) (.cons (Wk.refl _) .nil))) (do_ok (key := key) (val := []) (is := false) h hG hn)
  have F := True.intro
  refine callsA_body Try.func42 rfl rfl rfl ?_; refine rg' (h := fun J1 hJ1 => ?_); refine ca (c := clone_ok hk) (k := ?_); rintro _ _ ⟨rfl, rfl⟩; (repeat (first | simp [F] | simp (disch := omega) only [wC, if_pos, if_neg])); refine ca (c := hdo) (k := ?_); rintro _ _ ⟨G', e1, rfl, rfl⟩; (repeat (first | simp [F] | simp (disch := omega) only [wC, if_pos, if_neg])); refine hJ1 _ _ ?_; (try simp only [Then, InBlock, NoGoto, if_true]); refine answer_none rfl (.inl rfl) ?_; exact ⟨G', e1, rfl, rfl⟩

set_option maxHeartbeats 1600000 in
attribute [local simp] undefA List.getElem?_cons_zero List.getElem?_cons_succ byC in
theorem get_ok {σ : St} {o k n : Nat} {G : Sg} {key : List UInt8} {t1 : Tail} (h : HasS σ o k G) (hG : G.s.Ok n) (hn : n ≤ 1000000) :
    CallsA Try.prog 24 [.ptr o 0, .sl 1 (bytesA key) key.length t1] σ (fun av σ' => av = .tup [byC ((getL G.s.l key).getD []), .v (.bool (getL G.s.l key).isSome)] ∧ σ = σ') := by
  refine callsA_gcS ?_ (by simp [AV.under, underL, byC_under])
  have hfi := find_ok (key := key) (t := t1) h hG.srt (by have := hG.l; omega)
  have hgat : ∀ v, getL G.s.l key = some v → _ := fun v h => getL_some_at (key := key) (v := v) hG.srt h
  have hhas : hasL G.s.l key = (getL G.s.l key).isSome := rfl
  have hkv := hG.kv
  obtain ⟨ho, hr1, hr2, hr3⟩ := h
  obtain ⟨⟨l, log, marks⟩, g1, g2, g3⟩ := G
  simp only [stC, stR1, stR2, stR3] at ho hr1 hr2 hr3 hfi hgat hhas hkv ⊢
  obtain ⟨i, hi⟩ : ∃ i, i = findL l key := ⟨_, rfl⟩
  obtain ⟨q, hq⟩ : ∃ q, q = getL l key := ⟨_, rfl⟩
  simp only [← hi, ← hq] at hgat hhas hfi ⊢
  rw [hhas] at hfi
  cases q with
  | none =>
    have F := And.intro ho (And.intro hr1 (True.intro))
    refine callsA_body Try.func24 rfl rfl rfl ?_; refine sq fun K1 hK1 => ?_; refine rg' (h := fun J2 hJ2 => ?_); refine hJ2 _ _ ?_; refine hK1 _ _ ?_; refine sq fun K3 hK3 => ?_; refine sq fun K4 hK4 => ?_; refine rg' (h := fun J5 hJ5 => ?_); refine hJ5 _ _ ?_; refine hK4 _ _ ?_; refine cf ?_; refine run_skip ?_; refine hK3 _ _ ?_; refine sq fun K6 hK6 => ?_; refine rg' (h := fun J7 hJ7 => ?_); refine ca (c := hfi) (k := ?_); rintro _ _ ⟨rfl, rfl⟩; (repeat (first | simp [F] | simp (disch := omega) only [wC, if_pos, if_neg])); refine hJ7 _ _ ?_; refine hK6 _ _ ?_; refine sq fun K8 hK8 => ?_; refine sq fun K9 hK9 => ?_; refine rg' (h := fun J10 hJ10 => ?_); refine hJ10 _ _ ?_; refine hK9 _ _ ?_; refine ct ?_; refine sq fun K11 hK11 => ?_; refine rg' (h := fun J12 hJ12 => ?_); refine hJ12 _ _ ?_; refine hK11 _ _ ?_; refine run_ret ?_; (try simp only [Then, InBlock, NoGoto]); refine answer_tmp2 rfl (.inr rfl) ?_; exact gcr (hA := WkL.tup (.cons (Wk.nil _ _ _) (.cons (Wk.refl _) .nil)))
  | some v =>
    obtain ⟨hil, hik, hiv⟩ := hgat v rfl
    have hat := (prsC_at hil).2
    have hvl := (hkv _ (List.getElem_mem hil)).2
    rw [hiv] at hat hvl
    simp only [byC] at hat
    have F := And.intro ho (And.intro hr1 (And.intro hil (And.intro hat (True.intro))))
    refine callsA_body Try.func24 rfl rfl rfl ?_; refine sq fun K1 hK1 => ?_; refine rg' (h := fun J2 hJ2 => ?_); refine hJ2 _ _ ?_; refine hK1 _ _ ?_; refine sq fun K3 hK3 => ?_; refine sq fun K4 hK4 => ?_; refine rg' (h := fun J5 hJ5 => ?_); refine hJ5 _ _ ?_; refine hK4 _ _ ?_; refine cf ?_; refine run_skip ?_; refine hK3 _ _ ?_; refine sq fun K6 hK6 => ?_; refine rg' (h := fun J7 hJ7 => ?_); refine ca (c := hfi) (k := ?_); rintro _ _ ⟨rfl, rfl⟩; (repeat (first | simp [F] | simp (disch := omega) only [wC, if_pos, if_neg])); refine hJ7 _ _ ?_; refine hK6 _ _ ?_; refine sq fun K8 hK8 => ?_; refine sq fun K9 hK9 => ?_; refine rg' (h := fun J10 hJ10 => ?_); refine hJ10 _ _ ?_; refine hK9 _ _ ?_; refine cf ?_; refine run_skip ?_; refine hK8 _ _ ?_; refine sq fun K11 hK11 => ?_; refine rg' (h := fun J12 hJ12 => ?_); refine ca (c := clone_ok hvl) (k := ?_); rintro _ _ ⟨rfl, rfl⟩; (repeat (first | simp [F] | simp (disch := omega) only [wC, if_pos, if_neg])); refine hJ12 _ _ ?_; refine hK11 _ _ ?_; refine run_ret ?_; (try simp only [Then, InBlock, NoGoto]); refine answer_tmp2 rfl (.inr rfl) ?_; exact gcr

set_option maxHeartbeats 1600000 in
attribute [local simp] undefA List.getElem?_cons_zero List.getElem?_cons_succ in
theorem new_st_ok {σ : St} : CallsA Try.prog 22 [] σ (fun av σ' => av = .ptr σ.objs.length 0 ∧ σ' = { σ with objs := σ.objs ++ [stC σ.rows.length newSg], rows := σ.rows ++ [stR1 newSg, stR2 newSg, stR3 newSg] }) := by
  refine callsA_new_st ?_
  have F := True.intro
  refine callsA_body Try.func22 rfl rfl rfl ?_; refine sr fun _ hJ2 => ?_; refine hJ2 _ _ ?_; refine sr fun _ hJ4 => ?_; refine hJ4 _ _ ?_; refine ra ?_; exact rt

structure RbS where
  l : List Pr
  n : Nat
  g : Nat
end Go.Proofs.Ytlkajgjaidedkaa

/-
  A store: its keys that begin so; another one; are two alike?
-/
namespace Go.Proofs.Ytlkajgjaidedkaa
set_option linter.unnecessarySimpa false
set_option maxRecDepth 100000
open Go Go.Vm
set_option linter.unusedSimpArgs false
set_option linter.unusedVariables false
attribute [local simp] evalL wantedA isCall opA evalA evalAll evalsA evalOpt ofValue ofCell plain binA_eql_pn binA_neq_pn binA_gtr binA_lss binA_geq binA_leq binA_add binA_sub binA_eql binA_neq binA_orI binA_shl binA_shr binA_mul binA_quo binA_rem binA_agg_eql binA_agg_neq convA_int unA_not fieldAddrA loadA partA pickA_true pickA_false pickA_bb lenA builtinA storeA splice AV.cells AV.isCell sliceA boundA intA callOf indexAddrA newObjA buildA fillA zeroA ofCells buildSliceA indexA fieldA set_appN get_appN take_appN List.getElem?_cons_zero List.getElem?_cons_succ get_sa0 get_sa1 get_sa2 get_sa3 set_sa0 set_sa1 set_sa2 set_sa3 sliceRowA binA_eqn binA_neqn drop_mr

def keysL (l : List Pr) (p : List UInt8) : List (List UInt8) := ((l.drop (findL l p)).takeWhile fun x => preB x.k p).map (·.k)

theorem takeWhile_stop {α : Type} {f : α → Bool} : ∀ {l : List α} {j : Nat}, (∀ x ∈ l.take j, f x = true) → (∀ x, l[j]? = some x → f x = false) → l.takeWhile f = l.take j
  | [], _, _, _ => by simp
  | a :: l, 0, _, h => by simp [h a rfl]
  | a :: l, j + 1, h1, h2 => by
    have ha := h1 a (by simp)
    rw [List.takeWhile_cons, if_pos ha, List.take_succ_cons, takeWhile_stop (j := j) (fun x hx => h1 x (by simp [hx])) (fun x hx => h2 x (by simpa using hx))]

set_option maxHeartbeats 1600000 in
attribute [local simp] undefA List.getElem?_cons_zero List.getElem?_cons_succ byC drop_mr prsC_noObj udsC_noObj mkC_noObj kysC_noObj bytes_noObj lsA_nil lsT_nil lsZ_nil lsL_nil gcO_ls noObj_ls in
theorem keys_ok {σ : St} {o k n : Nat} {G : Sg} {p : List UInt8} {t : Tail} (h : HasS σ o k G) (hG : G.s.Ok n) (hn : n ≤ 1000000) :
    CallsA Try.prog 28 [.ptr o 0, .sl 1 (bytesA p) p.length t] σ (fun av σ' => av = .sl 1 (kysC (keysL G.s.l p)) (keysL G.s.l p).length .shut ∧ σ = σ') := by
  refine callsA_gcS ?_ (by simp [AV.under, kysC_under])
  have hfi := find_ok (key := p) (t := t) h hG.srt (by have := hG.l; omega)
  have hkv := hG.kv
  have hll := hG.l
  obtain ⟨ho, hr1, hr2, hr3⟩ := h
  obtain ⟨⟨l, log, marks⟩, g1, g2, g3⟩ := G
  simp only [stC, stR1, stR2, stR3] at ho hr1 hr2 hr3 hfi hkv hll ⊢
  have hle := findL_le l p
  have hkl : keysL l p = ((l.drop (findL l p)).takeWhile fun x => preB x.k p).map (·.k) := rfl
  obtain ⟨i, hi⟩ : ∃ i, i = findL l p := ⟨_, rfl⟩
  simp only [← hi] at hfi hle hkl
  rw [hkl]
  obtain ⟨D, hD⟩ : ∃ D, D = l.drop i := ⟨_, rfl⟩
  have hDl : D.length = l.length - i := by rw [hD]; simp
  rw [← hD]
  have hi2 : i ≤ l.length := hle
  have hlc := prsC_len l
  obtain ⟨K, hK⟩ : ∃ K, K = D.map (·.k) := ⟨_, rfl⟩
  have hKj : ∀ j, (D.take j).map (·.k) = K.take j := fun j => by rw [hK]; simp
  have hKl : K.length = l.length - i := by rw [hK]; simp [hDl]
  have F := And.intro ho (And.intro hr1 (And.intro hi2 (And.intro hlc (True.intro))))
  refine callsA_body Try.func28 rfl rfl rfl ?_; refine sr fun _ hJ2 => ?_; refine hJ2 _ _ ?_; refine sq fun K3 hK3 => ?_; refine sr fun _ hJ5 => ?_; refine hJ5 _ _ ?_; refine cf ?_; refine run_skip ?_; refine hK3 _ _ ?_; refine sr fun _ hJ7 => ?_; refine hJ7 _ _ ?_; refine sr fun _ hJ9 => ?_; refine ca (c := hfi) (k := ?_); rintro _ _ ⟨rfl, rfl⟩; (repeat (first | simp [F] | simp (disch := omega) only [wC, if_pos, if_neg])); refine hJ9 _ _ ?_; refine sq fun K10 hK10 => ?_; refine sr fun _ hJ12 => ?_; refine hJ12 _ _ ?_; refine run_block_k ?_; refine run_loopG (X := Nat) [1, 4, 23, 24] (fun j ρ σ1 => (j ≤ l.length - i) ∧ (∀ x ∈ D.take j, preB x.k p = true) ∧ (ρ 5 = lsA σ.toks.length 1 (kysC (K.take j)) j) ∧ (ρ 25 = .v (.int .i64 j)) ∧ (σ1 = { σ with toks := σ.toks ++ lsT j })) (fun j => l.length - i - j) (0) ?st1 ?rd1
  case st1 =>
   refine ⟨lp, ?_, lp, lp, ?_⟩
   · intro x hx
     simp at hx
   · simp [lsT_nil]
  case rd1 =>
   rintro j ρ1 σ1 hF1 ⟨h1, h2, h5, h25, hσ⟩; obtain rfl := hσ.symm
   have f1 := keepL hF1
   (try simp [KeepL, F] at f1); replace F := aF h5 F; replace F := aF h25 F; (try replace F := aF f1 F); refine sr fun _ hJ14 => ?_; refine hJ14 _ _ ?_; refine sq fun K15 hK15 => ?_; refine cs (fun c26 => ?_) (fun c26 => ?_)
   · (try exact nope c26); all_goals have c26p := c26; try simp [F] at c26p
     all_goals
      replace F := aF c26 F; (try replace F := aF c26p F); refine run_skip ?_; refine hK15 _ _ ?_; refine sq fun K16 hK16 => ?_; refine run_block_k ?_; refine sq fun K17 hK17 => ?_
      have hlt : j < l.length - i := by have h := c26; simp at h; omega
      have hjD : j < D.length := by omega
      obtain ⟨x, hx⟩ : ∃ x, x = D[j] := ⟨_, rfl⟩
      have hxl : x = l[i + j] := by rw [hx]; simp only [hD]; rw [List.getElem_drop]
      have hxm := (hkv x (by rw [hxl]; exact List.getElem_mem _)).1
      have hat : List.take 2 (List.drop (i * 2 + j * 2) (prsC l)) = [byC x.k, byC x.v] := by rw [show i * 2 + j * 2 = (i + j) * 2 by omega, prsC_drop, List.drop_eq_getElem_cons (by omega), ← hxl]; rfl
      simp only [byC] at hat
      have hb2 : i * 2 + j * 2 + 2 ≤ l.length * 2 := by omega
      have htk : D.take (j + 1) = D.take j ++ [x] := by rw [hx]; exact (List.take_append_getElem hjD).symm
      have htkK : K.take (j + 1) = K.take j ++ [x.k] := by rw [← hKj, ← hKj, htk]; simp
      have hap : ∀ objs, appendA Try.prog 41 (lsA σ.toks.length 1 (kysC (K.take j)) j) (.sl 1 [.sl 1 (bytesA x.k) x.k.length .shut] 1 .full) ⟨objs, σ.toks ++ lsT j, σ.gl, σ.rows⟩ = some (lsA σ.toks.length 1 (kysC (K.take (j + 1))) (j + 1), ⟨objs, σ.toks ++ lsT (j + 1), σ.gl, σ.rows⟩) := fun objs => by
        rw [htkK, kysC_app]
        exact append_ls elemT_41 ti_23 (by decide) rfl (fun h => by simp [h, kysC]) rfl (by omega) (by simp only [roomA]; omega) (by simp only [maxLen]; omega)
      replace F := aF hlt (And.intro hat (And.intro hb2 (And.intro hap F))); refine rg' (h := fun J18 hJ18 => ?_); refine hJ18 _ _ ?_; refine hK17 _ _ ?_; refine sq fun K19 hK19 => ?_; refine sr fun _ hJ21 => ?_; refine ca (c := prefix_ok) (k := ?_); rintro _ _ ⟨rfl, rfl⟩; (repeat (first | simp [F] | simp (disch := omega) only [wC, if_pos, if_neg])); refine hJ21 _ _ ?_; refine cs (fun c33 => ?_) (fun c33 => ?_)
      · (try exact nope c33); all_goals have c33p := c33; try simp [F] at c33p
        all_goals
         replace F := aF c33 F; try replace F := aF c33p F
         have hpx : preB x.k p = false := by have h := c33; simpa using h
         have hstop := takeWhile_stop (l := D) (j := j) h2 (fun y hy => by rw [List.getElem?_eq_getElem hjD, ← hx] at hy; cases hy; exact hpx)
         have hlen : (K.take j).length = j := by rw [List.length_take]; omega
         have hwk := lsA_wk (k := σ.toks.length) (sz := 1) (n := j) (cs := kysC (K.take j)) (fun h => by simp [h, kysC])
         refine run_exit ?_; refine hK10 _ _ ?_; refine sr fun _ hJ23 => ?_; refine hJ23 _ _ ?_; refine ra ?_
         rw [hstop, hKj, hlen]
         exact gcr (hA := by simp only [putA_get]; simp [F]; exact hwk)
      (try exact nope c33); all_goals have c33p := c33; try simp [F] at c33p
      all_goals
       replace F := aF c33 F; (try replace F := aF c33p F); refine run_skip ?_; refine hK19 _ _ ?_; refine rg' (h := fun J24 hJ24 => ?_); refine ca (c := clone_ok hxm) (k := ?_); rintro _ _ ⟨rfl, rfl⟩; (repeat (first | simp [F] | simp (disch := omega) only [wC, if_pos, if_neg])); refine hJ24 _ _ ?_; refine hK16 _ _ ?_; refine rg' (h := fun J25 hJ25 => ?_); refine hJ25 _ _ ?_; refine ⟨gk, (j + 1), ⟨kpG, lpG, ?_, lpG, lpG, lpG⟩, lpG⟩
       · rw [htk]
         intro y hy
         rcases List.mem_append.1 hy with h | h
         · exact h2 y h
         · simp at h; rw [h]; have h := c33; simpa using h
   (try exact nope c26); all_goals have c26p := c26; try simp [F] at c26p
   all_goals
    replace F := aF c26 F; try replace F := aF c26p F
    have hjl : D.take j = D := List.take_of_length_le (by have h := c26; simp at h; omega)
    have hstop := takeWhile_stop (l := D) (j := j) h2 (fun y hy => by rw [List.getElem?_eq_none (by have h := c26; simp at h; omega)] at hy; cases hy)
    have hlen : (K.take j).length = j := by rw [List.length_take]; omega
    have hwk := lsA_wk (k := σ.toks.length) (sz := 1) (n := j) (cs := kysC (K.take j)) (fun h => by simp [h, kysC])
    refine run_exit ?_; refine hK10 _ _ ?_; refine sr fun _ hJ27 => ?_; refine hJ27 _ _ ?_; refine ra ?_
    rw [hstop, hKj, hlen]
    exact gcr (hA := by simp only [putA_get]; simp [F]; exact hwk)

theorem getL_of_mem : ∀ {l : List Pr} {p : Pr}, Srt l → p ∈ l → getL l p.k = some p.v
  | q :: l, p, hs, h => by
    have l1 := List.pairwise_cons.1 hs
    rcases List.mem_cons.1 h with e | e
    · subst e; simp [getL]
    · have := l1.1 p e
      rw [getL, if_neg (ltB_ne this)]
      exact getL_of_mem l1.2 e
theorem preB_nil (p : List UInt8) : preB p [] = true := by simp [preB]
theorem kysC_at {l : List (List UInt8)} {i : Nat} (h : i < l.length) : (kysC l)[i]? = some (byC l[i]) := by simp [kysC, h]
structure RsS where
  i : Nat
  d : Bool
  out : List Pr
def wasC (l : List (List Pr)) : List AV := l.map fun w => .sl 2 (prsC w) w.length .shut
structure RS where
  L : List Pr
  was : List (List Pr)
  g : Nat
def rmC (q : Nat) (M : RS) : List AV := [.sl 2 (prsC M.L) M.L.length .shut, .row q M.g 0 1 M.was.length]
def rmR (M : RS) : RowSt := ⟨M.g, wasC M.was, none⟩
structure HasR (σ : St) (m q : Nat) (M : RS) : Prop where
  o : σ.objs[m]? = some (rmC q M)
  r : σ.rows[q]? = some (rmR M)
def putR (σ : St) (m q : Nat) (M : RS) : St := { σ with objs := σ.objs.set m (rmC q M), rows := σ.rows.set q (rmR M) }
theorem HasR.put {σ : St} {m q : Nat} {M : RS} (h : HasR σ m q M) (M' : RS) : HasR (putR σ m q M') m q M' := ⟨set_self_of h.o _, set_self_of h.r _⟩
theorem HasR.app {σ : St} {m q : Nat} {M : RS} (h : HasR σ m q M) (l : List (List AV)) : HasR { σ with objs := σ.objs ++ l } m q M := ⟨by simp only; rw [List.getElem?_append_left (lt_of_get h.o)]; exact h.o, h.r⟩
structure Apart (o k m q : Nat) : Prop where
  o : o ≠ m
  k0 : q ≠ k
  k1 : q ≠ k + 1
  k2 : q ≠ k + 2
theorem HasR.putS {σ : St} {o k m q : Nat} {M : RS} (h : HasR σ m q M) (ha : Apart o k m q) (G : Sg) : HasR (putS σ o k G) m q M :=
  ⟨by simp only [Go.Vm.putS]; rw [List.getElem?_set_ne ha.o]; exact h.o, by simp only [Go.Vm.putS]; rw [List.getElem?_set_ne (Ne.symm ha.k2), List.getElem?_set_ne (Ne.symm ha.k1), List.getElem?_set_ne (Ne.symm ha.k0)]; exact h.r⟩
theorem HasS.putR {σ : St} {o k m q : Nat} {G : Sg} (h : HasS σ o k G) (ha : Apart o k m q) (M : RS) : HasS (putR σ m q M) o k G :=
  ⟨by simp only [Proofs.Ytlkajgjaidedkaa.putR]; rw [List.getElem?_set_ne (Ne.symm ha.o)]; exact h.o, by simp only [Proofs.Ytlkajgjaidedkaa.putR]; rw [List.getElem?_set_ne ha.k0]; exact h.r1, by simp only [Proofs.Ytlkajgjaidedkaa.putR]; rw [List.getElem?_set_ne ha.k1]; exact h.r2, by simp only [Proofs.Ytlkajgjaidedkaa.putR]; rw [List.getElem?_set_ne ha.k2]; exact h.r3⟩
theorem putS_app {σ : St} {o k : Nat} {G : Sg} (h : HasS σ o k G) (G' : Sg) (l : List (List AV)) : putS { σ with objs := σ.objs ++ l } o k G' = { putS σ o k G' with objs := (putS σ o k G').objs ++ l } := by
  simp only [putS]; rw [List.set_append_left _ _ (lt_of_get h.o)]
attribute [local simp] appendA readA roomA maxLen in
set_option maxHeartbeats 1600000 in
attribute [local simp] undefA List.getElem?_cons_zero List.getElem?_cons_succ in
theorem join0_ok {σ : St} {p : List UInt8} {t : Tail} (hp : p.length ≤ 1000000) :
    CallsA Try.prog 32 [.sl 1 (bytesA p) p.length t, .sl 0 [] 0 .full] σ (fun av σ' => av = .sl 1 (bytesA p) p.length .shut ∧ σ = σ') := by
  refine callsA_gcS ?_ (by simp [AV.under, under_bytes])
  have h1 : p.length ≤ 140737488355328 := by omega
  have h2 : p.length ≤ 9223372036854775807 := by omega
  have F := And.intro h1 (And.intro h2 (True.intro))
  refine callsA_body Try.func32 rfl rfl rfl ?_; refine sr fun _ hJ2 => ?_; refine hJ2 _ _ ?_; refine sr fun _ hJ4 => ?_; refine hJ4 _ _ ?_; refine sr fun _ hJ6 => ?_; refine hJ6 _ _ ?_; refine sr fun _ hJ8 => ?_; refine hJ8 _ _ ?_; refine ra ?_; exact gcr
end Go.Proofs.Ytlkajgjaidedkaa

/-
  Deeds: the store's and the document's stay alike.
-/
namespace Go.Proofs.Ytlkajgjaidedkaa
set_option linter.unnecessarySimpa false
set_option maxRecDepth 100000
open Go Go.Vm
set_option linter.unusedSimpArgs false
set_option linter.unusedVariables false

structure Ac where
  d : UInt8
  k : List UInt8
  v : List UInt8
structure R5 (s : Sto) (M : RS) (n : Nat) : Prop where
  ok : s.Ok n
  l : s.l = M.L
  len : s.marks.length = M.was.length
  roll : ∀ (j : Nat) x w, s.marks[j]? = some x → M.was[j]? = some w → w = unrollL s.l (s.log.drop x)
  mono : s.marks.Pairwise (· ≤ ·)
  wl : ∀ w ∈ M.was, w.length ≤ n

theorem R5.set {s : Sto} {M : RS} {n : Nat} (h : R5 s M n) {k : List UInt8} {o : Option (List UInt8)} (hk : k.length ≤ 1000000) (ho : (o.getD []).length ≤ 1000000) : R5 (doS s k o) ⟨setL M.L k o, M.was, M.g⟩ (n + 1) := by
  refine ⟨doS_ok h.ok hk ho, by simp only [doS]; rw [h.l], h.len, fun j x w hx hw => ?_, h.mono, fun w hw => Nat.le_succ_of_le (h.wl w hw)⟩
  have hm : s.marks ≠ [] := by intro e; simp only [doS] at hx; rw [e] at hx; simp at hx
  have hxl : x ≤ s.log.length := h.ok.mks x (List.mem_of_getElem? hx)
  simp only [doS, if_neg hm]
  rw [List.drop_append_of_le_length hxl, unrollL_app]
  have : unrollL (setL s.l k o) [⟨k, getL s.l k⟩] = s.l := setL_undo h.ok.srt k o
  rw [this]
  exact h.roll j x w hx hw

end Go.Proofs.Ytlkajgjaidedkaa

/-
  Few deeds; both stores of a law's own; the law StoreGets.
-/
namespace Go.Proofs.Ytlkajgjaidedkaa
set_option linter.unnecessarySimpa false
set_option maxRecDepth 100000
open Go Go.Vm
set_option linter.unusedSimpArgs false
set_option linter.unusedVariables false
attribute [local simp] evalL wantedA isCall opA evalA evalAll evalsA evalOpt ofValue ofCell plain binA_eql_pn binA_neq_pn binA_gtr binA_lss binA_geq binA_leq binA_add binA_sub binA_eql binA_neq binA_orI binA_shl binA_shr binA_mul binA_quo binA_rem binA_agg_eql binA_agg_neq convA_int unA_not fieldAddrA loadA partA pickA_true pickA_false pickA_bb lenA builtinA storeA splice AV.cells AV.isCell sliceA boundA intA callOf indexAddrA newObjA buildA fillA zeroA ofCells buildSliceA indexA fieldA set_appN get_appN take_appN List.getElem?_cons_zero List.getElem?_cons_succ get_sa0 get_sa1 get_sa2 get_sa3 set_sa0 set_sa1 set_sa2 set_sa3 sliceRowA binA_eqn binA_neqn drop_mr

def St2 (σ : St) (G : Sg) (M : RS) : St := { σ with objs := σ.objs ++ [stC σ.rows.length G, rmC (σ.rows.length + 3) M], rows := σ.rows ++ [stR1 G, stR2 G, stR3 G, rmR M] }
theorem St2.s (σ : St) (G : Sg) (M : RS) : HasS (St2 σ G M) σ.objs.length σ.rows.length G := ⟨by simp [St2], by simp [St2], by simp [St2], by simp [St2]⟩
theorem St2.r (σ : St) (G : Sg) (M : RS) : HasR (St2 σ G M) (σ.objs.length + 1) (σ.rows.length + 3) M := ⟨by simp [St2], by simp [St2]⟩
theorem St2.a (σ : St) : Apart σ.objs.length σ.rows.length (σ.objs.length + 1) (σ.rows.length + 3) := ⟨by omega, by omega, by omega, by omega⟩
theorem St2.put (σ : St) (G G' : Sg) (M M' : RS) : putR (putS (St2 σ G M) σ.objs.length σ.rows.length G') (σ.objs.length + 1) (σ.rows.length + 3) M' = St2 σ G' M' := by simp [St2, putS, putR]
section
variable {z : Zone} {P : Program} {N : Nat} {ρ : Nat → AV} {σ : St}
end

structure LS where
  i : Nat
  G : Sg
  M : RS
structure AS where
  i : Nat
  G : Sg
  M : RS

section
variable {z : Zone} {P : Program} {N : Nat} {ρ : Nat → AV}
end

def St4 (σ : St) (G : Sg) (M M2 : RS) (W : Sg) : St := { σ with objs := σ.objs ++ [stC σ.rows.length G, rmC (σ.rows.length + 3) M, rmC (σ.rows.length + 4) M2, stC (σ.rows.length + 5) W], rows := σ.rows ++ [stR1 G, stR2 G, stR3 G, rmR M, rmR M2, stR1 W, stR2 W, stR3 W] }
theorem St4.s (σ : St) (G : Sg) (M M2 : RS) (W : Sg) : HasS (St4 σ G M M2 W) σ.objs.length σ.rows.length G := ⟨by simp [St4], by simp [St4], by simp [St4], by simp [St4]⟩
theorem St4.r (σ : St) (G : Sg) (M M2 : RS) (W : Sg) : HasR (St4 σ G M M2 W) (σ.objs.length + 2) (σ.rows.length + 4) M2 := ⟨by simp [St4], by simp [St4]⟩
theorem St4.w (σ : St) (G : Sg) (M M2 : RS) (W : Sg) : HasS (St4 σ G M M2 W) (σ.objs.length + 3) (σ.rows.length + 5) W := ⟨by simp [St4], by simp [St4], by simp only [St4]; rw [List.getElem?_append_right (by omega), show σ.rows.length + 5 + 1 - σ.rows.length = 6 by omega]; rfl, by simp only [St4]; rw [List.getElem?_append_right (by omega), show σ.rows.length + 5 + 2 - σ.rows.length = 7 by omega]; rfl⟩
theorem St4.a (σ : St) : Apart σ.objs.length σ.rows.length (σ.objs.length + 2) (σ.rows.length + 4) := ⟨by omega, by omega, by omega, by omega⟩
theorem St4.put (σ : St) (G G' : Sg) (M M2 M' : RS) (W : Sg) : putR (putS (St4 σ G M M2 W) σ.objs.length σ.rows.length G') (σ.objs.length + 2) (σ.rows.length + 4) M' = St4 σ G' M M' W := by simp [St4, putS, putR]
structure BS where
  i : Nat
  G : Sg
  M : RS
  M2 : RS
  sg : Sto
  r : List (List Pr)
def Sab (σ : St) (A : Sg) (M : RS) (B : Sg) (N : RS) : St := { σ with objs := σ.objs ++ [stC σ.rows.length A, rmC (σ.rows.length + 3) M, stC (σ.rows.length + 4) B, rmC (σ.rows.length + 7) N], rows := σ.rows ++ [stR1 A, stR2 A, stR3 A, rmR M, stR1 B, stR2 B, stR3 B, rmR N] }
theorem Sab.a (σ : St) (A : Sg) (M : RS) (B : Sg) (N : RS) : HasS (Sab σ A M B N) σ.objs.length σ.rows.length A := ⟨by simp [Sab], by simp [Sab], by simp [Sab], by simp [Sab]⟩
theorem Sab.b (σ : St) (A : Sg) (M : RS) (B : Sg) (N : RS) : HasS (Sab σ A M B N) (σ.objs.length + 2) (σ.rows.length + 4) B := ⟨by simp [Sab], by simp [Sab], by simp only [Sab]; rw [List.getElem?_append_right (by omega), show σ.rows.length + 4 + 1 - σ.rows.length = 5 by omega]; rfl, by simp only [Sab]; rw [List.getElem?_append_right (by omega), show σ.rows.length + 4 + 2 - σ.rows.length = 6 by omega]; rfl⟩
structure CS where
  i : Nat
  A : Sg
  B : Sg
  MA : RS
  MB : RS
  l : List (List AV)
  r : List RowSt
def S3 (σ : St) (G : Sg) (M : RS) (C : Sg) : St := { σ with objs := σ.objs ++ [stC σ.rows.length G, rmC (σ.rows.length + 3) M, stC (σ.rows.length + 4) C], rows := σ.rows ++ [stR1 G, stR2 G, stR3 G, rmR M, stR1 C, stR2 C, stR3 C] }
theorem S3.s (σ : St) (G : Sg) (M : RS) (C : Sg) : HasS (S3 σ G M C) σ.objs.length σ.rows.length G := ⟨by simp [S3], by simp [S3], by simp [S3], by simp [S3]⟩
theorem S3.r (σ : St) (G : Sg) (M : RS) (C : Sg) : HasR (S3 σ G M C) (σ.objs.length + 1) (σ.rows.length + 3) M := ⟨by simp [S3], by simp [S3]⟩
theorem S3.c (σ : St) (G : Sg) (M : RS) (C : Sg) : HasS (S3 σ G M C) (σ.objs.length + 2) (σ.rows.length + 4) C := ⟨by simp [S3], by simp [S3], by simp only [S3]; rw [List.getElem?_append_right (by omega), show σ.rows.length + 4 + 1 - σ.rows.length = 5 by omega]; rfl, by simp only [S3]; rw [List.getElem?_append_right (by omega), show σ.rows.length + 4 + 2 - σ.rows.length = 6 by omega]; rfl⟩
theorem S3.put (σ : St) (G : Sg) (M : RS) (C C' : Sg) : putS (S3 σ G M C) (σ.objs.length + 2) (σ.rows.length + 4) C' = S3 σ G M C' := by
  have h1 : σ.rows.length + 4 + 1 - σ.rows.length = 5 := by omega
  have h2 : σ.rows.length + 4 + 2 - σ.rows.length = 6 := by omega
  simp only [S3, putS]
  rw [List.set_append_right _ _ (by omega), List.set_append_right _ _ (by omega), List.set_append_right _ _ (by omega), List.set_append_right _ _ (by omega), h1, h2, show σ.objs.length + 2 - σ.objs.length = 2 by omega, show σ.rows.length + 4 - σ.rows.length = 4 by omega]
  rfl
structure DS where
  i : Nat
  C : Sg
  MC : RS
  l : List (List AV)
  r : List RowSt
end Go.Proofs.Ytlkajgjaidedkaa

/-
  The codec's writer, whatever it holds.
-/
namespace Go.Proofs.Ytlkajgjaidedkaa
set_option linter.unnecessarySimpa false
open Go Go.Vm
set_option linter.unusedSimpArgs false
set_option linter.unusedVariables false
set_option maxRecDepth 100000
attribute [local simp] evalL wantedA isCall opA evalA evalAll evalsA evalOpt ofValue ofCell plain binA_eql_pn binA_neq_pn binA_gtr binA_lss binA_geq binA_leq binA_add binA_sub binA_eql binA_neq binA_or binA_shl binA_shr binA_mul binA_quo binA_rem binA_agg_eql binA_agg_neq convA_int unA_not fieldAddrA loadA partA pickA_true pickA_false pickA_bb lenA builtinA storeA splice AV.cells AV.isCell sliceA boundA intA callOf indexAddrA newObjA buildA fillA zeroA ofCells buildSliceA indexA fieldA coinsC_at

theorem callsA_gcO {σ : St} {P : Program} {f : FuncId} {args : List AV} {Q Q' : AV → St → Prop} (k : CallsA P f args σ Q) (h : ∀ av σ0, Q av σ0 → GoneO σ σ0 ∧ Q' (av.gcO σ.objs.length) (σ.trimO σ0)) : CallsA P f args σ Q' := by
  intro G w vs R hS hl hr hK
  refine k G w vs R hS hl hr (fun v av σ0 G' w' hq hE hS' hv => ?_)
  obtain ⟨hg, hq'⟩ := h av σ0 hq
  obtain ⟨hE2, hS2⟩ := hS.trimO hS' hE hg
  exact hK v _ _ _ _ hq' hE2 hS2 (hv.gcO hE hS.tot)

theorem callsA_gcOI {σ : St} {P : Program} {f : FuncId} {args : List AV} {A : AV} {ι : Type} {Pi : ι → Prop} {τ : ι → St} (k : CallsA P f args σ (fun av σ' => ∃ i, Pi i ∧ av = A ∧ ∃ l, σ' = { τ i with objs := (τ i).objs ++ l }))
    (hA : A.gcO σ.objs.length = A) (hl : ∀ i, (τ i).objs.length = σ.objs.length) (hgl : ∀ i, (τ i).gl = σ.gl) (hkp : ∀ i, Kp σ.objs.length σ.objs (τ i).objs) (hkr : ∀ i, KpR σ.objs.length σ.rows (τ i).rows) : CallsA P f args σ (fun av σ' => av = A ∧ ∃ i, Pi i ∧ σ' = τ i) := by
  refine callsA_gcO k (fun av σ0 ⟨i, hi, hv, l, h⟩ => ?_)
  subst h hv
  refine ⟨gone_kp (hgl i) (kp_more (hkp i)) (hkr i), hA, i, hi, ?_⟩
  have := hl i
  simp [St.trimO, ← this]

/-! ### What a writer holds -/
def wrA (k : Nat) (l : List UInt8) : AV := if l = [] then .sl 0 [] 0 .full else .sl 1 (bytesA l) l.length (.own k)
def Tk (tk : List Nat) (k : Nat) (l : List UInt8) : Prop := l = [] ∨ tk[k]? = some l.length

structure Wr (tk : List Nat) (k : Nat) (l : List UInt8) (tk' : List Nat) (k' : Nat) (l' : List UInt8) : Prop where
  tok : Tk tk' k' l'
  len : tk.length ≤ tk'.length
  keep : ∀ (j v : Nat), (l = [] ∨ j ≠ k) → tk[j]? = some v → tk'[j]? = some v
  own : l' = [] ∨ (k' = k ∧ l ≠ []) ∨ tk.length ≤ k'

theorem Wr.refl {tk : List Nat} {k : Nat} {l : List UInt8} (h : Tk tk k l) : Wr tk k l tk k l := ⟨h, Nat.le_refl _, fun _ _ _ h => h, by
  by_cases e : l = []
  · exact .inl e
  · exact .inr (.inl ⟨rfl, e⟩)⟩

theorem lt_get {l : List Nat} {i v : Nat} (h : l[i]? = some v) : i < l.length := (List.getElem?_eq_some_iff.1 h).1

theorem Wr.trans {tk tk1 tk2 : List Nat} {k k1 k2 : Nat} {l l1 l2 : List UInt8} (h : Wr tk k l tk1 k1 l1) (g : Wr tk1 k1 l1 tk2 k2 l2) : Wr tk k l tk2 k2 l2 := by
  refine ⟨g.tok, Nat.le_trans h.len g.len, fun j v hj hv => g.keep j v ?_ (h.keep j v hj hv), ?_⟩
  · have hlt := lt_get hv
    rcases h.own with e | ⟨e, e2⟩ | e
    · exact .inl e
    · rcases hj with hj | hj
      · exact absurd hj e2
      · exact .inr (by omega)
    · exact .inr (by omega)
  · rcases g.own with e | ⟨e, e2⟩ | e
    · exact .inl e
    · rcases h.own with e3 | ⟨e3, e4⟩ | e3
      · exact absurd e3 e2
      · exact .inr (.inl ⟨by omega, e4⟩)
      · exact .inr (.inr (by omega))
    · have := h.len
      exact .inr (.inr (by omega))

theorem Wr.other {tk tk' : List Nat} {k k' j : Nat} {l l' p : List UInt8} (h : Wr tk k l tk' k' l') (hp : Tk tk j p) (hd : p = [] ∨ l = [] ∨ j ≠ k) : Tk tk' j p ∧ (p = [] ∨ l' = [] ∨ j ≠ k') := by
  by_cases e : p = []
  · exact ⟨.inl e, .inl e⟩
  · have hp := hp.resolve_left e
    have hd := hd.resolve_left e
    refine ⟨.inr (h.keep j _ hd hp), .inr ?_⟩
    have hlt := lt_get hp
    rcases h.own with e1 | ⟨e1, e2⟩ | e1
    · exact .inl e1
    · have := hd.resolve_left e2
      exact .inr (by omega)
    · exact .inr (by omega)

theorem Wr.pre {tk tk' : List Nat} {k k' : Nat} {l' : List UInt8} (h : Wr tk k [] tk' k' l') : ∃ m, tk' = tk ++ m := by
  refine ⟨tk'.drop tk.length, ?_⟩; refine List.ext_getElem? fun i => ?_
  by_cases hi : i < tk.length
  · rw [List.getElem?_append_left hi]
    rw [List.getElem?_eq_getElem hi]
    exact h.keep i _ (.inl rfl) (List.getElem?_eq_getElem hi)
  · rw [List.getElem?_append_right (by omega), List.getElem?_drop]
    congr 1; omega

def WP (id : Nat) (σ : St) (k : Nat) (l q : List UInt8) : AV → St → Prop := fun av σ' => av = .ptr id 0 ∧ ∃ k' tk', Wr σ.toks k l tk' k' (l ++ q) ∧ σ' = { σ with objs := σ.objs.set id [wrA k' (l ++ q)], toks := tk' }

theorem lay_ok {σ : St} {id k : Nat} {l q : List UInt8} {tq : Tail} (h : σ.objs[id]? = some [wrA k l]) (ht : Tk σ.toks k l) (hne : l ++ q ≠ []) (hl : l.length ≤ 1000000) (hq : q.length ≤ 1000000) :
    CallsA Try.prog 123 [.ptr id 0, .sl 1 (bytesA q) q.length tq] σ (WP id σ k l q) := by
  by_cases e : l = []
  · subst e
    refine callsA_mono (lay_new (by simpa [wrA] using h) hq) (fun av σ' ⟨h1, h2⟩ => ⟨h1, σ.toks.length, σ.toks ++ [q.length], ⟨.inr ?_, ?_, fun j v _ hj => ?_, .inr (.inr (Nat.le_refl _))⟩, ?_⟩)
    · simp
    · simp
    · rw [List.getElem?_append_left (lt_get hj)]; exact hj
    · rw [h2]; simp at hne; simp [wrA, hne]
  · have hk := ht.resolve_left e
    refine callsA_mono (lay_more (by simpa [wrA, e] using h) hk hl hq) (fun av σ' ⟨h1, h2⟩ => ⟨h1, k, σ.toks.set k (l ++ q).length, ⟨.inr (set_self_of hk _), by simp, fun j v hj hv => ?_, .inr (.inl ⟨rfl, e⟩)⟩, ?_⟩)
    · rw [List.getElem?_set_ne (Ne.symm (hj.resolve_left e))]; exact hv
    · rw [h2]; simp [wrA, e]

set_option maxHeartbeats 1600000 in
attribute [local simp] undefA List.getElem?_cons_zero List.getElem?_cons_succ in
theorem wbyte_ok {σ : St} {id k : Nat} {l : List UInt8} {b : UInt8} (h : σ.objs[id]? = some [wrA k l]) (ht : Tk σ.toks k l) (hl : l.length ≤ 1000000) :
    CallsA Try.prog 114 [.ptr id 0, .v (.int .u8 b.toNat)] σ (WP id σ k l [b]) := by
  have hv : (Value.int IntKind.u8 0).cells.size = 1 := rfl
  have F := And.intro hv (True.intro)
  refine callsA_body Try.func114 rfl rfl rfl ?_; refine sr fun _ hJ2 => ?_; refine hJ2 _ _ ?_; refine sr fun _ hJ4 => ?_
  refine ca (c := lay_ok (q := [b]) h ht (by simp) hl (by simp)) (k := ?_)
  rintro _ _ ⟨rfl, k1, tk1, hw1, rfl⟩; (repeat (first | simp [F] | simp (disch := omega) only [wC, if_pos, if_neg])); refine hJ4 _ _ ?_; refine ra ?_; exact ⟨rfl, k1, tk1, hw1, rfl⟩

def encN (x : Nat) : List UInt8 := UInt8.ofNat (natBytes x).length :: natBytes x

def nBytes (size n : Nat) : List UInt8 := (List.range size).map fun j => UInt8.ofNat (n / 2 ^ (8 * (size - 1 - j)) % 256)
theorem nBytes_len (size n : Nat) : (nBytes size n).length = size := by simp [nBytes]

structure WSt where
  j : Nat
  k : Nat
  tk : List Nat

set_option maxHeartbeats 1600000 in
attribute [local simp] undefA List.getElem?_cons_zero List.getElem?_cons_succ in
theorem wnumber_ok {σ : St} {id k n size : Nat} {l : List UInt8} (h : σ.objs[id]? = some [wrA k l]) (ht : Tk σ.toks k l) (hn : n < 2 ^ 64) (hsz : size ≤ 8) (hl : l.length ≤ 900000) :
    CallsA Try.prog 113 [.ptr id 0, .v (.int .u64 n), .v (.int .i64 size)] σ (WP id σ k l (nBytes size n)) := by
  have hs := set_self_of h
  have hs0 := St.set_same h
  have hv : (Value.int IntKind.u8 0).cells.size = 1 := rfl
  have F := And.intro hv (True.intro)
  refine callsA_body Try.func113 rfl rfl rfl ?_; refine sr fun _ hJ2 => ?_; refine hJ2 _ _ ?_; refine sq fun K3 hK3 => ?_; refine sr fun _ hJ5 => ?_; refine hJ5 _ _ ?_; refine run_block_k ?_; refine run_loopF (X := WSt) [1, 6] (fun q ρ σ1 => (q.j ≤ size) ∧ (Wr σ.toks k l q.tk q.k (l ++ (nBytes size n).take q.j)) ∧ (ρ 0 = .ptr id 0) ∧ (ρ 7 = .v (.int .i64 ((size : Int) - 1 - q.j))) ∧ (σ1 = { σ with objs := σ.objs.set id [wrA q.k (l ++ (nBytes size n).take q.j)], toks := q.tk })) (fun q => size - q.j) (⟨0, k, σ.toks⟩) ?st1 ?rd1
  case st1 =>
   refine ⟨lp, ?_, lp, lp, ?_⟩
   · simpa using Wr.refl ht
   · simpa using hs0.symm
  case rd1 =>
   rintro q ρ1 σ1 hF1 ⟨hj, hw, h0, h7, hσ⟩; obtain rfl := hσ.symm
   have f1 := keepL hF1
   (try simp [KeepL, F] at f1); replace F := aF h0 F; replace F := aF h7 F; (try replace F := aF f1 F); refine sq fun K6 hK6 => ?_; refine sr fun _ hJ8 => ?_; refine hJ8 _ _ ?_; refine cs (fun c11 => ?_) (fun c11 => ?_)
   · (try exact nope c11); all_goals have c11p := c11; try simp [F] at c11p
     all_goals
      replace F := aF c11 F; (try replace F := aF c11p F); refine run_skip ?_; refine hK6 _ _ ?_; refine sq fun K9 hK9 => ?_; refine run_block_k ?_
      obtain ⟨i, hi⟩ : ∃ i, i = size - 1 - q.j := ⟨_, rfl⟩
      have he : (size : Int) - 1 - q.j = (i : Int) := by omega
      have hi8 : i < 8 := by omega
      obtain ⟨b, hb⟩ : ∃ b, b = UInt8.ofNat (n / 2 ^ (8 * i) % 256) := ⟨_, rfl⟩
      have hbn : b.toNat = n / 2 ^ (8 * i) % 256 := by rw [hb]; exact toNat_ofNat (by omega)
      have hnx : (nBytes size n).take (q.j + 1) = (nBytes size n).take q.j ++ [b] := by rw [take_snoc (by rw [nBytes_len]; omega)]; simp [nBytes, hb, hi]
      have htl : ((nBytes size n).take q.j).length ≤ 8 := by simp [nBytes_len]; omega
      have hnn : ¬ 8 * (i : Int) < 0 := by omega
      have hsh : Int.fdiv (n : Int) (2 ^ (min (8 * (i : Int)).toNat 64)) = ((n / 2 ^ (8 * i) : Nat) : Int) := by rw [show min (8 * (i : Int)).toNat 64 = 8 * i by omega, Int.fdiv_eq_ediv_of_nonneg _ (by exact Int.le_of_lt (Int.pow_pos (by omega)))]; simp
      have hcv : IntKind.u8.wrap ((n / 2 ^ (8 * i) : Nat) : Int) = (b.toNat : Int) := by rw [wrap_u8, hbn]
      generalize n / 2 ^ (8 * i) = z at *
      replace F := aF he F; replace F := aF hnn F; replace F := aF hsh F; replace F := aF hcv F; refine rg' (h := fun J10 hJ10 => ?_)
      refine ca (c := lay_ok (q := [b]) (hs _) hw.tok (by simp) (by simp; omega) (by simp)) (k := ?_)
      rintro _ _ ⟨rfl, k1, tk1, hw1, rfl⟩; (repeat (first | simp [F] | simp (disch := omega) only [wC, if_pos, if_neg])); refine hJ10 _ _ ?_; refine hK9 _ _ ?_; refine rg' (h := fun J11 hJ11 => ?_); refine hJ11 _ _ ?_; refine ⟨(⟨q.j + 1, k1, tk1⟩), ⟨kp, lp, ?_, lp, ?_, ?_⟩, lp⟩
      · have hq2 := hw.trans hw1
        rw [List.append_assoc, ← hnx] at hq2
        exact hq2
      · simp
        omega
      · simp [hnx]
   (try exact nope c11); all_goals have c11p := c11; try simp [F] at c11p
   all_goals
    replace F := aF c11 F; (try replace F := aF c11p F); refine run_exit ?_; refine hK3 _ _ ?_; refine sr fun _ hJ13 => ?_; refine hJ13 _ _ ?_; refine ra ?_
    have hfull : (nBytes size n).take q.j = nBytes size n := List.take_of_length_le (by rw [nBytes_len]; simp at c11; omega)
    rw [hfull] at hw
    rw [hfull]
    exact ⟨by simp [F], q.k, q.tk, hw, rfl⟩

set_option maxHeartbeats 1600000 in
attribute [local simp] undefA List.getElem?_cons_zero List.getElem?_cons_succ in
theorem wlong_ok {σ : St} {id k n : Nat} {l : List UInt8} (h : σ.objs[id]? = some [wrA k l]) (ht : Tk σ.toks k l) (hn : n < 2 ^ 64) (hl : l.length ≤ 900000) :
    CallsA Try.prog 86 [.ptr id 0, .v (.int .u64 n)] σ (WP id σ k l (nBytes 8 n)) := by
  have F := True.intro
  refine callsA_body Try.func86 rfl rfl rfl ?_; refine sr fun _ hJ2 => ?_; refine hJ2 _ _ ?_; refine sr fun _ hJ4 => ?_
  refine ca (c := wnumber_ok (size := 8) h ht hn (by omega) hl) (k := ?_)
  rintro _ _ ⟨rfl, k1, tk1, hw1, rfl⟩; (repeat (first | simp [F] | simp (disch := omega) only [wC, if_pos, if_neg])); refine hJ4 _ _ ?_; refine ra ?_; exact ⟨rfl, k1, tk1, hw1, rfl⟩

end Go.Proofs.Ytlkajgjaidedkaa

/-
  The package line: where a record is kept; one more, another one, one less.
-/
namespace Go.Proofs.Ytlkajgjaidedkaa
set_option linter.unnecessarySimpa false
set_option maxRecDepth 100000
open Go Go.Vm
set_option linter.unusedSimpArgs false
set_option linter.unusedVariables false
attribute [local simp] evalL wantedA isCall opA evalA evalAll evalsA evalOpt ofValue ofCell plain binA_eql_pn binA_neq_pn binA_gtr binA_lss binA_geq binA_leq binA_add binA_sub binA_eql binA_neq binA_orI binA_shl binA_shr binA_mul binA_quo binA_rem binA_agg_eql binA_agg_neq convA_int unA_not fieldAddrA loadA partA pickA_true pickA_false pickA_bb lenA builtinA storeA splice AV.cells AV.isCell sliceA boundA intA callOf indexAddrA newObjA buildA fillA zeroA ofCells buildSliceA indexA fieldA set_appN get_appN take_appN List.getElem?_cons_zero List.getElem?_cons_succ get_sa0 get_sa1 get_sa2 get_sa3 set_sa0 set_sa1 set_sa2 set_sa3 sliceRowA binA_eqn binA_neqn drop_mr

def WL (id : Nat) (σ : St) (k : Nat) (l A : List UInt8) : AV → St → Prop := fun av σ' => av = .ptr id 0 ∧ ∃ k' tk', Wr σ.toks k l tk' k' A ∧ σ' = { σ with objs := σ.objs.set id [wrA k' A], toks := tk' }
theorem wbyteL {σ : St} {id k : Nat} {l A : List UInt8} {b : UInt8} (hA : A = l ++ [b]) (h : σ.objs[id]? = some [wrA k l]) (ht : Tk σ.toks k l) (hl : l.length ≤ 300000) :
    CallsA Try.prog 114 [.ptr id 0, .v (.int .u8 b.toNat)] σ (WL id σ k l A) := by
  subst hA; exact wbyte_ok h ht (by omega)
theorem wlongL {σ : St} {id k n : Nat} {l A : List UInt8} (hA : A = l ++ nBytes 8 n) (h : σ.objs[id]? = some [wrA k l]) (ht : Tk σ.toks k l) (hn : n < 2 ^ 64) (hl : l.length ≤ 300000) :
    CallsA Try.prog 86 [.ptr id 0, .v (.int .u64 n)] σ (WL id σ k l A) := by
  subst hA; exact wlong_ok h ht hn (by omega)
theorem doneL {σ : St} {id k : Nat} {l : List UInt8} (h : σ.objs[id]? = some [wrA k l]) (hne : l ≠ []) (hl : l.length ≤ 1000000) :
    CallsA Try.prog 87 [.ptr id 0] σ (fun av σ' => av = .sl 1 (bytesA l) l.length .shut ∧ σ = σ') := done_ok (tl := .own k) (by simpa [wrA, hne] using h) hl

def keyW (k : UInt8) (d n : Nat) : List UInt8 := 119 :: k :: (nBytes 8 d ++ nBytes 8 n)
theorem keyW_len (k : UInt8) (d n : Nat) : (keyW k d n).length = 18 := by simp [keyW, nBytes_len]

set_option maxHeartbeats 1600000 in
attribute [local simp] undefA List.getElem?_cons_zero List.getElem?_cons_succ in
theorem key_ok {σ : St} {kind : UInt8} {d n : Nat} (hd : d < 2 ^ 64) (hn : n < 2 ^ 64) :
    CallsA Try.prog 88 [.v (.int .u8 kind.toNat), .v (.int .u64 d), .v (.int .u64 n)] σ (fun av σ' => av = .sl 1 (bytesA (keyW kind d n)) (keyW kind d n).length .shut ∧ σ = σ') := by
  refine callsA_gcS ?_ (by simp [AV.under, under_bytes])
  obtain ⟨A1, hA1⟩ : ∃ A, A = [] ++ [(119 : UInt8)] := ⟨_, rfl⟩
  obtain ⟨A2, hA2⟩ : ∃ A, A = A1 ++ [kind] := ⟨_, rfl⟩
  obtain ⟨A3, hA3⟩ : ∃ A, A = A2 ++ nBytes 8 d := ⟨_, rfl⟩
  obtain ⟨A4, hA4⟩ : ∃ A, A = A3 ++ nBytes 8 n := ⟨_, rfl⟩
  have hA : keyW kind d n = A4 := by rw [hA4, hA3, hA2, hA1]; simp [keyW]
  have l1 : A1.length ≤ 1 := by rw [hA1]; simp
  have l2 : A2.length ≤ 2 := by rw [hA2]; simp; omega
  have l3 : A3.length ≤ 10 := by rw [hA3, List.length_append, nBytes_len]; omega
  have l4 : A4.length ≤ 18 := by rw [hA4, List.length_append, nBytes_len]; omega
  have hne : A4 ≠ [] := by rw [← hA]; simp [keyW]
  have h119 : (119 : Int) = ((119 : UInt8).toNat : Int) := rfl
  rw [hA]
  have hw0 : [AV.sl 0 [] 0 Tail.full] = [wrA 0 []] := rfl
  have F := True.intro
  refine callsA_body Try.func88 rfl rfl rfl ?_; refine sr fun _ hJ2 => ?_; refine hJ2 _ _ ?_; refine sr fun _ hJ4 => ?_; refine hJ4 _ _ ?_; refine sq fun K5 hK5 => ?_; replace F := aF hw0 F; refine rg' (h := fun J6 hJ6 => ?_)
  refine ca (c := wbyteL (b := 119) (k := 0) (l := []) hA1 (by simp [F, hw0]) (.inl rfl) (by simp)) (k := ?_)
  rintro _ _ ⟨rfl, k1, tk1, w1, rfl⟩; repeat (first | simp [F] | simp (disch := omega) only [wC, if_pos, if_neg])
  refine ca (c := wbyteL hA2 (by simp [F]) w1.tok (by omega)) (k := ?_)
  rintro _ _ ⟨rfl, k2, tk2, w2, rfl⟩; repeat (first | simp [F] | simp (disch := omega) only [wC, if_pos, if_neg])
  refine ca (c := wlongL hA3 (by simp [F]) w2.tok hd (by omega)) (k := ?_)
  rintro _ _ ⟨rfl, k3, tk3, w3, rfl⟩; repeat (first | simp [F] | simp (disch := omega) only [wC, if_pos, if_neg])
  refine ca (c := wlongL hA4 (by simp [F]) w3.tok hn (by omega)) (k := ?_)
  rintro _ _ ⟨rfl, k4, tk4, w4, rfl⟩; repeat (first | simp [F] | simp (disch := omega) only [wC, if_pos, if_neg])
  refine ca (c := doneL (l := A4) (k := k4) (by simp [F]) hne (by omega)) (k := ?_)
  rintro _ _ ⟨rfl, rfl⟩; (repeat (first | simp [F] | simp (disch := omega) only [wC, if_pos, if_neg])); refine hJ6 _ _ ?_; refine hK5 _ _ ?_; refine ra ?_
  obtain ⟨tm, htm⟩ := ((w1.trans w2).trans (w3.trans w4)).pre
  rw [htm]
  exact gcr

set_option maxHeartbeats 1600000 in
attribute [local simp] undefA List.getElem?_cons_zero List.getElem?_cons_succ in
theorem lremove_ok {σ : St} {o k n : Nat} {G : Sg} {kind : UInt8} {d no : Nat} (h : HasS σ o k G) (hG : G.s.Ok n) (hn : n ≤ 900000) (hd : d < 2 ^ 64) (hno : no < 2 ^ 64) :
    CallsA Try.prog 47 [.ptr o 0, .v (.int .u8 kind.toNat), .v (.int .u64 d), .v (.int .u64 no)] σ (fun av σ' => ∃ G', G'.s = doS G.s (keyW kind d no) none ∧ av = .v (.bool (getL G.s.l (keyW kind d no)).isSome) ∧ σ' = putS σ o k G') := by
  have hkl := keyW_len kind d no
  have hke := fun τ => key_ok (σ := τ) (kind := kind) hd hno
  have hge := get_ok (key := keyW kind d no) (t1 := .shut) h hG (by omega)
  have hde := del_ok (key := keyW kind d no) (t1 := .shut) h hG (by omega) (by omega)
  have F := True.intro
  refine callsA_body Try.func47 rfl rfl rfl ?_; refine sr fun _ hJ2 => ?_; refine hJ2 _ _ ?_; refine sr fun _ hJ4 => ?_; refine ca (c := hke _) (k := ?_); rintro _ _ ⟨rfl, rfl⟩; (repeat (first | simp [F] | simp (disch := omega) only [wC, if_pos, if_neg])); refine hJ4 _ _ ?_; refine sr fun _ hJ6 => ?_; refine ca (c := hge) (k := ?_); rintro _ _ ⟨rfl, rfl⟩; (repeat (first | simp [F] | simp (disch := omega) only [wC, if_pos, if_neg])); refine hJ6 _ _ ?_; refine sr fun _ hJ8 => ?_; refine ca (c := hde) (k := ?_); rintro _ _ ⟨G', e0, rfl, rfl⟩; (repeat (first | simp [F] | simp (disch := omega) only [wC, if_pos, if_neg])); refine hJ8 _ _ ?_; refine sr fun _ hJ10 => ?_; refine hJ10 _ _ ?_; refine ra ?_; exact ⟨G', e0, by simp [F], rfl⟩

set_option maxHeartbeats 1600000 in
attribute [local simp] undefA List.getElem?_cons_zero List.getElem?_cons_succ byC in
theorem lset_ok {σ : St} {o k n : Nat} {G : Sg} {kind : UInt8} {d no : Nat} {p : List UInt8} (h : HasS σ o k G) (hG : G.s.Ok n) (hn : n ≤ 900000) (hd : d < 2 ^ 64) (hno : no < 2 ^ 64) (hp : p.length ≤ 1000000) :
    CallsA Try.prog 54 [.ptr o 0, .v (.int .u8 kind.toNat), .agg [.v (.int .u64 d), .v (.int .u64 no), byC p]] σ (fun av σ' => ∃ G', G'.s = (if (getL G.s.l (keyW kind d no)).isSome then doS G.s (keyW kind d no) (some p) else G.s) ∧ av = .v (.bool (getL G.s.l (keyW kind d no)).isSome) ∧ σ' = putS σ o k G') := by
  have hkl := keyW_len kind d no
  have hke := fun τ => key_ok (σ := τ) (kind := kind) hd hno
  have hge := fun l => get_ok (key := keyW kind d no) (t1 := .shut) (h.app l σ.toks) hG (by omega)
  have hse := fun l => set_ok (key := keyW kind d no) (val := p) (t1 := .shut) (t2 := .shut) (h.app l σ.toks) hG (by omega) (by omega) (by omega)
  obtain ⟨K, hK⟩ : ∃ K, K = keyW kind d no := ⟨_, rfl⟩
  rw [← hK] at hkl
  simp only [← hK] at hke hge hse ⊢
  obtain ⟨w, hw⟩ : ∃ w, w = getL G.s.l K := ⟨_, rfl⟩
  simp only [← hw] at hge ⊢
  have hpa := fun (G' : Sg) (l : List (List AV)) => putS_app h G' l
  refine callsA_mono (callsA_gcSt (X := Nat × Nat × Nat) (A := fun _ => .v (.bool w.isSome)) (T := fun x => ⟨if w.isSome then doS G.s K (some p) else G.s, x.1, x.2.1, x.2.2⟩) h (fun _ => rfl) ?_) (fun av σ' ⟨x, e1, e2⟩ => ⟨_, rfl, e1, e2⟩)
  have F := True.intro
  refine callsA_body Try.func54 rfl rfl rfl ?_; refine sr fun _ hJ2 => ?_; refine hJ2 _ _ ?_; refine sr fun _ hJ4 => ?_; refine ca (c := hke _) (k := ?_); rintro _ _ ⟨rfl, rfl⟩; (repeat (first | simp [F] | simp (disch := omega) only [wC, if_pos, if_neg])); refine hJ4 _ _ ?_; refine sr fun _ hJ6 => ?_; refine ca (c := hge _) (k := ?_); rintro _ _ ⟨rfl, rfl⟩; (repeat (first | simp [F] | simp (disch := omega) only [wC, if_pos, if_neg])); refine hJ6 _ _ ?_; refine sq fun K7 hK7 => ?_; refine sr fun _ hJ9 => ?_; refine hJ9 _ _ ?_; refine cs (fun c22 => ?_) (fun c22 => ?_)
  · (try exact nope c22); all_goals have c22p := c22; try simp [F] at c22p
    all_goals
     replace F := aF c22 F; (try replace F := aF c22p F); refine rg' (h := fun J10 hJ10 => ?_); refine ca (c := hse _) (k := ?_); rintro _ _ ⟨G', e0, rfl, rfl⟩; (repeat (first | simp [F] | simp (disch := omega) only [wC, if_pos, if_neg])); refine hJ10 _ _ ?_; refine hK7 _ _ ?_; refine sr fun _ hJ12 => ?_; refine hJ12 _ _ ?_; refine ra ?_
     obtain ⟨gs, a1, a2, a3⟩ := G'
     simp only at e0
     subst e0
     refine ⟨(a1, a2, a3), ?_⟩
     have hw1 : w.isSome = true := by simpa using c22
     rw [hpa, if_pos hw1, hw1]
     exact gcr
  (try exact nope c22); all_goals have c22p := c22; try simp [F] at c22p
  all_goals
   replace F := aF c22 F; (try replace F := aF c22p F); refine run_skip ?_; refine hK7 _ _ ?_; refine sr fun _ hJ14 => ?_; refine hJ14 _ _ ?_; refine ra ?_; refine ⟨(G.g1, G.g2, G.g3), ?_⟩
   have hw1 : w.isSome = false := by simpa using c22
   rw [hw1, if_neg (by simp), putS_self h]
   exact gcr

def ctK (kind : UInt8) : List UInt8 := [110, kind]
def addL (s : Sto) (kind : UInt8) (d : Nat) (p : List UInt8) (m : Nat) : Sto := doS (doS s (ctK kind) (some (nBytes 8 (m + 1)))) (keyW kind d (m + 1)) (some p)
theorem takeL {l q : List UInt8} (h : l.length = 8) : takeS 8 (some (l ++ q)) = some q ∧ takeB 8 (some (l ++ q)) = l := by
  simp [takeS, takeB, h]
theorem be_n8 {n : Nat} (h : n < 2 ^ 64) : be (nBytes 8 n) = n := by
  have e : nBytes 8 n = [UInt8.ofNat (n / 2 ^ 56 % 256), UInt8.ofNat (n / 2 ^ 48 % 256), UInt8.ofNat (n / 2 ^ 40 % 256), UInt8.ofNat (n / 2 ^ 32 % 256), UInt8.ofNat (n / 2 ^ 24 % 256), UInt8.ofNat (n / 2 ^ 16 % 256), UInt8.ofNat (n / 2 ^ 8 % 256), UInt8.ofNat (n / 2 ^ 0 % 256)] := rfl
  rw [e]
  have hb : ∀ x, (UInt8.ofNat (x % 256)).toNat = x % 256 := fun x => by rw [toNat_ofNat (by omega)]
  simp only [be, List.foldl_cons, List.foldl_nil, hb]
  omega

theorem wlongV {σ : St} {id k n : Nat} {l A : List UInt8} {v : Int} (hv : v = (n : Int)) (hA : A = l ++ nBytes 8 n) (h : σ.objs[id]? = some [wrA k l]) (ht : Tk σ.toks k l) (hn : n < 2 ^ 64) (hl : l.length ≤ 300000) :
    CallsA Try.prog 86 [.ptr id 0, .v (.int .u64 v)] σ (WL id σ k l A) := by
  subst hv; exact wlongL hA h ht hn hl

theorem HasS.at {σ τ : St} {o k : Nat} {G : Sg} (h : HasS σ o k G) (l : List (List AV)) (m : List Nat) (hτ : τ = { σ with objs := σ.objs ++ l, toks := m }) : HasS τ o k G := by subst hτ; exact h.app l m

set_option maxHeartbeats 1600000 in
attribute [local simp] undefA List.getElem?_cons_zero List.getElem?_cons_succ byC in
theorem ladd_ok {σ : St} {o k n m : Nat} {G : Sg} {kind : UInt8} {d : Nat} {p : List UInt8} {tp : Tail} (h : HasS σ o k G) (hG : G.s.Ok n) (hn : n ≤ 900000) (hd : d < 2 ^ 64) (hp : p.length ≤ 1000000) (hm : m + 1 < 2 ^ 64) (hc : getL G.s.l (ctK kind) = if m = 0 then none else some (nBytes 8 m)) :
    CallsA Try.prog 45 [.ptr o 0, .v (.int .u8 kind.toNat), .v (.int .u64 d), .sl 1 (bytesA p) p.length tp] σ (fun av σ' => ∃ G', G'.s = addL G.s kind d p m ∧ av = .v (.int .u64 (m + 1 : Nat)) ∧ σ' = putS σ o k G') := by
  have hkl := keyW_len kind d (m + 1)
  have hke := fun τ => key_ok (σ := τ) (kind := kind) hd hm
  have hge := get_ok (key := ctK kind) (t1 := .full) h hG (by omega)
  rw [hc] at hge
  have hGo := doS_ok hG (k := ctK kind) (o := some (nBytes 8 (m + 1))) (by simp [ctK]) (by simp [nBytes_len])
  have hse : ∀ (l : List (List AV)) (tk : List Nat), CallsA Try.prog 33 [.ptr o 0, .sl 1 (bytesA (ctK kind)) (ctK kind).length .full, .sl 1 (bytesA (nBytes 8 (m + 1))) (nBytes 8 (m + 1)).length .shut] { σ with objs := σ.objs ++ l, toks := tk } (fun av σ' => ∃ G', G'.s = doS G.s (ctK kind) (some (nBytes 8 (m + 1))) ∧ av = .tup [] ∧ σ' = putS { σ with objs := σ.objs ++ l, toks := tk } o k G') := fun l tk =>
    set_ok (h.app l tk) hG (by omega) (by simp [ctK]) (by simp [nBytes_len])
  have hs2 : ∀ (l : List (List AV)) (tk : List Nat) (G1 : Sg), G1.s = doS G.s (ctK kind) (some (nBytes 8 (m + 1))) → CallsA Try.prog 33 [.ptr o 0, .sl 1 (bytesA (keyW kind d (m + 1))) (keyW kind d (m + 1)).length .shut, .sl 1 (bytesA p) p.length tp] (putS { σ with objs := σ.objs ++ l, toks := tk } o k G1) (fun av σ' => ∃ G', G'.s = addL G.s kind d p m ∧ av = .tup [] ∧ σ' = putS { σ with objs := σ.objs ++ l, toks := tk } o k G') := fun l tk G1 e =>
    callsA_mono (set_ok ((h.app l tk).put G1) (by rw [e]; exact hGo) (by omega) (by omega) hp) (fun av σ' ⟨G', q0, q1, q2⟩ => ⟨G', by rw [q0, e]; rfl, q1, by rw [q2, putS_put]⟩)
  have hpa : ∀ (l : List (List AV)) (tk : List Nat) (G' : Sg), putS { σ with objs := σ.objs ++ l, toks := tk } o k G' = { putS σ o k G' with objs := (putS σ o k G').objs ++ l, toks := tk } := fun l tk G' => by simp only [putS]; rw [List.set_append_left _ _ (lt_of_get h.o)]
  refine callsA_mono (callsA_gcSt (X := Nat × Nat × Nat) (A := fun _ => .v (.int .u64 (m + 1 : Nat))) (T := fun x => ⟨addL G.s kind d p m, x.1, x.2.1, x.2.2⟩) h (fun _ => rfl) ?_) (fun av σ' ⟨x, e1, e2⟩ => ⟨_, rfl, e1, e2⟩)
  have hw0 : [AV.sl 0 [] 0 Tail.full] = [wrA 0 []] := rfl
  have hct : bytesA (ctK kind) = [.v (.int .u8 110), .v (.int .u8 kind.toNat)] := rfl
  have hcl : (ctK kind).length = 2 := rfl
  obtain ⟨K, hK⟩ : ∃ K, K = keyW kind d (m + 1) := ⟨_, rfl⟩
  obtain ⟨C, hC⟩ : ∃ C, C = nBytes 8 (m + 1) := ⟨_, rfl⟩
  have hCl : C.length = 8 := by rw [hC]; exact nBytes_len _ _
  have hCne : C ≠ [] := fun e => by rw [e] at hCl; simp at hCl
  have hm1 : m < 2 ^ 64 := by omega
  have hwr : IntKind.u64.wrap (((m : Nat) : Int) + 1) = ((m + 1 : Nat) : Int) := wrap_u64c (by omega)
  rw [← hK] at hkl
  simp only [← hK, ← hC] at hke hse hs2
  simp only [hct, hcl] at hge hse
  obtain ⟨w, hw⟩ : ∃ w : Option (List UInt8), w = if m = 0 then none else some (nBytes 8 m) := ⟨_, rfl⟩
  rw [← hw] at hge
  have hw1 : w.isSome = true → be (takeB 8 (some (w.getD []))) = m ∧ (w.getD []).length = 8 := fun e => by
    by_cases hm0 : m = 0
    · rw [if_pos hm0] at hw; rw [hw] at e; cases e
    · rw [if_neg hm0] at hw
      rw [hw]
      have := (takeL (l := nBytes 8 m) (q := []) (nBytes_len _ _)).2
      rw [List.append_nil] at this
      exact ⟨by show be (takeB 8 (some (nBytes 8 m))) = m; rw [this, be_n8 hm1], nBytes_len _ _⟩
  have hw2 : w.isSome = false → m = 0 := fun e => by
    by_cases hm0 : m = 0
    · exact hm0
    · rw [if_neg hm0] at hw; rw [hw] at e; cases e
  have F := True.intro
  refine callsA_body Try.func45 rfl rfl rfl ?_; refine sr fun _ hJ2 => ?_; refine hJ2 _ _ ?_; refine sq fun K3 hK3 => ?_; refine sr fun _ hJ5 => ?_; refine hJ5 _ _ ?_; refine cf ?_; refine run_skip ?_; refine hK3 _ _ ?_; refine sr fun _ hJ7 => ?_; refine hJ7 _ _ ?_; refine sr fun _ hJ9 => ?_; refine hJ9 _ _ ?_; refine sq fun K10 hK10 => ?_; refine sr fun _ hJ12 => ?_; refine ca (c := hge) (k := ?_); rintro _ _ ⟨rfl, rfl⟩; (repeat (first | simp [F] | simp (disch := omega) only [wC, if_pos, if_neg])); refine hJ12 _ _ ?_; refine sr fun _ hJ14 => ?_; refine hJ14 _ _ ?_; refine cs (fun c24 => ?_) (fun c24 => ?_)
  · (try exact nope c24); all_goals have c24p := c24; try simp [F] at c24p
    all_goals
     replace F := aF c24 F; try replace F := aF c24p F
     obtain ⟨hb1, hb2⟩ := hw1 (by simpa using c24)
     replace F := aF hb1 (And.intro hwr F); refine rg' (h := fun J15 hJ15 => ?_)
     refine ca (c := new_ok (p := w.getD []) (by omega)) (k := ?_)
     rintro _ _ ⟨rfl, rfl⟩; repeat (first | simp [F] | simp (disch := omega) only [wC, if_pos, if_neg])
     refine ca (c := long_ok (s := some (w.getD [])) (by simp [F])) (k := ?_)
     rintro _ _ ⟨rfl, rfl⟩; (repeat (first | simp [F] | simp (disch := omega) only [wC, if_pos, if_neg])); refine hJ15 _ _ ?_; refine hK10 _ _ ?_; refine sr fun _ hJ17 => ?_; refine hJ17 _ _ ?_; refine sr fun _ hJ19 => ?_
     refine ca (c := wlongV (k := 0) (l := []) (n := m + 1) (A := C) (by omega) hC (by simp [F, hw0]) (.inl rfl) hm (by simp)) (k := ?_)
     rintro _ _ ⟨rfl, k1, tk1, w1, rfl⟩; repeat (first | simp [F] | simp (disch := omega) only [wC, if_pos, if_neg])
     refine ca (c := doneL (l := C) (k := k1) (by simp [F]) hCne (by omega)) (k := ?_)
     rintro _ _ ⟨rfl, rfl⟩; (repeat (first | simp [F] | simp (disch := omega) only [wC, if_pos, if_neg])); refine ca (c := hse _ _) (k := ?_); rintro _ _ ⟨G1, e1, rfl, rfl⟩; (repeat (first | simp [F] | simp (disch := omega) only [wC, if_pos, if_neg])); refine hJ19 _ _ ?_; refine sr fun _ hJ21 => ?_; refine ca (c := hke _) (k := ?_); rintro _ _ ⟨rfl, rfl⟩; (repeat (first | simp [F] | simp (disch := omega) only [wC, if_pos, if_neg])); refine ca (c := hs2 _ _ G1 e1) (k := ?_); rintro _ _ ⟨G', e0, rfl, rfl⟩; (repeat (first | simp [F] | simp (disch := omega) only [wC, if_pos, if_neg])); refine hJ21 _ _ ?_; refine sr fun _ hJ23 => ?_; refine hJ23 _ _ ?_; refine ra ?_
     obtain ⟨gs, a1, a2, a3⟩ := G'
     simp only at e0
     subst e0
     refine ⟨(a1, a2, a3), ?_⟩
     obtain ⟨tm, htm⟩ := w1.pre
     rw [hpa, htm]
     exact gcr
  (try exact nope c24); all_goals have c24p := c24; try simp [F] at c24p
  all_goals
   replace F := aF c24 F; try replace F := aF c24p F
   have hm0 : m = 0 := hw2 (by simpa using c24)
   replace F := aF hm0 F; refine run_skip ?_; refine hK10 _ _ ?_; refine sr fun _ hJ25 => ?_; refine hJ25 _ _ ?_; refine sr fun _ hJ27 => ?_
   refine ca (c := wlongV (k := 0) (l := []) (n := m + 1) (A := C) (by omega) hC (by simp [F, hw0]) (.inl rfl) hm (by simp)) (k := ?_)
   rintro _ _ ⟨rfl, k1, tk1, w1, rfl⟩; repeat (first | simp [F] | simp (disch := omega) only [wC, if_pos, if_neg])
   refine ca (c := doneL (l := C) (k := k1) (by simp [F]) hCne (by omega)) (k := ?_)
   rintro _ _ ⟨rfl, rfl⟩; (repeat (first | simp [F] | simp (disch := omega) only [wC, if_pos, if_neg])); refine ca (c := hse _ _) (k := ?_); rintro _ _ ⟨G1, e1, rfl, rfl⟩; (repeat (first | simp [F] | simp (disch := omega) only [wC, if_pos, if_neg])); refine hJ27 _ _ ?_; refine sr fun _ hJ29 => ?_; refine ca (c := hke _) (k := ?_); rintro _ _ ⟨rfl, rfl⟩; (repeat (first | simp [F] | simp (disch := omega) only [wC, if_pos, if_neg])); refine ca (c := hs2 _ _ G1 e1) (k := ?_); rintro _ _ ⟨G', e0, rfl, rfl⟩; (repeat (first | simp [F] | simp (disch := omega) only [wC, if_pos, if_neg])); refine hJ29 _ _ ?_; refine sr fun _ hJ31 => ?_; refine hJ31 _ _ ?_; refine ra ?_
   obtain ⟨gs, a1, a2, a3⟩ := G'
   simp only at e0
   subst e0
   refine ⟨(a1, a2, a3), ?_⟩
   obtain ⟨tm, htm⟩ := w1.pre
   rw [hpa, htm]
   exact gcr

theorem preB_nil2 (b : UInt8) (p : List UInt8) : preB [] (b :: p) = false := by simp [preB]
theorem preB_cons (a b : UInt8) (l m : List UInt8) : preB (a :: l) (b :: m) = (decide (a = b) && preB l m) := by
  rw [Bool.eq_iff_iff]
  simp only [preB, List.length_cons, List.take_succ_cons, List.cons.injEq, Bool.and_eq_true, decide_eq_true_eq]
  constructor
  · rintro ⟨h1, h2, h3⟩; exact ⟨h2, by omega, h3⟩
  · rintro ⟨h1, h2, h3⟩; exact ⟨by omega, h1, h3⟩

theorem preB_lt : ∀ {a p : List UInt8}, ltB a p = true → preB a p = false
  | a, [], h => by rw [ltB_nil] at h; cases h
  | [], b :: p, _ => preB_nil2 b p
  | x :: a, y :: p, h => by
    rw [preB_cons]
    by_cases e : x = y
    · rw [ltB, if_pos e] at h; simp [preB_lt h]
    · simp [e]

theorem preB_up : ∀ {p a b : List UInt8}, ltB a p = false → preB a p = false → ltB a b = true → preB b p = false
  | [], a, b, _, h, _ => by rw [preB_nil] at h; cases h
  | y :: p, a, [], _, _, h => by rw [ltB_nil] at h; cases h
  | y :: p, [], z :: b, h, _, _ => by cases h
  | y :: p, x :: a, z :: b, h1, h2, h3 => by
    rw [preB_cons] at h2 ⊢
    rw [ltB] at h1 h3
    by_cases e : z = y
    · subst e
      by_cases e2 : x = z
      · rw [if_pos e2] at h1 h3; simp [e2] at h2; simp [preB_up h1 h2 h3]
      · rw [if_neg e2] at h1 h3; simp at h1 h3; omega
    · simp [e]

theorem tw_filter {p : List UInt8} : ∀ {l : List Pr}, Srt l → (∀ x ∈ l, ltB x.k p = false) → (l.takeWhile fun x => preB x.k p) = l.filter fun x => preB x.k p
  | [], _, _ => rfl
  | a :: l, h, hg => by
    have l1 := List.pairwise_cons.1 h
    have ih := tw_filter l1.2 (fun x hx => hg x (by simp [hx]))
    rw [List.takeWhile_cons, List.filter_cons]
    cases hp : preB a.k p with
    | true => simp [ih]
    | false =>
      simp only [Bool.false_eq_true, if_false]
      symm
      rw [List.filter_eq_nil_iff]
      intro x hx
      rw [preB_up (hg a (by simp)) hp (l1.1 x hx)]
      simp

theorem keysL_filter {p : List UInt8} : ∀ {l : List Pr}, Srt l → keysL l p = (l.filter fun x => preB x.k p).map (·.k)
  | [], _ => rfl
  | a :: l, h => by
    have l1 := List.pairwise_cons.1 h
    cases ha : ltB a.k p with
    | true =>
      have ih := keysL_filter (p := p) l1.2
      have hf : findL (a :: l) p = findL l p + 1 := by simp [findL, ha]
      unfold keysL at ih ⊢
      rw [hf, List.drop_succ_cons, ih, List.filter_cons, preB_lt ha]
      simp
    | false =>
      have hf : findL (a :: l) p = 0 := by simp [findL, ha]
      unfold keysL
      rw [hf, List.drop_zero, tw_filter h ?_]
      intro x hx
      rcases List.mem_cons.1 hx with rfl | hx
      · exact ha
      · cases hx2 : ltB x.k p with
        | false => rfl
        | true => have := ltB_trans (l1.1 x hx) hx2; rw [ha] at this; cases this

theorem keysL_mem {l : List Pr} {p k : List UInt8} (h : Srt l) (hk : k ∈ keysL l p) : ∃ x ∈ l, x.k = k := by
  rw [keysL_filter h] at hk
  obtain ⟨x, hx, rfl⟩ := List.mem_map.1 hk
  exact ⟨x, (List.mem_filter.1 hx).1, rfl⟩

theorem kysC_ix {K : List (List UInt8)} {i : Nat} (h : i < K.length) (h2 : i < (kysC K).length) : (kysC K)[i]'h2 = .sl 1 (bytesA K[i]) K[i].length .shut := (List.getElem?_eq_some_iff.1 (kysC_at h)).2
structure It where
  d : Nat
  n : Nat
  p : List UInt8
def itC (x : It) : List AV := [.v (.int .u64 x.d), .v (.int .u64 x.n), byC x.p]
def itsC (l : List It) : List AV := l.flatMap itC
theorem itsC_len (l : List It) : (itsC l).length = l.length * 3 := by
  induction l with
  | nil => rfl
  | cons p l ih => simp only [itsC, List.flatMap_cons, List.length_append, itC, List.length_cons, List.length_nil] at ih ⊢; omega
theorem itsC_app (l m : List It) : itsC (l ++ m) = itsC l ++ itsC m := by simp [itsC]
theorem itsC_under (B : Bd) : ∀ l : List It, underL B (itsC l) = true
  | [] => rfl
  | a :: l => by
    have ih := itsC_under B l
    simp only [itsC, List.flatMap_cons, itC, List.cons_append, List.nil_append, underL, AV.under, byC_under, Bool.true_and, Bool.and_true] at ih ⊢
    exact ih
theorem itsC_noObj (nb : Nat) : ∀ l : List It, noObjL nb (itsC l) = true
  | [] => rfl
  | a :: l => by
    have ih := itsC_noObj nb l
    simp only [itsC, List.flatMap_cons, itC, List.cons_append, List.nil_append, noObjL, AV.noObj, byC, bytes_noObj, Bool.true_and, Bool.and_true] at ih ⊢
    exact ih
theorem itsC_at : ∀ {l : List It} {i : Nat} (h : i < l.length), ∃ R, (itsC l).drop (i * 3) = itC l[i] ++ R
  | p :: l, 0, h => ⟨itsC l, rfl⟩
  | p :: l, i + 1, h => by
    obtain ⟨R, hR⟩ := itsC_at (l := l) (i := i) (by simpa using h)
    refine ⟨R, ?_⟩
    rw [show (i + 1) * 3 = 3 + i * 3 by omega]
    show List.drop (3 + i * 3) (itC p ++ itsC l) = _
    rw [← List.drop_drop]
    exact hR
theorem itsC_take : ∀ {l : List It} {i : Nat}, (itsC l).take (i * 3) = itsC (l.take i)
  | [], i => by simp [itsC]
  | p :: l, 0 => rfl
  | p :: l, i + 1 => by
    have ih := itsC_take (l := l) (i := i)
    rw [show (i + 1) * 3 = i * 3 + 3 by omega]
    show List.take (i * 3 + 3) (itC p ++ itsC l) = itC p ++ itsC (l.take i)
    rw [← ih]; rfl

def itK (L : List Pr) (k : List UInt8) : It := ⟨be (takeB 8 (some (k.drop 2))), be (takeB 8 (takeS 8 (some (k.drop 2)))), (getL L k).getD []⟩
def allL (L : List Pr) (kind : UInt8) : List It := (keysL L [119, kind]).map (itK L)

theorem keysL_pre {l : List Pr} {p k : List UInt8} (h : Srt l) (hk : k ∈ keysL l p) : p.length ≤ k.length := by
  rw [keysL_filter h] at hk
  obtain ⟨x, hx, rfl⟩ := List.mem_map.1 hk
  have := (List.mem_filter.1 hx).2
  simp only [preB, Bool.and_eq_true, decide_eq_true_eq] at this
  exact this.1
theorem bytesA_drop2 (p : List UInt8) (n : Nat) : (bytesA p).drop n = bytesA (p.drop n) := by simp [bytesA]

set_option maxHeartbeats 1600000 in
attribute [local simp] undefA List.getElem?_cons_zero List.getElem?_cons_succ drop_mr byC lsA_nil lsT_nil lsZ_nil lsL_nil gcO_ls noObj_ls itsC_noObj kysC_noObj bytes_noObj in
theorem all_ok {σ : St} {o k n : Nat} {G : Sg} {kind : UInt8} (h : HasS σ o k G) (hG : G.s.Ok n) (hn : n ≤ 900000) :
    CallsA Try.prog 46 [.ptr o 0, .v (.int .u8 kind.toNat)] σ (fun av σ' => av = .sl 3 (itsC (allL G.s.l kind)) (allL G.s.l kind).length .shut ∧ σ = σ') := by
  refine callsA_gcS ?_ (by simp [AV.under, itsC_under])
  have hke : CallsA Try.prog 28 [.ptr o 0, .sl 1 [.v (.int .u8 119), .v (.int .u8 kind.toNat)] 2 .full] σ _ := keys_ok (p := [119, kind]) (t := .full) h hG (by omega)
  have hsrt := hG.srt
  have hkv := hG.kv
  have hKl : (keysL G.s.l [119, kind]).length ≤ 900000 := by rw [keysL_filter hsrt, List.length_map]; have := List.length_filter_le (fun y : Pr => preB y.k [119, kind]) G.s.l; have := hG.l; omega
  have hKm : ∀ x ∈ keysL G.s.l [119, kind], 2 ≤ x.length ∧ x.length ≤ 1000000 := fun x hx => ⟨keysL_pre hsrt hx, by obtain ⟨y, hy, rfl⟩ := keysL_mem hsrt hx; exact (hkv y hy).1⟩
  obtain ⟨K, hK⟩ : ∃ K, K = keysL G.s.l [119, kind] := ⟨_, rfl⟩
  have hT0 : allL G.s.l kind = K.map (itK G.s.l) := by rw [hK]; rfl
  obtain ⟨T, hT⟩ : ∃ T, T = K.map (itK G.s.l) := ⟨_, rfl⟩
  rw [hT0, ← hT]
  rw [← hK] at hke hKl hKm
  have hTl : T.length = K.length := by rw [hT]; simp
  have hkc := kysC_len K
  have hap : ∀ (O : List It) (x : It) objs, O.length ≤ 1000000 → appendA Try.prog 58 (lsA σ.toks.length 3 (itsC O) O.length) (.sl 3 [.v (.int .u64 x.d), .v (.int .u64 x.n), .sl 1 (bytesA x.p) x.p.length .shut] 1 .full) ⟨objs, σ.toks ++ lsT O.length, σ.gl, σ.rows⟩ = some (lsA σ.toks.length 3 (itsC (O ++ [x])) (O.length + 1), ⟨objs, σ.toks ++ lsT (O.length + 1), σ.gl, σ.rows⟩) := fun O x objs hO => by
    rw [itsC_app]
    exact append_ls elemT_58 ti_61 (by decide) rfl (fun h => by rw [List.eq_nil_of_length_eq_zero h]; rfl) rfl (by omega) (by simp only [roomA]; omega) (by simp only [maxLen]; omega)
  have hol := lt_of_get h.o
  have hge := fun x l tk => get_ok (key := x) (t1 := .shut) (h.app l tk) hG (by omega)
  have F := And.intro hol (And.intro hkc (True.intro))
  refine callsA_body Try.func46 rfl rfl rfl ?_; refine sr fun _ hJ2 => ?_; refine hJ2 _ _ ?_; refine sr fun _ hJ4 => ?_; refine hJ4 _ _ ?_; refine sq fun K5 hK5 => ?_; refine sr fun _ hJ7 => ?_; refine ca (c := hke) (k := ?_); rintro _ _ ⟨rfl, rfl⟩; (repeat (first | simp [F] | simp (disch := omega) only [wC, if_pos, if_neg])); refine hJ7 _ _ ?_; refine run_block_k ?_; refine run_loopG (X := Nat) [0, 4, 14, 15] (fun j ρ σ1 => (j ≤ K.length) ∧ (ρ 16 = .v (.int .i64 j)) ∧ (ρ 5 = lsA σ.toks.length 3 (itsC (T.take j)) j) ∧ (σ1 = { σ with toks := σ.toks ++ lsT j })) (fun j => K.length - j) (0) ?st1 ?rd1
  case st1 =>
   refine ⟨lp, lp, lp, ?_⟩
   · simp [lsT_nil]
  case rd1 =>
   rintro j ρ1 σ1 hF1 ⟨h1, h16, h7, hσ⟩; obtain rfl := hσ.symm
   have f1 := keepL hF1
   (try simp [KeepL, F] at f1); replace F := aF h16 F; replace F := aF h7 F; (try replace F := aF f1 F); refine sr fun _ hJ9 => ?_; refine hJ9 _ _ ?_; refine sq fun K10 hK10 => ?_; refine cs (fun c17 => ?_) (fun c17 => ?_)
   · (try exact nope c17); all_goals have c17p := c17; try simp [F] at c17p
     all_goals
      replace F := aF c17 F; try replace F := aF c17p F
      have hlt : j < K.length := by have h := c17; simp at h; omega
      obtain ⟨x, hx⟩ : ∃ x, x = K[j] := ⟨_, rfl⟩
      have hxm := hKm x (by rw [hx]; exact List.getElem_mem _)
      have hgK : ∀ h : j < (kysC K).length, (kysC K)[j]'h = .sl 1 (bytesA x) x.length .shut := fun h => by rw [kysC_ix hlt h, ← hx]
      have hj1 : j + 1 ≤ K.length := hlt
      have hjT : j < T.length := by omega
      have hTj : (T.take j).length = j := by rw [List.length_take]; omega
      have hta : T.take (j + 1) = T.take j ++ [itK G.s.l x] := by rw [← List.take_append_getElem hjT]; simp [hT, hx]
      obtain ⟨D, hD⟩ : ∃ D, D = x.drop 2 := ⟨_, rfl⟩
      have hdr := bytesA_drop2 x 2
      rw [← hD] at hdr
      have hDl : D.length = x.length - 2 := by rw [hD]; simp
      have htkD : List.take (x.length - 2) (bytesA D) = bytesA D := List.take_of_length_le (by rw [bytesA_length]; omega)
      have hnr := fun τ => new_ok (σ := τ) (p := D) (tl := .shut) (by omega)
      simp only [hDl] at hnr
      obtain ⟨P, hP⟩ : ∃ P, P = (getL G.s.l x).getD [] := ⟨_, rfl⟩
      have hgx := hge x
      simp only [← hP] at hgx
      have hit : itK G.s.l x = ⟨be (takeB 8 (some D)), be (takeB 8 (takeS 8 (some D))), P⟩ := by rw [itK, ← hD, ← hP]
      have hap0 : ∀ objs, appendA Try.prog 58 (lsA σ.toks.length 3 (itsC (T.take j)) j) (.sl 3 [.v (.int .u64 (be (takeB 8 (some D)) : Nat)), .v (.int .u64 (be (takeB 8 (takeS 8 (some D))) : Nat)), .sl 1 (bytesA P) P.length .shut] 1 .full) ⟨objs, σ.toks ++ lsT j, σ.gl, σ.rows⟩ = some (lsA σ.toks.length 3 (itsC (T.take (j + 1))) (j + 1), ⟨objs, σ.toks ++ lsT (j + 1), σ.gl, σ.rows⟩) := fun objs => by have e := hap (T.take j) ⟨be (takeB 8 (some D)), be (takeB 8 (takeS 8 (some D))), P⟩ objs (by omega); rw [← hit, ← hta, hit] at e; simp only [hTj] at e; exact e
      have hx2 := hxm.1
      replace F := aF hlt (And.intro hgK (And.intro hj1 (And.intro hdr (And.intro hap0 (And.intro hx2 (And.intro htkD F)))))); refine run_skip ?_; refine hK10 _ _ ?_; refine sq fun K11 hK11 => ?_; refine run_block_k ?_; refine sr fun _ hJ13 => ?_; refine hJ13 _ _ ?_; refine sr fun _ hJ15 => ?_; refine ca (c := hnr _) (k := ?_); rintro _ _ ⟨rfl, rfl⟩; (repeat (first | simp [F] | simp (disch := omega) only [wC, if_pos, if_neg])); refine hJ15 _ _ ?_; refine sr fun _ hJ17 => ?_; refine ca (c := hgx _ _) (k := ?_); rintro _ _ ⟨rfl, rfl⟩; (repeat (first | simp [F] | simp (disch := omega) only [wC, if_pos, if_neg])); refine hJ17 _ _ ?_; refine rg' (h := fun J18 hJ18 => ?_)
      refine ca (c := long_ok (s := some D) (by simp [F])) (k := ?_)
      rintro _ _ ⟨rfl, rfl⟩; repeat (first | simp [F] | simp (disch := omega) only [wC, if_pos, if_neg])
      refine ca (c := long_ok (s := takeS 8 (some D)) (by simp [F])) (k := ?_)
      rintro _ _ ⟨rfl, rfl⟩; (repeat (first | simp [F] | simp (disch := omega) only [wC, if_pos, if_neg])); refine hJ18 _ _ ?_; refine hK11 _ _ ?_; refine rg' (h := fun J19 hJ19 => ?_); refine hJ19 _ _ ?_; refine ⟨gk, (j + 1), ⟨kpG, lpG, lpG, lpG, lpG⟩, lpG⟩
   (try exact nope c17); all_goals have c17p := c17; try simp [F] at c17p
   all_goals
    replace F := aF c17 F; try replace F := aF c17p F
    have hje : T.take j = T := List.take_of_length_le (by have h := c17; simp at h; omega)
    have hjl : j = T.length := by have h := c17; simp at h; omega
    have hwk := lsA_wk (k := σ.toks.length) (sz := 3) (n := j) (cs := itsC T) (fun h => by rw [List.eq_nil_of_length_eq_zero (l := T) (by omega)]; rfl)
    refine run_exit ?_; refine hK5 _ _ ?_; refine sr fun _ hJ21 => ?_; refine hJ21 _ _ ?_; refine ra ?_
    rw [hje] at h7
    rw [← hjl]
    exact gcr (hA := by simp only [putA_get]; simp [F]; rw [hje]; exact hwk)
end Go.Proofs.Ytlkajgjaidedkaa

/-
  Records of a kind in a store: the plain law.
-/
namespace Go.Proofs.Ytlkajgjaidedkaa
set_option linter.unnecessarySimpa false
set_option maxRecDepth 100000
open Go Go.Vm
set_option linter.unusedSimpArgs false
set_option linter.unusedVariables false

def pl (L : List Pr) (p : List UInt8) : List Pr := L.filter fun x => preB x.k p
theorem pl_srt {L : List Pr} {p : List UInt8} (h : Srt L) : Srt (pl L p) := List.Pairwise.filter _ h
theorem setL_c (a : Pr) (l : List Pr) (k : List UInt8) (o : Option (List UInt8)) : setL (a :: l) k o = if a.k = k then (match o with | some v => ⟨k, v⟩ :: l | none => l) else if ltB k a.k then (match o with | some v => ⟨k, v⟩ :: a :: l | none => a :: l) else a :: setL l k o := by cases o <;> rfl
theorem setL_front {k : List UInt8} {o : Option (List UInt8)} {l : List Pr} (h : ∀ q ∈ l, ltB k q.k = true) : setL l k o = match o with | some v => ⟨k, v⟩ :: l | none => l := by
  cases l with
  | nil => cases o <;> rfl
  | cons a l =>
    have h0 := h a (by simp)
    rw [setL_c, if_neg (fun e => ltB_ne h0 e.symm), if_pos h0]
theorem pl_in {p k : List UInt8} {o : Option (List UInt8)} (hk : preB k p = true) : ∀ {L : List Pr}, Srt L → pl (setL L k o) p = setL (pl L p) k o
  | [], _ => by cases o <;> simp [pl, setL, hk]
  | a :: L, h => by
    have l1 := List.pairwise_cons.1 h
    have ih := pl_in (o := o) hk l1.2
    have hf : pl (a :: L) p = if preB a.k p then a :: pl L p else pl L p := by simp only [pl, List.filter_cons]
    by_cases e : a.k = k
    · have ha : preB a.k p = true := by rw [e]; exact hk
      rw [hf, if_pos ha, setL_c, if_pos e, setL_c, if_pos e]
      cases o with
      | none => rfl
      | some v => simp only [pl, List.filter_cons, hk, if_true]
    · by_cases e2 : ltB k a.k = true
      · have hall : ∀ q ∈ pl (a :: L) p, ltB k q.k = true := fun q hq => by
          rcases List.mem_cons.1 (List.mem_filter.1 hq).1 with rfl | h2
          · exact e2
          · exact ltB_trans e2 (l1.1 q h2)
        rw [setL_front hall, setL_c, if_neg e, if_pos e2]
        cases o with
        | none => rfl
        | some v => simp only [pl, List.filter_cons, hk, if_true]
      · rw [setL_c, if_neg e, if_neg e2, hf]
        have hf2 : pl (a :: setL L k o) p = if preB a.k p then a :: pl (setL L k o) p else pl (setL L k o) p := by simp only [pl, List.filter_cons]
        rw [hf2, ih]
        split
        · rw [setL_c, if_neg e, if_neg e2]
        · rfl
theorem pl_out {p k : List UInt8} {o : Option (List UInt8)} (hk : preB k p = false) : ∀ {L : List Pr}, pl (setL L k o) p = pl L p
  | [] => by cases o <;> simp [pl, setL, hk]
  | a :: L => by
    have ih := pl_out (o := o) hk (L := L)
    by_cases e : a.k = k
    · have ha : preB a.k p = false := by rw [e]; exact hk
      rw [setL_c, if_pos e]
      cases o with
      | none => simp [pl, ha]
      | some v => simp [pl, ha, hk]
    · by_cases e2 : ltB k a.k = true
      · rw [setL_c, if_neg e, if_pos e2]
        cases o with
        | none => rfl
        | some v => simp [pl, hk]
      · rw [setL_c, if_neg e, if_neg e2]
        simp only [pl, List.filter_cons] at ih ⊢
        rw [ih]
theorem getL_pl {p k : List UInt8} (hk : preB k p = true) : ∀ {L : List Pr}, getL (pl L p) k = getL L k
  | [] => rfl
  | a :: L => by
    have ih := getL_pl hk (L := L)
    simp only [pl, List.filter_cons] at ih ⊢
    by_cases e : a.k = k
    · rw [if_pos (by rw [e]; exact hk), getL, getL, if_pos e, if_pos e]
    · split
      · rw [getL, getL, if_neg e, if_neg e, ih]
      · rw [getL, if_neg e, ih]

theorem ltB_be : ∀ {l m : List UInt8}, l.length = m.length → ltB l m = decide (be l < be m)
  | [], [], _ => rfl
  | [], _ :: _, h => by simp at h
  | _ :: _, [], h => by simp at h
  | a :: l, b :: m, h => by
    have hl : l.length = m.length := by simpa using h
    have ih := ltB_be hl
    have h1 := be_lt l
    have h2 := be_lt m
    rw [be_cons, be_cons, hl, ltB]
    rw [hl] at h1
    by_cases e : a = b
    · subst e; rw [if_pos rfl, ih, decide_eq_decide]; omega
    · rw [if_neg e, decide_eq_decide]
      have hne : a.toNat ≠ b.toNat := fun e2 => e (UInt8.toNat_inj.1 e2)
      constructor
      · intro hlt
        have : (a.toNat + 1) * 256 ^ m.length ≤ b.toNat * 256 ^ m.length := Nat.mul_le_mul_right _ hlt
        rw [Nat.add_mul, Nat.one_mul] at this
        omega
      · intro hlt
        by_cases h3 : a.toNat < b.toNat
        · exact h3
        · have : (b.toNat + 1) * 256 ^ m.length ≤ a.toNat * 256 ^ m.length := Nat.mul_le_mul_right _ (by omega)
          rw [Nat.add_mul, Nat.one_mul] at this
          omega
theorem ltB_app : ∀ {l m x y : List UInt8}, l.length = m.length → ltB (l ++ x) (m ++ y) = if l = m then ltB x y else ltB l m
  | [], [], _, _, _ => by simp
  | [], _ :: _, _, _, h => by simp at h
  | _ :: _, [], _, _, h => by simp at h
  | a :: l, b :: m, x, y, h => by
    have ih := ltB_app (l := l) (m := m) (x := x) (y := y) (by simpa using h)
    simp only [List.cons_append, ltB, List.cons.injEq]
    by_cases e : a = b
    · subst e; simp [ih]
    · simp [e]
theorem nBytes_inj {a b : Nat} (ha : a < 2 ^ 64) (hb : b < 2 ^ 64) (h : nBytes 8 a = nBytes 8 b) : a = b := by rw [← be_n8 ha, h, be_n8 hb]
theorem ltB_n8 {a b : Nat} (ha : a < 2 ^ 64) (hb : b < 2 ^ 64) : ltB (nBytes 8 a) (nBytes 8 b) = decide (a < b) := by
  rw [ltB_be (by rw [nBytes_len, nBytes_len]), be_n8 ha, be_n8 hb]

theorem keyW_lt {k : UInt8} {d n d' n' : Nat} (h1 : d < 2 ^ 64) (h2 : n < 2 ^ 64) (h3 : d' < 2 ^ 64) (h4 : n' < 2 ^ 64) : ltB (keyW k d n) (keyW k d' n') = decide (d < d' ∨ d = d' ∧ n < n') := by
  simp only [keyW, ltB, if_true]
  rw [ltB_app (by rw [nBytes_len, nBytes_len]), ltB_n8 h1 h3, ltB_n8 h2 h4]
  by_cases e : d = d'
  · subst e; simp
  · rw [if_neg (fun x => e (nBytes_inj h1 h3 x))]; simp [e]
theorem keyW_inj {k k' : UInt8} {d n d' n' : Nat} (h1 : d < 2 ^ 64) (h2 : n < 2 ^ 64) (h3 : d' < 2 ^ 64) (h4 : n' < 2 ^ 64) (h : keyW k d n = keyW k' d' n') : k = k' ∧ d = d' ∧ n = n' := by
  simp only [keyW, List.cons.injEq, true_and] at h
  have := List.append_inj h.2 (by rw [nBytes_len, nBytes_len])
  exact ⟨h.1, nBytes_inj h1 h3 this.1, nBytes_inj h2 h4 this.2⟩
theorem keyW_pre (k k' : UInt8) (d n : Nat) : preB (keyW k d n) [119, k'] = decide (k = k') := by
  simp [preB, keyW]
theorem ctK_pre (k k' : UInt8) : preB (ctK k) [119, k'] = false := by
  simp [preB, ctK]
theorem keyW_ct (k k' : UInt8) (d n : Nat) : keyW k d n ≠ ctK k' := fun h => by simp [keyW, ctK] at h
theorem ctK_inj {k k' : UInt8} (h : ctK k = ctK k') : k = k' := by simpa [ctK] using h

def It.Ok (x : It) : Prop := x.d < 2 ^ 64 ∧ x.n < 2 ^ 64
def recs (k : UInt8) (I : List It) : List Pr := I.map fun x => ⟨keyW k x.d x.n, x.p⟩
def setI : List It → Nat → Nat → Option (List UInt8) → List It
  | [], d, n, some p => [⟨d, n, p⟩]
  | [], _, _, none => []
  | x :: l, d, n, o => if x.d = d ∧ x.n = n then (match o with | some p => ⟨d, n, p⟩ :: l | none => l)
    else if d < x.d ∨ d = x.d ∧ n < x.n then (match o with | some p => ⟨d, n, p⟩ :: x :: l | none => x :: l) else x :: setI l d n o
theorem recs_setI {k : UInt8} {d n : Nat} {o : Option (List UInt8)} (hd : d < 2 ^ 64) (hn : n < 2 ^ 64) : ∀ {I : List It}, (∀ x ∈ I, x.Ok) → setL (recs k I) (keyW k d n) o = recs k (setI I d n o)
  | [], _ => by cases o <;> rfl
  | x :: I, h => by
    have hx := h x (by simp)
    have ih := recs_setI (k := k) (o := o) hd hn (fun y hy => h y (by simp [hy]) : ∀ y ∈ I, y.Ok)
    have he : keyW k x.d x.n = keyW k d n ↔ x.d = d ∧ x.n = n := ⟨fun e => (keyW_inj hx.1 hx.2 hd hn e).2, fun e => by rw [e.1, e.2]⟩
    have hlt := keyW_lt (k := k) hd hn hx.1 hx.2
    simp only [recs, List.map_cons, setL, setI, hlt, decide_eq_true_eq] at ih ⊢
    by_cases e : x.d = d ∧ x.n = n
    · rw [if_pos (he.2 e), if_pos e]; cases o <;> simp
    · rw [if_neg (fun q => e (he.1 q)), if_neg e]
      split
      · cases o <;> simp
      · rw [ih]; simp

structure Ln (L : List Pr) (k : UInt8) (I : List It) (c : Nat) : Prop where
  pl : pl L [119, k] = recs k I
  ct : getL L (ctK k) = if c = 0 then none else some (nBytes 8 c)
  ok : ∀ x ∈ I, x.Ok
  num : ∀ x ∈ I, 1 ≤ x.n ∧ x.n ≤ c

theorem setI_mem {d n : Nat} {o : Option (List UInt8)} : ∀ {I : List It} {x : It}, x ∈ setI I d n o → x ∈ I ∨ (x.d = d ∧ x.n = n ∧ o = some x.p)
  | [], x, h => by
    cases o with
    | none => simp [setI] at h
    | some p => simp [setI] at h; subst h; exact .inr ⟨rfl, rfl, rfl⟩
  | y :: I, x, h => by
    unfold setI at h
    split at h
    · cases o with
      | none => exact .inl (by simp [h])
      | some p => rcases List.mem_cons.1 h with rfl | h1
                  · exact .inr ⟨rfl, rfl, rfl⟩
                  · exact .inl (by simp [h1])
    · split at h
      · cases o with
        | none => exact .inl h
        | some p => rcases List.mem_cons.1 h with rfl | h1
                    · exact .inr ⟨rfl, rfl, rfl⟩
                    · exact .inl h1
      · rcases List.mem_cons.1 h with rfl | h1
        · exact .inl (by simp)
        · rcases setI_mem h1 with h2 | h2
          · exact .inl (by simp [h2])
          · exact .inr h2

theorem Ln.nil (k : UInt8) : Ln [] k [] 0 := ⟨rfl, rfl, fun x hx => by simp at hx, fun x hx => by simp at hx⟩
theorem Ln.set {L : List Pr} {k : UInt8} {I : List It} {c : Nat} (h : Ln L k I c) (hs : Srt L) {d n : Nat} {o : Option (List UInt8)} (hd : d < 2 ^ 64) (hn : n < 2 ^ 64) (h1 : o ≠ none → 1 ≤ n ∧ n ≤ c) : Ln (setL L (keyW k d n) o) k (setI I d n o) c := by
  refine ⟨?_, ?_, fun x hx => ?_, fun x hx => ?_⟩
  · rw [pl_in (by rw [keyW_pre]; simp) hs, h.pl, recs_setI hd hn h.ok]
  · rw [getL_setL hs, if_neg (fun e => keyW_ct _ _ _ _ e.symm), h.ct]
  · rcases setI_mem hx with h2 | ⟨h2, h3, _⟩
    · exact h.ok x h2
    · exact ⟨by rw [h2]; exact hd, by rw [h3]; exact hn⟩
  · rcases setI_mem hx with h2 | ⟨h2, h3, h4⟩
    · exact h.num x h2
    · rw [h3]; exact h1 (by rw [h4]; simp)
theorem Ln.other {L : List Pr} {k k' : UInt8} {I : List It} {c : Nat} (h : Ln L k I c) (hs : Srt L) (hk : k' ≠ k) {d n : Nat} {o : Option (List UInt8)} : Ln (setL L (keyW k' d n) o) k I c := by
  refine ⟨?_, ?_, h.ok, h.num⟩
  · rw [pl_out (by rw [keyW_pre]; simp [hk]), h.pl]
  · rw [getL_setL hs, if_neg (fun e => keyW_ct _ _ _ _ e.symm), h.ct]
theorem Ln.count {L : List Pr} {k : UInt8} {I : List It} {c c' : Nat} (h : Ln L k I c) (hs : Srt L) (hc : c ≤ c') (h0 : 0 < c') : Ln (setL L (ctK k) (some (nBytes 8 c'))) k I c' := by
  refine ⟨?_, ?_, h.ok, fun x hx => ⟨(h.num x hx).1, Nat.le_trans (h.num x hx).2 hc⟩⟩
  · rw [pl_out (ctK_pre _ _), h.pl]
  · rw [getL_setL hs, if_pos rfl, if_neg (by omega)]
theorem Ln.count' {L : List Pr} {k k' : UInt8} {I : List It} {c : Nat} (h : Ln L k I c) (hs : Srt L) (hk : k' ≠ k) {o : Option (List UInt8)} : Ln (setL L (ctK k') o) k I c := by
  refine ⟨?_, ?_, h.ok, h.num⟩
  · rw [pl_out (ctK_pre _ _), h.pl]
  · rw [getL_setL hs, if_neg (fun e => hk (ctK_inj e).symm), h.ct]

theorem addL_l (s : Sto) (k : UInt8) (d : Nat) (p : List UInt8) (m : Nat) : (addL s k d p m).l = setL (setL s.l (ctK k) (some (nBytes 8 (m + 1)))) (keyW k d (m + 1)) (some p) := rfl
theorem Ln.add {s : Sto} {k : UInt8} {I : List It} {c : Nat} (h : Ln s.l k I c) (hs : Srt s.l) {d : Nat} {p : List UInt8} (hd : d < 2 ^ 64) (hc : c + 1 < 2 ^ 64) : Ln (addL s k d p c).l k (setI I d (c + 1) (some p)) (c + 1) := by
  rw [addL_l]
  exact (h.count hs (Nat.le_succ c) (Nat.succ_pos c)).set (setL_srt hs) hd hc (fun _ => ⟨Nat.succ_pos c, Nat.le_refl _⟩)
theorem Ln.add' {s : Sto} {k k' : UInt8} {I : List It} {c : Nat} (h : Ln s.l k I c) (hs : Srt s.l) (hk : k' ≠ k) {d m : Nat} {p : List UInt8} : Ln (addL s k' d p m).l k I c := by
  rw [addL_l]
  exact (h.count' hs hk).other (setL_srt hs) hk

theorem Ln.all {L : List Pr} {k : UInt8} {I : List It} {c : Nat} (h : Ln L k I c) (hs : Srt L) : allL L k = I := by
  have hsp := pl_srt (p := [119, k]) hs
  rw [h.pl] at hsp
  have e1 : keysL L [119, k] = I.map fun x => keyW k x.d x.n := by
    rw [keysL_filter hs]
    show (Proofs.Ytlkajgjaidedkaa.pl L [119, k]).map (·.k) = _
    rw [h.pl, recs, List.map_map]; rfl
  rw [allL, e1, List.map_map]
  conv => rhs; rw [← List.map_id I]
  refine List.map_congr_left fun x hx => ?_
  have hx1 := h.ok x hx
  have hg : getL L (keyW k x.d x.n) = some x.p := by
    rw [← getL_pl (p := [119, k]) (by rw [keyW_pre]; simp), h.pl]
    exact getL_of_mem hsp (p := ⟨keyW k x.d x.n, x.p⟩) (List.mem_map.2 ⟨x, hx, rfl⟩)
  have ed : (keyW k x.d x.n).drop 2 = nBytes 8 x.d ++ nBytes 8 x.n := rfl
  have t1 := takeL (l := nBytes 8 x.d) (q := nBytes 8 x.n) (nBytes_len _ _)
  have t2 := takeL (l := nBytes 8 x.n) (q := []) (nBytes_len _ _)
  rw [List.append_nil] at t2
  simp only [Function.comp, itK, ed, hg, t1.1, t1.2, t2.2, be_n8 hx1.1, be_n8 hx1.2, id, Option.getD_some]

theorem Ln.get {L : List Pr} {k : UInt8} {I : List It} {c : Nat} (h : Ln L k I c) {d n : Nat} (hd : d < 2 ^ 64) (hn : n < 2 ^ 64) : (getL L (keyW k d n)).isSome = I.any fun x => decide (x.d = d ∧ x.n = n) := by
  rw [← getL_pl (p := [119, k]) (by rw [keyW_pre]; simp), h.pl]
  have ho := h.ok
  clear h
  induction I with
  | nil => rfl
  | cons x I ih =>
    have hx := ho x (by simp)
    rw [recs, List.map_cons, getL, List.any_cons]
    by_cases e : x.d = d ∧ x.n = n
    · rw [if_pos (by simp only; rw [e.1, e.2]), decide_eq_true e]; rfl
    · rw [if_neg (fun q => e (keyW_inj hx.1 hx.2 hd hn q).2), decide_eq_false e, Bool.false_or]
      exact ih (fun y hy => ho y (by simp [hy]))

theorem Ln.sorted {L : List Pr} {k : UInt8} {I : List It} {c : Nat} (h : Ln L k I c) (hs : Srt L) : I.Pairwise fun x y => x.d < y.d ∨ x.d = y.d ∧ x.n < y.n := by
  have hsp := pl_srt (p := [119, k]) hs
  rw [h.pl, Srt, recs, List.pairwise_map] at hsp
  refine List.Pairwise.imp_of_mem (fun {x y} hx hy hxy => ?_) hsp; simp only at hxy
  rw [keyW_lt (h.ok x hx).1 (h.ok x hx).2 (h.ok y hy).1 (h.ok y hy).2] at hxy
  simpa using hxy

end Go.Proofs.Ytlkajgjaidedkaa

/-
  The package line: those that are due; of no store.
-/
namespace Go.Proofs.Ytlkajgjaidedkaa
set_option linter.unnecessarySimpa false
set_option maxRecDepth 100000
open Go Go.Vm
set_option linter.unusedSimpArgs false
set_option linter.unusedVariables false
attribute [local simp] evalL wantedA isCall opA evalA evalAll evalsA evalOpt ofValue ofCell plain binA_eql_pn binA_neq_pn binA_gtr binA_lss binA_geq binA_leq binA_add binA_sub binA_eql binA_neq binA_orI binA_shl binA_shr binA_mul binA_quo binA_rem binA_agg_eql binA_agg_neq convA_int unA_not fieldAddrA loadA partA pickA_true pickA_false pickA_bb lenA builtinA storeA splice AV.cells AV.isCell sliceA boundA intA callOf indexAddrA newObjA buildA fillA zeroA ofCells buildSliceA indexA fieldA set_appN get_appN take_appN List.getElem?_cons_zero List.getElem?_cons_succ get_sa0 get_sa1 get_sa2 get_sa3 set_sa0 set_sa1 set_sa2 set_sa3 sliceRowA binA_eqn binA_neqn drop_mr

def ripeL (T : List It) (now : Nat) : List It := T.takeWhile fun x => decide (x.d ≤ now)
set_option maxHeartbeats 1600000 in
attribute [local simp] undefA List.getElem?_cons_zero List.getElem?_cons_succ drop_mr byC itsC_noObj bytes_noObj in
theorem ripe_ok {σ : St} {o k n : Nat} {G : Sg} {kind : UInt8} {now : Nat} (h : HasS σ o k G) (hG : G.s.Ok n) (hn : n ≤ 900000) :
    CallsA Try.prog 53 [.ptr o 0, .v (.int .u8 kind.toNat), .v (.int .u64 now)] σ (fun av σ' => av = .sl 3 (itsC (ripeL (allL G.s.l kind) now)) (ripeL (allL G.s.l kind) now).length .shut ∧ σ = σ') := by
  refine callsA_gcS ?_ (by simp [AV.under, itsC_under])
  have hal := all_ok (kind := kind) h hG hn
  have hol := lt_of_get h.o
  have hTl : (allL G.s.l kind).length ≤ 900000 := by rw [allL, List.length_map, keysL_filter hG.srt, List.length_map]; have := List.length_filter_le (fun y : Pr => preB y.k [119, kind]) G.s.l; have := hG.l; omega
  obtain ⟨T, hT⟩ : ∃ T, T = allL G.s.l kind := ⟨_, rfl⟩
  rw [← hT] at hal hTl ⊢
  have htc := itsC_len T
  have F := And.intro htc (And.intro hol (True.intro))
  refine callsA_body Try.func53 rfl rfl rfl ?_; refine sr fun _ hJ2 => ?_; refine hJ2 _ _ ?_; refine sr fun _ hJ4 => ?_; refine ca (c := hal) (k := ?_); rintro _ _ ⟨rfl, rfl⟩; (repeat (first | simp [F] | simp (disch := omega) only [wC, if_pos, if_neg])); refine hJ4 _ _ ?_; refine sq fun K5 hK5 => ?_; refine sr fun _ hJ7 => ?_; refine hJ7 _ _ ?_; refine run_block_k ?_; refine run_loopG (X := Nat) [2, 7, 13, 14] (fun j ρ σ1 => (j ≤ T.length) ∧ (∀ x ∈ T.take j, decide (x.d ≤ now) = true) ∧ (ρ 15 = .v (.int .i64 j)) ∧ (σ1 = σ)) (fun j => T.length - j) (0) ?st1 ?rd1
  case st1 =>
   refine ⟨lp, ?_, lp, lp⟩
   · intro x hx
     simp at hx
  case rd1 =>
   rintro j ρ1 σ1 hF1 ⟨h1, h2, h15, hσ⟩; obtain rfl := hσ.symm
   have f1 := keepL hF1
   (try simp [KeepL, F] at f1); replace F := aF h15 F; (try replace F := aF f1 F); refine sr fun _ hJ9 => ?_; refine hJ9 _ _ ?_; refine sq fun K10 hK10 => ?_; refine cs (fun c16 => ?_) (fun c16 => ?_)
   · (try exact nope c16); all_goals have c16p := c16; try simp [F] at c16p
     all_goals
      replace F := aF c16 F; try replace F := aF c16p F
      have hlt : j < T.length := by have h := c16; simp at h; omega
      obtain ⟨R, hR⟩ := itsC_at hlt
      obtain ⟨x, hx⟩ : ∃ x, x = T[j] := ⟨_, rfl⟩
      rw [← hx] at hR
      simp only [itC, byC] at hR
      have hb3 : j * 3 + 3 ≤ T.length * 3 := by omega
      have hi1 : j + 1 ≤ T.length := hlt
      have hta : T.take (j + 1) = T.take j ++ [x] := by rw [hx]; exact (List.take_append_getElem hlt).symm
      have htk := itsC_take (l := T) (i := j)
      replace F := aF hlt (And.intro hR (And.intro hb3 (And.intro hi1 (And.intro htk F)))); refine run_skip ?_; refine hK10 _ _ ?_; refine sq fun K11 hK11 => ?_; refine run_block_k ?_; refine sr fun _ hJ13 => ?_; refine hJ13 _ _ ?_; refine sr fun _ hJ15 => ?_; refine hJ15 _ _ ?_; refine cs (fun c23 => ?_) (fun c23 => ?_)
      · (try exact nope c23); all_goals have c23p := c23; try simp [F] at c23p
        all_goals
         replace F := aF c23 F; try replace F := aF c23p F
         have hst := takeWhile_stop (l := T) (j := j) h2 (fun y hy => by rw [List.getElem?_eq_getElem hlt, ← hx] at hy; cases hy; have h := c23; simp at h; simp; omega)
         have hTj : (T.take j).length = j := by rw [List.length_take]; omega
         refine sr fun _ hJ17 => ?_; refine hJ17 _ _ ?_; refine ra ?_
         rw [ripeL, hst, hTj]
         exact gcr
      (try exact nope c23); all_goals have c23p := c23; try simp [F] at c23p
      all_goals
       replace F := aF c23 F; (try replace F := aF c23p F); refine run_skip ?_; refine hK11 _ _ ?_; refine rg' (h := fun J18 hJ18 => ?_); refine hJ18 _ _ ?_; refine ⟨gk, (j + 1), ⟨kpG, lpG, ?_, lpG, lpG⟩, lpG⟩
       · rw [hta]
         intro y hy
         rcases List.mem_append.1 hy with h | h
         · exact h2 y h
         · simp at h; rw [h]; have h := c23; simp at h; simp; omega
   (try exact nope c16); all_goals have c16p := c16; try simp [F] at c16p
   all_goals
    replace F := aF c16 F; try replace F := aF c16p F
    have hte : T.take j = T := List.take_of_length_le (by have h := c16; simp at h; omega)
    have hst := takeWhile_stop (l := T) (j := j) h2 (fun y hy => by rw [List.getElem?_eq_none (by have h := c16; simp at h; omega)] at hy; cases hy)
    refine run_exit ?_; refine hK5 _ _ ?_; refine sr fun _ hJ20 => ?_; refine hJ20 _ _ ?_; refine ra ?_
    rw [ripeL, hst, hte]
    exact gcr

structure AL where
  f : UInt8
  kd : UInt8
  d : Nat
  n : Nat
  p : List UInt8
def alC (a : AL) : List AV := [.v (.int .u8 a.f.toNat), .v (.int .u8 a.kd.toNat), .v (.int .u64 a.d), .v (.int .u64 a.n), byC a.p]
def alsC (l : List AL) : List AV := l.flatMap alC
def AL.Ok (a : AL) : Prop := a.d < 2 ^ 64 ∧ a.n < 2 ^ 64 ∧ a.p.length ≤ 9223372036854775807
theorem alsC_len (l : List AL) : (alsC l).length = l.length * 5 := by
  induction l with
  | nil => rfl
  | cons p l ih => simp only [alsC, List.flatMap_cons, List.length_append, alC, List.length_cons, List.length_nil] at ih ⊢; omega
theorem alsC_at : ∀ {l : List AL} {i : Nat} (h : i < l.length), ∃ R, (alsC l).drop (i * 5) = alC l[i] ++ R
  | p :: l, 0, h => ⟨alsC l, rfl⟩
  | p :: l, i + 1, h => by
    obtain ⟨R, hR⟩ := alsC_at (l := l) (i := i) (by simpa using h)
    refine ⟨R, ?_⟩
    rw [show (i + 1) * 5 = 5 + i * 5 by omega]
    show List.drop (5 + i * 5) (alC p ++ alsC l) = _
    rw [← List.drop_drop]
    exact hR
theorem get_drop {l : List AV} {i j : Nat} {x : AV} (h : (l.drop i)[j]? = some x) : ∀ h2 : i + j < l.length, l[i + j]'h2 = x := fun h2 => by
  rw [List.getElem?_drop] at h
  exact (List.getElem?_eq_some_iff.1 h).2
def FewL (l : List AL) : Prop := l.length ≤ 40 ∧ ∀ a ∈ l, a.p.length ≤ 60
instance (l : List AL) : Decidable (FewL l) := by unfold FewL; exact inferInstance

set_option maxHeartbeats 1600000 in
attribute [local simp] undefA List.getElem?_cons_zero List.getElem?_cons_succ in
theorem few13_ok {σ : St} {l : List AL} (hl : l.length ≤ 9223372036854775807) (hb : ∀ a ∈ l, a.Ok) :
    CallsA Try.prog 44 [.sl 5 (alsC l) l.length .shut] σ (fun av σ' => av = .v (.bool (decide (FewL l))) ∧ σ = σ') := by
  have hlc := alsC_len l
  have F := And.intro hlc (True.intro)
  refine callsA_body Try.func44 rfl rfl rfl ?_; refine sr fun _ hJ2 => ?_; refine hJ2 _ _ ?_; refine sq fun K3 hK3 => ?_; refine sr fun _ hJ5 => ?_; refine hJ5 _ _ ?_; refine cs (fun c6 => ?_) (fun c6 => ?_)
  · (try exact nope c6); all_goals have c6p := c6; try simp [F] at c6p
    all_goals
     replace F := aF c6 F; try replace F := aF c6p F
     have hn : ¬ FewL l := fun e => by have h1 := e.1; have h := c6; simp at h; omega
     replace F := aF hn F; refine sr fun _ hJ7 => ?_; refine hJ7 _ _ ?_; refine ra ?_; exact rt
  (try exact nope c6); all_goals have c6p := c6; try simp [F] at c6p
  all_goals
   replace F := aF c6 F; (try replace F := aF c6p F); refine run_skip ?_; refine hK3 _ _ ?_; refine sq fun K8 hK8 => ?_; refine sr fun _ hJ10 => ?_; refine hJ10 _ _ ?_; refine run_block_k ?_; refine run_loopF (X := Nat) [0] (fun i ρ σ1 => (i ≤ l.length) ∧ (∀ a ∈ l.take i, a.p.length ≤ 60) ∧ (ρ 3 = .v (.int .i64 i)) ∧ (σ1 = σ)) (fun i => l.length - i) (0) ?st1 ?rd1
   case st1 =>
    refine ⟨lp, ?_, lp, lp⟩
    · intro a ha
      simp at ha
   case rd1 =>
    rintro i ρ1 σ1 hF1 ⟨h1, h2, h5, hσ⟩; obtain rfl := hσ.symm
    have f1 := keepL hF1
    (try simp [KeepL, F] at f1); replace F := aF h5 F; (try replace F := aF f1 F); refine sq fun K11 hK11 => ?_; refine sr fun _ hJ13 => ?_; refine hJ13 _ _ ?_; refine cs (fun c10 => ?_) (fun c10 => ?_)
    · (try exact nope c10); all_goals have c10p := c10; try simp [F] at c10p
      all_goals
       replace F := aF c10 F; try replace F := aF c10p F
       have hlt : i < l.length := by have h := c10; simp at h; omega
       obtain ⟨R, hR⟩ := alsC_at hlt
       obtain ⟨a, ha⟩ : ∃ a, a = l[i] := ⟨_, rfl⟩
       rw [← ha] at hR
       simp only [alC, byC] at hR
       have hmem : a ∈ l := by rw [ha]; exact List.getElem_mem _
       have h4 := get_drop (l := alsC l) (i := i * 5) (j := 4) (x := .sl 1 (bytesA a.p) a.p.length .shut) (by rw [hR]; rfl)
       have hbl := (hb a hmem).2.2
       have hb5 : i * 5 + 5 ≤ l.length * 5 := by omega
       have hb4 : i * 5 + 4 < l.length * 5 := by omega
       have hi1 : i + 1 ≤ l.length := hlt
       have hta : l.take (i + 1) = l.take i ++ [a] := by rw [ha]; exact (List.take_append_getElem hlt).symm
       replace F := aF hlt (And.intro hb5 (And.intro hi1 (And.intro h4 (And.intro hb4 F)))); refine run_skip ?_; refine hK11 _ _ ?_; refine sq fun K14 hK14 => ?_; refine run_block_k ?_; refine sr fun _ hJ16 => ?_; refine hJ16 _ _ ?_; refine cs (fun c19 => ?_) (fun c19 => ?_)
       · (try exact nope c19); all_goals have c19p := c19; try simp [F] at c19p
         all_goals
          replace F := aF c19 F; try replace F := aF c19p F
          have hn : ¬ FewL l := fun e => by have h1 := e.2 a hmem; have h := c19; simp at h; omega
          replace F := aF hn F; refine sr fun _ hJ18 => ?_; refine hJ18 _ _ ?_; refine ra ?_; exact rt
       (try exact nope c19); all_goals have c19p := c19; try simp [F] at c19p
       all_goals
        replace F := aF c19 F; (try replace F := aF c19p F); refine run_skip ?_; refine hK14 _ _ ?_; refine rg' (h := fun J19 hJ19 => ?_); refine hJ19 _ _ ?_; refine ⟨(i + 1), ⟨kp, lp, ?_, lp, lp⟩, lp⟩
        · rw [hta]
          intro y hy
          rcases List.mem_append.1 hy with h | h
          · exact h2 y h
          · simp at h; rw [h]; have h := c19; simp at h; omega
    (try exact nope c10); all_goals have c10p := c10; try simp [F] at c10p
    all_goals
     replace F := aF c10 F; try replace F := aF c10p F
     have hy : FewL l := ⟨by have h := c6; simp at h; omega, by rw [List.take_of_length_le (by have h := c10; simp at h; omega)] at h2; exact h2⟩
     replace F := aF hy F; refine run_exit ?_; refine hK8 _ _ ?_; refine sr fun _ hJ21 => ?_; refine hJ21 _ _ ?_; refine ra ?_; exact rt

theorem add1 {σ : St} {n m : Nat} {G : Sg} {kind : UInt8} {d : Nat} {p : List UInt8} {tp : Tail} {I : List It} (hG : G.s.Ok n) (hI : Ln G.s.l kind I m) (hn : n ≤ 900000) (hd : d < 2 ^ 64) (hp : p.length ≤ 1000000) (hm : m + 1 < 2 ^ 64) :
    CallsA Try.prog 45 [.ptr σ.objs.length 0, .v (.int .u8 kind.toNat), .v (.int .u64 d), .sl 1 (bytesA p) p.length tp] (St1 σ G) (fun av σ' => ∃ G', G'.s = addL G.s kind d p m ∧ av = .v (.int .u64 (m + 1 : Nat)) ∧ σ' = St1 σ G') :=
  callsA_mono (ladd_ok (St1.has σ G) hG hn hd hp hm hI.ct) (fun av σ' ⟨G', e1, e2, e3⟩ => ⟨G', e1, e2, by rw [e3, St1.put]⟩)
theorem addL_ok {s : Sto} {n m : Nat} {kind : UInt8} {d : Nat} {p : List UInt8} (h : s.Ok n) (hp : p.length ≤ 1000000) : (addL s kind d p m).Ok (n + 2) :=
  doS_ok (doS_ok h (by simp [ctK]) (by simp [nBytes_len])) (by rw [keyW_len]; omega) (by simpa using hp)
theorem wk_nilarg {a b c d : AV} : WkL [a, b, c, .sl 0 [] 0 .full] [a, b, c, .sl 1 [] 0 .shut] := .cons (Wk.refl _) (.cons (Wk.refl _) (.cons (Wk.refl _) (.cons (Wk.nil _ _ _) .nil)))

set_option maxHeartbeats 1600000 in
attribute [local simp] undefA List.getElem?_cons_zero List.getElem?_cons_succ in
theorem adds_ok {σ : St} : CallsA Try.prog 43 [] σ (fun av σ' => av = .v (.bool true) ∧ σ = σ') := by
  refine callsA_gcS ?_ rfl
  have hnew : CallsA Try.prog 22 [] σ (fun av σ' => av = .ptr σ.objs.length 0 ∧ σ' = St1 σ newSg) := new_st_ok
  obtain ⟨s1, q1⟩ : ∃ s, s = addL newSg.s 1 9 [] 0 := ⟨_, rfl⟩
  obtain ⟨s2, q2⟩ : ∃ s, s = addL s1 1 5 [7] 1 := ⟨_, rfl⟩
  obtain ⟨s3, q3⟩ : ∃ s, s = addL s2 1 5 [] 2 := ⟨_, rfl⟩
  have o0 := newSg_ok
  have o1 : s1.Ok 2 := by rw [q1]; exact addL_ok o0 (by decide)
  have o2 : s2.Ok 4 := by rw [q2]; exact addL_ok o1 (by decide)
  have o3 : s3.Ok 6 := by rw [q3]; exact addL_ok o2 (by decide)
  have n0 : Ln newSg.s.l 1 [] 0 := Ln.nil 1
  have n1 : Ln s1.l 1 [⟨9, 1, []⟩] 1 := by rw [q1]; exact n0.add o0.srt (by decide) (by decide)
  have n2 : Ln s2.l 1 [⟨5, 2, [7]⟩, ⟨9, 1, []⟩] 2 := by rw [q2]; exact n1.add o1.srt (by decide) (by decide)
  have n3 : Ln s3.l 1 [⟨5, 2, [7]⟩, ⟨5, 3, []⟩, ⟨9, 1, []⟩] 3 := by rw [q3]; exact n2.add o2.srt (by decide) (by decide)
  have m1 : Ln s1.l 2 [] 0 := by rw [q1]; exact (Ln.nil 2).add' o0.srt (by decide)
  have m2 : Ln s2.l 2 [] 0 := by rw [q2]; exact m1.add' o1.srt (by decide)
  have m3 : Ln s3.l 2 [] 0 := by rw [q3]; exact m2.add' o2.srt (by decide)
  have c1 : CallsA Try.prog 45 [.ptr σ.objs.length 0, .v (.int .u8 1), .v (.int .u64 9), .sl 0 [] 0 .full] (St1 σ newSg) (fun av σ' => ∃ G', G'.s = s1 ∧ av = .v (.int .u64 1) ∧ σ' = St1 σ G') := q1 ▸ callsA_wk (wk_nilarg (d := .tup [])) (add1 (kind := 1) (d := 9) (p := []) (tp := .shut) o0 n0 (by omega) (by decide) (by decide) (by decide))
  have c2 : ∀ G : Sg, G.s = s1 → CallsA Try.prog 45 [.ptr σ.objs.length 0, .v (.int .u8 1), .v (.int .u64 5), .sl 1 [.v (.int .u8 7)] 1 .full] (St1 σ G) (fun av σ' => ∃ G', G'.s = s2 ∧ av = .v (.int .u64 2) ∧ σ' = St1 σ G') := fun G e => by
    rw [q2, ← e]; exact add1 (kind := 1) (d := 5) (p := [7]) (tp := .full) (m := 1) (by rw [e]; exact o1) (by rw [e]; exact n1) (by omega) (by decide) (by decide) (by decide)
  have c3 : ∀ G : Sg, G.s = s2 → CallsA Try.prog 45 [.ptr σ.objs.length 0, .v (.int .u8 1), .v (.int .u64 5), .sl 0 [] 0 .full] (St1 σ G) (fun av σ' => ∃ G', G'.s = s3 ∧ av = .v (.int .u64 3) ∧ σ' = St1 σ G') := fun G e => by
    rw [q3, ← e]; exact callsA_wk (wk_nilarg (d := .tup [])) (add1 (kind := 1) (d := 5) (p := []) (tp := .shut) (m := 2) (by rw [e]; exact o2) (by rw [e]; exact n2) (by omega) (by decide) (by decide) (by decide))
  have c4 : ∀ G : Sg, G.s = s3 → CallsA Try.prog 46 [.ptr σ.objs.length 0, .v (.int .u8 1)] (St1 σ G) (fun av σ' => av = .sl 3 (itsC [⟨5, 2, [7]⟩, ⟨5, 3, []⟩, ⟨9, 1, []⟩]) 3 .shut ∧ St1 σ G = σ') := fun G e => by
    have := all_ok (kind := 1) (St1.has σ G) (n := 6) (by rw [e]; exact o3) (by omega)
    rw [e, n3.all o3.srt] at this; exact this
  have c5 : ∀ G : Sg, G.s = s3 → CallsA Try.prog 46 [.ptr σ.objs.length 0, .v (.int .u8 2)] (St1 σ G) (fun av σ' => av = .sl 3 [] 0 .shut ∧ St1 σ G = σ') := fun G e => by
    have := all_ok (kind := 2) (St1.has σ G) (n := 6) (by rw [e]; exact o3) (by omega)
    rw [e, m3.all o3.srt] at this; exact this
  have c6 : ∀ G : Sg, G.s = s3 → CallsA Try.prog 53 [.ptr σ.objs.length 0, .v (.int .u8 1), .v (.int .u64 8)] (St1 σ G) (fun av σ' => av = .sl 3 (itsC [⟨5, 2, [7]⟩, ⟨5, 3, []⟩]) 2 .shut ∧ St1 σ G = σ') := fun G e => by
    have := ripe_ok (kind := 1) (now := 8) (St1.has σ G) (n := 6) (by rw [e]; exact o3) (by omega)
    rw [e, n3.all o3.srt] at this; exact this
  have i3 : itsC [⟨5, 2, [7]⟩, ⟨5, 3, []⟩, ⟨9, 1, []⟩] = [.v (.int .u64 5), .v (.int .u64 2), byC [7], .v (.int .u64 5), .v (.int .u64 3), byC [], .v (.int .u64 9), .v (.int .u64 1), byC []] := rfl
  have F := And.intro i3 (True.intro)
  refine callsA_body Try.func43 rfl rfl rfl ?_; refine sr fun _ hJ2 => ?_; refine hJ2 _ _ ?_; refine sr fun _ hJ4 => ?_; refine ca (c := hnew) (k := ?_); rintro _ _ ⟨rfl, rfl⟩; (repeat (first | simp [F] | simp (disch := omega) only [wC, if_pos, if_neg])); refine hJ4 _ _ ?_; refine sq fun K5 hK5 => ?_; refine sr fun _ hJ7 => ?_; refine ca (c := c1) (k := ?_); rintro _ _ ⟨G1, e1, rfl, rfl⟩; (repeat (first | simp [F] | simp (disch := omega) only [wC, if_pos, if_neg])); (iterate 2 refine go2 (k := ?_)); refine ca (c := c2 G1 e1) (k := ?_); rintro _ _ ⟨G2, e2, rfl, rfl⟩; (repeat (first | simp [F] | simp (disch := omega) only [wC, if_pos, if_neg])); (iterate 2 refine go2 (k := ?_)); refine ca (c := c3 G2 e2) (k := ?_); rintro _ _ ⟨G3, e3, rfl, rfl⟩; (repeat (first | simp [F] | simp (disch := omega) only [wC, if_pos, if_neg])); refine go2 (k := ?_); refine hJ7 _ _ ?_; refine cf ?_; refine run_skip ?_; refine hK5 _ _ ?_; refine sr fun _ hJ9 => ?_; refine ca (c := c4 G3 e3) (k := ?_); rintro _ _ ⟨rfl, rfl⟩; (repeat (first | simp [F] | simp (disch := omega) only [wC, if_pos, if_neg])); refine hJ9 _ _ ?_; refine sr fun _ hJ11 => ?_; (iterate 16 refine go2 (k := ?_)); refine ca (c := c6 G3 e3) (k := ?_); rintro _ _ ⟨rfl, rfl⟩; (repeat (first | simp [F] | simp (disch := omega) only [wC, if_pos, if_neg])); (iterate 3 refine go2 (k := ?_)); refine ca (c := c5 G3 e3) (k := ?_); rintro _ _ ⟨rfl, rfl⟩; (repeat (first | simp [F] | simp (disch := omega) only [wC, if_pos, if_neg])); (iterate 2 refine go2 (k := ?_)); refine hJ11 _ _ ?_; refine ra ?_; exact gcr
structure NS where
  i : Nat
  G : Sg

theorem rem_ok {s : Sto} {n : Nat} {kind : UInt8} {d no : Nat} (h : s.Ok n) : (doS s (keyW kind d no) none).Ok (n + 1) := doS_ok h (by rw [keyW_len]; omega) (by simp)
end Go.Proofs.Ytlkajgjaidedkaa

/-
  Plans: what they are, when they are right.
-/
namespace Go.Vm
open Go

structure Per where
  l : Nat
  c : List Coin
deriving DecidableEq

structure Pln where
  k : UInt8
  s : Nat
  e : Nat
  tot : List Coin
  ps : List Per
deriving DecidableEq

def perC (p : Per) : List AV := [.v (.int .u64 p.l), .sl 5 (coinsC p.c) p.c.length .shut]
def persC (l : List Per) : List AV := l.flatMap perC
@[simp] theorem persC_nil : persC [] = [] := rfl
@[simp] theorem persC_len (l : List Per) : (persC l).length = l.length * 2 := flat_length perC 2 (fun _ => rfl) l
def Pln.Ok (p : Pln) : Prop := p.s < 2 ^ 64 ∧ p.e < 2 ^ 64 ∧ p.tot.length ≤ 9223372036854775807 ∧ p.ps.length ≤ 9223372036854775807 ∧ ∀ x ∈ p.ps, x.l < 2 ^ 64 ∧ x.c.length ≤ 9223372036854775807

structure PerQ where
  i : Nat
  e : Nat
  a : List Coin

section
variable {P : Program} {z : Zone} {N : Nat} {σ : St} {ρ : Nat → AV}
end

end Go.Vm

/-
  Arguments: numbers, lists of coins, plans.
-/
namespace Go.Vm
set_option linter.unnecessarySimpa false
set_option linter.unusedVariables false
open Go

theorem leavesF_mono {go go' : TypeId → Option (List TypeId)} (h : ∀ t l, go t = some l → go' t = some l) : ∀ (fs : List Field) (acc ls : List TypeId), leavesF go fs acc = some ls → leavesF go' fs acc = some ls
  | [], acc, ls, e => e
  | f :: fs, acc, ls, e => by
    simp only [leavesF] at e ⊢
    split at e
    · rename_i hf
      rw [if_pos hf]
      cases hg : go f.type with
      | none => rw [hg] at e; cases e
      | some l =>
        rw [hg] at e
        rw [h _ _ hg]
        exact leavesF_mono h fs _ ls e
    · cases e

theorem leaves_succ {P : Program} : ∀ (n : Nat) (t : TypeId) (l : List TypeId), leaves P n t = some l → leaves P (n + 1) t = some l
  | 0, t, l, h => by simp [leaves] at h
  | n + 1, t, l, h => by
    have ih := leaves_succ (P := P) n
    rw [leaves] at h ⊢
    split at h
    · exact h
    · exact h
    · exact h
    · rename_i e hu
      cases hg : leaves P n e with
      | none => rw [hg] at h; cases h
      | some l' => rw [hg] at h; simp only [ih _ _ hg]; exact h
    · rename_i fs hu
      cases hg : leavesF (leaves P n) fs.toList [] with
      | none => rw [hg] at h; cases h
      | some l' => rw [hg] at h; simp only [leavesF_mono ih _ _ _ hg]; exact h
    · rename_i k e hu
      cases hg : leaves P n e with
      | none => rw [hg] at h; cases h
      | some l' => rw [hg] at h; simp only [ih _ _ hg]; exact h
    · cases h

theorem leaves_add {P : Program} {n : Nat} {t : TypeId} {l : List TypeId} (h : leaves P n t = some l) : ∀ k, leaves P (n + k) t = some l
  | 0 => h
  | k + 1 => leaves_succ _ _ _ (leaves_add h k)
theorem leaves_one {P : Program} {n m : Nat} {t : TypeId} {l l' : List TypeId} (h : leaves P n t = some l) (h' : leaves P m t = some l') : l = l' := by
  have h1 := leaves_add h m
  have h2 := leaves_add h' n
  rw [Nat.add_comm] at h2
  rw [h1] at h2
  exact Option.some.inj h2

theorem u64_of' {P : Program} {u : TypeId} {a : AV} (hu : P.underlying u = some (.int .u64)) (w : WC P u a) : ∃ n : Nat, n < 2 ^ 64 ∧ a = .v (.int .u64 n) := by
  cases w with
  | bool h => rw [hu] at h; cases h
  | string h _ => rw [hu] at h; cases h
  | slice h _ _ _ _ => rw [hu] at h; cases h
  | int h hw =>
    rename_i k n
    rw [hu] at h
    cases h
    have m1 : IntKind.u64.min = 0 := rfl
    have m2 : IntKind.u64.max = 18446744073709551615 := rfl
    simp [Lit.wf, m1, m2] at hw
    exact ⟨n.toNat, by omega, by congr 2; omega⟩
theorem u8_of {P : Program} {u : TypeId} {a : AV} (hu : P.underlying u = some (.int .u8)) (w : WC P u a) : ∃ b : UInt8, a = .v (.int .u8 b.toNat) := by
  cases w with
  | bool h => rw [hu] at h; cases h
  | string h _ => rw [hu] at h; cases h
  | slice h _ _ _ _ => rw [hu] at h; cases h
  | int h hw =>
    rename_i k n
    rw [hu] at h
    cases h
    have m1 : IntKind.u8.min = 0 := rfl
    have m2 : IntKind.u8.max = 255 := rfl
    simp [Lit.wf, m1, m2] at hw
    refine ⟨UInt8.ofNat n.toNat, ?_⟩
    have e : (UInt8.ofNat n.toNat).toNat = n.toNat := toNat_u8 (by omega)
    rw [e]
    congr 2; omega

theorem groups {P : Program} {α : Type} {f : α → List AV} {ls : List TypeId} (hl : 0 < ls.length) (hf : ∀ a, (f a).length = ls.length)
    (one : ∀ cs : List AV, cs.length = ls.length → (∀ (j : Nat) a u, cs[j]? = some a → ls[j]? = some u → WC P u a) → ∃ x, cs = f x) :
    ∀ (n : Nat) (cs : List AV), cs.length = n * ls.length → (∀ (j : Nat) a u, cs[j]? = some a → ls[j % ls.length]? = some u → WC P u a) → ∃ l : List α, l.length = n ∧ cs = l.flatMap f
  | 0, cs, h, _ => ⟨[], rfl, by simpa using h⟩
  | n + 1, cs, h, hc => by
    have hle : ls.length ≤ cs.length := by rw [h, Nat.add_mul]; omega
    obtain ⟨x, hx⟩ := one (cs.take ls.length) (by simp; omega) (fun j a u ha hu => by
      have hj : j < ls.length := (List.getElem?_eq_some_iff.1 hu).1
      rw [List.getElem?_take, if_pos hj] at ha
      exact hc j a u ha (by rw [Nat.mod_eq_of_lt hj]; exact hu))
    obtain ⟨l, hln, hl2⟩ := groups hl hf one n (cs.drop ls.length) (by rw [List.length_drop, h, Nat.add_mul]; omega) (fun j a u ha hu => by
      rw [List.getElem?_drop] at ha
      exact hc (ls.length + j) a u ha (by rw [Nat.add_mod_left]; exact hu))
    exact ⟨x :: l, by simp [hln], by rw [List.flatMap_cons, ← hx, ← hl2, List.take_append_drop]⟩

theorem wc_len {P : Program} {t : TypeId} {sz n : Nat} {cs : List AV} {tl : Tail} (w : WC P t (.sl sz cs n tl)) : n ≤ 9223372036854775807 := by
  generalize hx : AV.sl sz cs n tl = x at w
  cases w with
  | bool h => cases hx
  | string h _ => cases hx
  | int h _ => cases hx
  | slice h hls hl hn hc => cases hx; exact hn

end Go.Vm

/-
  Arguments: deeds.
-/
namespace Go.Proofs.Ytlkajgjaidedkaa
set_option linter.unnecessarySimpa false
set_option maxRecDepth 100000
open Go Go.Vm
set_option linter.unusedVariables false

theorem bytes_cells2 {P : Program} {u : TypeId} (hu : P.underlying u = some (.int .u8)) : ∀ cs : List AV, (∀ a, a ∈ cs → WC P u a) → ∃ p : List UInt8, cs = bytesA p
  | [], _ => ⟨[], rfl⟩
  | a :: cs, hh => by
    obtain ⟨p, hp⟩ := bytes_cells2 hu cs (fun b hb => hh b (by simp [hb]))
    obtain ⟨b, hb⟩ := u8_of hu (hh a (by simp))
    exact ⟨b :: p, by rw [hp, hb]; rfl⟩
theorem bytes_of {P : Program} {t e : TypeId} {k : Nat} {a : AV} (ht : P.underlying t = some (.slice e)) (hle : leaves P k e = some [e]) (he : P.underlying e = some (.int .u8)) (w : WC P t a) : ∃ p : List UInt8, a = byC p ∧ p.length ≤ 9223372036854775807 := by
  have w0 := w
  cases w with
  | bool h => rw [ht] at h; cases h
  | string h _ => rw [ht] at h; cases h
  | int h _ => rw [ht] at h; cases h
  | slice h hls hl hn hc =>
    rw [ht] at h
    cases h
    rename_i fuel ls cs n
    obtain rfl := leaves_one hle hls
    obtain ⟨p, rfl⟩ := bytes_cells2 he cs (fun a ha => by
      obtain ⟨j, hj⟩ := List.mem_iff_getElem?.1 ha
      exact hc j a e hj (by simp [Nat.mod_one]))
    have : n = p.length := by simpa using hl.symm
    subst this
    exact ⟨p, rfl, wc_len w0⟩
end Go.Proofs.Ytlkajgjaidedkaa

/-
  The law LineOrders; arguments: deeds of lines.
-/
namespace Go.Proofs.Ytlkajgjaidedkaa
set_option linter.unnecessarySimpa false
set_option maxRecDepth 100000
open Go Go.Vm
set_option linter.unusedSimpArgs false
set_option linter.unusedVariables false
attribute [local simp] evalL wantedA isCall opA evalA evalAll evalsA evalOpt ofValue ofCell plain binA_eql_pn binA_neq_pn binA_gtr binA_lss binA_geq binA_leq binA_add binA_sub binA_eql binA_neq binA_orI binA_shl binA_shr binA_mul binA_quo binA_rem binA_agg_eql binA_agg_neq convA_int unA_not fieldAddrA loadA partA pickA_true pickA_false pickA_bb lenA builtinA storeA splice AV.cells AV.isCell sliceA boundA intA callOf indexAddrA newObjA buildA fillA zeroA ofCells buildSliceA indexA fieldA set_appN get_appN take_appN List.getElem?_cons_zero List.getElem?_cons_succ get_sa0 get_sa1 get_sa2 get_sa3 set_sa0 set_sa1 set_sa2 set_sa3 sliceRowA binA_eqn binA_neqn drop_mr

theorem als_of {P : Program} {t e u un tc ec : TypeId} {k k2 : Nat} {a : AV} (ht : P.underlying t = some (.slice e)) (hle : leaves P k e = some [u, u, un, un, tc]) (hu : P.underlying u = some (.int .u8)) (hun : P.underlying un = some (.int .u64))
    (htc : P.underlying tc = some (.slice ec)) (hlc : leaves P k2 ec = some [ec]) (hec : P.underlying ec = some (.int .u8)) (w : WC P t a) : ∃ L : List AL, a = .sl 5 (alsC L) L.length .shut ∧ L.length ≤ 9223372036854775807 ∧ ∀ x ∈ L, x.Ok := by
  cases w with
  | bool h => rw [ht] at h; cases h
  | string h _ => rw [ht] at h; cases h
  | int h _ => rw [ht] at h; cases h
  | slice h hls hl hn hc =>
    rw [ht] at h
    cases h
    rename_i fuel ls cs n
    obtain rfl := leaves_one hle hls
    obtain ⟨L, hL, rfl⟩ := groups (α := { x : AL // x.Ok }) (f := fun x => alC x.1) (ls := [u, u, un, un, tc]) (by simp) (fun _ => rfl) (fun cs h1 h2 => by
      obtain ⟨a0, a1, a2, a3, a4, rfl⟩ : ∃ a0 a1 a2 a3 a4, cs = [a0, a1, a2, a3, a4] := by
        match cs, h1 with
        | [a0, a1, a2, a3, a4], _ => exact ⟨a0, a1, a2, a3, a4, rfl⟩
      obtain ⟨m, e0⟩ := u8_of hu (h2 0 a0 u rfl rfl)
      obtain ⟨m1, e1⟩ := u8_of hu (h2 1 a1 u rfl rfl)
      obtain ⟨d, hd, e2⟩ := u64_of' hun (h2 2 a2 un rfl rfl)
      obtain ⟨no, hno, e3⟩ := u64_of' hun (h2 3 a3 un rfl rfl)
      obtain ⟨p, e4, hp⟩ := bytes_of htc hlc hec (h2 4 a4 tc rfl rfl)
      exact ⟨⟨⟨m, m1, d, no, p⟩, hd, hno, hp⟩, by rw [e0, e1, e2, e3, e4]; rfl⟩) n cs hl hc
    refine ⟨L.map Subtype.val, ?_, by rw [List.length_map, hL]; exact hn, fun x hx => ?_⟩
    · rw [List.length_map, hL]
      show AV.sl 5 _ n .shut = _
      congr 1
      induction L with
      | nil => rfl
      | cons y L ih => simp [alsC, List.flatMap_cons]
    · obtain ⟨y, _, rfl⟩ := List.mem_map.1 hx
      exact y.2
theorem als_arg {n : Nat} {P : Program} {t e u un tc ec : TypeId} {k k2 : Nat} {H : Type} {enc : TypeId × Value → H} {W : World} {spare : Nat → Bool} {ad : Option Addr} {m c : Nat} {d : DataW H} {ps : List MemPlace} (hl : leaves P n t = some [t]) (ht : P.underlying t = some (.slice e)) (hle : leaves P k e = some [u, u, un, un, tc]) (hu : P.underlying u = some (.int .u8)) (hun : P.underlying un = some (.int .u64))
    (htc : P.underlying tc = some (.slice ec)) (hlc : leaves P k2 ec = some [ec]) (hec : P.underlying ec = some (.int .u8))
    (h : DataW.Trod enc P W 0 spare true t (.slice ad m c) d ps) : ∃ L : List AL, L.length ≤ 9223372036854775807 ∧ (∀ x ∈ L, x.Ok) ∧ AVR (atFirst W) W (.slice ad m c) (.sl 5 (alsC L) L.length .shut) := by
  obtain ⟨l, h1, h2, h3, h4⟩ := open_arg hl h
  have hc : Value.cells (.slice ad m c) = #[.slice ad m c] := rfl
  obtain ⟨a, rfl⟩ : ∃ a, l = [a] := by
    match l, h1 with
    | [a], _ => exact ⟨a, rfl⟩
  obtain ⟨L, rfl, e1, e2⟩ := als_of ht hle hu hun htc hlc hec (h4 0 a t rfl rfl)
  exact ⟨L, e1, e2, h3 0 _ _ (by rw [hc]; rfl) rfl⟩

structure Rl where
  I : List It
  c : Nat
  q : Nat
  g : Nat
def rlC (r : Rl) : List AV := [.row r.q r.g 0 3 r.I.length, .v (.int .u64 r.c)]
def mC (l : List Rl) : List AV := l.flatMap rlC
theorem mC_len (l : List Rl) : (mC l).length = l.length * 2 := by
  induction l with
  | nil => rfl
  | cons p l ih => simp only [mC, List.flatMap_cons, List.length_append, rlC, List.length_cons, List.length_nil] at ih ⊢; omega
theorem mC_at : ∀ {l : List Rl} {k : Nat} (h : k < l.length), ∃ R, (mC l).drop (k * 2) = rlC l[k] ++ R
  | p :: l, 0, h => ⟨mC l, rfl⟩
  | p :: l, k + 1, h => by
    obtain ⟨R, hR⟩ := mC_at (l := l) (k := k) (by simpa using h)
    refine ⟨R, ?_⟩
    rw [show (k + 1) * 2 = 2 + k * 2 by omega]
    show List.drop (2 + k * 2) (rlC p ++ mC l) = _
    rw [← List.drop_drop]
    exact hR
theorem mC_set0 : ∀ {l : List Rl} {k : Nat} (h : k < l.length) (I : List It) (q g : Nat), (mC l).set (k * 2) (.row q g 0 3 I.length) = mC (l.set k ⟨I, l[k].c, q, g⟩)
  | p :: l, 0, h, I, q, g => rfl
  | p :: l, k + 1, h, I, q, g => by
    have ih := mC_set0 (l := l) (k := k) (by simpa using h) I q g
    rw [show (k + 1) * 2 = k * 2 + 2 by omega]
    show (rlC p ++ mC l).set (k * 2 + 2) _ = rlC p ++ mC (l.set k _)
    simp only [List.getElem_cons_succ]
    rw [← ih]; rfl
theorem mC_set1 : ∀ {l : List Rl} {k : Nat} (h : k < l.length) (c : Nat), (mC l).set (k * 2 + 1) (.v (.int .u64 c)) = mC (l.set k ⟨l[k].I, c, l[k].q, l[k].g⟩)
  | p :: l, 0, h, c => rfl
  | p :: l, k + 1, h, c => by
    have ih := mC_set1 (l := l) (k := k) (by simpa using h) c
    rw [show (k + 1) * 2 + 1 = (k * 2 + 1) + 2 by omega]
    show (rlC p ++ mC l).set (k * 2 + 1 + 2) _ = rlC p ++ mC (l.set k _)
    simp only [List.getElem_cons_succ]
    rw [← ih]; rfl

structure HasM (σ : St) (m : Nat) (Ms : List Rl) : Prop where
  o : σ.objs[m]? = some (mC Ms)
  r : ∀ (k : Nat) (h : k < Ms.length), σ.rows[Ms[k].q]? = some ⟨Ms[k].g, itsC Ms[k].I, none⟩

def FindS (I : List It) (d no : Nat) (r : Int) : Prop := (∃ i, ∃ h : i < I.length, r = (i : Int) ∧ I[i].d = d ∧ I[i].n = no) ∨ (r = -1 ∧ ∀ x ∈ I, ¬ (x.d = d ∧ x.n = no))

set_option maxHeartbeats 1600000 in
attribute [local simp] undefA List.getElem?_cons_zero List.getElem?_cons_succ in
theorem find13_ok {σ : St} {m k d no : Nat} {Ms : List Rl} (h : HasM σ m Ms) (hk : k < Ms.length) (hI : Ms[k].I.length ≤ 1000000) :
    CallsA Try.prog 115 [.ptr m (k * 2), .v (.int .u64 d), .v (.int .u64 no)] σ (fun av σ' => ∃ r, FindS Ms[k].I d no r ∧ av = .v (.int .i64 r) ∧ σ = σ') := by
  have hm := h.o
  have hr := h.r k hk
  have hml := mC_len Ms
  obtain ⟨R, hR⟩ := mC_at hk
  have b0 : k * 2 < Ms.length * 2 := by omega
  have b1 : k * 2 + 1 < Ms.length * 2 := by omega
  have b2 : k * 2 + 2 ≤ Ms.length * 2 := by omega
  obtain ⟨⟨I, c, q, g⟩, hX⟩ : ∃ X, Ms[k] = X := ⟨_, rfl⟩
  simp only [hX] at hr hI ⊢
  have e0 := get_drop (l := mC Ms) (i := k * 2) (j := 0) (x := .row q g 0 3 I.length) (by rw [hR, hX]; rfl)
  simp only [Nat.add_zero] at e0
  have hic := itsC_len I
  have F := And.intro hm (And.intro hml (And.intro b0 (And.intro b1 (And.intro b2 (And.intro e0 (And.intro hr (And.intro hic (True.intro))))))))
  refine callsA_body Try.func115 rfl rfl rfl ?_; refine sr fun _ hJ2 => ?_; refine hJ2 _ _ ?_; refine sq fun K3 hK3 => ?_; refine sr fun _ hJ5 => ?_; refine hJ5 _ _ ?_; refine run_block_k ?_; refine run_loopF (X := Nat) [0, 1, 2] (fun i ρ σ1 => (i ≤ I.length) ∧ (∀ x ∈ I.take i, ¬ (x.d = d ∧ x.n = no)) ∧ (ρ 7 = .v (.int .i64 i)) ∧ (σ1 = σ)) (fun i => I.length - i) (0) ?st1 ?rd1
  case st1 =>
   refine ⟨lp, ?_, lp, lp⟩
   · intro x hx
     simp at hx
  case rd1 =>
   rintro i ρ1 σ1 hF1 ⟨h1, h2, h5, hσ⟩; obtain rfl := hσ.symm
   have f1 := keepL hF1
   (try simp [KeepL, F] at f1); replace F := aF h5 F; (try replace F := aF f1 F); refine sq fun K6 hK6 => ?_; refine sr fun _ hJ8 => ?_; refine hJ8 _ _ ?_; refine cs (fun c14 => ?_) (fun c14 => ?_)
   · (try exact nope c14); all_goals have c14p := c14; try simp [F] at c14p
     all_goals
      replace F := aF c14 F; try replace F := aF c14p F
      have hlt : i < I.length := by have h := c14; simp at h; omega
      obtain ⟨R1, hR1⟩ := itsC_at (l := I) (i := i) hlt
      obtain ⟨x, hx⟩ : ∃ x, x = I[i] := ⟨_, rfl⟩
      rw [← hx] at hR1
      have f0 := get_drop (l := itsC I) (i := i * 3) (j := 0) (x := .v (.int .u64 (x.d : Nat))) (by rw [hR1]; rfl)
      have f1 := get_drop (l := itsC I) (i := i * 3) (j := 1) (x := .v (.int .u64 (x.n : Nat))) (by rw [hR1]; rfl)
      simp only [Nat.add_zero] at f0
      have d0 : i * 3 < I.length * 3 := by omega
      have d1 : i * 3 + 1 < I.length * 3 := by omega
      have d3 : i * 3 + 3 ≤ I.length * 3 := by omega
      have hi1 : i + 1 ≤ I.length := hlt
      have hta : I.take (i + 1) = I.take i ++ [x] := by rw [hx]; exact (List.take_append_getElem hlt).symm
      replace F := aF hlt (And.intro f0 (And.intro f1 (And.intro d0 (And.intro d1 (And.intro d3 (And.intro hi1 F)))))); refine run_skip ?_; refine hK6 _ _ ?_; refine sq fun K9 hK9 => ?_; refine run_block_k ?_; refine sr fun _ hJ11 => ?_; refine gs 27 (fun g4_10 => ?_) (fun g4_10 => ?_)
      · (try exact nope g4_10); all_goals have g4_10p := g4_10; try simp [F] at g4_10p
        all_goals
         replace F := aF g4_10 F; (try replace F := aF g4_10p F); (iterate 10 refine go2 (k := ?_)); refine hJ11 _ _ ?_; refine cs (fun c38 => ?_) (fun c38 => ?_)
         · (try exact nope c38); all_goals have c38p := c38; try simp [F] at c38p
           all_goals
            replace F := aF c38 F; (try replace F := aF c38p F); refine sr fun _ hJ13 => ?_; refine hJ13 _ _ ?_; refine ra ?_; exact ⟨i, .inl ⟨i, hlt, rfl, by rw [← hx]; simp at *; omega, by rw [← hx]; simp at *; omega⟩, by simp [F], rfl⟩
         (try exact nope c38); all_goals have c38p := c38; try simp [F] at c38p
         all_goals
          replace F := aF c38 F; (try replace F := aF c38p F); refine run_skip ?_; refine hK9 _ _ ?_; refine rg' (h := fun J14 hJ14 => ?_); refine hJ14 _ _ ?_; refine ⟨(i + 1), ⟨kp, lp, ?_, lp, lp⟩, lp⟩
          · rw [hta]
            intro y hy
            rcases List.mem_append.1 hy with h | h
            · exact h2 y h
            · simp at h; rw [h]; simp at *; omega
      (try exact nope g4_10); all_goals have g4_10p := g4_10; try simp [F] at g4_10p
      all_goals
       replace F := aF g4_10 F; (try replace F := aF g4_10p F); (iterate 10 refine no2 (k := ?_)); refine hJ11 _ _ ?_; refine cf ?_; refine run_skip ?_; refine hK9 _ _ ?_; refine rg' (h := fun J15 hJ15 => ?_); refine hJ15 _ _ ?_; refine ⟨(i + 1), ⟨kp, lp, ?_, lp, lp⟩, lp⟩
       · rw [hta]
         intro y hy
         rcases List.mem_append.1 hy with h | h
         · exact h2 y h
         · simp at h; rw [h]; simp at *; omega
   (try exact nope c14); all_goals have c14p := c14; try simp [F] at c14p
   all_goals
    replace F := aF c14 F; try replace F := aF c14p F
    have hte : I.take i = I := List.take_of_length_le (by have h := c14; simp at h; omega)
    refine run_exit ?_; refine hK3 _ _ ?_; refine sr fun _ hJ17 => ?_; refine hJ17 _ _ ?_; refine ra ?_; exact ⟨-1, .inr ⟨rfl, by rw [hte] at h2; exact h2⟩, by simp [F], rfl⟩

theorem itsC_set : ∀ {I : List It} {i : Nat} (h : i < I.length) (p : List UInt8), (itsC I).set (i * 3 + 2) (byC p) = itsC (I.set i ⟨I[i].d, I[i].n, p⟩)
  | x :: I, 0, h, p => rfl
  | x :: I, i + 1, h, p => by
    have ih := itsC_set (I := I) (i := i) (by simpa using h) p
    rw [show (i + 1) * 3 + 2 = (i * 3 + 2) + 3 by omega]
    show (itC x ++ itsC I).set (i * 3 + 2 + 3) _ = itC x ++ itsC (I.set i _)
    simp only [List.getElem_cons_succ]
    rw [← ih]; rfl

def dueL (I : List It) (now : Nat) : Nat := (I.filter fun x => decide (x.d ≤ now)).length
set_option maxHeartbeats 1600000 in
attribute [local simp] undefA List.getElem?_cons_zero List.getElem?_cons_succ in
theorem ripe13_ok {σ : St} {m k now : Nat} {Ms : List Rl} (h : HasM σ m Ms) (hk : k < Ms.length) (hI : Ms[k].I.length ≤ 1000000) :
    CallsA Try.prog 52 [.ptr m (k * 2), .v (.int .u64 now)] σ (fun av σ' => av = .v (.int .i64 (dueL Ms[k].I now : Nat)) ∧ σ = σ') := by
  have hm := h.o
  have hr := h.r k hk
  have hml := mC_len Ms
  obtain ⟨R, hR⟩ := mC_at hk
  have b0 : k * 2 < Ms.length * 2 := by omega
  have b1 : k * 2 + 1 < Ms.length * 2 := by omega
  have b2 : k * 2 + 2 ≤ Ms.length * 2 := by omega
  obtain ⟨⟨I, c, q, g⟩, hX⟩ : ∃ X, Ms[k] = X := ⟨_, rfl⟩
  simp only [hX] at hr hI ⊢
  have e0 := get_drop (l := mC Ms) (i := k * 2) (j := 0) (x := .row q g 0 3 I.length) (by rw [hR, hX]; rfl)
  simp only [Nat.add_zero] at e0
  have hic := itsC_len I
  have F := And.intro hm (And.intro hml (And.intro b0 (And.intro b1 (And.intro b2 (And.intro e0 (And.intro hr (And.intro hic (True.intro))))))))
  refine callsA_body Try.func52 rfl rfl rfl ?_; refine sr fun _ hJ2 => ?_; refine hJ2 _ _ ?_; refine sr fun _ hJ4 => ?_; refine hJ4 _ _ ?_; refine sq fun K5 hK5 => ?_; refine sr fun _ hJ7 => ?_; refine hJ7 _ _ ?_; refine run_block_k ?_; refine run_loopF (X := Nat) [0, 1, 4] (fun i ρ σ1 => (i ≤ I.length) ∧ (dueL (I.take i) now ≤ i) ∧ (ρ 6 = .v (.int .i64 i)) ∧ (ρ 5 = .v (.int .i64 (dueL (I.take i) now : Nat))) ∧ (σ1 = σ)) (fun i => I.length - i) (0) ?st1 ?rd1
  case st1 =>
   refine ⟨lp, ?_, lp, lp, lp⟩
   · simp [dueL]
  case rd1 =>
   rintro i ρ1 σ1 hF1 ⟨h1, h2, h5, h6, hσ⟩; obtain rfl := hσ.symm
   have f1 := keepL hF1
   (try simp [KeepL, F] at f1); replace F := aF h5 F; replace F := aF h6 F; (try replace F := aF f1 F); refine sq fun K8 hK8 => ?_; refine sr fun _ hJ10 => ?_; refine hJ10 _ _ ?_; refine cs (fun c13 => ?_) (fun c13 => ?_)
   · (try exact nope c13); all_goals have c13p := c13; try simp [F] at c13p
     all_goals
      replace F := aF c13 F; try replace F := aF c13p F
      have hlt : i < I.length := by have h := c13; simp at h; omega
      obtain ⟨R1, hR1⟩ := itsC_at (l := I) (i := i) hlt
      obtain ⟨x, hx⟩ : ∃ x, x = I[i] := ⟨_, rfl⟩
      rw [← hx] at hR1
      have f0 := get_drop (l := itsC I) (i := i * 3) (j := 0) (x := .v (.int .u64 (x.d : Nat))) (by rw [hR1]; rfl)
      simp only [Nat.add_zero] at f0
      have d0 : i * 3 < I.length * 3 := by omega
      have d3 : i * 3 + 3 ≤ I.length * 3 := by omega
      have hi1 : i + 1 ≤ I.length := hlt
      have hta : I.take (i + 1) = I.take i ++ [x] := by rw [hx]; exact (List.take_append_getElem hlt).symm
      have hdu : dueL (I.take (i + 1)) now = dueL (I.take i) now + (if x.d ≤ now then 1 else 0) := by rw [hta]; simp only [dueL, List.filter_append, List.length_append, List.filter_cons, List.filter_nil]; split <;> simp_all
      obtain ⟨D, hD⟩ : ∃ D, D = dueL (I.take i) now := ⟨_, rfl⟩
      rw [← hD] at hdu h2 h6
      replace F := aF hlt (And.intro f0 (And.intro d0 (And.intro d3 (And.intro hi1 (And.intro h6 F))))); refine run_skip ?_; refine hK8 _ _ ?_; refine sq fun K11 hK11 => ?_; refine run_block_k ?_; refine sr fun _ hJ13 => ?_; refine hJ13 _ _ ?_; refine cs (fun c25 => ?_) (fun c25 => ?_)
      · (try exact nope c25); all_goals have c25p := c25; try simp [F] at c25p
        all_goals
         replace F := aF c25 F; try replace F := aF c25p F
         have hle : x.d ≤ now := by have h := c25; simp at h; omega
         rw [if_pos hle] at hdu
         replace F := aF hdu F; refine rg' (h := fun J14 hJ14 => ?_); refine hJ14 _ _ ?_; refine hK11 _ _ ?_; refine rg' (h := fun J15 hJ15 => ?_); refine hJ15 _ _ ?_; refine ⟨(i + 1), ⟨kp, lp, ?_, lp, lp, lp⟩, lp⟩
         · rw [hdu]
           omega
      (try exact nope c25); all_goals have c25p := c25; try simp [F] at c25p
      all_goals
       replace F := aF c25 F; try replace F := aF c25p F
       have hle : ¬ x.d ≤ now := by have h := c25; simp at h; omega
       rw [if_neg hle] at hdu
       replace F := aF hdu F; refine run_skip ?_; refine hK11 _ _ ?_; refine rg' (h := fun J16 hJ16 => ?_); refine hJ16 _ _ ?_; refine ⟨(i + 1), ⟨kp, lp, ?_, lp, lp, lp⟩, lp⟩
       · rw [hdu]
         omega
   (try exact nope c13); all_goals have c13p := c13; try simp [F] at c13p
   all_goals
    replace F := aF c13 F; try replace F := aF c13p F
    have hte : I.take i = I := List.take_of_length_le (by have h := c13; simp at h; omega)
    rw [hte] at h6
    replace F := aF h6 F; refine run_exit ?_; refine hK5 _ _ ?_; refine sr fun _ hJ18 => ?_; refine hJ18 _ _ ?_; refine ra ?_; exact rt

set_option maxHeartbeats 1600000 in
attribute [local simp] undefA List.getElem?_cons_zero List.getElem?_cons_succ in
theorem set13_ok {σ : St} {m k d no : Nat} {p : List UInt8} {Ms : List Rl} (h : HasM σ m Ms) (hk : k < Ms.length) (hI : Ms[k].I.length ≤ 1000000) :
    CallsA Try.prog 90 [.ptr m (k * 2), .v (.int .u64 d), .v (.int .u64 no), .sl 1 (bytesA p) p.length .shut] σ (fun av σ' => ((∀ x ∈ Ms[k].I, ¬ (x.d = d ∧ x.n = no)) ∧ av = .v (.bool false) ∧ σ = σ') ∨ (∃ i, ∃ hi : i < Ms[k].I.length, (Ms[k].I[i].d = d ∧ Ms[k].I[i].n = no) ∧ av = .v (.bool true) ∧ σ' = { σ with rows := σ.rows.set Ms[k].q ⟨Ms[k].g, itsC (Ms[k].I.set i ⟨d, no, p⟩), none⟩ })) := by
  have hfi := find13_ok (d := d) (no := no) h hk hI
  have hm := h.o
  have hr := h.r k hk
  have hml := mC_len Ms
  obtain ⟨R, hR⟩ := mC_at hk
  have b0 : k * 2 < Ms.length * 2 := by omega
  have b1 : k * 2 + 1 < Ms.length * 2 := by omega
  have b2 : k * 2 + 2 ≤ Ms.length * 2 := by omega
  obtain ⟨⟨I, c, q, g⟩, hX⟩ : ∃ X, Ms[k] = X := ⟨_, rfl⟩
  simp only [hX] at hr hI hfi ⊢
  have e0 := get_drop (l := mC Ms) (i := k * 2) (j := 0) (x := .row q g 0 3 I.length) (by rw [hR, hX]; rfl)
  simp only [Nat.add_zero] at e0
  have hic := itsC_len I
  have F := And.intro hm (And.intro hml (And.intro b0 (And.intro b1 (And.intro b2 (And.intro e0 (And.intro hr (And.intro hic (True.intro))))))))
  refine callsA_body Try.func90 rfl rfl rfl ?_; refine sr fun _ hJ2 => ?_; refine hJ2 _ _ ?_; refine sr fun _ hJ4 => ?_; refine ca (c := hfi) (k := ?_); rintro _ _ ⟨r, hfs, rfl, rfl⟩; (repeat (first | simp [F] | simp (disch := omega) only [wC, if_pos, if_neg])); refine hJ4 _ _ ?_; refine sq fun K5 hK5 => ?_; refine sr fun _ hJ7 => ?_; refine hJ7 _ _ ?_; refine cs (fun c15 => ?_) (fun c15 => ?_)
  · (try exact nope c15); all_goals have c15p := c15; try simp [F] at c15p
    all_goals
     replace F := aF c15 F; try replace F := aF c15p F
     have hno : ∀ x ∈ I, ¬ (x.d = d ∧ x.n = no) := by rcases hfs with ⟨i, hi, e, _⟩ | ⟨_, e⟩ <;> first | exact e | (have h := c15; simp at h; omega)
     refine sr fun _ hJ9 => ?_; refine hJ9 _ _ ?_; refine ra ?_; exact .inl ⟨hno, by simp [F], rfl⟩
  (try exact nope c15); all_goals have c15p := c15; try simp [F] at c15p
  all_goals
   replace F := aF c15 F; try replace F := aF c15p F
   obtain ⟨i, hi, rfl, hdn⟩ : ∃ i, ∃ h : i < I.length, r = (i : Int) ∧ I[i].d = d ∧ I[i].n = no := by rcases hfs with e | ⟨e, _⟩ <;> first | exact e | (have h := c15; simp at h; omega)
   have hst := itsC_set hi p
   rw [hdn.1, hdn.2] at hst
   rw [List.set_eq_take_append_cons_drop, if_pos (by rw [hic]; omega)] at hst
   simp only [byC] at hst
   have d2 : i * 3 + 2 < I.length * 3 := by omega
   have d3 : i * 3 + 3 ≤ I.length * 3 := by omega
   replace F := aF hi (And.intro hst (And.intro d2 (And.intro d3 F))); refine run_skip ?_; refine hK5 _ _ ?_; refine sr fun _ hJ11 => ?_; refine hJ11 _ _ ?_; refine sr fun _ hJ13 => ?_; refine hJ13 _ _ ?_; refine ra ?_; exact .inr ⟨i, hi, hdn, by simp [F], by simp [F]⟩
def insD : List It → Nat → Nat → List UInt8 → List It
  | [], d, n, p => [⟨d, n, p⟩]
  | x :: l, d, n, p => if d < x.d then ⟨d, n, p⟩ :: x :: l else x :: insD l d n p
theorem insD_split {d n : Nat} {p : List UInt8} : ∀ {I : List It} {i : Nat} (h : i < I.length), (∀ x ∈ I.take i, x.d ≤ d) → d < I[i].d → insD I d n p = I.take i ++ ⟨d, n, p⟩ :: I.drop i
  | x :: I, 0, h, _, h2 => by rw [insD, if_pos (by simpa using h2)]; rfl
  | x :: I, i + 1, h, h1, h2 => by
    have hx := h1 x (by simp)
    rw [insD, if_neg (by omega), insD_split (I := I) (i := i) (by simpa using h) (fun y hy => h1 y (by simp [hy])) (by simpa using h2)]
    rfl
theorem insD_end {d n : Nat} {p : List UInt8} : ∀ {I : List It}, (∀ x ∈ I, x.d ≤ d) → insD I d n p = I ++ [⟨d, n, p⟩]
  | [], _ => rfl
  | x :: I, h => by
    have hx := h x (by simp)
    rw [insD, if_neg (by omega), insD_end (fun y hy => h y (by simp [hy]))]; rfl

theorem roomL {n i : Nat} (h1 : n ≤ i + 1) (h2 : i ≤ 1000000) : (n + 1) * 40 ≤ 140737488355328 ∧ n + 1 ≤ 9223372036854775807 ∧ (n + 1 + 1) * 40 ≤ 140737488355328 ∧ n + 1 + 1 ≤ 9223372036854775807 := by omega

structure ES where
  i : Nat
  O : List It
  b : Bool
  g : Nat

attribute [local simp] appendA rowAppA readA roomA maxLen zeroCell Value.oneCell' Value.cells in
set_option maxHeartbeats 1600000 in
attribute [local simp] undefA List.getElem?_cons_zero List.getElem?_cons_succ in
theorem add13_ok {σ : St} {m k d : Nat} {p : List UInt8} {Ms : List Rl} (h : HasM σ m Ms) (hk : k < Ms.length) (hI : Ms[k].I.length ≤ 1000000) (hc : Ms[k].c + 1 < 2 ^ 64) :
    CallsA Try.prog 89 [.ptr m (k * 2), .v (.int .u64 d), .sl 1 (bytesA p) p.length .shut] σ (fun av σ' => ∃ g, av = .v (.int .u64 (Ms[k].c + 1 : Nat)) ∧ σ' = { σ with objs := σ.objs.set m (mC (Ms.set k ⟨insD Ms[k].I d (Ms[k].c + 1) p, Ms[k].c + 1, σ.rows.length, g⟩)), rows := σ.rows ++ [⟨g, itsC (insD Ms[k].I d (Ms[k].c + 1) p), none⟩] }) := by
  have hm := h.o
  have hr := h.r k hk
  have hml := mC_len Ms
  obtain ⟨R, hR⟩ := mC_at hk
  have b0 : k * 2 < Ms.length * 2 := by omega
  have b1 : k * 2 + 1 < Ms.length * 2 := by omega
  have b2 : k * 2 + 2 ≤ Ms.length * 2 := by omega
  obtain ⟨N, hN⟩ : ∃ N, N = Ms[k].c + 1 := ⟨_, rfl⟩
  rw [← hN] at hc ⊢
  have s1 := mC_set1 hk N
  have s0 := fun I q g => mC_set0 (l := Ms.set k ⟨Ms[k].I, N, Ms[k].q, Ms[k].g⟩) (k := k) (by simpa using hk) I q g
  simp only [List.getElem_set_self, List.set_set] at s0
  obtain ⟨R2, hR2⟩ := mC_at (l := Ms.set k ⟨Ms[k].I, N, Ms[k].q, Ms[k].g⟩) (k := k) (by simpa using hk)
  simp only [List.getElem_set_self] at hR2
  obtain ⟨⟨I, c, q, g⟩, hX⟩ : ∃ X, Ms[k] = X := ⟨_, rfl⟩
  simp only [hX] at hr hI hN s1 s0 hR2 ⊢
  have e0 := get_drop (l := mC Ms) (i := k * 2) (j := 0) (x := .row q g 0 3 I.length) (by rw [hR, hX]; rfl)
  have e1 := get_drop (l := mC Ms) (i := k * 2) (j := 1) (x := .v (.int .u64 (c : Nat))) (by rw [hR, hX]; rfl)
  obtain ⟨M1, hM1⟩ : ∃ M1, M1 = mC (Ms.set k ⟨I, N, q, g⟩) := ⟨_, rfl⟩
  have hl1 : M1.length = Ms.length * 2 := by rw [hM1, mC_len, List.length_set]
  rw [← hM1] at s1 hR2
  simp only [← hM1] at s0
  have f0 := get_drop (l := M1) (i := k * 2) (j := 0) (x := .row q g 0 3 I.length) (by rw [hR2]; rfl)
  have f1 := get_drop (l := M1) (i := k * 2) (j := 1) (x := .v (.int .u64 (N : Nat))) (by rw [hR2]; rfl)
  simp only [Nat.add_zero] at e0 f0
  have hic := itsC_len I
  have hwc : IntKind.u64.wrap (((c : Nat) : Int) + 1) = ((N : Nat) : Int) := by rw [wrap_u64c (by omega)]; omega
  have hqr := lt_of_get hr
  have hrr : ∀ x, (σ.rows ++ [x])[q]? = some ⟨g, itsC I, none⟩ := fun x => by rw [List.getElem?_append_left hqr]; exact hr
  have hss : ∀ x, (σ.objs.set m x)[m]? = some x := fun x => set_self_of hm x
  obtain ⟨T, hT⟩ : ∃ T, T = insD I d (N) p := ⟨_, rfl⟩
  rw [← hT]
  rw [List.set_eq_take_append_cons_drop, if_pos (by rw [hml]; exact b1)] at s1
  have s0 : ∀ (I' : List It) (q g : Nat), M1.take (k * 2) ++ AV.row q g 0 3 I'.length :: M1.drop (k * 2 + 1) = mC (Ms.set k ⟨I', N, q, g⟩) := fun I' q g => by rw [← s0, List.set_eq_take_append_cons_drop, if_pos (by rw [hl1]; exact b0)]
  have hgN : ∀ (I' : List It) (q' g' : Nat), (mC (Ms.set k ⟨I', N, q', g'⟩))[k * 2 + 1]? = some (.v (.int .u64 (N : Nat))) := fun I' q' g' => by
    obtain ⟨R, hR⟩ := mC_at (l := Ms.set k ⟨I', N, q', g'⟩) (k := k) (by simpa using hk)
    rw [← List.getElem?_drop, hR, List.getElem_set_self]; rfl
  have F := And.intro hgN (And.intro hm (And.intro hml (And.intro b0 (And.intro b1 (And.intro b2 (And.intro e0 (And.intro e1 (And.intro hic (And.intro hwc (And.intro s1 (And.intro hss (And.intro hl1 (And.intro f0 (And.intro f1 (And.intro hrr (True.intro))))))))))))))))
  refine callsA_body Try.func89 rfl rfl rfl ?_; refine sr fun _ hJ2 => ?_; refine hJ2 _ _ ?_; refine sr fun _ hJ4 => ?_; refine hJ4 _ _ ?_; refine sr fun _ hJ6 => ?_; refine hJ6 _ _ ?_; refine sq fun K7 hK7 => ?_; refine run_nilrow 7 3 (k := ?_); refine rg' (h := fun J8 hJ8 => ?_); refine hJ8 _ _ ?_; refine hK7 _ _ ?_; refine sq fun K9 hK9 => ?_; refine sr fun _ hJ11 => ?_; refine hJ11 _ _ ?_; refine run_block_k ?_; refine run_loopF (X := ES) [0, 1, 2, 6] (fun x ρ σ1 => (x.i ≤ I.length) ∧ ((x.b = true → x.O ++ I.drop x.i = T) ∧ (x.b = false → x.O = I.take x.i ∧ ∀ y ∈ I.take x.i, y.d ≤ d)) ∧ (x.O.length ≤ x.i + 1) ∧ (ρ 7 = .row σ.rows.length x.g 0 3 x.O.length) ∧ (ρ 8 = .v (.bool x.b)) ∧ (ρ 9 = .v (.int .i64 x.i)) ∧ (σ1 = { σ with objs := σ.objs.set m M1, rows := σ.rows ++ [⟨x.g, itsC x.O, none⟩] })) (fun x => I.length - x.i) (⟨0, [], false, 0⟩) ?st1 ?rd1
  case st1 =>
   refine ⟨lp, ?_, lp, lp, lp, lp, lp⟩
   · exact ⟨fun e => by simp at e, fun _ => ⟨rfl, by simp⟩⟩
  case rd1 =>
   rintro x ρ1 σ1 hF1 ⟨h1, h2, h3, h4, h5, h6, hσ⟩; obtain rfl := hσ.symm
   have f1 := keepL hF1
   (try simp [KeepL, F] at f1); replace F := aF h4 F; replace F := aF h5 F; replace F := aF h6 F; (try replace F := aF f1 F); refine sq fun K12 hK12 => ?_; refine sr fun _ hJ14 => ?_; refine hJ14 _ _ ?_; refine cs (fun c23 => ?_) (fun c23 => ?_)
   · (try exact nope c23); all_goals have c23p := c23; try simp [F] at c23p
     all_goals
      replace F := aF c23 F; try replace F := aF c23p F
      have hlt : x.i < I.length := by have h := c23; simp at h; omega
      obtain ⟨R1, hR1⟩ := itsC_at (l := I) (i := x.i) hlt
      obtain ⟨y, hy⟩ : ∃ y, y = I[x.i] := ⟨_, rfl⟩
      rw [← hy] at hR1
      have g0 := get_drop (l := itsC I) (i := x.i * 3) (j := 0) (x := .v (.int .u64 (y.d : Nat))) (by rw [hR1]; rfl)
      simp only [Nat.add_zero] at g0
      have hR1' : List.take 3 (List.drop (x.i * 3) (itsC I)) = [.v (.int .u64 y.d), .v (.int .u64 y.n), .sl 1 (bytesA y.p) y.p.length .shut] := by rw [hR1]; rfl
      have d0 : x.i * 3 < I.length * 3 := by omega
      have d3 : x.i * 3 + 3 ≤ I.length * 3 := by omega
      have hi1 : x.i + 1 ≤ I.length := hlt
      have hta : I.take (x.i + 1) = I.take x.i ++ [y] := by rw [hy]; exact (List.take_append_getElem hlt).symm
      have hdr : I.drop x.i = y :: I.drop (x.i + 1) := by rw [hy]; exact List.drop_eq_getElem_cons hlt
      obtain ⟨O, hO⟩ : ∃ O, O = x.O := ⟨_, rfl⟩
      rw [← hO] at h2 h3 h4
      have hO2 := hO.symm
      have hoc := itsC_len O
      have hot : List.take (O.length * 3) (itsC O) = itsC O := List.take_of_length_le (Nat.le_of_eq hoc)
      obtain ⟨r1, r2, r3, r4⟩ := roomL h3 (Nat.le_trans h1 hI)
      have a1 : itsC O ++ [.v (.int .u64 y.d), .v (.int .u64 y.n), .sl 1 (bytesA y.p) y.p.length .shut] = itsC (O ++ [y]) := by rw [itsC_app]; simp [itsC, itC, byC]
      have a2 : itsC O ++ [.v (.int .u64 d), .v (.int .u64 N), .sl 1 (bytesA p) p.length .shut] = itsC (O ++ [⟨d, N, p⟩]) := by rw [itsC_app]; simp [itsC, itC, byC]
      have a3 : itsC (O ++ [⟨d, N, p⟩]) ++ [.v (.int .u64 y.d), .v (.int .u64 y.n), .sl 1 (bytesA y.p) y.p.length .shut] = itsC (O ++ [⟨d, N, p⟩] ++ [y]) := by rw [itsC_app (O ++ _)]; simp [itsC, itC, byC]
      have a4 : (itsC (O ++ [⟨d, N, p⟩])).length = (O.length + 1) * 3 := by rw [itsC_len]; simp
      have a5 : List.take ((O.length + 1) * 3) (itsC (O ++ [⟨d, N, p⟩])) = itsC (O ++ [⟨d, N, p⟩]) := List.take_of_length_le (Nat.le_of_eq a4)
      replace F := aF hO2 (And.intro h4 (And.intro hlt (And.intro g0 (And.intro hR1' (And.intro d0 (And.intro d3 (And.intro hi1 (And.intro hoc (And.intro hot (And.intro r1 (And.intro r2 (And.intro r3 (And.intro r4 (And.intro a1 (And.intro a2 (And.intro a3 (And.intro a4 (And.intro a5 F)))))))))))))))))); refine run_skip ?_; refine hK12 _ _ ?_; refine sq fun K15 hK15 => ?_; refine run_block_k ?_; refine sq fun K16 hK16 => ?_; refine sr fun _ hJ18 => ?_; refine gs 28 (fun g7_2 => ?_) (fun g7_2 => ?_)
      · (try exact nope g7_2); all_goals have g7_2p := g7_2; try simp [F] at g7_2p
        all_goals
         replace F := aF g7_2 F; (try replace F := aF g7_2p F); (iterate 10 refine go2 (k := ?_)); refine hJ18 _ _ ?_; refine cs (fun c39 => ?_) (fun c39 => ?_)
         · (try exact nope c39); all_goals have c39p := c39; try simp [F] at c39p
           all_goals
            replace F := aF c39 F; (try replace F := aF c39p F); refine sr fun _ hJ20 => ?_; refine hJ20 _ _ ?_; refine rg' (h := fun J21 hJ21 => ?_); refine hJ21 _ _ ?_; refine hK16 _ _ ?_; refine rg' (h := fun J22 hJ22 => ?_); refine hJ22 _ _ ?_; refine hK15 _ _ ?_; refine rg' (h := fun J23 hJ23 => ?_); refine hJ23 _ _ ?_; refine ⟨(⟨x.i + 1, x.O ++ [⟨d, N, p⟩] ++ [y], true, x.g + 1 + 1⟩), ⟨kp, lp, ?_, ?_, lp, lp, lp, lp⟩, lp⟩
            · have hb : x.b = false := (by simpa using g7_2)
              obtain ⟨ho, hle⟩ := h2.2 hb
              refine ⟨fun _ => ?_, fun e => by cases e⟩
              show (x.O ++ [(⟨d, N, p⟩ : It)] ++ [y]) ++ I.drop (x.i + 1) = T
              rw [hT, insD_split hlt hle (by rw [← hy]; have h := c39; simp at h; exact h), hO2, ho, hdr]
              simp
            · have hb : x.b = false := (by simpa using g7_2)
              have hol := congrArg List.length (h2.2 hb).1
              rw [List.length_take] at hol
              simp
              rw [hO2]
              omega
         (try exact nope c39); all_goals have c39p := c39; try simp [F] at c39p
         all_goals
          replace F := aF c39 F; (try replace F := aF c39p F); refine run_skip ?_; refine hK16 _ _ ?_; refine rg' (h := fun J24 hJ24 => ?_); refine hJ24 _ _ ?_; refine hK15 _ _ ?_; refine rg' (h := fun J25 hJ25 => ?_); refine hJ25 _ _ ?_; refine ⟨(⟨x.i + 1, x.O ++ [y], x.b, x.g + 1⟩), ⟨kp, lp, ?_, ?_, lp, lp, lp, lp⟩, lp⟩
          · have hb : x.b = false := (by simpa using g7_2)
            obtain ⟨ho, hle⟩ := h2.2 hb
            refine ⟨fun e => by simp [hb] at e, fun _ => ⟨by show x.O ++ [y] = _; rw [hta, hO2, ho], ?_⟩⟩
            show ∀ z ∈ I.take (x.i + 1), z.d ≤ d
            rw [hta]
            intro z hz
            rcases List.mem_append.1 hz with h | h
            · exact hle z h
            · simp at h; rw [h]; have h := c39; simp at h; exact h
          · simp
            rw [hO2]
            omega
      (try exact nope g7_2); all_goals have g7_2p := g7_2; try simp [F] at g7_2p
      all_goals
       replace F := aF g7_2 F; (try replace F := aF g7_2p F); (iterate 10 refine no2 (k := ?_)); refine hJ18 _ _ ?_; refine cf ?_; refine run_skip ?_; refine hK16 _ _ ?_; refine rg' (h := fun J26 hJ26 => ?_); refine hJ26 _ _ ?_; refine hK15 _ _ ?_; refine rg' (h := fun J27 hJ27 => ?_); refine hJ27 _ _ ?_; refine ⟨(⟨x.i + 1, x.O ++ [y], x.b, x.g + 1⟩), ⟨kp, lp, ?_, ?_, lp, lp, lp, lp⟩, lp⟩
       · have hb : x.b = true := (by simpa using g7_2)
         refine ⟨fun _ => ?_, fun e => by simp [hb] at e⟩
         show (x.O ++ [y]) ++ I.drop (x.i + 1) = T
         rw [← h2.1 hb, hO2, hdr]
         simp
       · simp
         rw [hO2]
         omega
   (try exact nope c23); all_goals have c23p := c23; try simp [F] at c23p
   all_goals
    replace F := aF c23 F; try replace F := aF c23p F
    have hxi : x.i = I.length := by have h := c23; simp at h; omega
    have hte : I.take x.i = I := List.take_of_length_le (by omega)
    obtain ⟨O, hO⟩ : ∃ O, O = x.O := ⟨_, rfl⟩
    rw [← hO] at h2 h3 h4
    have hO2 := hO.symm
    have hoc := itsC_len O
    have hot : List.take (O.length * 3) (itsC O) = itsC O := List.take_of_length_le (Nat.le_of_eq hoc)
    obtain ⟨r1, r2, r3, r4⟩ := roomL h3 (Nat.le_trans h1 hI)
    have a2 : itsC O ++ [.v (.int .u64 d), .v (.int .u64 N), .sl 1 (bytesA p) p.length .shut] = itsC (O ++ [⟨d, N, p⟩]) := by rw [itsC_app]; simp [itsC, itC, byC]
    have s0b := s0 O σ.rows.length x.g
    have s0a := s0 (O ++ [⟨d, N, p⟩]) σ.rows.length (x.g + 1)
    simp only [List.length_append, List.length_cons, List.length_nil, Nat.zero_add] at s0a
    replace F := aF hO2 (And.intro h4 (And.intro hoc (And.intro hot (And.intro r1 (And.intro r2 (And.intro a2 (And.intro s0a (And.intro s0b F)))))))); refine run_exit ?_; refine hK9 _ _ ?_; refine sq fun K28 hK28 => ?_; refine sr fun _ hJ30 => ?_; refine hJ30 _ _ ?_; refine cs (fun c61 => ?_) (fun c61 => ?_)
    · (try exact nope c61); all_goals have c61p := c61; try simp [F] at c61p
      all_goals
       replace F := aF c61 F; try replace F := aF c61p F
       have hb : x.b = false := by simpa using c61
       obtain ⟨ho, hle⟩ := h2.2 hb
       have hTO : T = O ++ [⟨d, N, p⟩] := by rw [hT, insD_end (by rw [hte] at hle; exact hle), ho, hte]
       refine rg' (h := fun J31 hJ31 => ?_); refine hJ31 _ _ ?_; refine hK28 _ _ ?_; refine sr fun _ hJ33 => ?_; refine hJ33 _ _ ?_; refine sr fun _ hJ35 => ?_; refine hJ35 _ _ ?_; refine ra ?_; exact ⟨x.g + 1, by simp [F], by rw [hTO]⟩
    (try exact nope c61); all_goals have c61p := c61; try simp [F] at c61p
    all_goals
     replace F := aF c61 F; try replace F := aF c61p F
     have hb : x.b = true := by simpa using c61
     have hTO : T = O := by have e := h2.1 hb; rw [List.drop_of_length_le (by omega), List.append_nil] at e; exact e.symm
     refine run_skip ?_; refine hK28 _ _ ?_; refine sr fun _ hJ37 => ?_; refine hJ37 _ _ ?_; refine sr fun _ hJ39 => ?_; refine hJ39 _ _ ?_; refine ra ?_; exact ⟨x.g, by simp [F], by rw [hTO]⟩
theorem itsC_drop : ∀ {I : List It} {i : Nat}, (itsC I).drop (i * 3) = itsC (I.drop i)
  | [], i => by simp [itsC]
  | p :: I, 0 => rfl
  | p :: I, i + 1 => by
    have ih := itsC_drop (I := I) (i := i)
    rw [show (i + 1) * 3 = i * 3 + 3 by omega]
    show List.drop (i * 3 + 3) (itC p ++ itsC I) = itsC (I.drop i)
    rw [← ih]; rfl
theorem roomE {n i : Nat} (h1 : i < n) (h2 : n ≤ 1000000) : i * 40 ≤ 140737488355328 ∧ i ≤ 9223372036854775807 ∧ (i + (n - (i + 1))) * 40 ≤ 140737488355328 ∧ i + (n - (i + 1)) ≤ 9223372036854775807 ∧ i + 1 ≤ n ∧ i * 3 ≤ n * 3 ∧ (i + 1) * 3 + (n - (i + 1)) * 3 ≤ n * 3 := by omega

attribute [local simp] appendA rowAppA readA roomA maxLen zeroCell Value.oneCell' Value.cells in
set_option maxHeartbeats 1600000 in
attribute [local simp] undefA List.getElem?_cons_zero List.getElem?_cons_succ in
theorem rem13_ok {σ : St} {m k d no : Nat} {Ms : List Rl} (h : HasM σ m Ms) (hk : k < Ms.length) (hI : Ms[k].I.length ≤ 1000000) :
    CallsA Try.prog 91 [.ptr m (k * 2), .v (.int .u64 d), .v (.int .u64 no)] σ (fun av σ' => ((∀ x ∈ Ms[k].I, ¬ (x.d = d ∧ x.n = no)) ∧ av = .v (.bool false) ∧ σ = σ') ∨ (∃ i g, ∃ hi : i < Ms[k].I.length, (Ms[k].I[i].d = d ∧ Ms[k].I[i].n = no) ∧ av = .v (.bool true) ∧ σ' = { σ with objs := σ.objs.set m (mC (Ms.set k ⟨Ms[k].I.eraseIdx i, Ms[k].c, σ.rows.length, g⟩)), rows := σ.rows ++ [⟨g, itsC (Ms[k].I.eraseIdx i), none⟩] })) := by
  have hfi := find13_ok (d := d) (no := no) h hk hI
  have hm := h.o
  have hr := h.r k hk
  have hml := mC_len Ms
  obtain ⟨R, hR⟩ := mC_at hk
  have b0 : k * 2 < Ms.length * 2 := by omega
  have b1 : k * 2 + 1 < Ms.length * 2 := by omega
  have b2 : k * 2 + 2 ≤ Ms.length * 2 := by omega
  have s0 := fun I q g => mC_set0 hk I q g
  obtain ⟨⟨I, c, q, g⟩, hX⟩ : ∃ X, Ms[k] = X := ⟨_, rfl⟩
  simp only [hX] at hr hI hfi s0 ⊢
  have s0 : ∀ (I' : List It) (q g : Nat), (mC Ms).take (k * 2) ++ AV.row q g 0 3 I'.length :: (mC Ms).drop (k * 2 + 1) = mC (Ms.set k ⟨I', c, q, g⟩) := fun I' q g => by rw [← s0, List.set_eq_take_append_cons_drop, if_pos (by rw [hml]; exact b0)]
  have e0 := get_drop (l := mC Ms) (i := k * 2) (j := 0) (x := .row q g 0 3 I.length) (by rw [hR, hX]; rfl)
  simp only [Nat.add_zero] at e0
  have hic := itsC_len I
  have hqr := lt_of_get hr
  have hrr : ∀ x, (σ.rows ++ [x])[q]? = some ⟨g, itsC I, none⟩ := fun x => by rw [List.getElem?_append_left hqr]; exact hr
  have F := And.intro hm (And.intro hml (And.intro b0 (And.intro b1 (And.intro b2 (And.intro e0 (And.intro hr (And.intro hic (And.intro hrr (True.intro)))))))))
  refine callsA_body Try.func91 rfl rfl rfl ?_; refine sr fun _ hJ2 => ?_; refine hJ2 _ _ ?_; refine sr fun _ hJ4 => ?_; refine ca (c := hfi) (k := ?_); rintro _ _ ⟨r, hfs, rfl, rfl⟩; (repeat (first | simp [F] | simp (disch := omega) only [wC, if_pos, if_neg])); refine hJ4 _ _ ?_; refine sq fun K5 hK5 => ?_; refine sr fun _ hJ7 => ?_; refine hJ7 _ _ ?_; refine cs (fun c14 => ?_) (fun c14 => ?_)
  · (try exact nope c14); all_goals have c14p := c14; try simp [F] at c14p
    all_goals
     replace F := aF c14 F; try replace F := aF c14p F
     have hno : ∀ x ∈ I, ¬ (x.d = d ∧ x.n = no) := by rcases hfs with ⟨i, hi, e, _⟩ | ⟨_, e⟩ <;> first | exact e | (have h := c14; simp at h; omega)
     refine sr fun _ hJ9 => ?_; refine hJ9 _ _ ?_; refine ra ?_; exact .inl ⟨hno, by simp [F], rfl⟩
  (try exact nope c14); all_goals have c14p := c14; try simp [F] at c14p
  all_goals
   replace F := aF c14 F; try replace F := aF c14p F
   obtain ⟨i, hi, rfl, hdn⟩ : ∃ i, ∃ h : i < I.length, r = (i : Int) ∧ I[i].d = d ∧ I[i].n = no := by rcases hfs with e | ⟨e, _⟩ <;> first | exact e | (have h := c14; simp at h; omega)
   obtain ⟨r1, r2, r3, r4, r5, r6, r7⟩ := roomE hi hI
   have t1 := itsC_take (l := I) (i := i)
   have t2 := itsC_drop (I := I) (i := i + 1)
   have t3 : itsC (I.take i) ++ itsC (I.drop (i + 1)) = itsC (I.eraseIdx i) := by rw [← itsC_app, List.eraseIdx_eq_take_drop_succ]
   have t4 : (itsC (I.take i)).length = i * 3 := by rw [itsC_len, List.length_take]; congr 1; omega
   have t5 : List.take (i * 3) (itsC (I.take i)) = itsC (I.take i) := List.take_of_length_le (Nat.le_of_eq t4)
   have t6 : List.take ((I.length - (i + 1)) * 3) (itsC (I.drop (i + 1))) = itsC (I.drop (i + 1)) := List.take_of_length_le (Nat.le_of_eq (by rw [itsC_len, List.length_drop]))
   have t7 : i + (I.length - (i + 1)) = (I.eraseIdx i).length := by rw [List.length_eraseIdx, if_pos hi]; omega
   have s0a := s0 (I.eraseIdx i) σ.rows.length 2
   rw [← t7] at s0a
   replace F := aF hi (And.intro r1 (And.intro r2 (And.intro r3 (And.intro r4 (And.intro r5 (And.intro r6 (And.intro r7 (And.intro t1 (And.intro t2 (And.intro t3 (And.intro t4 (And.intro t5 (And.intro t6 (And.intro s0a F)))))))))))))); refine run_skip ?_; refine hK5 _ _ ?_; refine sr fun _ hJ11 => ?_; refine hJ11 _ _ ?_; refine sq fun K12 hK12 => ?_; refine run_nilrow 8 3 (k := ?_); refine rg' (h := fun J13 hJ13 => ?_); refine hJ13 _ _ ?_; refine hK12 _ _ ?_; refine sr fun _ hJ15 => ?_; refine hJ15 _ _ ?_; refine sr fun _ hJ17 => ?_; refine hJ17 _ _ ?_; refine ra ?_; exact .inr ⟨i, 2, hi, hdn, by simp [F], by simp [F]⟩
set_option maxHeartbeats 1600000 in
attribute [local simp] undefA List.getElem?_cons_zero List.getElem?_cons_succ in
theorem same13_ok {σ : St} {q g n : Nat} {I : List It} (hr : σ.rows[q]? = some ⟨g, itsC I, none⟩) (hn : n ≤ I.length) (hI : I.length ≤ 1000000) (hp : ∀ x ∈ I, x.p.length ≤ 1000000) :
    CallsA Try.prog 50 [.sl 3 (itsC (I.take n)) n .shut, .row q g 0 3 n] σ (fun av σ' => av = .v (.bool true) ∧ σ = σ') := by
  have hic := itsC_len I
  obtain ⟨A, hA⟩ : ∃ A, A = I.take n := ⟨_, rfl⟩
  rw [← hA]
  have hAl : A.length = n := by rw [hA, List.length_take]; omega
  have hac := itsC_len A
  rw [hAl] at hac
  have hgA : ∀ (i : Nat) (h : i < n), A[i]'(by omega) = I[i]'(by omega) := fun i h => by simp only [hA, List.getElem_take]
  have F := And.intro hr (And.intro hic (And.intro hac (And.intro hn (True.intro))))
  refine callsA_body Try.func50 rfl rfl rfl ?_; refine sr fun _ hJ2 => ?_; refine hJ2 _ _ ?_; refine sq fun K3 hK3 => ?_; refine sr fun _ hJ5 => ?_; refine hJ5 _ _ ?_; refine cf ?_; refine run_skip ?_; refine hK3 _ _ ?_; refine sq fun K6 hK6 => ?_; refine sr fun _ hJ8 => ?_; refine hJ8 _ _ ?_; refine run_block_k ?_; refine run_loopF (X := Nat) [0, 1] (fun i ρ σ1 => (i ≤ n) ∧ (ρ 5 = .v (.int .i64 i)) ∧ (σ1 = σ)) (fun i => n - i) (0) ?st1 ?rd1
  case st1 =>
   refine ⟨lp, lp, lp⟩
  case rd1 =>
   rintro i ρ1 σ1 hF1 ⟨h1, h5, hσ⟩; obtain rfl := hσ.symm
   have f1 := keepL hF1
   (try simp [KeepL, F] at f1); replace F := aF h5 F; (try replace F := aF f1 F); refine sq fun K9 hK9 => ?_; refine sr fun _ hJ11 => ?_; refine hJ11 _ _ ?_; refine cs (fun c14 => ?_) (fun c14 => ?_)
   · (try exact nope c14); all_goals have c14p := c14; try simp [F] at c14p
     all_goals
      replace F := aF c14 F; try replace F := aF c14p F
      have hlt : i < n := by have h := c14; simp at h; omega
      obtain ⟨R1, hR1⟩ := itsC_at (l := A) (i := i) (by omega)
      obtain ⟨R2, hR2⟩ := itsC_at (l := I) (i := i) (by omega)
      rw [hgA i hlt] at hR1
      obtain ⟨x, hx⟩ : ∃ x, x = I[i]'(by omega) := ⟨_, rfl⟩
      rw [← hx] at hR1 hR2
      have hpl := hp x (by rw [hx]; exact List.getElem_mem _)
      have e0 := get_drop (l := itsC A) (i := i * 3) (j := 0) (x := .v (.int .u64 (x.d : Nat))) (by rw [hR1]; rfl)
      have e1 := get_drop (l := itsC A) (i := i * 3) (j := 1) (x := .v (.int .u64 (x.n : Nat))) (by rw [hR1]; rfl)
      have e2 := get_drop (l := itsC A) (i := i * 3) (j := 2) (x := .sl 1 (bytesA x.p) x.p.length .shut) (by rw [hR1]; rfl)
      have f0 := get_drop (l := itsC I) (i := i * 3) (j := 0) (x := .v (.int .u64 (x.d : Nat))) (by rw [hR2]; rfl)
      have f1 := get_drop (l := itsC I) (i := i * 3) (j := 1) (x := .v (.int .u64 (x.n : Nat))) (by rw [hR2]; rfl)
      have f2 := get_drop (l := itsC I) (i := i * 3) (j := 2) (x := .sl 1 (bytesA x.p) x.p.length .shut) (by rw [hR2]; rfl)
      simp only [Nat.add_zero] at e0 f0
      have b0 : i * 3 < n * 3 := by omega
      have b1 : i * 3 + 1 < n * 3 := by omega
      have b2 : i * 3 + 2 < n * 3 := by omega
      have b3 : i * 3 + 3 ≤ n * 3 := by omega
      have d0 : i * 3 < I.length * 3 := by omega
      have d1 : i * 3 + 1 < I.length * 3 := by omega
      have d2 : i * 3 + 2 < I.length * 3 := by omega
      have d3 : i * 3 + 3 ≤ I.length * 3 := by omega
      have hi1 : i + 1 ≤ n := hlt
      replace F := aF hlt (And.intro e0 (And.intro e1 (And.intro e2 (And.intro f0 (And.intro f1 (And.intro f2 (And.intro b0 (And.intro b1 (And.intro b2 (And.intro b3 (And.intro d0 (And.intro d1 (And.intro d2 (And.intro d3 (And.intro hi1 F))))))))))))))); refine run_skip ?_; refine hK9 _ _ ?_; refine sq fun K12 hK12 => ?_; refine run_block_k ?_; refine sq fun K13 hK13 => ?_
      refine run_draw (by kernel_rfl) fun J14 hJ14 => ?_
      refine rp2 0 (k := ?_); refine rp2 1 (k := ?_); refine rp2 2 (k := ?_); refine rp2 3 (k := ?_); refine rp2 4 (k := ?_); refine rp2 5 (k := ?_); refine rp2 6 (k := ?_); refine rp2 7 (k := ?_); refine rp2 8 (k := ?_); refine rp2 9 (k := ?_); refine rp2 10 (k := ?_); refine rp2 11 (k := ?_); refine rp2 12 (k := ?_); refine rp2 13 (k := ?_); refine rp2 14 (k := ?_); refine rp2 15 (k := ?_); refine rp2 16 (k := ?_); refine rp2 17 (k := ?_); refine rp2 18 (k := ?_); refine rp2 19 (k := ?_); refine rp2 20 (k := ?_); refine rp2 21 (k := ?_); refine rp2 22 (k := ?_); refine rp2 23 (k := ?_); refine rp2 24 (k := ?_); refine rp2 25 (k := ?_); refine rp2 26 (k := ?_); refine rp2 27 (k := ?_); refine rp2 28 (k := ?_); refine rp2 29 (k := ?_); refine rp2 30 (k := ?_); refine rp2 31 (k := ?_); refine rp2 32 (k := ?_); refine rp2 33 (k := ?_); refine rp2 34 (k := ?_); refine dc 35 rfl (c := same_ok (p := x.p) (q := x.p) hpl) (k := ?_); rintro _ _ ⟨rfl, rfl⟩
      refine ⟨by first | exact fun _ _ h => h | (refine later_list [33, 32, 31, 30, 28, 27, 26, 25, 23, 22, 21, 20, 19, 18, 17, 16, 15, 14, 13, 12, 11, 10, 9, 8, 7, 6, 5, 4, 3, 2, 1, 0] (by kernel_rfl) (List.forall_mem_cons.2 ⟨fun _ => fact2 rfl rfl ?_, List.forall_mem_cons.2 ⟨fun _ => fact2 rfl rfl ?_, List.forall_mem_cons.2 ⟨fun _ => fact2 rfl rfl ?_, List.forall_mem_cons.2 ⟨fun _ => fact2 rfl rfl ?_, List.forall_mem_cons.2 ⟨fun _ => fact2 rfl rfl ?_, List.forall_mem_cons.2 ⟨fun _ => fact2 rfl rfl ?_, List.forall_mem_cons.2 ⟨fun _ => fact2 rfl rfl ?_, List.forall_mem_cons.2 ⟨fun _ => fact2 rfl rfl ?_, List.forall_mem_cons.2 ⟨fun _ => fact2 rfl rfl ?_, List.forall_mem_cons.2 ⟨fun _ => fact2 rfl rfl ?_, List.forall_mem_cons.2 ⟨fun _ => fact2 rfl rfl ?_, List.forall_mem_cons.2 ⟨fun _ => fact2 rfl rfl ?_, List.forall_mem_cons.2 ⟨fun _ => fact2 rfl rfl ?_, List.forall_mem_cons.2 ⟨fun _ => fact2 rfl rfl ?_, List.forall_mem_cons.2 ⟨fun _ => fact2 rfl rfl ?_, List.forall_mem_cons.2 ⟨fun _ => fact2 rfl rfl ?_, List.forall_mem_cons.2 ⟨fun _ => fact2 rfl rfl ?_, List.forall_mem_cons.2 ⟨fun _ => fact2 rfl rfl ?_, List.forall_mem_cons.2 ⟨fun _ => fact2 rfl rfl ?_, List.forall_mem_cons.2 ⟨fun _ => fact2 rfl rfl ?_, List.forall_mem_cons.2 ⟨fun _ => fact2 rfl rfl ?_, List.forall_mem_cons.2 ⟨fun _ => fact2 rfl rfl ?_, List.forall_mem_cons.2 ⟨fun _ => fact2 rfl rfl ?_, List.forall_mem_cons.2 ⟨fun _ => fact2 rfl rfl ?_, List.forall_mem_cons.2 ⟨fun _ => fact2 rfl rfl ?_, List.forall_mem_cons.2 ⟨fun _ => fact2 rfl rfl ?_, List.forall_mem_cons.2 ⟨fun _ => fact2 rfl rfl ?_, List.forall_mem_cons.2 ⟨fun _ => fact2 rfl rfl ?_, List.forall_mem_cons.2 ⟨fun _ => fact2 rfl rfl ?_, List.forall_mem_cons.2 ⟨fun _ => fact2 rfl rfl ?_, List.forall_mem_cons.2 ⟨fun _ => fact2 rfl rfl ?_, List.forall_mem_cons.2 ⟨fun _ => fact2 rfl rfl ?_, fun _ h => absurd h List.not_mem_nil⟩⟩⟩⟩⟩⟩⟩⟩⟩⟩⟩⟩⟩⟩⟩⟩⟩⟩⟩⟩⟩⟩⟩⟩⟩⟩⟩⟩⟩⟩⟩⟩) <;> constructor <;> first | rfl | (simp [F]; done)), ?_⟩
      (repeat (first | simp [F] | simp (disch := omega) only [wC, if_pos, if_neg])); refine rp2 36 (k := ?_); refine rp2 37 (k := ?_); refine dd ?_; refine hJ14 _ _ ?_; refine hK13 _ _ ?_; refine cf ?_; refine run_skip ?_; refine hK12 _ _ ?_; refine rg' (h := fun J15 hJ15 => ?_); refine hJ15 _ _ ?_; refine ⟨(i + 1), ⟨kp, lp, lp, lp⟩, lp⟩
   (try exact nope c14); all_goals have c14p := c14; try simp [F] at c14p
   all_goals
    replace F := aF c14 F; (try replace F := aF c14p F); refine run_exit ?_; refine hK6 _ _ ?_; refine sr fun _ hJ17 => ?_; refine hJ17 _ _ ?_; refine ra ?_; exact rt
end Go.Proofs.Ytlkajgjaidedkaa
