import Derived.Test.YtmponlabfccjaaaZ7
import Derived.Test.YtmponlabfccjaaaZ10
import Derived.Test.YtmponlabfccjaaaZ13
import Derived.Test.YtmponlabfccjaaaZ12
import Derived.Test.YtmponlabfccjaaaZ9
import Derived.RangeFuncKeeps
import Derived.RangeFuncLeaves
import Derived.Shelf.Abstract
import Derived.WalkKit
import Derived.OwnWalkIn
import Derived.TacticsInMore
import Derived.LoopNIn
import Derived.LoopIn
/-
  Bytes: alike, compared, begun with.
-/
namespace Go.Proofs.Ytmponlabfccjaaa
set_option linter.unnecessarySimpa false
set_option maxRecDepth 100000
open Go Go.Vm
set_option linter.unusedSimpArgs false
set_option linter.unusedVariables false
attribute [local simp] evalL wantedA isCall opA evalA evalAll evalsA evalOpt ofValue ofCell plain binA_eql_pn binA_neq_pn binA_gtr binA_lss binA_geq binA_leq binA_add binA_sub binA_eql binA_neq binA_orI binA_shl binA_shr binA_mul binA_quo binA_rem binA_agg_eql binA_agg_neq convA_int unA_not fieldAddrA loadA partA pickA_true pickA_false pickA_bb lenA builtinA storeA splice AV.cells AV.isCell sliceA boundA intA callOf indexAddrA newObjA buildA fillA zeroA ofCells buildSliceA indexA fieldA set_appN get_appN take_appN List.getElem?_cons_zero List.getElem?_cons_succ

theorem convA_bytes {P : Program} {s d : TypeId} {p : List UInt8} {n : Nat} {t : Tail} : convA P s d (.sl 1 (bytesA p) n t) = (match elemT P s, isStrT P d with
    | some e, true => if isU8 P e then some (.v (.string ⟨p.toArray⟩)) else none
    | _, _ => none) := by
  simp only [convA, bytesOf_bytes]
  cases elemT P s with
  | none => rfl
  | some e => cases isStrT P d <;> simp

set_option maxHeartbeats 1600000 in
attribute [local simp] undefA List.getElem?_cons_zero List.getElem?_cons_succ convA_bytes binA_eql_str ba_toList in
theorem equal_ok {σ : St} {p q : List UInt8} {m n : Nat} {t1 t2 : Tail} : CallsA Try.prog 116 [.sl 1 (bytesA p) m t1, .sl 1 (bytesA q) n t2] σ (fun av σ' => av = .v (.bool (decide (p = q))) ∧ σ = σ') := by
  have he : (p == q) = decide (p = q) := by rw [Bool.eq_iff_iff]; simp
  have F := And.intro he (True.intro)
  refine callsA_body Try.func116 rfl rfl rfl ?_; refine sr fun _ hJ2 => ?_; refine hJ2 _ _ ?_; refine sr fun _ hJ4 => ?_; refine hJ4 _ _ ?_; refine ra ?_; exact rt

set_option maxHeartbeats 1600000 in
attribute [local simp] undefA List.getElem?_cons_zero List.getElem?_cons_succ in
theorem compare_ok {σ : St} {p q : List UInt8} {t1 t2 : Tail} : CallsA Try.prog 115 [.sl 1 (bytesA p) p.length t1, .sl 1 (bytesA q) q.length t2] σ (fun av σ' => av = .v (.int .i64 (cmpB p q)) ∧ σ = σ') := by
  have F := True.intro
  refine callsA_body Try.func115 rfl rfl rfl ?_; refine sr fun _ hJ2 => ?_; refine hJ2 _ _ ?_; refine sr fun _ hJ4 => ?_
  refine ce (c := compare_ext Try.func126 (by kernel_rfl) (by kernel_rfl) (by kernel_rfl) (by kernel_rfl)) (k := ?_)
  rintro _ _ rfl rfl; (repeat (first | simp [F] | simp (disch := omega) only [wC, if_pos, if_neg])); refine hJ4 _ _ ?_; refine ra ?_; exact rt

def preB (p q : List UInt8) : Bool := decide (q.length ≤ p.length) && decide (p.take q.length = q)

set_option maxHeartbeats 1600000 in
attribute [local simp] undefA List.getElem?_cons_zero List.getElem?_cons_succ preB in
theorem prefix_ok {σ : St} {p q : List UInt8} {t1 t2 : Tail} : CallsA Try.prog 88 [.sl 1 (bytesA p) p.length t1, .sl 1 (bytesA q) q.length t2] σ (fun av σ' => av = .v (.bool (preB p q)) ∧ σ = σ') := by
  have ht := bytesA_take p q.length
  have F := And.intro ht (True.intro)
  refine callsA_body Try.func88 rfl rfl rfl ?_; refine sr fun _ hJ2 => ?_; refine hJ2 _ _ ?_; refine sr fun _ hJ4 => ?_; refine gs 10 (fun g1_5 => ?_) (fun g1_5 => ?_)
  · (try exact nope g1_5); all_goals have g1_5p := g1_5; try simp [F] at g1_5p
    all_goals
     replace F := aF g1_5 F; (try replace F := aF g1_5p F); (iterate 5 refine go2 (k := ?_)); refine ca (c := equal_ok (p := p.take q.length) (q := q)) (k := ?_); rintro _ _ ⟨rfl, rfl⟩; (repeat (first | simp [F] | simp (disch := omega) only [wC, if_pos, if_neg])); refine hJ4 _ _ ?_; refine ra ?_; exact rt
  (try exact nope g1_5); all_goals have g1_5p := g1_5; try simp [F] at g1_5p
  all_goals
   replace F := aF g1_5 F; (try replace F := aF g1_5p F); (iterate 6 refine no2 (k := ?_)); refine hJ4 _ _ ?_; refine ra ?_; exact rt

set_option maxHeartbeats 1600000 in
attribute [local simp] undefA List.getElem?_cons_zero List.getElem?_cons_succ in
theorem search_ok {σ : St} {n fid : Nat} {caps : List AV} (pred : Nat → Bool) (hn : n ≤ 4000000000000000000) (hcb : callable Try.prog fid = true)
    (hf : ∀ i : Nat, i < n → CallsA Try.prog fid (.v (.int .i64 i) :: caps) σ (fun av σ' => av = .v (.bool (pred i)) ∧ σ = σ')) :
    CallsA Try.prog 113 [.v (.int .i64 n), .fn fid caps] σ (fun av σ' => (∃ r : Nat, av = .v (.int .i64 r) ∧ r ≤ n ∧ (0 < r → pred (r - 1) = false) ∧ (r < n → pred r = true)) ∧ σ = σ') := by
  have F := True.intro
  refine callsA_body Try.func113 rfl rfl rfl ?_; refine sr fun _ hJ2 => ?_; refine hJ2 _ _ ?_; refine sr fun _ hJ4 => ?_; refine hJ4 _ _ ?_; refine sq fun K5 hK5 => ?_; refine run_block_k ?_; refine run_loopF (X := Nat × Nat) [1, 4] (fun q ρ σ1 => (q.1 ≤ q.2) ∧ (q.2 ≤ n) ∧ (0 < q.1 → pred (q.1 - 1) = false) ∧ (q.2 < n → pred q.2 = true) ∧ (ρ 5 = .v (.int .i64 q.1)) ∧ (ρ 6 = .v (.int .i64 q.2)) ∧ (σ1 = σ)) (fun q => q.2 - q.1) ((0, n)) ?st1 ?rd1
  case st1 =>
   refine ⟨lp, lp, ?_, ?_, lp, lp, lp⟩
   · intro h
     simp at h
   · intro h
     simp at h
  case rd1 =>
   rintro q ρ1 σ1 hF1 ⟨h1, h2, h3, h4, h5, h6, hσ⟩; obtain rfl := hσ.symm
   have f1 := keepL hF1
   (try simp [KeepL, F] at f1); replace F := aF h5 F; replace F := aF h6 F; (try replace F := aF f1 F); refine sq fun K6 hK6 => ?_; refine sr fun _ hJ8 => ?_; refine hJ8 _ _ ?_; refine cs (fun c11 => ?_) (fun c11 => ?_)
   · (try exact nope c11); all_goals have c11p := c11; try simp [F] at c11p
     all_goals
      replace F := aF c11 F; (try replace F := aF c11p F); refine run_skip ?_; refine hK6 _ _ ?_; refine run_block_k ?_; refine sq fun K9 hK9 => ?_
      have hlt : q.1 < q.2 := by simp at c11; omega
      obtain ⟨i, j⟩ := q
      simp only at *
      obtain ⟨h, hh⟩ : ∃ h, h = (i + j) / 2 := ⟨_, rfl⟩
      have hw1 : IntKind.i64.wrap ((i : Int) + (j : Int)) = ((i + j : Nat) : Int) := wrap_i64 _ (by omega) (by omega)
      have hw2 : IntKind.u64.wrap ((i : Int) + (j : Int)) = ((i + j : Nat) : Int) := by rw [show (i : Int) + (j : Int) = ((i + j : Nat) : Int) by simp, wrap_u64, Nat.mod_eq_of_lt (by omega)]
      have hw3 : IntKind.i64.wrap (((i : Int) + (j : Int)).fdiv 2) = (h : Int) := by rw [Int.fdiv_eq_ediv_of_nonneg _ (by omega), wrap_i64 _ (by omega) (by omega)]; omega
      have hhj : h < j := by omega
      have hih : i ≤ h := by omega
      have hw4 : IntKind.i64.wrap ((h : Int) + 1) = ((h + 1 : Nat) : Int) := wrap_i64 _ (by omega) (by omega)
      replace F := aF hw1 F; replace F := aF hw2 F; replace F := aF hw3 F; replace F := aF hw4 F; refine rg' (h := fun J10 hJ10 => ?_); refine hJ10 _ _ ?_; refine hK9 _ _ ?_; refine sr fun _ hJ12 => ?_
      refine ca (c := hf h (by omega)) (k := ?_)
      rintro _ _ ⟨rfl, rfl⟩; (repeat (first | simp [F] | simp (disch := omega) only [wC, if_pos, if_neg])); refine hJ12 _ _ ?_; refine cs (fun c21 => ?_) (fun c21 => ?_)
      · (try exact nope c21); all_goals have c21p := c21; try simp [F] at c21p
        all_goals
         replace F := aF c21 F; (try replace F := aF c21p F); refine rg' (h := fun J13 hJ13 => ?_); refine hJ13 _ _ ?_; refine ⟨((h + 1, j)), ⟨kp, lp, lp, ?_, lp, lp, lp, lp⟩, ?_⟩
         · intro _
           simp at c21
           simpa using c21
         · simp
           omega
      (try exact nope c21); all_goals have c21p := c21; try simp [F] at c21p
      all_goals
       replace F := aF c21 F; (try replace F := aF c21p F); refine rg' (h := fun J14 hJ14 => ?_); refine hJ14 _ _ ?_; refine ⟨((i, h)), ⟨kp, lp, lp, lp, ?_, lp, lp, lp⟩, ?_⟩
       · intro _
         simp at c21
         simpa using c21
       · simp
         omega
   (try exact nope c11); all_goals have c11p := c11; try simp [F] at c11p
   all_goals
    replace F := aF c11 F; (try replace F := aF c11p F); refine run_exit ?_; refine hK5 _ _ ?_; refine sr fun _ hJ16 => ?_; refine hJ16 _ _ ?_; refine ra ?_
    refine ⟨⟨q.1, ?_, by omega, h3, fun h => ?_⟩, rfl⟩
    · simp [F]
    · have : q.1 = q.2 := by simp at c11; omega
      rw [this] at h ⊢; exact h4 h

theorem cmpB_ge (a b : List UInt8) : decide (0 ≤ cmpB a b) = !ltB a b := by
  unfold cmpB
  split
  · rename_i e; subst e; simp [ltB_irr]
  · cases ltB a b <;> simp
theorem prsC_len (l : List Pr) : (prsC l).length = l.length * 2 := by
  induction l with
  | nil => rfl
  | cons p l ih => simp only [prsC, List.flatMap_cons, List.length_append, prC, List.length_cons, List.length_nil] at ih ⊢; omega
theorem prsC_at : ∀ {l : List Pr} {i : Nat} (h : i < l.length), (prsC l)[i * 2]? = some (byC l[i].k) ∧ (prsC l)[i * 2 + 1]? = some (byC l[i].v)
  | p :: l, 0, h => ⟨rfl, rfl⟩
  | p :: l, i + 1, h => by
    have := prsC_at (l := l) (i := i) (by simpa using h)
    have e1 : (i + 1) * 2 = i * 2 + 2 := by omega
    rw [e1]
    exact this

set_option maxHeartbeats 1600000 in
attribute [local simp] undefA List.getElem?_cons_zero List.getElem?_cons_succ in
theorem findF_ok {σ : St} {b1 b2 o k i : Nat} {G : Sg} {key : List UInt8} {t : Tail} (h1 : σ.objs[b1]? = some [.ptr o 0]) (h2 : σ.objs[b2]? = some [.sl 1 (bytesA key) key.length t]) (h : HasS σ o k G) (hi : i < G.s.l.length) :
    CallsA Try.prog 114 [.v (.int .i64 i), .ptr b1 0, .ptr b2 0] σ (fun av σ' => av = .v (.bool (!ltB (G.s.l[i]).k key)) ∧ σ = σ') := by
  obtain ⟨ho, hr1, hr2, hr3⟩ := h
  obtain ⟨⟨l, log, marks⟩, g1, g2, g3⟩ := G
  simp only [stC, stR1, stR2, stR3] at ho hr1 hr2 hr3 hi ⊢
  have hat := (prsC_at hi).1
  have hc := cmpB_ge l[i].k key
  have F := And.intro ho (And.intro hr1 (And.intro h1 (And.intro h2 (And.intro hi (And.intro hat (And.intro hc (True.intro)))))))
  refine callsA_body Try.func114 rfl rfl rfl ?_; refine sr fun _ hJ2 => ?_; refine hJ2 _ _ ?_; refine sq fun K3 hK3 => ?_
  refine run_draw (by kernel_rfl) fun J4 hJ4 => ?_
  refine rp2 0 (k := ?_); refine rp2 1 (k := ?_); refine rp2 2 (k := ?_); refine rp2 3 (k := ?_); refine rp2 4 (k := ?_); refine rp2 5 (k := ?_); refine rp2 6 (k := ?_); refine rp2 7 (k := ?_); refine rp2 8 (k := ?_); refine dc 9 rfl (c := compare_ok) (k := ?_); rintro _ _ ⟨rfl, rfl⟩
  refine ⟨by first | exact fun _ _ h => h | (refine later_list [6, 5, 4, 3, 2, 1, 0] (by kernel_rfl) (List.forall_mem_cons.2 ⟨fun _ => fact2 rfl rfl ?_, List.forall_mem_cons.2 ⟨fun _ => fact2 rfl rfl ?_, List.forall_mem_cons.2 ⟨fun _ => fact2 rfl rfl ?_, List.forall_mem_cons.2 ⟨fun _ => fact2 rfl rfl ?_, List.forall_mem_cons.2 ⟨fun _ => fact2 rfl rfl ?_, List.forall_mem_cons.2 ⟨fun _ => fact2 rfl rfl ?_, List.forall_mem_cons.2 ⟨fun _ => fact2 rfl rfl ?_, fun _ h => absurd h List.not_mem_nil⟩⟩⟩⟩⟩⟩⟩) <;> constructor <;> first | rfl | (simp [F]; done)), ?_⟩
  (repeat (first | simp [F] | simp (disch := omega) only [wC, if_pos, if_neg])); refine rp2 10 (k := ?_); refine rp2 11 (k := ?_); refine dd ?_; refine hJ4 _ _ ?_; refine hK3 _ _ ?_; refine ra ?_; exact rt

def predF (l : List Pr) (key : List UInt8) (i : Nat) : Bool := match l[i]? with
  | some p => !ltB p.k key
  | none => true
theorem predF_find {l : List Pr} {key : List UInt8} {r : Nat} (hs : Srt l) (hr : r ≤ l.length) (h1 : 0 < r → predF l key (r - 1) = false) (h2 : r < l.length → predF l key r = true) : r = findL l key :=
  findL_of hs hr (fun h => by
    have := h1 h
    unfold predF at this
    split at this
    · rename_i p hp; exact ⟨p, hp, by simpa using this⟩
    · cases this) (fun p hp => by
    have := h2 (List.getElem?_eq_some_iff.1 hp).1
    unfold predF at this
    rw [hp] at this
    simpa using this)
theorem hasL_at {l : List Pr} {key : List UInt8} (hs : Srt l) : hasL l key = match l[findL l key]? with | some p => decide (p.k = key) | none => false := by
  unfold hasL
  rw [findL_get hs]
  cases h : l[findL l key]? with
  | none => rfl
  | some p => simp only; split <;> simp_all

set_option maxHeartbeats 1600000 in
attribute [local simp] undefA List.getElem?_cons_zero List.getElem?_cons_succ byC in
theorem find_ok {σ : St} {o k : Nat} {G : Sg} {key : List UInt8} {t : Tail} (h : HasS σ o k G) (hs : Srt G.s.l) (hl : G.s.l.length ≤ 4000000000000000000) :
    CallsA Try.prog 87 [.ptr o 0, .sl 1 (bytesA key) key.length t] σ (fun av σ' => av = .tup [.v (.int .i64 (findL G.s.l key)), .v (.bool (hasL G.s.l key))] ∧ σ = σ') := by
  refine callsA_gcS ?_ rfl
  have hlt := lt_of_get h.o
  have h' : HasS { σ with objs := σ.objs ++ [[.ptr o 0], [.sl 1 (bytesA key) key.length t]] } o k G := ⟨by simp only; rw [List.getElem?_append_left hlt]; exact h.o, h.r1, h.r2, h.r3⟩
  have hse := search_ok (σ := { σ with objs := σ.objs ++ [[.ptr o 0], [.sl 1 (bytesA key) key.length t]] }) (caps := [.ptr σ.objs.length 0, .ptr (σ.objs.length + 1) 0]) (fid := 114) (predF G.s.l key) hl (by simp) (fun i hi => callsA_mono (findF_ok (key := key) (t := t) (by simp) (by simp) h' hi) (fun av σ' hq => by
    refine ⟨hq.1.trans ?_, hq.2⟩
    simp [predF, hi]))
  have hho := h'.o
  obtain ⟨ho, hr1, hr2, hr3⟩ := h
  have hha := hasL_at (key := key) hs
  have hat : ∀ i (hi : i < G.s.l.length), (prsC G.s.l)[i * 2]? = some (byC G.s.l[i].k) := fun i hi => (prsC_at hi).1
  obtain ⟨⟨l, log, marks⟩, g1, g2, g3⟩ := G
  simp only [stC, stR1, stR2, stR3] at ho hr1 hr2 hr3 hl hho hse hs hha hat ⊢
  have hfl := findL_le l key
  have F := And.intro hho (And.intro hr1 (True.intro))
  refine callsA_body Try.func87 rfl rfl rfl ?_; refine sr fun _ hJ2 => ?_; refine hJ2 _ _ ?_; refine sr fun _ hJ4 => ?_; refine ca (c := hse) (k := ?_); rintro _ _ ⟨⟨r, rfl, e1, e2, e3⟩, rfl⟩; obtain rfl := predF_find hs e1 e2 e3; (repeat (first | simp [F] | simp (disch := omega) only [wC, if_pos, if_neg])); refine hJ4 _ _ ?_; refine sq fun K5 hK5 => ?_
  refine run_draw (by kernel_rfl) fun J6 hJ6 => ?_
  refine rp2 0 (k := ?_); refine rp2 1 (k := ?_); refine rp2 2 (k := ?_); refine rp2 3 (k := ?_); refine rp2 4 (k := ?_); refine rp2 5 (k := ?_); refine rp2 6 (k := ?_); refine rp2 7 (k := ?_); refine rp2 8 (k := ?_); refine gd 22 (fun g2_8 => ?_) (fun g2_8 => ?_)
  · (try exact nope g2_8); all_goals have g2_8p := g2_8; try simp [F] at g2_8p
    all_goals
     replace F := aF g2_8 F; try replace F := aF g2_8p F
     have hi : findL l key < l.length := by simp at g2_8; omega
     have hat0 := hat _ hi
     replace F := aF hi (And.intro hat0 F)
     have hhb : hasL l key = decide (l[findL l key].k = key) := by rw [hha, List.getElem?_eq_getElem hi]
     replace F := aF hhb F; refine rp2 9 (k := ?_); refine rp2 10 (k := ?_); refine rp2 11 (k := ?_); refine rp2 12 (k := ?_); refine rp2 13 (k := ?_); refine rp2 14 (k := ?_); refine rp2 15 (k := ?_); refine rp2 16 (k := ?_); refine rp2 17 (k := ?_); refine dc 18 rfl (c := equal_ok) (k := ?_); rintro _ _ ⟨rfl, rfl⟩
     refine ⟨by first | exact fun _ _ h => h | (refine later_list [15, 14, 13, 12, 11, 10, 9, 7, 6, 5, 4, 3, 2, 1, 0] (by kernel_rfl) (List.forall_mem_cons.2 ⟨fun _ => fact2 rfl rfl ?_, List.forall_mem_cons.2 ⟨fun _ => fact2 rfl rfl ?_, List.forall_mem_cons.2 ⟨fun _ => fact2 rfl rfl ?_, List.forall_mem_cons.2 ⟨fun _ => fact2 rfl rfl ?_, List.forall_mem_cons.2 ⟨fun _ => fact2 rfl rfl ?_, List.forall_mem_cons.2 ⟨fun _ => fact2 rfl rfl ?_, List.forall_mem_cons.2 ⟨fun _ => fact2 rfl rfl ?_, List.forall_mem_cons.2 ⟨fun _ => fact2 rfl rfl ?_, List.forall_mem_cons.2 ⟨fun _ => fact2 rfl rfl ?_, List.forall_mem_cons.2 ⟨fun _ => fact2 rfl rfl ?_, List.forall_mem_cons.2 ⟨fun _ => fact2 rfl rfl ?_, List.forall_mem_cons.2 ⟨fun _ => fact2 rfl rfl ?_, List.forall_mem_cons.2 ⟨fun _ => fact2 rfl rfl ?_, List.forall_mem_cons.2 ⟨fun _ => fact2 rfl rfl ?_, List.forall_mem_cons.2 ⟨fun _ => fact2 rfl rfl ?_, fun _ h => absurd h List.not_mem_nil⟩⟩⟩⟩⟩⟩⟩⟩⟩⟩⟩⟩⟩⟩⟩) <;> constructor <;> first | rfl | (simp [F]; done)), ?_⟩
     (repeat (first | simp [F] | simp (disch := omega) only [wC, if_pos, if_neg])); refine rp2 19 (k := ?_); refine rp2 20 (k := ?_); refine rp2 21 (k := ?_); refine dd ?_; refine hJ6 _ _ ?_; refine hK5 _ _ ?_; refine run_ret ?_; (try simp only [Then, InBlock, NoGoto]); refine answer_tmp2 rfl (.inr rfl) ?_; exact gcr
  (try exact nope g2_8); all_goals have g2_8p := g2_8; try simp [F] at g2_8p
  all_goals
   replace F := aF g2_8 F; try replace F := aF g2_8p F
   have hhb : hasL l key = false := by rw [hha, List.getElem?_eq_none (by simp at g2_8; omega)]
   replace F := aF hhb F; refine rp2 9 (k := ?_); refine rp2 10 (k := ?_); refine rp2 11 (k := ?_); refine rp2 12 (k := ?_); refine rp2 13 (k := ?_); refine rp2 14 (k := ?_); refine rp2 15 (k := ?_); refine rp2 16 (k := ?_); refine rp2 17 (k := ?_); refine dop 18 rfl ?_; (repeat (first | simp [F] | simp (disch := omega) only [wC, if_pos, if_neg])); refine rp2 19 (k := ?_); refine rp2 20 (k := ?_); refine rp2 21 (k := ?_); refine dd ?_; refine hJ6 _ _ ?_; refine hK5 _ _ ?_; refine run_ret ?_; (try simp only [Then, InBlock, NoGoto]); refine answer_tmp2 rfl (.inr rfl) ?_; exact gcr
end Go.Proofs.Ytmponlabfccjaaa

/-
  Pairs are taken out of a row, and laid into it.
-/
namespace Go.Proofs.Ytmponlabfccjaaa
set_option linter.unnecessarySimpa false
set_option maxRecDepth 100000
open Go Go.Vm
set_option linter.unusedSimpArgs false
set_option linter.unusedVariables false
attribute [local simp] evalL wantedA isCall opA evalA evalAll evalsA evalOpt ofValue ofCell plain binA_eql_pn binA_neq_pn binA_gtr binA_lss binA_geq binA_leq binA_add binA_sub binA_eql binA_neq binA_orI binA_shl binA_shr binA_mul binA_quo binA_rem binA_agg_eql binA_agg_neq convA_int unA_not fieldAddrA loadA partA pickA_true pickA_false pickA_bb lenA builtinA storeA splice AV.cells AV.isCell sliceA boundA intA callOf indexAddrA newObjA buildA fillA zeroA ofCells buildSliceA indexA fieldA set_appN get_appN take_appN List.getElem?_cons_zero List.getElem?_cons_succ sliceRowA appendA rowAppA readA clearA zerosA zeroCell capA copyA appendZA roomA maxLen Value.oneCell' Value.cells

set_option maxHeartbeats 1600000 in
attribute [local simp] undefA List.getElem?_cons_zero List.getElem?_cons_succ in
theorem delete_ok {σ : St} {k g i m : Nat} {A X B : List AV} (hr : σ.rows[k]? = some ⟨g, A ++ (X ++ B), none⟩) (hA : A.length = i * 2) (hX : X.length = 2) (hB : B.length = m * 2) (hn : i + m ≤ 1000000000) (hu : underL σ.bd (A ++ B) = true) :
    CallsA Try.prog 129 [.row k g 0 2 (i + 1 + m), .v (.int .i64 i), .v (.int .i64 (i + 1 : Nat))] σ (fun av σ' => ∃ g', av = .row k g' 0 2 (i + m) ∧ σ' = { σ with rows := σ.rows.set k ⟨g', A ++ B, none⟩ }) := by
  refine callsA_row_end (Q := fun av σ' => ∃ g junk sp, av = .row k g 0 2 (i + m) ∧ σ' = { σ with rows := σ.rows.set k ⟨g, (A ++ B) ++ junk, sp⟩ }) ?_ hr (by simp [hA, hB]; omega) hu (fun av σ' h => ?_)
  · have hs := set_self_of hr
    have hT : List.take (i * 2) (A ++ (X ++ B)) = A := List.take_left' hA
    have hD : List.drop ((i + 1) * 2) (A ++ (X ++ B)) = B := by rw [← List.append_assoc]; exact List.drop_left' (by simp [hA, hX]; omega)
    have hT2 : List.take (m * 2) B = B := List.take_of_length_le (by omega)
    have hN1 : ((i : Int) + (m : Int)).toNat = i + m := by omega
    have hN2 : ((i : Int) + 1 + (m : Int)).toNat = i + 1 + m := by omega
    have hN3 : i + 1 + m - (i + m) = 1 := by omega
    have hN4 : (i + 1 + m) * 2 - (i * 2 + m * 2) = 2 := by omega
    have hN5 : i * 2 + m * 2 = (i + m) * 2 := by omega
    have hD2 : ∀ Z, List.drop ((i + m) * 2 + 2) (A ++ (B ++ Z)) = List.drop 2 Z := fun Z => by rw [← List.append_assoc, ← List.drop_drop, List.drop_left' (by simp [hA, hB]; omega)]
    have hT3 : ∀ Z, List.take ((i + m) * 2) (A ++ (B ++ Z)) = A ++ B := fun Z => by rw [← List.append_assoc]; exact List.take_left' (by simp [hA, hB]; omega)
    have F := And.intro hr (And.intro hA (And.intro hX (And.intro hB (And.intro hT (And.intro hD (And.intro hT2 (And.intro hN1 (And.intro hN2 (And.intro hN3 (And.intro hN4 (And.intro hD2 (And.intro hT3 (True.intro)))))))))))))
    refine callsA_body Try.func129 rfl rfl rfl ?_; refine sr fun _ hJ2 => ?_; refine hJ2 _ _ ?_; refine sq fun K3 hK3 => ?_; refine run_learnD 0 (kk := fun s q hsq hnq => ?_); replace F := aF hs F; refine rg' (h := fun J4 hJ4 => ?_); refine hJ4 _ _ ?_; refine hK3 _ _ ?_; refine sq fun K5 hK5 => ?_; refine sr fun _ hJ7 => ?_; refine hJ7 _ _ ?_; refine cs (fun c16 => ?_) (fun c16 => ?_)
    · (try exact nope c16); all_goals have c16p := c16; try simp [F] at c16p
      all_goals
       replace F := aF c16 F; (try replace F := aF c16p F); refine sr fun _ hJ9 => ?_; refine hJ9 _ _ ?_; refine ra ?_; exact ⟨g + 1, _, _, by simp [F], by simp only [List.append_assoc]; rfl⟩
    (try exact nope c16); all_goals have c16p := c16; try simp [F] at c16p
    all_goals
     replace F := aF c16 F; (try replace F := aF c16p F); refine run_skip ?_; refine hK5 _ _ ?_; refine sr fun _ hJ11 => ?_; refine hJ11 _ _ ?_; refine sq fun K12 hK12 => ?_
     refine run_draw (by kernel_rfl) fun J13 hJ13 => ?_
     refine rp2 0 (k := ?_); refine rp2 1 (k := ?_); refine rp2 2 (k := ?_); refine rp2 3 (k := ?_); refine rp2 4 (k := ?_); refine rp2 5 (k := ?_); refine dop 6 rfl ?_; repeat (first | simp [F] | simp (disch := omega) only [wC, if_pos, if_neg])
     refine ⟨later_tmp (by kernel_rfl), ?_⟩
     refine dop 7 rfl ?_; (repeat (first | simp [F] | simp (disch := omega) only [wC, if_pos, if_neg])); (try refine ⟨ln, ?_⟩); refine dd ?_; refine hJ13 _ _ ?_; refine hK12 _ _ ?_; refine sr fun _ hJ15 => ?_; refine hJ15 _ _ ?_; refine sr fun _ hJ17 => ?_; refine hJ17 _ _ ?_; refine ra ?_; exact ⟨g + 1, _, _, by simp [F], by simp only [List.append_assoc]; rfl⟩
  · obtain ⟨g', junk, sp, e1, e2⟩ := h
    exact .inl ⟨g', junk, sp, [], [], [], e1, by rw [e2]; simp⟩

set_option maxHeartbeats 1600000 in
attribute [local simp] undefA List.getElem?_cons_zero List.getElem?_cons_succ in
theorem insert_end {σ : St} {k kv g gv i : Nat} {A X : List AV} {sv : Option Nat} (hr : σ.rows[k]? = some ⟨g, A, none⟩) (hv : σ.rows[kv]? = some ⟨gv, X, sv⟩) (hA : A.length = i * 2) (hX : X.length = 2) (hn : i ≤ 1000000000) (hu : underL σ.bd (A ++ X) = true) :
    CallsA Try.prog 130 [.row k g 0 2 i, .v (.int .i64 i), .row kv gv 0 2 1] σ (fun av σ' => ∃ g', av = .row k g' 0 2 (i + 1) ∧ σ' = { σ with rows := σ.rows.set k ⟨g', A ++ X, none⟩ }) := by
  refine callsA_row_end (Q := fun av σ' => ∃ g', av = .row k g' 0 2 (i + 1) ∧ σ' = { σ with rows := σ.rows.set k ⟨g', A ++ X, none⟩ }) ?_ hr (by simp [hA, hX]; omega) hu (fun av σ' h => ?_)
  · have hT : List.take (i * 2) A = A := List.take_of_length_le (by omega)
    have hX2 : List.take 2 X = X := List.take_of_length_le (by omega)
    have h1 : (i + 1) * 48 ≤ 140737488355328 := by omega
    have h2 : i + 1 ≤ 9223372036854775807 := by omega
    have F := And.intro hr (And.intro hv (And.intro hA (And.intro hX (And.intro hT (And.intro hX2 (And.intro h1 (And.intro h2 (True.intro))))))))
    refine callsA_body Try.func130 rfl rfl rfl ?_; refine sr fun _ hJ2 => ?_; refine hJ2 _ _ ?_; refine sr fun _ hJ4 => ?_; refine hJ4 _ _ ?_; refine sr fun _ hJ6 => ?_; refine hJ6 _ _ ?_; refine sq fun K7 hK7 => ?_; refine sr fun _ hJ9 => ?_; refine hJ9 _ _ ?_; refine cs (fun c16 => ?_) (fun c16 => ?_)
    · (try exact nope c16); all_goals have c16p := c16; try simp [F] at c16p
      all_goals
       replace F := aF c16 F; (try replace F := aF c16p F); refine sr fun _ hJ11 => ?_; refine hJ11 _ _ ?_; refine ra ?_; exact ⟨g + 1, by simp [F], rfl⟩
    (try exact nope c16); all_goals have c16p := c16; try simp [F] at c16p
    all_goals
     replace F := aF c16 F; (try replace F := aF c16p F); refine run_skip ?_; refine hK7 _ _ ?_; refine sr fun _ hJ13 => ?_; refine hJ13 _ _ ?_; refine sq fun K14 hK14 => ?_; refine sr fun _ hJ16 => ?_; refine hJ16 _ _ ?_; refine ct ?_; refine sr fun _ hJ18 => ?_; refine hJ18 _ _ ?_; refine ra ?_; exact ⟨g + 1, by simp [F], rfl⟩
  · obtain ⟨g', e1, e2⟩ := h
    exact .inl ⟨g', [], none, [], [], [], e1, by rw [e2]; simp⟩

theorem overlapsP {σ : St} {k1 g1 o1 n1 k2 g2 o2 n2 : Nat} {c1 c2 : List AV} {s1 s2 : Option Nat} (hne : k1 ≠ k2) (h1 : σ.rows[k1]? = some ⟨g1, c1, s1⟩) (h2 : σ.rows[k2]? = some ⟨g2, c2, s2⟩) :
    ExtA Try.prog 132 [.row k1 g1 o1 2 n1, .row k2 g2 o2 2 n2] σ (fun av _ => av = .v (.bool false)) :=
  overlaps_ext (tS := 94) (tR := 4) Try.func132 (by kernel_rfl) (by kernel_rfl) (by kernel_rfl) (by kernel_rfl) Try.underlying94 (ti_147) rfl (by decide) hne h1 rfl h2 rfl

set_option maxHeartbeats 1600000 in
attribute [local simp] undefA List.getElem?_cons_zero List.getElem?_cons_succ in
set_option maxHeartbeats 16000000 in
theorem insert_mid {σ : St} {k kv g gv i m : Nat} {A X B : List AV} {sv : Option Nat} (hr : σ.rows[k]? = some ⟨g, A ++ B, none⟩) (hv : σ.rows[kv]? = some ⟨gv, X, sv⟩) (hk : kv ≠ k) (hA : A.length = i * 2) (hX : X.length = 2) (hB : B.length = m * 2) (hm : 0 < m) (hn : i + m ≤ 1000000000) (hu : underL σ.bd (A ++ (X ++ B)) = true) :
    CallsA Try.prog 130 [.row k g 0 2 (i + m), .v (.int .i64 i), .row kv gv 0 2 1] σ (fun av σ' => ∃ g', av = .row k g' 0 2 (i + m + 1) ∧ σ' = { σ with rows := σ.rows.set k ⟨g', A ++ (X ++ B), none⟩ }) := by
  have hkl := lt_of_get hr
  have hvl := lt_of_get hv
  refine callsA_row_end (Q := fun av σ' => (∃ g' sp, av = .row k g' 0 2 (i + m + 1) ∧ σ' = { σ with rows := σ.rows.set k ⟨g', A ++ (X ++ B), sp⟩ }) ∨ (∃ r1 sp, av = .row σ.rows.length 0 0 2 (i + m + 1) ∧ σ' = { σ with rows := σ.rows.set k r1 ++ [⟨0, A ++ (X ++ B), sp⟩] })) ?_ hr (by simp [hA, hB, hX]; omega) hu (fun av σ' h => ?_)
  · have hs := fun x => set_self_of hr x
    have hvs : ∀ x, (σ.rows.set k x)[kv]? = some ⟨gv, X, sv⟩ := fun x => by rw [List.getElem?_set_ne (Ne.symm hk)]; exact hv
    have hT : List.take (i * 2) (A ++ B) = A := List.take_left' hA
    have hD : List.drop (i * 2) (A ++ B) = B := List.drop_left' hA
    have hT2 : List.take (m * 2) B = B := List.take_of_length_le (by omega)
    have hX2 : List.take 2 X = X := List.take_of_length_le (by omega)
    have hN1 : ((i : Int) + (m : Int)).toNat = i + m := by omega
    have hN2 : ((i : Int) + (m : Int) + 1).toNat = i + m + 1 := by omega
    have hw1 : IntKind.i64.wrap ((i : Int) + (m : Int) + 1) = ((i + m + 1 : Nat) : Int) := wrap_i64 _ (by omega) (by omega)
    have hw2 : IntKind.i64.wrap ((i : Int) + 1) = ((i + 1 : Nat) : Int) := wrap_i64 _ (by omega) (by omega)
    have hw3 : IntKind.i64.wrap ((i : Int) + (m : Int) + 1 - (i : Int)) = ((m + 1 : Nat) : Int) := by rw [wrap_i64 _ (by omega) (by omega)]; omega
    have hvs2 : ∀ r x, (σ.rows.set k r ++ [x])[kv]? = some ⟨gv, X, sv⟩ := fun r x => by rw [List.getElem?_append_left (by simpa using hvl)]; exact hvs r
    have hk1 : ∀ r x, (σ.rows.set k r ++ [x])[k]? = some r := fun r x => by rw [List.getElem?_append_left (by simpa using hkl)]; exact hs r
    have hn1 : ∀ r x, (σ.rows.set k r ++ [x])[σ.rows.length]? = some x := fun r x => by rw [List.getElem?_append_right (by simp)]; simp
    have hset1 : ∀ r x y, (σ.rows.set k r ++ [x]).set σ.rows.length y = σ.rows.set k r ++ [y] := fun r x y => by rw [List.set_append_right _ _ (by simp)]; simp
    have hTz : ∀ Z, List.take (i * 2) (A ++ Z) = A := fun Z => List.take_left' hA
    have hDz : ∀ Z, List.drop (i * 2) (A ++ Z) = Z := fun Z => List.drop_left' hA
    have hDz2 : ∀ Z, List.drop (i * 2 + 2) (A ++ Z) = List.drop 2 Z := fun Z => by rw [← List.drop_drop, hDz]
    have hT1 : ∀ Z, List.take ((i + 1) * 2) (A ++ Z) = A ++ List.take 2 Z := fun Z => by rw [show (i + 1) * 2 = A.length + 2 by omega, List.take_length_add_append]
    have hT2x : ∀ Z, List.take 2 (X ++ Z) = X := fun Z => List.take_left' hX
    have hDx : ∀ f : Nat → AV, List.drop ((i + 1) * 2 + m * 2) (A ++ (X ++ List.drop 2 (List.map f (List.range ((m + 1) * 2))))) = [] := fun f => List.drop_of_length_le (by simp [hA, hX]; omega)
    have hDx2 : ∀ E : List AV, E.length = 2 → List.drop ((i + 1) * 2 + m * 2) (A ++ (B ++ E)) = [] := fun E hE => List.drop_of_length_le (by simp [hA, hB, hE]; omega)
    have hDx3 := hDx2 [.any, .any] rfl
    have hN4 : (i + m + 1) * 2 - (i * 2 + m * 2) = 2 := by omega
    have hN5 : min 1 (m + 1) = 1 := by omega
    have hN6 : i + m + 1 - (i + 1) = m := by omega
    have hN7 : i + m + 1 - i = m + 1 := by omega
    have hN8 : min m (i + (m + 1) - (i + 1)) = m := by omega
    have hTB : ∀ E, List.take (m * 2) (B ++ E) = B := fun E => List.take_left' hB
    have hTB2 : List.take ((m + 1) * 2) (B ++ [.any, .any]) = B ++ [.any, .any] := List.take_of_length_le (by simp [hB]; omega)
    have hne : ((i : Int) == (i : Int) + (m : Int)) = false := by simp; omega
    have F := And.intro hr (And.intro hv (And.intro hA (And.intro hX (And.intro hB (And.intro hT (And.intro hD (And.intro hT2 (And.intro hX2 (And.intro hN1 (And.intro hN2 (And.intro hw1 (And.intro hw2 (And.intro hw3 (And.intro hne (True.intro)))))))))))))))
    refine callsA_body Try.func130 rfl rfl rfl ?_; refine sr fun _ hJ2 => ?_; refine hJ2 _ _ ?_; refine sr fun _ hJ4 => ?_; refine hJ4 _ _ ?_; refine sr fun _ hJ6 => ?_; refine hJ6 _ _ ?_; refine sq fun K7 hK7 => ?_; refine sr fun _ hJ9 => ?_; refine hJ9 _ _ ?_; refine cs (fun c16 => ?_) (fun c16 => ?_)
    · (try exact nope c16); all_goals have c16p := c16; try simp [F] at c16p
      all_goals
       replace F := aF c16 F; (try replace F := aF c16p F); refine sr fun _ hJ11 => ?_; refine hJ11 _ _ ?_; refine ra ?_; exact .inl ⟨g, _, by simp [F, Nat.add_assoc], rfl⟩
    (try exact nope c16); all_goals have c16p := c16; try simp [F] at c16p
    all_goals
     replace F := aF c16 F; (try replace F := aF c16p F); refine run_skip ?_; refine hK7 _ _ ?_; refine sr fun _ hJ13 => ?_; refine hJ13 _ _ ?_; refine sq fun K14 hK14 => ?_; refine sr fun _ hJ16 => ?_; refine hJ16 _ _ ?_; refine cf ?_; refine run_skip ?_; refine hK14 _ _ ?_; refine sq fun K17 hK17 => ?_; refine sq fun K18 hK18 => ?_; refine run_learnD 0 (kk := fun s q hsq hnq => ?_)
     have hql : i * 2 + m * 2 + s = q * 2 := by simp [hA, hB] at hsq; omega
     have hq1 : (i * 2 + m * 2 + s) % 2 = 0 := by omega
     have hq2 : ((i : Int) * 2 + (m : Int) * 2 + (s : Int)) / 2 = (q : Int) := by omega
     replace F := aF hs F; replace F := aF hvs F; replace F := aF hq1 F; replace F := aF hq2 F; replace F := aF hvs2 F; replace F := aF hk1 F; replace F := aF hn1 F; replace F := aF hset1 F; replace F := aF hTz F; replace F := aF hDz F; replace F := aF hDz2 F; replace F := aF hT1 F; replace F := aF hT2x F; replace F := aF hDx F; replace F := aF hDx3 F; replace F := aF hN4 F; replace F := aF hN5 F; replace F := aF hN6 F; replace F := aF hN7 F; replace F := aF hN8 F; replace F := aF hTB F; replace F := aF hTB2 F; refine rg' (h := fun J19 hJ19 => ?_); refine hJ19 _ _ ?_; refine hK18 _ _ ?_; refine cs (fun c31 => ?_) (fun c31 => ?_)
     · (try exact nope c31); all_goals have c31p := c31; try simp [F] at c31p
       all_goals
        replace F := aF c31 F; (try replace F := aF c31p F); refine sr fun _ hJ21 => ?_; refine hJ21 _ _ ?_; refine sr fun _ hJ23 => ?_; refine hJ23 _ _ ?_; refine sq fun K24 hK24 => ?_
        refine run_draw (by kernel_rfl) fun J25 hJ25 => ?_
        refine rp2 0 (k := ?_); refine rp2 1 (k := ?_); refine rp2 2 (k := ?_); refine rp2 3 (k := ?_); refine rp2 4 (k := ?_); refine rp2 5 (k := ?_); refine rp2 6 (k := ?_); refine rp2 7 (k := ?_); refine dop 8 rfl ?_; repeat (first | simp [F] | simp (disch := omega) only [wC, if_pos, if_neg])
        refine ⟨by first | exact fun _ _ h => h | (refine later_list [6, 5, 3, 2, 1, 0] (by kernel_rfl) (List.forall_mem_cons.2 ⟨fun _ => fact2 rfl rfl ?_, List.forall_mem_cons.2 ⟨fun _ => fact2 rfl rfl ?_, List.forall_mem_cons.2 ⟨fun _ => fact2 rfl rfl ?_, List.forall_mem_cons.2 ⟨fun _ => fact2 rfl rfl ?_, List.forall_mem_cons.2 ⟨fun _ => fact2 rfl rfl ?_, List.forall_mem_cons.2 ⟨fun _ => fact2 rfl rfl ?_, fun _ h => absurd h List.not_mem_nil⟩⟩⟩⟩⟩⟩) <;> constructor <;> first | rfl | (simp [F]; done)), ?_⟩
        refine dd ?_; refine hJ25 _ _ ?_; refine hK24 _ _ ?_; refine sr fun _ hJ27 => ?_; refine hJ27 _ _ ?_; refine ra ?_; exact .inr ⟨_, none, by simp [F, Nat.add_assoc], rfl⟩
     (try exact nope c31); all_goals have c31p := c31; try simp [F] at c31p
     all_goals
      replace F := aF c31 F; (try replace F := aF c31p F); refine run_skip ?_; refine hK17 _ _ ?_; refine sr fun _ hJ29 => ?_; refine hJ29 _ _ ?_; refine sq fun K30 hK30 => ?_; refine sr fun _ hJ32 => ?_
      refine ce (c := overlapsP (g1 := gv) (n1 := 1) (o1 := 0) (g2 := g) (o2 := (i + 1) * 2) (n2 := m) hk (by simp [F]; first | done | exact ⟨rfl, rfl⟩) (by simp [F]; first | done | exact ⟨rfl, rfl⟩)) (k := ?_)
      rintro _ _ rfl rfl; (repeat (first | simp [F] | simp (disch := omega) only [wC, if_pos, if_neg])); refine hJ32 _ _ ?_; refine ct ?_; refine sq fun K33 hK33 => ?_
      refine run_draw (by kernel_rfl) fun J34 hJ34 => ?_
      refine rp2 0 (k := ?_); refine rp2 1 (k := ?_); refine rp2 2 (k := ?_); refine rp2 3 (k := ?_); refine rp2 4 (k := ?_); refine rp2 5 (k := ?_); refine rp2 6 (k := ?_); refine rp2 7 (k := ?_); refine dop 8 rfl ?_; repeat (first | simp [F] | simp (disch := omega) only [wC, if_pos, if_neg])
      refine ⟨by first | exact fun _ _ h => h | (refine later_list [6, 5, 3, 2, 1, 0] (by kernel_rfl) (List.forall_mem_cons.2 ⟨fun _ => fact2 rfl rfl ?_, List.forall_mem_cons.2 ⟨fun _ => fact2 rfl rfl ?_, List.forall_mem_cons.2 ⟨fun _ => fact2 rfl rfl ?_, List.forall_mem_cons.2 ⟨fun _ => fact2 rfl rfl ?_, List.forall_mem_cons.2 ⟨fun _ => fact2 rfl rfl ?_, List.forall_mem_cons.2 ⟨fun _ => fact2 rfl rfl ?_, fun _ h => absurd h List.not_mem_nil⟩⟩⟩⟩⟩⟩) <;> constructor <;> first | rfl | (simp [F]; done)), ?_⟩
      refine dd ?_; refine hJ34 _ _ ?_; refine hK33 _ _ ?_; refine sr fun _ hJ36 => ?_; refine hJ36 _ _ ?_; refine sr fun _ hJ38 => ?_; refine hJ38 _ _ ?_; refine ra ?_; exact .inl ⟨g, _, by simp [F, Nat.add_assoc], rfl⟩
  · rcases h with ⟨g', sp, e1, e2⟩ | ⟨r1, sp, e1, e2⟩
    · exact .inl ⟨g', [], sp, [], [], [], e1, by rw [e2]; simp⟩
    · exact .inr ⟨_, sp, [], [], r1, 0, [], e1, by rw [e2]; simp, rfl⟩

end Go.Proofs.Ytmponlabfccjaaa

/-
  A store: a pair is put, or none of that key; what was there is told.
-/
namespace Go.Proofs.Ytmponlabfccjaaa
set_option linter.unnecessarySimpa false
set_option maxRecDepth 100000
open Go Go.Vm
set_option linter.unusedSimpArgs false
set_option linter.unusedVariables false
attribute [local simp] evalL wantedA isCall opA evalA evalAll evalsA evalOpt ofValue ofCell plain binA_eql_pn binA_neq_pn binA_gtr binA_lss binA_geq binA_leq binA_add binA_sub binA_eql binA_neq binA_orI binA_shl binA_shr binA_mul binA_quo binA_rem binA_agg_eql binA_agg_neq convA_int unA_not fieldAddrA loadA partA pickA_true pickA_false pickA_bb lenA builtinA storeA splice AV.cells AV.isCell sliceA boundA intA callOf indexAddrA newObjA buildA fillA zeroA ofCells buildSliceA indexA fieldA set_appN get_appN take_appN List.getElem?_cons_zero List.getElem?_cons_succ get_sa0 get_sa1 get_sa2 get_sa3 set_sa0 set_sa1 set_sa2 set_sa3

theorem prsC_app (l m : List Pr) : prsC (l ++ m) = prsC l ++ prsC m := by simp [prsC]
theorem prsC_take (l : List Pr) (i : Nat) : List.take (i * 2) (prsC l) = prsC (l.take i) := by
  by_cases h : i ≤ l.length
  · conv => lhs; rw [← List.take_append_drop i l, prsC_app]
    exact List.take_left' (by rw [prsC_len, List.length_take, Nat.min_eq_left h])
  · rw [List.take_of_length_le (by rw [prsC_len]; omega), List.take_of_length_le (by omega)]
theorem prsC_drop (l : List Pr) (i : Nat) : List.drop (i * 2) (prsC l) = prsC (l.drop i) := by
  by_cases h : i ≤ l.length
  · conv => lhs; rw [← List.take_append_drop i l, prsC_app]
    exact List.drop_left' (by rw [prsC_len, List.length_take, Nat.min_eq_left h])
  · rw [List.drop_of_length_le (by rw [prsC_len]; omega), List.drop_of_length_le (by omega)]; rfl
theorem prsC_set {l : List Pr} {i : Nat} (h : i < l.length) (p : Pr) : List.take (i * 2) (prsC l) ++ byC p.k :: byC p.v :: List.drop (i * 2 + 2) (prsC l) = prsC (l.set i p) := by
  rw [show i * 2 + 2 = (i + 1) * 2 by omega, prsC_take, prsC_drop, List.set_eq_take_append_cons_drop, if_pos h, prsC_app]
  rfl
theorem prsC_cut {l : List Pr} {i : Nat} (h : i < l.length) : prsC l = prsC (l.take i) ++ (prC l[i] ++ prsC (l.drop (i + 1))) := by
  conv => lhs; rw [← List.take_append_drop i l, prsC_app, List.drop_eq_getElem_cons h]
  rfl
theorem prsC_cut0 (l : List Pr) (i : Nat) : prsC l = prsC (l.take i) ++ prsC (l.drop i) := by
  conv => lhs; rw [← List.take_append_drop i l, prsC_app]
theorem delP_ok {σ : St} {k g i : Nat} {l : List Pr} (hr : σ.rows[k]? = some ⟨g, prsC l, none⟩) (hi : i < l.length) (hn : l.length ≤ 1000000) :
    CallsA Try.prog 129 [.row k g 0 2 l.length, .v (.int .i64 i), .v (.int .i64 ((i : Int) + 1))] σ (fun av σ' => ∃ g', av = .row k g' 0 2 (l.length - 1) ∧ σ' = { σ with rows := σ.rows.set k ⟨g', prsC (l.take i ++ l.drop (i + 1)), none⟩ }) := by
  rw [prsC_cut hi] at hr
  have := delete_ok (i := i) (m := l.length - i - 1) hr (by simp [prsC_len]; omega) rfl (by simp [prsC_len]; omega) (by omega) (by rw [← prsC_app]; exact prsC_under _ _)
  rw [← prsC_app, show i + 1 + (l.length - i - 1) = l.length by omega, show i + (l.length - i - 1) = l.length - 1 by omega] at this
  exact this
theorem insP_ok {σ : St} {k kv g gv i : Nat} {l : List Pr} {p : Pr} {sv : Option Nat} (hr : σ.rows[k]? = some ⟨g, prsC l, none⟩) (hv : σ.rows[kv]? = some ⟨gv, prC p, sv⟩) (hk : kv ≠ k) (hi : i ≤ l.length) (hn : l.length ≤ 1000000) :
    CallsA Try.prog 130 [.row k g 0 2 l.length, .v (.int .i64 i), .row kv gv 0 2 1] σ (fun av σ' => ∃ g', av = .row k g' 0 2 (l.length + 1) ∧ σ' = { σ with rows := σ.rows.set k ⟨g', prsC (l.take i ++ p :: l.drop i), none⟩ }) := by
  have e : prsC (l.take i ++ p :: l.drop i) = prsC (l.take i) ++ (prC p ++ prsC (l.drop i)) := by rw [prsC_app]; rfl
  by_cases h0 : i = l.length
  · subst h0
    have := insert_end (i := l.length) hr hv (by simp [prsC_len]) rfl (by omega) (by have := prsC_under σ.bd (l ++ [p]); rw [prsC_app] at this; simpa [prsC] using this)
    rw [e, List.take_length, List.drop_length]
    simpa [prsC] using this
  · rw [prsC_cut0 l i] at hr
    have := insert_mid (i := i) (m := l.length - i) hr hv hk (by simp [prsC_len]; omega) rfl (by simp [prsC_len]) (by omega) (by omega) (by rw [← e]; exact prsC_under _ _)
    rw [← e, show i + (l.length - i) = l.length by omega] at this
    exact this
theorem getL_some_at {l : List Pr} {key v : List UInt8} (hs : Srt l) (h : getL l key = some v) : ∃ h : findL l key < l.length, (l[findL l key]).k = key ∧ (l[findL l key]).v = v := by
  rw [findL_get hs] at h
  split at h
  · rename_i p hp
    obtain ⟨h1, h2⟩ := List.getElem?_eq_some_iff.1 hp
    split at h
    · rename_i hk
      exact ⟨h1, by rw [h2]; exact hk, by rw [h2]; exact Option.some.inj h⟩
    · cases h
  · cases h

set_option maxHeartbeats 1600000 in
attribute [local simp] undefA List.getElem?_cons_zero List.getElem?_cons_succ byC in
theorem put_ok {σ : St} {o k : Nat} {G : Sg} {key val : List UInt8} {is : Bool} (h : HasS σ o k G) (hs : Srt G.s.l) (hl : G.s.l.length ≤ 1000000) :
    CallsA Try.prog 123 [.ptr o 0, .agg [byC key, byC val], .v (.bool is)] σ (fun av σ' => ∃ g, av = .agg (udC ⟨key, getL G.s.l key⟩) ∧ σ' = putS σ o k ⟨⟨setL G.s.l key (if is then some val else none), G.s.log, G.s.marks⟩, g, G.g2, G.g3⟩) := by
  refine callsA_gcSt (X := Nat) (T := fun g => ⟨⟨setL G.s.l key (if is then some val else none), G.s.log, G.s.marks⟩, g, G.g2, G.g3⟩) h (fun _ => by simp [AV.under, udC_under]) ?_
  have hp1 := fun l' g' => putS_1 h l' g'
  have hfi := fun L m => find_ok (key := key) (t := .shut) (h.app L m) hs (by omega)
  have hbd := prsC_under σ.bd
  have hset := setL_at (k := key) (o := if is then some val else none) hs
  have hgat : ∀ v, getL G.s.l key = some v → _ := fun v h => getL_some_at (key := key) (v := v) hs h
  have hhas : hasL G.s.l key = (getL G.s.l key).isSome := rfl
  have hlo := lt_of_get h.o
  have hlr := lt_of_get h.r1
  obtain ⟨ho, hr1, hr2, hr3⟩ := h
  obtain ⟨⟨l, log, marks⟩, g1, g2, g3⟩ := G
  simp only [stC, stR1, stR2, stR3] at ho hr1 hr2 hr3 hl hp1 hset hgat hhas hfi ⊢
  have ha : ∀ L, (σ.objs ++ L)[o]? = some [.row k g1 0 2 l.length, .row (k + 1) g2 0 3 log.length, .row (k + 2) g3 0 1 marks.length] := fun L => by rw [List.getElem?_append_left hlo]; exact ho
  have hb : ∀ x L, (σ.objs ++ L).set o x = σ.objs.set o x ++ L := fun x L => List.set_append_left _ _ hlo
  have hc : ∀ x L, (σ.objs.set o x ++ L)[o]? = some x := fun x L => by rw [List.getElem?_append_left (by simpa using hlo)]; exact set_self_of ho x
  have hle := findL_le l key
  obtain ⟨i, hi⟩ : ∃ i, i = findL l key := ⟨_, rfl⟩
  obtain ⟨q, hq⟩ : ∃ q, q = getL l key := ⟨_, rfl⟩
  simp only [← hi, ← hq] at hset hgat hhas hfi hle
  obtain ⟨b, hbb⟩ : ∃ b, b = hasL l key := ⟨_, rfl⟩
  simp only [← hbb] at hfi hhas
  have hda : ∀ (x : RowSt) L, (σ.rows.set k x ++ L)[k]? = some x := fun x L => by rw [List.getElem?_append_left (by simpa using hlr)]; exact set_self_of hr1 x
  have hdb : ∀ L, (σ.rows ++ L)[k]? = some ⟨g1, prsC l, none⟩ := fun L => by rw [List.getElem?_append_left hlr]; exact hr1
  have hdc : ∀ (x : RowSt) L, (σ.rows ++ L).set k x = σ.rows.set k x ++ L := fun x L => List.set_append_left _ _ hlr
  have hso := set_same' ho
  have hsr := set_same' hr1
  have F := And.intro ha (And.intro hb (And.intro hc (And.intro hr1 (And.intro hda (And.intro hdb (And.intro hdc (And.intro hso (And.intro hsr (True.intro)))))))))
  refine callsA_body Try.func123 rfl rfl rfl ?_; refine sr fun _ hJ2 => ?_; refine hJ2 _ _ ?_; refine sr fun _ hJ4 => ?_; refine ca (c := hfi _ _) (k := ?_); rintro _ _ ⟨rfl, rfl⟩; (repeat (first | simp [F] | simp (disch := omega) only [wC, if_pos, if_neg])); refine hJ4 _ _ ?_; refine sr fun _ hJ6 => ?_; refine hJ6 _ _ ?_; refine sq fun K7 hK7 => ?_; refine run_block_k ?_; refine sr fun _ hJ9 => ?_; refine gs 24 (fun g3_1 => ?_) (fun g3_1 => ?_)
  · (try exact nope g3_1); all_goals have g3_1p := g3_1; try simp [F] at g3_1p
    all_goals
     replace F := aF g3_1 F; try replace F := aF g3_1p F
     obtain ⟨v, hv⟩ : ∃ v, q = some v := Option.isSome_iff_exists.1 (by rw [← hhas]; simpa using g3_1)
     obtain ⟨hil, hik, hiv⟩ := hgat v hv
     have hat := prsC_at hil
     rw [hiv] at hat
     have hat2 := hat.2
     have hpl := prsC_len l
     have hi2 : i * 2 + 2 ≤ l.length * 2 := by omega
     have hps := prsC_set hil ⟨key, val⟩
     simp only [byC] at hat2 hps
     replace F := aF hil (And.intro hat2 (And.intro hpl (And.intro hi2 F))); refine go2 (k := ?_); refine hJ9 _ _ ?_; refine cs (fun c22 => ?_) (fun c22 => ?_)
     · (try exact nope c22); all_goals have c22p := c22; try simp [F] at c22p
       all_goals
        replace F := aF c22 F; try replace F := aF c22p F
        have his : is = true := by simpa using c22
        have hS : setL l key (if is then some val else none) = l.set i ⟨key, val⟩ := by rw [hset, hv, his]; rfl
        replace F := aF hps F
        refine run_draw (by kernel_rfl) fun J10 hJ10 => ?_
        refine rp2 0 (k := ?_); refine rp2 1 (k := ?_); refine rp2 2 (k := ?_); refine rp2 3 (k := ?_); refine rp2 4 (k := ?_); refine rp2 5 (k := ?_); refine rp2 6 (k := ?_); refine rp2 7 (k := ?_); refine rp2 8 (k := ?_); refine rp2 9 (k := ?_); refine rp2 10 (k := ?_); refine rp2 11 (k := ?_); refine rp2 12 (k := ?_); refine rp2 13 (k := ?_); refine rp2 14 (k := ?_); refine rp2 15 (k := ?_); refine dop 16 rfl ?_; repeat (first | simp [F] | simp (disch := omega) only [wC, if_pos, if_neg])
        refine ⟨by first | exact fun _ _ h => h | (refine later_list [14, 13, 4, 3, 2, 1, 0] (by kernel_rfl) (List.forall_mem_cons.2 ⟨fun _ => fact2 rfl rfl ?_, List.forall_mem_cons.2 ⟨fun _ => fact2 rfl rfl ?_, List.forall_mem_cons.2 ⟨fun _ => fact2 rfl rfl ?_, List.forall_mem_cons.2 ⟨fun _ => fact2 rfl rfl ?_, List.forall_mem_cons.2 ⟨fun _ => fact2 rfl rfl ?_, List.forall_mem_cons.2 ⟨fun _ => fact2 rfl rfl ?_, List.forall_mem_cons.2 ⟨fun _ => fact2 rfl rfl ?_, fun _ h => absurd h List.not_mem_nil⟩⟩⟩⟩⟩⟩⟩) <;> constructor <;> first | rfl | (simp [F]; done)), ?_⟩
        refine rp2 17 (k := ?_); refine dop 18 rfl ?_; (repeat (first | simp [F] | simp (disch := omega) only [wC, if_pos, if_neg])); refine ⟨ln, ?_⟩; refine dd ?_; refine hJ10 _ _ ?_; refine hK7 _ _ ?_; refine sr fun _ hJ12 => ?_; refine hJ12 _ _ ?_; refine run_ret ?_; (try simp only [Then, InBlock, NoGoto]); refine acell (h := ?_); refine ⟨g1, ?_⟩
        rw [hp1, hS, ← hq, hv]
        exact gcr
     (try exact nope c22); all_goals have c22p := c22; try simp [F] at c22p
     all_goals
      replace F := aF c22 F; try replace F := aF c22p F
      have his : is = false := by simpa using c22
      have hS : setL l key (if is then some val else none) = l.take i ++ l.drop (i + 1) := by rw [hset, hv, his]; rfl
      have hlen : (l.take i ++ l.drop (i + 1)).length = l.length - 1 := by simp; omega
      replace F := aF hlen F; refine sr fun _ hJ14 => ?_; refine hJ14 _ _ ?_; refine ct ?_; refine sr fun _ hJ16 => ?_; refine hJ16 _ _ ?_; refine rg' (h := fun J17 hJ17 => ?_); refine ca (c := delP_ok (i := i) (l := l) (g := g1) (k := k) st hil hl) (k := ?_); rintro _ _ ⟨g', rfl, rfl⟩; (repeat (first | simp [F] | simp (disch := omega) only [wC, if_pos, if_neg])); refine hJ17 _ _ ?_; refine hK7 _ _ ?_; refine sr fun _ hJ19 => ?_; refine hJ19 _ _ ?_; refine run_ret ?_; (try simp only [Then, InBlock, NoGoto]); refine acell (h := ?_); refine ⟨g', ?_⟩
      rw [hp1, hS, ← hq, hv]
      exact gcr
  (try exact nope g3_1); all_goals have g3_1p := g3_1; try simp [F] at g3_1p
  all_goals
   replace F := aF g3_1 F; try replace F := aF g3_1p F
   have hv : q = none := by cases q with | none => rfl | some v => simp [hhas] at g3_1
   refine no2 (k := ?_); refine hJ9 _ _ ?_; refine cf ?_; refine sr fun _ hJ21 => ?_; refine hJ21 _ _ ?_; refine cf ?_; refine sr fun _ hJ23 => ?_; refine hJ23 _ _ ?_; refine cs (fun c67 => ?_) (fun c67 => ?_)
   · (try exact nope c67); all_goals have c67p := c67; try simp [F] at c67p
     all_goals
      replace F := aF c67 F; try replace F := aF c67p F
      have his : is = true := by simpa using c67
      have hS : setL l key (if is then some val else none) = l.take i ++ ⟨key, val⟩ :: l.drop i := by rw [hset, hv, his]; rfl
      have hlen : (l.take i ++ (⟨key, val⟩ : Pr) :: l.drop i).length = l.length + 1 := by simp; omega
      replace F := aF hlen F
      refine run_draw (by kernel_rfl) fun J24 hJ24 => ?_
      refine rp2 0 (k := ?_); refine rp2 1 (k := ?_); refine rp2 2 (k := ?_); refine rp2 3 (k := ?_); refine rp2 4 (k := ?_); refine rp2 5 (k := ?_); refine rp2 6 (k := ?_); refine db 7 rfl rfl (k := ?_)
      refine ⟨by first | exact fun _ _ h => h | (refine later_list [5, 4, 3, 2, 1, 0] (by kernel_rfl) (List.forall_mem_cons.2 ⟨fun _ => fact2 rfl rfl ?_, List.forall_mem_cons.2 ⟨fun _ => fact2 rfl rfl ?_, List.forall_mem_cons.2 ⟨fun _ => fact2 rfl rfl ?_, List.forall_mem_cons.2 ⟨fun _ => fact2 rfl rfl ?_, List.forall_mem_cons.2 ⟨fun _ => fact2 rfl rfl ?_, List.forall_mem_cons.2 ⟨fun _ => fact2 rfl rfl ?_, fun _ h => absurd h List.not_mem_nil⟩⟩⟩⟩⟩⟩) <;> constructor <;> first | rfl | (simp [F]; done)), ?_⟩
      repeat (first | simp [F] | simp (disch := omega) only [wC, if_pos, if_neg])
      refine dc 8 rfl (c := insP_ok (i := i) (l := l) (g := g1) (k := k) (kv := σ.rows.length) (gv := 0) (p := ⟨key, val⟩) (sv := none) st (by simp [F]; rfl) (by omega) hle hl) (k := ?_)
      rintro _ _ ⟨g', rfl, rfl⟩
      refine ⟨by first | exact fun _ _ h => h | (refine later_list [3, 2, 1, 0] (by kernel_rfl) (List.forall_mem_cons.2 ⟨fun _ => fact2 rfl rfl ?_, List.forall_mem_cons.2 ⟨fun _ => fact2 rfl rfl ?_, List.forall_mem_cons.2 ⟨fun _ => fact2 rfl rfl ?_, List.forall_mem_cons.2 ⟨fun _ => fact2 rfl rfl ?_, fun _ h => absurd h List.not_mem_nil⟩⟩⟩⟩) <;> constructor <;> first | rfl | (simp [F]; done)), ?_⟩
      (repeat (first | simp [F] | simp (disch := omega) only [wC, if_pos, if_neg])); refine rp2 9 (k := ?_); refine rp2 10 (k := ?_); refine dop 11 rfl ?_; repeat (first | simp [F] | simp (disch := omega) only [wC, if_pos, if_neg])
      refine ⟨by first | exact fun _ _ h => h | (refine later_list [9] (by kernel_rfl) (List.forall_mem_cons.2 ⟨fun _ => fact2 rfl rfl ?_, fun _ h => absurd h List.not_mem_nil⟩) <;> constructor <;> first | rfl | (simp [F]; done)), ?_⟩
      refine dd ?_; refine hJ24 _ _ ?_; refine hK7 _ _ ?_; refine sr fun _ hJ26 => ?_; refine hJ26 _ _ ?_; refine run_ret ?_; (try simp only [Then, InBlock, NoGoto]); refine acell (h := ?_); refine ⟨g', ?_⟩
      rw [hp1, hS, ← hq, hv]
      exact gcr (hA := WkL.agg (.cons (Wk.refl _) (.cons (Wk.nil _ _ _) (.cons (Wk.refl _) .nil))))
   (try exact nope c67); all_goals have c67p := c67; try simp [F] at c67p
   all_goals
    replace F := aF c67 F; try replace F := aF c67p F
    have his : is = false := by simpa using c67
    have hS : setL l key (if is then some val else none) = l := by rw [hset, hv, his]; rfl
    refine run_skip ?_; refine hK7 _ _ ?_; refine sr fun _ hJ28 => ?_; refine hJ28 _ _ ?_; refine run_ret ?_; (try simp only [Then, InBlock, NoGoto]); refine acell (h := ?_); refine ⟨g1, ?_⟩
    rw [hp1, hS, ← hq, hv]
    exact gcr (hA := WkL.agg (.cons (Wk.refl _) (.cons (Wk.nil _ _ _) (.cons (Wk.refl _) .nil))))

end Go.Proofs.Ytmponlabfccjaaa

/-
  A store: a pair is put, and what was there is noted.
-/
namespace Go.Proofs.Ytmponlabfccjaaa
set_option linter.unnecessarySimpa false
set_option maxRecDepth 100000
open Go Go.Vm
set_option linter.unusedSimpArgs false
set_option linter.unusedVariables false
attribute [local simp] evalL wantedA isCall opA evalA evalAll evalsA evalOpt ofValue ofCell plain binA_eql_pn binA_neq_pn binA_gtr binA_lss binA_geq binA_leq binA_add binA_sub binA_eql binA_neq binA_orI binA_shl binA_shr binA_mul binA_quo binA_rem binA_agg_eql binA_agg_neq convA_int unA_not fieldAddrA loadA partA pickA_true pickA_false pickA_bb lenA builtinA storeA splice AV.cells AV.isCell sliceA boundA intA callOf indexAddrA newObjA buildA fillA zeroA ofCells buildSliceA indexA fieldA set_appN get_appN take_appN List.getElem?_cons_zero List.getElem?_cons_succ get_sa0 get_sa1 get_sa2 get_sa3 set_sa0 set_sa1 set_sa2 set_sa3 appendA rowAppA readA roomA maxLen zeroCell Value.oneCell' Value.cells

theorem put_app {σ : St} {o k : Nat} {G : Sg} {key val : List UInt8} {is : Bool} (h : HasS σ o k G) (hs : Srt G.s.l) (hl : G.s.l.length ≤ 1000000) (L : List (List AV)) :
    CallsA Try.prog 123 [.ptr o 0, .agg [byC key, byC val], .v (.bool is)] { σ with objs := σ.objs ++ L } (fun av σ' => ∃ g, av = .agg (udC ⟨key, getL G.s.l key⟩) ∧ σ' = { σ with objs := σ.objs.set o [.row k g 0 2 (setL G.s.l key (if is then some val else none)).length, .row (k + 1) G.g2 0 3 G.s.log.length, .row (k + 2) G.g3 0 1 G.s.marks.length] ++ L, rows := σ.rows.set k ⟨g, prsC (setL G.s.l key (if is then some val else none)), none⟩ }) :=
  callsA_mono (put_ok (h.app L σ.toks) hs hl) (fun av σ' ⟨g, e1, e2⟩ => ⟨g, e1, by rw [e2, putS_1 (h.app L σ.toks)]; simp only; rw [List.set_append_left _ _ (lt_of_get h.o)]⟩)

set_option maxHeartbeats 1600000 in
attribute [local simp] undefA List.getElem?_cons_zero List.getElem?_cons_succ byC drop_mr in
theorem do_ok {σ : St} {o k n : Nat} {G : Sg} {key val : List UInt8} {is : Bool} (h : HasS σ o k G) (hG : G.s.Ok n) (hn : n ≤ 1000000) :
    CallsA Try.prog 101 [.ptr o 0, .agg [byC key, byC val], .v (.bool is)] σ (fun av σ' => ∃ G', G'.s = doS G.s key (if is then some val else none) ∧ av = .tup [] ∧ σ' = putS σ o k G') := by
  refine callsA_mono (callsA_gcSt (X := Nat × Nat) (A := fun _ => .tup []) (T := fun x => ⟨doS G.s key (if is then some val else none), x.1, x.2, G.g3⟩) h (fun _ => rfl) ?_) (fun av σ' ⟨x, e1, e2⟩ => ⟨_, rfl, e1, e2⟩)
  have hpa := put_app (key := key) (val := val) (is := is) h hG.srt (Nat.le_trans hG.l hn)
  have hp2 := fun l lg g g' => putS_2 h l lg g g'
  have hlo := lt_of_get h.o
  have hlr := lt_of_get h.r1
  have hlr2 := lt_of_get h.r2
  have hll := hG.log
  obtain ⟨ho, hr1, hr2, hr3⟩ := h
  obtain ⟨⟨l, log, marks⟩, g1, g2, g3⟩ := G
  simp only [stC, stR1, stR2, stR3, doS] at ho hr1 hr2 hr3 hp2 hpa hll ⊢
  have ha : ∀ x L, (σ.objs.set o x ++ L)[o]? = some x := fun x L => by rw [List.getElem?_append_left (by simpa using hlo)]; exact set_self_of ho x
  have hb : ∀ x y L, (σ.objs.set o x ++ L).set o y = σ.objs.set o y ++ L := fun x y L => by rw [List.set_append_left _ _ (by simpa using hlo), List.set_set]
  have hc : ∀ x, (σ.rows.set k x)[k + 1]? = some ⟨g2, udsC log, none⟩ := fun x => by rw [List.getElem?_set_ne (by omega)]; exact hr2
  have hsr : ∀ x, (σ.rows.set k x).set (k + 1) ⟨g2, udsC log, none⟩ = σ.rows.set k x := fun x => set_same' (hc x)
  have hul := udsC_len log
  have hut : List.take (log.length * 3) (udsC log) = udsC log := List.take_of_length_le (by omega)
  have hrm : (log.length + 1) * 56 ≤ 140737488355328 := by omega
  have hmx : log.length + 1 ≤ 9223372036854775807 := by omega
  have hua : udsC (log ++ [⟨key, getL l key⟩]) = udsC log ++ udC ⟨key, getL l key⟩ := by rw [udsC_app]; simp [udsC]
  obtain ⟨q, hq⟩ : ∃ q, q = getL l key := ⟨_, rfl⟩
  obtain ⟨l', hl'⟩ : ∃ l', l' = setL l key (if is then some val else none) := ⟨_, rfl⟩
  simp only [← hq, ← hl'] at hpa hua ⊢
  simp only [udC] at hpa hua
  have F := And.intro ha (And.intro hb (And.intro hc (And.intro hul (And.intro hut (And.intro hrm (And.intro hmx (And.intro hsr (True.intro))))))))
  refine callsA_body Try.func101 rfl rfl rfl ?_; refine sr fun _ hJ2 => ?_; refine hJ2 _ _ ?_; refine sq fun K3 hK3 => ?_; refine sr fun _ hJ5 => ?_; refine hJ5 _ _ ?_; refine cf ?_; refine run_skip ?_; refine hK3 _ _ ?_; refine sr fun _ hJ7 => ?_; refine ca (c := hpa _) (k := ?_); rintro _ _ ⟨g, rfl, rfl⟩; (repeat (first | simp [F] | simp (disch := omega) only [wC, if_pos, if_neg])); refine hJ7 _ _ ?_; refine sr fun _ hJ9 => ?_; refine hJ9 _ _ ?_; refine cs (fun c18 => ?_) (fun c18 => ?_)
  · (try exact nope c18); all_goals have c18p := c18; try simp [F] at c18p
    all_goals
     replace F := aF c18 F; try replace F := aF c18p F
     have hm : marks ≠ [] := by have h := c18; simp at h; exact List.length_pos_iff.1 h
     refine run_draw (by kernel_rfl) fun J10 hJ10 => ?_
     refine rp2 0 (k := ?_); refine rp2 1 (k := ?_); refine rp2 2 (k := ?_); refine rp2 3 (k := ?_); refine rp2 4 (k := ?_); refine rp2 5 (k := ?_); refine rp2 6 (k := ?_); refine dop 7 rfl ?_; repeat (first | simp [F] | simp (disch := omega) only [wC, if_pos, if_neg])
     refine ⟨by first | exact fun _ _ h => h | (refine later_list [5, 3, 2, 1, 0] (by kernel_rfl) (List.forall_mem_cons.2 ⟨fun _ => fact2 rfl rfl ?_, List.forall_mem_cons.2 ⟨fun _ => fact2 rfl rfl ?_, List.forall_mem_cons.2 ⟨fun _ => fact2 rfl rfl ?_, List.forall_mem_cons.2 ⟨fun _ => fact2 rfl rfl ?_, List.forall_mem_cons.2 ⟨fun _ => fact2 rfl rfl ?_, fun _ h => absurd h List.not_mem_nil⟩⟩⟩⟩⟩) <;> constructor <;> first | rfl | (simp [F]; done)), ?_⟩
     refine rp2 8 (k := ?_); refine rp2 9 (k := ?_); refine dop 10 rfl ?_; repeat (first | simp [F] | simp (disch := omega) only [wC, if_pos, if_neg])
     refine ⟨by first | exact fun _ _ h => h | (refine later_list [8] (by kernel_rfl) (List.forall_mem_cons.2 ⟨fun _ => fact2 rfl rfl ?_, fun _ h => absurd h List.not_mem_nil⟩) <;> constructor <;> first | rfl | (simp [F]; done)), ?_⟩
     refine dd ?_; refine hJ10 _ _ ?_; (try simp only [Then, InBlock, NoGoto, if_true]); refine answer_none rfl (.inl rfl) ?_; refine ⟨(g, g2 + 1), ?_⟩; simp only [if_neg hm]
     rw [hp2, hua]
     exact gcr
  (try exact nope c18); all_goals have c18p := c18; try simp [F] at c18p
  all_goals
   replace F := aF c18 F; try replace F := aF c18p F
   have hm : marks = [] := by have h := c18; simp at h; exact h
   refine run_skip ?_; (try simp only [Then, InBlock, NoGoto, if_true]); refine answer_none rfl (.inl rfl) ?_; refine ⟨(g, g2), ?_⟩; simp only [if_pos hm]
   rw [hp2, hsr]
   exact gcr

end Go.Proofs.Ytmponlabfccjaaa

/-
  A store: what its methods do.
-/
namespace Go.Proofs.Ytmponlabfccjaaa
set_option linter.unnecessarySimpa false
set_option maxRecDepth 100000
open Go Go.Vm
set_option linter.unusedSimpArgs false
set_option linter.unusedVariables false
attribute [local simp] evalL wantedA isCall opA evalA evalAll evalsA evalOpt ofValue ofCell plain binA_eql_pn binA_neq_pn binA_gtr binA_lss binA_geq binA_leq binA_add binA_sub binA_eql binA_neq binA_orI binA_shl binA_shr binA_mul binA_quo binA_rem binA_agg_eql binA_agg_neq convA_int unA_not fieldAddrA loadA partA pickA_true pickA_false pickA_bb lenA builtinA storeA splice AV.cells AV.isCell sliceA boundA intA callOf indexAddrA newObjA buildA fillA zeroA ofCells buildSliceA indexA fieldA set_appN get_appN take_appN List.getElem?_cons_zero List.getElem?_cons_succ get_sa0 get_sa1 get_sa2 get_sa3 set_sa0 set_sa1 set_sa2 set_sa3 appendA rowAppA readA roomA maxLen zeroCell Value.oneCell' Value.cells sliceRowA binA_eqn binA_neqn drop_mr

set_option maxHeartbeats 1600000 in
attribute [local simp] undefA List.getElem?_cons_zero List.getElem?_cons_succ in
theorem set_ok {σ : St} {o k n : Nat} {G : Sg} {key val : List UInt8} {t1 t2 : Tail} (h : HasS σ o k G) (hG : G.s.Ok n) (hn : n ≤ 1000000) (hk : key.length ≤ 1000000) (hv : val.length ≤ 1000000) :
    CallsA Try.prog 67 [.ptr o 0, .sl 1 (bytesA key) key.length t1, .sl 1 (bytesA val) val.length t2] σ (fun av σ' => ∃ G', G'.s = doS G.s key (some val) ∧ av = .tup [] ∧ σ' = putS σ o k G') := by
  have F := True.intro
  refine callsA_body Try.func67 rfl rfl rfl ?_; refine rg' (h := fun J1 hJ1 => ?_); refine ca (c := clone_ok hk) (k := ?_); rintro _ _ ⟨rfl, rfl⟩; (repeat (first | simp [F] | simp (disch := omega) only [wC, if_pos, if_neg])); refine ca (c := clone_ok hv) (k := ?_); rintro _ _ ⟨rfl, rfl⟩; (repeat (first | simp [F] | simp (disch := omega) only [wC, if_pos, if_neg])); refine ca (c := do_ok (key := key) (val := val) (is := true) h hG hn) (k := ?_); rintro _ _ ⟨G', e1, rfl, rfl⟩; (repeat (first | simp [F] | simp (disch := omega) only [wC, if_pos, if_neg])); refine hJ1 _ _ ?_; (try simp only [Then, InBlock, NoGoto, if_true]); refine answer_none rfl (.inl rfl) ?_; exact ⟨G', e1, rfl, rfl⟩

set_option maxHeartbeats 1600000 in
attribute [local simp] undefA List.getElem?_cons_zero List.getElem?_cons_succ in
theorem del_ok {σ : St} {o k n : Nat} {G : Sg} {key : List UInt8} {t1 : Tail} (h : HasS σ o k G) (hG : G.s.Ok n) (hn : n ≤ 1000000) (hk : key.length ≤ 1000000) :
    CallsA Try.prog 66 [.ptr o 0, .sl 1 (bytesA key) key.length t1] σ (fun av σ' => ∃ G', G'.s = doS G.s key none ∧ av = .tup [] ∧ σ' = putS σ o k G') := by
  have hdo : CallsA Try.prog 101 [.ptr o 0, .agg [.sl 1 (bytesA key) key.length .shut, .sl 0 [] 0 .full], .v (.bool false)] σ (fun av σ' => ∃ G', G'.s = doS G.s key none ∧ av = .tup [] ∧ σ' = putS σ o k G') :=
    callsA_wk (.cons (Wk.refl _) (.cons (WkL.agg (.cons (Wk.refl _) (.cons (Wk.nil _ _ _) .nil))) (.cons (Wk.refl _) .nil))) (do_ok (key := key) (val := []) (is := false) h hG hn)
  have F := True.intro
  refine callsA_body Try.func66 rfl rfl rfl ?_; refine rg' (h := fun J1 hJ1 => ?_); refine ca (c := clone_ok hk) (k := ?_); rintro _ _ ⟨rfl, rfl⟩; (repeat (first | simp [F] | simp (disch := omega) only [wC, if_pos, if_neg])); refine ca (c := hdo) (k := ?_); rintro _ _ ⟨G', e1, rfl, rfl⟩; (repeat (first | simp [F] | simp (disch := omega) only [wC, if_pos, if_neg])); refine hJ1 _ _ ?_; (try simp only [Then, InBlock, NoGoto, if_true]); refine answer_none rfl (.inl rfl) ?_; exact ⟨G', e1, rfl, rfl⟩

set_option maxHeartbeats 1600000 in
attribute [local simp] undefA List.getElem?_cons_zero List.getElem?_cons_succ byC in
theorem get_ok {σ : St} {o k n : Nat} {G : Sg} {key : List UInt8} {t1 : Tail} (h : HasS σ o k G) (hG : G.s.Ok n) (hn : n ≤ 1000000) :
    CallsA Try.prog 71 [.ptr o 0, .sl 1 (bytesA key) key.length t1] σ (fun av σ' => av = .tup [byC ((getL G.s.l key).getD []), .v (.bool (getL G.s.l key).isSome)] ∧ σ = σ') := by
  refine callsA_gcS ?_ (by simp [AV.under, underL, byC_under])
  have hfi := find_ok (key := key) (t := t1) h hG.srt (by have := hG.l; omega)
  have hgat : ∀ v, getL G.s.l key = some v → _ := fun v h => getL_some_at (key := key) (v := v) hG.srt h
  have hhas : hasL G.s.l key = (getL G.s.l key).isSome := rfl
  have hkv := hG.kv
  obtain ⟨ho, hr1, hr2, hr3⟩ := h
  obtain ⟨⟨l, log, marks⟩, g1, g2, g3⟩ := G
  simp only [stC, stR1, stR2, stR3] at ho hr1 hr2 hr3 hfi hgat hhas hkv ⊢
  obtain ⟨i, hi⟩ : ∃ i, i = findL l key := ⟨_, rfl⟩
  obtain ⟨q, hq⟩ : ∃ q, q = getL l key := ⟨_, rfl⟩
  simp only [← hi, ← hq] at hgat hhas hfi ⊢
  rw [hhas] at hfi
  cases q with
  | none =>
    have F := And.intro ho (And.intro hr1 (True.intro))
    refine callsA_body Try.func71 rfl rfl rfl ?_; refine sq fun K1 hK1 => ?_; refine rg' (h := fun J2 hJ2 => ?_); refine hJ2 _ _ ?_; refine hK1 _ _ ?_; refine sq fun K3 hK3 => ?_; refine sq fun K4 hK4 => ?_; refine rg' (h := fun J5 hJ5 => ?_); refine hJ5 _ _ ?_; refine hK4 _ _ ?_; refine cf ?_; refine run_skip ?_; refine hK3 _ _ ?_; refine sq fun K6 hK6 => ?_; refine rg' (h := fun J7 hJ7 => ?_); refine ca (c := hfi) (k := ?_); rintro _ _ ⟨rfl, rfl⟩; (repeat (first | simp [F] | simp (disch := omega) only [wC, if_pos, if_neg])); refine hJ7 _ _ ?_; refine hK6 _ _ ?_; refine sq fun K8 hK8 => ?_; refine sq fun K9 hK9 => ?_; refine rg' (h := fun J10 hJ10 => ?_); refine hJ10 _ _ ?_; refine hK9 _ _ ?_; refine ct ?_; refine sq fun K11 hK11 => ?_; refine rg' (h := fun J12 hJ12 => ?_); refine hJ12 _ _ ?_; refine hK11 _ _ ?_; refine run_ret ?_; (try simp only [Then, InBlock, NoGoto]); refine answer_tmp2 rfl (.inr rfl) ?_; exact gcr (hA := WkL.tup (.cons (Wk.nil _ _ _) (.cons (Wk.refl _) .nil)))
  | some v =>
    obtain ⟨hil, hik, hiv⟩ := hgat v rfl
    have hat := (prsC_at hil).2
    have hvl := (hkv _ (List.getElem_mem hil)).2
    rw [hiv] at hat hvl
    simp only [byC] at hat
    have F := And.intro ho (And.intro hr1 (And.intro hil (And.intro hat (True.intro))))
    refine callsA_body Try.func71 rfl rfl rfl ?_; refine sq fun K1 hK1 => ?_; refine rg' (h := fun J2 hJ2 => ?_); refine hJ2 _ _ ?_; refine hK1 _ _ ?_; refine sq fun K3 hK3 => ?_; refine sq fun K4 hK4 => ?_; refine rg' (h := fun J5 hJ5 => ?_); refine hJ5 _ _ ?_; refine hK4 _ _ ?_; refine cf ?_; refine run_skip ?_; refine hK3 _ _ ?_; refine sq fun K6 hK6 => ?_; refine rg' (h := fun J7 hJ7 => ?_); refine ca (c := hfi) (k := ?_); rintro _ _ ⟨rfl, rfl⟩; (repeat (first | simp [F] | simp (disch := omega) only [wC, if_pos, if_neg])); refine hJ7 _ _ ?_; refine hK6 _ _ ?_; refine sq fun K8 hK8 => ?_; refine sq fun K9 hK9 => ?_; refine rg' (h := fun J10 hJ10 => ?_); refine hJ10 _ _ ?_; refine hK9 _ _ ?_; refine cf ?_; refine run_skip ?_; refine hK8 _ _ ?_; refine sq fun K11 hK11 => ?_; refine rg' (h := fun J12 hJ12 => ?_); refine ca (c := clone_ok hvl) (k := ?_); rintro _ _ ⟨rfl, rfl⟩; (repeat (first | simp [F] | simp (disch := omega) only [wC, if_pos, if_neg])); refine hJ12 _ _ ?_; refine hK11 _ _ ?_; refine run_ret ?_; (try simp only [Then, InBlock, NoGoto]); refine answer_tmp2 rfl (.inr rfl) ?_; exact gcr

set_option maxHeartbeats 1600000 in
attribute [local simp] undefA List.getElem?_cons_zero List.getElem?_cons_succ in
theorem getN_ok {σ : St} {a : AV} : CallsA Try.prog 71 [.v (.pointer none), a] σ (fun av σ' => av = .tup [byC [], .v (.bool false)] ∧ σ = σ') := by
  refine callsA_gcS ?_ (by simp [AV.under, underL, byC_under])
  have F := True.intro
  refine callsA_body Try.func71 rfl rfl rfl ?_; refine sr fun _ hJ2 => ?_; refine hJ2 _ _ ?_; refine sq fun K3 hK3 => ?_; refine sr fun _ hJ5 => ?_; refine hJ5 _ _ ?_; refine ct ?_; refine sr fun _ hJ7 => ?_; refine hJ7 _ _ ?_; refine run_ret ?_; (try simp only [Then, InBlock, NoGoto]); refine answer_tmp2 rfl (.inr rfl) ?_; exact gcr (hA := WkL.tup (.cons (Wk.nil _ _ _) (.cons (Wk.refl _) .nil)))

set_option maxHeartbeats 1600000 in
attribute [local simp] undefA List.getElem?_cons_zero List.getElem?_cons_succ in
theorem new_st_ok {σ : St} : CallsA Try.prog 16 [] σ (fun av σ' => av = .ptr σ.objs.length 0 ∧ σ' = { σ with objs := σ.objs ++ [stC σ.rows.length newSg], rows := σ.rows ++ [stR1 newSg, stR2 newSg, stR3 newSg] }) := by
  refine callsA_new_st ?_
  have F := True.intro
  refine callsA_body Try.func16 rfl rfl rfl ?_; refine sr fun _ hJ2 => ?_; refine hJ2 _ _ ?_; refine sr fun _ hJ4 => ?_; refine hJ4 _ _ ?_; refine ra ?_; exact rt

structure RbS where
  l : List Pr
  n : Nat
  g : Nat
end Go.Proofs.Ytmponlabfccjaaa

/-
  A store: its keys that begin so; another one; are two alike?
-/
namespace Go.Proofs.Ytmponlabfccjaaa
set_option linter.unnecessarySimpa false
set_option maxRecDepth 100000
open Go Go.Vm
set_option linter.unusedSimpArgs false
set_option linter.unusedVariables false
attribute [local simp] evalL wantedA isCall opA evalA evalAll evalsA evalOpt ofValue ofCell plain binA_eql_pn binA_neq_pn binA_gtr binA_lss binA_geq binA_leq binA_add binA_sub binA_eql binA_neq binA_orI binA_shl binA_shr binA_mul binA_quo binA_rem binA_agg_eql binA_agg_neq convA_int unA_not fieldAddrA loadA partA pickA_true pickA_false pickA_bb lenA builtinA storeA splice AV.cells AV.isCell sliceA boundA intA callOf indexAddrA newObjA buildA fillA zeroA ofCells buildSliceA indexA fieldA set_appN get_appN take_appN List.getElem?_cons_zero List.getElem?_cons_succ get_sa0 get_sa1 get_sa2 get_sa3 set_sa0 set_sa1 set_sa2 set_sa3 sliceRowA binA_eqn binA_neqn drop_mr

def keysL (l : List Pr) (p : List UInt8) : List (List UInt8) := ((l.drop (findL l p)).takeWhile fun x => preB x.k p).map (·.k)

theorem takeWhile_stop {α : Type} {f : α → Bool} : ∀ {l : List α} {j : Nat}, (∀ x ∈ l.take j, f x = true) → (∀ x, l[j]? = some x → f x = false) → l.takeWhile f = l.take j
  | [], _, _, _ => by simp
  | a :: l, 0, _, h => by simp [h a rfl]
  | a :: l, j + 1, h1, h2 => by
    have ha := h1 a (by simp)
    rw [List.takeWhile_cons, if_pos ha, List.take_succ_cons, takeWhile_stop (j := j) (fun x hx => h1 x (by simp [hx])) (fun x hx => h2 x (by simpa using hx))]

set_option maxHeartbeats 1600000 in
attribute [local simp] undefA List.getElem?_cons_zero List.getElem?_cons_succ byC drop_mr prsC_noObj udsC_noObj mkC_noObj kysC_noObj bytes_noObj lsA_nil lsT_nil lsZ_nil lsL_nil gcO_ls noObj_ls in
theorem keys_ok {σ : St} {o k n : Nat} {G : Sg} {p : List UInt8} {t : Tail} (h : HasS σ o k G) (hG : G.s.Ok n) (hn : n ≤ 1000000) :
    CallsA Try.prog 56 [.ptr o 0, .sl 1 (bytesA p) p.length t] σ (fun av σ' => av = .sl 1 (kysC (keysL G.s.l p)) (keysL G.s.l p).length .shut ∧ σ = σ') := by
  refine callsA_gcS ?_ (by simp [AV.under, kysC_under])
  have hfi := find_ok (key := p) (t := t) h hG.srt (by have := hG.l; omega)
  have hkv := hG.kv
  have hll := hG.l
  obtain ⟨ho, hr1, hr2, hr3⟩ := h
  obtain ⟨⟨l, log, marks⟩, g1, g2, g3⟩ := G
  simp only [stC, stR1, stR2, stR3] at ho hr1 hr2 hr3 hfi hkv hll ⊢
  have hle := findL_le l p
  have hkl : keysL l p = ((l.drop (findL l p)).takeWhile fun x => preB x.k p).map (·.k) := rfl
  obtain ⟨i, hi⟩ : ∃ i, i = findL l p := ⟨_, rfl⟩
  simp only [← hi] at hfi hle hkl
  rw [hkl]
  obtain ⟨D, hD⟩ : ∃ D, D = l.drop i := ⟨_, rfl⟩
  have hDl : D.length = l.length - i := by rw [hD]; simp
  rw [← hD]
  have hi2 : i ≤ l.length := hle
  have hlc := prsC_len l
  obtain ⟨K, hK⟩ : ∃ K, K = D.map (·.k) := ⟨_, rfl⟩
  have hKj : ∀ j, (D.take j).map (·.k) = K.take j := fun j => by rw [hK]; simp
  have hKl : K.length = l.length - i := by rw [hK]; simp [hDl]
  have F := And.intro ho (And.intro hr1 (And.intro hi2 (And.intro hlc (True.intro))))
  refine callsA_body Try.func56 rfl rfl rfl ?_; refine sr fun _ hJ2 => ?_; refine hJ2 _ _ ?_; refine sq fun K3 hK3 => ?_; refine sr fun _ hJ5 => ?_; refine hJ5 _ _ ?_; refine cf ?_; refine run_skip ?_; refine hK3 _ _ ?_; refine sr fun _ hJ7 => ?_; refine hJ7 _ _ ?_; refine sr fun _ hJ9 => ?_; refine ca (c := hfi) (k := ?_); rintro _ _ ⟨rfl, rfl⟩; (repeat (first | simp [F] | simp (disch := omega) only [wC, if_pos, if_neg])); refine hJ9 _ _ ?_; refine sq fun K10 hK10 => ?_; refine sr fun _ hJ12 => ?_; refine hJ12 _ _ ?_; refine run_block_k ?_; refine run_loopG (X := Nat) [1, 4, 23, 24] (fun j ρ σ1 => (j ≤ l.length - i) ∧ (∀ x ∈ D.take j, preB x.k p = true) ∧ (ρ 5 = lsA σ.toks.length 1 (kysC (K.take j)) j) ∧ (ρ 25 = .v (.int .i64 j)) ∧ (σ1 = { σ with toks := σ.toks ++ lsT j })) (fun j => l.length - i - j) (0) ?st1 ?rd1
  case st1 =>
   refine ⟨lp, ?_, lp, lp, ?_⟩
   · intro x hx
     simp at hx
   · simp [lsT_nil]
  case rd1 =>
   rintro j ρ1 σ1 hF1 ⟨h1, h2, h5, h25, hσ⟩; obtain rfl := hσ.symm
   have f1 := keepL hF1
   (try simp [KeepL, F] at f1); replace F := aF h5 F; replace F := aF h25 F; (try replace F := aF f1 F); refine sr fun _ hJ14 => ?_; refine hJ14 _ _ ?_; refine sq fun K15 hK15 => ?_; refine cs (fun c26 => ?_) (fun c26 => ?_)
   · (try exact nope c26); all_goals have c26p := c26; try simp [F] at c26p
     all_goals
      replace F := aF c26 F; (try replace F := aF c26p F); refine run_skip ?_; refine hK15 _ _ ?_; refine sq fun K16 hK16 => ?_; refine run_block_k ?_; refine sq fun K17 hK17 => ?_
      have hlt : j < l.length - i := by have h := c26; simp at h; omega
      have hjD : j < D.length := by omega
      obtain ⟨x, hx⟩ : ∃ x, x = D[j] := ⟨_, rfl⟩
      have hxl : x = l[i + j] := by rw [hx]; simp only [hD]; rw [List.getElem_drop]
      have hxm := (hkv x (by rw [hxl]; exact List.getElem_mem _)).1
      have hat : List.take 2 (List.drop (i * 2 + j * 2) (prsC l)) = [byC x.k, byC x.v] := by rw [show i * 2 + j * 2 = (i + j) * 2 by omega, prsC_drop, List.drop_eq_getElem_cons (by omega), ← hxl]; rfl
      simp only [byC] at hat
      have hb2 : i * 2 + j * 2 + 2 ≤ l.length * 2 := by omega
      have htk : D.take (j + 1) = D.take j ++ [x] := by rw [hx]; exact (List.take_append_getElem hjD).symm
      have htkK : K.take (j + 1) = K.take j ++ [x.k] := by rw [← hKj, ← hKj, htk]; simp
      have hap : ∀ objs, appendA Try.prog 107 (lsA σ.toks.length 1 (kysC (K.take j)) j) (.sl 1 [.sl 1 (bytesA x.k) x.k.length .shut] 1 .full) ⟨objs, σ.toks ++ lsT j, σ.gl, σ.rows⟩ = some (lsA σ.toks.length 1 (kysC (K.take (j + 1))) (j + 1), ⟨objs, σ.toks ++ lsT (j + 1), σ.gl, σ.rows⟩) := fun objs => by
        rw [htkK, kysC_app]
        exact append_ls elemT_107 ti_109 (by decide) rfl (fun h => by simp [h, kysC]) rfl (by omega) (by simp only [roomA]; omega) (by simp only [maxLen]; omega)
      replace F := aF hlt (And.intro hat (And.intro hb2 (And.intro hap F))); refine rg' (h := fun J18 hJ18 => ?_); refine hJ18 _ _ ?_; refine hK17 _ _ ?_; refine sq fun K19 hK19 => ?_; refine sr fun _ hJ21 => ?_; refine ca (c := prefix_ok) (k := ?_); rintro _ _ ⟨rfl, rfl⟩; (repeat (first | simp [F] | simp (disch := omega) only [wC, if_pos, if_neg])); refine hJ21 _ _ ?_; refine cs (fun c33 => ?_) (fun c33 => ?_)
      · (try exact nope c33); all_goals have c33p := c33; try simp [F] at c33p
        all_goals
         replace F := aF c33 F; try replace F := aF c33p F
         have hpx : preB x.k p = false := by have h := c33; simpa using h
         have hstop := takeWhile_stop (l := D) (j := j) h2 (fun y hy => by rw [List.getElem?_eq_getElem hjD, ← hx] at hy; cases hy; exact hpx)
         have hlen : (K.take j).length = j := by rw [List.length_take]; omega
         have hwk := lsA_wk (k := σ.toks.length) (sz := 1) (n := j) (cs := kysC (K.take j)) (fun h => by simp [h, kysC])
         refine run_exit ?_; refine hK10 _ _ ?_; refine sr fun _ hJ23 => ?_; refine hJ23 _ _ ?_; refine ra ?_
         rw [hstop, hKj, hlen]
         exact gcr (hA := by simp only [putA_get]; simp [F]; exact hwk)
      (try exact nope c33); all_goals have c33p := c33; try simp [F] at c33p
      all_goals
       replace F := aF c33 F; (try replace F := aF c33p F); refine run_skip ?_; refine hK19 _ _ ?_; refine rg' (h := fun J24 hJ24 => ?_); refine ca (c := clone_ok hxm) (k := ?_); rintro _ _ ⟨rfl, rfl⟩; (repeat (first | simp [F] | simp (disch := omega) only [wC, if_pos, if_neg])); refine hJ24 _ _ ?_; refine hK16 _ _ ?_; refine rg' (h := fun J25 hJ25 => ?_); refine hJ25 _ _ ?_; refine ⟨gk, (j + 1), ⟨kpG, lpG, ?_, lpG, lpG, lpG⟩, lpG⟩
       · rw [htk]
         intro y hy
         rcases List.mem_append.1 hy with h | h
         · exact h2 y h
         · simp at h; rw [h]; have h := c33; simpa using h
   (try exact nope c26); all_goals have c26p := c26; try simp [F] at c26p
   all_goals
    replace F := aF c26 F; try replace F := aF c26p F
    have hjl : D.take j = D := List.take_of_length_le (by have h := c26; simp at h; omega)
    have hstop := takeWhile_stop (l := D) (j := j) h2 (fun y hy => by rw [List.getElem?_eq_none (by have h := c26; simp at h; omega)] at hy; cases hy)
    have hlen : (K.take j).length = j := by rw [List.length_take]; omega
    have hwk := lsA_wk (k := σ.toks.length) (sz := 1) (n := j) (cs := kysC (K.take j)) (fun h => by simp [h, kysC])
    refine run_exit ?_; refine hK10 _ _ ?_; refine sr fun _ hJ27 => ?_; refine hJ27 _ _ ?_; refine ra ?_
    rw [hstop, hKj, hlen]
    exact gcr (hA := by simp only [putA_get]; simp [F]; exact hwk)

set_option maxHeartbeats 1600000 in
attribute [local simp] undefA List.getElem?_cons_zero List.getElem?_cons_succ in
theorem keysN_ok {σ : St} {a : AV} : CallsA Try.prog 56 [.v (.pointer none), a] σ (fun av σ' => av = .sl 1 [] 0 .shut ∧ σ = σ') := by
  refine callsA_gcS ?_ rfl
  have F := True.intro
  refine callsA_body Try.func56 rfl rfl rfl ?_; refine sr fun _ hJ2 => ?_; refine hJ2 _ _ ?_; refine sq fun K3 hK3 => ?_; refine sr fun _ hJ5 => ?_; refine hJ5 _ _ ?_; refine ct ?_; refine sr fun _ hJ7 => ?_; refine hJ7 _ _ ?_; refine ra ?_; exact gcr

theorem srt_sub : ∀ {m l : List Pr}, Srt l → Srt m → (∀ p ∈ l, p ∈ m) → l.Sublist m
  | m, [], _, _, _ => List.nil_sublist m
  | [], p :: l, _, _, h => by have := h p (by simp); cases this
  | q :: m, p :: l, hl, hm, h => by
    have l1 := List.pairwise_cons.1 hl
    have m1 := List.pairwise_cons.1 hm
    by_cases hpq : p = q
    · subst hpq
      refine List.Sublist.cons_cons _ (srt_sub l1.2 m1.2 (fun x hx => ?_))
      rcases List.mem_cons.1 (h x (List.mem_cons_of_mem _ hx)) with e | e
      · have := l1.1 x hx; rw [e, ltB_irr] at this; cases this
      · exact e
    · have hpm : p ∈ m := by
        rcases List.mem_cons.1 (h p (List.mem_cons_self ..)) with e | e
        · exact (hpq e).elim
        · exact e
      refine List.Sublist.cons _ (srt_sub hl m1.2 (fun x hx => ?_))
      rcases List.mem_cons.1 (h x hx) with e | e
      · rcases List.mem_cons.1 hx with e2 | e2
        · rw [e2]; exact hpm
        · have h1 := l1.1 x e2
          have h2 := m1.1 p hpm
          rw [e] at h1
          have := ltB_trans h1 h2
          rw [ltB_irr] at this; cases this
      · exact e
theorem getL_of_mem : ∀ {l : List Pr} {p : Pr}, Srt l → p ∈ l → getL l p.k = some p.v
  | q :: l, p, hs, h => by
    have l1 := List.pairwise_cons.1 hs
    rcases List.mem_cons.1 h with e | e
    · subst e; simp [getL]
    · have := l1.1 p e
      rw [getL, if_neg (ltB_ne this)]
      exact getL_of_mem l1.2 e
theorem preB_nil (p : List UInt8) : preB p [] = true := by simp [preB]
theorem kysC_at {l : List (List UInt8)} {i : Nat} (h : i < l.length) : (kysC l)[i]? = some (byC l[i]) := by simp [kysC, h]
end Go.Proofs.Ytmponlabfccjaaa

/-
  Behind a fault: nothing is read any more.
-/
namespace Go.Proofs.Ytmponlabfccjaaa
set_option linter.unnecessarySimpa false
set_option maxRecDepth 100000
open Go Go.Vm
set_option linter.unusedSimpArgs false
set_option linter.unusedVariables false
attribute [local simp] evalL wantedA isCall opA evalA evalAll evalsA evalOpt ofValue ofCell plain binA_eql_pn binA_neq_pn binA_gtr binA_lss binA_geq binA_leq binA_add binA_sub binA_eql binA_neq binA_or binA_shl binA_shr binA_mul binA_quo binA_rem convA_int unA_not fieldAddrA loadA partA pickA_true pickA_false pickA_bb lenA builtinA storeA splice AV.cells AV.isCell sliceA boundA intA callOf indexAddrA newObjA buildA fillA zeroA ofCells buildSliceA

theorem right_nil {σ : St} : CallsA Try.prog 65 [.sl 0 [] 0 .full] σ (fun av σ' => av = .v (.bool true) ∧ σ = σ') := by
  refine callsA_body Try.func65 rfl rfl rfl ?_; refine run_seq_k fun K1 hK1 => ?_; refine run_region_k rfl fun J2 hJ2 => ?_; (try simp); refine hJ2 _ _ ?_; refine hK1 _ _ ?_; refine run_seq_k fun K3 hK3 => ?_; refine run_seq_k fun K4 hK4 => ?_; refine run_region_k rfl fun J5 hJ5 => ?_; (try simp); refine hJ5 _ _ ?_; refine hK4 _ _ ?_; refine run_block_k ?_; refine run_loop (X := Unit) (fun _ ρ σ1 => ρ 6 = .v (.int .i64 0) ∧ ρ 7 = .v (.int .i64 0) ∧ σ1 = σ) (fun _ => 0) (()) ?start ?round
  case start =>
    simp
  case round =>
    rintro _ ρ σ1 ⟨h6, h7, rfl⟩; refine run_seq_k fun K6 hK6 => ?_; refine run_region_k rfl fun J7 hJ7 => ?_; (try simp [h6, h7]); refine hJ7 _ _ ?_; refine hK6 _ _ ?_; refine run_seq_k fun K8 hK8 => ?_
    refine run_cond_false (by first | rfl | (simp [h6, h7, evalA]; done)) ?_
    refine run_exit ?_; refine hK3 _ _ ?_; refine run_seq_k fun K9 hK9 => ?_; refine run_region_k rfl fun J10 hJ10 => ?_; (try simp [h6, h7]); refine hJ10 _ _ ?_; refine hK9 _ _ ?_; refine ra ?_; simp [h6, h7]

end Go.Proofs.Ytmponlabfccjaaa

/-
  The codec's writer, whatever it holds.
-/
namespace Go.Proofs.Ytmponlabfccjaaa
set_option linter.unnecessarySimpa false
open Go Go.Vm
set_option linter.unusedSimpArgs false
set_option linter.unusedVariables false
set_option maxRecDepth 100000
attribute [local simp] evalL wantedA isCall opA evalA evalAll evalsA evalOpt ofValue ofCell plain binA_eql_pn binA_neq_pn binA_gtr binA_lss binA_geq binA_leq binA_add binA_sub binA_eql binA_neq binA_or binA_shl binA_shr binA_mul binA_quo binA_rem binA_agg_eql binA_agg_neq convA_int unA_not fieldAddrA loadA partA pickA_true pickA_false pickA_bb lenA builtinA storeA splice AV.cells AV.isCell sliceA boundA intA callOf indexAddrA newObjA buildA fillA zeroA ofCells buildSliceA indexA fieldA coinsC_at
/-! ### What a writer holds -/

def Tk (tk : List Nat) (k : Nat) (l : List UInt8) : Prop := l = [] ∨ tk[k]? = some l.length

structure Wr (tk : List Nat) (k : Nat) (l : List UInt8) (tk' : List Nat) (k' : Nat) (l' : List UInt8) : Prop where
  tok : Tk tk' k' l'
  len : tk.length ≤ tk'.length
  keep : ∀ (j v : Nat), (l = [] ∨ j ≠ k) → tk[j]? = some v → tk'[j]? = some v
  own : l' = [] ∨ (k' = k ∧ l ≠ []) ∨ tk.length ≤ k'

theorem Wr.refl {tk : List Nat} {k : Nat} {l : List UInt8} (h : Tk tk k l) : Wr tk k l tk k l := ⟨h, Nat.le_refl _, fun _ _ _ h => h, by
  by_cases e : l = []
  · exact .inl e
  · exact .inr (.inl ⟨rfl, e⟩)⟩

def encN (x : Nat) : List UInt8 := UInt8.ofNat (natBytes x).length :: natBytes x

def nBytes (size n : Nat) : List UInt8 := (List.range size).map fun j => UInt8.ofNat (n / 2 ^ (8 * (size - 1 - j)) % 256)
structure WSt where
  j : Nat
  k : Nat
  tk : List Nat

def encC (c : Coin) : List UInt8 := c.d :: encN c.n.v
def encCs (l : List Coin) : List UInt8 := l.flatMap encC
def encL (l : List Coin) : List UInt8 := UInt8.ofNat l.length :: encCs l

end Go.Proofs.Ytmponlabfccjaaa

/-
  Lists of coins: may they be? are they alike?
-/
namespace Go.Proofs.Ytmponlabfccjaaa
set_option linter.unnecessarySimpa false
set_option maxRecDepth 100000
open Go Go.Vm
set_option linter.unusedSimpArgs false
set_option linter.unusedVariables false
attribute [local simp] evalL wantedA isCall opA evalA evalAll evalsA evalOpt ofValue ofCell plain binA_eql_pn binA_neq_pn binA_gtr binA_lss binA_geq binA_leq binA_add binA_sub binA_eql binA_neq binA_or binA_shl binA_shr binA_mul binA_quo binA_rem binA_agg_eql binA_agg_neq convA_int unA_not fieldAddrA loadA partA pickA_true pickA_false pickA_bb lenA builtinA storeA splice AV.cells AV.isCell sliceA boundA intA callOf indexAddrA newObjA buildA fillA zeroA ofCells buildSliceA indexA fieldA coinsC_at coinC List.getElem?_cons_zero List.getElem?_cons_succ

set_option maxHeartbeats 1600000 in
attribute [local simp] undefA List.getElem?_cons_zero List.getElem?_cons_succ numA in
theorem zero_ok {σ : St} {x : Num} : CallsA Try.prog 42 [.agg (numA x.v)] σ (fun av σ' => av = .v (.bool (decide (x.v = 0))) ∧ σ = σ') := by
  have hz : decide (x.v = 0) = (((limb x.v 0 : Int) == 0) && ((limb x.v 1 : Int) == 0) && ((limb x.v 2 : Int) == 0) && ((limb x.v 3 : Int) == 0)) := by
    rw [← cellsEq_num0]
    simp [numA, cellsEqA, Bool.and_assoc]
  rw [hz]
  refine callsA_gcS ?_ rfl
  have F := True.intro
  refine callsA_body Try.func42 rfl rfl rfl ?_; refine sr fun _ hJ2 => ?_; refine hJ2 _ _ ?_; refine sr fun _ hJ4 => ?_; refine gs 6 (fun g1_3 => ?_) (fun g1_3 => ?_)
  · (try exact nope g1_3); all_goals have g1_3p := g1_3; try simp [F] at g1_3p
    all_goals
     replace F := aF g1_3 F; (try replace F := aF g1_3p F); (iterate 3 refine go2 (k := ?_)); refine gs 11 (fun g1_8 => ?_) (fun g1_8 => ?_)
     · (try exact nope g1_8); all_goals have g1_8p := g1_8; try simp [F] at g1_8p
       all_goals
        replace F := aF g1_8 F; (try replace F := aF g1_8p F); (iterate 3 refine go2 (k := ?_)); refine gs 16 (fun g1_13 => ?_) (fun g1_13 => ?_)
        · (try exact nope g1_13); all_goals have g1_13p := g1_13; try simp [F] at g1_13p
          all_goals
           replace F := aF g1_13 F; (try replace F := aF g1_13p F); (iterate 3 refine go2 (k := ?_)); refine hJ4 _ _ ?_; refine ra ?_; exact gcr
        (try exact nope g1_13); all_goals have g1_13p := g1_13; try simp [F] at g1_13p
        all_goals
         replace F := aF g1_13 F; (try replace F := aF g1_13p F); (iterate 3 refine no2 (k := ?_)); refine hJ4 _ _ ?_; refine ra ?_; exact gcr
     (try exact nope g1_8); all_goals have g1_8p := g1_8; try simp [F] at g1_8p
     all_goals
      replace F := aF g1_8 F; (try replace F := aF g1_8p F); (iterate 6 refine no2 (k := ?_)); refine hJ4 _ _ ?_; refine ra ?_; exact gcr
  (try exact nope g1_3); all_goals have g1_3p := g1_3; try simp [F] at g1_3p
  all_goals
   replace F := aF g1_3 F; (try replace F := aF g1_3p F); (iterate 9 refine no2 (k := ?_)); refine hJ4 _ _ ?_; refine ra ?_; exact gcr

theorem right_no {l : List Coin} {k : Nat} (h : k < l.length) (hn : 8 ≤ l[k].d.toNat ∨ l[k].n.v = 0 ∨ ∃ j, ∃ e : k = j + 1, l[k].d.toNat ≤ (l[j]'(by omega)).d.toNat) : ¬ Right l := by
  intro hr
  have h1 := hr.1 l[k] (List.getElem_mem h)
  rcases hn with hn | hn | ⟨j, rfl, hn⟩
  · omega
  · exact h1.2 hn
  · have := List.pairwise_iff_getElem.1 hr.2 j (j + 1) (by omega) h (by omega)
    omega
theorem right_next {l : List Coin} {j : Nat} (h : j + 1 < l.length) (h1 : l[j + 1].d.toNat < 8) (h2 : ¬ l[j + 1].n.v = 0) (h3 : (l[j]'(by omega)).d.toNat < l[j + 1].d.toNat) (hR : Right (l.take (j + 1))) : Right (l.take (j + 1 + 1)) := by
  rw [take_snoc h, right_snoc]
  refine ⟨hR, ⟨h1, h2⟩, right_last hR ?_ h3⟩
  rw [take_snoc (by omega : j < l.length), List.getLast?_append]; rfl
theorem right_first {l : List Coin} (h : 0 < l.length) (h1 : l[0].d.toNat < 8) (h2 : ¬ l[0].n.v = 0) : Right (l.take 1) := by
  have := take_snoc h
  rw [Nat.zero_add] at this
  rw [this, right_snoc]
  exact ⟨by simpa using Go.Vm.right_nil, ⟨h1, h2⟩, by simp⟩

set_option maxHeartbeats 1600000 in
attribute [local simp] undefA List.getElem?_cons_zero List.getElem?_cons_succ in
theorem right_ok {σ : St} {l : List Coin} {tl : Tail} (hl : l.length ≤ 9223372036854775807) : CallsA Try.prog 65 [.sl 5 (coinsC l) l.length tl] σ (fun av σ' => av = .v (.bool (decide (Right l))) ∧ σ = σ') := by
  refine callsA_gcS ?_ rfl
  have F := True.intro
  refine callsA_body Try.func65 rfl rfl rfl ?_; refine sr fun _ hJ2 => ?_; refine hJ2 _ _ ?_; refine sq fun K3 hK3 => ?_; refine sr fun _ hJ5 => ?_; refine hJ5 _ _ ?_; refine run_block_k ?_; refine run_loopG (X := Nat) [0, 5, 6] (fun k ρ σ1 => (k ≤ l.length) ∧ (Right (l.take k)) ∧ (ρ 7 = .v (.int .i64 k)) ∧ (σ1 = σ)) (fun k => l.length - k) (0) ?st1 ?rd1
  case st1 =>
   refine ⟨lp, ?_, lp, lp⟩
   · simpa using Go.Vm.right_nil
  case rd1 =>
   rintro k ρ1 σ1 hF1 ⟨hk, hR, h7, hs⟩; obtain rfl := hs.symm
   have f1 := keepL hF1
   (try simp [KeepL, F] at f1); replace F := aF h7 F; (try replace F := aF f1 F); refine sr fun _ hJ7 => ?_; refine hJ7 _ _ ?_; refine sq fun K8 hK8 => ?_; refine cs (fun c8 => ?_) (fun c8 => ?_)
   · (try exact nope c8); all_goals have c8p := c8; try simp [F] at c8p
     all_goals
      replace F := aF c8 F; (try replace F := aF c8p F); refine run_skip ?_; refine hK8 _ _ ?_; refine sq fun K9 hK9 => ?_; refine run_block_k ?_; refine sr fun _ hJ11 => ?_; refine hJ11 _ _ ?_; refine sq fun K12 hK12 => ?_
      refine run_draw (by kernel_rfl) fun J13 hJ13 => ?_
      refine rp2 0 (k := ?_); refine rp2 1 (k := ?_); refine rp2 2 (k := ?_); refine rp2 3 (k := ?_); refine gd 15 (fun g4_3 => ?_) (fun g4_3 => ?_)
      · (try exact nope g4_3); all_goals have g4_3p := g4_3; try simp [F] at g4_3p
        all_goals
         replace F := aF g4_3 F; (try replace F := aF g4_3p F); refine rp2 4 (k := ?_); refine rp2 5 (k := ?_); refine rp2 6 (k := ?_); refine rp2 7 (k := ?_); refine rp2 8 (k := ?_); refine rp2 9 (k := ?_); refine rp2 10 (k := ?_); refine rp2 11 (k := ?_); refine rp2 12 (k := ?_); refine rp2 13 (k := ?_); refine rp2 14 (k := ?_); refine rp2 15 (k := ?_); refine rp2 16 (k := ?_); refine rp2 17 (k := ?_); refine rp2 18 (k := ?_); refine rp2 19 (k := ?_); refine rp2 20 (k := ?_); refine rp2 21 (k := ?_); refine rp2 22 (k := ?_); refine rp2 23 (k := ?_); refine dd ?_; refine hJ13 _ _ ?_; refine hK12 _ _ ?_; refine ct ?_; refine sr fun _ hJ15 => ?_; refine hJ15 _ _ ?_; refine ra ?_
         have hn : ¬ Right l := right_no c8p (.inl (by omega))
         exact gcr
      (try exact nope g4_3); all_goals have g4_3p := g4_3; try simp [F] at g4_3p
      all_goals
       replace F := aF g4_3 F; (try replace F := aF g4_3p F); refine rp2 4 (k := ?_); refine rp2 5 (k := ?_); refine rp2 6 (k := ?_); refine rp2 7 (k := ?_); refine rp2 8 (k := ?_); refine rp2 9 (k := ?_); refine gd 21 (fun g4_9 => ?_) (fun g4_9 => ?_)
       · (try exact nope g4_9); all_goals have g4_9p := g4_9; try simp [F] at g4_9p
         all_goals
          replace F := aF g4_9 F; (try replace F := aF g4_9p F); refine rp2 10 (k := ?_); refine rp2 11 (k := ?_); refine rp2 12 (k := ?_); refine rp2 13 (k := ?_); refine rp2 14 (k := ?_); refine rp2 15 (k := ?_); refine rp2 16 (k := ?_); refine rp2 17 (k := ?_); refine rp2 18 (k := ?_); refine rp2 19 (k := ?_); refine rp2 20 (k := ?_); refine rp2 21 (k := ?_); refine rp2 22 (k := ?_); refine rp2 23 (k := ?_); refine dd ?_; refine hJ13 _ _ ?_; refine hK12 _ _ ?_; refine ct ?_; refine sr fun _ hJ17 => ?_; refine hJ17 _ _ ?_; refine ra ?_
          have hn : ¬ Right l := right_no c8p (.inr (.inl g4_9p))
          exact gcr
       (try exact nope g4_9); all_goals have g4_9p := g4_9; try simp [F] at g4_9p
       all_goals
        replace F := aF g4_9 F; (try replace F := aF g4_9p F); refine rp2 10 (k := ?_); refine rp2 11 (k := ?_); refine rp2 12 (k := ?_); refine gd 24 (fun g4_12 => ?_) (fun g4_12 => ?_)
        · (try exact nope g4_12); all_goals have g4_12p := g4_12; try simp [F] at g4_12p
          all_goals
           replace F := aF g4_12 F; try replace F := aF g4_12p F
           obtain ⟨j, rfl⟩ : ∃ j, k = j + 1 := ⟨k - 1, by omega⟩
           refine rp2 13 (k := ?_); refine rp2 14 (k := ?_); refine rp2 15 (k := ?_); refine rp2 16 (k := ?_); refine rp2 17 (k := ?_); refine rp2 18 (k := ?_); refine rp2 19 (k := ?_); refine rp2 20 (k := ?_); refine rp2 21 (k := ?_); refine rp2 22 (k := ?_); refine rp2 23 (k := ?_); refine dd ?_; refine hJ13 _ _ ?_; refine hK12 _ _ ?_; refine cs (fun c35 => ?_) (fun c35 => ?_)
           · (try exact nope c35); all_goals have c35p := c35; try simp [F] at c35p
             all_goals
              replace F := aF c35 F; (try replace F := aF c35p F); refine sr fun _ hJ19 => ?_; refine hJ19 _ _ ?_; refine ra ?_
              have hn : ¬ Right l := right_no c8p (.inr (.inr ⟨j, rfl, c35p⟩))
              exact gcr
           (try exact nope c35); all_goals have c35p := c35; try simp [F] at c35p
           all_goals
            replace F := aF c35 F; (try replace F := aF c35p F); refine run_skip ?_; refine hK9 _ _ ?_; refine rg' (h := fun J20 hJ20 => ?_); refine hJ20 _ _ ?_; refine ⟨gk, (j + 1 + 1), ⟨kpG, lpG, ?_, lpG, lpG⟩, lpG⟩
            · exact right_next c8p (by omega) g4_9p c35p hR
        (try exact nope g4_12); all_goals have g4_12p := g4_12; try simp [F] at g4_12p
        all_goals
         replace F := aF g4_12 F; try replace F := aF g4_12p F
         obtain rfl : k = 0 := by omega
         refine rp2 13 (k := ?_); refine rp2 14 (k := ?_); refine rp2 15 (k := ?_); refine rp2 16 (k := ?_); refine rp2 17 (k := ?_); refine rp2 18 (k := ?_); refine rp2 19 (k := ?_); refine rp2 20 (k := ?_); refine rp2 21 (k := ?_); refine rp2 22 (k := ?_); refine rp2 23 (k := ?_); refine dd ?_; refine hJ13 _ _ ?_; refine hK12 _ _ ?_; refine cf ?_; refine run_skip ?_; refine hK9 _ _ ?_; refine rg' (h := fun J21 hJ21 => ?_); refine hJ21 _ _ ?_; refine ⟨gk, (1), ⟨kpG, lpG, ?_, lpG, lpG⟩, lpG⟩
         · exact right_first c8p (by omega) g4_9p
   (try exact nope c8); all_goals have c8p := c8; try simp [F] at c8p
   all_goals
    replace F := aF c8 F; (try replace F := aF c8p F); refine run_exit ?_; refine hK3 _ _ ?_; refine sr fun _ hJ23 => ?_; refine hJ23 _ _ ?_; refine ra ?_
    have hn : Right l := by rw [List.take_of_length_le c8p] at hR; exact hR
    exact gcr

end Go.Proofs.Ytmponlabfccjaaa

/-
  Lists of coins: what both readers make of a list's bytes.
-/
namespace Go.Proofs.Ytmponlabfccjaaa
set_option linter.unnecessarySimpa false
open Go Go.Vm
set_option linter.unusedSimpArgs false
set_option linter.unusedVariables false
set_option maxRecDepth 100000
attribute [local simp] evalL wantedA isCall opA evalA evalAll evalsA evalOpt ofValue ofCell plain binA_eql_pn binA_neq_pn binA_gtr binA_lss binA_geq binA_leq binA_add binA_sub binA_eql binA_neq binA_or binA_shl binA_shr binA_mul binA_quo binA_rem binA_agg_eql binA_agg_neq convA_int unA_not fieldAddrA loadA partA pickA_true pickA_false pickA_bb lenA builtinA storeA splice AV.cells AV.isCell sliceA boundA intA callOf indexAddrA newObjA buildA fillA zeroA ofCells indexA fieldA coinsC_at

def slA (k : Nat) (l : List Coin) : AV := if l = [] then .sl 0 [] 0 .full else .sl 5 (coinsC l) l.length (.own k)
def tkA (l : List Coin) : List Nat := if l = [] then [] else [l.length]

@[simp] theorem slA_nil (k : Nat) : slA k [] = .sl 0 [] 0 .full := rfl
@[simp] theorem tkA_nil : tkA [] = [] := rfl

theorem build_coin (c : Coin) : buildSliceA Try.prog 29 1 [(0, .agg (coinC c))] = some (.sl 5 (coinC c) 1 .full) := by kernel_rfl
class Small (l : List Coin) : Prop where
  h : l.length ≤ 1000

structure CSt where
  m : Nat
  s : Option (List UInt8)
  l : List Coin

end Go.Proofs.Ytmponlabfccjaaa

/-
  The plain law of what lies behind a beginning, in a store; what is written is read.
-/
namespace Go.Proofs.Ytmponlabfccjaaa
set_option linter.unnecessarySimpa false
set_option maxRecDepth 100000
open Go Go.Vm
set_option linter.unusedSimpArgs false
set_option linter.unusedVariables false

theorem preB_nil2 (b : UInt8) (p : List UInt8) : preB [] (b :: p) = false := by simp [preB]
theorem preB_cons (a b : UInt8) (l m : List UInt8) : preB (a :: l) (b :: m) = (decide (a = b) && preB l m) := by
  rw [Bool.eq_iff_iff]
  simp only [preB, List.length_cons, List.take_succ_cons, List.cons.injEq, Bool.and_eq_true, decide_eq_true_eq]
  constructor
  · rintro ⟨h1, h2, h3⟩; exact ⟨h2, by omega, h3⟩
  · rintro ⟨h1, h2, h3⟩; exact ⟨by omega, h1, h3⟩

theorem preB_lt : ∀ {a p : List UInt8}, ltB a p = true → preB a p = false
  | a, [], h => by rw [ltB_nil] at h; cases h
  | [], b :: p, _ => preB_nil2 b p
  | x :: a, y :: p, h => by
    rw [preB_cons]
    by_cases e : x = y
    · rw [ltB, if_pos e] at h; simp [preB_lt h]
    · simp [e]

theorem preB_up : ∀ {p a b : List UInt8}, ltB a p = false → preB a p = false → ltB a b = true → preB b p = false
  | [], a, b, _, h, _ => by rw [preB_nil] at h; cases h
  | y :: p, a, [], _, _, h => by rw [ltB_nil] at h; cases h
  | y :: p, [], z :: b, h, _, _ => by cases h
  | y :: p, x :: a, z :: b, h1, h2, h3 => by
    rw [preB_cons] at h2 ⊢
    rw [ltB] at h1 h3
    by_cases e : z = y
    · subst e
      by_cases e2 : x = z
      · rw [if_pos e2] at h1 h3; simp [e2] at h2; simp [preB_up h1 h2 h3]
      · rw [if_neg e2] at h1 h3; simp at h1 h3; omega
    · simp [e]

theorem tw_filter {p : List UInt8} : ∀ {l : List Pr}, Srt l → (∀ x ∈ l, ltB x.k p = false) → (l.takeWhile fun x => preB x.k p) = l.filter fun x => preB x.k p
  | [], _, _ => rfl
  | a :: l, h, hg => by
    have l1 := List.pairwise_cons.1 h
    have ih := tw_filter l1.2 (fun x hx => hg x (by simp [hx]))
    rw [List.takeWhile_cons, List.filter_cons]
    cases hp : preB a.k p with
    | true => simp [ih]
    | false =>
      simp only [Bool.false_eq_true, if_false]
      symm
      rw [List.filter_eq_nil_iff]
      intro x hx
      rw [preB_up (hg a (by simp)) hp (l1.1 x hx)]
      simp

theorem keysL_filter {p : List UInt8} : ∀ {l : List Pr}, Srt l → keysL l p = (l.filter fun x => preB x.k p).map (·.k)
  | [], _ => rfl
  | a :: l, h => by
    have l1 := List.pairwise_cons.1 h
    cases ha : ltB a.k p with
    | true =>
      have ih := keysL_filter (p := p) l1.2
      have hf : findL (a :: l) p = findL l p + 1 := by simp [findL, ha]
      unfold keysL at ih ⊢
      rw [hf, List.drop_succ_cons, ih, List.filter_cons, preB_lt ha]
      simp
    | false =>
      have hf : findL (a :: l) p = 0 := by simp [findL, ha]
      unfold keysL
      rw [hf, List.drop_zero, tw_filter h ?_]
      intro x hx
      rcases List.mem_cons.1 hx with rfl | hx
      · exact ha
      · cases hx2 : ltB x.k p with
        | false => rfl
        | true => have := ltB_trans (l1.1 x hx) hx2; rw [ha] at this; cases this

theorem kysC_ix {K : List (List UInt8)} {i : Nat} (h : i < K.length) (h2 : i < (kysC K).length) : (kysC K)[i]'h2 = .sl 1 (bytesA K[i]) K[i].length .shut := (List.getElem?_eq_some_iff.1 (kysC_at h)).2

def pl (L : List Pr) (p : List UInt8) : List Pr := L.filter fun x => preB x.k p
theorem pl_srt {L : List Pr} {p : List UInt8} (h : Srt L) : Srt (pl L p) := List.Pairwise.filter _ h
theorem setL_c (a : Pr) (l : List Pr) (k : List UInt8) (o : Option (List UInt8)) : setL (a :: l) k o = if a.k = k then (match o with | some v => ⟨k, v⟩ :: l | none => l) else if ltB k a.k then (match o with | some v => ⟨k, v⟩ :: a :: l | none => a :: l) else a :: setL l k o := by cases o <;> rfl
theorem pl_out {p k : List UInt8} {o : Option (List UInt8)} (hk : preB k p = false) : ∀ {L : List Pr}, pl (setL L k o) p = pl L p
  | [] => by cases o <;> simp [pl, setL, hk]
  | a :: L => by
    have ih := pl_out (o := o) hk (L := L)
    by_cases e : a.k = k
    · have ha : preB a.k p = false := by rw [e]; exact hk
      rw [setL_c, if_pos e]
      cases o with
      | none => simp [pl, ha]
      | some v => simp [pl, ha, hk]
    · by_cases e2 : ltB k a.k = true
      · rw [setL_c, if_neg e, if_pos e2]
        cases o with
        | none => rfl
        | some v => simp [pl, hk]
      · rw [setL_c, if_neg e, if_neg e2]
        simp only [pl, List.filter_cons] at ih ⊢
        rw [ih]
theorem getL_pl {p k : List UInt8} (hk : preB k p = true) : ∀ {L : List Pr}, getL (pl L p) k = getL L k
  | [] => rfl
  | a :: L => by
    have ih := getL_pl hk (L := L)
    simp only [pl, List.filter_cons] at ih ⊢
    by_cases e : a.k = k
    · rw [if_pos (by rw [e]; exact hk), getL, getL, if_pos e, if_pos e]
    · split
      · rw [getL, getL, if_neg e, if_neg e, ih]
      · rw [getL, if_neg e, ih]

theorem be_natBytes (x : Nat) : be (natBytes x) = x := by
  induction x using Nat.strongRecOn with
  | _ x ih =>
    by_cases h : x = 0
    · subst h; simp [natBytes_zero, be]
    · rw [natBytes_pos (by omega), be_snoc, ih (x / 256) (by omega), toNat_ofNat (by omega)]
      omega
theorem natBytes_head (x : Nat) : (natBytes x).headD 1 ≠ 0 := by
  induction x using Nat.strongRecOn with
  | _ x ih =>
    by_cases h : x = 0
    · subst h; simp [natBytes_zero]
    · rw [natBytes_pos (by omega)]
      by_cases h2 : x / 256 = 0
      · rw [h2, natBytes_zero]
        simp only [List.nil_append, List.headD_cons]
        intro e
        have := congrArg UInt8.toNat e
        rw [toNat_ofNat (by omega)] at this
        simp at this; omega
      · have h3 := ih (x / 256) (by omega)
        cases h4 : natBytes (x / 256) with
        | nil => exact absurd (natBytes_nil.1 h4) h2
        | cons b l => rw [h4] at h3; simpa using h3
theorem natBytes_le {x : Nat} (hx : x < 2 ^ 256) : (natBytes x).length ≤ 32 := natBytes_len x 32 (by simpa using hx)
theorem natBytes_ok {x : Nat} (hx : x < 2 ^ 256) : numOk (natBytes x) = true := by
  have h1 := natBytes_le hx
  have h2 := natBytes_head x
  simp only [numOk, Bool.and_eq_true, decide_eq_true_eq, bne_iff_ne]
  exact ⟨h1, h2⟩
end Go.Proofs.Ytmponlabfccjaaa

/-
  Validators and delegations: their records, and back.
-/
namespace Go.Proofs.Ytmponlabfccjaaa
set_option linter.unnecessarySimpa false
set_option maxRecDepth 100000
open Go Go.Vm
set_option linter.unusedSimpArgs false
set_option linter.unusedVariables false
attribute [local simp] evalL wantedA isCall opA evalA evalAll evalsA evalOpt ofValue ofCell plain binA_eql_pn binA_neq_pn binA_gtr binA_lss binA_geq binA_leq binA_add binA_sub binA_eql binA_neq binA_orI binA_shl binA_shr binA_mul binA_quo binA_rem binA_agg_eql binA_agg_neq convA_int unA_not fieldAddrA loadA partA pickA_true pickA_false pickA_bb lenA builtinA storeA splice AV.cells AV.isCell sliceA boundA intA callOf indexAddrA newObjA buildA fillA zeroA ofCells buildSliceA indexA fieldA set_appN get_appN take_appN List.getElem?_cons_zero List.getElem?_cons_succ get_sa0 get_sa1 get_sa2 get_sa3 set_sa0 set_sa1 set_sa2 set_sa3 sliceRowA binA_eqn binA_neqn drop_mr

structure Vl where
  i : UInt8
  o : UInt8
  r : Nat
  j : Bool
  t : Num
  s : Num
  x : List Coin
  e : List Coin
def Vl.Ok (v : Vl) : Prop := v.r < 65536 ∧ v.x.length ≤ 9223372036854775807 ∧ v.e.length ≤ 9223372036854775807
structure Dl where
  o : UInt8
  v : UInt8
  s : Num
  x : List Coin
def Dl.Ok (d : Dl) : Prop := d.x.length ≤ 9223372036854775807
def flB (b : Bool) : UInt8 := if b then 1 else 0
def encV (v : Vl) : List UInt8 := v.o :: (nBytes 2 v.r ++ (flB v.j :: (encN v.t.v ++ (encN v.s.v ++ (encL v.x ++ encL v.e)))))
def encD (d : Dl) : List UInt8 := encN d.s.v ++ encL d.x
def keyV (i : UInt8) : List UInt8 := [118, i]
def keyD (o v : UInt8) : List UInt8 := [100, o, v]
def prV (v : Vl) : Pr := ⟨keyV v.i, encV v⟩
def prD (d : Dl) : Pr := ⟨keyD d.o d.v, encD d⟩
def RightV (v : Vl) : Prop := v.o.toNat < 200 ∧ v.r ≤ 10000 ∧ Right v.x ∧ Right v.e
theorem HasS.at {σ τ : St} {o k : Nat} {G : Sg} (h : HasS σ o k G) (l : List (List AV)) (m : List Nat) (hτ : τ = { σ with objs := σ.objs ++ l, toks := m }) : HasS τ o k G := by subst hτ; exact h.app l m

theorem putS_at {σ : St} {o k : Nat} {G : Sg} (h : HasS σ o k G) (l : List (List AV)) (tk : List Nat) (G' : Sg) : putS { σ with objs := σ.objs ++ l, toks := tk } o k G' = { putS σ o k G' with objs := (putS σ o k G').objs ++ l, toks := tk } := by simp only [putS]; rw [List.set_append_left _ _ (lt_of_get h.o)]
theorem keyD_p1 (o v : UInt8) : preB (keyD o v) [100] = true := by simp [preB, keyD]
structure Pw where
  V : List Vl
  D : List Dl
structure PoolS (s : Sto) (W : Pw) (n : Nat) : Prop where
  ok : s.Ok n
  pv : pl s.l [118] = W.V.map prV
  pd : pl s.l [100] = W.D.map prD
  ids : ∀ (i : Nat) (h : i < W.V.length), W.V[i].i.toNat = i
  lv : W.V.length ≤ 16
  rv : ∀ v ∈ W.V, RightV v
  rd : ∀ d ∈ W.D, Right d.x
  nd : W.D.length ≤ n
def pw0 : Pw := ⟨[], []⟩
theorem PoolS.nil : PoolS newSg.s pw0 0 := ⟨newSg_ok, rfl, rfl, fun i h => absurd h (by simp [pw0]), by simp [pw0], fun v h => absurd h (by simp [pw0]), fun v h => absurd h (by simp [pw0]), Nat.le_refl _⟩
theorem PoolS.mono {s : Sto} {W : Pw} {n m : Nat} (h : PoolS s W n) (hm : n ≤ m) : PoolS s W m := ⟨h.ok.mono hm, h.pv, h.pd, h.ids, h.lv, h.rv, h.rd, Nat.le_trans h.nd hm⟩
theorem PoolS.getD {s : Sto} {W : Pw} {n : Nat} {d : Dl} (h : PoolS s W n) (hd : d ∈ W.D) : getL s.l (keyD d.o d.v) = some (encD d) := by
  have hs := pl_srt (p := [100]) h.ok.srt
  rw [← getL_pl (keyD_p1 _ _), h.pd]
  rw [h.pd] at hs
  exact getL_of_mem hs (p := prD d) (List.mem_map_of_mem hd)
structure Pr3 where
  W : Pw
  i : Nat
  e : Nat
theorem putS_app {σ : St} {o k : Nat} {G : Sg} (h : HasS σ o k G) (G' : Sg) (l : List (List AV)) : putS { σ with objs := σ.objs ++ l } o k G' = { putS σ o k G' with objs := (putS σ o k G').objs ++ l } := by
  simp only [putS]; rw [List.set_append_left _ _ (lt_of_get h.o)]
end Go.Proofs.Ytmponlabfccjaaa

/-
  Numbers: sums and differences, limb by limb.
-/
namespace Go.Proofs.Ytmponlabfccjaaa
set_option linter.unnecessarySimpa false
set_option maxRecDepth 100000
open Go Go.Vm
set_option linter.unusedSimpArgs false
set_option linter.unusedVariables false
attribute [local simp] evalL wantedA isCall opA evalA evalAll evalsA evalOpt ofValue ofCell plain binA_eql_pn binA_neq_pn binA_gtr binA_lss binA_geq binA_leq binA_add binA_sub binA_eql binA_neq binA_or binA_and binA_shl binA_shr binA_mul binA_quo binA_rem binA_agg_eql binA_agg_neq convA_int unA_not fieldAddrA loadA partA pickA_true pickA_false pickA_bb lenA builtinA storeA splice AV.cells AV.isCell sliceA boundA intA callOf indexAddrA newObjA buildA fillA zeroA ofCells buildSliceA indexA fieldA numA_len4 numA_take4 numA_drop4 List.getElem?_cons_zero List.getElem?_cons_succ

theorem add64_ok {σ : St} {x y c : Nat} (hc : c ≤ 1) : ExtA Try.prog 120 [.v (.int .u64 x), .v (.int .u64 y), .v (.int .u64 c)] σ (fun av _ => ∃ s c' : Nat, s = (x + y + c) % 18446744073709551616 ∧ c' = (x + y + c) / 18446744073709551616 ∧ av = .tup [.v (.int .u64 s), .v (.int .u64 c')]) :=
  add64_ext Try.func120 (by kernel_rfl) (by kernel_rfl) (by kernel_rfl) (by kernel_rfl) hc
theorem sub64_ok {σ : St} {x y c : Nat} (hc : c ≤ 1) : ExtA Try.prog 131 [.v (.int .u64 x), .v (.int .u64 y), .v (.int .u64 c)] σ (fun av _ => ∃ s c' : Nat, s = (x + 18446744073709551616 - y - c) % 18446744073709551616 ∧ c' = (if x < y + c then 1 else 0) ∧ av = .tup [.v (.int .u64 s), .v (.int .u64 c')]) :=
  sub64_ext Try.func131 (by kernel_rfl) (by kernel_rfl) (by kernel_rfl) (by kernel_rfl) hc

set_option maxHeartbeats 1600000 in
attribute [local simp] undefA List.getElem?_cons_zero List.getElem?_cons_succ in
theorem nadd_ok {σ : St} {x y : Nat} (hx : x < 2 ^ 256) (hy : y < 2 ^ 256) :
    CallsA Try.prog 99 [.agg (numA x), .agg (numA y)] σ (fun av σ' => av = .tup [.agg (numA (addN x y)), .v (.int .i64 (addE x y : Nat))] ∧ σ = σ') := by
  refine callsA_gcS ?_ (by simp [AV.under, underL, numA])
  have hx4 : x < 18446744073709551616 ^ 4 := hx
  have hy4 : y < 18446744073709551616 ^ 4 := hy
  rw [numA_digs x, numA_digs y]
  have F := True.intro
  refine callsA_body Try.func99 rfl rfl rfl ?_; refine sr fun _ hJ2 => ?_; refine hJ2 _ _ ?_; refine sr fun _ hJ4 => ?_; refine hJ4 _ _ ?_; refine sq fun K5 hK5 => ?_; refine sr fun _ hJ7 => ?_; refine hJ7 _ _ ?_; refine run_block_k ?_; refine run_loopF (X := Nat) [2, 3, 4, 5] (fun i ρ σ1 => (i ≤ 4) ∧ (ρ 6 = .v (.int .u64 (addc 18446744073709551616 x y i : Nat))) ∧ (ρ 8 = .v (.int .i64 i)) ∧ (σ1 = { σ with objs := σ.objs ++ [u64s (mix 18446744073709551616 4 i (x + y) x), u64s (digs 18446744073709551616 4 y), numA 0] })) (fun i => 4 - i) (0) ?st1 ?rd1
  case st1 =>
   refine ⟨lp, ?_, lp, ?_⟩
   · simp [addc_zero]
   · simp [mix_zero, numA_zero4]
  case rd1 =>
   rintro i ρ1 σ1 hF1 ⟨hi, h6, h8, hσ⟩; obtain rfl := hσ.symm
   have f1 := keepL hF1
   (try simp [KeepL, F] at f1); replace F := aF h6 F; replace F := aF h8 F; (try replace F := aF f1 F); refine sr fun _ hJ9 => ?_; refine hJ9 _ _ ?_; refine sq fun K10 hK10 => ?_; refine cs (fun c9 => ?_) (fun c9 => ?_)
   · (try exact nope c9); all_goals have c9p := c9; try simp [F] at c9p
     all_goals
      replace F := aF c9 F; (try replace F := aF c9p F); refine run_skip ?_; refine hK10 _ _ ?_; refine sq fun K11 hK11 => ?_; refine run_block_k ?_; refine sr fun _ hJ13 => ?_; refine hJ13 _ _ ?_
      have hi4 : i < 4 := by simp at c9; omega
      have hgx := mixU_get (b := 18446744073709551616) (s := x + y) (x := x) hi4
      have hgy := digU_get (b := 18446744073709551616) (x := y) hi4
      have hst := mixU_set (b := 18446744073709551616) (s := x + y) (x := x) hi4
      have hml := mix_len (b := 18446744073709551616) (s := x + y) (x := x) (Nat.le_of_lt hi4)
      generalize hX : x / 18446744073709551616 ^ i % 18446744073709551616 = X at hgx
      generalize hY : y / 18446744073709551616 ^ i % 18446744073709551616 = Y at hgy
      have hi5 : (i : Int) < 4 := by omega
      obtain ⟨_, hgx2⟩ := List.getElem?_eq_some_iff.1 hgx
      obtain ⟨_, hgy2⟩ := List.getElem?_eq_some_iff.1 hgy
      replace F := aF hgx F; replace F := aF hgy F; replace F := aF hgx2 F; replace F := aF hgy2 F; replace F := aF hml F; replace F := aF hi4 F; replace F := aF hi5 F
      refine run_draw (by kernel_rfl) fun J14 hJ14 => ?_
      refine rp2 0 (k := ?_); refine rp2 1 (k := ?_); refine rp2 2 (k := ?_); refine rp2 3 (k := ?_); refine rp2 4 (k := ?_); refine rp2 5 (k := ?_); refine rp2 6 (k := ?_); refine rp2 7 (k := ?_)
      refine de 8 rfl (c := add64_ok (x := X) (y := Y) (c := addc 18446744073709551616 x y i) (addc_le (by decide))) (k := ?_)
      rintro _ _ ⟨s, c1, hs, hc1, rfl⟩ rfl
      obtain rfl : c1 = addc 18446744073709551616 x y (i + 1) := by rw [hc1, ← hX, ← hY]; exact addc_next (by decide)
      have hs2 : s = (x + y) / 18446744073709551616 ^ i % 18446744073709551616 := by rw [hs, ← hX, ← hY]; exact addc_dig (by decide)
      rw [← hs2] at hst
      (repeat (first | simp [F] | simp (disch := omega) only [wC, if_pos, if_neg])); refine rp2 9 (k := ?_); refine rp2 10 (k := ?_); refine rp2 11 (k := ?_); refine rp2 12 (k := ?_); refine dop 13 rfl ?_; repeat (first | simp [F] | simp (disch := omega) only [wC, if_pos, if_neg])
      refine ⟨later_tmp (by kernel_rfl), ?_⟩
      refine dop 14 rfl ?_; (repeat (first | simp [F] | simp (disch := omega) only [wC, if_pos, if_neg])); (try refine ⟨ln, ?_⟩); refine dd ?_; refine hJ14 _ _ ?_; refine hK11 _ _ ?_; refine rg' (h := fun J15 hJ15 => ?_); refine hJ15 _ _ ?_; refine ⟨(i + 1), ⟨kp, lp, lp, lp, ?_⟩, lp⟩
      · simp [hst]
   (try exact nope c9); all_goals have c9p := c9; try simp [F] at c9p
   all_goals
    replace F := aF c9 F; try replace F := aF c9p F
    obtain rfl : i = 4 := by simp at c9; omega
    have hma := mix_all 18446744073709551616 4 (x + y) x
    rw [hma]
    rw [addc_last hx4 hy4] at h6 F
    rw [← numA_digs]
    have hnl : (numA (x + y)).length = 4 := rfl
    have hnt : (numA (x + y)).take 4 = numA (x + y) := rfl
    replace F := aF hnl (And.intro hnt F); refine run_exit ?_; refine hK5 _ _ ?_; refine sq fun K16 hK16 => ?_; refine sr fun _ hJ18 => ?_; refine hJ18 _ _ ?_; refine cs (fun c26 => ?_) (fun c26 => ?_)
    · (try exact nope c26); all_goals have c26p := c26; try simp [F] at c26p
      all_goals
       replace F := aF c26 F; try replace F := aF c26p F
       have hbig : ¬ x + y < 2 ^ 256 := by first | (intro h; apply c26p; omega) | omega
       have hN : addN x y = 0 := if_neg hbig
       have hE : addE x y = 2 := if_neg hbig
       replace F := aF hN (And.intro hE (And.intro numA_zero4 F)); refine sr fun _ hJ20 => ?_; refine hJ20 _ _ ?_; refine run_ret ?_; (try simp only [Then, InBlock, NoGoto]); refine acell2 (h := ?_); exact gcr
    (try exact nope c26); all_goals have c26p := c26; try simp [F] at c26p
    all_goals
     replace F := aF c26 F; try replace F := aF c26p F
     have hbig : x + y < 2 ^ 256 := by first | omega | (simp at c26p; omega)
     have hN : addN x y = x + y := if_pos hbig
     have hE : addE x y = 0 := if_pos hbig
     replace F := aF hN (And.intro hE F); refine run_skip ?_; refine hK16 _ _ ?_; refine sr fun _ hJ22 => ?_; refine hJ22 _ _ ?_; refine run_ret ?_; (try simp only [Then, InBlock, NoGoto]); refine acell2 (h := ?_); exact gcr

def subN (x y : Nat) : Nat := (x + 2 ^ 256 - y) % 2 ^ 256

set_option maxHeartbeats 1600000 in
attribute [local simp] undefA List.getElem?_cons_zero List.getElem?_cons_succ in
theorem nsub_ok {σ : St} {x y : Nat} (hx : x < 2 ^ 256) (hy : y < 2 ^ 256) :
    CallsA Try.prog 128 [.agg (numA x), .agg (numA y)] σ (fun av σ' => av = .tup [.agg (numA (subN x y)), .v (.bool (decide (x < y)))] ∧ σ = σ') := by
  refine callsA_gcS ?_ (by simp [AV.under, underL, numA])
  have hx4 : x < 18446744073709551616 ^ 4 := hx
  have hy4 : y < 18446744073709551616 ^ 4 := hy
  rw [numA_digs x, numA_digs y]
  obtain ⟨s4, hs4⟩ : ∃ s4, s4 = x + 18446744073709551616 ^ 4 - y := ⟨_, rfl⟩
  have F := True.intro
  refine callsA_body Try.func128 rfl rfl rfl ?_; refine sr fun _ hJ2 => ?_; refine hJ2 _ _ ?_; refine sr fun _ hJ4 => ?_; refine hJ4 _ _ ?_; refine sq fun K5 hK5 => ?_; refine sr fun _ hJ7 => ?_; refine hJ7 _ _ ?_; refine run_block_k ?_; refine run_loopF (X := Nat) [2, 3, 4, 5] (fun i ρ σ1 => (i ≤ 4) ∧ (ρ 6 = .v (.int .u64 (subb 18446744073709551616 x y i : Nat))) ∧ (ρ 8 = .v (.int .i64 i)) ∧ (σ1 = { σ with objs := σ.objs ++ [u64s (mix 18446744073709551616 4 i s4 x), u64s (digs 18446744073709551616 4 y), numA 0] })) (fun i => 4 - i) (0) ?st1 ?rd1
  case st1 =>
   refine ⟨lp, ?_, lp, ?_⟩
   · simp [subb_zero]
   · simp [mix_zero, numA_zero4]
  case rd1 =>
   rintro i ρ1 σ1 hF1 ⟨hi, h6, h8, hσ⟩; obtain rfl := hσ.symm
   have f1 := keepL hF1
   (try simp [KeepL, F] at f1); replace F := aF h6 F; replace F := aF h8 F; (try replace F := aF f1 F); refine sr fun _ hJ9 => ?_; refine hJ9 _ _ ?_; refine sq fun K10 hK10 => ?_; refine cs (fun c9 => ?_) (fun c9 => ?_)
   · (try exact nope c9); all_goals have c9p := c9; try simp [F] at c9p
     all_goals
      replace F := aF c9 F; (try replace F := aF c9p F); refine run_skip ?_; refine hK10 _ _ ?_; refine sq fun K11 hK11 => ?_; refine run_block_k ?_; refine sr fun _ hJ13 => ?_; refine hJ13 _ _ ?_
      have hi4 : i < 4 := by simp at c9; omega
      have hgx := mixU_get (b := 18446744073709551616) (s := s4) (x := x) hi4
      have hgy := digU_get (b := 18446744073709551616) (x := y) hi4
      have hst := mixU_set (b := 18446744073709551616) (s := s4) (x := x) hi4
      have hml := mix_len (b := 18446744073709551616) (s := s4) (x := x) (Nat.le_of_lt hi4)
      generalize hX : x / 18446744073709551616 ^ i % 18446744073709551616 = X at hgx
      generalize hY : y / 18446744073709551616 ^ i % 18446744073709551616 = Y at hgy
      have hi5 : (i : Int) < 4 := by omega
      obtain ⟨_, hgx2⟩ := List.getElem?_eq_some_iff.1 hgx
      obtain ⟨_, hgy2⟩ := List.getElem?_eq_some_iff.1 hgy
      replace F := aF hgx F; replace F := aF hgy F; replace F := aF hgx2 F; replace F := aF hgy2 F; replace F := aF hml F; replace F := aF hi4 F; replace F := aF hi5 F
      refine run_draw (by kernel_rfl) fun J14 hJ14 => ?_
      refine rp2 0 (k := ?_); refine rp2 1 (k := ?_); refine rp2 2 (k := ?_); refine rp2 3 (k := ?_); refine rp2 4 (k := ?_); refine rp2 5 (k := ?_); refine rp2 6 (k := ?_); refine rp2 7 (k := ?_); refine de 8 rfl (c := sub64_ok (x := X) (y := Y) (c := subb 18446744073709551616 x y i) (subb_le _ _ _ _)) (k := ?_); rintro _ _ ⟨s, c1, hs, hc1, rfl⟩ rfl
      obtain rfl : c1 = subb 18446744073709551616 x y (i + 1) := by rw [hc1, ← hX, ← hY]; exact subb_next (by decide)
      have hs2 : s = s4 / 18446744073709551616 ^ i % 18446744073709551616 := by rw [hs, hs4, ← hX, ← hY]; exact subb_dig (by decide) hi4 hx4 hy4
      rw [← hs2] at hst
      (repeat (first | simp [F] | simp (disch := omega) only [wC, if_pos, if_neg])); refine rp2 9 (k := ?_); refine rp2 10 (k := ?_); refine rp2 11 (k := ?_); refine rp2 12 (k := ?_); refine dop 13 rfl ?_; repeat (first | simp [F] | simp (disch := omega) only [wC, if_pos, if_neg])
      refine ⟨later_tmp (by kernel_rfl), ?_⟩
      refine dop 14 rfl ?_; (repeat (first | simp [F] | simp (disch := omega) only [wC, if_pos, if_neg])); (try refine ⟨ln, ?_⟩); refine dd ?_; refine hJ14 _ _ ?_; refine hK11 _ _ ?_; refine rg' (h := fun J15 hJ15 => ?_); refine hJ15 _ _ ?_; refine ⟨(i + 1), ⟨kp, lp, lp, lp, ?_⟩, lp⟩
      · simp [hst]
   (try exact nope c9); all_goals have c9p := c9; try simp [F] at c9p
   all_goals
    replace F := aF c9 F; try replace F := aF c9p F
    obtain rfl : i = 4 := by simp at c9; omega
    have hma := mix_all 18446744073709551616 4 s4 x
    rw [hma]
    rw [subb_last hx4 hy4] at h6 F
    have hnn : u64s (digs 18446744073709551616 4 s4) = numA (subN x y) := by rw [numA_digs]; congr 1; exact (digs_of (by decide) (digs_lt (by decide)) (by simp) (by rw [valD_digs, hs4]; rfl))
    rw [hnn]
    have hnl : (numA (subN x y)).length = 4 := rfl
    have hnt : (numA (subN x y)).take 4 = numA (subN x y) := rfl
    have hb2 : (((if x < y then 1 else 0 : Nat) : Int) != 0) = decide (x < y) := by split <;> simp [*]
    replace F := aF hnl (And.intro hnt (And.intro hb2 F)); refine run_exit ?_; refine hK5 _ _ ?_; refine sr fun _ hJ17 => ?_; refine hJ17 _ _ ?_; refine run_ret ?_; (try simp only [Then, InBlock, NoGoto]); refine acell2 (h := ?_); exact gcr

set_option maxHeartbeats 1600000 in
attribute [local simp] undefA List.getElem?_cons_zero List.getElem?_cons_succ in
theorem nSub_ok {σ : St} {x y : Nat} (hx : x < 2 ^ 256) (hy : y < 2 ^ 256) :
    CallsA Try.prog 119 [.agg (numA x), .agg (numA y)] σ (fun av σ' => av = .tup [.agg (numA (x - y)), .v (.int .i64 (if x < y then 3 else 0 : Nat))] ∧ σ = σ') := by
  refine callsA_gcS ?_ (by simp [AV.under, underL, numA])
  have F := True.intro
  refine callsA_body Try.func119 rfl rfl rfl ?_; refine sr fun _ hJ2 => ?_; refine hJ2 _ _ ?_; refine sr fun _ hJ4 => ?_; refine ca (c := nsub_ok hx hy) (k := ?_); rintro _ _ ⟨rfl, rfl⟩; (repeat (first | simp [F] | simp (disch := omega) only [wC, if_pos, if_neg])); refine hJ4 _ _ ?_; refine sq fun K5 hK5 => ?_; refine sr fun _ hJ7 => ?_; refine hJ7 _ _ ?_; refine cs (fun c14 => ?_) (fun c14 => ?_)
  · (try exact nope c14); all_goals have c14p := c14; try simp [F] at c14p
    all_goals
     replace F := aF c14 F; try replace F := aF c14p F
     have h0 : x - y = 0 := by first | omega | (simp at c14p; omega)
     have hlt : x < y := by simpa using c14p
     replace F := aF h0 (And.intro hlt (And.intro numA_zero4 F)); refine sr fun _ hJ9 => ?_; refine hJ9 _ _ ?_; refine run_ret ?_; (try simp only [Then, InBlock, NoGoto]); refine acell2 (h := ?_); exact gcr
  (try exact nope c14); all_goals have c14p := c14; try simp [F] at c14p
  all_goals
   replace F := aF c14 F; try replace F := aF c14p F
   have hlt : ¬ x < y := by simpa using c14p
   have h0 : subN x y = x - y := by unfold subN; omega
   replace F := aF h0 (And.intro hlt F); refine run_skip ?_; refine hK5 _ _ ?_; refine sr fun _ hJ11 => ?_; refine hJ11 _ _ ?_; refine run_ret ?_; (try simp only [Then, InBlock, NoGoto]); refine acell2 (h := ?_); exact gcr

set_option maxHeartbeats 1600000 in
attribute [local simp] undefA List.getElem?_cons_zero List.getElem?_cons_succ in
theorem nRest_ok {σ : St} {x y : Nat} (hx : x < 2 ^ 256) (hy : y < 2 ^ 256) :
    CallsA Try.prog 98 [.agg (numA x), .agg (numA y)] σ (fun av σ' => av = .agg (numA (x - y)) ∧ σ = σ') := by
  refine callsA_gcS ?_ (by simp [AV.under, underL, numA])
  have F := True.intro
  refine callsA_body Try.func98 rfl rfl rfl ?_; refine sr fun _ hJ2 => ?_; refine hJ2 _ _ ?_; refine sr fun _ hJ4 => ?_; refine ca (c := nSub_ok hx hy) (k := ?_); rintro _ _ ⟨rfl, rfl⟩; (repeat (first | simp [F] | simp (disch := omega) only [wC, if_pos, if_neg])); refine hJ4 _ _ ?_; refine sr fun _ hJ6 => ?_; refine hJ6 _ _ ?_; refine run_ret ?_; (try simp only [Then, InBlock, NoGoto]); refine acell (h := ?_); exact gcr

structure TS where
  k : Nat
  P : List Nat
  c : Nat
end Go.Proofs.Ytmponlabfccjaaa

/-
  Coins: amounts, sums, rests.
-/
namespace Go.Proofs.Ytmponlabfccjaaa
set_option linter.unnecessarySimpa false
set_option maxRecDepth 100000
open Go Go.Vm
set_option linter.unusedSimpArgs false
set_option linter.unusedVariables false
attribute [local simp] evalL wantedA isCall opA evalA evalAll evalsA evalOpt ofValue ofCell plain binA_eql_pn binA_neq_pn binA_gtr binA_lss binA_geq binA_leq binA_add binA_sub binA_eql binA_neq binA_orI binA_andI binA_shl binA_shr binA_mul binA_quo binA_rem binA_agg_eql binA_agg_neq convA_int unA_not fieldAddrA loadA partA pickA_true pickA_false pickA_bb lenA builtinA storeA splice AV.cells AV.isCell sliceA boundA intA callOf indexAddrA newObjA buildA fillA zeroA ofCells buildSliceA indexA fieldA numA_len4 numA_take4 numA_drop4 set_appN get_appN take_appN List.getElem?_cons_zero List.getElem?_cons_succ

set_option maxHeartbeats 1600000 in
attribute [local simp] undefA List.getElem?_cons_zero List.getElem?_cons_succ numA_zero4 coinC in
theorem amount_ok {σ : St} {l : List Coin} {d : UInt8} {tl : Tail} (hl : l.length ≤ 9223372036854775807) :
    CallsA Try.prog 121 [.sl 5 (coinsC l) l.length tl, .v (.int .u8 d.toNat)] σ (fun av σ' => av = .agg (numA (amt l d.toNat)) ∧ σ = σ') := by
  refine callsA_gcS ?_ rfl
  have F := True.intro
  refine callsA_body Try.func121 rfl rfl rfl ?_; refine sr fun _ hJ2 => ?_; refine hJ2 _ _ ?_; refine sq fun K3 hK3 => ?_; refine sr fun _ hJ5 => ?_; refine hJ5 _ _ ?_; refine run_block_k ?_; refine run_loopG (X := Nat) [1, 4, 7, 8] (fun i ρ σ1 => (i ≤ l.length) ∧ (amt l d.toNat = amt (l.drop i) d.toNat) ∧ (ρ 9 = .v (.int .i64 i)) ∧ (σ1 = { σ with objs := σ.objs ++ [numA 0] })) (fun i => l.length - i) (0) ?st1 ?rd1
  case st1 =>
   refine ⟨lp, lp, lp, ?_⟩
   · rfl
  case rd1 =>
   rintro i ρ1 σ1 hF1 ⟨hi, hA, h9, hσ⟩; obtain rfl := hσ.symm
   have f1 := keepL hF1
   (try simp [KeepL, F] at f1); replace F := aF h9 F; (try replace F := aF f1 F); refine sr fun _ hJ7 => ?_; refine hJ7 _ _ ?_; refine sq fun K8 hK8 => ?_; refine cs (fun c10 => ?_) (fun c10 => ?_)
   · (try exact nope c10); all_goals have c10p := c10; try simp [F] at c10p
     all_goals
      replace F := aF c10 F; (try replace F := aF c10p F); refine run_skip ?_; refine hK8 _ _ ?_; refine sq fun K9 hK9 => ?_; refine run_block_k ?_; refine sq fun K10 hK10 => ?_
      have hlt : i < l.length := by simp at c10; omega
      have hat := coinsC_at hlt
      simp only [coinC] at hat
      have hb1 : i * 5 + 5 ≤ l.length * 5 := by omega
      have hcons : l.drop i = l[i] :: l.drop (i + 1) := List.drop_eq_getElem_cons hlt
      replace F := aF hat F; replace F := aF hb1 F; refine rg' (h := fun J11 hJ11 => ?_); refine hJ11 _ _ ?_; refine hK10 _ _ ?_; refine sr fun _ hJ13 => ?_; refine hJ13 _ _ ?_; refine cs (fun c16 => ?_) (fun c16 => ?_)
      · (try exact nope c16); all_goals have c16p := c16; try simp [F] at c16p
        all_goals
         replace F := aF c16 F; try replace F := aF c16p F
         have hd : l[i].d.toNat = d.toNat := by have h := c16; simp at h; first | omega | (subst h; rfl) | (rw [h])
         have hA2 : amt l d.toNat = l[i].n.v := by rw [hA, hcons]; unfold amt; rw [if_pos hd]
         replace F := aF hA2 F; refine sr fun _ hJ15 => ?_; refine hJ15 _ _ ?_; refine run_ret ?_; (try simp only [Then, InBlock, NoGoto]); refine acell (h := ?_); exact gcr
      (try exact nope c16); all_goals have c16p := c16; try simp [F] at c16p
      all_goals
       replace F := aF c16 F; try replace F := aF c16p F
       have hd : ¬ l[i].d.toNat = d.toNat := by have h := c16; simp at h; first | omega | (intro e; exact h (UInt8.toNat_inj.1 e))
       refine run_skip ?_; refine hK9 _ _ ?_; refine rg' (h := fun J16 hJ16 => ?_); refine hJ16 _ _ ?_; refine ⟨gk, (i + 1), ⟨kpG, lpG, ?_, lpG, lpG⟩, lpG⟩
       · rw [hA, hcons]
         exact if_neg hd
   (try exact nope c10); all_goals have c10p := c10; try simp [F] at c10p
   all_goals
    replace F := aF c10 F; try replace F := aF c10p F
    have hend : amt l d.toNat = 0 := by rw [hA, List.drop_of_length_le (by simp at c10; omega)]; rfl
    replace F := aF hend F; refine run_exit ?_; refine hK3 _ _ ?_; refine sr fun _ hJ18 => ?_; refine hJ18 _ _ ?_; refine run_ret ?_; (try simp only [Then, InBlock, NoGoto]); refine acell (h := ?_); exact gcr

set_option maxHeartbeats 1600000 in
attribute [local simp] undefA List.getElem?_cons_zero List.getElem?_cons_succ in
theorem one_ok {σ : St} {d : UInt8} {n : Num} :
    CallsA Try.prog 122 [.v (.int .u8 d.toNat), .agg (numA n.v)] σ (fun av σ' => av = .sl 5 (coinsC (oneL d n)) (oneL d n).length .shut ∧ σ = σ') := by
  refine callsA_gcS ?_ (by simp [AV.under])
  have hR : Right [⟨d, n⟩] ↔ d.toNat < 8 ∧ n.v ≠ 0 := by simp [Right]
  have hc : .v (.int .u8 (d.toNat : Int)) :: numA n.v = coinsC [⟨d, n⟩] := by simp [coinsC, coinC]
  have hdr : ∀ f : Nat → AV, List.drop 5 (List.map f (List.range 5)) = [] := fun _ => rfl
  have F := And.intro hc (And.intro hdr (True.intro))
  refine callsA_body Try.func122 rfl rfl rfl ?_; refine sr fun _ hJ2 => ?_; refine hJ2 _ _ ?_; refine sq fun K3 hK3 => ?_; refine sr fun _ hJ5 => ?_; refine hJ5 _ _ ?_; refine sr fun _ hJ7 => ?_
  refine ca (c := right_ok (l := [⟨d, n⟩]) (by simp)) (k := ?_)
  rintro _ _ ⟨rfl, rfl⟩; (repeat (first | simp [F] | simp (disch := omega) only [wC, if_pos, if_neg])); refine hJ7 _ _ ?_; refine cs (fun c11 => ?_) (fun c11 => ?_)
  · (try exact nope c11); all_goals have c11p := c11; try simp [F] at c11p
    all_goals
     replace F := aF c11 F; try replace F := aF c11p F
     have hr : oneL d n = [⟨d, n⟩] := if_pos (hR.1 (by simpa using c11))
     replace F := aF hr F; refine sr fun _ hJ9 => ?_; refine hJ9 _ _ ?_; refine ra ?_; exact gcr
  (try exact nope c11); all_goals have c11p := c11; try simp [F] at c11p
  all_goals
   replace F := aF c11 F; try replace F := aF c11p F
   have hr : oneL d n = [] := if_neg (fun h => by have := hR.2 h; simp [this] at c11)
   replace F := aF hr F; refine run_skip ?_; refine hK3 _ _ ?_; refine sr fun _ hJ11 => ?_; refine hJ11 _ _ ?_; refine ra ?_; exact gcr

def FnA (fid : FuncId) (caps : List AV) (F : Nat → Nat → Nat × Nat) : Prop :=
  ∀ (σ : St) (x y : Nat), x < 2 ^ 256 → y < 2 ^ 256 → CallsA Try.prog fid ([.agg (numA x), .agg (numA y)] ++ caps) σ (fun av σ' => av = .tup [.agg (numA (F x y).1), .v (.int .i64 ((F x y).2 : Nat))] ∧ σ = σ')

set_option maxHeartbeats 1600000 in
attribute [local simp] undefA List.getElem?_cons_zero List.getElem?_cons_succ in
theorem each_ok {σ : St} {a b : List Coin} {ta tb : Tail} {fid : FuncId} {caps : List AV} {Fn : Nat → Nat → Nat × Nat} (ha : a.length ≤ 9223372036854775807) (hb : b.length ≤ 9223372036854775807) (hcb : callable Try.prog fid = true) (hF : FnA fid caps Fn) (hcp : ∀ n, noObjL n caps = true)
    (hFl : ∀ x y, x < 2 ^ 256 → y < 2 ^ 256 → (Fn x y).1 < 2 ^ 256) :
    CallsA Try.prog 100 [.sl 5 (coinsC a) a.length ta, .sl 5 (coinsC b) b.length tb, .fn fid caps] σ (fun av σ' => av = .tup [.sl 5 (coinsC (eachL Fn a b)) (eachL Fn a b).length .shut, .v (.int .i64 (eachE Fn a b 8 : Nat))] ∧ σ = σ') := by
  refine callsA_gcS ?_ (by simp [AV.under, underL])
  obtain ⟨fl, hfl⟩ : ∃ fl : Nat → Nat, fl = fun d => (Fn (amt a d) (amt b d)).1 := ⟨_, rfl⟩
  have F := And.intro hcp (And.intro hcb (True.intro))
  refine callsA_body Try.func100 rfl rfl rfl ?_; refine sr fun _ hJ2 => ?_; refine hJ2 _ _ ?_; refine sr fun _ hJ4 => ?_; refine hJ4 _ _ ?_; refine sq fun K5 hK5 => ?_; refine sr fun _ hJ7 => ?_; refine hJ7 _ _ ?_; refine run_block_k ?_; refine run_loopG (X := Nat) [0, 1, 2] (fun d ρ σ1 => (d ≤ 8) ∧ (eachE Fn a b d = 0) ∧ (ρ 8 = grA σ.toks.length 5 (posB d) (coinsC (lstF fl d)) (lstF fl d).length) ∧ (ρ 12 = .v (.int .u8 d)) ∧ (σ1 = { σ with toks := σ.toks ++ grT (posB d) (lstF fl d).length })) (fun d => 8 - d) (0) ?st1 ?rd1
  case st1 =>
   refine ⟨lp, ?_, lp, lp, lp⟩
   · rfl
  case rd1 =>
   rintro d ρ1 σ1 hF1 ⟨hd, hE, h8, h12, hσ⟩; obtain rfl := hσ.symm
   have f1 := keepL hF1
   (try simp [KeepL, F] at f1); replace F := aF h8 F; replace F := aF h12 F; (try replace F := aF f1 F); refine sr fun _ hJ9 => ?_; refine hJ9 _ _ ?_; refine sq fun K10 hK10 => ?_; refine cs (fun c13 => ?_) (fun c13 => ?_)
   · (try exact nope c13); all_goals have c13p := c13; try simp [F] at c13p
     all_goals
      replace F := aF c13 F; (try replace F := aF c13p F); refine run_skip ?_; refine hK10 _ _ ?_; refine sq fun K11 hK11 => ?_; refine run_block_k ?_; refine sq fun K12 hK12 => ?_
      have hd8 : d < 8 := by simp at c13; omega
      obtain ⟨D, rfl⟩ : ∃ D : UInt8, d = D.toNat := ⟨UInt8.ofNat d, (toNat_u8 (by omega)).symm⟩
      have hfD : fl D.toNat < 2 ^ 256 := by rw [hfl]; exact hFl _ _ (amt_lt _ _) (amt_lt _ _)
      have hnum : (Fn (amt a D.toNat) (amt b D.toNat)).1 = (Num.of (fl D.toNat)).v := by rw [Num.of_v hfD, hfl]
      obtain ⟨L, hL⟩ : ∃ L, L = lstF fl D.toNat := ⟨_, rfl⟩
      obtain ⟨M, hM⟩ : ∃ M, M = oneL D (Num.of (fl D.toNat)) := ⟨_, rfl⟩
      have hnx : lstF fl (D.toNat + 1) = L ++ M := by rw [hL, hM]; exact lstF_one hd8 hfD
      have hLl : L.length ≤ 8 := by rw [hL]; exact Nat.le_trans (lstF_len _ _) hd
      have hMl : M.length ≤ 1 := by rw [hM]; unfold oneL; split <;> simp
      rw [← hL] at h8 F
      rw [← hL]
      have hb0 : posB D.toNat = false → coinsC L = [] ∧ L.length = 0 := fun h => by rw [hL, posB_no h]; simp [lstF]
      have happ : ∀ objs, appendA Try.prog 29 (grA σ.toks.length 5 (posB D.toNat) (coinsC L) L.length) (.sl 5 (coinsC M) M.length .shut) ⟨objs, σ.toks ++ grT (posB D.toNat) L.length, σ.gl, σ.rows⟩ = some (grA σ.toks.length 5 true (coinsC L ++ coinsC M) (L.length + M.length), ⟨objs, σ.toks ++ grT true (L.length + M.length), σ.gl, σ.rows⟩) := fun objs => append_gr elemT_29 ti_93 (by decide) rfl hb0 (.inl rfl) (by simp [roomA]; omega) (by simp [maxLen]; omega)
      replace F := aF hnum (And.intro happ F); refine rg' (h := fun J13 hJ13 => ?_); refine hJ13 _ _ ?_; refine hK12 _ _ ?_; refine sr fun _ hJ15 => ?_; refine ca (c := amount_ok (l := a) (d := D) ha) (k := ?_); rintro _ _ ⟨rfl, rfl⟩; (repeat (first | simp [F] | simp (disch := omega) only [wC, if_pos, if_neg])); refine ca (c := amount_ok (l := b) (d := D) hb) (k := ?_); rintro _ _ ⟨rfl, rfl⟩; (repeat (first | simp [F] | simp (disch := omega) only [wC, if_pos, if_neg])); refine ca (c := hF _ _ _ (amt_lt _ _) (amt_lt _ _)) (k := ?_); rintro _ _ ⟨rfl, rfl⟩; (repeat (first | simp [F] | simp (disch := omega) only [wC, if_pos, if_neg])); refine hJ15 _ _ ?_; refine sq fun K16 hK16 => ?_; refine sr fun _ hJ18 => ?_; refine hJ18 _ _ ?_; refine cs (fun c27 => ?_) (fun c27 => ?_)
      · (try exact nope c27); all_goals have c27p := c27; try simp [F] at c27p
        all_goals
         replace F := aF c27 F; try replace F := aF c27p F
         have he0 : ¬ (Fn (amt a D.toNat) (amt b D.toNat)).2 = 0 := by have h := c27; simp at h; omega
         have e1 : eachE Fn a b (D.toNat + 1) = (Fn (amt a D.toNat) (amt b D.toNat)).2 := by simp only [eachE, hE, ne_eq, not_true_eq_false, if_false]
         have e8 : eachE Fn a b 8 = (Fn (amt a D.toNat) (amt b D.toNat)).2 := by have := eachE_stop (F := Fn) (a := a) (b := b) (d := D.toNat + 1) (by rw [e1]; exact he0) (8 - (D.toNat + 1)); rw [show D.toNat + 1 + (8 - (D.toNat + 1)) = 8 by omega] at this; rw [this, e1]
         have eL : eachL Fn a b = [] := by unfold eachL; rw [if_neg (by rw [e8]; exact he0)]
         replace F := aF e8 (And.intro eL F); refine sr fun _ hJ20 => ?_; refine hJ20 _ _ ?_; refine run_ret ?_; (try simp only [Then, InBlock, NoGoto]); refine answer_tmp2 rfl (.inr rfl) ?_
         rw [e8, eL]
         exact gcr (hA := WkL.tup (.cons (Wk.nil _ _ _) (.cons (Wk.refl _) .nil)))
      (try exact nope c27); all_goals have c27p := c27; try simp [F] at c27p
      all_goals
       replace F := aF c27 F; try replace F := aF c27p F
       have he0 : (Fn (amt a D.toNat) (amt b D.toNat)).2 = 0 := by have h := c27; simp at h; omega
       refine run_skip ?_; refine hK16 _ _ ?_; refine rg' (h := fun J21 hJ21 => ?_); refine ca (c := (hM ▸ one_ok (d := D) (n := Num.of (fl D.toNat)))) (k := ?_); rintro _ _ ⟨rfl, rfl⟩; (repeat (first | simp [F] | simp (disch := omega) only [wC, if_pos, if_neg])); refine hJ21 _ _ ?_; refine hK11 _ _ ?_; refine rg' (h := fun J22 hJ22 => ?_); refine hJ22 _ _ ?_; refine ⟨gk, (D.toNat + 1), ⟨kpG, lpG, ?_, ?_, lpG, ?_⟩, lpG⟩
       · simp only [eachE, hE, ne_eq, not_true_eq_false, if_false]
         exact he0
       · rw [hnx, ← coinsC_append]
         simp [F, AV.gcO, noObjL_append]
       · rw [hnx]
         simp [F, St.trimO]
   (try exact nope c13); all_goals have c13p := c13; try simp [F] at c13p
   all_goals
    replace F := aF c13 F; try replace F := aF c13p F
    obtain rfl : d = 8 := by simp at c13; omega
    have eL : eachL Fn a b = lstF fl 8 := by unfold eachL; rw [if_pos hE, hfl]
    replace F := aF hE (And.intro eL F); refine run_exit ?_; refine hK5 _ _ ?_; refine sr fun _ hJ24 => ?_; refine hJ24 _ _ ?_; refine run_ret ?_; (try simp only [Then, InBlock, NoGoto]); refine answer_tmp2 rfl (.inr rfl) ?_
    rw [hE, eL]
    exact gcr (hA := WkL.tup (.cons (by simp only [putA_get]; simp [F]; first | exact Wk.shut _ _ _ _ | exact wk_grA (b := true) (fun h => absurd h (by decide))) (.cons (Wk.refl _) .nil)))

theorem addE_fn : FnA 99 [] (fun x y => (addN x y, addE x y)) := fun σ x y hx hy => nadd_ok hx hy

set_option maxHeartbeats 1600000 in
attribute [local simp] undefA List.getElem?_cons_zero List.getElem?_cons_succ in
theorem sure1_ok {σ : St} {x y : Nat} {fid : FuncId} {Fn : Nat → Nat → Nat} (hcb : callable Try.prog fid = true) (hf : ∀ (σ : St) (x y : Nat), x < 2 ^ 256 → y < 2 ^ 256 → CallsA Try.prog fid [.agg (numA x), .agg (numA y)] σ (fun av σ' => av = .agg (numA (Fn x y)) ∧ σ = σ')) (hx : x < 2 ^ 256) (hy : y < 2 ^ 256) :
    CallsA Try.prog 127 [.agg (numA x), .agg (numA y), .ep [.fn fid []]] σ (fun av σ' => av = .tup [.agg (numA (Fn x y)), .v (.int .i64 0)] ∧ σ = σ') := by
  refine callsA_gcS ?_ (by simp [AV.under, underL])
  have F := And.intro hcb (True.intro)
  refine callsA_body Try.func127 rfl rfl rfl ?_; refine sr fun _ hJ2 => ?_; refine hJ2 _ _ ?_; refine sr fun _ hJ4 => ?_; refine ca (c := hf _ _ _ hx hy) (k := ?_); rintro _ _ ⟨rfl, rfl⟩; (repeat (first | simp [F] | simp (disch := omega) only [wC, if_pos, if_neg])); refine hJ4 _ _ ?_; refine run_ret ?_; (try simp only [Then, InBlock, NoGoto]); refine acell2 (h := ?_); exact gcr

set_option maxHeartbeats 1600000 in
attribute [local simp] undefA List.getElem?_cons_zero List.getElem?_cons_succ in
theorem sure_raw {σ : St} {fid : FuncId} :
    CallsA Try.prog 118 [.fn fid []] σ (fun av σ' => av = .fn 127 [.ptr σ.objs.length 0] ∧ σ' = { σ with objs := σ.objs ++ [[.fn fid []]] }) := by
  have F := True.intro
  refine callsA_body Try.func118 rfl rfl rfl ?_; refine sr fun _ hJ2 => ?_; refine hJ2 _ _ ?_; refine sr fun _ hJ4 => ?_; refine hJ4 _ _ ?_; refine ra ?_; exact rt
theorem sure_ok {σ : St} {fid : FuncId} : CallsA Try.prog 118 [.fn fid []] σ (fun av σ' => av = .fn 127 [.ep [.fn fid []]] ∧ σ = σ') :=
  callsA_freeze sure_raw (by simp) rfl

theorem rest_fn : FnA 127 [.ep [.fn 98 []]] (fun x y => (x - y, 0)) := fun σ x y hx hy =>
  sure1_ok (Fn := fun x y => x - y) (by simp) (fun σ x y hx hy => nRest_ok hx hy) hx hy

set_option maxHeartbeats 1600000 in
attribute [local simp] undefA List.getElem?_cons_zero List.getElem?_cons_succ in
theorem cadd_ok {σ : St} {a b : List Coin} {ta tb : Tail} (ha : a.length ≤ 9223372036854775807) (hb : b.length ≤ 9223372036854775807) :
    CallsA Try.prog 64 [.sl 5 (coinsC a) a.length ta, .sl 5 (coinsC b) b.length tb] σ (fun av σ' => av = .tup [.sl 5 (coinsC (cAddL a b)) (cAddL a b).length .shut, .v (.int .i64 (cAddE a b : Nat))] ∧ σ = σ') := by
  have F := True.intro
  refine callsA_body Try.func64 rfl rfl rfl ?_; refine sr fun _ hJ2 => ?_; refine hJ2 _ _ ?_; refine sr fun _ hJ4 => ?_
  refine ca (c := each_ok ha hb (by simp) addE_fn (fun _ ↦ rfl) (fun x y _ _ ↦ addN_lt x y)) (k := ?_)
  rintro _ _ ⟨rfl, rfl⟩; (repeat (first | simp [F] | simp (disch := omega) only [wC, if_pos, if_neg])); refine hJ4 _ _ ?_; refine run_ret ?_; (try simp only [Then, InBlock, NoGoto]); refine answer_tmp2 rfl (.inr rfl) ?_; exact ⟨rfl, rfl⟩

set_option maxHeartbeats 1600000 in
attribute [local simp] undefA List.getElem?_cons_zero List.getElem?_cons_succ in
theorem crest_ok {σ : St} {a b : List Coin} {ta tb : Tail} (ha : a.length ≤ 9223372036854775807) (hb : b.length ≤ 9223372036854775807) :
    CallsA Try.prog 96 [.sl 5 (coinsC a) a.length ta, .sl 5 (coinsC b) b.length tb] σ (fun av σ' => av = .sl 5 (coinsC (cRest a b)) (cRest a b).length .shut ∧ σ = σ') := by
  have F := True.intro
  refine callsA_body Try.func96 rfl rfl rfl ?_; refine sr fun _ hJ2 => ?_; refine hJ2 _ _ ?_; refine sr fun _ hJ4 => ?_; refine ca (c := sure_ok) (k := ?_); rintro _ _ ⟨rfl, rfl⟩; repeat (first | simp [F] | simp (disch := omega) only [wC, if_pos, if_neg])
  refine ca (c := each_ok ha hb (by simp) rest_fn (fun _ ↦ rfl) (fun x y hx _ ↦ Nat.lt_of_le_of_lt (Nat.sub_le _ _) hx)) (k := ?_)
  rintro _ _ ⟨rfl, rfl⟩; (repeat (first | simp [F] | simp (disch := omega) only [wC, if_pos, if_neg])); refine hJ4 _ _ ?_; refine sr fun _ hJ6 => ?_; refine hJ6 _ _ ?_; refine ra ?_; exact ⟨rfl, rfl⟩

end Go.Proofs.Ytmponlabfccjaaa

/-
  Digits that are made right; numbers of digits.
-/
namespace Go.Vm
set_option linter.unnecessarySimpa false
set_option linter.unusedSimpArgs false
set_option linter.unusedVariables false
set_option exponentiation.threshold 600
open Go

theorem zeros64 {P : Program} {e : TypeId} (h : ti P e = some ⟨false, 1, 8, .int .u64 0⟩) (n : Nat) : zerosA P e n = some (u64s (List.replicate n 0)) := by
  have hz : zeroA P e = some (.v (.int .u64 0)) := by simp [zeroA, h, ofValue, ofCell, plain]
  have hz1 : (Value.int .u64 0).oneCell' = true := rfl
  simp only [zerosA, h, hz, AV.cells]
  simp [AV.isCell]
  apply List.ext_getElem
  · simp [u64s]
  · intro i h1 h2
    simp [u64s, Nat.mod_one]

end Go.Vm

/-
  The document's coins: rests, comparisons.
-/
namespace Go.Proofs.Ytmponlabfccjaaa
set_option linter.unnecessarySimpa false
set_option maxRecDepth 100000
open Go Go.Vm
set_option linter.unusedSimpArgs false
set_option linter.unusedVariables false
attribute [local simp] evalL wantedA isCall opA evalA evalAll evalsA evalOpt ofValue ofCell plain binA_eql_pn binA_neq_pn binA_gtr binA_lss binA_geq binA_leq binA_add binA_sub binA_eql binA_neq binA_orI binA_andI binA_shl binA_shr binA_mul binA_quo binA_rem binA_agg_eql binA_agg_neq convA_int unA_not fieldAddrA loadA partA pickA_true pickA_false pickA_bb lenA builtinA storeA splice AV.cells AV.isCell sliceA boundA intA callOf indexAddrA newObjA buildA fillA zeroA ofCells buildSliceA indexA fieldA numA_len4 numA_take4 numA_drop4 set_appN get_appN take_appN List.getElem?_cons_zero List.getElem?_cons_succ makeA zeros64

def cWith (a b : List Coin) : Prop := ∀ d, d < 8 → amt a d ≤ amt b d
instance (a b : List Coin) : Decidable (cWith a b) := inferInstanceAs (Decidable (∀ d, d < 8 → amt a d ≤ amt b d))

end Go.Proofs.Ytmponlabfccjaaa

/-
  A bank in a store: the plain law.
-/
namespace Go.Proofs.Ytmponlabfccjaaa
set_option linter.unnecessarySimpa false
set_option maxRecDepth 100000
open Go Go.Vm
set_option linter.unusedSimpArgs false
set_option linter.unusedVariables false
attribute [local simp] evalL wantedA isCall opA evalA evalAll evalsA evalOpt ofValue ofCell plain binA_eql_pn binA_neq_pn binA_gtr binA_lss binA_geq binA_leq binA_add binA_sub binA_eql binA_neq binA_orI binA_shl binA_shr binA_mul binA_quo binA_rem binA_agg_eql binA_agg_neq convA_int unA_not fieldAddrA loadA partA pickA_true pickA_false pickA_bb lenA builtinA storeA splice AV.cells AV.isCell sliceA boundA intA callOf indexAddrA newObjA buildA fillA zeroA ofCells buildSliceA indexA fieldA set_appN get_appN take_appN List.getElem?_cons_zero List.getElem?_cons_succ get_sa0 get_sa1 get_sa2 get_sa3 set_sa0 set_sa1 set_sa2 set_sa3 sliceRowA binA_eqn binA_neqn drop_mr

def enc (x : Nat) : Option (List UInt8) := if x = 0 then none else some (natBytes x)
def kk : Option UInt8 → List UInt8
  | none => [115]
  | some a => [98, a]
def key (o : Option UInt8) (d : UInt8) : List UInt8 := kk o ++ [d]
theorem key_inj {o o' : Option UInt8} {d d' : UInt8} : key o d = key o' d' ↔ o = o' ∧ d = d' := by
  cases o <;> cases o' <;> simp [key, kk]
theorem key_pre (o o' : Option UInt8) (d : UInt8) : preB (key o' d) (kk o) = decide (o' = o) := by
  cases o <;> cases o' <;> simp [key, kk, preB]
theorem key_len (o : Option UInt8) (d : UInt8) : (key o d).length ≤ 3 ∧ 2 ≤ (key o d).length := by cases o <;> simp [key, kk]
theorem kk_len (o : Option UInt8) : (kk o).length ≤ 2 := by cases o <;> simp [kk]
theorem enc_len {x : Nat} (hx : x < 2 ^ 256) : ((enc x).getD []).length ≤ 32 := by
  unfold enc; split
  · simp
  · simpa using natBytes_le hx
theorem enc_num {x : Nat} (hx : x < 2 ^ 256) : numOf ((enc x).getD []) = x := by
  unfold enc; split
  · rename_i h; subst h; rfl
  · rw [Option.getD_some, numOf, natBytes_ok hx]; simpa using be_natBytes x
abbrev Tb := Option UInt8 → List Coin
structure BankS (s : Sto) (T : Tb) (n : Nat) : Prop where
  ok : s.Ok n
  gt : ∀ o d, getL s.l (key o d) = enc (amt (T o) d.toNat)
  rt : ∀ o, Right (T o)
  ks : ∀ p ∈ s.l, ∃ o d, p.k = key o d
def upd (T : Tb) (o : Option UInt8) (l : List Coin) : Tb := fun o' => if o' = o then l else T o'
theorem upd_self (T : Tb) (o : Option UInt8) (l : List Coin) : upd T o l o = l := if_pos rfl
theorem upd_ne (T : Tb) {o o' : Option UInt8} (l : List Coin) (h : o' ≠ o) : upd T o l o' = T o' := if_neg h
theorem upd_upd (T : Tb) (o : Option UInt8) (l m : List Coin) : upd (upd T o l) o m = upd T o m := by
  funext o'; simp only [upd]; split <;> rfl
theorem upd_id (T : Tb) (o : Option UInt8) : upd T o (T o) = T := by
  funext o'; simp only [upd]; split
  · rename_i h; rw [h]
  · rfl
theorem amt_big {l : List Coin} (h : Right l) {d : Nat} (hd : 8 ≤ d) : amt l d = 0 := amt_none (fun c hc e => by
  have := h.1 c hc
  omega)
def setC (l : List Coin) (d x : Nat) : List Coin := lstF (fun i => if i = d then x else amt l i) 8
theorem setC_amt {l : List Coin} {d x i : Nat} (hx : x < 2 ^ 256) (hl : Right l) (hd : d < 8) : amt (setC l d x) i = if i = d then x else amt l i := by
  have hf : ∀ i, i < 8 → (if i = d then x else amt l i) < 2 ^ 256 := fun i _ => by split <;> first | exact hx | exact amt_lt l i
  by_cases h : i < 8
  · exact amt_lstF hf (Nat.le_refl 8) h
  · rw [setC, amt_big (right_lstF hf 8 (Nat.le_refl 8)) (by omega), if_neg (by omega), amt_big hl (by omega)]
theorem setC_right {l : List Coin} {d x : Nat} (hx : x < 2 ^ 256) : Right (setC l d x) := right_lstF (fun i _ => by split <;> first | exact hx | exact amt_lt l i) 8 (Nat.le_refl 8)
theorem BankS.set {s : Sto} {T : Tb} {n x : Nat} {o : Option UInt8} {d : UInt8} (h : BankS s T n) (hd : d.toNat < 8) (hx : x < 2 ^ 256) : BankS (doS s (key o d) (enc x)) (upd T o (setC (T o) d.toNat x)) (n + 1) := by
  have hl := enc_len hx
  have hk := key_len o d
  refine ⟨doS_ok h.ok (by omega) (by omega), fun o' d' => ?_, fun o' => ?_, fun p hp => ?_⟩
  · show getL (setL s.l _ _) _ = _
    rw [getL_setL h.ok.srt, h.gt]
    by_cases e : o' = o
    · subst e
      rw [upd_self, setC_amt hx (h.rt o') hd]
      by_cases e2 : d' = d
      · subst e2; rw [if_pos rfl, if_pos rfl]
      · rw [if_neg (fun q => e2 (key_inj.1 q).2), if_neg (fun q => e2 (UInt8.toNat_inj.1 q))]
    · rw [if_neg (fun q => e (key_inj.1 q).1), upd_ne _ _ e]
  · by_cases e : o' = o
    · subst e; rw [upd_self]; exact setC_right hx
    · rw [upd_ne _ _ e]; exact h.rt o'
  · rcases setL_mem hp with hp | hp
    · exact h.ks p hp
    · exact ⟨o, d, hp⟩
theorem BankS.mono {s : Sto} {T : Tb} {n m : Nat} (h : BankS s T n) (hm : n ≤ m) : BankS s T m := ⟨h.ok.mono hm, h.gt, h.rt, h.ks⟩
def tb0 : Tb := fun _ => []
theorem BankS.nil : BankS newSg.s tb0 0 := ⟨newSg_ok, fun o d => rfl, fun o => Go.Vm.right_nil, fun p hp => by simp [newSg] at hp⟩

def prT (o : Option UInt8) (c : Coin) : Pr := ⟨key o c.d, natBytes c.n.v⟩
theorem key_lt (o : Option UInt8) (a b : UInt8) : ltB (key o a) (key o b) = decide (a.toNat < b.toNat) := by
  cases o <;> simp only [key, kk, List.cons_append, List.nil_append, ltB, if_true] <;> (by_cases e : a = b <;> first | (subst e; simp; done) | (rw [if_neg e]))
theorem BankS.pl {s : Sto} {T : Tb} {n : Nat} (h : BankS s T n) (o : Option UInt8) : pl s.l (kk o) = (T o).map (prT o) := by
  have hR := h.rt o
  have s1 := pl_srt (p := kk o) h.ok.srt
  have s2 : Srt ((T o).map (prT o)) := by
    rw [Srt, List.pairwise_map]
    refine List.Pairwise.imp (fun {x y} hxy => ?_) hR.2
    show ltB (key o x.d) (key o y.d) = true
    rw [key_lt]; simpa using hxy
  have m1 : ∀ p ∈ Proofs.Ytmponlabfccjaaa.pl s.l (kk o), p ∈ (T o).map (prT o) := fun p hp => by
    have hp2 := List.mem_filter.1 hp
    obtain ⟨o', d, hk⟩ := h.ks p hp2.1
    have hpre := hp2.2
    rw [hk, key_pre, decide_eq_true_eq] at hpre
    subst hpre
    have hg := getL_of_mem h.ok.srt hp2.1
    rw [hk, h.gt] at hg
    have hne : amt (T o') d.toNat ≠ 0 := fun e => by rw [e] at hg; simp [enc] at hg
    have hex : ∃ c ∈ T o', c.d.toNat = d.toNat := Classical.byContradiction fun hx => hne (amt_none (fun c hc e => hx ⟨c, hc, e⟩))
    obtain ⟨c, hc, hcd⟩ := hex
    have hcn := amt_mem hR.2 hc
    rw [hcd] at hcn
    refine List.mem_map.2 ⟨c, hc, ?_⟩
    rw [hcn, enc, if_neg (by rw [← hcn]; exact hne)] at hg
    have e1 : c.d = d := UInt8.toNat_inj.1 hcd
    cases p with
    | mk k v =>
      simp only at hk hg
      simp only [prT, Pr.mk.injEq]
      exact ⟨by rw [hk, e1], by simpa using hg⟩
  have m2 : ∀ p ∈ (T o).map (prT o), p ∈ Proofs.Ytmponlabfccjaaa.pl s.l (kk o) := fun p hp => by
    obtain ⟨c, hc, rfl⟩ := List.mem_map.1 hp
    have hcn := amt_mem hR.2 hc
    have hg := h.gt o c.d
    rw [hcn, enc, if_neg (hR.1 c hc).2] at hg
    exact List.mem_filter.2 ⟨getL_mem hg, by show preB (key o c.d) (kk o) = true; rw [key_pre]; simp⟩
  exact (srt_sub s1 s2 m1).eq_of_length_le (srt_sub s2 s1 m2).length_le

def addC (a b : List Coin) : List Coin := lstF (fun d => amt a d + amt b d) 8
theorem addC_amt {a b : List Coin} (h : ∀ d, d < 8 → amt a d + amt b d < 2 ^ 256) {d : Nat} (hd : d < 8) : amt (addC a b) d = amt a d + amt b d := amt_lstF h (Nat.le_refl 8) hd
theorem addC_nil {a : List Coin} (h : Right a) : addC a [] = a := by
  have : addC a [] = lstF (amt a) 8 := lstF_congr (fun i _ => by simp [amt])
  rw [this]; exact lstF_amt h
theorem addC_step {a b : List Coin} {c : Coin} (hb : Right (b ++ [c])) (h : ∀ d, d < 8 → amt a d + amt (b ++ [c]) d < 2 ^ 256) : setC (addC a b) c.d.toNat (amt (addC a b) c.d.toNat + c.n.v) = addC a (b ++ [c]) ∧ amt (addC a b) c.d.toNat + c.n.v < 2 ^ 256 := by
  have hc8 : c.d.toNat < 8 := (hb.1 c (by simp)).1
  have hs := fun d => amt_snoc hb d
  have hlt := (right_snoc.1 hb).2.2
  have hb0 : amt b c.d.toNat = 0 := amt_none (fun x hx e => by have := hlt x hx; omega)
  have hle : ∀ d, d < 8 → amt a d + amt b d < 2 ^ 256 := fun d hd => by
    have := h d hd
    rw [hs] at this
    by_cases e : d = c.d.toNat
    · subst e; rw [hb0]; have := amt_lt a c.d.toNat; omega
    · rw [if_neg e] at this; exact this
  have hx := addC_amt hle hc8
  rw [hb0, Nat.add_zero] at hx
  have h8 := h c.d.toNat hc8
  rw [hs, if_pos rfl] at h8
  refine ⟨lstF_congr (fun i hi => ?_), by rw [hx]; exact h8⟩
  rw [hs]
  by_cases e : i = c.d.toNat
  · subst e; rw [if_pos rfl, if_pos rfl, hx]
  · rw [if_neg e, if_neg e, addC_amt hle hi]
theorem cRest_nil {a : List Coin} (h : Right a) : cRest a [] = a := by
  rw [cRest_eq]
  have : lstF (fun d => amt a d - amt [] d) 8 = lstF (amt a) 8 := lstF_congr (fun i _ => by simp [amt])
  rw [this]; exact lstF_amt h
theorem cRest_step {a b : List Coin} {c : Coin} (hb : Right (b ++ [c])) : setC (cRest a b) c.d.toNat (amt (cRest a b) c.d.toNat - c.n.v) = cRest a (b ++ [c]) := by
  have hc8 : c.d.toNat < 8 := (hb.1 c (by simp)).1
  have hs := fun d => amt_snoc hb d
  have hlt := (right_snoc.1 hb).2.2
  have hb0 : amt b c.d.toNat = 0 := amt_none (fun x hx e => by have := hlt x hx; omega)
  have hx := amt_cRest a b hc8
  rw [hb0, Nat.sub_zero] at hx
  rw [cRest_eq a (b ++ [c])]
  refine lstF_congr (fun i hi => ?_)
  rw [hs]
  by_cases e : i = c.d.toNat
  · subst e; rw [if_pos rfl, if_pos rfl, hx]
  · rw [if_neg e, if_neg e, amt_cRest a b hi]

set_option maxHeartbeats 1600000 in
attribute [local simp] undefA List.getElem?_cons_zero List.getElem?_cons_succ numA in
theorem read_ok2 {σ : St} {o k n x : Nat} {G : Sg} {K : List UInt8} {t : Tail} (h : HasS σ o k G) (hG : G.s.Ok n) (hn : n ≤ 900000) (hg : getL G.s.l K = enc x) (hx : x < 2 ^ 256) :
    CallsA Try.prog 52 [.ptr o 0, .sl 1 (bytesA K) K.length t] σ (fun av σ' => av = .agg (numA x) ∧ σ = σ') := by
  refine callsA_gcS ?_ rfl
  have hge := fun l => get_ok (key := K) (t1 := t) (h.app l σ.toks) hG (by omega)
  rw [hg] at hge
  obtain ⟨P, hP⟩ : ∃ P, P = (enc x).getD [] := ⟨_, rfl⟩
  have hrd := fun τ => read_num (σ := τ) (p := P)
  have hnp : numOf P = x := by rw [hP]; exact enc_num hx
  simp only [hnp] at hrd
  rw [← hP] at hge
  obtain ⟨b, hb⟩ : ∃ b, b = (enc x).isSome := ⟨_, rfl⟩
  rw [← hb] at hge
  have F := True.intro
  refine callsA_body Try.func52 rfl rfl rfl ?_; refine sr fun _ hJ2 => ?_; refine hJ2 _ _ ?_; refine sr fun _ hJ4 => ?_; refine ca (c := hge _) (k := ?_); rintro _ _ ⟨rfl, rfl⟩; (repeat (first | simp [F] | simp (disch := omega) only [wC, if_pos, if_neg])); refine hJ4 _ _ ?_; refine sr fun _ hJ6 => ?_; refine ca (c := hrd _) (k := ?_); rintro _ _ ⟨rfl, rfl⟩; (repeat (first | simp [F] | simp (disch := omega) only [wC, if_pos, if_neg])); refine hJ6 _ _ ?_; refine sr fun _ hJ8 => ?_; refine hJ8 _ _ ?_; refine run_ret ?_; (try simp only [Then, InBlock, NoGoto]); refine acell (h := ?_); exact gcr

set_option maxHeartbeats 1600000 in
attribute [local simp] undefA List.getElem?_cons_zero List.getElem?_cons_succ numA in
theorem read_nil2 {σ : St} {a : AV} : CallsA Try.prog 52 [.v (.pointer none), a] σ (fun av σ' => av = .agg (numA 0) ∧ σ = σ') := by
  refine callsA_gcS ?_ rfl
  have hrd : ∀ τ, CallsA Try.prog 86 [.sl 1 [] 0 .shut] τ (fun av σ' => av = .tup [.agg (numA 0), .v (.int .i64 0)] ∧ τ = σ') := fun τ => read_num (σ := τ) (p := [])
  have hgn : ∀ τ, CallsA Try.prog 71 [.v (.pointer none), a] τ (fun av σ' => av = .tup [.sl 1 [] 0 .shut, .v (.bool false)] ∧ τ = σ') := fun τ => getN_ok (σ := τ) (a := a)
  have F := True.intro
  refine callsA_body Try.func52 rfl rfl rfl ?_; refine sr fun _ hJ2 => ?_; refine hJ2 _ _ ?_; refine sr fun _ hJ4 => ?_; refine ca (c := hgn _) (k := ?_); rintro _ _ ⟨rfl, rfl⟩; (repeat (first | simp [F] | simp (disch := omega) only [wC, if_pos, if_neg])); refine hJ4 _ _ ?_; refine sr fun _ hJ6 => ?_; refine ca (c := hrd _) (k := ?_); rintro _ _ ⟨rfl, rfl⟩; (repeat (first | simp [F] | simp (disch := omega) only [wC, if_pos, if_neg])); refine hJ6 _ _ ?_; refine sr fun _ hJ8 => ?_; refine hJ8 _ _ ?_; refine run_ret ?_; (try simp only [Then, InBlock, NoGoto]); refine acell (h := ?_); exact gcr

set_option maxHeartbeats 1600000 in
attribute [local simp] undefA List.getElem?_cons_zero List.getElem?_cons_succ in
theorem write_ok2 {σ : St} {o k n x : Nat} {G : Sg} {K : List UInt8} {t : Tail} (h : HasS σ o k G) (hG : G.s.Ok n) (hn : n ≤ 900000) (hx : x < 2 ^ 256) (hK : K.length ≤ 1000) :
    CallsA Try.prog 97 [.ptr o 0, .agg (numA x), .sl 1 (bytesA K) K.length t] σ (fun av σ' => ∃ G', G'.s = doS G.s K (enc x) ∧ av = .tup [] ∧ σ' = putS σ o k G') := by
  have hpa := fun (G' : Sg) (l : List (List AV)) => putS_app h G' l
  have hz := cellsEq_num0 ⟨x, hx⟩
  simp only [numA] at hz
  have h32 := natBytes_le hx
  have hde := fun l => del_ok (key := K) (t1 := t) (h.app l σ.toks) hG (by omega) (by omega)
  have hse := fun l => set_ok (key := K) (val := natBytes x) (t1 := t) (t2 := .shut) (h.app l σ.toks) hG (by omega) (by omega) (by omega)
  have hby := fun τ => bytes_ok (σ := τ) hx
  simp only [numA] at hby
  obtain ⟨B, hB⟩ : ∃ B, B = natBytes x := ⟨_, rfl⟩
  simp only [← hB] at hse hby
  obtain ⟨E, hE⟩ : ∃ E, E = enc x := ⟨_, rfl⟩
  rw [← hE]
  refine callsA_mono (callsA_gcSt (X := Nat × Nat × Nat) (A := fun _ => .tup []) (T := fun y => ⟨doS G.s K E, y.1, y.2.1, y.2.2⟩) h (fun _ => rfl) ?_) (fun av σ' ⟨x, e1, e2⟩ => ⟨_, rfl, e1, e2⟩); simp only [numA]
  have F := And.intro hz (True.intro)
  refine callsA_body Try.func97 rfl rfl rfl ?_; refine sr fun _ hJ2 => ?_; refine hJ2 _ _ ?_; refine sq fun K3 hK3 => ?_; refine sr fun _ hJ5 => ?_; refine hJ5 _ _ ?_; refine cs (fun c8 => ?_) (fun c8 => ?_)
  · (try exact nope c8); all_goals have c8p := c8; try simp [F] at c8p
    all_goals
     replace F := aF c8 F; try replace F := aF c8p F
     have hx0 : x = 0 := by have h := c8; simpa using h
     have hE0 : E = none := by rw [hE, enc, if_pos hx0]
     refine sr fun _ hJ7 => ?_; refine ca (c := hde _) (k := ?_); rintro _ _ ⟨G', e0, rfl, rfl⟩; (repeat (first | simp [F] | simp (disch := omega) only [wC, if_pos, if_neg])); refine hJ7 _ _ ?_; refine run_ret ?_; (try simp only [Then, InBlock, NoGoto, if_true]); refine answer_none rfl (.inr rfl) ?_
     obtain ⟨gs, a1, a2, a3⟩ := G'
     simp only at e0
     rw [← hE0] at e0
     subst e0
     refine ⟨(a1, a2, a3), ?_⟩
     rw [hpa]
     exact gcr
  (try exact nope c8); all_goals have c8p := c8; try simp [F] at c8p
  all_goals
   replace F := aF c8 F; try replace F := aF c8p F
   have hx0 : ¬ x = 0 := by have h := c8; simpa using h
   have hE0 : E = some B := by rw [hE, enc, if_neg hx0, hB]
   refine run_skip ?_; refine hK3 _ _ ?_; refine rg' (h := fun J8 hJ8 => ?_); refine ca (c := hby _) (k := ?_); rintro _ _ ⟨rfl, rfl⟩; (repeat (first | simp [F] | simp (disch := omega) only [wC, if_pos, if_neg])); refine ca (c := hse _) (k := ?_); rintro _ _ ⟨G', e0, rfl, rfl⟩; (repeat (first | simp [F] | simp (disch := omega) only [wC, if_pos, if_neg])); refine hJ8 _ _ ?_; (try simp only [Then, InBlock, NoGoto, if_true]); refine answer_none rfl (.inl rfl) ?_
   obtain ⟨gs, a1, a2, a3⟩ := G'
   simp only at e0
   rw [← hE0] at e0
   subst e0
   refine ⟨(a1, a2, a3), ?_⟩
   rw [hpa]
   exact gcr

set_option maxHeartbeats 1600000 in
attribute [local simp] undefA List.getElem?_cons_zero List.getElem?_cons_succ drop_mr lsA_nil lsT_nil lsZ_nil lsL_nil gcO_ls noObj_ls kysC_noObj bytes_noObj in
theorem list_ok2 {σ : St} {o k n : Nat} {G : Sg} {T : Tb} {O : Option UInt8} {t : Tail} (h : HasS σ o k G) (hi : BankS G.s T n) (hn : n ≤ 100000) :
    CallsA Try.prog 54 [.ptr o 0, .sl 1 (bytesA (kk O)) (kk O).length t] σ (fun av σ' => av = .sl 5 (coinsC (T O)) (T O).length .shut ∧ σ = σ') := by
  refine callsA_gcS ?_ (by simp [AV.under])
  have hkl0 := kk_len O
  have hke := keys_ok (p := kk O) (t := t) h hi.ok (by omega)
  have hkl : keysL G.s.l (kk O) = (T O).map fun c => key O c.d := by rw [keysL_filter hi.ok.srt]; show (pl G.s.l (kk O)).map (·.k) = _; rw [hi.pl, List.map_map]; rfl
  rw [hkl, List.length_map] at hke
  have hol := lt_of_get h.o
  have hRt := hi.rt O
  have h8 := right_len hRt
  obtain ⟨L, hL⟩ : ∃ L, L = T O := ⟨_, rfl⟩
  have hva : ∀ (j : Nat) (hj : j < L.length) tk, CallsA Try.prog 52 [.ptr o 0, .sl 1 (bytesA (key O L[j].d)) (key O L[j].d).length .shut] { σ with toks := tk } (fun av σ' => av = .agg (numA L[j].n.v) ∧ { σ with toks := tk } = σ') := fun j hj tk => by
    subst hL
    have hg := hi.gt O (T O)[j].d
    rw [amt_mem hRt.2 (List.getElem_mem hj)] at hg
    exact read_ok2 (by simpa using h.app [] tk) hi.ok (by omega) hg (T O)[j].n.h
  rw [← hL] at hke h8 hRt ⊢
  obtain ⟨K, hK⟩ : ∃ K, K = L.map fun c => key O c.d := ⟨_, rfl⟩
  have hKl : K.length = L.length := by rw [hK, List.length_map]
  rw [← hK] at hke
  have hkc := kysC_len K
  rw [hKl] at hkc
  have hap : ∀ (O : List Coin) (x : Coin) objs, O.length ≤ 1000000 → appendA Try.prog 29 (lsA σ.toks.length 5 (coinsC O) O.length) (.sl 5 (coinC x) 1 .full) ⟨objs, σ.toks ++ lsT O.length, σ.gl, σ.rows⟩ = some (lsA σ.toks.length 5 (coinsC (O ++ [x])) (O.length + 1), ⟨objs, σ.toks ++ lsT (O.length + 1), σ.gl, σ.rows⟩) := fun O x objs hO => by
    rw [← coinsC_snoc]
    exact append_ls elemT_29 ti_93 (by decide) rfl (fun h => by rw [List.eq_nil_of_length_eq_zero h]; rfl) rfl (by omega) (by simp only [roomA]; omega) (by simp only [maxLen]; omega)
  have F := And.intro hol (And.intro hkc (And.intro hKl (True.intro)))
  refine callsA_body Try.func54 rfl rfl rfl ?_; refine sr fun _ hJ2 => ?_; refine hJ2 _ _ ?_; refine sr fun _ hJ4 => ?_; refine hJ4 _ _ ?_; refine sq fun K5 hK5 => ?_; refine sr fun _ hJ7 => ?_; refine ca (c := hke) (k := ?_); rintro _ _ ⟨rfl, rfl⟩; (repeat (first | simp [F] | simp (disch := omega) only [wC, if_pos, if_neg])); refine hJ7 _ _ ?_; refine run_block_k ?_; refine run_loopF (X := Nat) [0, 4, 10, 11] (fun j ρ σ1 => (j ≤ L.length) ∧ (ρ 12 = .v (.int .i64 j)) ∧ (ρ 5 = lsA σ.toks.length 5 (coinsC (L.take j)) j) ∧ (σ1 = { σ with toks := σ.toks ++ lsT j })) (fun j => L.length - j) (0) ?st1 ?rd1
  case st1 =>
   refine ⟨lp, lp, lp, ?_⟩
   · simp [lsT_nil]
  case rd1 =>
   rintro j ρ1 σ1 hF1 ⟨h1, h16, h7, hσ⟩; obtain rfl := hσ.symm
   have f1 := keepL hF1
   (try simp [KeepL, F] at f1); replace F := aF h16 F; replace F := aF h7 F; (try replace F := aF f1 F); refine sr fun _ hJ9 => ?_; refine hJ9 _ _ ?_; refine sq fun K10 hK10 => ?_; refine cs (fun c13 => ?_) (fun c13 => ?_)
   · (try exact nope c13); all_goals have c13p := c13; try simp [F] at c13p
     all_goals
      replace F := aF c13 F; try replace F := aF c13p F
      have hlt : j < L.length := by have h := c13; simp at h; omega
      obtain ⟨x, hx⟩ : ∃ x, x = key O L[j].d := ⟨_, rfl⟩
      have hxl := key_len O L[j].d
      rw [← hx] at hxl
      have hgK : ∀ h : j < (kysC K).length, (kysC K)[j]'h = .sl 1 (bytesA x) x.length .shut := fun h => by rw [kysC_ix (by omega) h]; simp only [hK, List.getElem_map, hx]
      have hv1 := hva j hlt
      rw [← hx] at hv1
      have hj1 : j + 1 ≤ L.length := hlt
      have hbl : (bytesA x).length = x.length := by simp
      have hlast : ∀ h2 : x.length - 1 < (bytesA x).length, (bytesA x)[x.length - 1]'h2 = .v (.int .u8 (L[j].d.toNat : Nat)) := fun h2 => by
        have e : (bytesA x)[x.length - 1]? = some (.v (.int .u8 (L[j].d.toNat : Nat))) := by rw [hx]; cases O <;> rfl
        exact (List.getElem?_eq_some_iff.1 e).2
      have hsub : IntKind.i64.wrap ((x.length : Int) - 1) = ((x.length - 1 : Nat) : Int) := by rw [wrap_i64 _ (by omega) (by omega)]; omega
      have hx1 : x.length - 1 < x.length := by omega
      have hx0 : (0 : Int) ≤ (x.length - 1 : Nat) := by omega
      have hTj : (L.take j).length = j := by rw [List.length_take]; omega
      have hta : L.take j ++ [L[j]] = L.take (j + 1) := List.take_append_getElem hlt
      have hap0 := fun objs => hap (L.take j) L[j] objs (by omega)
      simp only [hta, hTj] at hap0
      have hcc : AV.v (.int .u8 (L[j].d.toNat : Nat)) :: numA L[j].n.v = coinC L[j] := rfl
      have hnl : (numA L[j].n.v).length = 4 := rfl
      have hec : (coinC L[j]).length = 5 := rfl
      have hnc : (∀ x, x ∈ numA L[j].n.v → x.isCell = true) = True := eq_true (fun x hx => by simp only [numA, List.mem_cons, List.not_mem_nil, or_false] at hx; rcases hx with rfl | rfl | rfl | rfl <;> rfl)
      have hcl : (∀ x, x ∈ coinC L[j] → x.isCell = true) = True := eq_true (fun x hx => by simp only [coinC, numA, List.mem_cons, List.not_mem_nil, or_false] at hx; rcases hx with rfl | rfl | rfl | rfl | rfl <;> rfl)
      obtain ⟨N, hN⟩ : ∃ N, N = numA L[j].n.v := ⟨_, rfl⟩
      obtain ⟨Q, hQ⟩ : ∃ Q, Q = coinC L[j] := ⟨_, rfl⟩
      rw [← hN] at hnl hnc
      rw [← hQ] at hec hcl
      rw [← hN, ← hQ] at hcc
      simp only [← hN] at hv1
      simp only [← hQ] at hap0
      simp only [AV.isCell] at hcl hnc
      have hap1 : ∀ objs, appendA Try.prog 29 (lsA σ.toks.length 5 (coinsC (L.take j)) j) (.sl 5 (AV.v (.int .u8 (L[j].d.toNat : Nat)) :: N) 1 .full) ⟨objs, σ.toks ++ lsT j, σ.gl, σ.rows⟩ = some (lsA σ.toks.length 5 (coinsC (L.take (j + 1))) (j + 1), ⟨objs, σ.toks ++ lsT (j + 1), σ.gl, σ.rows⟩) := fun objs => by rw [hcc]; exact hap0 objs
      replace F := aF hlt (And.intro hgK (And.intro hj1 (And.intro hbl (And.intro hlast (And.intro hsub (And.intro hx1 (And.intro hx0 (And.intro hnl (And.intro hnc (And.intro hap1 F)))))))))); refine run_skip ?_; refine hK10 _ _ ?_; refine sq fun K11 hK11 => ?_; refine run_block_k ?_; refine sr fun _ hJ13 => ?_; refine hJ13 _ _ ?_
      refine run_draw (by kernel_rfl) fun J14 hJ14 => ?_
      refine rp2 0 (k := ?_); refine rp2 1 (k := ?_); refine rp2 2 (k := ?_); refine rp2 3 (k := ?_); refine rp2 4 (k := ?_); refine rp2 5 (k := ?_); refine rp2 6 (k := ?_); refine rp2 7 (k := ?_); refine rp2 8 (k := ?_); refine dc 9 rfl (c := hv1 _) (k := ?_); rintro _ _ ⟨rfl, rfl⟩
      refine ⟨by first | exact fun _ _ h => h | (refine later_list [6, 5, 4, 3, 2, 1, 0] (by kernel_rfl) (List.forall_mem_cons.2 ⟨fun _ => fact2 rfl rfl ?_, List.forall_mem_cons.2 ⟨fun _ => fact2 rfl rfl ?_, List.forall_mem_cons.2 ⟨fun _ => fact2 rfl rfl ?_, List.forall_mem_cons.2 ⟨fun _ => fact2 rfl rfl ?_, List.forall_mem_cons.2 ⟨fun _ => fact2 rfl rfl ?_, List.forall_mem_cons.2 ⟨fun _ => fact2 rfl rfl ?_, List.forall_mem_cons.2 ⟨fun _ => fact2 rfl rfl ?_, fun _ h => absurd h List.not_mem_nil⟩⟩⟩⟩⟩⟩⟩) <;> constructor <;> first | rfl | (simp [F]; done)), ?_⟩
      (repeat (first | simp [F] | simp (disch := omega) only [wC, if_pos, if_neg])); refine rp2 10 (k := ?_); refine rp2 11 (k := ?_); refine dop 12 rfl ?_; repeat (first | simp [F] | simp (disch := omega) only [wC, if_pos, if_neg])
      refine ⟨by first | exact fun _ _ h => h | (refine later_list [10, 6, 5, 4, 3, 2, 1] (by kernel_rfl) (List.forall_mem_cons.2 ⟨fun _ => fact2 rfl rfl ?_, List.forall_mem_cons.2 ⟨fun _ => fact2 rfl rfl ?_, List.forall_mem_cons.2 ⟨fun _ => fact2 rfl rfl ?_, List.forall_mem_cons.2 ⟨fun _ => fact2 rfl rfl ?_, List.forall_mem_cons.2 ⟨fun _ => fact2 rfl rfl ?_, List.forall_mem_cons.2 ⟨fun _ => fact2 rfl rfl ?_, List.forall_mem_cons.2 ⟨fun _ => fact2 rfl rfl ?_, fun _ h => absurd h List.not_mem_nil⟩⟩⟩⟩⟩⟩⟩) <;> constructor <;> first | rfl | (simp [F]; done)), ?_⟩
      refine dop 13 rfl ?_; (repeat (first | simp [F] | simp (disch := omega) only [wC, if_pos, if_neg])); (try refine ⟨ln, ?_⟩); refine dd ?_; refine hJ14 _ _ ?_; refine hK11 _ _ ?_; refine rg' (h := fun J15 hJ15 => ?_); refine hJ15 _ _ ?_; refine ⟨(j + 1), ⟨kp, lp, lp, lp, lp⟩, lp⟩
   (try exact nope c13); all_goals have c13p := c13; try simp [F] at c13p
   all_goals
    replace F := aF c13 F; try replace F := aF c13p F
    have hje : L.take j = L := List.take_of_length_le (by have h := c13; simp at h; omega)
    have hjl : j = L.length := by have h := c13; simp at h; omega
    have hwk := lsA_wk (k := σ.toks.length) (sz := 5) (n := j) (cs := coinsC L) (fun h => by rw [List.eq_nil_of_length_eq_zero (l := L) (by omega)]; rfl)
    refine run_exit ?_; refine hK5 _ _ ?_; refine sr fun _ hJ17 => ?_; refine hJ17 _ _ ?_; refine ra ?_
    rw [hje] at h7
    rw [← hjl]
    exact gcr (hA := by simp only [putA_get]; simp [F]; rw [hje]; exact hwk)
def isB (a : UInt8) : Bool := decide (a.toNat < 200) || (decide (200 ≤ a.toNat) && decide (a.toNat ≤ 204))
set_option maxHeartbeats 1600000 in
attribute [local simp] undefA List.getElem?_cons_zero List.getElem?_cons_succ in
theorem is_ok {σ : St} {a : UInt8} : CallsA Try.prog 23 [.v (.int .u8 a.toNat)] σ (fun av σ' => av = .v (.bool (isB a)) ∧ σ = σ') := by
  obtain ⟨B, hB⟩ : ∃ B, B = isB a := ⟨_, rfl⟩
  rw [← hB]
  have F := True.intro
  refine callsA_body Try.func23 rfl rfl rfl ?_; refine sr fun _ hJ2 => ?_; refine hJ2 _ _ ?_; refine sr fun _ hJ4 => ?_; refine gs 5 (fun g1_2 => ?_) (fun g1_2 => ?_)
  · (try exact nope g1_2); all_goals have g1_2p := g1_2; try simp [F] at g1_2p
    all_goals
     replace F := aF g1_2 F; try replace F := aF g1_2p F
     have h1 : a.toNat < 200 := by have h := g1_2; simp at h; omega
     have hb : B = true := by rw [hB, isB, decide_eq_true h1]; rfl
     replace F := aF hb F; (iterate 6 refine no2 (k := ?_)); refine hJ4 _ _ ?_; refine ra ?_; exact rt
  (try exact nope g1_2); all_goals have g1_2p := g1_2; try simp [F] at g1_2p
  all_goals
   replace F := aF g1_2 F; try replace F := aF g1_2p F
   have h1 : ¬ a.toNat < 200 := by have h := g1_2; simp at h; omega
   have hb : decide ((a.toNat : Int) ≤ 204) = B := by rw [hB, isB, decide_eq_false h1, decide_eq_true (by omega : 200 ≤ a.toNat)]; simp; omega
   have hb2 : decide (a.toNat ≤ 204) = B := by rw [hB, isB, decide_eq_false h1, decide_eq_true (by omega : 200 ≤ a.toNat)]; simp
   replace F := aF hb2 F
   have h2 : 200 ≤ a.toNat := by omega
   have h3 : (200 : Int) ≤ (a.toNat : Int) := by omega
   replace F := aF hb (And.intro h2 (And.intro h3 F)); (iterate 3 refine go2 (k := ?_)); refine gs 8 (fun g1_5 => ?_) (fun g1_5 => ?_)
   · (try exact nope g1_5); all_goals have g1_5p := g1_5; try simp [F] at g1_5p
     all_goals
      replace F := aF g1_5 F; (try replace F := aF g1_5p F); (iterate 3 refine go2 (k := ?_)); refine hJ4 _ _ ?_; refine ra ?_; exact rt
   (try exact nope g1_5); all_goals have g1_5p := g1_5; try simp [F] at g1_5p
   all_goals
    replace F := aF g1_5 F; (try replace F := aF g1_5p F); (iterate 2 refine no2 (k := ?_)); refine go2 (k := ?_); refine hJ4 _ _ ?_; refine ra ?_; exact rt
set_option maxHeartbeats 1600000 in
attribute [local simp] undefA List.getElem?_cons_zero List.getElem?_cons_succ in
theorem coinsB_ok {σ : St} {o k n : Nat} {G : Sg} {T : Tb} {a : UInt8} (h : HasS σ o k G) (hi : BankS G.s T n) (hn : n ≤ 100000) :
    CallsA Try.prog 22 [.ptr o 0, .v (.int .u8 a.toNat)] σ (fun av σ' => av = .sl 5 (coinsC (T (some a))) (T (some a)).length .shut ∧ σ = σ') := by
  have hl : CallsA Try.prog 54 [.ptr o 0, .sl 1 [.v (.int .u8 98), .v (.int .u8 a.toNat)] 2 .full] σ _ := list_ok2 (O := some a) (t := .full) h hi hn
  have F := True.intro
  refine callsA_body Try.func22 rfl rfl rfl ?_; refine sr fun _ hJ2 => ?_; refine hJ2 _ _ ?_; refine sr fun _ hJ4 => ?_; refine ca (c := hl) (k := ?_); rintro _ _ ⟨rfl, rfl⟩; (repeat (first | simp [F] | simp (disch := omega) only [wC, if_pos, if_neg])); refine hJ4 _ _ ?_; refine ra ?_; exact rt
set_option maxHeartbeats 1600000 in
attribute [local simp] undefA List.getElem?_cons_zero List.getElem?_cons_succ in
theorem supply_ok {σ : St} {o k n : Nat} {G : Sg} {T : Tb} (h : HasS σ o k G) (hi : BankS G.s T n) (hn : n ≤ 100000) :
    CallsA Try.prog 31 [.ptr o 0] σ (fun av σ' => av = .sl 5 (coinsC (T none)) (T none).length .shut ∧ σ = σ') := by
  have hl : CallsA Try.prog 54 [.ptr o 0, .sl 1 [.v (.int .u8 115)] 1 .full] σ _ := list_ok2 (O := none) (t := .full) h hi hn
  have F := True.intro
  refine callsA_body Try.func31 rfl rfl rfl ?_; refine sr fun _ hJ2 => ?_; refine hJ2 _ _ ?_; refine sr fun _ hJ4 => ?_; refine ca (c := hl) (k := ?_); rintro _ _ ⟨rfl, rfl⟩; (repeat (first | simp [F] | simp (disch := omega) only [wC, if_pos, if_neg])); refine hJ4 _ _ ?_; refine ra ?_; exact rt
set_option maxHeartbeats 1600000 in
attribute [local simp] undefA List.getElem?_cons_zero List.getElem?_cons_succ in
theorem balance_ok {σ : St} {o k n : Nat} {G : Sg} {T : Tb} {a d : UInt8} (h : HasS σ o k G) (hi : BankS G.s T n) (hn : n ≤ 100000) :
    CallsA Try.prog 18 [.ptr o 0, .v (.int .u8 a.toNat), .v (.int .u8 d.toNat)] σ (fun av σ' => av = .agg (numA (amt (T (some a)) d.toNat)) ∧ σ = σ') := by
  refine callsA_gcS ?_ rfl
  obtain ⟨x, hx⟩ : ∃ x, x = amt (T (some a)) d.toNat := ⟨_, rfl⟩
  have hg := hi.gt (some a) d
  rw [← hx] at hg
  have hr : ∀ l, CallsA Try.prog 52 [.ptr o 0, .sl 1 [.v (.int .u8 98), .v (.int .u8 a.toNat), .v (.int .u8 d.toNat)] 3 .full] { σ with objs := σ.objs ++ l } _ := fun l => read_ok2 (K := key (some a) d) (t := .full) (h.app l σ.toks) hi.ok (by omega) hg (by rw [hx]; exact amt_lt _ _)
  rw [← hx]
  simp only [numA] at hr ⊢
  have F := True.intro
  refine callsA_body Try.func18 rfl rfl rfl ?_; refine sr fun _ hJ2 => ?_; refine hJ2 _ _ ?_; refine sr fun _ hJ4 => ?_; refine ca (c := hr _) (k := ?_); rintro _ _ ⟨rfl, rfl⟩; (repeat (first | simp [F] | simp (disch := omega) only [wC, if_pos, if_neg])); refine hJ4 _ _ ?_; refine run_ret ?_; (try simp only [Then, InBlock, NoGoto]); refine acell (h := ?_); exact gcr

set_option maxHeartbeats 1600000 in
attribute [local simp] undefA List.getElem?_cons_zero List.getElem?_cons_succ in
theorem listN_ok {σ : St} {a : AV} : CallsA Try.prog 54 [.v (.pointer none), a] σ (fun av σ' => av = .sl 5 [] 0 .shut ∧ σ = σ') := by
  refine callsA_gcS ?_ rfl
  have F := True.intro
  refine callsA_body Try.func54 rfl rfl rfl ?_; refine sr fun _ hJ2 => ?_; refine hJ2 _ _ ?_; refine sr fun _ hJ4 => ?_; refine hJ4 _ _ ?_; refine sq fun K5 hK5 => ?_; refine sr fun _ hJ7 => ?_; refine ca (c := keysN_ok) (k := ?_); rintro _ _ ⟨rfl, rfl⟩; (repeat (first | simp [F] | simp (disch := omega) only [wC, if_pos, if_neg])); refine hJ7 _ _ ?_; refine run_block_k ?_; refine run_loopF (X := Nat) [0, 4, 10, 11] (fun j ρ σ1 => (ρ 12 = .v (.int .i64 0)) ∧ (ρ 5 = .sl 0 [] 0 .full) ∧ (σ1 = σ)) (fun j => 0) (0) ?st1 ?rd1
  case st1 =>
   refine ⟨lp, lp, lp⟩
  case rd1 =>
   rintro j ρ1 σ1 hF1 ⟨h16, h7, hσ⟩; obtain rfl := hσ.symm
   have f1 := keepL hF1
   (try simp [KeepL, F] at f1); replace F := aF h16 F; replace F := aF h7 F; (try replace F := aF f1 F); refine sr fun _ hJ9 => ?_; refine hJ9 _ _ ?_; refine sq fun K10 hK10 => ?_; refine cf ?_; refine run_exit ?_; refine hK5 _ _ ?_; refine sr fun _ hJ12 => ?_; refine hJ12 _ _ ?_; refine ra ?_; exact gcr
set_option maxHeartbeats 1600000 in
attribute [local simp] undefA List.getElem?_cons_zero List.getElem?_cons_succ in
theorem coinsBN_ok {σ : St} {a : UInt8} : CallsA Try.prog 22 [.v (.pointer none), .v (.int .u8 a.toNat)] σ (fun av σ' => av = .sl 5 [] 0 .shut ∧ σ = σ') := by
  have F := True.intro
  refine callsA_body Try.func22 rfl rfl rfl ?_; refine sr fun _ hJ2 => ?_; refine hJ2 _ _ ?_; refine sr fun _ hJ4 => ?_; refine ca (c := listN_ok) (k := ?_); rintro _ _ ⟨rfl, rfl⟩; (repeat (first | simp [F] | simp (disch := omega) only [wC, if_pos, if_neg])); refine hJ4 _ _ ?_; refine ra ?_; exact rt
set_option maxHeartbeats 1600000 in
attribute [local simp] undefA List.getElem?_cons_zero List.getElem?_cons_succ in
theorem supplyN_ok {σ : St} : CallsA Try.prog 31 [.v (.pointer none)] σ (fun av σ' => av = .sl 5 [] 0 .shut ∧ σ = σ') := by
  have F := True.intro
  refine callsA_body Try.func31 rfl rfl rfl ?_; refine sr fun _ hJ2 => ?_; refine hJ2 _ _ ?_; refine sr fun _ hJ4 => ?_; refine ca (c := listN_ok) (k := ?_); rintro _ _ ⟨rfl, rfl⟩; (repeat (first | simp [F] | simp (disch := omega) only [wC, if_pos, if_neg])); refine hJ4 _ _ ?_; refine ra ?_; exact rt
set_option maxHeartbeats 1600000 in
attribute [local simp] undefA List.getElem?_cons_zero List.getElem?_cons_succ in
theorem balanceN_ok {σ : St} {a d : UInt8} : CallsA Try.prog 18 [.v (.pointer none), .v (.int .u8 a.toNat), .v (.int .u8 d.toNat)] σ (fun av σ' => av = .agg (numA 0) ∧ σ = σ') := by
  refine callsA_gcS ?_ rfl
  have hr := fun τ a => read_nil2 (σ := τ) (a := a)
  simp only [numA] at hr ⊢
  have F := True.intro
  refine callsA_body Try.func18 rfl rfl rfl ?_; refine sr fun _ hJ2 => ?_; refine hJ2 _ _ ?_; refine sr fun _ hJ4 => ?_; refine ca (c := hr _ _) (k := ?_); rintro _ _ ⟨rfl, rfl⟩; (repeat (first | simp [F] | simp (disch := omega) only [wC, if_pos, if_neg])); refine hJ4 _ _ ?_; refine run_ret ?_; (try simp only [Then, InBlock, NoGoto]); refine acell (h := ?_); exact gcr

set_option maxHeartbeats 1600000 in
attribute [local simp] undefA List.getElem?_cons_zero List.getElem?_cons_succ in
theorem may1_ok {σ : St} {o : Nat} {l : List Coin} {a : UInt8} (hl : l.length ≤ 9223372036854775807) :
    CallsA Try.prog 60 [.ptr o 0, .sl 5 (coinsC l) l.length .shut, .sl 1 [.v (.int .u8 a.toNat)] 1 .full] σ (fun av σ' => av = .v (.bool (isB a && decide (Right l))) ∧ σ = σ') := by
  obtain ⟨B, hB⟩ : ∃ B, B = (isB a && decide (Right l)) := ⟨_, rfl⟩
  rw [← hB]
  have hr := right_ok (σ := σ) (tl := .shut) hl
  have hz := is_ok (σ := σ) (a := a)
  have F := True.intro
  refine callsA_body Try.func60 rfl rfl rfl ?_; refine sr fun _ hJ2 => ?_; refine hJ2 _ _ ?_; refine sq fun K3 hK3 => ?_; refine sr fun _ hJ5 => ?_; refine hJ5 _ _ ?_; refine run_block_k ?_; refine run_loopF (X := Nat) [0, 1, 9, 10] (fun j ρ σ1 => (j ≤ 1) ∧ (0 < j → isB a = true) ∧ (ρ 11 = .v (.int .i64 j)) ∧ (σ1 = σ)) (fun j => 1 - j) (0) ?st1 ?rd1
  case st1 =>
   refine ⟨lp, ?_, lp, lp⟩
   · intro h
     omega
  case rd1 =>
   rintro j ρ1 σ1 hF1 ⟨h1, h2, h3, hσ⟩; obtain rfl := hσ.symm
   have f1 := keepL hF1
   (try simp [KeepL, F] at f1); replace F := aF h3 F; (try replace F := aF f1 F); refine sr fun _ hJ7 => ?_; refine hJ7 _ _ ?_; refine sq fun K8 hK8 => ?_; refine cs (fun c12 => ?_) (fun c12 => ?_)
   · (try exact nope c12); all_goals have c12p := c12; try simp [F] at c12p
     all_goals
      replace F := aF c12 F; try replace F := aF c12p F
      have hj : j = 0 := by have h := c12; simp at h; omega
      subst hj
      refine run_skip ?_; refine hK8 _ _ ?_; refine sq fun K9 hK9 => ?_; refine run_block_k ?_; refine sr fun _ hJ11 => ?_; refine hJ11 _ _ ?_; refine sr fun _ hJ13 => ?_; refine ca (c := hz) (k := ?_); rintro _ _ ⟨rfl, rfl⟩; (repeat (first | simp [F] | simp (disch := omega) only [wC, if_pos, if_neg])); refine hJ13 _ _ ?_; refine cs (fun c17 => ?_) (fun c17 => ?_)
      · (try exact nope c17); all_goals have c17p := c17; try simp [F] at c17p
        all_goals
         replace F := aF c17 F; try replace F := aF c17p F
         have hb : B = false := by rw [hB]; have h := c17; simp at h; rw [h]; rfl
         replace F := aF hb F; refine sr fun _ hJ15 => ?_; refine hJ15 _ _ ?_; refine ra ?_; exact rt
      (try exact nope c17); all_goals have c17p := c17; try simp [F] at c17p
      all_goals
       replace F := aF c17 F; (try replace F := aF c17p F); refine run_skip ?_; refine hK9 _ _ ?_; refine rg' (h := fun J16 hJ16 => ?_); refine hJ16 _ _ ?_; refine ⟨(1), ⟨kp, lp, ?_, lp, lp⟩, lp⟩
       · intro _
         simpa using c17
   (try exact nope c12); all_goals have c12p := c12; try simp [F] at c12p
   all_goals
    replace F := aF c12 F; try replace F := aF c12p F
    have hj : j = 1 := by have h := c12; simp at h; omega
    have hia := h2 (by omega)
    have hb : B = decide (Right l) := by rw [hB, hia]; rfl
    replace F := aF hb F; refine run_exit ?_; refine hK3 _ _ ?_; refine sr fun _ hJ18 => ?_; refine go2 (k := ?_); refine ca (c := hr) (k := ?_); rintro _ _ ⟨rfl, rfl⟩; (repeat (first | simp [F] | simp (disch := omega) only [wC, if_pos, if_neg])); refine hJ18 _ _ ?_; refine ra ?_; exact rt
set_option maxHeartbeats 1600000 in
attribute [local simp] undefA List.getElem?_cons_zero List.getElem?_cons_succ in
theorem may2_ok {σ : St} {o : Nat} {l : List Coin} {a b : UInt8} (hl : l.length ≤ 9223372036854775807) :
    CallsA Try.prog 60 [.ptr o 0, .sl 5 (coinsC l) l.length .shut, .sl 1 [.v (.int .u8 a.toNat), .v (.int .u8 b.toNat)] 2 .full] σ (fun av σ' => av = .v (.bool (isB a && isB b && decide (Right l))) ∧ σ = σ') := by
  obtain ⟨B, hB⟩ : ∃ B, B = (isB a && isB b && decide (Right l)) := ⟨_, rfl⟩
  rw [← hB]
  have hr := right_ok (σ := σ) (tl := .shut) hl
  obtain ⟨A, hA⟩ : ∃ A : Nat → UInt8, A = fun j => if j = 0 then a else b := ⟨_, rfl⟩
  have hz := fun j => is_ok (σ := σ) (a := A j)
  have hAat : ∀ j, j < 2 → ∀ h2 : j < [AV.v (.int .u8 a.toNat), AV.v (.int .u8 b.toNat)].length, [AV.v (.int .u8 a.toNat), AV.v (.int .u8 b.toNat)][j]'h2 = .v (.int .u8 ((A j).toNat : Nat)) := fun j hj h2 => by
    rcases (by omega : j = 0 ∨ j = 1) with rfl | rfl <;> (rw [hA]; rfl)
  obtain ⟨C, hC⟩ : ∃ C, C = [AV.v (.int .u8 a.toNat), AV.v (.int .u8 b.toNat)] := ⟨_, rfl⟩
  have hCl : C.length = 2 := by rw [hC]; rfl
  rw [← hC] at hAat ⊢
  have F := And.intro hCl (True.intro)
  refine callsA_body Try.func60 rfl rfl rfl ?_; refine sr fun _ hJ2 => ?_; refine hJ2 _ _ ?_; refine sq fun K3 hK3 => ?_; refine sr fun _ hJ5 => ?_; refine hJ5 _ _ ?_; refine run_block_k ?_; refine run_loopF (X := Nat) [0, 1, 9, 10] (fun j ρ σ1 => (j ≤ 2) ∧ (∀ i, i < j → isB (A i) = true) ∧ (ρ 11 = .v (.int .i64 j)) ∧ (σ1 = σ)) (fun j => 2 - j) (0) ?st1 ?rd1
  case st1 =>
   refine ⟨lp, ?_, lp, lp⟩
   · intro i h
     omega
  case rd1 =>
   rintro j ρ1 σ1 hF1 ⟨h1, h2, h3, hσ⟩; obtain rfl := hσ.symm
   have f1 := keepL hF1
   (try simp [KeepL, F] at f1); replace F := aF h3 F; (try replace F := aF f1 F); refine sr fun _ hJ7 => ?_; refine hJ7 _ _ ?_; refine sq fun K8 hK8 => ?_; refine cs (fun c12 => ?_) (fun c12 => ?_)
   · (try exact nope c12); all_goals have c12p := c12; try simp [F] at c12p
     all_goals
      replace F := aF c12 F; try replace F := aF c12p F
      have hj : j < 2 := by have h := c12; simp at h; omega
      have e1 := hAat j hj
      have hj1 : j + 1 ≤ 2 := hj
      have hwi : IntKind.i64.wrap ((j : Int) + 1) = (j : Int) + 1 := wrap_i64 _ (by omega) (by omega)
      replace F := aF hj (And.intro e1 (And.intro hj1 (And.intro hwi F))); refine run_skip ?_; refine hK8 _ _ ?_; refine sq fun K9 hK9 => ?_; refine run_block_k ?_; refine sr fun _ hJ11 => ?_; refine hJ11 _ _ ?_; refine sr fun _ hJ13 => ?_; refine ca (c := hz j) (k := ?_); rintro _ _ ⟨rfl, rfl⟩; (repeat (first | simp [F] | simp (disch := omega) only [wC, if_pos, if_neg])); refine hJ13 _ _ ?_; refine cs (fun c17 => ?_) (fun c17 => ?_)
      · (try exact nope c17); all_goals have c17p := c17; try simp [F] at c17p
        all_goals
         replace F := aF c17 F; try replace F := aF c17p F
         have hb : B = false := by
           have h := c17; simp at h; rw [hB]; rcases (by omega : j = 0 ∨ j = 1) with rfl | rfl
           · have h5 : isB a = false := by simpa [hA] using h
             rw [h5]; rfl
           · have h5 : isB b = false := by simpa [hA] using h
             rw [h5]; simp
         replace F := aF hb F; refine sr fun _ hJ15 => ?_; refine hJ15 _ _ ?_; refine ra ?_; exact rt
      (try exact nope c17); all_goals have c17p := c17; try simp [F] at c17p
      all_goals
       replace F := aF c17 F; (try replace F := aF c17p F); refine run_skip ?_; refine hK9 _ _ ?_; refine rg' (h := fun J16 hJ16 => ?_); refine hJ16 _ _ ?_; refine ⟨(j + 1), ⟨kp, lp, ?_, lp, lp⟩, lp⟩
       · intro i hi
         by_cases e : i = j
         · rw [e]; simpa using c17
         · exact h2 i (by omega)
   (try exact nope c12); all_goals have c12p := c12; try simp [F] at c12p
   all_goals
    replace F := aF c12 F; try replace F := aF c12p F
    have hj : j = 2 := by have h := c12; simp at h; omega
    have hia : isB a = true := by have := h2 0 (by omega); simpa [hA] using this
    have hib : isB b = true := by have := h2 1 (by omega); simpa [hA] using this
    have hb : B = decide (Right l) := by rw [hB, hia, hib]; rfl
    replace F := aF hb F; refine run_exit ?_; refine hK3 _ _ ?_; refine sr fun _ hJ18 => ?_; refine go2 (k := ?_); refine ca (c := hr) (k := ?_); rintro _ _ ⟨rfl, rfl⟩; (repeat (first | simp [F] | simp (disch := omega) only [wC, if_pos, if_neg])); refine hJ18 _ _ ?_; refine ra ?_; exact rt
def gB (σ : St) (o k : Nat) (G : Sg) (l : List (List AV)) (t : List Nat) : St := putS { σ with objs := σ.objs ++ l, toks := σ.toks ++ t } o k G
theorem gB.has {σ : St} {o k : Nat} {G0 : Sg} (h : HasS σ o k G0) (G : Sg) (l : List (List AV)) (t : List Nat) : HasS (gB σ o k G l t) o k G := (h.app l (σ.toks ++ t)).put G
theorem gB.put (σ : St) (o k : Nat) (G G' : Sg) (l : List (List AV)) (t : List Nat) : putS (gB σ o k G l t) o k G' = gB σ o k G' l t := putS_put _ _ _ _ _
theorem gB.len (σ : St) (o k : Nat) (G : Sg) (l : List (List AV)) (t : List Nat) : (gB σ o k G l t).objs.length = σ.objs.length + l.length := by simp [gB, putS]
theorem gB.app {σ : St} {o k : Nat} {G0 : Sg} (h : HasS σ o k G0) (G : Sg) (l : List (List AV)) (t : List Nat) (x : List AV) (y : Nat) : { gB σ o k G l t with objs := (gB σ o k G l t).objs ++ [x], toks := (gB σ o k G l t).toks ++ [y] } = gB σ o k G (l ++ [x]) (t ++ [y]) := by
  have hl := lt_of_get h.o
  simp only [gB, putS]
  rw [← List.append_assoc, ← List.append_assoc, List.set_append_left _ _ (by simp; omega : o < (σ.objs ++ l).length)]
theorem gB.app1 {σ : St} {o k : Nat} {G0 : Sg} (h : HasS σ o k G0) (G : Sg) (l : List (List AV)) (t : List Nat) (x : List AV) : { gB σ o k G l t with objs := (gB σ o k G l t).objs ++ [x] } = gB σ o k G (l ++ [x]) t := by
  have hl := lt_of_get h.o
  simp only [gB, putS]
  rw [← List.append_assoc, List.set_append_left _ _ (by simp; omega : o < (σ.objs ++ l).length)]
theorem gB.get {σ : St} {o k : Nat} {G0 : Sg} (h : HasS σ o k G0) (G : Sg) (l m : List (List AV)) (t : List Nat) (x : List AV) : (gB σ o k G (l ++ x :: m) t).objs[σ.objs.length + l.length]? = some x := by
  have hl := lt_of_get h.o
  simp only [gB, putS]
  rw [List.getElem?_set_ne (by omega), List.getElem?_append_right (by omega), Nat.add_sub_cancel_left, List.getElem?_append_right (Nat.le_refl _), Nat.sub_self]; rfl
theorem gB.self {σ : St} {o k : Nat} {G : Sg} (h : HasS σ o k G) : gB σ o k G [] [] = σ := by
  simp only [gB, List.append_nil]; exact putS_self h
theorem gB.fin {σ : St} {o k : Nat} {G0 : Sg} (h : HasS σ o k G0) (G : Sg) (l : List (List AV)) (t : List Nat) : gB σ o k G l t = { putS σ o k G with objs := (putS σ o k G).objs ++ l, toks := σ.toks ++ t } := putS_at h l (σ.toks ++ t) G

theorem app_b1 {K : List UInt8} {tl : Tail} (hl : K.length ≤ 1000) (objs : List (List AV)) (tk : List Nat) (gl : Nat → Option (List AV)) (rows : List RowSt) : appendA Try.prog 109 (.sl 0 [] 0 .full) (.sl 1 (bytesA K) K.length tl) ⟨objs, tk, gl, rows⟩ = some (.sl 1 (bytesA K) K.length (.own tk.length), ⟨objs, tk ++ [K.length], gl, rows⟩) := by
  have e1 := elemT_109
  have e2 := ti_5
  have h1 : K.length ≤ 9223372036854775807 := by omega
  have h2 : K.length ≤ 140737488355328 := by omega
  simp [appendA, readA, e1, e2, roomA, maxLen, h1, h2, Value.cells]
theorem app_b2 {cs : List AV} {n : Nat} {x : AV} (hl : n ≤ 1000) (objs : List (List AV)) (tk : List Nat) (gl : Nat → Option (List AV)) (rows : List RowSt) : appendA Try.prog 109 (.sl 1 cs n (.own tk.length)) (.sl 1 [x] 1 .full) ⟨objs, tk ++ [n], gl, rows⟩ = some (.sl 1 (cs ++ [x]) (n + 1) (.own tk.length), ⟨objs, tk ++ [n + 1], gl, rows⟩) := by
  have e1 := elemT_109
  have e2 := ti_5
  have h1 : n + 1 ≤ 9223372036854775807 := by omega
  have h2 : n + 1 ≤ 140737488355328 := by omega
  simp [appendA, readA, e1, e2, roomA, maxLen, h1, h2, Value.cells]

structure TkS where
  j : Nat
  G : Sg
  l : List (List AV)
  t : List Nat

theorem amt_take {l : List Coin} (h : Right l) : ∀ (i d : Nat), amt (l.take i) d ≤ amt l d := fun i d => by
  have e := amt_append (l.take i) (l.drop i) d
  rw [List.take_append_drop] at e
  rw [e]
  by_cases hx : ∃ c ∈ l.take i, c.d.toNat = d
  · rw [if_pos hx]; exact Nat.le_refl _
  · rw [amt_none (fun c hc q => hx ⟨c, hc, q⟩)]; exact Nat.zero_le _

set_option maxHeartbeats 1600000 in
attribute [local simp] undefA List.getElem?_cons_zero List.getElem?_cons_succ in
theorem take_ok2 {σ : St} {o k n : Nat} {G : Sg} {T : Tb} {O : Option UInt8} {l : List Coin} (h : HasS σ o k G) (hi : BankS G.s T n) (hn : n ≤ 1000) (hR : Right l) :
    CallsA Try.prog 62 [.ptr o 0, .sl 5 (coinsC l) l.length .shut, .sl 1 (bytesA (kk O)) (kk O).length .full] σ (fun av σ' => ∃ G', BankS G'.s (upd T O (cRest (T O) l)) (n + 8) ∧ av = .tup [] ∧ σ' = putS σ o k G') := by
  have h8 := right_len hR
  have hlc := coinsC_len l
  refine callsA_mono (callsA_gcX (X := { G' : Sg // BankS G'.s (upd T O (cRest (T O) l)) (n + 8) }) (A := fun _ => .tup []) (τ := fun x => putS σ o k x.1) ?_ (fun _ => rfl) (fun x => by simp [putS]) (fun x => rfl) (fun x => by simp [putS]) (fun x => rfl) (fun x => putS_o h _) (fun x => putS_r (o := o) (k := k) (σ := σ) _)) (fun av σ' ⟨x, e1, e2⟩ => ⟨x.1, x.2, e1, e2⟩)
  have hself := (gB.self h).symm
  have hgl := gB.len σ o k
  have hap2 := gB.app h
  have hap1 := gB.app1 h
  have hget := gB.get h
  have hput := gB.put σ o k
  have hkk := kk_len O
  obtain ⟨KB, hKB⟩ : ∃ KB, KB = bytesA (kk O) := ⟨_, rfl⟩
  obtain ⟨KN, hKN⟩ : ∃ KN, KN = (kk O).length := ⟨_, rfl⟩
  have b1 := fun objs tk gl rows => app_b1 (K := kk O) (tl := .full) (by omega) objs tk gl rows
  have b2 := fun x objs tk gl rows => app_b2 (cs := KB) (n := KN) (x := x) (by omega) objs tk gl rows
  simp only [← hKB, ← hKN] at b1
  have hey : ∀ d : UInt8, KB ++ [.v (.int .u8 d.toNat)] = bytesA (key O d) := fun d => by rw [hKB, key]; simp [bytesA]
  have hel : ∀ d : UInt8, KN + 1 = (key O d).length := fun d => by rw [hKN, key]; simp
  rw [← hKB, ← hKN]
  have F := And.intro hlc (And.intro hgl (And.intro b1 (And.intro b2 (True.intro))))
  refine callsA_body Try.func62 rfl rfl rfl ?_; refine sq fun K1 hK1 => ?_
  rw [hself]
  refine rg' (h := fun J2 hJ2 => ?_); refine hJ2 _ _ ?_; refine hK1 _ _ ?_; refine run_block_k ?_; refine run_loopF (X := TkS) [0, 2, 9, 10] (fun x ρ σ1 => (x.j ≤ l.length) ∧ (BankS x.G.s (upd T O (cRest (T O) (l.take x.j))) (n + x.j)) ∧ (ρ 11 = .v (.int .i64 x.j)) ∧ (σ1 = gB σ o k x.G x.l x.t)) (fun x => l.length - x.j) (⟨0, G, [], []⟩) ?st1 ?rd1
  case st1 =>
   refine ⟨lp, ?_, lp, lp⟩
   · rw [List.take_zero, cRest_nil (hi.rt O), upd_id]
     exact hi
  case rd1 =>
   rintro x ρ1 σ1 hF1 ⟨h1, h2, h3, hσ⟩; obtain rfl := hσ.symm
   have f1 := keepL hF1
   (try simp [KeepL, F] at f1); replace F := aF h3 F; (try replace F := aF f1 F); refine sr fun _ hJ4 => ?_; refine hJ4 _ _ ?_; refine sq fun K5 hK5 => ?_; refine cs (fun c12 => ?_) (fun c12 => ?_)
   · (try exact nope c12); all_goals have c12p := c12; try simp [F] at c12p
     all_goals
      replace F := aF c12 F; try replace F := aF c12p F
      have hlt : x.j < l.length := by have h := c12; simp at h; omega
      obtain ⟨c, hc⟩ : ∃ c, c = l[x.j] := ⟨_, rfl⟩
      have hta : l.take x.j ++ [c] = l.take (x.j + 1) := by rw [hc]; exact List.take_append_getElem hlt
      have hRb : Right (l.take x.j ++ [c]) := by rw [hta]; exact right_take hR _
      have hat := coinsC_at hlt
      rw [← hc] at hat
      have hR5 : List.take 5 (List.drop (x.j * 5) (coinsC l)) = coinC c := by rw [hat]; rfl
      have hc8 := (hRb.1 c (by simp)).1
      obtain ⟨v0, hv0⟩ : ∃ v0, v0 = amt (cRest (T O) (l.take x.j)) c.d.toNat := ⟨_, rfl⟩
      have hv0l : v0 < 2 ^ 256 := by rw [hv0]; exact amt_lt _ _
      have hg := h2.gt O c.d
      rw [upd_self, ← hv0] at hg
      obtain ⟨v1, hv1e⟩ : ∃ v1, v1 = v0 - c.n.v := ⟨_, rfl⟩
      have hv1l : v1 < 2 ^ 256 := by omega
      have hv1 : setC (cRest (T O) (l.take x.j)) c.d.toNat v1 = cRest (T O) (l.take x.j ++ [c]) := by rw [hv1e, hv0]; exact cRest_step hRb
      have hst := h2.set (o := O) (d := c.d) hc8 hv1l
      rw [upd_self, upd_upd, hv1, hta] at hst
      have hrd : ∀ τ tl, HasS τ o k x.G → CallsA Try.prog 52 [.ptr o 0, .sl 1 (KB ++ [.v (.int .u8 c.d.toNat)]) (KN + 1) tl] τ (fun av σ' => av = .agg (numA v0) ∧ τ = σ') := fun τ tl hh => by rw [hey, hel c.d]; exact read_ok2 hh h2.ok (by omega) hg hv0l
      have hb1 := gB.has h x.G
      have hb2 : ∀ L t y, HasS { gB σ o k x.G L t with objs := (gB σ o k x.G L t).objs ++ [y] } o k x.G := fun L t y => by rw [hap1]; exact gB.has h x.G _ _
      have hwr : ∀ L t, CallsA Try.prog 97 [.ptr o 0, .agg (numA v1), .sl 1 (KB ++ [.v (.int .u8 c.d.toNat)]) (KN + 1) (.own (gB σ o k x.G x.l x.t).toks.length)] (gB σ o k x.G L t) (fun av σ' => ∃ G', BankS G'.s (upd T O (cRest (T O) (l.take (x.j + 1)))) (n + x.j + 1) ∧ av = .tup [] ∧ σ' = gB σ o k G' L t) := fun L t => by
        rw [hey, hel c.d]; exact callsA_mono (write_ok2 (gB.has h x.G L t) h2.ok (by omega) hv1l (by have := key_len O c.d; omega)) (fun av σ' ⟨G', e1, e2, e3⟩ => ⟨G', by rw [e1]; exact hst, e2, by rw [e3, hput]⟩)
      have hi1 : x.j + 1 ≤ l.length := hlt
      have hwi : IntKind.i64.wrap ((x.j : Int) + 1) = (x.j : Int) + 1 := wrap_i64 _ (by omega) (by omega)
      have b5 : x.j * 5 + 5 ≤ l.length * 5 := by omega
      have c0 : ∀ h2 : 0 < (coinC c).length, (coinC c)[0]'h2 = .v (.int .u8 (c.d.toNat : Nat)) := fun _ => rfl
      have c1 : List.take 4 (coinC c).tail = numA c.n.v := rfl
      have cl : (coinC c).length = 5 := rfl
      have hcl : (∀ x, x ∈ coinC c → x.isCell = true) = True := eq_true (fun x hx => by simp only [coinC, numA, List.mem_cons, List.not_mem_nil, or_false] at hx; rcases hx with rfl | rfl | rfl | rfl | rfl <;> rfl)
      have ct : List.take 5 (coinC c) = coinC c := rfl
      obtain ⟨C, hC⟩ : ∃ C, C = coinC c := ⟨_, rfl⟩
      rw [← hC] at hR5 c1 cl hcl ct
      simp only [← hC] at c0
      simp only [AV.isCell] at hcl
      have g1 := fun G' m t => hget G' x.l m t C
      have g2 : ∀ G' m t (h2 : σ.objs.length + x.l.length < (gB σ o k G' (x.l ++ C :: m) t).objs.length), (gB σ o k G' (x.l ++ C :: m) t).objs[σ.objs.length + x.l.length]'h2 = C := fun G' m t h2 => (List.getElem?_eq_some_iff.1 (g1 G' m t)).2
      have hrs := fun τ => nRest_ok (σ := τ) hv0l c.n.h
      simp only [← hv1e] at hrs
      replace F := aF hlt (And.intro hR5 (And.intro hi1 (And.intro hwi (And.intro b5 (And.intro c0 (And.intro c1 (And.intro cl (And.intro hcl (And.intro ct (And.intro g1 (And.intro g2 F))))))))))); refine run_skip ?_; refine hK5 _ _ ?_; refine sq fun K6 hK6 => ?_; refine run_block_k ?_; refine sr fun _ hJ8 => ?_; refine hJ8 _ _ ?_; refine sq fun K9 hK9 => ?_
      refine run_draw (by kernel_rfl) fun J10 hJ10 => ?_
      refine rp2 0 (k := ?_); refine rp2 2 (k := ?_); refine rp2 3 (k := ?_); refine rp2 4 (k := ?_); refine dop 1 rfl ?_; repeat (first | simp [F] | simp (disch := omega) only [wC, if_pos, if_neg])
      refine ⟨by first | exact fun _ _ h => h | (refine later_list [4, 3, 2] (by kernel_rfl) (List.forall_mem_cons.2 ⟨fun _ => fact2 rfl rfl ?_, List.forall_mem_cons.2 ⟨fun _ => fact2 rfl rfl ?_, List.forall_mem_cons.2 ⟨fun _ => fact2 rfl rfl ?_, fun _ h => absurd h List.not_mem_nil⟩⟩⟩) <;> constructor <;> first | rfl | (simp [F]; done)), ?_⟩
      refine dop 5 rfl ?_; repeat (first | simp [F] | simp (disch := omega) only [wC, if_pos, if_neg])
      refine ⟨by first | exact fun _ _ h => h | (refine later_list [3, 2] (by kernel_rfl) (List.forall_mem_cons.2 ⟨fun _ => fact2 rfl rfl ?_, List.forall_mem_cons.2 ⟨fun _ => fact2 rfl rfl ?_, fun _ h => absurd h List.not_mem_nil⟩⟩) <;> constructor <;> first | rfl | (simp [F]; done)), ?_⟩
      refine rp2 6 (k := ?_); refine dd ?_; refine hJ10 _ _ ?_; refine hK9 _ _ ?_
      rw [hap2]
      refine run_draw (by kernel_rfl) fun J11 hJ11 => ?_
      refine rp2 0 (k := ?_); refine rp2 1 (k := ?_); refine rp2 2 (k := ?_); refine rp2 4 (k := ?_); refine rp2 5 (k := ?_); refine rp2 7 (k := ?_); refine dc 3 rfl (c := hrd _ _ (hb1 _ _)) (k := ?_); rintro _ _ ⟨rfl, rfl⟩
      refine ⟨by first | exact fun _ _ h => h | (refine later_list [7, 5, 4, 0] (by kernel_rfl) (List.forall_mem_cons.2 ⟨fun _ => fact2 rfl rfl ?_, List.forall_mem_cons.2 ⟨fun _ => fact2 rfl rfl ?_, List.forall_mem_cons.2 ⟨fun _ => fact2 rfl rfl ?_, List.forall_mem_cons.2 ⟨fun _ => fact2 rfl rfl ?_, fun _ h => absurd h List.not_mem_nil⟩⟩⟩⟩) <;> constructor <;> first | rfl | (simp [F]; done)), ?_⟩
      (repeat (first | simp [F] | simp (disch := omega) only [wC, if_pos, if_neg])); refine dc 6 rfl (c := hrs _) (k := ?_); rintro _ _ ⟨rfl, rfl⟩
      refine ⟨by first | exact fun _ _ h => h | (refine later_list [7, 4, 0] (by kernel_rfl) (List.forall_mem_cons.2 ⟨fun _ => fact2 rfl rfl ?_, List.forall_mem_cons.2 ⟨fun _ => fact2 rfl rfl ?_, List.forall_mem_cons.2 ⟨fun _ => fact2 rfl rfl ?_, fun _ h => absurd h List.not_mem_nil⟩⟩⟩) <;> constructor <;> first | rfl | (simp [F]; done)), ?_⟩
      (repeat (first | simp [F] | simp (disch := omega) only [wC, if_pos, if_neg])); refine dc 8 rfl (c := hwr _ _) (k := ?_); rintro _ _ ⟨G1, e1, rfl, rfl⟩
      refine ⟨by first | exact fun _ _ h => h | (refine later_list [4] (by kernel_rfl) (List.forall_mem_cons.2 ⟨fun _ => fact2 rfl rfl ?_, fun _ h => absurd h List.not_mem_nil⟩) <;> constructor <;> first | rfl | (simp [F]; done)), ?_⟩
      (repeat (first | simp [F] | simp (disch := omega) only [wC, if_pos, if_neg])); refine dd ?_; refine hJ11 _ _ ?_; refine hK6 _ _ ?_; refine rg' (h := fun J12 hJ12 => ?_); refine hJ12 _ _ ?_; refine ⟨(⟨x.j + 1, G1, x.l ++ [C], x.t ++ [KN + 1]⟩), ⟨kp, lp, ?_, lp, lp⟩, lp⟩
      · exact e1
   (try exact nope c12); all_goals have c12p := c12; try simp [F] at c12p
   all_goals
    replace F := aF c12 F; try replace F := aF c12p F
    have hje : l.take x.j = l := List.take_of_length_le (by have h := c12; simp at h; omega)
    rw [hje] at h2
    refine run_exit ?_; (try simp only [Then, InBlock, NoGoto, if_true]); refine answer_none rfl (.inl rfl) ?_
    refine ⟨⟨x.G, h2.mono (by omega)⟩, ?_⟩
    rw [gB.fin h]
    exact gcr

set_option maxHeartbeats 1600000 in
attribute [local simp] undefA List.getElem?_cons_zero List.getElem?_cons_succ in
theorem add_ok2 {σ : St} {o k n : Nat} {G : Sg} {T : Tb} {O : Option UInt8} {l : List Coin} (h : HasS σ o k G) (hi : BankS G.s T n) (hn : n ≤ 1000) (hR : Right l) (hno : ∀ d, d < 8 → amt (T O) d + amt l d < 2 ^ 256) :
    CallsA Try.prog 63 [.ptr o 0, .sl 5 (coinsC l) l.length .shut, .sl 1 (bytesA (kk O)) (kk O).length .full] σ (fun av σ' => ∃ G', BankS G'.s (upd T O (addC (T O) l)) (n + 8) ∧ av = .tup [] ∧ σ' = putS σ o k G') := by
  have h8 := right_len hR
  have hlc := coinsC_len l
  refine callsA_mono (callsA_gcX (X := { G' : Sg // BankS G'.s (upd T O (addC (T O) l)) (n + 8) }) (A := fun _ => .tup []) (τ := fun x => putS σ o k x.1) ?_ (fun _ => rfl) (fun x => by simp [putS]) (fun x => rfl) (fun x => by simp [putS]) (fun x => rfl) (fun x => putS_o h _) (fun x => putS_r (o := o) (k := k) (σ := σ) _)) (fun av σ' ⟨x, e1, e2⟩ => ⟨x.1, x.2, e1, e2⟩)
  have hself := (gB.self h).symm
  have hgl := gB.len σ o k
  have hap2 := gB.app h
  have hap1 := gB.app1 h
  have hget := gB.get h
  have hput := gB.put σ o k
  have hkk := kk_len O
  obtain ⟨KB, hKB⟩ : ∃ KB, KB = bytesA (kk O) := ⟨_, rfl⟩
  obtain ⟨KN, hKN⟩ : ∃ KN, KN = (kk O).length := ⟨_, rfl⟩
  have b1 := fun objs tk gl rows => app_b1 (K := kk O) (tl := .full) (by omega) objs tk gl rows
  have b2 := fun x objs tk gl rows => app_b2 (cs := KB) (n := KN) (x := x) (by omega) objs tk gl rows
  simp only [← hKB, ← hKN] at b1
  have hey : ∀ d : UInt8, KB ++ [.v (.int .u8 d.toNat)] = bytesA (key O d) := fun d => by rw [hKB, key]; simp [bytesA]
  have hel : ∀ d : UInt8, KN + 1 = (key O d).length := fun d => by rw [hKN, key]; simp
  rw [← hKB, ← hKN]
  have F := And.intro hlc (And.intro hgl (And.intro b1 (And.intro b2 (True.intro))))
  refine callsA_body Try.func63 rfl rfl rfl ?_; refine sq fun K1 hK1 => ?_
  rw [hself]
  refine rg' (h := fun J2 hJ2 => ?_); refine hJ2 _ _ ?_; refine hK1 _ _ ?_; refine run_block_k ?_; refine run_loopF (X := TkS) [0, 2, 11, 12] (fun x ρ σ1 => (x.j ≤ l.length) ∧ (BankS x.G.s (upd T O (addC (T O) (l.take x.j))) (n + x.j)) ∧ (ρ 13 = .v (.int .i64 x.j)) ∧ (σ1 = gB σ o k x.G x.l x.t)) (fun x => l.length - x.j) (⟨0, G, [], []⟩) ?st1 ?rd1
  case st1 =>
   refine ⟨lp, ?_, lp, lp⟩
   · rw [List.take_zero, addC_nil (hi.rt O), upd_id]
     exact hi
  case rd1 =>
   rintro x ρ1 σ1 hF1 ⟨h1, h2, h3, hσ⟩; obtain rfl := hσ.symm
   have f1 := keepL hF1
   (try simp [KeepL, F] at f1); replace F := aF h3 F; (try replace F := aF f1 F); refine sr fun _ hJ4 => ?_; refine hJ4 _ _ ?_; refine sq fun K5 hK5 => ?_; refine cs (fun c14 => ?_) (fun c14 => ?_)
   · (try exact nope c14); all_goals have c14p := c14; try simp [F] at c14p
     all_goals
      replace F := aF c14 F; try replace F := aF c14p F
      have hlt : x.j < l.length := by have h := c14; simp at h; omega
      obtain ⟨c, hc⟩ : ∃ c, c = l[x.j] := ⟨_, rfl⟩
      have hta : l.take x.j ++ [c] = l.take (x.j + 1) := by rw [hc]; exact List.take_append_getElem hlt
      have hRb : Right (l.take x.j ++ [c]) := by rw [hta]; exact right_take hR _
      have hat := coinsC_at hlt
      rw [← hc] at hat
      have hR5 : List.take 5 (List.drop (x.j * 5) (coinsC l)) = coinC c := by rw [hat]; rfl
      have hc8 := (hRb.1 c (by simp)).1
      obtain ⟨v0, hv0⟩ : ∃ v0, v0 = amt (addC (T O) (l.take x.j)) c.d.toNat := ⟨_, rfl⟩
      have hv0l : v0 < 2 ^ 256 := by rw [hv0]; exact amt_lt _ _
      have hg := h2.gt O c.d
      rw [upd_self, ← hv0] at hg
      obtain ⟨v1, hv1e⟩ : ∃ v1, v1 = v0 + c.n.v := ⟨_, rfl⟩
      have hstp := addC_step hRb (fun d hd => Nat.lt_of_le_of_lt (Nat.add_le_add_left (by rw [hta]; exact amt_take hR _ d) _) (hno d hd))
      have hv1l : v1 < 2 ^ 256 := by rw [hv1e, hv0]; exact hstp.2
      have hv1 : setC (addC (T O) (l.take x.j)) c.d.toNat v1 = addC (T O) (l.take x.j ++ [c]) := by rw [hv1e, hv0]; exact hstp.1
      have hst := h2.set (o := O) (d := c.d) hc8 hv1l
      rw [upd_self, upd_upd, hv1, hta] at hst
      have hrd : ∀ τ tl, HasS τ o k x.G → CallsA Try.prog 52 [.ptr o 0, .sl 1 (KB ++ [.v (.int .u8 c.d.toNat)]) (KN + 1) tl] τ (fun av σ' => av = .agg (numA v0) ∧ τ = σ') := fun τ tl hh => by rw [hey, hel c.d]; exact read_ok2 hh h2.ok (by omega) hg hv0l
      have hb1 := gB.has h x.G
      have hb2 : ∀ L t y, HasS { gB σ o k x.G L t with objs := (gB σ o k x.G L t).objs ++ [y] } o k x.G := fun L t y => by rw [hap1]; exact gB.has h x.G _ _
      have hwr : ∀ L t, CallsA Try.prog 97 [.ptr o 0, .agg (numA v1), .sl 1 (KB ++ [.v (.int .u8 c.d.toNat)]) (KN + 1) (.own (gB σ o k x.G x.l x.t).toks.length)] (gB σ o k x.G L t) (fun av σ' => ∃ G', BankS G'.s (upd T O (addC (T O) (l.take (x.j + 1)))) (n + x.j + 1) ∧ av = .tup [] ∧ σ' = gB σ o k G' L t) := fun L t => by
        rw [hey, hel c.d]; exact callsA_mono (write_ok2 (gB.has h x.G L t) h2.ok (by omega) hv1l (by have := key_len O c.d; omega)) (fun av σ' ⟨G', e1, e2, e3⟩ => ⟨G', by rw [e1]; exact hst, e2, by rw [e3, hput]⟩)
      have hi1 : x.j + 1 ≤ l.length := hlt
      have hwi : IntKind.i64.wrap ((x.j : Int) + 1) = (x.j : Int) + 1 := wrap_i64 _ (by omega) (by omega)
      have b5 : x.j * 5 + 5 ≤ l.length * 5 := by omega
      have c0 : ∀ h2 : 0 < (coinC c).length, (coinC c)[0]'h2 = .v (.int .u8 (c.d.toNat : Nat)) := fun _ => rfl
      have c1 : List.take 4 (coinC c).tail = numA c.n.v := rfl
      have cl : (coinC c).length = 5 := rfl
      have hcl : (∀ x, x ∈ coinC c → x.isCell = true) = True := eq_true (fun x hx => by simp only [coinC, numA, List.mem_cons, List.not_mem_nil, or_false] at hx; rcases hx with rfl | rfl | rfl | rfl | rfl <;> rfl)
      have ct : List.take 5 (coinC c) = coinC c := rfl
      obtain ⟨C, hC⟩ : ∃ C, C = coinC c := ⟨_, rfl⟩
      rw [← hC] at hR5 c1 cl hcl ct
      simp only [← hC] at c0
      simp only [AV.isCell] at hcl
      have g1 := fun G' m t => hget G' x.l m t C
      have g2 : ∀ G' m t (h2 : σ.objs.length + x.l.length < (gB σ o k G' (x.l ++ C :: m) t).objs.length), (gB σ o k G' (x.l ++ C :: m) t).objs[σ.objs.length + x.l.length]'h2 = C := fun G' m t h2 => (List.getElem?_eq_some_iff.1 (g1 G' m t)).2
      have hrs := fun τ => nadd_ok (σ := τ) hv0l c.n.h
      have hadd : addN v0 c.n.v = v1 := by rw [hv1e, addN, if_pos (by rw [← hv1e]; exact hv1l)]
      simp only [hadd] at hrs
      have hn1l : (numA v1).length = 4 := rfl
      have hn1t : List.take 4 (numA v1) = numA v1 := rfl
      have hn1c : (∀ x, x ∈ numA v1 → x.isCell = true) = True := eq_true (fun x hx => by simp only [numA, List.mem_cons, List.not_mem_nil, or_false] at hx; rcases hx with rfl | rfl | rfl | rfl <;> rfl)
      obtain ⟨N1, hN1⟩ : ∃ N1, N1 = numA v1 := ⟨_, rfl⟩
      rw [← hN1] at hn1l hn1t hn1c
      simp only [← hN1] at hrs hwr
      simp only [AV.isCell] at hn1c
      have g3 : ∀ G' t, (gB σ o k G' (x.l ++ [C, N1]) t).objs[σ.objs.length + (x.l.length + 1)]? = some N1 := fun G' t => by have := hget G' (x.l ++ [C]) [] t N1; rw [List.length_append, List.append_assoc] at this; exact this
      have g4 : ∀ G' t (h2 : σ.objs.length + (x.l.length + 1) < (gB σ o k G' (x.l ++ [C, N1]) t).objs.length), (gB σ o k G' (x.l ++ [C, N1]) t).objs[σ.objs.length + (x.l.length + 1)]'h2 = N1 := fun G' t h2 => (List.getElem?_eq_some_iff.1 (g3 G' t)).2
      replace F := aF hn1l (And.intro hn1t (And.intro hn1c (And.intro g3 (And.intro g4 F)))); replace F := aF hlt (And.intro hR5 (And.intro hi1 (And.intro hwi (And.intro b5 (And.intro c0 (And.intro c1 (And.intro cl (And.intro hcl (And.intro ct (And.intro g1 (And.intro g2 F))))))))))); refine run_skip ?_; refine hK5 _ _ ?_; refine sq fun K6 hK6 => ?_; refine run_block_k ?_; refine sr fun _ hJ8 => ?_; refine hJ8 _ _ ?_; refine sq fun K9 hK9 => ?_
      refine run_draw (by kernel_rfl) fun J10 hJ10 => ?_
      refine rp2 0 (k := ?_); refine rp2 2 (k := ?_); refine rp2 3 (k := ?_); refine rp2 4 (k := ?_); refine dop 1 rfl ?_; repeat (first | simp [F] | simp (disch := omega) only [wC, if_pos, if_neg])
      refine ⟨by first | exact fun _ _ h => h | (refine later_list [4, 3, 2] (by kernel_rfl) (List.forall_mem_cons.2 ⟨fun _ => fact2 rfl rfl ?_, List.forall_mem_cons.2 ⟨fun _ => fact2 rfl rfl ?_, List.forall_mem_cons.2 ⟨fun _ => fact2 rfl rfl ?_, fun _ h => absurd h List.not_mem_nil⟩⟩⟩) <;> constructor <;> first | rfl | (simp [F]; done)), ?_⟩
      refine dop 5 rfl ?_; repeat (first | simp [F] | simp (disch := omega) only [wC, if_pos, if_neg])
      refine ⟨by first | exact fun _ _ h => h | (refine later_list [3, 2] (by kernel_rfl) (List.forall_mem_cons.2 ⟨fun _ => fact2 rfl rfl ?_, List.forall_mem_cons.2 ⟨fun _ => fact2 rfl rfl ?_, fun _ h => absurd h List.not_mem_nil⟩⟩) <;> constructor <;> first | rfl | (simp [F]; done)), ?_⟩
      refine rp2 6 (k := ?_); refine dd ?_; refine hJ10 _ _ ?_; refine hK9 _ _ ?_; refine sq fun K11 hK11 => ?_
      rw [hap2]
      refine run_draw (by kernel_rfl) fun J12 hJ12 => ?_
      refine rp2 0 (k := ?_); refine rp2 1 (k := ?_); refine rp2 3 (k := ?_); refine rp2 4 (k := ?_); refine d2 2 9 ?_ ?_
      · refine ac 2 rfl (c := hrd _ _ (by first | exact hb1 _ _ | exact hb2 _ _ _)) (k := ?_)
        rintro _ _ ⟨rfl, rfl⟩
        refine ⟨by first | exact fun _ _ h => h | (refine later_list [4, 3] (by kernel_rfl) (List.forall_mem_cons.2 ⟨fun _ => fact2 rfl rfl ?_, List.forall_mem_cons.2 ⟨fun _ => fact2 rfl rfl ?_, fun _ h => absurd h List.not_mem_nil⟩⟩) <;> constructor <;> first | rfl | (simp [F]; done)), ?_⟩
        (repeat (first | simp [F] | simp (disch := omega) only [wC, if_pos, if_neg])); refine d2 5 9 ?_ ?_
        · refine ac 5 rfl (c := hrs _) (k := ?_); rintro _ _ ⟨rfl, rfl⟩
          refine ⟨by first | exact fun _ _ h => h | (refine later_list [3] (by kernel_rfl) (List.forall_mem_cons.2 ⟨fun _ => fact2 rfl rfl ?_, fun _ h => absurd h List.not_mem_nil⟩) <;> constructor <;> first | rfl | (simp [F]; done)), ?_⟩
          (repeat (first | simp [F] | simp (disch := omega) only [wC, if_pos, if_neg])); refine rp2 6 (k := ?_); refine rp2 7 (k := ?_); refine rp2 8 (k := ?_); refine dop 9 rfl ?_; repeat (first | simp [F] | simp (disch := omega) only [wC, if_pos, if_neg])
          refine ⟨by first | exact later_more _ (by kernel_rfl) | exact later_more2 (by kernel_rfl) rfl, ?_⟩
          refine dop 10 rfl ?_; repeat (first | simp [F] | simp (disch := omega) only [wC, if_pos, if_neg])
          refine ⟨later_tmp (by kernel_rfl), ?_⟩
          refine rp2 11 (k := ?_); refine dd ?_; refine hJ12 _ _ ?_; refine hK11 _ _ ?_
          rw [hap1]
          refine rg' (h := fun J13 hJ13 => ?_); refine ca (c := hwr _ _) (k := ?_); rintro _ _ ⟨G1, e1, rfl, rfl⟩; (repeat (first | simp [F] | simp (disch := omega) only [wC, if_pos, if_neg])); refine hJ13 _ _ ?_; refine hK6 _ _ ?_; refine rg' (h := fun J14 hJ14 => ?_); refine hJ14 _ _ ?_; refine ⟨(⟨x.j + 1, G1, x.l ++ [C, N1], x.t ++ [KN + 1]⟩), ⟨kp, lp, ?_, lp, lp⟩, lp⟩
          · exact e1
        · refine ao 9 rfl ?_; repeat (first | simp [F] | simp (disch := omega) only [wC, if_pos, if_neg])
          refine ⟨by first | exact later_more _ (by kernel_rfl) | exact later_more2 (by kernel_rfl) rfl, ?_⟩
          refine dc 5 rfl (c := hrs _) (k := ?_); rintro _ _ ⟨rfl, rfl⟩
          refine ⟨by first | exact fun _ _ h => h | (refine later_list [3] (by kernel_rfl) (List.forall_mem_cons.2 ⟨fun _ => fact2 rfl rfl ?_, fun _ h => absurd h List.not_mem_nil⟩) <;> constructor <;> first | rfl | (simp [F]; done)), ?_⟩
          (repeat (first | simp [F] | simp (disch := omega) only [wC, if_pos, if_neg])); refine rp2 6 (k := ?_); refine rp2 7 (k := ?_); refine rp2 8 (k := ?_); refine dop 10 rfl ?_; repeat (first | simp [F] | simp (disch := omega) only [wC, if_pos, if_neg])
          refine ⟨later_tmp (by kernel_rfl), ?_⟩
          refine rp2 11 (k := ?_); refine dd ?_; refine hJ12 _ _ ?_; refine hK11 _ _ ?_
          rw [hap1]
          refine rg' (h := fun J15 hJ15 => ?_); refine ca (c := hwr _ _) (k := ?_); rintro _ _ ⟨G1, e1, rfl, rfl⟩; (repeat (first | simp [F] | simp (disch := omega) only [wC, if_pos, if_neg])); refine hJ15 _ _ ?_; refine hK6 _ _ ?_; refine rg' (h := fun J16 hJ16 => ?_); refine hJ16 _ _ ?_; refine ⟨(⟨x.j + 1, G1, x.l ++ [C, N1], x.t ++ [KN + 1]⟩), ⟨kp, lp, ?_, lp, lp⟩, lp⟩
          · exact e1
      · refine ao 9 rfl ?_; repeat (first | simp [F] | simp (disch := omega) only [wC, if_pos, if_neg])
        refine ⟨by first | exact later_more _ (by kernel_rfl) | exact later_more2 (by kernel_rfl) rfl, ?_⟩
        refine dc 2 rfl (c := hrd _ _ (by first | exact hb1 _ _ | exact hb2 _ _ _)) (k := ?_)
        rintro _ _ ⟨rfl, rfl⟩
        refine ⟨by first | exact fun _ _ h => h | (refine later_list [4, 3] (by kernel_rfl) (List.forall_mem_cons.2 ⟨fun _ => fact2 rfl rfl ?_, List.forall_mem_cons.2 ⟨fun _ => fact2 rfl rfl ?_, fun _ h => absurd h List.not_mem_nil⟩⟩) <;> constructor <;> first | rfl | (simp [F]; done)), ?_⟩
        (repeat (first | simp [F] | simp (disch := omega) only [wC, if_pos, if_neg])); refine dc 5 rfl (c := hrs _) (k := ?_); rintro _ _ ⟨rfl, rfl⟩
        refine ⟨by first | exact fun _ _ h => h | (refine later_list [3] (by kernel_rfl) (List.forall_mem_cons.2 ⟨fun _ => fact2 rfl rfl ?_, fun _ h => absurd h List.not_mem_nil⟩) <;> constructor <;> first | rfl | (simp [F]; done)), ?_⟩
        (repeat (first | simp [F] | simp (disch := omega) only [wC, if_pos, if_neg])); refine rp2 6 (k := ?_); refine rp2 7 (k := ?_); refine rp2 8 (k := ?_); refine dop 10 rfl ?_; repeat (first | simp [F] | simp (disch := omega) only [wC, if_pos, if_neg])
        refine ⟨later_tmp (by kernel_rfl), ?_⟩
        refine rp2 11 (k := ?_); refine dd ?_; refine hJ12 _ _ ?_; refine hK11 _ _ ?_
        rw [hap1]
        refine rg' (h := fun J17 hJ17 => ?_); refine ca (c := hwr _ _) (k := ?_); rintro _ _ ⟨G1, e1, rfl, rfl⟩; (repeat (first | simp [F] | simp (disch := omega) only [wC, if_pos, if_neg])); refine hJ17 _ _ ?_; refine hK6 _ _ ?_; refine rg' (h := fun J18 hJ18 => ?_); refine hJ18 _ _ ?_; refine ⟨(⟨x.j + 1, G1, x.l ++ [C, N1], x.t ++ [KN + 1]⟩), ⟨kp, lp, ?_, lp, lp⟩, lp⟩
        · exact e1
   (try exact nope c14); all_goals have c14p := c14; try simp [F] at c14p
   all_goals
    replace F := aF c14 F; try replace F := aF c14p F
    have hje : l.take x.j = l := List.take_of_length_le (by have h := c14; simp at h; omega)
    rw [hje] at h2
    refine run_exit ?_; (try simp only [Then, InBlock, NoGoto, if_true]); refine answer_none rfl (.inl rfl) ?_
    refine ⟨⟨x.G, h2.mono (by omega)⟩, ?_⟩
    rw [gB.fin h]
    exact gcr
end Go.Proofs.Ytmponlabfccjaaa
