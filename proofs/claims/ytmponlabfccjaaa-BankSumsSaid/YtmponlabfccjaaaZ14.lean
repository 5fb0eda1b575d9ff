import Derived.Test.YtmponlabfccjaaaZ7
import Derived.Test.YtmponlabfccjaaaZ10
import Derived.Test.YtmponlabfccjaaaZ13
import Derived.Test.YtmponlabfccjaaaZ12
import Derived.Test.YtmponlabfccjaaaZ9
import Derived.RangeFuncKeeps
import Derived.RangeFuncLeaves
import Derived.Shelf.Abstract
import Derived.WalkKit
import Derived.OwnWalkIn
import Derived.TacticsInMore
import Derived.LoopNIn
import Derived.LoopIn
/-
  Bytes: alike, compared, begun with.
-/
namespace Go.Proofs.Ytmponlabfccjaaa
set_option linter.unnecessarySimpa false
set_option maxRecDepth 100000
open Go Go.Vm
set_option linter.unusedSimpArgs false
set_option linter.unusedVariables false
attribute [local simp] evalL wantedA isCall opA evalA evalAll evalsA evalOpt ofValue ofCell plain binA_eql_pn binA_neq_pn binA_gtr binA_lss binA_geq binA_leq binA_add binA_sub binA_eql binA_neq binA_orI binA_shl binA_shr binA_mul binA_quo binA_rem binA_agg_eql binA_agg_neq convA_int unA_not fieldAddrA loadA partA pickA_true pickA_false pickA_bb lenA builtinA storeA splice AV.cells AV.isCell sliceA boundA intA callOf indexAddrA newObjA buildA fillA zeroA ofCells buildSliceA indexA fieldA set_appN get_appN take_appN List.getElem?_cons_zero List.getElem?_cons_succ

theorem convA_bytes {P : Program} {s d : TypeId} {p : List UInt8} {n : Nat} {t : Tail} : convA P s d (.sl 1 (bytesA p) n t) = (match elemT P s, isStrT P d with
    | some e, true => if isU8 P e then some (.v (.string ⟨p.toArray⟩)) else none
    | _, _ => none) := by
  simp only [convA, bytesOf_bytes]
  cases elemT P s with
  | none => rfl
  | some e => cases isStrT P d <;> simp

set_option maxHeartbeats 1600000 in
attribute [local simp] undefA List.getElem?_cons_zero List.getElem?_cons_succ convA_bytes binA_eql_str ba_toList in
theorem equal_ok {σ : St} {p q : List UInt8} {m n : Nat} {t1 t2 : Tail} : CallsA Try.prog 116 [.sl 1 (bytesA p) m t1, .sl 1 (bytesA q) n t2] σ (fun av σ' => av = .v (.bool (decide (p = q))) ∧ σ = σ') := by
  have he : (p == q) = decide (p = q) := by rw [Bool.eq_iff_iff]; simp
  have F := And.intro he (True.intro)
  refine callsA_body Try.func116 rfl rfl rfl ?_; refine sr fun _ hJ2 => ?_; refine hJ2 _ _ ?_; refine sr fun _ hJ4 => ?_; refine hJ4 _ _ ?_; refine ra ?_; exact rt

set_option maxHeartbeats 1600000 in
attribute [local simp] undefA List.getElem?_cons_zero List.getElem?_cons_succ in
theorem compare_ok {σ : St} {p q : List UInt8} {t1 t2 : Tail} : CallsA Try.prog 115 [.sl 1 (bytesA p) p.length t1, .sl 1 (bytesA q) q.length t2] σ (fun av σ' => av = .v (.int .i64 (cmpB p q)) ∧ σ = σ') := by
  have F := True.intro
  refine callsA_body Try.func115 rfl rfl rfl ?_; refine sr fun _ hJ2 => ?_; refine hJ2 _ _ ?_; refine sr fun _ hJ4 => ?_
  refine ce (c := compare_ext Try.func126 (by kernel_rfl) (by kernel_rfl) (by kernel_rfl) (by kernel_rfl)) (k := ?_)
  rintro _ _ rfl rfl; (repeat (first | simp [F] | simp (disch := omega) only [wC, if_pos, if_neg])); refine hJ4 _ _ ?_; refine ra ?_; exact rt

def preB (p q : List UInt8) : Bool := decide (q.length ≤ p.length) && decide (p.take q.length = q)

set_option maxHeartbeats 1600000 in
attribute [local simp] undefA List.getElem?_cons_zero List.getElem?_cons_succ preB in
theorem prefix_ok {σ : St} {p q : List UInt8} {t1 t2 : Tail} : CallsA Try.prog 88 [.sl 1 (bytesA p) p.length t1, .sl 1 (bytesA q) q.length t2] σ (fun av σ' => av = .v (.bool (preB p q)) ∧ σ = σ') := by
  have ht := bytesA_take p q.length
  have F := And.intro ht (True.intro)
  refine callsA_body Try.func88 rfl rfl rfl ?_; refine sr fun _ hJ2 => ?_; refine hJ2 _ _ ?_; refine sr fun _ hJ4 => ?_; refine gs 10 (fun g1_5 => ?_) (fun g1_5 => ?_)
  · (try exact nope g1_5); all_goals have g1_5p := g1_5; try simp [F] at g1_5p
    all_goals
     replace F := aF g1_5 F; (try replace F := aF g1_5p F); (iterate 5 refine go2 (k := ?_)); refine ca (c := equal_ok (p := p.take q.length) (q := q)) (k := ?_); rintro _ _ ⟨rfl, rfl⟩; (repeat (first | simp [F] | simp (disch := omega) only [wC, if_pos, if_neg])); refine hJ4 _ _ ?_; refine ra ?_; exact rt
  (try exact nope g1_5); all_goals have g1_5p := g1_5; try simp [F] at g1_5p
  all_goals
   replace F := aF g1_5 F; (try replace F := aF g1_5p F); (iterate 6 refine no2 (k := ?_)); refine hJ4 _ _ ?_; refine ra ?_; exact rt

set_option maxHeartbeats 1600000 in
attribute [local simp] undefA List.getElem?_cons_zero List.getElem?_cons_succ in
theorem search_ok {σ : St} {n fid : Nat} {caps : List AV} (pred : Nat → Bool) (hn : n ≤ 4000000000000000000) (hcb : callable Try.prog fid = true)
    (hf : ∀ i : Nat, i < n → CallsA Try.prog fid (.v (.int .i64 i) :: caps) σ (fun av σ' => av = .v (.bool (pred i)) ∧ σ = σ')) :
    CallsA Try.prog 113 [.v (.int .i64 n), .fn fid caps] σ (fun av σ' => (∃ r : Nat, av = .v (.int .i64 r) ∧ r ≤ n ∧ (0 < r → pred (r - 1) = false) ∧ (r < n → pred r = true)) ∧ σ = σ') := by
  have F := True.intro
  refine callsA_body Try.func113 rfl rfl rfl ?_; refine sr fun _ hJ2 => ?_; refine hJ2 _ _ ?_; refine sr fun _ hJ4 => ?_; refine hJ4 _ _ ?_; refine sq fun K5 hK5 => ?_; refine run_block_k ?_; refine run_loopF (X := Nat × Nat) [1, 4] (fun q ρ σ1 => (q.1 ≤ q.2) ∧ (q.2 ≤ n) ∧ (0 < q.1 → pred (q.1 - 1) = false) ∧ (q.2 < n → pred q.2 = true) ∧ (ρ 5 = .v (.int .i64 q.1)) ∧ (ρ 6 = .v (.int .i64 q.2)) ∧ (σ1 = σ)) (fun q => q.2 - q.1) ((0, n)) ?st1 ?rd1
  case st1 =>
   refine ⟨lp, lp, ?_, ?_, lp, lp, lp⟩
   · intro h
     simp at h
   · intro h
     simp at h
  case rd1 =>
   rintro q ρ1 σ1 hF1 ⟨h1, h2, h3, h4, h5, h6, hσ⟩; obtain rfl := hσ.symm
   have f1 := keepL hF1
   (try simp [KeepL, F] at f1); replace F := aF h5 F; replace F := aF h6 F; (try replace F := aF f1 F); refine sq fun K6 hK6 => ?_; refine sr fun _ hJ8 => ?_; refine hJ8 _ _ ?_; refine cs (fun c11 => ?_) (fun c11 => ?_)
   · (try exact nope c11); all_goals have c11p := c11; try simp [F] at c11p
     all_goals
      replace F := aF c11 F; (try replace F := aF c11p F); refine run_skip ?_; refine hK6 _ _ ?_; refine run_block_k ?_; refine sq fun K9 hK9 => ?_
      have hlt : q.1 < q.2 := by simp at c11; omega
      obtain ⟨i, j⟩ := q
      simp only at *
      obtain ⟨h, hh⟩ : ∃ h, h = (i + j) / 2 := ⟨_, rfl⟩
      have hw1 : IntKind.i64.wrap ((i : Int) + (j : Int)) = ((i + j : Nat) : Int) := wrap_i64 _ (by omega) (by omega)
      have hw2 : IntKind.u64.wrap ((i : Int) + (j : Int)) = ((i + j : Nat) : Int) := by rw [show (i : Int) + (j : Int) = ((i + j : Nat) : Int) by simp, wrap_u64, Nat.mod_eq_of_lt (by omega)]
      have hw3 : IntKind.i64.wrap (((i : Int) + (j : Int)).fdiv 2) = (h : Int) := by rw [Int.fdiv_eq_ediv_of_nonneg _ (by omega), wrap_i64 _ (by omega) (by omega)]; omega
      have hhj : h < j := by omega
      have hih : i ≤ h := by omega
      have hw4 : IntKind.i64.wrap ((h : Int) + 1) = ((h + 1 : Nat) : Int) := wrap_i64 _ (by omega) (by omega)
      replace F := aF hw1 F; replace F := aF hw2 F; replace F := aF hw3 F; replace F := aF hw4 F; refine rg' (h := fun J10 hJ10 => ?_); refine hJ10 _ _ ?_; refine hK9 _ _ ?_; refine sr fun _ hJ12 => ?_
      refine ca (c := hf h (by omega)) (k := ?_)
      rintro _ _ ⟨rfl, rfl⟩; (repeat (first | simp [F] | simp (disch := omega) only [wC, if_pos, if_neg])); refine hJ12 _ _ ?_; refine cs (fun c21 => ?_) (fun c21 => ?_)
      · (try exact nope c21); all_goals have c21p := c21; try simp [F] at c21p
        all_goals
         replace F := aF c21 F; (try replace F := aF c21p F); refine rg' (h := fun J13 hJ13 => ?_); refine hJ13 _ _ ?_; refine ⟨((h + 1, j)), ⟨kp, lp, lp, ?_, lp, lp, lp, lp⟩, ?_⟩
         · intro _
           simp at c21
           simpa using c21
         · simp
           omega
      (try exact nope c21); all_goals have c21p := c21; try simp [F] at c21p
      all_goals
       replace F := aF c21 F; (try replace F := aF c21p F); refine rg' (h := fun J14 hJ14 => ?_); refine hJ14 _ _ ?_; refine ⟨((i, h)), ⟨kp, lp, lp, lp, ?_, lp, lp, lp⟩, ?_⟩
       · intro _
         simp at c21
         simpa using c21
       · simp
         omega
   (try exact nope c11); all_goals have c11p := c11; try simp [F] at c11p
   all_goals
    replace F := aF c11 F; (try replace F := aF c11p F); refine run_exit ?_; refine hK5 _ _ ?_; refine sr fun _ hJ16 => ?_; refine hJ16 _ _ ?_; refine ra ?_
    refine ⟨⟨q.1, ?_, by omega, h3, fun h => ?_⟩, rfl⟩
    · simp [F]
    · have : q.1 = q.2 := by simp at c11; omega
      rw [this] at h ⊢; exact h4 h

theorem cmpB_ge (a b : List UInt8) : decide (0 ≤ cmpB a b) = !ltB a b := by
  unfold cmpB
  split
  · rename_i e; subst e; simp [ltB_irr]
  · cases ltB a b <;> simp
theorem prsC_len (l : List Pr) : (prsC l).length = l.length * 2 := by
  induction l with
  | nil => rfl
  | cons p l ih => simp only [prsC, List.flatMap_cons, List.length_append, prC, List.length_cons, List.length_nil] at ih ⊢; omega
theorem prsC_at : ∀ {l : List Pr} {i : Nat} (h : i < l.length), (prsC l)[i * 2]? = some (byC l[i].k) ∧ (prsC l)[i * 2 + 1]? = some (byC l[i].v)
  | p :: l, 0, h => ⟨rfl, rfl⟩
  | p :: l, i + 1, h => by
    have := prsC_at (l := l) (i := i) (by simpa using h)
    have e1 : (i + 1) * 2 = i * 2 + 2 := by omega
    rw [e1]
    exact this

set_option maxHeartbeats 1600000 in
attribute [local simp] undefA List.getElem?_cons_zero List.getElem?_cons_succ in
theorem findF_ok {σ : St} {b1 b2 o k i : Nat} {G : Sg} {key : List UInt8} {t : Tail} (h1 : σ.objs[b1]? = some [.ptr o 0]) (h2 : σ.objs[b2]? = some [.sl 1 (bytesA key) key.length t]) (h : HasS σ o k G) (hi : i < G.s.l.length) :
    CallsA Try.prog 114 [.v (.int .i64 i), .ptr b1 0, .ptr b2 0] σ (fun av σ' => av = .v (.bool (!ltB (G.s.l[i]).k key)) ∧ σ = σ') := by
  obtain ⟨ho, hr1, hr2, hr3⟩ := h
  obtain ⟨⟨l, log, marks⟩, g1, g2, g3⟩ := G
  simp only [stC, stR1, stR2, stR3] at ho hr1 hr2 hr3 hi ⊢
  have hat := (prsC_at hi).1
  have hc := cmpB_ge l[i].k key
  have F := And.intro ho (And.intro hr1 (And.intro h1 (And.intro h2 (And.intro hi (And.intro hat (And.intro hc (True.intro)))))))
  refine callsA_body Try.func114 rfl rfl rfl ?_; refine sr fun _ hJ2 => ?_; refine hJ2 _ _ ?_; refine sq fun K3 hK3 => ?_
  refine run_draw (by kernel_rfl) fun J4 hJ4 => ?_
  refine rp2 0 (k := ?_); refine rp2 1 (k := ?_); refine rp2 2 (k := ?_); refine rp2 3 (k := ?_); refine rp2 4 (k := ?_); refine rp2 5 (k := ?_); refine rp2 6 (k := ?_); refine rp2 7 (k := ?_); refine rp2 8 (k := ?_); refine dc 9 rfl (c := compare_ok) (k := ?_); rintro _ _ ⟨rfl, rfl⟩
  refine ⟨by first | exact fun _ _ h => h | (refine later_list [6, 5, 4, 3, 2, 1, 0] (by kernel_rfl) (List.forall_mem_cons.2 ⟨fun _ => fact2 rfl rfl ?_, List.forall_mem_cons.2 ⟨fun _ => fact2 rfl rfl ?_, List.forall_mem_cons.2 ⟨fun _ => fact2 rfl rfl ?_, List.forall_mem_cons.2 ⟨fun _ => fact2 rfl rfl ?_, List.forall_mem_cons.2 ⟨fun _ => fact2 rfl rfl ?_, List.forall_mem_cons.2 ⟨fun _ => fact2 rfl rfl ?_, List.forall_mem_cons.2 ⟨fun _ => fact2 rfl rfl ?_, fun _ h => absurd h List.not_mem_nil⟩⟩⟩⟩⟩⟩⟩) <;> constructor <;> first | rfl | (simp [F]; done)), ?_⟩
  (repeat (first | simp [F] | simp (disch := omega) only [wC, if_pos, if_neg])); refine rp2 10 (k := ?_); refine rp2 11 (k := ?_); refine dd ?_; refine hJ4 _ _ ?_; refine hK3 _ _ ?_; refine ra ?_; exact rt

def predF (l : List Pr) (key : List UInt8) (i : Nat) : Bool := match l[i]? with
  | some p => !ltB p.k key
  | none => true
theorem predF_find {l : List Pr} {key : List UInt8} {r : Nat} (hs : Srt l) (hr : r ≤ l.length) (h1 : 0 < r → predF l key (r - 1) = false) (h2 : r < l.length → predF l key r = true) : r = findL l key :=
  findL_of hs hr (fun h => by
    have := h1 h
    unfold predF at this
    split at this
    · rename_i p hp; exact ⟨p, hp, by simpa using this⟩
    · cases this) (fun p hp => by
    have := h2 (List.getElem?_eq_some_iff.1 hp).1
    unfold predF at this
    rw [hp] at this
    simpa using this)
theorem hasL_at {l : List Pr} {key : List UInt8} (hs : Srt l) : hasL l key = match l[findL l key]? with | some p => decide (p.k = key) | none => false := by
  unfold hasL
  rw [findL_get hs]
  cases h : l[findL l key]? with
  | none => rfl
  | some p => simp only; split <;> simp_all

set_option maxHeartbeats 1600000 in
attribute [local simp] undefA List.getElem?_cons_zero List.getElem?_cons_succ byC in
theorem find_ok {σ : St} {o k : Nat} {G : Sg} {key : List UInt8} {t : Tail} (h : HasS σ o k G) (hs : Srt G.s.l) (hl : G.s.l.length ≤ 4000000000000000000) :
    CallsA Try.prog 87 [.ptr o 0, .sl 1 (bytesA key) key.length t] σ (fun av σ' => av = .tup [.v (.int .i64 (findL G.s.l key)), .v (.bool (hasL G.s.l key))] ∧ σ = σ') := by
  refine callsA_gcS ?_ rfl
  have hlt := lt_of_get h.o
  have h' : HasS { σ with objs := σ.objs ++ [[.ptr o 0], [.sl 1 (bytesA key) key.length t]] } o k G := ⟨by simp only; rw [List.getElem?_append_left hlt]; exact h.o, h.r1, h.r2, h.r3⟩
  have hse := search_ok (σ := { σ with objs := σ.objs ++ [[.ptr o 0], [.sl 1 (bytesA key) key.length t]] }) (caps := [.ptr σ.objs.length 0, .ptr (σ.objs.length + 1) 0]) (fid := 114) (predF G.s.l key) hl (by simp) (fun i hi => callsA_mono (findF_ok (key := key) (t := t) (by simp) (by simp) h' hi) (fun av σ' hq => by
    refine ⟨hq.1.trans ?_, hq.2⟩
    simp [predF, hi]))
  have hho := h'.o
  obtain ⟨ho, hr1, hr2, hr3⟩ := h
  have hha := hasL_at (key := key) hs
  have hat : ∀ i (hi : i < G.s.l.length), (prsC G.s.l)[i * 2]? = some (byC G.s.l[i].k) := fun i hi => (prsC_at hi).1
  obtain ⟨⟨l, log, marks⟩, g1, g2, g3⟩ := G
  simp only [stC, stR1, stR2, stR3] at ho hr1 hr2 hr3 hl hho hse hs hha hat ⊢
  have hfl := findL_le l key
  have F := And.intro hho (And.intro hr1 (True.intro))
  refine callsA_body Try.func87 rfl rfl rfl ?_; refine sr fun _ hJ2 => ?_; refine hJ2 _ _ ?_; refine sr fun _ hJ4 => ?_; refine ca (c := hse) (k := ?_); rintro _ _ ⟨⟨r, rfl, e1, e2, e3⟩, rfl⟩; obtain rfl := predF_find hs e1 e2 e3; (repeat (first | simp [F] | simp (disch := omega) only [wC, if_pos, if_neg])); refine hJ4 _ _ ?_; refine sq fun K5 hK5 => ?_
  refine run_draw (by kernel_rfl) fun J6 hJ6 => ?_
  refine rp2 0 (k := ?_); refine rp2 1 (k := ?_); refine rp2 2 (k := ?_); refine rp2 3 (k := ?_); refine rp2 4 (k := ?_); refine rp2 5 (k := ?_); refine rp2 6 (k := ?_); refine rp2 7 (k := ?_); refine rp2 8 (k := ?_); refine gd 22 (fun g2_8 => ?_) (fun g2_8 => ?_)
  · (try exact nope g2_8); all_goals have g2_8p := g2_8; try simp [F] at g2_8p
    all_goals
     replace F := aF g2_8 F; try replace F := aF g2_8p F
     have hi : findL l key < l.length := by simp at g2_8; omega
     have hat0 := hat _ hi
     replace F := aF hi (And.intro hat0 F)
     have hhb : hasL l key = decide (l[findL l key].k = key) := by rw [hha, List.getElem?_eq_getElem hi]
     replace F := aF hhb F; refine rp2 9 (k := ?_); refine rp2 10 (k := ?_); refine rp2 11 (k := ?_); refine rp2 12 (k := ?_); refine rp2 13 (k := ?_); refine rp2 14 (k := ?_); refine rp2 15 (k := ?_); refine rp2 16 (k := ?_); refine rp2 17 (k := ?_); refine dc 18 rfl (c := equal_ok) (k := ?_); rintro _ _ ⟨rfl, rfl⟩
     refine ⟨by first | exact fun _ _ h => h | (refine later_list [15, 14, 13, 12, 11, 10, 9, 7, 6, 5, 4, 3, 2, 1, 0] (by kernel_rfl) (List.forall_mem_cons.2 ⟨fun _ => fact2 rfl rfl ?_, List.forall_mem_cons.2 ⟨fun _ => fact2 rfl rfl ?_, List.forall_mem_cons.2 ⟨fun _ => fact2 rfl rfl ?_, List.forall_mem_cons.2 ⟨fun _ => fact2 rfl rfl ?_, List.forall_mem_cons.2 ⟨fun _ => fact2 rfl rfl ?_, List.forall_mem_cons.2 ⟨fun _ => fact2 rfl rfl ?_, List.forall_mem_cons.2 ⟨fun _ => fact2 rfl rfl ?_, List.forall_mem_cons.2 ⟨fun _ => fact2 rfl rfl ?_, List.forall_mem_cons.2 ⟨fun _ => fact2 rfl rfl ?_, List.forall_mem_cons.2 ⟨fun _ => fact2 rfl rfl ?_, List.forall_mem_cons.2 ⟨fun _ => fact2 rfl rfl ?_, List.forall_mem_cons.2 ⟨fun _ => fact2 rfl rfl ?_, List.forall_mem_cons.2 ⟨fun _ => fact2 rfl rfl ?_, List.forall_mem_cons.2 ⟨fun _ => fact2 rfl rfl ?_, List.forall_mem_cons.2 ⟨fun _ => fact2 rfl rfl ?_, fun _ h => absurd h List.not_mem_nil⟩⟩⟩⟩⟩⟩⟩⟩⟩⟩⟩⟩⟩⟩⟩) <;> constructor <;> first | rfl | (simp [F]; done)), ?_⟩
     (repeat (first | simp [F] | simp (disch := omega) only [wC, if_pos, if_neg])); refine rp2 19 (k := ?_); refine rp2 20 (k := ?_); refine rp2 21 (k := ?_); refine dd ?_; refine hJ6 _ _ ?_; refine hK5 _ _ ?_; refine run_ret ?_; (try simp only [Then, InBlock, NoGoto]); refine answer_tmp2 rfl (.inr rfl) ?_; exact gcr
  (try exact nope g2_8); all_goals have g2_8p := g2_8; try simp [F] at g2_8p
  all_goals
   replace F := aF g2_8 F; try replace F := aF g2_8p F
   have hhb : hasL l key = false := by rw [hha, List.getElem?_eq_none (by simp at g2_8; omega)]
   replace F := aF hhb F; refine rp2 9 (k := ?_); refine rp2 10 (k := ?_); refine rp2 11 (k := ?_); refine rp2 12 (k := ?_); refine rp2 13 (k := ?_); refine rp2 14 (k := ?_); refine rp2 15 (k := ?_); refine rp2 16 (k := ?_); refine rp2 17 (k := ?_); refine dop 18 rfl ?_; (repeat (first | simp [F] | simp (disch := omega) only [wC, if_pos, if_neg])); refine rp2 19 (k := ?_); refine rp2 20 (k := ?_); refine rp2 21 (k := ?_); refine dd ?_; refine hJ6 _ _ ?_; refine hK5 _ _ ?_; refine run_ret ?_; (try simp only [Then, InBlock, NoGoto]); refine answer_tmp2 rfl (.inr rfl) ?_; exact gcr
end Go.Proofs.Ytmponlabfccjaaa

/-
  Pairs are taken out of a row, and laid into it.
-/
namespace Go.Proofs.Ytmponlabfccjaaa
set_option linter.unnecessarySimpa false
set_option maxRecDepth 100000
open Go Go.Vm
set_option linter.unusedSimpArgs false
set_option linter.unusedVariables false
attribute [local simp] evalL wantedA isCall opA evalA evalAll evalsA evalOpt ofValue ofCell plain binA_eql_pn binA_neq_pn binA_gtr binA_lss binA_geq binA_leq binA_add binA_sub binA_eql binA_neq binA_orI binA_shl binA_shr binA_mul binA_quo binA_rem binA_agg_eql binA_agg_neq convA_int unA_not fieldAddrA loadA partA pickA_true pickA_false pickA_bb lenA builtinA storeA splice AV.cells AV.isCell sliceA boundA intA callOf indexAddrA newObjA buildA fillA zeroA ofCells buildSliceA indexA fieldA set_appN get_appN take_appN List.getElem?_cons_zero List.getElem?_cons_succ sliceRowA appendA rowAppA readA clearA zerosA zeroCell capA copyA appendZA roomA maxLen Value.oneCell' Value.cells

set_option maxHeartbeats 1600000 in
attribute [local simp] undefA List.getElem?_cons_zero List.getElem?_cons_succ in
theorem delete_ok {σ : St} {k g i m : Nat} {A X B : List AV} (hr : σ.rows[k]? = some ⟨g, A ++ (X ++ B), none⟩) (hA : A.length = i * 2) (hX : X.length = 2) (hB : B.length = m * 2) (hn : i + m ≤ 1000000000) (hu : underL σ.bd (A ++ B) = true) :
    CallsA Try.prog 129 [.row k g 0 2 (i + 1 + m), .v (.int .i64 i), .v (.int .i64 (i + 1 : Nat))] σ (fun av σ' => ∃ g', av = .row k g' 0 2 (i + m) ∧ σ' = { σ with rows := σ.rows.set k ⟨g', A ++ B, none⟩ }) := by
  refine callsA_row_end (Q := fun av σ' => ∃ g junk sp, av = .row k g 0 2 (i + m) ∧ σ' = { σ with rows := σ.rows.set k ⟨g, (A ++ B) ++ junk, sp⟩ }) ?_ hr (by simp [hA, hB]; omega) hu (fun av σ' h => ?_)
  · have hs := set_self_of hr
    have hT : List.take (i * 2) (A ++ (X ++ B)) = A := List.take_left' hA
    have hD : List.drop ((i + 1) * 2) (A ++ (X ++ B)) = B := by rw [← List.append_assoc]; exact List.drop_left' (by simp [hA, hX]; omega)
    have hT2 : List.take (m * 2) B = B := List.take_of_length_le (by omega)
    have hN1 : ((i : Int) + (m : Int)).toNat = i + m := by omega
    have hN2 : ((i : Int) + 1 + (m : Int)).toNat = i + 1 + m := by omega
    have hN3 : i + 1 + m - (i + m) = 1 := by omega
    have hN4 : (i + 1 + m) * 2 - (i * 2 + m * 2) = 2 := by omega
    have hN5 : i * 2 + m * 2 = (i + m) * 2 := by omega
    have hD2 : ∀ Z, List.drop ((i + m) * 2 + 2) (A ++ (B ++ Z)) = List.drop 2 Z := fun Z => by rw [← List.append_assoc, ← List.drop_drop, List.drop_left' (by simp [hA, hB]; omega)]
    have hT3 : ∀ Z, List.take ((i + m) * 2) (A ++ (B ++ Z)) = A ++ B := fun Z => by rw [← List.append_assoc]; exact List.take_left' (by simp [hA, hB]; omega)
    have F := And.intro hr (And.intro hA (And.intro hX (And.intro hB (And.intro hT (And.intro hD (And.intro hT2 (And.intro hN1 (And.intro hN2 (And.intro hN3 (And.intro hN4 (And.intro hD2 (And.intro hT3 (True.intro)))))))))))))
    refine callsA_body Try.func129 rfl rfl rfl ?_; refine sr fun _ hJ2 => ?_; refine hJ2 _ _ ?_; refine sq fun K3 hK3 => ?_; refine run_learnD 0 (kk := fun s q hsq hnq => ?_); replace F := aF hs F; refine rg' (h := fun J4 hJ4 => ?_); refine hJ4 _ _ ?_; refine hK3 _ _ ?_; refine sq fun K5 hK5 => ?_; refine sr fun _ hJ7 => ?_; refine hJ7 _ _ ?_; refine cs (fun c16 => ?_) (fun c16 => ?_)
    · (try exact nope c16); all_goals have c16p := c16; try simp [F] at c16p
      all_goals
       replace F := aF c16 F; (try replace F := aF c16p F); refine sr fun _ hJ9 => ?_; refine hJ9 _ _ ?_; refine ra ?_; exact ⟨g + 1, _, _, by simp [F], by simp only [List.append_assoc]; rfl⟩
    (try exact nope c16); all_goals have c16p := c16; try simp [F] at c16p
    all_goals
     replace F := aF c16 F; (try replace F := aF c16p F); refine run_skip ?_; refine hK5 _ _ ?_; refine sr fun _ hJ11 => ?_; refine hJ11 _ _ ?_; refine sq fun K12 hK12 => ?_
     refine run_draw (by kernel_rfl) fun J13 hJ13 => ?_
     refine rp2 0 (k := ?_); refine rp2 1 (k := ?_); refine rp2 2 (k := ?_); refine rp2 3 (k := ?_); refine rp2 4 (k := ?_); refine rp2 5 (k := ?_); refine dop 6 rfl ?_; repeat (first | simp [F] | simp (disch := omega) only [wC, if_pos, if_neg])
     refine ⟨later_tmp (by kernel_rfl), ?_⟩
     refine dop 7 rfl ?_; (repeat (first | simp [F] | simp (disch := omega) only [wC, if_pos, if_neg])); (try refine ⟨ln, ?_⟩); refine dd ?_; refine hJ13 _ _ ?_; refine hK12 _ _ ?_; refine sr fun _ hJ15 => ?_; refine hJ15 _ _ ?_; refine sr fun _ hJ17 => ?_; refine hJ17 _ _ ?_; refine ra ?_; exact ⟨g + 1, _, _, by simp [F], by simp only [List.append_assoc]; rfl⟩
  · obtain ⟨g', junk, sp, e1, e2⟩ := h
    exact .inl ⟨g', junk, sp, [], [], [], e1, by rw [e2]; simp⟩

set_option maxHeartbeats 1600000 in
attribute [local simp] undefA List.getElem?_cons_zero List.getElem?_cons_succ in
theorem insert_end {σ : St} {k kv g gv i : Nat} {A X : List AV} {sv : Option Nat} (hr : σ.rows[k]? = some ⟨g, A, none⟩) (hv : σ.rows[kv]? = some ⟨gv, X, sv⟩) (hA : A.length = i * 2) (hX : X.length = 2) (hn : i ≤ 1000000000) (hu : underL σ.bd (A ++ X) = true) :
    CallsA Try.prog 130 [.row k g 0 2 i, .v (.int .i64 i), .row kv gv 0 2 1] σ (fun av σ' => ∃ g', av = .row k g' 0 2 (i + 1) ∧ σ' = { σ with rows := σ.rows.set k ⟨g', A ++ X, none⟩ }) := by
  refine callsA_row_end (Q := fun av σ' => ∃ g', av = .row k g' 0 2 (i + 1) ∧ σ' = { σ with rows := σ.rows.set k ⟨g', A ++ X, none⟩ }) ?_ hr (by simp [hA, hX]; omega) hu (fun av σ' h => ?_)
  · have hT : List.take (i * 2) A = A := List.take_of_length_le (by omega)
    have hX2 : List.take 2 X = X := List.take_of_length_le (by omega)
    have h1 : (i + 1) * 48 ≤ 140737488355328 := by omega
    have h2 : i + 1 ≤ 9223372036854775807 := by omega
    have F := And.intro hr (And.intro hv (And.intro hA (And.intro hX (And.intro hT (And.intro hX2 (And.intro h1 (And.intro h2 (True.intro))))))))
    refine callsA_body Try.func130 rfl rfl rfl ?_; refine sr fun _ hJ2 => ?_; refine hJ2 _ _ ?_; refine sr fun _ hJ4 => ?_; refine hJ4 _ _ ?_; refine sr fun _ hJ6 => ?_; refine hJ6 _ _ ?_; refine sq fun K7 hK7 => ?_; refine sr fun _ hJ9 => ?_; refine hJ9 _ _ ?_; refine cs (fun c16 => ?_) (fun c16 => ?_)
    · (try exact nope c16); all_goals have c16p := c16; try simp [F] at c16p
      all_goals
       replace F := aF c16 F; (try replace F := aF c16p F); refine sr fun _ hJ11 => ?_; refine hJ11 _ _ ?_; refine ra ?_; exact ⟨g + 1, by simp [F], rfl⟩
    (try exact nope c16); all_goals have c16p := c16; try simp [F] at c16p
    all_goals
     replace F := aF c16 F; (try replace F := aF c16p F); refine run_skip ?_; refine hK7 _ _ ?_; refine sr fun _ hJ13 => ?_; refine hJ13 _ _ ?_; refine sq fun K14 hK14 => ?_; refine sr fun _ hJ16 => ?_; refine hJ16 _ _ ?_; refine ct ?_; refine sr fun _ hJ18 => ?_; refine hJ18 _ _ ?_; refine ra ?_; exact ⟨g + 1, by simp [F], rfl⟩
  · obtain ⟨g', e1, e2⟩ := h
    exact .inl ⟨g', [], none, [], [], [], e1, by rw [e2]; simp⟩

theorem overlapsP {σ : St} {k1 g1 o1 n1 k2 g2 o2 n2 : Nat} {c1 c2 : List AV} {s1 s2 : Option Nat} (hne : k1 ≠ k2) (h1 : σ.rows[k1]? = some ⟨g1, c1, s1⟩) (h2 : σ.rows[k2]? = some ⟨g2, c2, s2⟩) :
    ExtA Try.prog 132 [.row k1 g1 o1 2 n1, .row k2 g2 o2 2 n2] σ (fun av _ => av = .v (.bool false)) :=
  overlaps_ext (tS := 94) (tR := 4) Try.func132 (by kernel_rfl) (by kernel_rfl) (by kernel_rfl) (by kernel_rfl) Try.underlying94 (ti_147) rfl (by decide) hne h1 rfl h2 rfl

set_option maxHeartbeats 1600000 in
attribute [local simp] undefA List.getElem?_cons_zero List.getElem?_cons_succ in
set_option maxHeartbeats 16000000 in
theorem insert_mid {σ : St} {k kv g gv i m : Nat} {A X B : List AV} {sv : Option Nat} (hr : σ.rows[k]? = some ⟨g, A ++ B, none⟩) (hv : σ.rows[kv]? = some ⟨gv, X, sv⟩) (hk : kv ≠ k) (hA : A.length = i * 2) (hX : X.length = 2) (hB : B.length = m * 2) (hm : 0 < m) (hn : i + m ≤ 1000000000) (hu : underL σ.bd (A ++ (X ++ B)) = true) :
    CallsA Try.prog 130 [.row k g 0 2 (i + m), .v (.int .i64 i), .row kv gv 0 2 1] σ (fun av σ' => ∃ g', av = .row k g' 0 2 (i + m + 1) ∧ σ' = { σ with rows := σ.rows.set k ⟨g', A ++ (X ++ B), none⟩ }) := by
  have hkl := lt_of_get hr
  have hvl := lt_of_get hv
  refine callsA_row_end (Q := fun av σ' => (∃ g' sp, av = .row k g' 0 2 (i + m + 1) ∧ σ' = { σ with rows := σ.rows.set k ⟨g', A ++ (X ++ B), sp⟩ }) ∨ (∃ r1 sp, av = .row σ.rows.length 0 0 2 (i + m + 1) ∧ σ' = { σ with rows := σ.rows.set k r1 ++ [⟨0, A ++ (X ++ B), sp⟩] })) ?_ hr (by simp [hA, hB, hX]; omega) hu (fun av σ' h => ?_)
  · have hs := fun x => set_self_of hr x
    have hvs : ∀ x, (σ.rows.set k x)[kv]? = some ⟨gv, X, sv⟩ := fun x => by rw [List.getElem?_set_ne (Ne.symm hk)]; exact hv
    have hT : List.take (i * 2) (A ++ B) = A := List.take_left' hA
    have hD : List.drop (i * 2) (A ++ B) = B := List.drop_left' hA
    have hT2 : List.take (m * 2) B = B := List.take_of_length_le (by omega)
    have hX2 : List.take 2 X = X := List.take_of_length_le (by omega)
    have hN1 : ((i : Int) + (m : Int)).toNat = i + m := by omega
    have hN2 : ((i : Int) + (m : Int) + 1).toNat = i + m + 1 := by omega
    have hw1 : IntKind.i64.wrap ((i : Int) + (m : Int) + 1) = ((i + m + 1 : Nat) : Int) := wrap_i64 _ (by omega) (by omega)
    have hw2 : IntKind.i64.wrap ((i : Int) + 1) = ((i + 1 : Nat) : Int) := wrap_i64 _ (by omega) (by omega)
    have hw3 : IntKind.i64.wrap ((i : Int) + (m : Int) + 1 - (i : Int)) = ((m + 1 : Nat) : Int) := by rw [wrap_i64 _ (by omega) (by omega)]; omega
    have hvs2 : ∀ r x, (σ.rows.set k r ++ [x])[kv]? = some ⟨gv, X, sv⟩ := fun r x => by rw [List.getElem?_append_left (by simpa using hvl)]; exact hvs r
    have hk1 : ∀ r x, (σ.rows.set k r ++ [x])[k]? = some r := fun r x => by rw [List.getElem?_append_left (by simpa using hkl)]; exact hs r
    have hn1 : ∀ r x, (σ.rows.set k r ++ [x])[σ.rows.length]? = some x := fun r x => by rw [List.getElem?_append_right (by simp)]; simp
    have hset1 : ∀ r x y, (σ.rows.set k r ++ [x]).set σ.rows.length y = σ.rows.set k r ++ [y] := fun r x y => by rw [List.set_append_right _ _ (by simp)]; simp
    have hTz : ∀ Z, List.take (i * 2) (A ++ Z) = A := fun Z => List.take_left' hA
    have hDz : ∀ Z, List.drop (i * 2) (A ++ Z) = Z := fun Z => List.drop_left' hA
    have hDz2 : ∀ Z, List.drop (i * 2 + 2) (A ++ Z) = List.drop 2 Z := fun Z => by rw [← List.drop_drop, hDz]
    have hT1 : ∀ Z, List.take ((i + 1) * 2) (A ++ Z) = A ++ List.take 2 Z := fun Z => by rw [show (i + 1) * 2 = A.length + 2 by omega, List.take_length_add_append]
    have hT2x : ∀ Z, List.take 2 (X ++ Z) = X := fun Z => List.take_left' hX
    have hDx : ∀ f : Nat → AV, List.drop ((i + 1) * 2 + m * 2) (A ++ (X ++ List.drop 2 (List.map f (List.range ((m + 1) * 2))))) = [] := fun f => List.drop_of_length_le (by simp [hA, hX]; omega)
    have hDx2 : ∀ E : List AV, E.length = 2 → List.drop ((i + 1) * 2 + m * 2) (A ++ (B ++ E)) = [] := fun E hE => List.drop_of_length_le (by simp [hA, hB, hE]; omega)
    have hDx3 := hDx2 [.any, .any] rfl
    have hN4 : (i + m + 1) * 2 - (i * 2 + m * 2) = 2 := by omega
    have hN5 : min 1 (m + 1) = 1 := by omega
    have hN6 : i + m + 1 - (i + 1) = m := by omega
    have hN7 : i + m + 1 - i = m + 1 := by omega
    have hN8 : min m (i + (m + 1) - (i + 1)) = m := by omega
    have hTB : ∀ E, List.take (m * 2) (B ++ E) = B := fun E => List.take_left' hB
    have hTB2 : List.take ((m + 1) * 2) (B ++ [.any, .any]) = B ++ [.any, .any] := List.take_of_length_le (by simp [hB]; omega)
    have hne : ((i : Int) == (i : Int) + (m : Int)) = false := by simp; omega
    have F := And.intro hr (And.intro hv (And.intro hA (And.intro hX (And.intro hB (And.intro hT (And.intro hD (And.intro hT2 (And.intro hX2 (And.intro hN1 (And.intro hN2 (And.intro hw1 (And.intro hw2 (And.intro hw3 (And.intro hne (True.intro)))))))))))))))
    refine callsA_body Try.func130 rfl rfl rfl ?_; refine sr fun _ hJ2 => ?_; refine hJ2 _ _ ?_; refine sr fun _ hJ4 => ?_; refine hJ4 _ _ ?_; refine sr fun _ hJ6 => ?_; refine hJ6 _ _ ?_; refine sq fun K7 hK7 => ?_; refine sr fun _ hJ9 => ?_; refine hJ9 _ _ ?_; refine cs (fun c16 => ?_) (fun c16 => ?_)
    · (try exact nope c16); all_goals have c16p := c16; try simp [F] at c16p
      all_goals
       replace F := aF c16 F; (try replace F := aF c16p F); refine sr fun _ hJ11 => ?_; refine hJ11 _ _ ?_; refine ra ?_; exact .inl ⟨g, _, by simp [F, Nat.add_assoc], rfl⟩
    (try exact nope c16); all_goals have c16p := c16; try simp [F] at c16p
    all_goals
     replace F := aF c16 F; (try replace F := aF c16p F); refine run_skip ?_; refine hK7 _ _ ?_; refine sr fun _ hJ13 => ?_; refine hJ13 _ _ ?_; refine sq fun K14 hK14 => ?_; refine sr fun _ hJ16 => ?_; refine hJ16 _ _ ?_; refine cf ?_; refine run_skip ?_; refine hK14 _ _ ?_; refine sq fun K17 hK17 => ?_; refine sq fun K18 hK18 => ?_; refine run_learnD 0 (kk := fun s q hsq hnq => ?_)
     have hql : i * 2 + m * 2 + s = q * 2 := by simp [hA, hB] at hsq; omega
     have hq1 : (i * 2 + m * 2 + s) % 2 = 0 := by omega
     have hq2 : ((i : Int) * 2 + (m : Int) * 2 + (s : Int)) / 2 = (q : Int) := by omega
     replace F := aF hs F; replace F := aF hvs F; replace F := aF hq1 F; replace F := aF hq2 F; replace F := aF hvs2 F; replace F := aF hk1 F; replace F := aF hn1 F; replace F := aF hset1 F; replace F := aF hTz F; replace F := aF hDz F; replace F := aF hDz2 F; replace F := aF hT1 F; replace F := aF hT2x F; replace F := aF hDx F; replace F := aF hDx3 F; replace F := aF hN4 F; replace F := aF hN5 F; replace F := aF hN6 F; replace F := aF hN7 F; replace F := aF hN8 F; replace F := aF hTB F; replace F := aF hTB2 F; refine rg' (h := fun J19 hJ19 => ?_); refine hJ19 _ _ ?_; refine hK18 _ _ ?_; refine cs (fun c31 => ?_) (fun c31 => ?_)
     · (try exact nope c31); all_goals have c31p := c31; try simp [F] at c31p
       all_goals
        replace F := aF c31 F; (try replace F := aF c31p F); refine sr fun _ hJ21 => ?_; refine hJ21 _ _ ?_; refine sr fun _ hJ23 => ?_; refine hJ23 _ _ ?_; refine sq fun K24 hK24 => ?_
        refine run_draw (by kernel_rfl) fun J25 hJ25 => ?_
        refine rp2 0 (k := ?_); refine rp2 1 (k := ?_); refine rp2 2 (k := ?_); refine rp2 3 (k := ?_); refine rp2 4 (k := ?_); refine rp2 5 (k := ?_); refine rp2 6 (k := ?_); refine rp2 7 (k := ?_); refine dop 8 rfl ?_; repeat (first | simp [F] | simp (disch := omega) only [wC, if_pos, if_neg])
        refine ⟨by first | exact fun _ _ h => h | (refine later_list [6, 5, 3, 2, 1, 0] (by kernel_rfl) (List.forall_mem_cons.2 ⟨fun _ => fact2 rfl rfl ?_, List.forall_mem_cons.2 ⟨fun _ => fact2 rfl rfl ?_, List.forall_mem_cons.2 ⟨fun _ => fact2 rfl rfl ?_, List.forall_mem_cons.2 ⟨fun _ => fact2 rfl rfl ?_, List.forall_mem_cons.2 ⟨fun _ => fact2 rfl rfl ?_, List.forall_mem_cons.2 ⟨fun _ => fact2 rfl rfl ?_, fun _ h => absurd h List.not_mem_nil⟩⟩⟩⟩⟩⟩) <;> constructor <;> first | rfl | (simp [F]; done)), ?_⟩
        refine dd ?_; refine hJ25 _ _ ?_; refine hK24 _ _ ?_; refine sr fun _ hJ27 => ?_; refine hJ27 _ _ ?_; refine ra ?_; exact .inr ⟨_, none, by simp [F, Nat.add_assoc], rfl⟩
     (try exact nope c31); all_goals have c31p := c31; try simp [F] at c31p
     all_goals
      replace F := aF c31 F; (try replace F := aF c31p F); refine run_skip ?_; refine hK17 _ _ ?_; refine sr fun _ hJ29 => ?_; refine hJ29 _ _ ?_; refine sq fun K30 hK30 => ?_; refine sr fun _ hJ32 => ?_
      refine ce (c := overlapsP (g1 := gv) (n1 := 1) (o1 := 0) (g2 := g) (o2 := (i + 1) * 2) (n2 := m) hk (by simp [F]; first | done | exact ⟨rfl, rfl⟩) (by simp [F]; first | done | exact ⟨rfl, rfl⟩)) (k := ?_)
      rintro _ _ rfl rfl; (repeat (first | simp [F] | simp (disch := omega) only [wC, if_pos, if_neg])); refine hJ32 _ _ ?_; refine ct ?_; refine sq fun K33 hK33 => ?_
      refine run_draw (by kernel_rfl) fun J34 hJ34 => ?_
      refine rp2 0 (k := ?_); refine rp2 1 (k := ?_); refine rp2 2 (k := ?_); refine rp2 3 (k := ?_); refine rp2 4 (k := ?_); refine rp2 5 (k := ?_); refine rp2 6 (k := ?_); refine rp2 7 (k := ?_); refine dop 8 rfl ?_; repeat (first | simp [F] | simp (disch := omega) only [wC, if_pos, if_neg])
      refine ⟨by first | exact fun _ _ h => h | (refine later_list [6, 5, 3, 2, 1, 0] (by kernel_rfl) (List.forall_mem_cons.2 ⟨fun _ => fact2 rfl rfl ?_, List.forall_mem_cons.2 ⟨fun _ => fact2 rfl rfl ?_, List.forall_mem_cons.2 ⟨fun _ => fact2 rfl rfl ?_, List.forall_mem_cons.2 ⟨fun _ => fact2 rfl rfl ?_, List.forall_mem_cons.2 ⟨fun _ => fact2 rfl rfl ?_, List.forall_mem_cons.2 ⟨fun _ => fact2 rfl rfl ?_, fun _ h => absurd h List.not_mem_nil⟩⟩⟩⟩⟩⟩) <;> constructor <;> first | rfl | (simp [F]; done)), ?_⟩
      refine dd ?_; refine hJ34 _ _ ?_; refine hK33 _ _ ?_; refine sr fun _ hJ36 => ?_; refine hJ36 _ _ ?_; refine sr fun _ hJ38 => ?_; refine hJ38 _ _ ?_; refine ra ?_; exact .inl ⟨g, _, by simp [F, Nat.add_assoc], rfl⟩
  · rcases h with ⟨g', sp, e1, e2⟩ | ⟨r1, sp, e1, e2⟩
    · exact .inl ⟨g', [], sp, [], [], [], e1, by rw [e2]; simp⟩
    · exact .inr ⟨_, sp, [], [], r1, 0, [], e1, by rw [e2]; simp, rfl⟩

end Go.Proofs.Ytmponlabfccjaaa

/-
  A store: a pair is put, or none of that key; what was there is told.
-/
namespace Go.Proofs.Ytmponlabfccjaaa
set_option linter.unnecessarySimpa false
set_option maxRecDepth 100000
open Go Go.Vm
set_option linter.unusedSimpArgs false
set_option linter.unusedVariables false
attribute [local simp] evalL wantedA isCall opA evalA evalAll evalsA evalOpt ofValue ofCell plain binA_eql_pn binA_neq_pn binA_gtr binA_lss binA_geq binA_leq binA_add binA_sub binA_eql binA_neq binA_orI binA_shl binA_shr binA_mul binA_quo binA_rem binA_agg_eql binA_agg_neq convA_int unA_not fieldAddrA loadA partA pickA_true pickA_false pickA_bb lenA builtinA storeA splice AV.cells AV.isCell sliceA boundA intA callOf indexAddrA newObjA buildA fillA zeroA ofCells buildSliceA indexA fieldA set_appN get_appN take_appN List.getElem?_cons_zero List.getElem?_cons_succ get_sa0 get_sa1 get_sa2 get_sa3 set_sa0 set_sa1 set_sa2 set_sa3

theorem prsC_app (l m : List Pr) : prsC (l ++ m) = prsC l ++ prsC m := by simp [prsC]
theorem prsC_take (l : List Pr) (i : Nat) : List.take (i * 2) (prsC l) = prsC (l.take i) := by
  by_cases h : i ≤ l.length
  · conv => lhs; rw [← List.take_append_drop i l, prsC_app]
    exact List.take_left' (by rw [prsC_len, List.length_take, Nat.min_eq_left h])
  · rw [List.take_of_length_le (by rw [prsC_len]; omega), List.take_of_length_le (by omega)]
theorem prsC_drop (l : List Pr) (i : Nat) : List.drop (i * 2) (prsC l) = prsC (l.drop i) := by
  by_cases h : i ≤ l.length
  · conv => lhs; rw [← List.take_append_drop i l, prsC_app]
    exact List.drop_left' (by rw [prsC_len, List.length_take, Nat.min_eq_left h])
  · rw [List.drop_of_length_le (by rw [prsC_len]; omega), List.drop_of_length_le (by omega)]; rfl
theorem prsC_set {l : List Pr} {i : Nat} (h : i < l.length) (p : Pr) : List.take (i * 2) (prsC l) ++ byC p.k :: byC p.v :: List.drop (i * 2 + 2) (prsC l) = prsC (l.set i p) := by
  rw [show i * 2 + 2 = (i + 1) * 2 by omega, prsC_take, prsC_drop, List.set_eq_take_append_cons_drop, if_pos h, prsC_app]
  rfl
theorem prsC_cut {l : List Pr} {i : Nat} (h : i < l.length) : prsC l = prsC (l.take i) ++ (prC l[i] ++ prsC (l.drop (i + 1))) := by
  conv => lhs; rw [← List.take_append_drop i l, prsC_app, List.drop_eq_getElem_cons h]
  rfl
theorem prsC_cut0 (l : List Pr) (i : Nat) : prsC l = prsC (l.take i) ++ prsC (l.drop i) := by
  conv => lhs; rw [← List.take_append_drop i l, prsC_app]
theorem delP_ok {σ : St} {k g i : Nat} {l : List Pr} (hr : σ.rows[k]? = some ⟨g, prsC l, none⟩) (hi : i < l.length) (hn : l.length ≤ 1000000) :
    CallsA Try.prog 129 [.row k g 0 2 l.length, .v (.int .i64 i), .v (.int .i64 ((i : Int) + 1))] σ (fun av σ' => ∃ g', av = .row k g' 0 2 (l.length - 1) ∧ σ' = { σ with rows := σ.rows.set k ⟨g', prsC (l.take i ++ l.drop (i + 1)), none⟩ }) := by
  rw [prsC_cut hi] at hr
  have := delete_ok (i := i) (m := l.length - i - 1) hr (by simp [prsC_len]; omega) rfl (by simp [prsC_len]; omega) (by omega) (by rw [← prsC_app]; exact prsC_under _ _)
  rw [← prsC_app, show i + 1 + (l.length - i - 1) = l.length by omega, show i + (l.length - i - 1) = l.length - 1 by omega] at this
  exact this
theorem insP_ok {σ : St} {k kv g gv i : Nat} {l : List Pr} {p : Pr} {sv : Option Nat} (hr : σ.rows[k]? = some ⟨g, prsC l, none⟩) (hv : σ.rows[kv]? = some ⟨gv, prC p, sv⟩) (hk : kv ≠ k) (hi : i ≤ l.length) (hn : l.length ≤ 1000000) :
    CallsA Try.prog 130 [.row k g 0 2 l.length, .v (.int .i64 i), .row kv gv 0 2 1] σ (fun av σ' => ∃ g', av = .row k g' 0 2 (l.length + 1) ∧ σ' = { σ with rows := σ.rows.set k ⟨g', prsC (l.take i ++ p :: l.drop i), none⟩ }) := by
  have e : prsC (l.take i ++ p :: l.drop i) = prsC (l.take i) ++ (prC p ++ prsC (l.drop i)) := by rw [prsC_app]; rfl
  by_cases h0 : i = l.length
  · subst h0
    have := insert_end (i := l.length) hr hv (by simp [prsC_len]) rfl (by omega) (by have := prsC_under σ.bd (l ++ [p]); rw [prsC_app] at this; simpa [prsC] using this)
    rw [e, List.take_length, List.drop_length]
    simpa [prsC] using this
  · rw [prsC_cut0 l i] at hr
    have := insert_mid (i := i) (m := l.length - i) hr hv hk (by simp [prsC_len]; omega) rfl (by simp [prsC_len]) (by omega) (by omega) (by rw [← e]; exact prsC_under _ _)
    rw [← e, show i + (l.length - i) = l.length by omega] at this
    exact this
theorem getL_some_at {l : List Pr} {key v : List UInt8} (hs : Srt l) (h : getL l key = some v) : ∃ h : findL l key < l.length, (l[findL l key]).k = key ∧ (l[findL l key]).v = v := by
  rw [findL_get hs] at h
  split at h
  · rename_i p hp
    obtain ⟨h1, h2⟩ := List.getElem?_eq_some_iff.1 hp
    split at h
    · rename_i hk
      exact ⟨h1, by rw [h2]; exact hk, by rw [h2]; exact Option.some.inj h⟩
    · cases h
  · cases h

set_option maxHeartbeats 1600000 in
attribute [local simp] undefA List.getElem?_cons_zero List.getElem?_cons_succ byC in
theorem put_ok {σ : St} {o k : Nat} {G : Sg} {key val : List UInt8} {is : Bool} (h : HasS σ o k G) (hs : Srt G.s.l) (hl : G.s.l.length ≤ 1000000) :
    CallsA Try.prog 123 [.ptr o 0, .agg [byC key, byC val], .v (.bool is)] σ (fun av σ' => ∃ g, av = .agg (udC ⟨key, getL G.s.l key⟩) ∧ σ' = putS σ o k ⟨⟨setL G.s.l key (if is then some val else none), G.s.log, G.s.marks⟩, g, G.g2, G.g3⟩) := by
  refine callsA_gcSt (X := Nat) (T := fun g => ⟨⟨setL G.s.l key (if is then some val else none), G.s.log, G.s.marks⟩, g, G.g2, G.g3⟩) h (fun _ => by simp [AV.under, udC_under]) ?_
  have hp1 := fun l' g' => putS_1 h l' g'
  have hfi := fun L m => find_ok (key := key) (t := .shut) (h.app L m) hs (by omega)
  have hbd := prsC_under σ.bd
  have hset := setL_at (k := key) (o := if is then some val else none) hs
  have hgat : ∀ v, getL G.s.l key = some v → _ := fun v h => getL_some_at (key := key) (v := v) hs h
  have hhas : hasL G.s.l key = (getL G.s.l key).isSome := rfl
  have hlo := lt_of_get h.o
  have hlr := lt_of_get h.r1
  obtain ⟨ho, hr1, hr2, hr3⟩ := h
  obtain ⟨⟨l, log, marks⟩, g1, g2, g3⟩ := G
  simp only [stC, stR1, stR2, stR3] at ho hr1 hr2 hr3 hl hp1 hset hgat hhas hfi ⊢
  have ha : ∀ L, (σ.objs ++ L)[o]? = some [.row k g1 0 2 l.length, .row (k + 1) g2 0 3 log.length, .row (k + 2) g3 0 1 marks.length] := fun L => by rw [List.getElem?_append_left hlo]; exact ho
  have hb : ∀ x L, (σ.objs ++ L).set o x = σ.objs.set o x ++ L := fun x L => List.set_append_left _ _ hlo
  have hc : ∀ x L, (σ.objs.set o x ++ L)[o]? = some x := fun x L => by rw [List.getElem?_append_left (by simpa using hlo)]; exact set_self_of ho x
  have hle := findL_le l key
  obtain ⟨i, hi⟩ : ∃ i, i = findL l key := ⟨_, rfl⟩
  obtain ⟨q, hq⟩ : ∃ q, q = getL l key := ⟨_, rfl⟩
  simp only [← hi, ← hq] at hset hgat hhas hfi hle
  obtain ⟨b, hbb⟩ : ∃ b, b = hasL l key := ⟨_, rfl⟩
  simp only [← hbb] at hfi hhas
  have hda : ∀ (x : RowSt) L, (σ.rows.set k x ++ L)[k]? = some x := fun x L => by rw [List.getElem?_append_left (by simpa using hlr)]; exact set_self_of hr1 x
  have hdb : ∀ L, (σ.rows ++ L)[k]? = some ⟨g1, prsC l, none⟩ := fun L => by rw [List.getElem?_append_left hlr]; exact hr1
  have hdc : ∀ (x : RowSt) L, (σ.rows ++ L).set k x = σ.rows.set k x ++ L := fun x L => List.set_append_left _ _ hlr
  have hso := set_same' ho
  have hsr := set_same' hr1
  have F := And.intro ha (And.intro hb (And.intro hc (And.intro hr1 (And.intro hda (And.intro hdb (And.intro hdc (And.intro hso (And.intro hsr (True.intro)))))))))
  refine callsA_body Try.func123 rfl rfl rfl ?_; refine sr fun _ hJ2 => ?_; refine hJ2 _ _ ?_; refine sr fun _ hJ4 => ?_; refine ca (c := hfi _ _) (k := ?_); rintro _ _ ⟨rfl, rfl⟩; (repeat (first | simp [F] | simp (disch := omega) only [wC, if_pos, if_neg])); refine hJ4 _ _ ?_; refine sr fun _ hJ6 => ?_; refine hJ6 _ _ ?_; refine sq fun K7 hK7 => ?_; refine run_block_k ?_; refine sr fun _ hJ9 => ?_; refine gs 24 (fun g3_1 => ?_) (fun g3_1 => ?_)
  · (try exact nope g3_1); all_goals have g3_1p := g3_1; try simp [F] at g3_1p
    all_goals
     replace F := aF g3_1 F; try replace F := aF g3_1p F
     obtain ⟨v, hv⟩ : ∃ v, q = some v := Option.isSome_iff_exists.1 (by rw [← hhas]; simpa using g3_1)
     obtain ⟨hil, hik, hiv⟩ := hgat v hv
     have hat := prsC_at hil
     rw [hiv] at hat
     have hat2 := hat.2
     have hpl := prsC_len l
     have hi2 : i * 2 + 2 ≤ l.length * 2 := by omega
     have hps := prsC_set hil ⟨key, val⟩
     simp only [byC] at hat2 hps
     replace F := aF hil (And.intro hat2 (And.intro hpl (And.intro hi2 F))); refine go2 (k := ?_); refine hJ9 _ _ ?_; refine cs (fun c22 => ?_) (fun c22 => ?_)
     · (try exact nope c22); all_goals have c22p := c22; try simp [F] at c22p
       all_goals
        replace F := aF c22 F; try replace F := aF c22p F
        have his : is = true := by simpa using c22
        have hS : setL l key (if is then some val else none) = l.set i ⟨key, val⟩ := by rw [hset, hv, his]; rfl
        replace F := aF hps F
        refine run_draw (by kernel_rfl) fun J10 hJ10 => ?_
        refine rp2 0 (k := ?_); refine rp2 1 (k := ?_); refine rp2 2 (k := ?_); refine rp2 3 (k := ?_); refine rp2 4 (k := ?_); refine rp2 5 (k := ?_); refine rp2 6 (k := ?_); refine rp2 7 (k := ?_); refine rp2 8 (k := ?_); refine rp2 9 (k := ?_); refine rp2 10 (k := ?_); refine rp2 11 (k := ?_); refine rp2 12 (k := ?_); refine rp2 13 (k := ?_); refine rp2 14 (k := ?_); refine rp2 15 (k := ?_); refine dop 16 rfl ?_; repeat (first | simp [F] | simp (disch := omega) only [wC, if_pos, if_neg])
        refine ⟨by first | exact fun _ _ h => h | (refine later_list [14, 13, 4, 3, 2, 1, 0] (by kernel_rfl) (List.forall_mem_cons.2 ⟨fun _ => fact2 rfl rfl ?_, List.forall_mem_cons.2 ⟨fun _ => fact2 rfl rfl ?_, List.forall_mem_cons.2 ⟨fun _ => fact2 rfl rfl ?_, List.forall_mem_cons.2 ⟨fun _ => fact2 rfl rfl ?_, List.forall_mem_cons.2 ⟨fun _ => fact2 rfl rfl ?_, List.forall_mem_cons.2 ⟨fun _ => fact2 rfl rfl ?_, List.forall_mem_cons.2 ⟨fun _ => fact2 rfl rfl ?_, fun _ h => absurd h List.not_mem_nil⟩⟩⟩⟩⟩⟩⟩) <;> constructor <;> first | rfl | (simp [F]; done)), ?_⟩
        refine rp2 17 (k := ?_); refine dop 18 rfl ?_; (repeat (first | simp [F] | simp (disch := omega) only [wC, if_pos, if_neg])); refine ⟨ln, ?_⟩; refine dd ?_; refine hJ10 _ _ ?_; refine hK7 _ _ ?_; refine sr fun _ hJ12 => ?_; refine hJ12 _ _ ?_; refine run_ret ?_; (try simp only [Then, InBlock, NoGoto]); refine acell (h := ?_); refine ⟨g1, ?_⟩
        rw [hp1, hS, ← hq, hv]
        exact gcr
     (try exact nope c22); all_goals have c22p := c22; try simp [F] at c22p
     all_goals
      replace F := aF c22 F; try replace F := aF c22p F
      have his : is = false := by simpa using c22
      have hS : setL l key (if is then some val else none) = l.take i ++ l.drop (i + 1) := by rw [hset, hv, his]; rfl
      have hlen : (l.take i ++ l.drop (i + 1)).length = l.length - 1 := by simp; omega
      replace F := aF hlen F; refine sr fun _ hJ14 => ?_; refine hJ14 _ _ ?_; refine ct ?_; refine sr fun _ hJ16 => ?_; refine hJ16 _ _ ?_; refine rg' (h := fun J17 hJ17 => ?_); refine ca (c := delP_ok (i := i) (l := l) (g := g1) (k := k) st hil hl) (k := ?_); rintro _ _ ⟨g', rfl, rfl⟩; (repeat (first | simp [F] | simp (disch := omega) only [wC, if_pos, if_neg])); refine hJ17 _ _ ?_; refine hK7 _ _ ?_; refine sr fun _ hJ19 => ?_; refine hJ19 _ _ ?_; refine run_ret ?_; (try simp only [Then, InBlock, NoGoto]); refine acell (h := ?_); refine ⟨g', ?_⟩
      rw [hp1, hS, ← hq, hv]
      exact gcr
  (try exact nope g3_1); all_goals have g3_1p := g3_1; try simp [F] at g3_1p
  all_goals
   replace F := aF g3_1 F; try replace F := aF g3_1p F
   have hv : q = none := by cases q with | none => rfl | some v => simp [hhas] at g3_1
   refine no2 (k := ?_); refine hJ9 _ _ ?_; refine cf ?_; refine sr fun _ hJ21 => ?_; refine hJ21 _ _ ?_; refine cf ?_; refine sr fun _ hJ23 => ?_; refine hJ23 _ _ ?_; refine cs (fun c67 => ?_) (fun c67 => ?_)
   · (try exact nope c67); all_goals have c67p := c67; try simp [F] at c67p
     all_goals
      replace F := aF c67 F; try replace F := aF c67p F
      have his : is = true := by simpa using c67
      have hS : setL l key (if is then some val else none) = l.take i ++ ⟨key, val⟩ :: l.drop i := by rw [hset, hv, his]; rfl
      have hlen : (l.take i ++ (⟨key, val⟩ : Pr) :: l.drop i).length = l.length + 1 := by simp; omega
      replace F := aF hlen F
      refine run_draw (by kernel_rfl) fun J24 hJ24 => ?_
      refine rp2 0 (k := ?_); refine rp2 1 (k := ?_); refine rp2 2 (k := ?_); refine rp2 3 (k := ?_); refine rp2 4 (k := ?_); refine rp2 5 (k := ?_); refine rp2 6 (k := ?_); refine db 7 rfl rfl (k := ?_)
      refine ⟨by first | exact fun _ _ h => h | (refine later_list [5, 4, 3, 2, 1, 0] (by kernel_rfl) (List.forall_mem_cons.2 ⟨fun _ => fact2 rfl rfl ?_, List.forall_mem_cons.2 ⟨fun _ => fact2 rfl rfl ?_, List.forall_mem_cons.2 ⟨fun _ => fact2 rfl rfl ?_, List.forall_mem_cons.2 ⟨fun _ => fact2 rfl rfl ?_, List.forall_mem_cons.2 ⟨fun _ => fact2 rfl rfl ?_, List.forall_mem_cons.2 ⟨fun _ => fact2 rfl rfl ?_, fun _ h => absurd h List.not_mem_nil⟩⟩⟩⟩⟩⟩) <;> constructor <;> first | rfl | (simp [F]; done)), ?_⟩
      repeat (first | simp [F] | simp (disch := omega) only [wC, if_pos, if_neg])
      refine dc 8 rfl (c := insP_ok (i := i) (l := l) (g := g1) (k := k) (kv := σ.rows.length) (gv := 0) (p := ⟨key, val⟩) (sv := none) st (by simp [F]; rfl) (by omega) hle hl) (k := ?_)
      rintro _ _ ⟨g', rfl, rfl⟩
      refine ⟨by first | exact fun _ _ h => h | (refine later_list [3, 2, 1, 0] (by kernel_rfl) (List.forall_mem_cons.2 ⟨fun _ => fact2 rfl rfl ?_, List.forall_mem_cons.2 ⟨fun _ => fact2 rfl rfl ?_, List.forall_mem_cons.2 ⟨fun _ => fact2 rfl rfl ?_, List.forall_mem_cons.2 ⟨fun _ => fact2 rfl rfl ?_, fun _ h => absurd h List.not_mem_nil⟩⟩⟩⟩) <;> constructor <;> first | rfl | (simp [F]; done)), ?_⟩
      (repeat (first | simp [F] | simp (disch := omega) only [wC, if_pos, if_neg])); refine rp2 9 (k := ?_); refine rp2 10 (k := ?_); refine dop 11 rfl ?_; repeat (first | simp [F] | simp (disch := omega) only [wC, if_pos, if_neg])
      refine ⟨by first | exact fun _ _ h => h | (refine later_list [9] (by kernel_rfl) (List.forall_mem_cons.2 ⟨fun _ => fact2 rfl rfl ?_, fun _ h => absurd h List.not_mem_nil⟩) <;> constructor <;> first | rfl | (simp [F]; done)), ?_⟩
      refine dd ?_; refine hJ24 _ _ ?_; refine hK7 _ _ ?_; refine sr fun _ hJ26 => ?_; refine hJ26 _ _ ?_; refine run_ret ?_; (try simp only [Then, InBlock, NoGoto]); refine acell (h := ?_); refine ⟨g', ?_⟩
      rw [hp1, hS, ← hq, hv]
      exact gcr (hA := WkL.agg (.cons (Wk.refl _) (.cons (Wk.nil _ _ _) (.cons (Wk.refl _) .nil))))
   (try exact nope c67); all_goals have c67p := c67; try simp [F] at c67p
   all_goals
    replace F := aF c67 F; try replace F := aF c67p F
    have his : is = false := by simpa using c67
    have hS : setL l key (if is then some val else none) = l := by rw [hset, hv, his]; rfl
    refine run_skip ?_; refine hK7 _ _ ?_; refine sr fun _ hJ28 => ?_; refine hJ28 _ _ ?_; refine run_ret ?_; (try simp only [Then, InBlock, NoGoto]); refine acell (h := ?_); refine ⟨g1, ?_⟩
    rw [hp1, hS, ← hq, hv]
    exact gcr (hA := WkL.agg (.cons (Wk.refl _) (.cons (Wk.nil _ _ _) (.cons (Wk.refl _) .nil))))

end Go.Proofs.Ytmponlabfccjaaa

/-
  A store: a pair is put, and what was there is noted.
-/
namespace Go.Proofs.Ytmponlabfccjaaa
set_option linter.unnecessarySimpa false
set_option maxRecDepth 100000
open Go Go.Vm
set_option linter.unusedSimpArgs false
set_option linter.unusedVariables false
attribute [local simp] evalL wantedA isCall opA evalA evalAll evalsA evalOpt ofValue ofCell plain binA_eql_pn binA_neq_pn binA_gtr binA_lss binA_geq binA_leq binA_add binA_sub binA_eql binA_neq binA_orI binA_shl binA_shr binA_mul binA_quo binA_rem binA_agg_eql binA_agg_neq convA_int unA_not fieldAddrA loadA partA pickA_true pickA_false pickA_bb lenA builtinA storeA splice AV.cells AV.isCell sliceA boundA intA callOf indexAddrA newObjA buildA fillA zeroA ofCells buildSliceA indexA fieldA set_appN get_appN take_appN List.getElem?_cons_zero List.getElem?_cons_succ get_sa0 get_sa1 get_sa2 get_sa3 set_sa0 set_sa1 set_sa2 set_sa3 appendA rowAppA readA roomA maxLen zeroCell Value.oneCell' Value.cells

theorem put_app {σ : St} {o k : Nat} {G : Sg} {key val : List UInt8} {is : Bool} (h : HasS σ o k G) (hs : Srt G.s.l) (hl : G.s.l.length ≤ 1000000) (L : List (List AV)) :
    CallsA Try.prog 123 [.ptr o 0, .agg [byC key, byC val], .v (.bool is)] { σ with objs := σ.objs ++ L } (fun av σ' => ∃ g, av = .agg (udC ⟨key, getL G.s.l key⟩) ∧ σ' = { σ with objs := σ.objs.set o [.row k g 0 2 (setL G.s.l key (if is then some val else none)).length, .row (k + 1) G.g2 0 3 G.s.log.length, .row (k + 2) G.g3 0 1 G.s.marks.length] ++ L, rows := σ.rows.set k ⟨g, prsC (setL G.s.l key (if is then some val else none)), none⟩ }) :=
  callsA_mono (put_ok (h.app L σ.toks) hs hl) (fun av σ' ⟨g, e1, e2⟩ => ⟨g, e1, by rw [e2, putS_1 (h.app L σ.toks)]; simp only; rw [List.set_append_left _ _ (lt_of_get h.o)]⟩)

set_option maxHeartbeats 1600000 in
attribute [local simp] undefA List.getElem?_cons_zero List.getElem?_cons_succ byC drop_mr in
theorem do_ok {σ : St} {o k n : Nat} {G : Sg} {key val : List UInt8} {is : Bool} (h : HasS σ o k G) (hG : G.s.Ok n) (hn : n ≤ 1000000) :
    CallsA Try.prog 101 [.ptr o 0, .agg [byC key, byC val], .v (.bool is)] σ (fun av σ' => ∃ G', G'.s = doS G.s key (if is then some val else none) ∧ av = .tup [] ∧ σ' = putS σ o k G') := by
  refine callsA_mono (callsA_gcSt (X := Nat × Nat) (A := fun _ => .tup []) (T := fun x => ⟨doS G.s key (if is then some val else none), x.1, x.2, G.g3⟩) h (fun _ => rfl) ?_) (fun av σ' ⟨x, e1, e2⟩ => ⟨_, rfl, e1, e2⟩)
  have hpa := put_app (key := key) (val := val) (is := is) h hG.srt (Nat.le_trans hG.l hn)
  have hp2 := fun l lg g g' => putS_2 h l lg g g'
  have hlo := lt_of_get h.o
  have hlr := lt_of_get h.r1
  have hlr2 := lt_of_get h.r2
  have hll := hG.log
  obtain ⟨ho, hr1, hr2, hr3⟩ := h
  obtain ⟨⟨l, log, marks⟩, g1, g2, g3⟩ := G
  simp only [stC, stR1, stR2, stR3, doS] at ho hr1 hr2 hr3 hp2 hpa hll ⊢
  have ha : ∀ x L, (σ.objs.set o x ++ L)[o]? = some x := fun x L => by rw [List.getElem?_append_left (by simpa using hlo)]; exact set_self_of ho x
  have hb : ∀ x y L, (σ.objs.set o x ++ L).set o y = σ.objs.set o y ++ L := fun x y L => by rw [List.set_append_left _ _ (by simpa using hlo), List.set_set]
  have hc : ∀ x, (σ.rows.set k x)[k + 1]? = some ⟨g2, udsC log, none⟩ := fun x => by rw [List.getElem?_set_ne (by omega)]; exact hr2
  have hsr : ∀ x, (σ.rows.set k x).set (k + 1) ⟨g2, udsC log, none⟩ = σ.rows.set k x := fun x => set_same' (hc x)
  have hul := udsC_len log
  have hut : List.take (log.length * 3) (udsC log) = udsC log := List.take_of_length_le (by omega)
  have hrm : (log.length + 1) * 56 ≤ 140737488355328 := by omega
  have hmx : log.length + 1 ≤ 9223372036854775807 := by omega
  have hua : udsC (log ++ [⟨key, getL l key⟩]) = udsC log ++ udC ⟨key, getL l key⟩ := by rw [udsC_app]; simp [udsC]
  obtain ⟨q, hq⟩ : ∃ q, q = getL l key := ⟨_, rfl⟩
  obtain ⟨l', hl'⟩ : ∃ l', l' = setL l key (if is then some val else none) := ⟨_, rfl⟩
  simp only [← hq, ← hl'] at hpa hua ⊢
  simp only [udC] at hpa hua
  have F := And.intro ha (And.intro hb (And.intro hc (And.intro hul (And.intro hut (And.intro hrm (And.intro hmx (And.intro hsr (True.intro))))))))
  refine callsA_body Try.func101 rfl rfl rfl ?_; refine sr fun _ hJ2 => ?_; refine hJ2 _ _ ?_; refine sq fun K3 hK3 => ?_; refine sr fun _ hJ5 => ?_; refine hJ5 _ _ ?_; refine cf ?_; refine run_skip ?_; refine hK3 _ _ ?_; refine sr fun _ hJ7 => ?_; refine ca (c := hpa _) (k := ?_); rintro _ _ ⟨g, rfl, rfl⟩; (repeat (first | simp [F] | simp (disch := omega) only [wC, if_pos, if_neg])); refine hJ7 _ _ ?_; refine sr fun _ hJ9 => ?_; refine hJ9 _ _ ?_; refine cs (fun c18 => ?_) (fun c18 => ?_)
  · (try exact nope c18); all_goals have c18p := c18; try simp [F] at c18p
    all_goals
     replace F := aF c18 F; try replace F := aF c18p F
     have hm : marks ≠ [] := by have h := c18; simp at h; exact List.length_pos_iff.1 h
     refine run_draw (by kernel_rfl) fun J10 hJ10 => ?_
     refine rp2 0 (k := ?_); refine rp2 1 (k := ?_); refine rp2 2 (k := ?_); refine rp2 3 (k := ?_); refine rp2 4 (k := ?_); refine rp2 5 (k := ?_); refine rp2 6 (k := ?_); refine dop 7 rfl ?_; repeat (first | simp [F] | simp (disch := omega) only [wC, if_pos, if_neg])
     refine ⟨by first | exact fun _ _ h => h | (refine later_list [5, 3, 2, 1, 0] (by kernel_rfl) (List.forall_mem_cons.2 ⟨fun _ => fact2 rfl rfl ?_, List.forall_mem_cons.2 ⟨fun _ => fact2 rfl rfl ?_, List.forall_mem_cons.2 ⟨fun _ => fact2 rfl rfl ?_, List.forall_mem_cons.2 ⟨fun _ => fact2 rfl rfl ?_, List.forall_mem_cons.2 ⟨fun _ => fact2 rfl rfl ?_, fun _ h => absurd h List.not_mem_nil⟩⟩⟩⟩⟩) <;> constructor <;> first | rfl | (simp [F]; done)), ?_⟩
     refine rp2 8 (k := ?_); refine rp2 9 (k := ?_); refine dop 10 rfl ?_; repeat (first | simp [F] | simp (disch := omega) only [wC, if_pos, if_neg])
     refine ⟨by first | exact fun _ _ h => h | (refine later_list [8] (by kernel_rfl) (List.forall_mem_cons.2 ⟨fun _ => fact2 rfl rfl ?_, fun _ h => absurd h List.not_mem_nil⟩) <;> constructor <;> first | rfl | (simp [F]; done)), ?_⟩
     refine dd ?_; refine hJ10 _ _ ?_; (try simp only [Then, InBlock, NoGoto, if_true]); refine answer_none rfl (.inl rfl) ?_; refine ⟨(g, g2 + 1), ?_⟩; simp only [if_neg hm]
     rw [hp2, hua]
     exact gcr
  (try exact nope c18); all_goals have c18p := c18; try simp [F] at c18p
  all_goals
   replace F := aF c18 F; try replace F := aF c18p F
   have hm : marks = [] := by have h := c18; simp at h; exact h
   refine run_skip ?_; (try simp only [Then, InBlock, NoGoto, if_true]); refine answer_none rfl (.inl rfl) ?_; refine ⟨(g, g2), ?_⟩; simp only [if_pos hm]
   rw [hp2, hsr]
   exact gcr

end Go.Proofs.Ytmponlabfccjaaa

/-
  A store: what its methods do.
-/
namespace Go.Proofs.Ytmponlabfccjaaa
set_option linter.unnecessarySimpa false
set_option maxRecDepth 100000
open Go Go.Vm
set_option linter.unusedSimpArgs false
set_option linter.unusedVariables false
attribute [local simp] evalL wantedA isCall opA evalA evalAll evalsA evalOpt ofValue ofCell plain binA_eql_pn binA_neq_pn binA_gtr binA_lss binA_geq binA_leq binA_add binA_sub binA_eql binA_neq binA_orI binA_shl binA_shr binA_mul binA_quo binA_rem binA_agg_eql binA_agg_neq convA_int unA_not fieldAddrA loadA partA pickA_true pickA_false pickA_bb lenA builtinA storeA splice AV.cells AV.isCell sliceA boundA intA callOf indexAddrA newObjA buildA fillA zeroA ofCells buildSliceA indexA fieldA set_appN get_appN take_appN List.getElem?_cons_zero List.getElem?_cons_succ get_sa0 get_sa1 get_sa2 get_sa3 set_sa0 set_sa1 set_sa2 set_sa3 appendA rowAppA readA roomA maxLen zeroCell Value.oneCell' Value.cells sliceRowA binA_eqn binA_neqn drop_mr

set_option maxHeartbeats 1600000 in
attribute [local simp] undefA List.getElem?_cons_zero List.getElem?_cons_succ in
theorem set_ok {σ : St} {o k n : Nat} {G : Sg} {key val : List UInt8} {t1 t2 : Tail} (h : HasS σ o k G) (hG : G.s.Ok n) (hn : n ≤ 1000000) (hk : key.length ≤ 1000000) (hv : val.length ≤ 1000000) :
    CallsA Try.prog 67 [.ptr o 0, .sl 1 (bytesA key) key.length t1, .sl 1 (bytesA val) val.length t2] σ (fun av σ' => ∃ G', G'.s = doS G.s key (some val) ∧ av = .tup [] ∧ σ' = putS σ o k G') := by
  have F := True.intro
  refine callsA_body Try.func67 rfl rfl rfl ?_; refine rg' (h := fun J1 hJ1 => ?_); refine ca (c := clone_ok hk) (k := ?_); rintro _ _ ⟨rfl, rfl⟩; (repeat (first | simp [F] | simp (disch := omega) only [wC, if_pos, if_neg])); refine ca (c := clone_ok hv) (k := ?_); rintro _ _ ⟨rfl, rfl⟩; (repeat (first | simp [F] | simp (disch := omega) only [wC, if_pos, if_neg])); refine ca (c := do_ok (key := key) (val := val) (is := true) h hG hn) (k := ?_); rintro _ _ ⟨G', e1, rfl, rfl⟩; (repeat (first | simp [F] | simp (disch := omega) only [wC, if_pos, if_neg])); refine hJ1 _ _ ?_; (try simp only [Then, InBlock, NoGoto, if_true]); refine answer_none rfl (.inl rfl) ?_; exact ⟨G', e1, rfl, rfl⟩

set_option maxHeartbeats 1600000 in
attribute [local simp] undefA List.getElem?_cons_zero List.getElem?_cons_succ in
theorem del_ok {σ : St} {o k n : Nat} {G : Sg} {key : List UInt8} {t1 : Tail} (h : HasS σ o k G) (hG : G.s.Ok n) (hn : n ≤ 1000000) (hk : key.length ≤ 1000000) :
    CallsA Try.prog 66 [.ptr o 0, .sl 1 (bytesA key) key.length t1] σ (fun av σ' => ∃ G', G'.s = doS G.s key none ∧ av = .tup [] ∧ σ' = putS σ o k G') := by
  have hdo : CallsA Try.prog 101 [.ptr o 0, .agg [.sl 1 (bytesA key) key.length .shut, .sl 0 [] 0 .full], .v (.bool false)] σ (fun av σ' => ∃ G', G'.s = doS G.s key none ∧ av = .tup [] ∧ σ' = putS σ o k G') :=
    callsA_wk (.cons (Wk.refl _) (.cons (WkL.agg (.cons (Wk.refl _) (.cons (Wk.nil _ _ _) .nil))) (.cons (Wk.refl _) .nil))) (do_ok (key := key) (val := []) (is := false) h hG hn)
  have F := True.intro
  refine callsA_body Try.func66 rfl rfl rfl ?_; refine rg' (h := fun J1 hJ1 => ?_); refine ca (c := clone_ok hk) (k := ?_); rintro _ _ ⟨rfl, rfl⟩; (repeat (first | simp [F] | simp (disch := omega) only [wC, if_pos, if_neg])); refine ca (c := hdo) (k := ?_); rintro _ _ ⟨G', e1, rfl, rfl⟩; (repeat (first | simp [F] | simp (disch := omega) only [wC, if_pos, if_neg])); refine hJ1 _ _ ?_; (try simp only [Then, InBlock, NoGoto, if_true]); refine answer_none rfl (.inl rfl) ?_; exact ⟨G', e1, rfl, rfl⟩

set_option maxHeartbeats 1600000 in
attribute [local simp] undefA List.getElem?_cons_zero List.getElem?_cons_succ byC in
theorem get_ok {σ : St} {o k n : Nat} {G : Sg} {key : List UInt8} {t1 : Tail} (h : HasS σ o k G) (hG : G.s.Ok n) (hn : n ≤ 1000000) :
    CallsA Try.prog 71 [.ptr o 0, .sl 1 (bytesA key) key.length t1] σ (fun av σ' => av = .tup [byC ((getL G.s.l key).getD []), .v (.bool (getL G.s.l key).isSome)] ∧ σ = σ') := by
  refine callsA_gcS ?_ (by simp [AV.under, underL, byC_under])
  have hfi := find_ok (key := key) (t := t1) h hG.srt (by have := hG.l; omega)
  have hgat : ∀ v, getL G.s.l key = some v → _ := fun v h => getL_some_at (key := key) (v := v) hG.srt h
  have hhas : hasL G.s.l key = (getL G.s.l key).isSome := rfl
  have hkv := hG.kv
  obtain ⟨ho, hr1, hr2, hr3⟩ := h
  obtain ⟨⟨l, log, marks⟩, g1, g2, g3⟩ := G
  simp only [stC, stR1, stR2, stR3] at ho hr1 hr2 hr3 hfi hgat hhas hkv ⊢
  obtain ⟨i, hi⟩ : ∃ i, i = findL l key := ⟨_, rfl⟩
  obtain ⟨q, hq⟩ : ∃ q, q = getL l key := ⟨_, rfl⟩
  simp only [← hi, ← hq] at hgat hhas hfi ⊢
  rw [hhas] at hfi
  cases q with
  | none =>
    have F := And.intro ho (And.intro hr1 (True.intro))
    refine callsA_body Try.func71 rfl rfl rfl ?_; refine sq fun K1 hK1 => ?_; refine rg' (h := fun J2 hJ2 => ?_); refine hJ2 _ _ ?_; refine hK1 _ _ ?_; refine sq fun K3 hK3 => ?_; refine sq fun K4 hK4 => ?_; refine rg' (h := fun J5 hJ5 => ?_); refine hJ5 _ _ ?_; refine hK4 _ _ ?_; refine cf ?_; refine run_skip ?_; refine hK3 _ _ ?_; refine sq fun K6 hK6 => ?_; refine rg' (h := fun J7 hJ7 => ?_); refine ca (c := hfi) (k := ?_); rintro _ _ ⟨rfl, rfl⟩; (repeat (first | simp [F] | simp (disch := omega) only [wC, if_pos, if_neg])); refine hJ7 _ _ ?_; refine hK6 _ _ ?_; refine sq fun K8 hK8 => ?_; refine sq fun K9 hK9 => ?_; refine rg' (h := fun J10 hJ10 => ?_); refine hJ10 _ _ ?_; refine hK9 _ _ ?_; refine ct ?_; refine sq fun K11 hK11 => ?_; refine rg' (h := fun J12 hJ12 => ?_); refine hJ12 _ _ ?_; refine hK11 _ _ ?_; refine run_ret ?_; (try simp only [Then, InBlock, NoGoto]); refine answer_tmp2 rfl (.inr rfl) ?_; exact gcr (hA := WkL.tup (.cons (Wk.nil _ _ _) (.cons (Wk.refl _) .nil)))
  | some v =>
    obtain ⟨hil, hik, hiv⟩ := hgat v rfl
    have hat := (prsC_at hil).2
    have hvl := (hkv _ (List.getElem_mem hil)).2
    rw [hiv] at hat hvl
    simp only [byC] at hat
    have F := And.intro ho (And.intro hr1 (And.intro hil (And.intro hat (True.intro))))
    refine callsA_body Try.func71 rfl rfl rfl ?_; refine sq fun K1 hK1 => ?_; refine rg' (h := fun J2 hJ2 => ?_); refine hJ2 _ _ ?_; refine hK1 _ _ ?_; refine sq fun K3 hK3 => ?_; refine sq fun K4 hK4 => ?_; refine rg' (h := fun J5 hJ5 => ?_); refine hJ5 _ _ ?_; refine hK4 _ _ ?_; refine cf ?_; refine run_skip ?_; refine hK3 _ _ ?_; refine sq fun K6 hK6 => ?_; refine rg' (h := fun J7 hJ7 => ?_); refine ca (c := hfi) (k := ?_); rintro _ _ ⟨rfl, rfl⟩; (repeat (first | simp [F] | simp (disch := omega) only [wC, if_pos, if_neg])); refine hJ7 _ _ ?_; refine hK6 _ _ ?_; refine sq fun K8 hK8 => ?_; refine sq fun K9 hK9 => ?_; refine rg' (h := fun J10 hJ10 => ?_); refine hJ10 _ _ ?_; refine hK9 _ _ ?_; refine cf ?_; refine run_skip ?_; refine hK8 _ _ ?_; refine sq fun K11 hK11 => ?_; refine rg' (h := fun J12 hJ12 => ?_); refine ca (c := clone_ok hvl) (k := ?_); rintro _ _ ⟨rfl, rfl⟩; (repeat (first | simp [F] | simp (disch := omega) only [wC, if_pos, if_neg])); refine hJ12 _ _ ?_; refine hK11 _ _ ?_; refine run_ret ?_; (try simp only [Then, InBlock, NoGoto]); refine answer_tmp2 rfl (.inr rfl) ?_; exact gcr

set_option maxHeartbeats 1600000 in
attribute [local simp] undefA List.getElem?_cons_zero List.getElem?_cons_succ in
theorem new_st_ok {σ : St} : CallsA Try.prog 16 [] σ (fun av σ' => av = .ptr σ.objs.length 0 ∧ σ' = { σ with objs := σ.objs ++ [stC σ.rows.length newSg], rows := σ.rows ++ [stR1 newSg, stR2 newSg, stR3 newSg] }) := by
  refine callsA_new_st ?_
  have F := True.intro
  refine callsA_body Try.func16 rfl rfl rfl ?_; refine sr fun _ hJ2 => ?_; refine hJ2 _ _ ?_; refine sr fun _ hJ4 => ?_; refine hJ4 _ _ ?_; refine ra ?_; exact rt

structure RbS where
  l : List Pr
  n : Nat
  g : Nat
end Go.Proofs.Ytmponlabfccjaaa

/-
  A store: its keys that begin so; another one; are two alike?
-/
namespace Go.Proofs.Ytmponlabfccjaaa
set_option linter.unnecessarySimpa false
set_option maxRecDepth 100000
open Go Go.Vm
set_option linter.unusedSimpArgs false
set_option linter.unusedVariables false
attribute [local simp] evalL wantedA isCall opA evalA evalAll evalsA evalOpt ofValue ofCell plain binA_eql_pn binA_neq_pn binA_gtr binA_lss binA_geq binA_leq binA_add binA_sub binA_eql binA_neq binA_orI binA_shl binA_shr binA_mul binA_quo binA_rem binA_agg_eql binA_agg_neq convA_int unA_not fieldAddrA loadA partA pickA_true pickA_false pickA_bb lenA builtinA storeA splice AV.cells AV.isCell sliceA boundA intA callOf indexAddrA newObjA buildA fillA zeroA ofCells buildSliceA indexA fieldA set_appN get_appN take_appN List.getElem?_cons_zero List.getElem?_cons_succ get_sa0 get_sa1 get_sa2 get_sa3 set_sa0 set_sa1 set_sa2 set_sa3 sliceRowA binA_eqn binA_neqn drop_mr

def keysL (l : List Pr) (p : List UInt8) : List (List UInt8) := ((l.drop (findL l p)).takeWhile fun x => preB x.k p).map (·.k)

theorem takeWhile_stop {α : Type} {f : α → Bool} : ∀ {l : List α} {j : Nat}, (∀ x ∈ l.take j, f x = true) → (∀ x, l[j]? = some x → f x = false) → l.takeWhile f = l.take j
  | [], _, _, _ => by simp
  | a :: l, 0, _, h => by simp [h a rfl]
  | a :: l, j + 1, h1, h2 => by
    have ha := h1 a (by simp)
    rw [List.takeWhile_cons, if_pos ha, List.take_succ_cons, takeWhile_stop (j := j) (fun x hx => h1 x (by simp [hx])) (fun x hx => h2 x (by simpa using hx))]

set_option maxHeartbeats 1600000 in
attribute [local simp] undefA List.getElem?_cons_zero List.getElem?_cons_succ byC drop_mr prsC_noObj udsC_noObj mkC_noObj kysC_noObj bytes_noObj lsA_nil lsT_nil lsZ_nil lsL_nil gcO_ls noObj_ls in
theorem keys_ok {σ : St} {o k n : Nat} {G : Sg} {p : List UInt8} {t : Tail} (h : HasS σ o k G) (hG : G.s.Ok n) (hn : n ≤ 1000000) :
    CallsA Try.prog 56 [.ptr o 0, .sl 1 (bytesA p) p.length t] σ (fun av σ' => av = .sl 1 (kysC (keysL G.s.l p)) (keysL G.s.l p).length .shut ∧ σ = σ') := by
  refine callsA_gcS ?_ (by simp [AV.under, kysC_under])
  have hfi := find_ok (key := p) (t := t) h hG.srt (by have := hG.l; omega)
  have hkv := hG.kv
  have hll := hG.l
  obtain ⟨ho, hr1, hr2, hr3⟩ := h
  obtain ⟨⟨l, log, marks⟩, g1, g2, g3⟩ := G
  simp only [stC, stR1, stR2, stR3] at ho hr1 hr2 hr3 hfi hkv hll ⊢
  have hle := findL_le l p
  have hkl : keysL l p = ((l.drop (findL l p)).takeWhile fun x => preB x.k p).map (·.k) := rfl
  obtain ⟨i, hi⟩ : ∃ i, i = findL l p := ⟨_, rfl⟩
  simp only [← hi] at hfi hle hkl
  rw [hkl]
  obtain ⟨D, hD⟩ : ∃ D, D = l.drop i := ⟨_, rfl⟩
  have hDl : D.length = l.length - i := by rw [hD]; simp
  rw [← hD]
  have hi2 : i ≤ l.length := hle
  have hlc := prsC_len l
  obtain ⟨K, hK⟩ : ∃ K, K = D.map (·.k) := ⟨_, rfl⟩
  have hKj : ∀ j, (D.take j).map (·.k) = K.take j := fun j => by rw [hK]; simp
  have hKl : K.length = l.length - i := by rw [hK]; simp [hDl]
  have F := And.intro ho (And.intro hr1 (And.intro hi2 (And.intro hlc (True.intro))))
  refine callsA_body Try.func56 rfl rfl rfl ?_; refine sr fun _ hJ2 => ?_; refine hJ2 _ _ ?_; refine sq fun K3 hK3 => ?_; refine sr fun _ hJ5 => ?_; refine hJ5 _ _ ?_; refine cf ?_; refine run_skip ?_; refine hK3 _ _ ?_; refine sr fun _ hJ7 => ?_; refine hJ7 _ _ ?_; refine sr fun _ hJ9 => ?_; refine ca (c := hfi) (k := ?_); rintro _ _ ⟨rfl, rfl⟩; (repeat (first | simp [F] | simp (disch := omega) only [wC, if_pos, if_neg])); refine hJ9 _ _ ?_; refine sq fun K10 hK10 => ?_; refine sr fun _ hJ12 => ?_; refine hJ12 _ _ ?_; refine run_block_k ?_; refine run_loopG (X := Nat) [1, 4, 23, 24] (fun j ρ σ1 => (j ≤ l.length - i) ∧ (∀ x ∈ D.take j, preB x.k p = true) ∧ (ρ 5 = lsA σ.toks.length 1 (kysC (K.take j)) j) ∧ (ρ 25 = .v (.int .i64 j)) ∧ (σ1 = { σ with toks := σ.toks ++ lsT j })) (fun j => l.length - i - j) (0) ?st1 ?rd1
  case st1 =>
   refine ⟨lp, ?_, lp, lp, ?_⟩
   · intro x hx
     simp at hx
   · simp [lsT_nil]
  case rd1 =>
   rintro j ρ1 σ1 hF1 ⟨h1, h2, h5, h25, hσ⟩; obtain rfl := hσ.symm
   have f1 := keepL hF1
   (try simp [KeepL, F] at f1); replace F := aF h5 F; replace F := aF h25 F; (try replace F := aF f1 F); refine sr fun _ hJ14 => ?_; refine hJ14 _ _ ?_; refine sq fun K15 hK15 => ?_; refine cs (fun c26 => ?_) (fun c26 => ?_)
   · (try exact nope c26); all_goals have c26p := c26; try simp [F] at c26p
     all_goals
      replace F := aF c26 F; (try replace F := aF c26p F); refine run_skip ?_; refine hK15 _ _ ?_; refine sq fun K16 hK16 => ?_; refine run_block_k ?_; refine sq fun K17 hK17 => ?_
      have hlt : j < l.length - i := by have h := c26; simp at h; omega
      have hjD : j < D.length := by omega
      obtain ⟨x, hx⟩ : ∃ x, x = D[j] := ⟨_, rfl⟩
      have hxl : x = l[i + j] := by rw [hx]; simp only [hD]; rw [List.getElem_drop]
      have hxm := (hkv x (by rw [hxl]; exact List.getElem_mem _)).1
      have hat : List.take 2 (List.drop (i * 2 + j * 2) (prsC l)) = [byC x.k, byC x.v] := by rw [show i * 2 + j * 2 = (i + j) * 2 by omega, prsC_drop, List.drop_eq_getElem_cons (by omega), ← hxl]; rfl
      simp only [byC] at hat
      have hb2 : i * 2 + j * 2 + 2 ≤ l.length * 2 := by omega
      have htk : D.take (j + 1) = D.take j ++ [x] := by rw [hx]; exact (List.take_append_getElem hjD).symm
      have htkK : K.take (j + 1) = K.take j ++ [x.k] := by rw [← hKj, ← hKj, htk]; simp
      have hap : ∀ objs, appendA Try.prog 107 (lsA σ.toks.length 1 (kysC (K.take j)) j) (.sl 1 [.sl 1 (bytesA x.k) x.k.length .shut] 1 .full) ⟨objs, σ.toks ++ lsT j, σ.gl, σ.rows⟩ = some (lsA σ.toks.length 1 (kysC (K.take (j + 1))) (j + 1), ⟨objs, σ.toks ++ lsT (j + 1), σ.gl, σ.rows⟩) := fun objs => by
        rw [htkK, kysC_app]
        exact append_ls elemT_107 ti_109 (by decide) rfl (fun h => by simp [h, kysC]) rfl (by omega) (by simp only [roomA]; omega) (by simp only [maxLen]; omega)
      replace F := aF hlt (And.intro hat (And.intro hb2 (And.intro hap F))); refine rg' (h := fun J18 hJ18 => ?_); refine hJ18 _ _ ?_; refine hK17 _ _ ?_; refine sq fun K19 hK19 => ?_; refine sr fun _ hJ21 => ?_; refine ca (c := prefix_ok) (k := ?_); rintro _ _ ⟨rfl, rfl⟩; (repeat (first | simp [F] | simp (disch := omega) only [wC, if_pos, if_neg])); refine hJ21 _ _ ?_; refine cs (fun c33 => ?_) (fun c33 => ?_)
      · (try exact nope c33); all_goals have c33p := c33; try simp [F] at c33p
        all_goals
         replace F := aF c33 F; try replace F := aF c33p F
         have hpx : preB x.k p = false := by have h := c33; simpa using h
         have hstop := takeWhile_stop (l := D) (j := j) h2 (fun y hy => by rw [List.getElem?_eq_getElem hjD, ← hx] at hy; cases hy; exact hpx)
         have hlen : (K.take j).length = j := by rw [List.length_take]; omega
         have hwk := lsA_wk (k := σ.toks.length) (sz := 1) (n := j) (cs := kysC (K.take j)) (fun h => by simp [h, kysC])
         refine run_exit ?_; refine hK10 _ _ ?_; refine sr fun _ hJ23 => ?_; refine hJ23 _ _ ?_; refine ra ?_
         rw [hstop, hKj, hlen]
         exact gcr (hA := by simp only [putA_get]; simp [F]; exact hwk)
      (try exact nope c33); all_goals have c33p := c33; try simp [F] at c33p
      all_goals
       replace F := aF c33 F; (try replace F := aF c33p F); refine run_skip ?_; refine hK19 _ _ ?_; refine rg' (h := fun J24 hJ24 => ?_); refine ca (c := clone_ok hxm) (k := ?_); rintro _ _ ⟨rfl, rfl⟩; (repeat (first | simp [F] | simp (disch := omega) only [wC, if_pos, if_neg])); refine hJ24 _ _ ?_; refine hK16 _ _ ?_; refine rg' (h := fun J25 hJ25 => ?_); refine hJ25 _ _ ?_; refine ⟨gk, (j + 1), ⟨kpG, lpG, ?_, lpG, lpG, lpG⟩, lpG⟩
       · rw [htk]
         intro y hy
         rcases List.mem_append.1 hy with h | h
         · exact h2 y h
         · simp at h; rw [h]; have h := c33; simpa using h
   (try exact nope c26); all_goals have c26p := c26; try simp [F] at c26p
   all_goals
    replace F := aF c26 F; try replace F := aF c26p F
    have hjl : D.take j = D := List.take_of_length_le (by have h := c26; simp at h; omega)
    have hstop := takeWhile_stop (l := D) (j := j) h2 (fun y hy => by rw [List.getElem?_eq_none (by have h := c26; simp at h; omega)] at hy; cases hy)
    have hlen : (K.take j).length = j := by rw [List.length_take]; omega
    have hwk := lsA_wk (k := σ.toks.length) (sz := 1) (n := j) (cs := kysC (K.take j)) (fun h => by simp [h, kysC])
    refine run_exit ?_; refine hK10 _ _ ?_; refine sr fun _ hJ27 => ?_; refine hJ27 _ _ ?_; refine ra ?_
    rw [hstop, hKj, hlen]
    exact gcr (hA := by simp only [putA_get]; simp [F]; exact hwk)

theorem srt_sub : ∀ {m l : List Pr}, Srt l → Srt m → (∀ p ∈ l, p ∈ m) → l.Sublist m
  | m, [], _, _, _ => List.nil_sublist m
  | [], p :: l, _, _, h => by have := h p (by simp); cases this
  | q :: m, p :: l, hl, hm, h => by
    have l1 := List.pairwise_cons.1 hl
    have m1 := List.pairwise_cons.1 hm
    by_cases hpq : p = q
    · subst hpq
      refine List.Sublist.cons_cons _ (srt_sub l1.2 m1.2 (fun x hx => ?_))
      rcases List.mem_cons.1 (h x (List.mem_cons_of_mem _ hx)) with e | e
      · have := l1.1 x hx; rw [e, ltB_irr] at this; cases this
      · exact e
    · have hpm : p ∈ m := by
        rcases List.mem_cons.1 (h p (List.mem_cons_self ..)) with e | e
        · exact (hpq e).elim
        · exact e
      refine List.Sublist.cons _ (srt_sub hl m1.2 (fun x hx => ?_))
      rcases List.mem_cons.1 (h x hx) with e | e
      · rcases List.mem_cons.1 hx with e2 | e2
        · rw [e2]; exact hpm
        · have h1 := l1.1 x e2
          have h2 := m1.1 p hpm
          rw [e] at h1
          have := ltB_trans h1 h2
          rw [ltB_irr] at this; cases this
      · exact e
theorem getL_of_mem : ∀ {l : List Pr} {p : Pr}, Srt l → p ∈ l → getL l p.k = some p.v
  | q :: l, p, hs, h => by
    have l1 := List.pairwise_cons.1 hs
    rcases List.mem_cons.1 h with e | e
    · subst e; simp [getL]
    · have := l1.1 p e
      rw [getL, if_neg (ltB_ne this)]
      exact getL_of_mem l1.2 e
theorem preB_nil (p : List UInt8) : preB p [] = true := by simp [preB]
theorem kysC_at {l : List (List UInt8)} {i : Nat} (h : i < l.length) : (kysC l)[i]? = some (byC l[i]) := by simp [kysC, h]
end Go.Proofs.Ytmponlabfccjaaa

/-
  Behind a fault: nothing is read any more.
-/
namespace Go.Proofs.Ytmponlabfccjaaa
set_option linter.unnecessarySimpa false
set_option maxRecDepth 100000
open Go Go.Vm
set_option linter.unusedSimpArgs false
set_option linter.unusedVariables false
attribute [local simp] evalL wantedA isCall opA evalA evalAll evalsA evalOpt ofValue ofCell plain binA_eql_pn binA_neq_pn binA_gtr binA_lss binA_geq binA_leq binA_add binA_sub binA_eql binA_neq binA_or binA_shl binA_shr binA_mul binA_quo binA_rem convA_int unA_not fieldAddrA loadA partA pickA_true pickA_false pickA_bb lenA builtinA storeA splice AV.cells AV.isCell sliceA boundA intA callOf indexAddrA newObjA buildA fillA zeroA ofCells buildSliceA

theorem right_nil {σ : St} : CallsA Try.prog 65 [.sl 0 [] 0 .full] σ (fun av σ' => av = .v (.bool true) ∧ σ = σ') := by
  refine callsA_body Try.func65 rfl rfl rfl ?_; refine run_seq_k fun K1 hK1 => ?_; refine run_region_k rfl fun J2 hJ2 => ?_; (try simp); refine hJ2 _ _ ?_; refine hK1 _ _ ?_; refine run_seq_k fun K3 hK3 => ?_; refine run_seq_k fun K4 hK4 => ?_; refine run_region_k rfl fun J5 hJ5 => ?_; (try simp); refine hJ5 _ _ ?_; refine hK4 _ _ ?_; refine run_block_k ?_; refine run_loop (X := Unit) (fun _ ρ σ1 => ρ 6 = .v (.int .i64 0) ∧ ρ 7 = .v (.int .i64 0) ∧ σ1 = σ) (fun _ => 0) (()) ?start ?round
  case start =>
    simp
  case round =>
    rintro _ ρ σ1 ⟨h6, h7, rfl⟩; refine run_seq_k fun K6 hK6 => ?_; refine run_region_k rfl fun J7 hJ7 => ?_; (try simp [h6, h7]); refine hJ7 _ _ ?_; refine hK6 _ _ ?_; refine run_seq_k fun K8 hK8 => ?_
    refine run_cond_false (by first | rfl | (simp [h6, h7, evalA]; done)) ?_
    refine run_exit ?_; refine hK3 _ _ ?_; refine run_seq_k fun K9 hK9 => ?_; refine run_region_k rfl fun J10 hJ10 => ?_; (try simp [h6, h7]); refine hJ10 _ _ ?_; refine hK9 _ _ ?_; refine ra ?_; simp [h6, h7]

end Go.Proofs.Ytmponlabfccjaaa

/-
  The codec's writer, whatever it holds.
-/
namespace Go.Proofs.Ytmponlabfccjaaa
set_option linter.unnecessarySimpa false
open Go Go.Vm
set_option linter.unusedSimpArgs false
set_option linter.unusedVariables false
set_option maxRecDepth 100000
attribute [local simp] evalL wantedA isCall opA evalA evalAll evalsA evalOpt ofValue ofCell plain binA_eql_pn binA_neq_pn binA_gtr binA_lss binA_geq binA_leq binA_add binA_sub binA_eql binA_neq binA_or binA_shl binA_shr binA_mul binA_quo binA_rem binA_agg_eql binA_agg_neq convA_int unA_not fieldAddrA loadA partA pickA_true pickA_false pickA_bb lenA builtinA storeA splice AV.cells AV.isCell sliceA boundA intA callOf indexAddrA newObjA buildA fillA zeroA ofCells buildSliceA indexA fieldA coinsC_at
/-! ### What a writer holds -/

def Tk (tk : List Nat) (k : Nat) (l : List UInt8) : Prop := l = [] ∨ tk[k]? = some l.length

structure Wr (tk : List Nat) (k : Nat) (l : List UInt8) (tk' : List Nat) (k' : Nat) (l' : List UInt8) : Prop where
  tok : Tk tk' k' l'
  len : tk.length ≤ tk'.length
  keep : ∀ (j v : Nat), (l = [] ∨ j ≠ k) → tk[j]? = some v → tk'[j]? = some v
  own : l' = [] ∨ (k' = k ∧ l ≠ []) ∨ tk.length ≤ k'

theorem Wr.refl {tk : List Nat} {k : Nat} {l : List UInt8} (h : Tk tk k l) : Wr tk k l tk k l := ⟨h, Nat.le_refl _, fun _ _ _ h => h, by
  by_cases e : l = []
  · exact .inl e
  · exact .inr (.inl ⟨rfl, e⟩)⟩

theorem lt_get {l : List Nat} {i v : Nat} (h : l[i]? = some v) : i < l.length := (List.getElem?_eq_some_iff.1 h).1

theorem Wr.trans {tk tk1 tk2 : List Nat} {k k1 k2 : Nat} {l l1 l2 : List UInt8} (h : Wr tk k l tk1 k1 l1) (g : Wr tk1 k1 l1 tk2 k2 l2) : Wr tk k l tk2 k2 l2 := by
  refine ⟨g.tok, Nat.le_trans h.len g.len, fun j v hj hv => g.keep j v ?_ (h.keep j v hj hv), ?_⟩
  · have hlt := lt_get hv
    rcases h.own with e | ⟨e, e2⟩ | e
    · exact .inl e
    · rcases hj with hj | hj
      · exact absurd hj e2
      · exact .inr (by omega)
    · exact .inr (by omega)
  · rcases g.own with e | ⟨e, e2⟩ | e
    · exact .inl e
    · rcases h.own with e3 | ⟨e3, e4⟩ | e3
      · exact absurd e3 e2
      · exact .inr (.inl ⟨by omega, e4⟩)
      · exact .inr (.inr (by omega))
    · have := h.len
      exact .inr (.inr (by omega))

def encN (x : Nat) : List UInt8 := UInt8.ofNat (natBytes x).length :: natBytes x

def nBytes (size n : Nat) : List UInt8 := (List.range size).map fun j => UInt8.ofNat (n / 2 ^ (8 * (size - 1 - j)) % 256)
structure WSt where
  j : Nat
  k : Nat
  tk : List Nat

def encC (c : Coin) : List UInt8 := c.d :: encN c.n.v
def encCs (l : List Coin) : List UInt8 := l.flatMap encC
def encL (l : List Coin) : List UInt8 := UInt8.ofNat l.length :: encCs l

end Go.Proofs.Ytmponlabfccjaaa

/-
  Lists of coins: may they be? are they alike?
-/
namespace Go.Proofs.Ytmponlabfccjaaa
set_option linter.unnecessarySimpa false
set_option maxRecDepth 100000
open Go Go.Vm
set_option linter.unusedSimpArgs false
set_option linter.unusedVariables false
attribute [local simp] evalL wantedA isCall opA evalA evalAll evalsA evalOpt ofValue ofCell plain binA_eql_pn binA_neq_pn binA_gtr binA_lss binA_geq binA_leq binA_add binA_sub binA_eql binA_neq binA_or binA_shl binA_shr binA_mul binA_quo binA_rem binA_agg_eql binA_agg_neq convA_int unA_not fieldAddrA loadA partA pickA_true pickA_false pickA_bb lenA builtinA storeA splice AV.cells AV.isCell sliceA boundA intA callOf indexAddrA newObjA buildA fillA zeroA ofCells buildSliceA indexA fieldA coinsC_at coinC List.getElem?_cons_zero List.getElem?_cons_succ

set_option maxHeartbeats 1600000 in
attribute [local simp] undefA List.getElem?_cons_zero List.getElem?_cons_succ numA in
theorem zero_ok {σ : St} {x : Num} : CallsA Try.prog 42 [.agg (numA x.v)] σ (fun av σ' => av = .v (.bool (decide (x.v = 0))) ∧ σ = σ') := by
  have hz : decide (x.v = 0) = (((limb x.v 0 : Int) == 0) && ((limb x.v 1 : Int) == 0) && ((limb x.v 2 : Int) == 0) && ((limb x.v 3 : Int) == 0)) := by
    rw [← cellsEq_num0]
    simp [numA, cellsEqA, Bool.and_assoc]
  rw [hz]
  refine callsA_gcS ?_ rfl
  have F := True.intro
  refine callsA_body Try.func42 rfl rfl rfl ?_; refine sr fun _ hJ2 => ?_; refine hJ2 _ _ ?_; refine sr fun _ hJ4 => ?_; refine gs 6 (fun g1_3 => ?_) (fun g1_3 => ?_)
  · (try exact nope g1_3); all_goals have g1_3p := g1_3; try simp [F] at g1_3p
    all_goals
     replace F := aF g1_3 F; (try replace F := aF g1_3p F); (iterate 3 refine go2 (k := ?_)); refine gs 11 (fun g1_8 => ?_) (fun g1_8 => ?_)
     · (try exact nope g1_8); all_goals have g1_8p := g1_8; try simp [F] at g1_8p
       all_goals
        replace F := aF g1_8 F; (try replace F := aF g1_8p F); (iterate 3 refine go2 (k := ?_)); refine gs 16 (fun g1_13 => ?_) (fun g1_13 => ?_)
        · (try exact nope g1_13); all_goals have g1_13p := g1_13; try simp [F] at g1_13p
          all_goals
           replace F := aF g1_13 F; (try replace F := aF g1_13p F); (iterate 3 refine go2 (k := ?_)); refine hJ4 _ _ ?_; refine ra ?_; exact gcr
        (try exact nope g1_13); all_goals have g1_13p := g1_13; try simp [F] at g1_13p
        all_goals
         replace F := aF g1_13 F; (try replace F := aF g1_13p F); (iterate 3 refine no2 (k := ?_)); refine hJ4 _ _ ?_; refine ra ?_; exact gcr
     (try exact nope g1_8); all_goals have g1_8p := g1_8; try simp [F] at g1_8p
     all_goals
      replace F := aF g1_8 F; (try replace F := aF g1_8p F); (iterate 6 refine no2 (k := ?_)); refine hJ4 _ _ ?_; refine ra ?_; exact gcr
  (try exact nope g1_3); all_goals have g1_3p := g1_3; try simp [F] at g1_3p
  all_goals
   replace F := aF g1_3 F; (try replace F := aF g1_3p F); (iterate 9 refine no2 (k := ?_)); refine hJ4 _ _ ?_; refine ra ?_; exact gcr

theorem right_no {l : List Coin} {k : Nat} (h : k < l.length) (hn : 8 ≤ l[k].d.toNat ∨ l[k].n.v = 0 ∨ ∃ j, ∃ e : k = j + 1, l[k].d.toNat ≤ (l[j]'(by omega)).d.toNat) : ¬ Right l := by
  intro hr
  have h1 := hr.1 l[k] (List.getElem_mem h)
  rcases hn with hn | hn | ⟨j, rfl, hn⟩
  · omega
  · exact h1.2 hn
  · have := List.pairwise_iff_getElem.1 hr.2 j (j + 1) (by omega) h (by omega)
    omega
theorem right_next {l : List Coin} {j : Nat} (h : j + 1 < l.length) (h1 : l[j + 1].d.toNat < 8) (h2 : ¬ l[j + 1].n.v = 0) (h3 : (l[j]'(by omega)).d.toNat < l[j + 1].d.toNat) (hR : Right (l.take (j + 1))) : Right (l.take (j + 1 + 1)) := by
  rw [take_snoc h, right_snoc]
  refine ⟨hR, ⟨h1, h2⟩, right_last hR ?_ h3⟩
  rw [take_snoc (by omega : j < l.length), List.getLast?_append]; rfl
theorem right_first {l : List Coin} (h : 0 < l.length) (h1 : l[0].d.toNat < 8) (h2 : ¬ l[0].n.v = 0) : Right (l.take 1) := by
  have := take_snoc h
  rw [Nat.zero_add] at this
  rw [this, right_snoc]
  exact ⟨by simpa using Go.Vm.right_nil, ⟨h1, h2⟩, by simp⟩

set_option maxHeartbeats 1600000 in
attribute [local simp] undefA List.getElem?_cons_zero List.getElem?_cons_succ in
theorem right_ok {σ : St} {l : List Coin} {tl : Tail} (hl : l.length ≤ 9223372036854775807) : CallsA Try.prog 65 [.sl 5 (coinsC l) l.length tl] σ (fun av σ' => av = .v (.bool (decide (Right l))) ∧ σ = σ') := by
  refine callsA_gcS ?_ rfl
  have F := True.intro
  refine callsA_body Try.func65 rfl rfl rfl ?_; refine sr fun _ hJ2 => ?_; refine hJ2 _ _ ?_; refine sq fun K3 hK3 => ?_; refine sr fun _ hJ5 => ?_; refine hJ5 _ _ ?_; refine run_block_k ?_; refine run_loopG (X := Nat) [0, 5, 6] (fun k ρ σ1 => (k ≤ l.length) ∧ (Right (l.take k)) ∧ (ρ 7 = .v (.int .i64 k)) ∧ (σ1 = σ)) (fun k => l.length - k) (0) ?st1 ?rd1
  case st1 =>
   refine ⟨lp, ?_, lp, lp⟩
   · simpa using Go.Vm.right_nil
  case rd1 =>
   rintro k ρ1 σ1 hF1 ⟨hk, hR, h7, hs⟩; obtain rfl := hs.symm
   have f1 := keepL hF1
   (try simp [KeepL, F] at f1); replace F := aF h7 F; (try replace F := aF f1 F); refine sr fun _ hJ7 => ?_; refine hJ7 _ _ ?_; refine sq fun K8 hK8 => ?_; refine cs (fun c8 => ?_) (fun c8 => ?_)
   · (try exact nope c8); all_goals have c8p := c8; try simp [F] at c8p
     all_goals
      replace F := aF c8 F; (try replace F := aF c8p F); refine run_skip ?_; refine hK8 _ _ ?_; refine sq fun K9 hK9 => ?_; refine run_block_k ?_; refine sr fun _ hJ11 => ?_; refine hJ11 _ _ ?_; refine sq fun K12 hK12 => ?_
      refine run_draw (by kernel_rfl) fun J13 hJ13 => ?_
      refine rp2 0 (k := ?_); refine rp2 1 (k := ?_); refine rp2 2 (k := ?_); refine rp2 3 (k := ?_); refine gd 15 (fun g4_3 => ?_) (fun g4_3 => ?_)
      · (try exact nope g4_3); all_goals have g4_3p := g4_3; try simp [F] at g4_3p
        all_goals
         replace F := aF g4_3 F; (try replace F := aF g4_3p F); refine rp2 4 (k := ?_); refine rp2 5 (k := ?_); refine rp2 6 (k := ?_); refine rp2 7 (k := ?_); refine rp2 8 (k := ?_); refine rp2 9 (k := ?_); refine rp2 10 (k := ?_); refine rp2 11 (k := ?_); refine rp2 12 (k := ?_); refine rp2 13 (k := ?_); refine rp2 14 (k := ?_); refine rp2 15 (k := ?_); refine rp2 16 (k := ?_); refine rp2 17 (k := ?_); refine rp2 18 (k := ?_); refine rp2 19 (k := ?_); refine rp2 20 (k := ?_); refine rp2 21 (k := ?_); refine rp2 22 (k := ?_); refine rp2 23 (k := ?_); refine dd ?_; refine hJ13 _ _ ?_; refine hK12 _ _ ?_; refine ct ?_; refine sr fun _ hJ15 => ?_; refine hJ15 _ _ ?_; refine ra ?_
         have hn : ¬ Right l := right_no c8p (.inl (by omega))
         exact gcr
      (try exact nope g4_3); all_goals have g4_3p := g4_3; try simp [F] at g4_3p
      all_goals
       replace F := aF g4_3 F; (try replace F := aF g4_3p F); refine rp2 4 (k := ?_); refine rp2 5 (k := ?_); refine rp2 6 (k := ?_); refine rp2 7 (k := ?_); refine rp2 8 (k := ?_); refine rp2 9 (k := ?_); refine gd 21 (fun g4_9 => ?_) (fun g4_9 => ?_)
       · (try exact nope g4_9); all_goals have g4_9p := g4_9; try simp [F] at g4_9p
         all_goals
          replace F := aF g4_9 F; (try replace F := aF g4_9p F); refine rp2 10 (k := ?_); refine rp2 11 (k := ?_); refine rp2 12 (k := ?_); refine rp2 13 (k := ?_); refine rp2 14 (k := ?_); refine rp2 15 (k := ?_); refine rp2 16 (k := ?_); refine rp2 17 (k := ?_); refine rp2 18 (k := ?_); refine rp2 19 (k := ?_); refine rp2 20 (k := ?_); refine rp2 21 (k := ?_); refine rp2 22 (k := ?_); refine rp2 23 (k := ?_); refine dd ?_; refine hJ13 _ _ ?_; refine hK12 _ _ ?_; refine ct ?_; refine sr fun _ hJ17 => ?_; refine hJ17 _ _ ?_; refine ra ?_
          have hn : ¬ Right l := right_no c8p (.inr (.inl g4_9p))
          exact gcr
       (try exact nope g4_9); all_goals have g4_9p := g4_9; try simp [F] at g4_9p
       all_goals
        replace F := aF g4_9 F; (try replace F := aF g4_9p F); refine rp2 10 (k := ?_); refine rp2 11 (k := ?_); refine rp2 12 (k := ?_); refine gd 24 (fun g4_12 => ?_) (fun g4_12 => ?_)
        · (try exact nope g4_12); all_goals have g4_12p := g4_12; try simp [F] at g4_12p
          all_goals
           replace F := aF g4_12 F; try replace F := aF g4_12p F
           obtain ⟨j, rfl⟩ : ∃ j, k = j + 1 := ⟨k - 1, by omega⟩
           refine rp2 13 (k := ?_); refine rp2 14 (k := ?_); refine rp2 15 (k := ?_); refine rp2 16 (k := ?_); refine rp2 17 (k := ?_); refine rp2 18 (k := ?_); refine rp2 19 (k := ?_); refine rp2 20 (k := ?_); refine rp2 21 (k := ?_); refine rp2 22 (k := ?_); refine rp2 23 (k := ?_); refine dd ?_; refine hJ13 _ _ ?_; refine hK12 _ _ ?_; refine cs (fun c35 => ?_) (fun c35 => ?_)
           · (try exact nope c35); all_goals have c35p := c35; try simp [F] at c35p
             all_goals
              replace F := aF c35 F; (try replace F := aF c35p F); refine sr fun _ hJ19 => ?_; refine hJ19 _ _ ?_; refine ra ?_
              have hn : ¬ Right l := right_no c8p (.inr (.inr ⟨j, rfl, c35p⟩))
              exact gcr
           (try exact nope c35); all_goals have c35p := c35; try simp [F] at c35p
           all_goals
            replace F := aF c35 F; (try replace F := aF c35p F); refine run_skip ?_; refine hK9 _ _ ?_; refine rg' (h := fun J20 hJ20 => ?_); refine hJ20 _ _ ?_; refine ⟨gk, (j + 1 + 1), ⟨kpG, lpG, ?_, lpG, lpG⟩, lpG⟩
            · exact right_next c8p (by omega) g4_9p c35p hR
        (try exact nope g4_12); all_goals have g4_12p := g4_12; try simp [F] at g4_12p
        all_goals
         replace F := aF g4_12 F; try replace F := aF g4_12p F
         obtain rfl : k = 0 := by omega
         refine rp2 13 (k := ?_); refine rp2 14 (k := ?_); refine rp2 15 (k := ?_); refine rp2 16 (k := ?_); refine rp2 17 (k := ?_); refine rp2 18 (k := ?_); refine rp2 19 (k := ?_); refine rp2 20 (k := ?_); refine rp2 21 (k := ?_); refine rp2 22 (k := ?_); refine rp2 23 (k := ?_); refine dd ?_; refine hJ13 _ _ ?_; refine hK12 _ _ ?_; refine cf ?_; refine run_skip ?_; refine hK9 _ _ ?_; refine rg' (h := fun J21 hJ21 => ?_); refine hJ21 _ _ ?_; refine ⟨gk, (1), ⟨kpG, lpG, ?_, lpG, lpG⟩, lpG⟩
         · exact right_first c8p (by omega) g4_9p
   (try exact nope c8); all_goals have c8p := c8; try simp [F] at c8p
   all_goals
    replace F := aF c8 F; (try replace F := aF c8p F); refine run_exit ?_; refine hK3 _ _ ?_; refine sr fun _ hJ23 => ?_; refine hJ23 _ _ ?_; refine ra ?_
    have hn : Right l := by rw [List.take_of_length_le c8p] at hR; exact hR
    exact gcr

set_option maxHeartbeats 1600000 in
attribute [local simp] undefA List.getElem?_cons_zero List.getElem?_cons_succ in
theorem rright_ok {σ : St} {l : List Coin} {tl : Tail} (hl : l.length ≤ 9223372036854775807) : CallsA Try.prog 109 [.sl 5 (coinsC l) l.length tl] σ (fun av σ' => av = .v (.bool (decide (Right l))) ∧ σ = σ') := by
  have F := True.intro
  refine callsA_body Try.func109 rfl rfl rfl ?_; refine sr fun _ hJ2 => ?_; refine hJ2 _ _ ?_; refine sq fun K3 hK3 => ?_; refine sr fun _ hJ5 => ?_; refine hJ5 _ _ ?_; refine run_block_k ?_; refine run_loopF (X := Nat) [0] (fun i ρ σ1 => (i ≤ l.length) ∧ (Right (l.take i)) ∧ (ρ 3 = .v (.int .i64 i)) ∧ (σ1 = σ)) (fun i => l.length - i) (0) ?st1 ?rd1
  case st1 =>
   refine ⟨lp, ?_, lp, lp⟩
   · simpa using Go.Vm.right_nil
  case rd1 =>
   rintro i ρ1 σ1 hF1 ⟨hi, hR, h3, hs⟩; obtain rfl := hs.symm
   have f1 := keepL hF1
   (try simp [KeepL, F] at f1); replace F := aF h3 F; (try replace F := aF f1 F); refine sq fun K6 hK6 => ?_; refine sr fun _ hJ8 => ?_; refine hJ8 _ _ ?_; refine cs (fun c8 => ?_) (fun c8 => ?_)
   · (try exact nope c8); all_goals have c8p := c8; try simp [F] at c8p
     all_goals
      replace F := aF c8 F; (try replace F := aF c8p F); refine run_skip ?_; refine hK6 _ _ ?_; refine sq fun K9 hK9 => ?_; refine run_block_k ?_; refine sq fun K10 hK10 => ?_; refine sr fun _ hJ12 => ?_; refine gs 17 (fun g4_6 => ?_) (fun g4_6 => ?_)
      · (try exact nope g4_6); all_goals have g4_6p := g4_6; try simp [F] at g4_6p
        all_goals
         replace F := aF g4_6 F; (try replace F := aF g4_6p F); (iterate 6 refine no2 (k := ?_)); refine hJ12 _ _ ?_; refine ct ?_; refine sr fun _ hJ14 => ?_; refine hJ14 _ _ ?_; refine ra ?_
         have hn : ¬ Right l := right_no c8p (.inl (by omega))
         exact rt
      (try exact nope g4_6); all_goals have g4_6p := g4_6; try simp [F] at g4_6p
      all_goals
       replace F := aF g4_6 F; (try replace F := aF g4_6p F); (iterate 5 refine go2 (k := ?_)); refine ca (c := zero_ok) (k := ?_); rintro _ _ ⟨rfl, rfl⟩; (repeat (first | simp [F] | simp (disch := omega) only [wC, if_pos, if_neg])); refine hJ12 _ _ ?_; refine cs (fun c24 => ?_) (fun c24 => ?_)
       · (try exact nope c24); all_goals have c24p := c24; try simp [F] at c24p
         all_goals
          replace F := aF c24 F; (try replace F := aF c24p F); refine sr fun _ hJ16 => ?_; refine hJ16 _ _ ?_; refine ra ?_
          have hn : ¬ Right l := right_no c8p (.inr (.inl c24p))
          exact rt
       (try exact nope c24); all_goals have c24p := c24; try simp [F] at c24p
       all_goals
        replace F := aF c24 F; (try replace F := aF c24p F); refine run_skip ?_; refine hK10 _ _ ?_; refine sr fun _ hJ18 => ?_; refine hJ18 _ _ ?_; refine run_block_k ?_; refine run_loopF (X := Nat) [0, 3, 5, 6, 7, 8, 11, 12, 13, 14, 15, 16, 17, 18, 19, 20, 21, 22, 23, 24] (fun k ρ σ1 => (k ≤ i) ∧ (∀ b ∈ l.take k, b.d.toNat < l[i].d.toNat) ∧ (ρ 4 = .v (.int .i64 k)) ∧ (σ1 = σ)) (fun k => i - k) (0) ?st2 ?rd2
        case st2 =>
         refine ⟨lp, lp, lp, lp⟩
        case rd2 =>
         rintro k ρ2 σ1 hF2 ⟨hk, hB, h4, hs⟩; obtain rfl := hs.symm
         have f2 := keepL hF2
         (try simp [KeepL, F] at f2); replace F := aF h4 F; (try replace F := aF f2 F); refine sq fun K19 hK19 => ?_; refine sr fun _ hJ21 => ?_; refine hJ21 _ _ ?_; refine cs (fun c27 => ?_) (fun c27 => ?_)
         · (try exact nope c27); all_goals have c27p := c27; try simp [F] at c27p
           all_goals
            replace F := aF c27 F; (try replace F := aF c27p F); refine run_skip ?_; refine hK19 _ _ ?_; refine sq fun K22 hK22 => ?_; refine run_block_k ?_; refine sq fun K23 hK23 => ?_
            refine run_draw (by kernel_rfl) fun J24 hJ24 => ?_
            refine rp2 0 (k := ?_); refine rp2 1 (k := ?_); refine rp2 2 (k := ?_); refine rp2 3 (k := ?_); refine rp2 4 (k := ?_); refine rp2 5 (k := ?_); refine rp2 6 (k := ?_); refine rp2 7 (k := ?_); refine rp2 8 (k := ?_); refine rp2 9 (k := ?_); refine rp2 10 (k := ?_); refine dd ?_; refine hJ24 _ _ ?_; refine hK23 _ _ ?_; refine cs (fun c40 => ?_) (fun c40 => ?_)
            · (try exact nope c40); all_goals have c40p := c40; try simp [F] at c40p
              all_goals
               replace F := aF c40 F; (try replace F := aF c40p F); refine sr fun _ hJ26 => ?_; refine hJ26 _ _ ?_; refine ra ?_
               have hn : ¬ Right l := fun hr => by have := List.pairwise_iff_getElem.1 hr.2 k i (by omega) c8p c27p; omega
               exact rt
            (try exact nope c40); all_goals have c40p := c40; try simp [F] at c40p
            all_goals
             replace F := aF c40 F; (try replace F := aF c40p F); refine run_skip ?_; refine hK22 _ _ ?_; refine rg' (h := fun J27 hJ27 => ?_); refine hJ27 _ _ ?_; refine ⟨(k + 1), ⟨kp, lp, ?_, lp, lp⟩, lp⟩
             · rw [take_snoc (by omega : k < l.length)]
               intro b hb
               rcases List.mem_append.1 hb with h | h
               · exact hB b h
               · simp at h; subst h; exact c40p
         (try exact nope c27); all_goals have c27p := c27; try simp [F] at c27p
         all_goals
          replace F := aF c27 F; (try replace F := aF c27p F); refine run_exit ?_; refine hK9 _ _ ?_; refine rg' (h := fun J28 hJ28 => ?_); refine hJ28 _ _ ?_; refine ⟨(i + 1), ⟨kp, lp, ?_, lp, lp⟩, lp⟩
          · rw [take_snoc c8p, right_snoc]
            exact ⟨hR, ⟨by omega, c24p⟩, by rwa [show k = i by omega] at hB⟩
   (try exact nope c8); all_goals have c8p := c8; try simp [F] at c8p
   all_goals
    replace F := aF c8 F; (try replace F := aF c8p F); refine run_exit ?_; refine hK3 _ _ ?_; refine sr fun _ hJ30 => ?_; refine hJ30 _ _ ?_; refine ra ?_
    have hn : Right l := by rw [List.take_of_length_le c8p] at hR; exact hR
    exact rt

set_option maxHeartbeats 1600000 in
attribute [local simp] undefA List.getElem?_cons_zero List.getElem?_cons_succ in
theorem rsame_ok {σ : St} {l m : List Coin} {t1 t2 : Tail} (hl : l.length ≤ 9223372036854775807) (hm : m.length ≤ 9223372036854775807) : CallsA Try.prog 21 [.sl 5 (coinsC l) l.length t1, .sl 5 (coinsC m) m.length t2] σ (fun av σ' => av = .v (.bool (decide (l = m))) ∧ σ = σ') := by
  have F := True.intro
  refine callsA_body Try.func21 rfl rfl rfl ?_; refine sr fun _ hJ2 => ?_; refine hJ2 _ _ ?_; refine sq fun K3 hK3 => ?_; refine sr fun _ hJ5 => ?_; refine hJ5 _ _ ?_; refine cs (fun c10 => ?_) (fun c10 => ?_)
  · (try exact nope c10); all_goals have c10p := c10; try simp [F] at c10p
    all_goals
     replace F := aF c10 F; (try replace F := aF c10p F); refine sr fun _ hJ7 => ?_; refine hJ7 _ _ ?_; refine ra ?_
     have hn : ¬ l = m := by rintro rfl; omega
     exact rt
  (try exact nope c10); all_goals have c10p := c10; try simp [F] at c10p
  all_goals
   replace F := aF c10 F; (try replace F := aF c10p F); refine run_skip ?_; refine hK3 _ _ ?_; refine sq fun K8 hK8 => ?_; refine sr fun _ hJ10 => ?_; refine hJ10 _ _ ?_; refine run_block_k ?_; refine run_loopF (X := Nat) [0, 1] (fun i ρ σ1 => (i ≤ l.length) ∧ (l.take i = m.take i) ∧ (ρ 5 = .v (.int .i64 i)) ∧ (σ1 = σ)) (fun i => l.length - i) (0) ?st1 ?rd1
   case st1 =>
    refine ⟨lp, lp, lp, lp⟩
   case rd1 =>
    rintro i ρ1 σ1 hF1 ⟨hi, hE, h5, hs⟩; obtain rfl := hs.symm
    have f1 := keepL hF1
    (try simp [KeepL, F] at f1); replace F := aF h5 F; (try replace F := aF f1 F); refine sq fun K11 hK11 => ?_; refine sr fun _ hJ13 => ?_; refine hJ13 _ _ ?_; refine cs (fun c14 => ?_) (fun c14 => ?_)
    · (try exact nope c14); all_goals have c14p := c14; try simp [F] at c14p
      all_goals
       replace F := aF c14 F; (try replace F := aF c14p F); refine run_skip ?_; refine hK11 _ _ ?_; refine sq fun K14 hK14 => ?_; refine run_block_k ?_; refine sq fun K15 hK15 => ?_
       refine run_draw (by kernel_rfl) fun J16 hJ16 => ?_
       refine rp2 0 (k := ?_); refine rp2 1 (k := ?_); refine rp2 2 (k := ?_); refine rp2 3 (k := ?_); refine rp2 4 (k := ?_); refine rp2 5 (k := ?_); refine rp2 6 (k := ?_); refine rp2 7 (k := ?_); refine rp2 8 (k := ?_); refine dd ?_; refine hJ16 _ _ ?_; refine hK15 _ _ ?_; refine cs (fun c25 => ?_) (fun c25 => ?_)
       · (try exact nope c25); all_goals have c25p := c25; try simp [F] at c25p
         all_goals
          replace F := aF c25 F; (try replace F := aF c25p F); refine sr fun _ hJ18 => ?_; refine hJ18 _ _ ?_; refine ra ?_
          have hn : ¬ l = m := by rintro rfl; simp at c25p
          exact rt
       (try exact nope c25); all_goals have c25p := c25; try simp [F] at c25p
       all_goals
        replace F := aF c25 F; (try replace F := aF c25p F); refine run_skip ?_; refine hK14 _ _ ?_; refine rg' (h := fun J19 hJ19 => ?_); refine hJ19 _ _ ?_; refine ⟨(i + 1), ⟨kp, lp, ?_, lp, lp⟩, lp⟩
        · rw [take_snoc (by omega : i < l.length), take_snoc (by omega : i < m.length), hE, c25p]
    (try exact nope c14); all_goals have c14p := c14; try simp [F] at c14p
    all_goals
     replace F := aF c14 F; (try replace F := aF c14p F); refine run_exit ?_; refine hK8 _ _ ?_; refine sr fun _ hJ21 => ?_; refine hJ21 _ _ ?_; refine ra ?_
     have hn : l = m := by rw [← List.take_of_length_le (l := l) (i := i) (by omega), ← List.take_of_length_le (l := m) (i := i) (by omega), hE]
     exact rt

end Go.Proofs.Ytmponlabfccjaaa

/-
  Lists of coins: what both readers make of a list's bytes.
-/
namespace Go.Proofs.Ytmponlabfccjaaa
set_option linter.unnecessarySimpa false
open Go Go.Vm
set_option linter.unusedSimpArgs false
set_option linter.unusedVariables false
set_option maxRecDepth 100000
attribute [local simp] evalL wantedA isCall opA evalA evalAll evalsA evalOpt ofValue ofCell plain binA_eql_pn binA_neq_pn binA_gtr binA_lss binA_geq binA_leq binA_add binA_sub binA_eql binA_neq binA_or binA_shl binA_shr binA_mul binA_quo binA_rem binA_agg_eql binA_agg_neq convA_int unA_not fieldAddrA loadA partA pickA_true pickA_false pickA_bb lenA builtinA storeA splice AV.cells AV.isCell sliceA boundA intA callOf indexAddrA newObjA buildA fillA zeroA ofCells indexA fieldA coinsC_at

def slA (k : Nat) (l : List Coin) : AV := if l = [] then .sl 0 [] 0 .full else .sl 5 (coinsC l) l.length (.own k)
def tkA (l : List Coin) : List Nat := if l = [] then [] else [l.length]

@[simp] theorem slA_nil (k : Nat) : slA k [] = .sl 0 [] 0 .full := rfl
@[simp] theorem tkA_nil : tkA [] = [] := rfl

theorem build_coin (c : Coin) : buildSliceA Try.prog 29 1 [(0, .agg (coinC c))] = some (.sl 5 (coinC c) 1 .full) := by kernel_rfl
class Small (l : List Coin) : Prop where
  h : l.length ≤ 1000

structure CSt where
  m : Nat
  s : Option (List UInt8)
  l : List Coin

end Go.Proofs.Ytmponlabfccjaaa

/-
  The plain law of what lies behind a beginning, in a store; what is written is read.
-/
namespace Go.Proofs.Ytmponlabfccjaaa
set_option linter.unnecessarySimpa false
set_option maxRecDepth 100000
open Go Go.Vm
set_option linter.unusedSimpArgs false
set_option linter.unusedVariables false

theorem preB_nil2 (b : UInt8) (p : List UInt8) : preB [] (b :: p) = false := by simp [preB]
theorem preB_cons (a b : UInt8) (l m : List UInt8) : preB (a :: l) (b :: m) = (decide (a = b) && preB l m) := by
  rw [Bool.eq_iff_iff]
  simp only [preB, List.length_cons, List.take_succ_cons, List.cons.injEq, Bool.and_eq_true, decide_eq_true_eq]
  constructor
  · rintro ⟨h1, h2, h3⟩; exact ⟨h2, by omega, h3⟩
  · rintro ⟨h1, h2, h3⟩; exact ⟨by omega, h1, h3⟩

theorem preB_lt : ∀ {a p : List UInt8}, ltB a p = true → preB a p = false
  | a, [], h => by rw [ltB_nil] at h; cases h
  | [], b :: p, _ => preB_nil2 b p
  | x :: a, y :: p, h => by
    rw [preB_cons]
    by_cases e : x = y
    · rw [ltB, if_pos e] at h; simp [preB_lt h]
    · simp [e]

theorem preB_up : ∀ {p a b : List UInt8}, ltB a p = false → preB a p = false → ltB a b = true → preB b p = false
  | [], a, b, _, h, _ => by rw [preB_nil] at h; cases h
  | y :: p, a, [], _, _, h => by rw [ltB_nil] at h; cases h
  | y :: p, [], z :: b, h, _, _ => by cases h
  | y :: p, x :: a, z :: b, h1, h2, h3 => by
    rw [preB_cons] at h2 ⊢
    rw [ltB] at h1 h3
    by_cases e : z = y
    · subst e
      by_cases e2 : x = z
      · rw [if_pos e2] at h1 h3; simp [e2] at h2; simp [preB_up h1 h2 h3]
      · rw [if_neg e2] at h1 h3; simp at h1 h3; omega
    · simp [e]

theorem tw_filter {p : List UInt8} : ∀ {l : List Pr}, Srt l → (∀ x ∈ l, ltB x.k p = false) → (l.takeWhile fun x => preB x.k p) = l.filter fun x => preB x.k p
  | [], _, _ => rfl
  | a :: l, h, hg => by
    have l1 := List.pairwise_cons.1 h
    have ih := tw_filter l1.2 (fun x hx => hg x (by simp [hx]))
    rw [List.takeWhile_cons, List.filter_cons]
    cases hp : preB a.k p with
    | true => simp [ih]
    | false =>
      simp only [Bool.false_eq_true, if_false]
      symm
      rw [List.filter_eq_nil_iff]
      intro x hx
      rw [preB_up (hg a (by simp)) hp (l1.1 x hx)]
      simp

theorem keysL_filter {p : List UInt8} : ∀ {l : List Pr}, Srt l → keysL l p = (l.filter fun x => preB x.k p).map (·.k)
  | [], _ => rfl
  | a :: l, h => by
    have l1 := List.pairwise_cons.1 h
    cases ha : ltB a.k p with
    | true =>
      have ih := keysL_filter (p := p) l1.2
      have hf : findL (a :: l) p = findL l p + 1 := by simp [findL, ha]
      unfold keysL at ih ⊢
      rw [hf, List.drop_succ_cons, ih, List.filter_cons, preB_lt ha]
      simp
    | false =>
      have hf : findL (a :: l) p = 0 := by simp [findL, ha]
      unfold keysL
      rw [hf, List.drop_zero, tw_filter h ?_]
      intro x hx
      rcases List.mem_cons.1 hx with rfl | hx
      · exact ha
      · cases hx2 : ltB x.k p with
        | false => rfl
        | true => have := ltB_trans (l1.1 x hx) hx2; rw [ha] at this; cases this

theorem kysC_ix {K : List (List UInt8)} {i : Nat} (h : i < K.length) (h2 : i < (kysC K).length) : (kysC K)[i]'h2 = .sl 1 (bytesA K[i]) K[i].length .shut := (List.getElem?_eq_some_iff.1 (kysC_at h)).2

def pl (L : List Pr) (p : List UInt8) : List Pr := L.filter fun x => preB x.k p
theorem pl_srt {L : List Pr} {p : List UInt8} (h : Srt L) : Srt (pl L p) := List.Pairwise.filter _ h
theorem setL_c (a : Pr) (l : List Pr) (k : List UInt8) (o : Option (List UInt8)) : setL (a :: l) k o = if a.k = k then (match o with | some v => ⟨k, v⟩ :: l | none => l) else if ltB k a.k then (match o with | some v => ⟨k, v⟩ :: a :: l | none => a :: l) else a :: setL l k o := by cases o <;> rfl
theorem pl_out {p k : List UInt8} {o : Option (List UInt8)} (hk : preB k p = false) : ∀ {L : List Pr}, pl (setL L k o) p = pl L p
  | [] => by cases o <;> simp [pl, setL, hk]
  | a :: L => by
    have ih := pl_out (o := o) hk (L := L)
    by_cases e : a.k = k
    · have ha : preB a.k p = false := by rw [e]; exact hk
      rw [setL_c, if_pos e]
      cases o with
      | none => simp [pl, ha]
      | some v => simp [pl, ha, hk]
    · by_cases e2 : ltB k a.k = true
      · rw [setL_c, if_neg e, if_pos e2]
        cases o with
        | none => rfl
        | some v => simp [pl, hk]
      · rw [setL_c, if_neg e, if_neg e2]
        simp only [pl, List.filter_cons] at ih ⊢
        rw [ih]
theorem getL_pl {p k : List UInt8} (hk : preB k p = true) : ∀ {L : List Pr}, getL (pl L p) k = getL L k
  | [] => rfl
  | a :: L => by
    have ih := getL_pl hk (L := L)
    simp only [pl, List.filter_cons] at ih ⊢
    by_cases e : a.k = k
    · rw [if_pos (by rw [e]; exact hk), getL, getL, if_pos e, if_pos e]
    · split
      · rw [getL, getL, if_neg e, if_neg e, ih]
      · rw [getL, if_neg e, ih]

theorem be_natBytes (x : Nat) : be (natBytes x) = x := by
  induction x using Nat.strongRecOn with
  | _ x ih =>
    by_cases h : x = 0
    · subst h; simp [natBytes_zero, be]
    · rw [natBytes_pos (by omega), be_snoc, ih (x / 256) (by omega), toNat_ofNat (by omega)]
      omega
theorem natBytes_head (x : Nat) : (natBytes x).headD 1 ≠ 0 := by
  induction x using Nat.strongRecOn with
  | _ x ih =>
    by_cases h : x = 0
    · subst h; simp [natBytes_zero]
    · rw [natBytes_pos (by omega)]
      by_cases h2 : x / 256 = 0
      · rw [h2, natBytes_zero]
        simp only [List.nil_append, List.headD_cons]
        intro e
        have := congrArg UInt8.toNat e
        rw [toNat_ofNat (by omega)] at this
        simp at this; omega
      · have h3 := ih (x / 256) (by omega)
        cases h4 : natBytes (x / 256) with
        | nil => exact absurd (natBytes_nil.1 h4) h2
        | cons b l => rw [h4] at h3; simpa using h3
theorem natBytes_le {x : Nat} (hx : x < 2 ^ 256) : (natBytes x).length ≤ 32 := natBytes_len x 32 (by simpa using hx)
theorem natBytes_ok {x : Nat} (hx : x < 2 ^ 256) : numOk (natBytes x) = true := by
  have h1 := natBytes_le hx
  have h2 := natBytes_head x
  simp only [numOk, Bool.and_eq_true, decide_eq_true_eq, bne_iff_ne]
  exact ⟨h1, h2⟩
end Go.Proofs.Ytmponlabfccjaaa

/-
  Validators and delegations: their records, and back.
-/
namespace Go.Proofs.Ytmponlabfccjaaa
set_option linter.unnecessarySimpa false
set_option maxRecDepth 100000
open Go Go.Vm
set_option linter.unusedSimpArgs false
set_option linter.unusedVariables false
attribute [local simp] evalL wantedA isCall opA evalA evalAll evalsA evalOpt ofValue ofCell plain binA_eql_pn binA_neq_pn binA_gtr binA_lss binA_geq binA_leq binA_add binA_sub binA_eql binA_neq binA_orI binA_shl binA_shr binA_mul binA_quo binA_rem binA_agg_eql binA_agg_neq convA_int unA_not fieldAddrA loadA partA pickA_true pickA_false pickA_bb lenA builtinA storeA splice AV.cells AV.isCell sliceA boundA intA callOf indexAddrA newObjA buildA fillA zeroA ofCells buildSliceA indexA fieldA set_appN get_appN take_appN List.getElem?_cons_zero List.getElem?_cons_succ get_sa0 get_sa1 get_sa2 get_sa3 set_sa0 set_sa1 set_sa2 set_sa3 sliceRowA binA_eqn binA_neqn drop_mr

def cos (L : List Coin) : AV := .sl 5 (coinsC L) L.length .shut
structure Vl where
  i : UInt8
  o : UInt8
  r : Nat
  j : Bool
  t : Num
  s : Num
  x : List Coin
  e : List Coin
def Vl.Ok (v : Vl) : Prop := v.r < 65536 ∧ v.x.length ≤ 9223372036854775807 ∧ v.e.length ≤ 9223372036854775807
structure Dl where
  o : UInt8
  v : UInt8
  s : Num
  x : List Coin
def Dl.Ok (d : Dl) : Prop := d.x.length ≤ 9223372036854775807
def flB (b : Bool) : UInt8 := if b then 1 else 0
def encV (v : Vl) : List UInt8 := v.o :: (nBytes 2 v.r ++ (flB v.j :: (encN v.t.v ++ (encN v.s.v ++ (encL v.x ++ encL v.e)))))
def encD (d : Dl) : List UInt8 := encN d.s.v ++ encL d.x
def keyV (i : UInt8) : List UInt8 := [118, i]
def keyD (o v : UInt8) : List UInt8 := [100, o, v]
def prV (v : Vl) : Pr := ⟨keyV v.i, encV v⟩
def prD (d : Dl) : Pr := ⟨keyD d.o d.v, encD d⟩
def RightV (v : Vl) : Prop := v.o.toNat < 200 ∧ v.r ≤ 10000 ∧ Right v.x ∧ Right v.e
theorem HasS.at {σ τ : St} {o k : Nat} {G : Sg} (h : HasS σ o k G) (l : List (List AV)) (m : List Nat) (hτ : τ = { σ with objs := σ.objs ++ l, toks := m }) : HasS τ o k G := by subst hτ; exact h.app l m

theorem putS_at {σ : St} {o k : Nat} {G : Sg} (h : HasS σ o k G) (l : List (List AV)) (tk : List Nat) (G' : Sg) : putS { σ with objs := σ.objs ++ l, toks := tk } o k G' = { putS σ o k G' with objs := (putS σ o k G').objs ++ l, toks := tk } := by simp only [putS]; rw [List.set_append_left _ _ (lt_of_get h.o)]
theorem keyD_p1 (o v : UInt8) : preB (keyD o v) [100] = true := by simp [preB, keyD]
structure Pw where
  V : List Vl
  D : List Dl
structure PoolS (s : Sto) (W : Pw) (n : Nat) : Prop where
  ok : s.Ok n
  pv : pl s.l [118] = W.V.map prV
  pd : pl s.l [100] = W.D.map prD
  ids : ∀ (i : Nat) (h : i < W.V.length), W.V[i].i.toNat = i
  lv : W.V.length ≤ 16
  rv : ∀ v ∈ W.V, RightV v
  rd : ∀ d ∈ W.D, Right d.x
  nd : W.D.length ≤ n
def pw0 : Pw := ⟨[], []⟩
theorem PoolS.nil : PoolS newSg.s pw0 0 := ⟨newSg_ok, rfl, rfl, fun i h => absurd h (by simp [pw0]), by simp [pw0], fun v h => absurd h (by simp [pw0]), fun v h => absurd h (by simp [pw0]), Nat.le_refl _⟩
theorem PoolS.mono {s : Sto} {W : Pw} {n m : Nat} (h : PoolS s W n) (hm : n ≤ m) : PoolS s W m := ⟨h.ok.mono hm, h.pv, h.pd, h.ids, h.lv, h.rv, h.rd, Nat.le_trans h.nd hm⟩
theorem PoolS.getD {s : Sto} {W : Pw} {n : Nat} {d : Dl} (h : PoolS s W n) (hd : d ∈ W.D) : getL s.l (keyD d.o d.v) = some (encD d) := by
  have hs := pl_srt (p := [100]) h.ok.srt
  rw [← getL_pl (keyD_p1 _ _), h.pd]
  rw [h.pd] at hs
  exact getL_of_mem hs (p := prD d) (List.mem_map_of_mem hd)
structure Pr3 where
  W : Pw
  i : Nat
  e : Nat
theorem putS_app {σ : St} {o k : Nat} {G : Sg} (h : HasS σ o k G) (G' : Sg) (l : List (List AV)) : putS { σ with objs := σ.objs ++ l } o k G' = { putS σ o k G' with objs := (putS σ o k G').objs ++ l } := by
  simp only [putS]; rw [List.set_append_left _ _ (lt_of_get h.o)]
end Go.Proofs.Ytmponlabfccjaaa

/-
  Numbers: sums and differences, limb by limb.
-/
namespace Go.Proofs.Ytmponlabfccjaaa
set_option linter.unnecessarySimpa false
set_option maxRecDepth 100000
open Go Go.Vm
set_option linter.unusedSimpArgs false
set_option linter.unusedVariables false
attribute [local simp] evalL wantedA isCall opA evalA evalAll evalsA evalOpt ofValue ofCell plain binA_eql_pn binA_neq_pn binA_gtr binA_lss binA_geq binA_leq binA_add binA_sub binA_eql binA_neq binA_or binA_and binA_shl binA_shr binA_mul binA_quo binA_rem binA_agg_eql binA_agg_neq convA_int unA_not fieldAddrA loadA partA pickA_true pickA_false pickA_bb lenA builtinA storeA splice AV.cells AV.isCell sliceA boundA intA callOf indexAddrA newObjA buildA fillA zeroA ofCells buildSliceA indexA fieldA numA_len4 numA_take4 numA_drop4 List.getElem?_cons_zero List.getElem?_cons_succ

theorem add64_ok {σ : St} {x y c : Nat} (hc : c ≤ 1) : ExtA Try.prog 120 [.v (.int .u64 x), .v (.int .u64 y), .v (.int .u64 c)] σ (fun av _ => ∃ s c' : Nat, s = (x + y + c) % 18446744073709551616 ∧ c' = (x + y + c) / 18446744073709551616 ∧ av = .tup [.v (.int .u64 s), .v (.int .u64 c')]) :=
  add64_ext Try.func120 (by kernel_rfl) (by kernel_rfl) (by kernel_rfl) (by kernel_rfl) hc
theorem sub64_ok {σ : St} {x y c : Nat} (hc : c ≤ 1) : ExtA Try.prog 131 [.v (.int .u64 x), .v (.int .u64 y), .v (.int .u64 c)] σ (fun av _ => ∃ s c' : Nat, s = (x + 18446744073709551616 - y - c) % 18446744073709551616 ∧ c' = (if x < y + c then 1 else 0) ∧ av = .tup [.v (.int .u64 s), .v (.int .u64 c')]) :=
  sub64_ext Try.func131 (by kernel_rfl) (by kernel_rfl) (by kernel_rfl) (by kernel_rfl) hc

set_option maxHeartbeats 1600000 in
attribute [local simp] undefA List.getElem?_cons_zero List.getElem?_cons_succ in
theorem nadd_ok {σ : St} {x y : Nat} (hx : x < 2 ^ 256) (hy : y < 2 ^ 256) :
    CallsA Try.prog 99 [.agg (numA x), .agg (numA y)] σ (fun av σ' => av = .tup [.agg (numA (addN x y)), .v (.int .i64 (addE x y : Nat))] ∧ σ = σ') := by
  refine callsA_gcS ?_ (by simp [AV.under, underL, numA])
  have hx4 : x < 18446744073709551616 ^ 4 := hx
  have hy4 : y < 18446744073709551616 ^ 4 := hy
  rw [numA_digs x, numA_digs y]
  have F := True.intro
  refine callsA_body Try.func99 rfl rfl rfl ?_; refine sr fun _ hJ2 => ?_; refine hJ2 _ _ ?_; refine sr fun _ hJ4 => ?_; refine hJ4 _ _ ?_; refine sq fun K5 hK5 => ?_; refine sr fun _ hJ7 => ?_; refine hJ7 _ _ ?_; refine run_block_k ?_; refine run_loopF (X := Nat) [2, 3, 4, 5] (fun i ρ σ1 => (i ≤ 4) ∧ (ρ 6 = .v (.int .u64 (addc 18446744073709551616 x y i : Nat))) ∧ (ρ 8 = .v (.int .i64 i)) ∧ (σ1 = { σ with objs := σ.objs ++ [u64s (mix 18446744073709551616 4 i (x + y) x), u64s (digs 18446744073709551616 4 y), numA 0] })) (fun i => 4 - i) (0) ?st1 ?rd1
  case st1 =>
   refine ⟨lp, ?_, lp, ?_⟩
   · simp [addc_zero]
   · simp [mix_zero, numA_zero4]
  case rd1 =>
   rintro i ρ1 σ1 hF1 ⟨hi, h6, h8, hσ⟩; obtain rfl := hσ.symm
   have f1 := keepL hF1
   (try simp [KeepL, F] at f1); replace F := aF h6 F; replace F := aF h8 F; (try replace F := aF f1 F); refine sr fun _ hJ9 => ?_; refine hJ9 _ _ ?_; refine sq fun K10 hK10 => ?_; refine cs (fun c9 => ?_) (fun c9 => ?_)
   · (try exact nope c9); all_goals have c9p := c9; try simp [F] at c9p
     all_goals
      replace F := aF c9 F; (try replace F := aF c9p F); refine run_skip ?_; refine hK10 _ _ ?_; refine sq fun K11 hK11 => ?_; refine run_block_k ?_; refine sr fun _ hJ13 => ?_; refine hJ13 _ _ ?_
      have hi4 : i < 4 := by simp at c9; omega
      have hgx := mixU_get (b := 18446744073709551616) (s := x + y) (x := x) hi4
      have hgy := digU_get (b := 18446744073709551616) (x := y) hi4
      have hst := mixU_set (b := 18446744073709551616) (s := x + y) (x := x) hi4
      have hml := mix_len (b := 18446744073709551616) (s := x + y) (x := x) (Nat.le_of_lt hi4)
      generalize hX : x / 18446744073709551616 ^ i % 18446744073709551616 = X at hgx
      generalize hY : y / 18446744073709551616 ^ i % 18446744073709551616 = Y at hgy
      have hi5 : (i : Int) < 4 := by omega
      obtain ⟨_, hgx2⟩ := List.getElem?_eq_some_iff.1 hgx
      obtain ⟨_, hgy2⟩ := List.getElem?_eq_some_iff.1 hgy
      replace F := aF hgx F; replace F := aF hgy F; replace F := aF hgx2 F; replace F := aF hgy2 F; replace F := aF hml F; replace F := aF hi4 F; replace F := aF hi5 F
      refine run_draw (by kernel_rfl) fun J14 hJ14 => ?_
      refine rp2 0 (k := ?_); refine rp2 1 (k := ?_); refine rp2 2 (k := ?_); refine rp2 3 (k := ?_); refine rp2 4 (k := ?_); refine rp2 5 (k := ?_); refine rp2 6 (k := ?_); refine rp2 7 (k := ?_)
      refine de 8 rfl (c := add64_ok (x := X) (y := Y) (c := addc 18446744073709551616 x y i) (addc_le (by decide))) (k := ?_)
      rintro _ _ ⟨s, c1, hs, hc1, rfl⟩ rfl
      obtain rfl : c1 = addc 18446744073709551616 x y (i + 1) := by rw [hc1, ← hX, ← hY]; exact addc_next (by decide)
      have hs2 : s = (x + y) / 18446744073709551616 ^ i % 18446744073709551616 := by rw [hs, ← hX, ← hY]; exact addc_dig (by decide)
      rw [← hs2] at hst
      (repeat (first | simp [F] | simp (disch := omega) only [wC, if_pos, if_neg])); refine rp2 9 (k := ?_); refine rp2 10 (k := ?_); refine rp2 11 (k := ?_); refine rp2 12 (k := ?_); refine dop 13 rfl ?_; repeat (first | simp [F] | simp (disch := omega) only [wC, if_pos, if_neg])
      refine ⟨later_tmp (by kernel_rfl), ?_⟩
      refine dop 14 rfl ?_; (repeat (first | simp [F] | simp (disch := omega) only [wC, if_pos, if_neg])); (try refine ⟨ln, ?_⟩); refine dd ?_; refine hJ14 _ _ ?_; refine hK11 _ _ ?_; refine rg' (h := fun J15 hJ15 => ?_); refine hJ15 _ _ ?_; refine ⟨(i + 1), ⟨kp, lp, lp, lp, ?_⟩, lp⟩
      · simp [hst]
   (try exact nope c9); all_goals have c9p := c9; try simp [F] at c9p
   all_goals
    replace F := aF c9 F; try replace F := aF c9p F
    obtain rfl : i = 4 := by simp at c9; omega
    have hma := mix_all 18446744073709551616 4 (x + y) x
    rw [hma]
    rw [addc_last hx4 hy4] at h6 F
    rw [← numA_digs]
    have hnl : (numA (x + y)).length = 4 := rfl
    have hnt : (numA (x + y)).take 4 = numA (x + y) := rfl
    replace F := aF hnl (And.intro hnt F); refine run_exit ?_; refine hK5 _ _ ?_; refine sq fun K16 hK16 => ?_; refine sr fun _ hJ18 => ?_; refine hJ18 _ _ ?_; refine cs (fun c26 => ?_) (fun c26 => ?_)
    · (try exact nope c26); all_goals have c26p := c26; try simp [F] at c26p
      all_goals
       replace F := aF c26 F; try replace F := aF c26p F
       have hbig : ¬ x + y < 2 ^ 256 := by first | (intro h; apply c26p; omega) | omega
       have hN : addN x y = 0 := if_neg hbig
       have hE : addE x y = 2 := if_neg hbig
       replace F := aF hN (And.intro hE (And.intro numA_zero4 F)); refine sr fun _ hJ20 => ?_; refine hJ20 _ _ ?_; refine run_ret ?_; (try simp only [Then, InBlock, NoGoto]); refine acell2 (h := ?_); exact gcr
    (try exact nope c26); all_goals have c26p := c26; try simp [F] at c26p
    all_goals
     replace F := aF c26 F; try replace F := aF c26p F
     have hbig : x + y < 2 ^ 256 := by first | omega | (simp at c26p; omega)
     have hN : addN x y = x + y := if_pos hbig
     have hE : addE x y = 0 := if_pos hbig
     replace F := aF hN (And.intro hE F); refine run_skip ?_; refine hK16 _ _ ?_; refine sr fun _ hJ22 => ?_; refine hJ22 _ _ ?_; refine run_ret ?_; (try simp only [Then, InBlock, NoGoto]); refine acell2 (h := ?_); exact gcr

def subN (x y : Nat) : Nat := (x + 2 ^ 256 - y) % 2 ^ 256

set_option maxHeartbeats 1600000 in
attribute [local simp] undefA List.getElem?_cons_zero List.getElem?_cons_succ in
theorem nsub_ok {σ : St} {x y : Nat} (hx : x < 2 ^ 256) (hy : y < 2 ^ 256) :
    CallsA Try.prog 128 [.agg (numA x), .agg (numA y)] σ (fun av σ' => av = .tup [.agg (numA (subN x y)), .v (.bool (decide (x < y)))] ∧ σ = σ') := by
  refine callsA_gcS ?_ (by simp [AV.under, underL, numA])
  have hx4 : x < 18446744073709551616 ^ 4 := hx
  have hy4 : y < 18446744073709551616 ^ 4 := hy
  rw [numA_digs x, numA_digs y]
  obtain ⟨s4, hs4⟩ : ∃ s4, s4 = x + 18446744073709551616 ^ 4 - y := ⟨_, rfl⟩
  have F := True.intro
  refine callsA_body Try.func128 rfl rfl rfl ?_; refine sr fun _ hJ2 => ?_; refine hJ2 _ _ ?_; refine sr fun _ hJ4 => ?_; refine hJ4 _ _ ?_; refine sq fun K5 hK5 => ?_; refine sr fun _ hJ7 => ?_; refine hJ7 _ _ ?_; refine run_block_k ?_; refine run_loopF (X := Nat) [2, 3, 4, 5] (fun i ρ σ1 => (i ≤ 4) ∧ (ρ 6 = .v (.int .u64 (subb 18446744073709551616 x y i : Nat))) ∧ (ρ 8 = .v (.int .i64 i)) ∧ (σ1 = { σ with objs := σ.objs ++ [u64s (mix 18446744073709551616 4 i s4 x), u64s (digs 18446744073709551616 4 y), numA 0] })) (fun i => 4 - i) (0) ?st1 ?rd1
  case st1 =>
   refine ⟨lp, ?_, lp, ?_⟩
   · simp [subb_zero]
   · simp [mix_zero, numA_zero4]
  case rd1 =>
   rintro i ρ1 σ1 hF1 ⟨hi, h6, h8, hσ⟩; obtain rfl := hσ.symm
   have f1 := keepL hF1
   (try simp [KeepL, F] at f1); replace F := aF h6 F; replace F := aF h8 F; (try replace F := aF f1 F); refine sr fun _ hJ9 => ?_; refine hJ9 _ _ ?_; refine sq fun K10 hK10 => ?_; refine cs (fun c9 => ?_) (fun c9 => ?_)
   · (try exact nope c9); all_goals have c9p := c9; try simp [F] at c9p
     all_goals
      replace F := aF c9 F; (try replace F := aF c9p F); refine run_skip ?_; refine hK10 _ _ ?_; refine sq fun K11 hK11 => ?_; refine run_block_k ?_; refine sr fun _ hJ13 => ?_; refine hJ13 _ _ ?_
      have hi4 : i < 4 := by simp at c9; omega
      have hgx := mixU_get (b := 18446744073709551616) (s := s4) (x := x) hi4
      have hgy := digU_get (b := 18446744073709551616) (x := y) hi4
      have hst := mixU_set (b := 18446744073709551616) (s := s4) (x := x) hi4
      have hml := mix_len (b := 18446744073709551616) (s := s4) (x := x) (Nat.le_of_lt hi4)
      generalize hX : x / 18446744073709551616 ^ i % 18446744073709551616 = X at hgx
      generalize hY : y / 18446744073709551616 ^ i % 18446744073709551616 = Y at hgy
      have hi5 : (i : Int) < 4 := by omega
      obtain ⟨_, hgx2⟩ := List.getElem?_eq_some_iff.1 hgx
      obtain ⟨_, hgy2⟩ := List.getElem?_eq_some_iff.1 hgy
      replace F := aF hgx F; replace F := aF hgy F; replace F := aF hgx2 F; replace F := aF hgy2 F; replace F := aF hml F; replace F := aF hi4 F; replace F := aF hi5 F
      refine run_draw (by kernel_rfl) fun J14 hJ14 => ?_
      refine rp2 0 (k := ?_); refine rp2 1 (k := ?_); refine rp2 2 (k := ?_); refine rp2 3 (k := ?_); refine rp2 4 (k := ?_); refine rp2 5 (k := ?_); refine rp2 6 (k := ?_); refine rp2 7 (k := ?_); refine de 8 rfl (c := sub64_ok (x := X) (y := Y) (c := subb 18446744073709551616 x y i) (subb_le _ _ _ _)) (k := ?_); rintro _ _ ⟨s, c1, hs, hc1, rfl⟩ rfl
      obtain rfl : c1 = subb 18446744073709551616 x y (i + 1) := by rw [hc1, ← hX, ← hY]; exact subb_next (by decide)
      have hs2 : s = s4 / 18446744073709551616 ^ i % 18446744073709551616 := by rw [hs, hs4, ← hX, ← hY]; exact subb_dig (by decide) hi4 hx4 hy4
      rw [← hs2] at hst
      (repeat (first | simp [F] | simp (disch := omega) only [wC, if_pos, if_neg])); refine rp2 9 (k := ?_); refine rp2 10 (k := ?_); refine rp2 11 (k := ?_); refine rp2 12 (k := ?_); refine dop 13 rfl ?_; repeat (first | simp [F] | simp (disch := omega) only [wC, if_pos, if_neg])
      refine ⟨later_tmp (by kernel_rfl), ?_⟩
      refine dop 14 rfl ?_; (repeat (first | simp [F] | simp (disch := omega) only [wC, if_pos, if_neg])); (try refine ⟨ln, ?_⟩); refine dd ?_; refine hJ14 _ _ ?_; refine hK11 _ _ ?_; refine rg' (h := fun J15 hJ15 => ?_); refine hJ15 _ _ ?_; refine ⟨(i + 1), ⟨kp, lp, lp, lp, ?_⟩, lp⟩
      · simp [hst]
   (try exact nope c9); all_goals have c9p := c9; try simp [F] at c9p
   all_goals
    replace F := aF c9 F; try replace F := aF c9p F
    obtain rfl : i = 4 := by simp at c9; omega
    have hma := mix_all 18446744073709551616 4 s4 x
    rw [hma]
    rw [subb_last hx4 hy4] at h6 F
    have hnn : u64s (digs 18446744073709551616 4 s4) = numA (subN x y) := by rw [numA_digs]; congr 1; exact (digs_of (by decide) (digs_lt (by decide)) (by simp) (by rw [valD_digs, hs4]; rfl))
    rw [hnn]
    have hnl : (numA (subN x y)).length = 4 := rfl
    have hnt : (numA (subN x y)).take 4 = numA (subN x y) := rfl
    have hb2 : (((if x < y then 1 else 0 : Nat) : Int) != 0) = decide (x < y) := by split <;> simp [*]
    replace F := aF hnl (And.intro hnt (And.intro hb2 F)); refine run_exit ?_; refine hK5 _ _ ?_; refine sr fun _ hJ17 => ?_; refine hJ17 _ _ ?_; refine run_ret ?_; (try simp only [Then, InBlock, NoGoto]); refine acell2 (h := ?_); exact gcr

set_option maxHeartbeats 1600000 in
attribute [local simp] undefA List.getElem?_cons_zero List.getElem?_cons_succ in
theorem nSub_ok {σ : St} {x y : Nat} (hx : x < 2 ^ 256) (hy : y < 2 ^ 256) :
    CallsA Try.prog 119 [.agg (numA x), .agg (numA y)] σ (fun av σ' => av = .tup [.agg (numA (x - y)), .v (.int .i64 (if x < y then 3 else 0 : Nat))] ∧ σ = σ') := by
  refine callsA_gcS ?_ (by simp [AV.under, underL, numA])
  have F := True.intro
  refine callsA_body Try.func119 rfl rfl rfl ?_; refine sr fun _ hJ2 => ?_; refine hJ2 _ _ ?_; refine sr fun _ hJ4 => ?_; refine ca (c := nsub_ok hx hy) (k := ?_); rintro _ _ ⟨rfl, rfl⟩; (repeat (first | simp [F] | simp (disch := omega) only [wC, if_pos, if_neg])); refine hJ4 _ _ ?_; refine sq fun K5 hK5 => ?_; refine sr fun _ hJ7 => ?_; refine hJ7 _ _ ?_; refine cs (fun c14 => ?_) (fun c14 => ?_)
  · (try exact nope c14); all_goals have c14p := c14; try simp [F] at c14p
    all_goals
     replace F := aF c14 F; try replace F := aF c14p F
     have h0 : x - y = 0 := by first | omega | (simp at c14p; omega)
     have hlt : x < y := by simpa using c14p
     replace F := aF h0 (And.intro hlt (And.intro numA_zero4 F)); refine sr fun _ hJ9 => ?_; refine hJ9 _ _ ?_; refine run_ret ?_; (try simp only [Then, InBlock, NoGoto]); refine acell2 (h := ?_); exact gcr
  (try exact nope c14); all_goals have c14p := c14; try simp [F] at c14p
  all_goals
   replace F := aF c14 F; try replace F := aF c14p F
   have hlt : ¬ x < y := by simpa using c14p
   have h0 : subN x y = x - y := by unfold subN; omega
   replace F := aF h0 (And.intro hlt F); refine run_skip ?_; refine hK5 _ _ ?_; refine sr fun _ hJ11 => ?_; refine hJ11 _ _ ?_; refine run_ret ?_; (try simp only [Then, InBlock, NoGoto]); refine acell2 (h := ?_); exact gcr

set_option maxHeartbeats 1600000 in
attribute [local simp] undefA List.getElem?_cons_zero List.getElem?_cons_succ in
theorem nRest_ok {σ : St} {x y : Nat} (hx : x < 2 ^ 256) (hy : y < 2 ^ 256) :
    CallsA Try.prog 98 [.agg (numA x), .agg (numA y)] σ (fun av σ' => av = .agg (numA (x - y)) ∧ σ = σ') := by
  refine callsA_gcS ?_ (by simp [AV.under, underL, numA])
  have F := True.intro
  refine callsA_body Try.func98 rfl rfl rfl ?_; refine sr fun _ hJ2 => ?_; refine hJ2 _ _ ?_; refine sr fun _ hJ4 => ?_; refine ca (c := nSub_ok hx hy) (k := ?_); rintro _ _ ⟨rfl, rfl⟩; (repeat (first | simp [F] | simp (disch := omega) only [wC, if_pos, if_neg])); refine hJ4 _ _ ?_; refine sr fun _ hJ6 => ?_; refine hJ6 _ _ ?_; refine run_ret ?_; (try simp only [Then, InBlock, NoGoto]); refine acell (h := ?_); exact gcr

def cmpI (x y : Nat) : Int := if x < y then -1 else if y < x then 1 else 0
structure TS where
  k : Nat
  P : List Nat
  c : Nat
end Go.Proofs.Ytmponlabfccjaaa

/-
  Coins: amounts, sums, rests.
-/
namespace Go.Proofs.Ytmponlabfccjaaa
set_option linter.unnecessarySimpa false
set_option maxRecDepth 100000
open Go Go.Vm
set_option linter.unusedSimpArgs false
set_option linter.unusedVariables false
attribute [local simp] evalL wantedA isCall opA evalA evalAll evalsA evalOpt ofValue ofCell plain binA_eql_pn binA_neq_pn binA_gtr binA_lss binA_geq binA_leq binA_add binA_sub binA_eql binA_neq binA_orI binA_andI binA_shl binA_shr binA_mul binA_quo binA_rem binA_agg_eql binA_agg_neq convA_int unA_not fieldAddrA loadA partA pickA_true pickA_false pickA_bb lenA builtinA storeA splice AV.cells AV.isCell sliceA boundA intA callOf indexAddrA newObjA buildA fillA zeroA ofCells buildSliceA indexA fieldA numA_len4 numA_take4 numA_drop4 set_appN get_appN take_appN List.getElem?_cons_zero List.getElem?_cons_succ

set_option maxHeartbeats 1600000 in
attribute [local simp] undefA List.getElem?_cons_zero List.getElem?_cons_succ numA_zero4 coinC in
theorem amount_ok {σ : St} {l : List Coin} {d : UInt8} {tl : Tail} (hl : l.length ≤ 9223372036854775807) :
    CallsA Try.prog 121 [.sl 5 (coinsC l) l.length tl, .v (.int .u8 d.toNat)] σ (fun av σ' => av = .agg (numA (amt l d.toNat)) ∧ σ = σ') := by
  refine callsA_gcS ?_ rfl
  have F := True.intro
  refine callsA_body Try.func121 rfl rfl rfl ?_; refine sr fun _ hJ2 => ?_; refine hJ2 _ _ ?_; refine sq fun K3 hK3 => ?_; refine sr fun _ hJ5 => ?_; refine hJ5 _ _ ?_; refine run_block_k ?_; refine run_loopG (X := Nat) [1, 4, 7, 8] (fun i ρ σ1 => (i ≤ l.length) ∧ (amt l d.toNat = amt (l.drop i) d.toNat) ∧ (ρ 9 = .v (.int .i64 i)) ∧ (σ1 = { σ with objs := σ.objs ++ [numA 0] })) (fun i => l.length - i) (0) ?st1 ?rd1
  case st1 =>
   refine ⟨lp, lp, lp, ?_⟩
   · rfl
  case rd1 =>
   rintro i ρ1 σ1 hF1 ⟨hi, hA, h9, hσ⟩; obtain rfl := hσ.symm
   have f1 := keepL hF1
   (try simp [KeepL, F] at f1); replace F := aF h9 F; (try replace F := aF f1 F); refine sr fun _ hJ7 => ?_; refine hJ7 _ _ ?_; refine sq fun K8 hK8 => ?_; refine cs (fun c10 => ?_) (fun c10 => ?_)
   · (try exact nope c10); all_goals have c10p := c10; try simp [F] at c10p
     all_goals
      replace F := aF c10 F; (try replace F := aF c10p F); refine run_skip ?_; refine hK8 _ _ ?_; refine sq fun K9 hK9 => ?_; refine run_block_k ?_; refine sq fun K10 hK10 => ?_
      have hlt : i < l.length := by simp at c10; omega
      have hat := coinsC_at hlt
      simp only [coinC] at hat
      have hb1 : i * 5 + 5 ≤ l.length * 5 := by omega
      have hcons : l.drop i = l[i] :: l.drop (i + 1) := List.drop_eq_getElem_cons hlt
      replace F := aF hat F; replace F := aF hb1 F; refine rg' (h := fun J11 hJ11 => ?_); refine hJ11 _ _ ?_; refine hK10 _ _ ?_; refine sr fun _ hJ13 => ?_; refine hJ13 _ _ ?_; refine cs (fun c16 => ?_) (fun c16 => ?_)
      · (try exact nope c16); all_goals have c16p := c16; try simp [F] at c16p
        all_goals
         replace F := aF c16 F; try replace F := aF c16p F
         have hd : l[i].d.toNat = d.toNat := by have h := c16; simp at h; first | omega | (subst h; rfl) | (rw [h])
         have hA2 : amt l d.toNat = l[i].n.v := by rw [hA, hcons]; unfold amt; rw [if_pos hd]
         replace F := aF hA2 F; refine sr fun _ hJ15 => ?_; refine hJ15 _ _ ?_; refine run_ret ?_; (try simp only [Then, InBlock, NoGoto]); refine acell (h := ?_); exact gcr
      (try exact nope c16); all_goals have c16p := c16; try simp [F] at c16p
      all_goals
       replace F := aF c16 F; try replace F := aF c16p F
       have hd : ¬ l[i].d.toNat = d.toNat := by have h := c16; simp at h; first | omega | (intro e; exact h (UInt8.toNat_inj.1 e))
       refine run_skip ?_; refine hK9 _ _ ?_; refine rg' (h := fun J16 hJ16 => ?_); refine hJ16 _ _ ?_; refine ⟨gk, (i + 1), ⟨kpG, lpG, ?_, lpG, lpG⟩, lpG⟩
       · rw [hA, hcons]
         exact if_neg hd
   (try exact nope c10); all_goals have c10p := c10; try simp [F] at c10p
   all_goals
    replace F := aF c10 F; try replace F := aF c10p F
    have hend : amt l d.toNat = 0 := by rw [hA, List.drop_of_length_le (by simp at c10; omega)]; rfl
    replace F := aF hend F; refine run_exit ?_; refine hK3 _ _ ?_; refine sr fun _ hJ18 => ?_; refine hJ18 _ _ ?_; refine run_ret ?_; (try simp only [Then, InBlock, NoGoto]); refine acell (h := ?_); exact gcr

set_option maxHeartbeats 1600000 in
attribute [local simp] undefA List.getElem?_cons_zero List.getElem?_cons_succ in
theorem one_ok {σ : St} {d : UInt8} {n : Num} :
    CallsA Try.prog 122 [.v (.int .u8 d.toNat), .agg (numA n.v)] σ (fun av σ' => av = .sl 5 (coinsC (oneL d n)) (oneL d n).length .shut ∧ σ = σ') := by
  refine callsA_gcS ?_ (by simp [AV.under])
  have hR : Right [⟨d, n⟩] ↔ d.toNat < 8 ∧ n.v ≠ 0 := by simp [Right]
  have hc : .v (.int .u8 (d.toNat : Int)) :: numA n.v = coinsC [⟨d, n⟩] := by simp [coinsC, coinC]
  have hdr : ∀ f : Nat → AV, List.drop 5 (List.map f (List.range 5)) = [] := fun _ => rfl
  have F := And.intro hc (And.intro hdr (True.intro))
  refine callsA_body Try.func122 rfl rfl rfl ?_; refine sr fun _ hJ2 => ?_; refine hJ2 _ _ ?_; refine sq fun K3 hK3 => ?_; refine sr fun _ hJ5 => ?_; refine hJ5 _ _ ?_; refine sr fun _ hJ7 => ?_
  refine ca (c := right_ok (l := [⟨d, n⟩]) (by simp)) (k := ?_)
  rintro _ _ ⟨rfl, rfl⟩; (repeat (first | simp [F] | simp (disch := omega) only [wC, if_pos, if_neg])); refine hJ7 _ _ ?_; refine cs (fun c11 => ?_) (fun c11 => ?_)
  · (try exact nope c11); all_goals have c11p := c11; try simp [F] at c11p
    all_goals
     replace F := aF c11 F; try replace F := aF c11p F
     have hr : oneL d n = [⟨d, n⟩] := if_pos (hR.1 (by simpa using c11))
     replace F := aF hr F; refine sr fun _ hJ9 => ?_; refine hJ9 _ _ ?_; refine ra ?_; exact gcr
  (try exact nope c11); all_goals have c11p := c11; try simp [F] at c11p
  all_goals
   replace F := aF c11 F; try replace F := aF c11p F
   have hr : oneL d n = [] := if_neg (fun h => by have := hR.2 h; simp [this] at c11)
   replace F := aF hr F; refine run_skip ?_; refine hK3 _ _ ?_; refine sr fun _ hJ11 => ?_; refine hJ11 _ _ ?_; refine ra ?_; exact gcr

def FnA (fid : FuncId) (caps : List AV) (F : Nat → Nat → Nat × Nat) : Prop :=
  ∀ (σ : St) (x y : Nat), x < 2 ^ 256 → y < 2 ^ 256 → CallsA Try.prog fid ([.agg (numA x), .agg (numA y)] ++ caps) σ (fun av σ' => av = .tup [.agg (numA (F x y).1), .v (.int .i64 ((F x y).2 : Nat))] ∧ σ = σ')

set_option maxHeartbeats 1600000 in
attribute [local simp] undefA List.getElem?_cons_zero List.getElem?_cons_succ in
theorem each_ok {σ : St} {a b : List Coin} {ta tb : Tail} {fid : FuncId} {caps : List AV} {Fn : Nat → Nat → Nat × Nat} (ha : a.length ≤ 9223372036854775807) (hb : b.length ≤ 9223372036854775807) (hcb : callable Try.prog fid = true) (hF : FnA fid caps Fn) (hcp : ∀ n, noObjL n caps = true)
    (hFl : ∀ x y, x < 2 ^ 256 → y < 2 ^ 256 → (Fn x y).1 < 2 ^ 256) :
    CallsA Try.prog 100 [.sl 5 (coinsC a) a.length ta, .sl 5 (coinsC b) b.length tb, .fn fid caps] σ (fun av σ' => av = .tup [.sl 5 (coinsC (eachL Fn a b)) (eachL Fn a b).length .shut, .v (.int .i64 (eachE Fn a b 8 : Nat))] ∧ σ = σ') := by
  refine callsA_gcS ?_ (by simp [AV.under, underL])
  obtain ⟨fl, hfl⟩ : ∃ fl : Nat → Nat, fl = fun d => (Fn (amt a d) (amt b d)).1 := ⟨_, rfl⟩
  have F := And.intro hcp (And.intro hcb (True.intro))
  refine callsA_body Try.func100 rfl rfl rfl ?_; refine sr fun _ hJ2 => ?_; refine hJ2 _ _ ?_; refine sr fun _ hJ4 => ?_; refine hJ4 _ _ ?_; refine sq fun K5 hK5 => ?_; refine sr fun _ hJ7 => ?_; refine hJ7 _ _ ?_; refine run_block_k ?_; refine run_loopG (X := Nat) [0, 1, 2] (fun d ρ σ1 => (d ≤ 8) ∧ (eachE Fn a b d = 0) ∧ (ρ 8 = grA σ.toks.length 5 (posB d) (coinsC (lstF fl d)) (lstF fl d).length) ∧ (ρ 12 = .v (.int .u8 d)) ∧ (σ1 = { σ with toks := σ.toks ++ grT (posB d) (lstF fl d).length })) (fun d => 8 - d) (0) ?st1 ?rd1
  case st1 =>
   refine ⟨lp, ?_, lp, lp, lp⟩
   · rfl
  case rd1 =>
   rintro d ρ1 σ1 hF1 ⟨hd, hE, h8, h12, hσ⟩; obtain rfl := hσ.symm
   have f1 := keepL hF1
   (try simp [KeepL, F] at f1); replace F := aF h8 F; replace F := aF h12 F; (try replace F := aF f1 F); refine sr fun _ hJ9 => ?_; refine hJ9 _ _ ?_; refine sq fun K10 hK10 => ?_; refine cs (fun c13 => ?_) (fun c13 => ?_)
   · (try exact nope c13); all_goals have c13p := c13; try simp [F] at c13p
     all_goals
      replace F := aF c13 F; (try replace F := aF c13p F); refine run_skip ?_; refine hK10 _ _ ?_; refine sq fun K11 hK11 => ?_; refine run_block_k ?_; refine sq fun K12 hK12 => ?_
      have hd8 : d < 8 := by simp at c13; omega
      obtain ⟨D, rfl⟩ : ∃ D : UInt8, d = D.toNat := ⟨UInt8.ofNat d, (toNat_u8 (by omega)).symm⟩
      have hfD : fl D.toNat < 2 ^ 256 := by rw [hfl]; exact hFl _ _ (amt_lt _ _) (amt_lt _ _)
      have hnum : (Fn (amt a D.toNat) (amt b D.toNat)).1 = (Num.of (fl D.toNat)).v := by rw [Num.of_v hfD, hfl]
      obtain ⟨L, hL⟩ : ∃ L, L = lstF fl D.toNat := ⟨_, rfl⟩
      obtain ⟨M, hM⟩ : ∃ M, M = oneL D (Num.of (fl D.toNat)) := ⟨_, rfl⟩
      have hnx : lstF fl (D.toNat + 1) = L ++ M := by rw [hL, hM]; exact lstF_one hd8 hfD
      have hLl : L.length ≤ 8 := by rw [hL]; exact Nat.le_trans (lstF_len _ _) hd
      have hMl : M.length ≤ 1 := by rw [hM]; unfold oneL; split <;> simp
      rw [← hL] at h8 F
      rw [← hL]
      have hb0 : posB D.toNat = false → coinsC L = [] ∧ L.length = 0 := fun h => by rw [hL, posB_no h]; simp [lstF]
      have happ : ∀ objs, appendA Try.prog 29 (grA σ.toks.length 5 (posB D.toNat) (coinsC L) L.length) (.sl 5 (coinsC M) M.length .shut) ⟨objs, σ.toks ++ grT (posB D.toNat) L.length, σ.gl, σ.rows⟩ = some (grA σ.toks.length 5 true (coinsC L ++ coinsC M) (L.length + M.length), ⟨objs, σ.toks ++ grT true (L.length + M.length), σ.gl, σ.rows⟩) := fun objs => append_gr elemT_29 ti_93 (by decide) rfl hb0 (.inl rfl) (by simp [roomA]; omega) (by simp [maxLen]; omega)
      replace F := aF hnum (And.intro happ F); refine rg' (h := fun J13 hJ13 => ?_); refine hJ13 _ _ ?_; refine hK12 _ _ ?_; refine sr fun _ hJ15 => ?_; refine ca (c := amount_ok (l := a) (d := D) ha) (k := ?_); rintro _ _ ⟨rfl, rfl⟩; (repeat (first | simp [F] | simp (disch := omega) only [wC, if_pos, if_neg])); refine ca (c := amount_ok (l := b) (d := D) hb) (k := ?_); rintro _ _ ⟨rfl, rfl⟩; (repeat (first | simp [F] | simp (disch := omega) only [wC, if_pos, if_neg])); refine ca (c := hF _ _ _ (amt_lt _ _) (amt_lt _ _)) (k := ?_); rintro _ _ ⟨rfl, rfl⟩; (repeat (first | simp [F] | simp (disch := omega) only [wC, if_pos, if_neg])); refine hJ15 _ _ ?_; refine sq fun K16 hK16 => ?_; refine sr fun _ hJ18 => ?_; refine hJ18 _ _ ?_; refine cs (fun c27 => ?_) (fun c27 => ?_)
      · (try exact nope c27); all_goals have c27p := c27; try simp [F] at c27p
        all_goals
         replace F := aF c27 F; try replace F := aF c27p F
         have he0 : ¬ (Fn (amt a D.toNat) (amt b D.toNat)).2 = 0 := by have h := c27; simp at h; omega
         have e1 : eachE Fn a b (D.toNat + 1) = (Fn (amt a D.toNat) (amt b D.toNat)).2 := by simp only [eachE, hE, ne_eq, not_true_eq_false, if_false]
         have e8 : eachE Fn a b 8 = (Fn (amt a D.toNat) (amt b D.toNat)).2 := by have := eachE_stop (F := Fn) (a := a) (b := b) (d := D.toNat + 1) (by rw [e1]; exact he0) (8 - (D.toNat + 1)); rw [show D.toNat + 1 + (8 - (D.toNat + 1)) = 8 by omega] at this; rw [this, e1]
         have eL : eachL Fn a b = [] := by unfold eachL; rw [if_neg (by rw [e8]; exact he0)]
         replace F := aF e8 (And.intro eL F); refine sr fun _ hJ20 => ?_; refine hJ20 _ _ ?_; refine run_ret ?_; (try simp only [Then, InBlock, NoGoto]); refine answer_tmp2 rfl (.inr rfl) ?_
         rw [e8, eL]
         exact gcr (hA := WkL.tup (.cons (Wk.nil _ _ _) (.cons (Wk.refl _) .nil)))
      (try exact nope c27); all_goals have c27p := c27; try simp [F] at c27p
      all_goals
       replace F := aF c27 F; try replace F := aF c27p F
       have he0 : (Fn (amt a D.toNat) (amt b D.toNat)).2 = 0 := by have h := c27; simp at h; omega
       refine run_skip ?_; refine hK16 _ _ ?_; refine rg' (h := fun J21 hJ21 => ?_); refine ca (c := (hM ▸ one_ok (d := D) (n := Num.of (fl D.toNat)))) (k := ?_); rintro _ _ ⟨rfl, rfl⟩; (repeat (first | simp [F] | simp (disch := omega) only [wC, if_pos, if_neg])); refine hJ21 _ _ ?_; refine hK11 _ _ ?_; refine rg' (h := fun J22 hJ22 => ?_); refine hJ22 _ _ ?_; refine ⟨gk, (D.toNat + 1), ⟨kpG, lpG, ?_, ?_, lpG, ?_⟩, lpG⟩
       · simp only [eachE, hE, ne_eq, not_true_eq_false, if_false]
         exact he0
       · rw [hnx, ← coinsC_append]
         simp [F, AV.gcO, noObjL_append]
       · rw [hnx]
         simp [F, St.trimO]
   (try exact nope c13); all_goals have c13p := c13; try simp [F] at c13p
   all_goals
    replace F := aF c13 F; try replace F := aF c13p F
    obtain rfl : d = 8 := by simp at c13; omega
    have eL : eachL Fn a b = lstF fl 8 := by unfold eachL; rw [if_pos hE, hfl]
    replace F := aF hE (And.intro eL F); refine run_exit ?_; refine hK5 _ _ ?_; refine sr fun _ hJ24 => ?_; refine hJ24 _ _ ?_; refine run_ret ?_; (try simp only [Then, InBlock, NoGoto]); refine answer_tmp2 rfl (.inr rfl) ?_
    rw [hE, eL]
    exact gcr (hA := WkL.tup (.cons (by simp only [putA_get]; simp [F]; first | exact Wk.shut _ _ _ _ | exact wk_grA (b := true) (fun h => absurd h (by decide))) (.cons (Wk.refl _) .nil)))

theorem addE_fn : FnA 99 [] (fun x y => (addN x y, addE x y)) := fun σ x y hx hy => nadd_ok hx hy

set_option maxHeartbeats 1600000 in
attribute [local simp] undefA List.getElem?_cons_zero List.getElem?_cons_succ in
theorem sure1_ok {σ : St} {x y : Nat} {fid : FuncId} {Fn : Nat → Nat → Nat} (hcb : callable Try.prog fid = true) (hf : ∀ (σ : St) (x y : Nat), x < 2 ^ 256 → y < 2 ^ 256 → CallsA Try.prog fid [.agg (numA x), .agg (numA y)] σ (fun av σ' => av = .agg (numA (Fn x y)) ∧ σ = σ')) (hx : x < 2 ^ 256) (hy : y < 2 ^ 256) :
    CallsA Try.prog 127 [.agg (numA x), .agg (numA y), .ep [.fn fid []]] σ (fun av σ' => av = .tup [.agg (numA (Fn x y)), .v (.int .i64 0)] ∧ σ = σ') := by
  refine callsA_gcS ?_ (by simp [AV.under, underL])
  have F := And.intro hcb (True.intro)
  refine callsA_body Try.func127 rfl rfl rfl ?_; refine sr fun _ hJ2 => ?_; refine hJ2 _ _ ?_; refine sr fun _ hJ4 => ?_; refine ca (c := hf _ _ _ hx hy) (k := ?_); rintro _ _ ⟨rfl, rfl⟩; (repeat (first | simp [F] | simp (disch := omega) only [wC, if_pos, if_neg])); refine hJ4 _ _ ?_; refine run_ret ?_; (try simp only [Then, InBlock, NoGoto]); refine acell2 (h := ?_); exact gcr

set_option maxHeartbeats 1600000 in
attribute [local simp] undefA List.getElem?_cons_zero List.getElem?_cons_succ in
theorem sure_raw {σ : St} {fid : FuncId} :
    CallsA Try.prog 118 [.fn fid []] σ (fun av σ' => av = .fn 127 [.ptr σ.objs.length 0] ∧ σ' = { σ with objs := σ.objs ++ [[.fn fid []]] }) := by
  have F := True.intro
  refine callsA_body Try.func118 rfl rfl rfl ?_; refine sr fun _ hJ2 => ?_; refine hJ2 _ _ ?_; refine sr fun _ hJ4 => ?_; refine hJ4 _ _ ?_; refine ra ?_; exact rt
theorem sure_ok {σ : St} {fid : FuncId} : CallsA Try.prog 118 [.fn fid []] σ (fun av σ' => av = .fn 127 [.ep [.fn fid []]] ∧ σ = σ') :=
  callsA_freeze sure_raw (by simp) rfl

theorem rest_fn : FnA 127 [.ep [.fn 98 []]] (fun x y => (x - y, 0)) := fun σ x y hx hy =>
  sure1_ok (Fn := fun x y => x - y) (by simp) (fun σ x y hx hy => nRest_ok hx hy) hx hy

set_option maxHeartbeats 1600000 in
attribute [local simp] undefA List.getElem?_cons_zero List.getElem?_cons_succ in
theorem cadd_ok {σ : St} {a b : List Coin} {ta tb : Tail} (ha : a.length ≤ 9223372036854775807) (hb : b.length ≤ 9223372036854775807) :
    CallsA Try.prog 64 [.sl 5 (coinsC a) a.length ta, .sl 5 (coinsC b) b.length tb] σ (fun av σ' => av = .tup [.sl 5 (coinsC (cAddL a b)) (cAddL a b).length .shut, .v (.int .i64 (cAddE a b : Nat))] ∧ σ = σ') := by
  have F := True.intro
  refine callsA_body Try.func64 rfl rfl rfl ?_; refine sr fun _ hJ2 => ?_; refine hJ2 _ _ ?_; refine sr fun _ hJ4 => ?_
  refine ca (c := each_ok ha hb (by simp) addE_fn (fun _ ↦ rfl) (fun x y _ _ ↦ addN_lt x y)) (k := ?_)
  rintro _ _ ⟨rfl, rfl⟩; (repeat (first | simp [F] | simp (disch := omega) only [wC, if_pos, if_neg])); refine hJ4 _ _ ?_; refine run_ret ?_; (try simp only [Then, InBlock, NoGoto]); refine answer_tmp2 rfl (.inr rfl) ?_; exact ⟨rfl, rfl⟩

set_option maxHeartbeats 1600000 in
attribute [local simp] undefA List.getElem?_cons_zero List.getElem?_cons_succ in
theorem crest_ok {σ : St} {a b : List Coin} {ta tb : Tail} (ha : a.length ≤ 9223372036854775807) (hb : b.length ≤ 9223372036854775807) :
    CallsA Try.prog 96 [.sl 5 (coinsC a) a.length ta, .sl 5 (coinsC b) b.length tb] σ (fun av σ' => av = .sl 5 (coinsC (cRest a b)) (cRest a b).length .shut ∧ σ = σ') := by
  have F := True.intro
  refine callsA_body Try.func96 rfl rfl rfl ?_; refine sr fun _ hJ2 => ?_; refine hJ2 _ _ ?_; refine sr fun _ hJ4 => ?_; refine ca (c := sure_ok) (k := ?_); rintro _ _ ⟨rfl, rfl⟩; repeat (first | simp [F] | simp (disch := omega) only [wC, if_pos, if_neg])
  refine ca (c := each_ok ha hb (by simp) rest_fn (fun _ ↦ rfl) (fun x y hx _ ↦ Nat.lt_of_le_of_lt (Nat.sub_le _ _) hx)) (k := ?_)
  rintro _ _ ⟨rfl, rfl⟩; (repeat (first | simp [F] | simp (disch := omega) only [wC, if_pos, if_neg])); refine hJ4 _ _ ?_; refine sr fun _ hJ6 => ?_; refine hJ6 _ _ ?_; refine ra ?_; exact ⟨rfl, rfl⟩

end Go.Proofs.Ytmponlabfccjaaa

/-
  Digits that are made right; numbers of digits.
-/
namespace Go.Vm
set_option linter.unnecessarySimpa false
set_option linter.unusedSimpArgs false
set_option linter.unusedVariables false
set_option exponentiation.threshold 600
open Go

theorem digs_mod {b n x y : Nat} (hb : 0 < b) (h : x % b ^ n = y % b ^ n) : digs b n x = digs b n y := by
  have hy : digs b n (valD b (digs b n y)) = digs b n y := by
    have := digs_valD hb (digs_lt (n := n) (x := y) hb)
    rwa [digs_len] at this
  have hx : digs b n (valD b (digs b n x)) = digs b n x := by
    have := digs_valD hb (digs_lt (n := n) (x := x) hb)
    rwa [digs_len] at this
  rw [← hx, ← hy, valD_digs, valD_digs, h]

theorem valD_take_succ {b : Nat} {L : List Nat} {i : Nat} (h : i < L.length) : valD b (L.take (i + 1)) = valD b (L.take i) + b ^ i * L[i] := by
  rw [take_snoc h, valD_snoc]
  simp [Nat.min_eq_left (Nat.le_of_lt h)]

def crA (b : Nat) (L : List Nat) (i : Nat) : List Nat := digs b i (valD b (L.take i)) ++ L.drop i
def crO (b : Nat) (L : List Nat) (i : Nat) : Nat := valD b (L.take i) / b ^ i
theorem crA_zero (b : Nat) (L : List Nat) : crA b L 0 = L := by simp [crA, digs]
theorem crO_zero (b : Nat) (L : List Nat) : crO b L 0 = 0 := by simp [crO]
theorem crA_len {b : Nat} {L : List Nat} {i : Nat} (h : i ≤ L.length) : (crA b L i).length = L.length := by simp [crA]; omega
theorem crA_get {b : Nat} {L : List Nat} {i : Nat} (h : i < L.length) : (crA b L i)[i]? = some L[i] := by
  unfold crA
  rw [List.getElem?_append_right (by simp)]
  simp [h]
theorem crO_next {b : Nat} {L : List Nat} {i : Nat} (hb : 0 < b) (h : i < L.length) : (crO b L i + L[i]) / b = crO b L (i + 1) := by
  unfold crO
  rw [valD_take_succ h, Nat.pow_succ, ← Nat.div_div_eq_div_mul, Nat.add_mul_div_left _ _ (Nat.pow_pos hb)]
theorem crA_set {b : Nat} {L : List Nat} {i : Nat} (hb : 0 < b) (h : i < L.length) : (crA b L i).set i ((crO b L i + L[i]) % b) = crA b L (i + 1) := by
  unfold crA crO
  rw [List.set_append_right _ _ (by simp), digs_snoc, valD_take_succ h, Nat.add_mul_div_left _ _ (Nat.pow_pos hb)]
  have e : L.drop i = L[i] :: L.drop (i + 1) := List.drop_eq_getElem_cons h
  simp only [digs_len, Nat.sub_self]
  rw [e, List.set_cons_zero, List.append_assoc]
  rw [digs_mod hb (show (valD b (L.take i) + b ^ i * L[i]) % b ^ i = valD b (L.take i) % b ^ i from Nat.add_mul_mod_self_left ..)]
  rfl
theorem crO_le {b m : Nat} {L : List Nat} (hb : 2 ≤ b) (hL : ∀ d ∈ L, d ≤ m) : ∀ i, i ≤ L.length → crO b L i ≤ m
  | 0, _ => by rw [crO_zero]; omega
  | i + 1, h => by
    have ih := crO_le hb hL i (by omega)
    rw [← crO_next (by omega) (by omega : i < L.length)]
    have hd := hL L[i] (List.getElem_mem _)
    refine Nat.le_trans (Nat.div_le_div_left (c := 2) hb (by omega)) ?_
    omega
theorem crA_all (b : Nat) (L : List Nat) : crA b L L.length ++ [crO b L L.length] = digs b L.length (valD b L) ++ [valD b L / b ^ L.length] := by
  simp [crA, crO]

theorem u64s_get_of {l : List Nat} {i n : Nat} (h : l[i]? = some n) : (u64s l)[i]? = some (.v (.int .u64 n)) := by simp [u64s, h]

theorem digs_lay {T i q r d : Nat} (hq : q = i / 4) (hr : r = i % 4) (hi : i < 16) (hT : T < 65536 ^ i) (hd : d < 65536) :
    T / 18446744073709551616 ^ q % 18446744073709551616 + d * 2 ^ (16 * r) < 18446744073709551616 ∧
    (digs 18446744073709551616 4 T).set q (T / 18446744073709551616 ^ q % 18446744073709551616 + d * 2 ^ (16 * r)) = digs 18446744073709551616 4 (T + 65536 ^ i * d) := by
  have hr4 : r < 4 := by omega
  have hq4 : q < 4 := by omega
  have e16 : ∀ n, (65536 : Nat) ^ n = 2 ^ (16 * n) := fun n => by rw [Nat.pow_mul]
  have eW : ∀ n, (18446744073709551616 : Nat) ^ n = 2 ^ (64 * n) := fun n => by rw [Nat.pow_mul]
  have e1 : (65536 : Nat) ^ i = 18446744073709551616 ^ q * 2 ^ (16 * r) := by
    rw [e16, eW, ← Nat.pow_add]; congr 1; omega
  have hM : T / 18446744073709551616 ^ q < 2 ^ (16 * r) := Nat.div_lt_of_lt_mul (by rw [← e1]; exact hT)
  have hp : (2 : Nat) ^ (16 * r) = 1 ∨ (2 : Nat) ^ (16 * r) = 65536 ∨ (2 : Nat) ^ (16 * r) = 4294967296 ∨ (2 : Nat) ^ (16 * r) = 281474976710656 := by
    have : r = 0 ∨ r = 1 ∨ r = 2 ∨ r = 3 := by omega
    rcases this with rfl | rfl | rfl | rfl <;> simp
  have hlt : T / 18446744073709551616 ^ q % 18446744073709551616 + d * 2 ^ (16 * r) < 18446744073709551616 := by
    generalize T / 18446744073709551616 ^ q = M at hM
    rcases hp with h | h | h | h <;> rw [h] at hM ⊢ <;> omega
  refine ⟨hlt, ?_⟩
  have hl1 : q < (digs 18446744073709551616 4 T).length := by simpa using hq4
  have hTl : T < 18446744073709551616 ^ 4 := Nat.lt_of_lt_of_le hT (by rw [e16, eW]; exact Nat.pow_le_pow_right (by omega) (by omega))
  refine digs_of (by decide) (fun x hx => ?_) (by simp) ?_
  · rcases List.mem_or_eq_of_mem_set hx with h | h
    · exact digs_lt (by decide) x h
    · rw [h]; exact hlt
  · have e := valD_set (b := 18446744073709551616) hl1 (T / 18446744073709551616 ^ q % 18446744073709551616 + d * 2 ^ (16 * r))
    rw [digs_get hq4, valD_digs, Nat.mod_eq_of_lt hTl, Nat.mul_add] at e
    have e2 : 18446744073709551616 ^ q * (d * 2 ^ (16 * r)) = 65536 ^ i * d := by rw [e1]; grind
    rw [e2] at e
    omega

theorem valD_small {b : Nat} {L : List Nat} {n : Nat} (hb : 0 < b) (h : valD b L < b ^ n) : ∀ j, n ≤ j → (hj : j < L.length) → L[j] = 0 := by
  intro j hn hj
  have hi : L = L.take j ++ L[j] :: L.drop (j + 1) := by rw [List.getElem_cons_drop, List.take_append_drop]
  have h3 : valD b L = valD b (L.take j) + b ^ j * (L[j] + b * valD b (L.drop (j + 1))) := by
    conv => lhs; rw [hi, valD_append]
    simp [valD, Nat.min_eq_left (Nat.le_of_lt hj)]
  have h4 : b ^ n ≤ b ^ j := Nat.pow_le_pow_right hb hn
  rcases Nat.eq_zero_or_pos L[j] with h0 | h0
  · exact h0
  · have h5 : b ^ j * 1 ≤ b ^ j * (L[j] + b * valD b (L.drop (j + 1))) := Nat.mul_le_mul_left _ (by omega)
    omega
theorem valD_big {b : Nat} {L : List Nat} {j n : Nat} (hb : 0 < b) (hn : n ≤ j) (hj : j < L.length) (h : 0 < L[j]) : ¬ valD b L < b ^ n := fun hlt => by
  have := valD_small hb hlt j hn hj
  omega
theorem valD_zeros {b : Nat} {L : List Nat} {n : Nat} (h : ∀ j, n ≤ j → (hj : j < L.length) → L[j] = 0) : valD b L = valD b (L.take n) := by
  conv => lhs; rw [← List.take_append_drop n L, valD_append]
  have : valD b (L.drop n) = 0 := by
    have e : L.drop n = List.replicate (L.length - n) 0 := by
      apply List.ext_getElem
      · simp
      · intro i h1 h2
        simp at h1 h2 ⊢
        exact h (n + i) (by omega) (by omega)
    rw [e, valD_zero]
  rw [this]; simp

def addm (L M : List Nat) (i : Nat) : List Nat := (List.zipWith (· + ·) L M).take i ++ L.drop i
theorem addm_zero (L M : List Nat) : addm L M 0 = L := by simp [addm]
theorem addm_len {L M : List Nat} {i : Nat} (h : L.length = M.length) (hi : i ≤ L.length) : (addm L M i).length = L.length := by simp [addm]; omega
theorem addm_get {L M : List Nat} {i : Nat} (h : L.length = M.length) (hi : i < L.length) : (addm L M i)[i]? = some L[i] := by
  unfold addm
  rw [List.getElem?_append_right (by simp; omega)]
  have : i - (List.take i (List.zipWith (· + ·) L M)).length = 0 := by simp; omega
  rw [this]; simp [hi]
theorem addm_set {L M : List Nat} {i : Nat} (h : L.length = M.length) (hi : i < L.length) : (addm L M i).set i (L[i] + M[i]) = addm L M (i + 1) := by
  unfold addm
  have hl : (List.take i (List.zipWith (· + ·) L M)).length = i := by simp; omega
  rw [List.set_append_right _ _ (by omega), hl, Nat.sub_self]
  have e : L.drop i = L[i] :: L.drop (i + 1) := List.drop_eq_getElem_cons hi
  rw [e, List.set_cons_zero, take_snoc (by simp; omega)]
  simp
theorem addm_all {L M : List Nat} (h : L.length = M.length) : addm L M L.length = List.zipWith (· + ·) L M := by
  unfold addm
  rw [List.take_of_length_le (by simp; omega), List.drop_of_length_le (Nat.le_refl _), List.append_nil]
theorem valD_zip (b : Nat) : ∀ L M : List Nat, L.length = M.length → valD b (List.zipWith (· + ·) L M) = valD b L + valD b M
  | [], [], _ => rfl
  | x :: L, y :: M, h => by
    simp only [List.zipWith_cons_cons, valD, valD_zip b L M (by simpa using h), Nat.mul_add]
    omega
theorem zip_le {L M : List Nat} {m : Nat} (hL : ∀ d ∈ L, d < m) (hM : ∀ d ∈ M, d < m) : ∀ d ∈ List.zipWith (· + ·) L M, d ≤ 2 * m := by
  intro d hd
  obtain ⟨i, hi, rfl⟩ := List.getElem_of_mem hd
  simp at hi
  have h1 := hL L[i] (List.getElem_mem _)
  have h2 := hM M[i] (List.getElem_mem _)
  simp; omega

theorem zeros64 {P : Program} {e : TypeId} (h : ti P e = some ⟨false, 1, 8, .int .u64 0⟩) (n : Nat) : zerosA P e n = some (u64s (List.replicate n 0)) := by
  have hz : zeroA P e = some (.v (.int .u64 0)) := by simp [zeroA, h, ofValue, ofCell, plain]
  have hz1 : (Value.int .u64 0).oneCell' = true := rfl
  simp only [zerosA, h, hz, AV.cells]
  simp [AV.isCell]
  apply List.ext_getElem
  · simp [u64s]
  · intro i h1 h2
    simp [u64s, Nat.mod_one]

end Go.Vm

/-
  The document's numbers: digits of 16 bits.
-/
namespace Go.Proofs.Ytmponlabfccjaaa
set_option linter.unnecessarySimpa false
set_option maxRecDepth 100000
open Go Go.Vm
set_option linter.unusedSimpArgs false
set_option linter.unusedVariables false

theorem zc64 : zeroCell ⟨false, 1, 8, .int .u64 0⟩ = true := rfl

attribute [local simp] evalL wantedA isCall opA evalA evalAll evalsA evalOpt ofValue ofCell plain binA_eql_pn binA_neq_pn binA_gtr binA_lss binA_geq binA_leq binA_add binA_sub binA_eql binA_neq binA_orI binA_andI binA_shl binA_shr binA_mul binA_quo binA_rem binA_agg_eql binA_agg_neq convA_int unA_not fieldAddrA loadA partA pickA_true pickA_false pickA_bb lenA builtinA storeA splice readA rowAppA zc64 appendA roomA maxLen AV.cells AV.isCell sliceA boundA intA callOf indexAddrA newObjA buildA fillA zeroA ofCells buildSliceA indexA fieldA numA_len4 numA_take4 numA_drop4 set_appN get_appN take_appN List.getElem?_cons_zero List.getElem?_cons_succ

theorem digit16 {x i : Nat} : x / 18446744073709551616 ^ (i / 4) % 18446744073709551616 / 2 ^ (16 * (i % 4)) % 65536 = x / 65536 ^ i % 65536 := by
  have e : ∀ n, (65536 : Nat) ^ n = 2 ^ (16 * n) := fun n => by rw [Nat.pow_mul]
  have hW : ∀ n, (18446744073709551616 : Nat) ^ n = 2 ^ (64 * n) := fun n => by rw [Nat.pow_mul]
  rw [e, hW]
  have h1 : 16 * i = 64 * (i / 4) + 16 * (i % 4) := by omega
  rw [h1, Nat.pow_add, ← Nat.div_div_eq_div_mul]
  generalize x / 2 ^ (64 * (i / 4)) = y
  have h2 : i % 4 < 4 := Nat.mod_lt _ (by omega)
  obtain ⟨m, hm⟩ : ∃ m, m = i % 4 := ⟨_, rfl⟩
  rw [← hm] at h2 ⊢
  have : m = 0 ∨ m = 1 ∨ m = 2 ∨ m = 3 := by omega
  rcases this with rfl | rfl | rfl | rfl <;> simp <;> omega

set_option maxHeartbeats 1600000 in
attribute [local simp] undefA List.getElem?_cons_zero List.getElem?_cons_succ u64s_noObj in
theorem digits_ok {σ : St} {x : Nat} :
    CallsA Try.prog 93 [.agg (numA x)] σ (fun av σ' => av = .row σ.rows.length 16 0 1 16 ∧ σ' = { σ with rows := σ.rows ++ [⟨16, u64s (digs 65536 16 x), none⟩] }) := by
  refine callsA_gcO ?_ rfl
  have F := True.intro
  refine callsA_body Try.func93 rfl rfl rfl ?_; refine sr fun _ hJ2 => ?_; refine hJ2 _ _ ?_; refine sr fun _ hJ4 => ?_; refine hJ4 _ _ ?_; refine sq fun K5 hK5 => ?_; refine sq fun K6 hK6 => ?_; refine run_nilrow 3 1 (k := ?_); refine rg' (h := fun J7 hJ7 => ?_); refine hJ7 _ _ ?_; refine hK6 _ _ ?_; refine run_block_k ?_; refine run_loopF (X := Nat) [1, 2] (fun i ρ σ1 => (i ≤ 16) ∧ (ρ 3 = .row σ.rows.length i 0 1 i) ∧ (ρ 4 = .v (.int .i64 i)) ∧ (σ1 = { σ with objs := σ.objs ++ [numA x], rows := σ.rows ++ [⟨i, u64s (digs 65536 i x), none⟩] })) (fun i => 16 - i) (0) ?st1 ?rd1
  case st1 =>
   refine ⟨lp, lp, lp, ?_⟩
   · simp [digs, u64s]
  case rd1 =>
   rintro i ρ1 σ1 hF1 ⟨hi, h3, h4, hσ⟩; obtain rfl := hσ.symm
   have f1 := keepL hF1
   (try simp [KeepL, F] at f1); replace F := aF h3 F; replace F := aF h4 F; (try replace F := aF f1 F); refine sq fun K8 hK8 => ?_; refine sr fun _ hJ10 => ?_; refine hJ10 _ _ ?_; refine cs (fun c6 => ?_) (fun c6 => ?_)
   · (try exact nope c6); all_goals have c6p := c6; try simp [F] at c6p
     all_goals
      replace F := aF c6 F; (try replace F := aF c6p F); refine run_skip ?_; refine hK8 _ _ ?_; refine sq fun K11 hK11 => ?_; refine run_block_k ?_
      have hi16 : i < 16 := by simp at c6; omega
      obtain ⟨q, hq⟩ : ∃ q, q = i / 4 := ⟨_, rfl⟩
      obtain ⟨r, hr⟩ : ∃ r, r = i % 4 := ⟨_, rfl⟩
      have e1 : (i : Int) / 4 = (q : Int) := by omega
      have e2 : (i : Int) % 4 = (r : Int) := by omega
      have hq4 : q < 4 := by omega
      have hq4i : (q : Int) < 4 := by omega
      have e3 : (i : Int).tdiv 4 = (q : Int) := by rw [Int.tdiv_eq_ediv_of_nonneg (by omega)]; exact e1
      have e4 : (i : Int).tmod 4 = (r : Int) := by rw [Int.tmod_eq_emod_of_nonneg (by omega)]; exact e2
      obtain ⟨L, hL⟩ : ∃ L, L = x / 18446744073709551616 ^ q % 18446744073709551616 := ⟨_, rfl⟩
      have hgx : (numA x)[q]? = some (.v (.int .u64 L)) := by rw [hL, numA_digs]; exact digU_get hq4
      obtain ⟨_, hgx2⟩ := List.getElem?_eq_some_iff.1 hgx
      have hneg : ¬ (16 * (r : Int) < 0) := by omega
      have htn : (16 * (r : Int)).toNat = 16 * r := by omega
      have hmn : min (16 * r) 64 = 16 * r := by omega
      obtain ⟨V, hV⟩ : ∃ V, V = x / 65536 ^ i % 65536 := ⟨_, rfl⟩
      have hval : ((L : Int).fdiv (2 ^ (16 * r))).tmod 65536 = (V : Int) := by rw [pow2_cast, fdiv_nat, hV, ← digit16, ← hq, ← hr, ← hL, Int.tmod_eq_emod_of_nonneg (Int.natCast_nonneg _)]; rfl
      have hb1 : (i + 1) * 8 ≤ 140737488355328 := by omega
      have hb2 : i ≤ 9223372036854775806 := by omega
      have htk : List.take i (u64s (digs 65536 i x)) = u64s (digs 65536 i x) := List.take_of_length_le (by simp)
      have hsn : u64s (digs 65536 i x) ++ [.v (.int .u64 V)] = u64s (digs 65536 (i + 1) x) := by rw [u64s_snoc, hV, ← digs_snoc]
      replace F := aF hneg F; replace F := aF htn F; replace F := aF hmn F; replace F := aF hval F; replace F := aF hb1 F; replace F := aF hb2 F; replace F := aF htk F; replace F := aF hsn F; replace F := aF e1 F; replace F := aF e2 F; replace F := aF e3 F; replace F := aF e4 F; replace F := aF hq4 F; replace F := aF hq4i F; replace F := aF hgx F; replace F := aF hgx2 F; replace F := aF hi16 F; refine rg' (h := fun J12 hJ12 => ?_); refine hJ12 _ _ ?_; refine hK11 _ _ ?_; refine rg' (h := fun J13 hJ13 => ?_); refine hJ13 _ _ ?_; refine ⟨(i + 1), ⟨kp, lp, lp, lp, lp⟩, lp⟩
   (try exact nope c6); all_goals have c6p := c6; try simp [F] at c6p
   all_goals
    replace F := aF c6 F; try replace F := aF c6p F
    obtain rfl : i = 16 := by simp at c6; omega
    refine run_exit ?_; refine hK5 _ _ ?_; refine sr fun _ hJ15 => ?_; refine hJ15 _ _ ?_; refine ra ?_; exact gco

theorem digits_sl {σ : St} {x : Nat} :
    CallsA Try.prog 93 [.agg (numA x)] σ (fun av σ' => av = .sl 1 (u64s (digs 65536 16 x)) 16 .shut ∧ σ = σ') :=
  callsA_mono (callsA_freeze_ret (callsA_mono digits_ok (fun av σ' ⟨h1, h2⟩ => ⟨16, none, h1, h2⟩)) (by simp) (u64s_under _ _)) (fun av σ' ⟨h1, h2⟩ => ⟨h1, h2.symm⟩)

set_option maxHeartbeats 1600000 in
attribute [local simp] undefA List.getElem?_cons_zero List.getElem?_cons_succ in
theorem carry_ok {σ : St} {k g n : Nat} {L : List Nat} (hr : σ.rows[k]? = some ⟨g, u64s L, none⟩) (hn : L.length = n) (hn2 : n ≤ 1000) (hL : ∀ d ∈ L, d ≤ 4611686018427387904) :
    CallsA Try.prog 95 [.row k g 0 1 n] σ (fun av σ' => av = .row k (g + 1) 0 1 (n + 1) ∧ σ' = { σ with rows := σ.rows.set k ⟨g + 1, u64s (digs 65536 n (valD 65536 L) ++ [valD 65536 L / 65536 ^ n]), none⟩ }) := by
  subst hn
  have hs := fun x => set_self_of hr x
  have hss : ∀ x y : RowSt, (σ.rows.set k x).set k y = σ.rows.set k y := fun x y => List.set_set _
  have F := And.intro hs (And.intro hss (True.intro))
  refine callsA_body Try.func95 rfl rfl rfl ?_; refine sr fun _ hJ2 => ?_; refine hJ2 _ _ ?_; refine sr fun _ hJ4 => ?_; refine hJ4 _ _ ?_; refine sq fun K5 hK5 => ?_; refine sr fun _ hJ7 => ?_; refine hJ7 _ _ ?_; refine run_block_k ?_; refine run_loopF (X := Nat) [0, 2] (fun i ρ σ1 => (i ≤ L.length) ∧ (ρ 3 = .v (.int .u64 (crO 65536 L i : Nat))) ∧ (ρ 4 = .v (.int .i64 i)) ∧ (σ1 = { σ with rows := σ.rows.set k ⟨g, u64s (crA 65536 L i), none⟩ })) (fun i => L.length - i) (0) ?st1 ?rd1
  case st1 =>
   refine ⟨lp, ?_, lp, ?_⟩
   · simp [crO_zero]
   · rw [crA_zero, Ytmponlabfccjaaa.set_same hr]
  case rd1 =>
   rintro i ρ1 σ1 hF1 ⟨hi, h3, h4, hσ⟩; obtain rfl := hσ.symm
   have f1 := keepL hF1
   (try simp [KeepL, F] at f1); replace F := aF h3 F; replace F := aF h4 F; (try replace F := aF f1 F); refine sq fun K8 hK8 => ?_; refine sr fun _ hJ10 => ?_; refine hJ10 _ _ ?_; refine cs (fun c8 => ?_) (fun c8 => ?_)
   · (try exact nope c8); all_goals have c8p := c8; try simp [F] at c8p
     all_goals
      replace F := aF c8 F; (try replace F := aF c8p F); refine run_skip ?_; refine hK8 _ _ ?_; refine sq fun K11 hK11 => ?_; refine run_block_k ?_; refine sq fun K12 hK12 => ?_
      have hlt : i < L.length := by simp at c8; omega
      obtain ⟨d, hd⟩ : ∃ d, d = L[i] := ⟨_, rfl⟩
      have hgx : (u64s (crA 65536 L i))[i]? = some (.v (.int .u64 d)) := by rw [hd]; exact u64s_get_of (crA_get hlt)
      obtain ⟨_, hgx2⟩ := List.getElem?_eq_some_iff.1 hgx
      have hcl := crA_len (b := 65536) hi
      have hdl : d ≤ 4611686018427387904 := by rw [hd]; exact hL _ (List.getElem_mem _)
      have hcO := crO_le (b := 65536) (by omega) hL i hi
      obtain ⟨c, hc⟩ : ∃ c, c = crO 65536 L i := ⟨_, rfl⟩
      rw [← hc] at h3 F hcO
      have hsum : IntKind.u64.wrap ((c : Int) + d) = ((c + d : Nat) : Int) := by rw [wrap_u64c (by omega)]; push_cast; rfl
      obtain ⟨s, hsd⟩ : ∃ s, s = c + d := ⟨_, rfl⟩
      rw [← hsd] at hsum
      have hs6 : (s : Int).tmod 65536 = ((s % 65536 : Nat) : Int) := by rw [Int.tmod_eq_emod_of_nonneg (by omega)]; rfl
      obtain ⟨m, hm⟩ : ∃ m, m = s % 65536 := ⟨_, rfl⟩
      obtain ⟨v, hv⟩ : ∃ v, v = s / 65536 := ⟨_, rfl⟩
      rw [← hm] at hs6
      have hs7 : (s : Int).tdiv 65536 = (v : Int) := by rw [Int.tdiv_eq_ediv_of_nonneg (by omega), hv]; rfl
      have hs8 : (s : Int) / 65536 = (v : Int) := by omega
      have hs9 : (s : Int) % 65536 = (m : Int) := by omega
      have hlti : (i : Int) < L.length := by omega
      have hset := u64s_set (crA 65536 L i) i m (by rw [hcl]; exact hlt)
      have hcs : (crA 65536 L i).set i m = crA 65536 L (i + 1) := by rw [hm, hsd, hc, hd]; exact crA_set (by omega) hlt
      rw [hcs] at hset
      have hvn : v = crO 65536 L (i + 1) := by rw [hv, hsd, hc, hd]; exact crO_next (by omega) hlt
      replace F := aF hgx F; replace F := aF hgx2 F; replace F := aF hcl F; replace F := aF hlt F; replace F := aF hlti F; replace F := aF hsum F; replace F := aF hs6 F; replace F := aF hs7 F; replace F := aF hs8 F; replace F := aF hs9 F; refine rg' (h := fun J13 hJ13 => ?_); refine hJ13 _ _ ?_; refine hK12 _ _ ?_; refine sr fun _ hJ15 => ?_; refine hJ15 _ _ ?_; refine rg' (h := fun J16 hJ16 => ?_); refine hJ16 _ _ ?_; refine hK11 _ _ ?_; refine rg' (h := fun J17 hJ17 => ?_); refine hJ17 _ _ ?_; refine ⟨(i + 1), ⟨kp, lp, ?_, lp, ?_⟩, lp⟩
      · simp [F, hvn]
      · simp [F, hset]
   (try exact nope c8); all_goals have c8p := c8; try simp [F] at c8p
   all_goals
    replace F := aF c8 F; try replace F := aF c8p F
    obtain rfl : i = L.length := by simp at c8; omega
    have hb1 : (L.length + 1) * 8 ≤ 140737488355328 := by omega
    have hb2 : L.length ≤ 9223372036854775806 := by omega
    have hcl := crA_len (b := 65536) (Nat.le_refl L.length)
    have htk : List.take L.length (u64s (crA 65536 L L.length)) = u64s (crA 65536 L L.length) := List.take_of_length_le (by simp [hcl])
    have hall : u64s (crA 65536 L L.length) ++ [.v (.int .u64 (crO 65536 L L.length : Nat))] = u64s (digs 65536 L.length (valD 65536 L) ++ [valD 65536 L / 65536 ^ L.length]) := by rw [u64s_snoc, crA_all]
    replace F := aF hb1 (And.intro hb2 (And.intro hcl (And.intro htk (And.intro hall F)))); refine run_exit ?_; refine hK5 _ _ ?_; refine sr fun _ hJ19 => ?_; refine hJ19 _ _ ?_; refine ra ?_; exact rt

end Go.Proofs.Ytmponlabfccjaaa

/-
  The document's numbers: what digits are; sums.
-/
namespace Go.Proofs.Ytmponlabfccjaaa
set_option linter.unnecessarySimpa false
set_option maxRecDepth 100000
open Go Go.Vm
set_option linter.unusedSimpArgs false
set_option linter.unusedVariables false
attribute [local simp] evalL wantedA isCall opA evalA evalAll evalsA evalOpt ofValue ofCell plain binA_eql_pn binA_neq_pn binA_gtr binA_lss binA_geq binA_leq binA_add binA_sub binA_eql binA_neq binA_orI binA_andI binA_shl binA_shr binA_mul binA_quo binA_rem binA_agg_eql binA_agg_neq convA_int unA_not fieldAddrA loadA partA pickA_true pickA_false pickA_bb lenA builtinA storeA splice readA rowAppA zc64 appendA roomA maxLen AV.cells AV.isCell sliceA boundA intA callOf indexAddrA newObjA buildA fillA zeroA ofCells buildSliceA indexA fieldA numA_len4 numA_take4 numA_drop4 set_appN get_appN take_appN List.getElem?_cons_zero List.getElem?_cons_succ

set_option maxHeartbeats 1600000 in
attribute [local simp] undefA List.getElem?_cons_zero List.getElem?_cons_succ numA_zero4 in
theorem rof_ok {σ : St} {L : List Nat} {n : Nat} {tl : Tail} (hn : L.length = n) (h16 : 16 ≤ n) (hl : n ≤ 1000) (hL : ∀ d ∈ L.take 16, d < 65536) :
    CallsA Try.prog 94 [.sl 1 (u64s L) n tl] σ (fun av σ' => av = .tup [.agg (numA (if valD 65536 L < 2 ^ 256 then valD 65536 L else 0)), .v (.bool (decide (valD 65536 L < 2 ^ 256)))] ∧ σ = σ') := by
  refine callsA_gcS ?_ (by simp [AV.under, underL, numA])
  have e256 : (65536 : Nat) ^ 16 = 2 ^ 256 := by rw [show (65536 : Nat) = 2 ^ 16 from rfl, ← Nat.pow_mul]
  subst hn
  have F := True.intro
  refine callsA_body Try.func94 rfl rfl rfl ?_; refine sr fun _ hJ2 => ?_; refine hJ2 _ _ ?_; refine sr fun _ hJ4 => ?_; refine hJ4 _ _ ?_; refine sq fun K5 hK5 => ?_; refine sr fun _ hJ7 => ?_; refine hJ7 _ _ ?_; refine run_block_k ?_; refine run_loopF (X := Nat) [0, 2, 4] (fun i ρ σ1 => (i ≤ L.length) ∧ (∀ j, 16 ≤ j → j < i → L[j]? = some 0) ∧ (ρ 5 = .v (.int .i64 i)) ∧ (σ1 = { σ with objs := σ.objs ++ [numA 0, numA (valD 65536 (L.take (min i 16)))] })) (fun i => L.length - i) (0) ?st1 ?rd1
  case st1 =>
   refine ⟨lp, ?_, lp, ?_⟩
   · intro j h1 h2
     omega
   · simp [numA_zero4]
  case rd1 =>
   rintro i ρ1 σ1 hF1 ⟨hi, hz, h5, hσ⟩; obtain rfl := hσ.symm
   have f1 := keepL hF1
   (try simp [KeepL, F] at f1); replace F := aF h5 F; (try replace F := aF f1 F); refine sq fun K8 hK8 => ?_; refine sr fun _ hJ10 => ?_; refine hJ10 _ _ ?_; refine cs (fun c9 => ?_) (fun c9 => ?_)
   · (try exact nope c9); all_goals have c9p := c9; try simp [F] at c9p
     all_goals
      replace F := aF c9 F; (try replace F := aF c9p F); refine run_skip ?_; refine hK8 _ _ ?_; refine sq fun K11 hK11 => ?_; refine run_block_k ?_; refine sq fun K12 hK12 => ?_; refine sq fun K13 hK13 => ?_
      have hlt : i < L.length := by simp at c9; omega
      obtain ⟨d, hd⟩ : ∃ d, d = L[i] := ⟨_, rfl⟩
      have hgd : L[i]? = some d := by rw [hd]; exact List.getElem?_eq_getElem hlt
      have hgx : (u64s L)[i]? = some (.v (.int .u64 d)) := u64s_get_of hgd
      obtain ⟨_, hgx2⟩ := List.getElem?_eq_some_iff.1 hgx
      have hlti : (i : Int) < L.length := by omega
      have hdr : List.drop i (u64s L) = .v (.int .u64 d) :: List.drop (i + 1) (u64s L) := by rw [List.drop_eq_getElem_cons (by simpa using hlt), hgx2]
      replace F := aF hgx F; replace F := aF hgx2 F; replace F := aF hlt F; replace F := aF hlti F; replace F := aF hdr F; refine rg' (h := fun J14 hJ14 => ?_); refine gs 14 (fun g5_2 => ?_) (fun g5_2 => ?_)
      · (try exact nope g5_2); all_goals have g5_2p := g5_2; try simp [F] at g5_2p
        all_goals
         replace F := aF g5_2 F; (try replace F := aF g5_2p F); (iterate 5 refine go2 (k := ?_)); refine hJ14 _ _ ?_; refine hK13 _ _ ?_; refine cs (fun c20 => ?_) (fun c20 => ?_)
         · (try exact nope c20); all_goals have c20p := c20; try simp [F] at c20p
           all_goals
            replace F := aF c20 F; try replace F := aF c20p F
            have hbig : ¬ valD 65536 L < 2 ^ 256 := by rw [← e256]; exact valD_big (by omega) (by have h := g5_2; simp at h; omega) hlt (by rw [← hd]; have h := c20; simp at h; omega)
            replace F := aF hbig (And.intro (if_neg hbig : (if valD 65536 L < 2 ^ 256 then valD 65536 L else 0) = 0) F); refine sr fun _ hJ16 => ?_; refine hJ16 _ _ ?_; refine run_ret ?_; (try simp only [Then, InBlock, NoGoto]); refine acell2 (h := ?_); exact gcr
         (try exact nope c20); all_goals have c20p := c20; try simp [F] at c20p
         all_goals
          replace F := aF c20 F; (try replace F := aF c20p F); refine run_skip ?_; refine hK12 _ _ ?_; refine sr fun _ hJ18 => ?_; refine hJ18 _ _ ?_; refine cs (fun c23 => ?_) (fun c23 => ?_)
          · (try exact nope c23); all_goals have c23p := c23; try simp [F] at c23p
            all_goals
             replace F := aF c23 F; try replace F := aF c23p F
             have hi16 : i < 16 := by have h := c23; simp at h; omega
             have hm1 : min i 16 = i := by omega
             have hm2 : min (i + 1) 16 = i + 1 := by omega
             obtain ⟨T, hT⟩ : ∃ T, T = valD 65536 (L.take i) := ⟨_, rfl⟩
             have hTl : T < 65536 ^ i := by rw [hT]; have := valD_lt (b := 65536) (l := L.take i) (fun x hx => hL x (by rw [List.mem_take_iff_getElem] at hx ⊢; obtain ⟨k, hk, e⟩ := hx; exact ⟨k, by omega, e⟩)); rwa [List.length_take, Nat.min_eq_left (by omega)] at this
             have hdl : d < 65536 := hL d (by rw [hd, List.mem_take_iff_getElem]; exact ⟨i, by omega, rfl⟩)
             rw [hm1, ← hT]
             obtain ⟨q, hq⟩ : ∃ q, q = i / 4 := ⟨_, rfl⟩
             obtain ⟨r, hr⟩ : ∃ r, r = i % 4 := ⟨_, rfl⟩
             have e1 : (i : Int) / 4 = (q : Int) := by omega
             have e2 : (i : Int) % 4 = (r : Int) := by omega
             have hq4 : q < 4 := by omega
             have hq4i : (q : Int) < 4 := by omega
             have e3 : (i : Int).tdiv 4 = (q : Int) := by rw [Int.tdiv_eq_ediv_of_nonneg (by omega)]; exact e1
             have e4 : (i : Int).tmod 4 = (r : Int) := by rw [Int.tmod_eq_emod_of_nonneg (by omega)]; exact e2
             have hneg : ¬ (16 * (r : Int) < 0) := by omega
             have htn : (16 * (r : Int)).toNat = 16 * r := by omega
             have hmn : min (16 * r) 64 = 16 * r := by omega
             obtain ⟨hy1, hy2⟩ := digs_lay hq hr hi16 hTl hdl
             obtain ⟨M, hM⟩ : ∃ M, M = T / 18446744073709551616 ^ q % 18446744073709551616 := ⟨_, rfl⟩
             rw [← hM] at hy1 hy2
             have hgM : (numA T)[q]? = some (.v (.int .u64 M)) := by rw [hM, numA_digs]; exact digU_get hq4
             obtain ⟨_, hgM2⟩ := List.getElem?_eq_some_iff.1 hgM
             obtain ⟨S, hS⟩ : ∃ S, S = d * 2 ^ (16 * r) := ⟨_, rfl⟩
             rw [← hS] at hy1 hy2
             have hsh : IntKind.u64.wrap ((d : Int) * 2 ^ (16 * r)) = (S : Int) := by rw [pow2_cast, show (d : Int) * ((2 ^ (16 * r) : Nat) : Int) = ((d * 2 ^ (16 * r) : Nat) : Int) by push_cast; rfl, ← hS]; exact wrapN (by omega)
             obtain ⟨A, hA⟩ : ∃ A, A = M + S := ⟨_, rfl⟩
             rw [← hA] at hy1 hy2
             have had : IntKind.u64.wrap ((M : Int) + S) = (A : Int) := by rw [show (M : Int) + S = (A : Int) by omega]; exact wrapN hy1
             have hset := u64s_set (digs 18446744073709551616 4 T) q A (by simpa using hq4)
             rw [hy2, ← numA_digs, ← numA_digs] at hset
             have hnx : valD 65536 (L.take (i + 1)) = T + 65536 ^ i * d := by rw [valD_take_succ hlt, ← hT, hd]
             replace F := aF hm2 F; replace F := aF e1 F; replace F := aF e2 F; replace F := aF e3 F; replace F := aF e4 F; replace F := aF hneg F; replace F := aF htn F; replace F := aF hmn F; replace F := aF hq4 F; replace F := aF hq4i F; replace F := aF hgM F; replace F := aF hgM2 F; replace F := aF hsh F; replace F := aF had F
             refine run_draw (by kernel_rfl) fun J19 hJ19 => ?_
             refine rp2 0 (k := ?_); refine rp2 1 (k := ?_); refine rp2 2 (k := ?_); refine rp2 3 (k := ?_); refine rp2 4 (k := ?_); refine rp2 5 (k := ?_); refine rp2 6 (k := ?_); refine rp2 7 (k := ?_); refine rp2 8 (k := ?_); refine rp2 9 (k := ?_); refine rp2 10 (k := ?_); refine rp2 11 (k := ?_); refine rp2 12 (k := ?_); refine rp2 13 (k := ?_); refine dop 14 rfl ?_; (repeat (first | simp [F] | simp (disch := omega) only [wC, if_pos, if_neg])); refine ⟨ln, ?_⟩; refine dd ?_; refine hJ19 _ _ ?_; refine hK11 _ _ ?_; refine rg' (h := fun J20 hJ20 => ?_); refine hJ20 _ _ ?_; refine ⟨(i + 1), ⟨kp, lp, ?_, lp, ?_⟩, lp⟩
             · intro j h1 h2
               by_cases hj : j = i
               · subst hj; first | omega | (rw [hgd, hd0])
               · exact hz j h1 (by omega)
             · simp [F]
               rw [hnx]
               exact hset
          (try exact nope c23); all_goals have c23p := c23; try simp [F] at c23p
          all_goals
           replace F := aF c23 F; try replace F := aF c23p F
           have hd0 : d = 0 := by have h := c20; simp at h; omega
           have hi16 : 16 ≤ i := by have h := c23; simp at h; omega
           have hm1 : min i 16 = 16 := by omega
           have hm2 : min (i + 1) 16 = 16 := by omega
           replace F := aF hm1 (And.intro hm2 F); refine run_skip ?_; refine hK11 _ _ ?_; refine rg' (h := fun J21 hJ21 => ?_); refine hJ21 _ _ ?_; refine ⟨(i + 1), ⟨kp, lp, ?_, lp, lp⟩, lp⟩
           · intro j h1 h2
             by_cases hj : j = i
             · subst hj; first | omega | (rw [hgd, hd0])
             · exact hz j h1 (by omega)
      (try exact nope g5_2); all_goals have g5_2p := g5_2; try simp [F] at g5_2p
      all_goals
       replace F := aF g5_2 F; (try replace F := aF g5_2p F); (iterate 5 refine no2 (k := ?_)); refine hJ14 _ _ ?_; refine hK13 _ _ ?_; refine cf ?_; refine run_skip ?_; refine hK12 _ _ ?_; refine sr fun _ hJ23 => ?_; refine hJ23 _ _ ?_; refine cs (fun c23 => ?_) (fun c23 => ?_)
       · (try exact nope c23); all_goals have c23p := c23; try simp [F] at c23p
         all_goals
          replace F := aF c23 F; try replace F := aF c23p F
          have hi16 : i < 16 := by have h := c23; simp at h; omega
          have hm1 : min i 16 = i := by omega
          have hm2 : min (i + 1) 16 = i + 1 := by omega
          obtain ⟨T, hT⟩ : ∃ T, T = valD 65536 (L.take i) := ⟨_, rfl⟩
          have hTl : T < 65536 ^ i := by rw [hT]; have := valD_lt (b := 65536) (l := L.take i) (fun x hx => hL x (by rw [List.mem_take_iff_getElem] at hx ⊢; obtain ⟨k, hk, e⟩ := hx; exact ⟨k, by omega, e⟩)); rwa [List.length_take, Nat.min_eq_left (by omega)] at this
          have hdl : d < 65536 := hL d (by rw [hd, List.mem_take_iff_getElem]; exact ⟨i, by omega, rfl⟩)
          rw [hm1, ← hT]
          obtain ⟨q, hq⟩ : ∃ q, q = i / 4 := ⟨_, rfl⟩
          obtain ⟨r, hr⟩ : ∃ r, r = i % 4 := ⟨_, rfl⟩
          have e1 : (i : Int) / 4 = (q : Int) := by omega
          have e2 : (i : Int) % 4 = (r : Int) := by omega
          have hq4 : q < 4 := by omega
          have hq4i : (q : Int) < 4 := by omega
          have e3 : (i : Int).tdiv 4 = (q : Int) := by rw [Int.tdiv_eq_ediv_of_nonneg (by omega)]; exact e1
          have e4 : (i : Int).tmod 4 = (r : Int) := by rw [Int.tmod_eq_emod_of_nonneg (by omega)]; exact e2
          have hneg : ¬ (16 * (r : Int) < 0) := by omega
          have htn : (16 * (r : Int)).toNat = 16 * r := by omega
          have hmn : min (16 * r) 64 = 16 * r := by omega
          obtain ⟨hy1, hy2⟩ := digs_lay hq hr hi16 hTl hdl
          obtain ⟨M, hM⟩ : ∃ M, M = T / 18446744073709551616 ^ q % 18446744073709551616 := ⟨_, rfl⟩
          rw [← hM] at hy1 hy2
          have hgM : (numA T)[q]? = some (.v (.int .u64 M)) := by rw [hM, numA_digs]; exact digU_get hq4
          obtain ⟨_, hgM2⟩ := List.getElem?_eq_some_iff.1 hgM
          obtain ⟨S, hS⟩ : ∃ S, S = d * 2 ^ (16 * r) := ⟨_, rfl⟩
          rw [← hS] at hy1 hy2
          have hsh : IntKind.u64.wrap ((d : Int) * 2 ^ (16 * r)) = (S : Int) := by rw [pow2_cast, show (d : Int) * ((2 ^ (16 * r) : Nat) : Int) = ((d * 2 ^ (16 * r) : Nat) : Int) by push_cast; rfl, ← hS]; exact wrapN (by omega)
          obtain ⟨A, hA⟩ : ∃ A, A = M + S := ⟨_, rfl⟩
          rw [← hA] at hy1 hy2
          have had : IntKind.u64.wrap ((M : Int) + S) = (A : Int) := by rw [show (M : Int) + S = (A : Int) by omega]; exact wrapN hy1
          have hset := u64s_set (digs 18446744073709551616 4 T) q A (by simpa using hq4)
          rw [hy2, ← numA_digs, ← numA_digs] at hset
          have hnx : valD 65536 (L.take (i + 1)) = T + 65536 ^ i * d := by rw [valD_take_succ hlt, ← hT, hd]
          replace F := aF hm2 F; replace F := aF e1 F; replace F := aF e2 F; replace F := aF e3 F; replace F := aF e4 F; replace F := aF hneg F; replace F := aF htn F; replace F := aF hmn F; replace F := aF hq4 F; replace F := aF hq4i F; replace F := aF hgM F; replace F := aF hgM2 F; replace F := aF hsh F; replace F := aF had F
          refine run_draw (by kernel_rfl) fun J24 hJ24 => ?_
          refine rp2 0 (k := ?_); refine rp2 1 (k := ?_); refine rp2 2 (k := ?_); refine rp2 3 (k := ?_); refine rp2 4 (k := ?_); refine rp2 5 (k := ?_); refine rp2 6 (k := ?_); refine rp2 7 (k := ?_); refine rp2 8 (k := ?_); refine rp2 9 (k := ?_); refine rp2 10 (k := ?_); refine rp2 11 (k := ?_); refine rp2 12 (k := ?_); refine rp2 13 (k := ?_); refine dop 14 rfl ?_; (repeat (first | simp [F] | simp (disch := omega) only [wC, if_pos, if_neg])); refine ⟨ln, ?_⟩; refine dd ?_; refine hJ24 _ _ ?_; refine hK11 _ _ ?_; refine rg' (h := fun J25 hJ25 => ?_); refine hJ25 _ _ ?_; refine ⟨(i + 1), ⟨kp, lp, ?_, lp, ?_⟩, lp⟩
          · intro j h1 h2
            by_cases hj : j = i
            · subst hj; first | omega | (rw [hgd, hd0])
            · exact hz j h1 (by omega)
          · simp [F]
            rw [hnx]
            exact hset
       (try exact nope c23); all_goals have c23p := c23; try simp [F] at c23p
       all_goals
        replace F := aF c23 F; try replace F := aF c23p F
        have hd0 : d = 0 := by have h := c20; simp at h; omega
        have hi16 : 16 ≤ i := by have h := c23; simp at h; omega
        have hm1 : min i 16 = 16 := by omega
        have hm2 : min (i + 1) 16 = 16 := by omega
        replace F := aF hm1 (And.intro hm2 F); refine run_skip ?_; refine hK11 _ _ ?_; refine rg' (h := fun J26 hJ26 => ?_); refine hJ26 _ _ ?_; refine ⟨(i + 1), ⟨kp, lp, ?_, lp, lp⟩, lp⟩
        · intro j h1 h2
          by_cases hj : j = i
          · subst hj; first | omega | (rw [hgd, hd0])
          · exact hz j h1 (by omega)
   (try exact nope c9); all_goals have c9p := c9; try simp [F] at c9p
   all_goals
    replace F := aF c9 F; try replace F := aF c9p F
    obtain rfl : i = L.length := by simp at c9; omega
    have hm1 : min L.length 16 = 16 := by omega
    have hv : valD 65536 L = valD 65536 (L.take 16) := valD_zeros (fun j h1 h2 => by have := hz j h1 h2; rw [List.getElem?_eq_getElem h2] at this; simpa using this)
    have hfit : valD 65536 L < 2 ^ 256 := by rw [hv, ← e256]; have := valD_lt (b := 65536) (l := L.take 16) hL; rwa [List.length_take, Nat.min_eq_left h16] at this
    rw [hm1, ← hv]
    replace F := aF hfit (And.intro hm1 F); refine run_exit ?_; refine hK5 _ _ ?_; refine sr fun _ hJ28 => ?_; refine hJ28 _ _ ?_; refine run_ret ?_; (try simp only [Then, InBlock, NoGoto]); refine acell2 (h := ?_); exact gcr

theorem cmpI_less {b n x y i : Nat} (hb : 0 < b) (hx : x < b ^ n) (hy : y < b ^ n) (hi : i < n) (h : ∀ j, i < j → j < n → x / b ^ j % b = y / b ^ j % b) (hl : x / b ^ i % b < y / b ^ i % b) : cmpI x y = -1 := if_pos (cmp_lt hb hx hy hi h hl)
theorem cmpI_more {b n x y i : Nat} (hb : 0 < b) (hx : x < b ^ n) (hy : y < b ^ n) (hi : i < n) (h : ∀ j, i < j → j < n → x / b ^ j % b = y / b ^ j % b) (hl : y / b ^ i % b < x / b ^ i % b) : cmpI x y = 1 := by
  have := cmp_lt hb hy hx hi (fun j h1 h2 => (h j h1 h2).symm) hl
  unfold cmpI; rw [if_neg (by omega), if_pos this]
theorem cmpI_self (x : Nat) : cmpI x x = 0 := by simp [cmpI]

set_option maxHeartbeats 1600000 in
attribute [local simp] undefA List.getElem?_cons_zero List.getElem?_cons_succ in
theorem rcmp_ok {σ : St} {x y : Nat} (hx : x < 2 ^ 256) (hy : y < 2 ^ 256) :
    CallsA Try.prog 110 [.agg (numA x), .agg (numA y)] σ (fun av σ' => av = .v (.int .i64 (cmpI x y)) ∧ σ = σ') := by
  refine callsA_gcS ?_ rfl
  have e256 : (65536 : Nat) ^ 16 = 2 ^ 256 := by rw [show (65536 : Nat) = 2 ^ 16 from rfl, ← Nat.pow_mul]
  have hx4 : x < 65536 ^ 16 := by rw [e256]; exact hx
  have hy4 : y < 65536 ^ 16 := by rw [e256]; exact hy
  have F := True.intro
  refine callsA_body Try.func110 rfl rfl rfl ?_; refine sr fun _ hJ2 => ?_; refine hJ2 _ _ ?_; refine sq fun K3 hK3 => ?_
  refine run_draw (by kernel_rfl) fun J4 hJ4 => ?_
  refine rp2 0 (k := ?_); refine rp2 2 (k := ?_); refine dc 1 rfl (c := digits_sl) (k := ?_); rintro _ _ ⟨rfl, rfl⟩
  refine ⟨by first | exact fun _ _ h => h | (refine later_list [2] (by kernel_rfl) (List.forall_mem_cons.2 ⟨fun _ => fact2 rfl rfl ?_, fun _ h => absurd h List.not_mem_nil⟩) <;> constructor <;> first | rfl | (simp [F]; done)), ?_⟩
  (repeat (first | simp [F] | simp (disch := omega) only [wC, if_pos, if_neg])); refine dc 3 rfl (c := digits_sl) (k := ?_); rintro _ _ ⟨rfl, rfl⟩; refine ⟨ln, ?_⟩; (repeat (first | simp [F] | simp (disch := omega) only [wC, if_pos, if_neg])); refine rp2 4 (k := ?_); refine rp2 5 (k := ?_); refine dd ?_; refine hJ4 _ _ ?_; refine hK3 _ _ ?_; refine sq fun K5 hK5 => ?_; refine sr fun _ hJ7 => ?_; refine hJ7 _ _ ?_; refine run_block_k ?_; refine run_loopF (X := Nat) [5, 6] (fun n ρ σ1 => (n ≤ 16) ∧ (∀ j, n ≤ j → j < 16 → x / 65536 ^ j % 65536 = y / 65536 ^ j % 65536) ∧ (ρ 7 = .v (.int .i64 ((n : Int) - 1))) ∧ (σ1 = { σ with objs := σ.objs ++ [numA x, numA y] })) (fun n => n) (16) ?st1 ?rd1
  case st1 =>
   refine ⟨lp, ?_, lp, lp⟩
   · intro j h1 h2
     omega
  case rd1 =>
   rintro n ρ1 σ1 hF1 ⟨hn, hE, h7, hσ⟩; obtain rfl := hσ.symm
   have f1 := keepL hF1
   (try simp [KeepL, F] at f1); replace F := aF h7 F; (try replace F := aF f1 F); refine sq fun K8 hK8 => ?_; refine sr fun _ hJ10 => ?_; refine hJ10 _ _ ?_; refine cs (fun c13 => ?_) (fun c13 => ?_)
   · (try exact nope c13); all_goals have c13p := c13; try simp [F] at c13p
     all_goals
      replace F := aF c13 F; (try replace F := aF c13p F); refine run_skip ?_; refine hK8 _ _ ?_; refine sq fun K11 hK11 => ?_; refine run_block_k ?_; refine sq fun K12 hK12 => ?_; refine sq fun K13 hK13 => ?_
      obtain ⟨i, rfl⟩ : ∃ i, n = i + 1 := ⟨n - 1, by simp at c13; omega⟩
      have hi : ((i + 1 : Nat) : Int) - 1 = (i : Int) := by omega
      rw [hi] at h7 F
      have hi16 : i < 16 := by omega
      have hgx := digU_get (b := 65536) (x := x) hi16
      have hgy := digU_get (b := 65536) (x := y) hi16
      have hii : (i : Int) < 16 := by omega
      obtain ⟨X, hX⟩ : ∃ X, X = x / 65536 ^ i % 65536 := ⟨_, rfl⟩
      obtain ⟨Y, hY⟩ : ∃ Y, Y = y / 65536 ^ i % 65536 := ⟨_, rfl⟩
      rw [← hX] at hgx
      rw [← hY] at hgy
      obtain ⟨_, hgx2⟩ := List.getElem?_eq_some_iff.1 hgx
      obtain ⟨_, hgy2⟩ := List.getElem?_eq_some_iff.1 hgy
      have hdx : List.drop i (u64s (digs 65536 16 x)) = .v (.int .u64 X) :: List.drop (i + 1) (u64s (digs 65536 16 x)) := by rw [List.drop_eq_getElem_cons (by simpa using hi16), hgx2]
      have hdy : List.drop i (u64s (digs 65536 16 y)) = .v (.int .u64 Y) :: List.drop (i + 1) (u64s (digs 65536 16 y)) := by rw [List.drop_eq_getElem_cons (by simpa using hi16), hgy2]
      replace F := aF hgx F; replace F := aF hgy F; replace F := aF hgx2 F; replace F := aF hgy2 F; replace F := aF hdx F; replace F := aF hdy F; replace F := aF hi16 F; replace F := aF hii F
      refine run_draw (by kernel_rfl) fun J14 hJ14 => ?_
      refine rp2 0 (k := ?_); refine rp2 1 (k := ?_); refine rp2 2 (k := ?_); refine rp2 3 (k := ?_); refine rp2 4 (k := ?_); refine rp2 5 (k := ?_); refine rp2 6 (k := ?_); refine rp2 7 (k := ?_); refine rp2 8 (k := ?_); refine dd ?_; refine hJ14 _ _ ?_; refine hK13 _ _ ?_; refine cs (fun c24 => ?_) (fun c24 => ?_)
      · (try exact nope c24); all_goals have c24p := c24; try simp [F] at c24p
        all_goals
         replace F := aF c24 F; try replace F := aF c24p F
         have hcI := cmpI_less (b := 65536) (n := 16) (by omega) hx4 hy4 hi16 (fun j h1 h2 => hE j h1 h2) (by rw [← hX, ← hY]; have h := c24; simp at h; exact h)
         replace F := aF hcI F; refine sr fun _ hJ16 => ?_; refine hJ16 _ _ ?_; refine ra ?_; exact gcr
      (try exact nope c24); all_goals have c24p := c24; try simp [F] at c24p
      all_goals
       replace F := aF c24 F; (try replace F := aF c24p F); refine run_skip ?_; refine hK12 _ _ ?_; refine sq fun K17 hK17 => ?_
       refine run_draw (by kernel_rfl) fun J18 hJ18 => ?_
       refine rp2 0 (k := ?_); refine rp2 1 (k := ?_); refine rp2 2 (k := ?_); refine rp2 3 (k := ?_); refine rp2 4 (k := ?_); refine rp2 5 (k := ?_); refine rp2 6 (k := ?_); refine rp2 7 (k := ?_); refine rp2 8 (k := ?_); refine dd ?_; refine hJ18 _ _ ?_; refine hK17 _ _ ?_; refine cs (fun c33 => ?_) (fun c33 => ?_)
       · (try exact nope c33); all_goals have c33p := c33; try simp [F] at c33p
         all_goals
          replace F := aF c33 F; try replace F := aF c33p F
          have hcI := cmpI_more (b := 65536) (n := 16) (by omega) hx4 hy4 hi16 (fun j h1 h2 => hE j h1 h2) (by rw [← hX, ← hY]; have h := c33; simp at h; exact h)
          replace F := aF hcI F; refine sr fun _ hJ20 => ?_; refine hJ20 _ _ ?_; refine ra ?_; exact gcr
       (try exact nope c33); all_goals have c33p := c33; try simp [F] at c33p
       all_goals
        replace F := aF c33 F; (try replace F := aF c33p F); refine run_skip ?_; refine hK11 _ _ ?_; refine rg' (h := fun J21 hJ21 => ?_); refine hJ21 _ _ ?_; refine ⟨(i), ⟨kp, lp, ?_, lp, lp⟩, lp⟩
        · intro j h1 h2
          by_cases hj : j = i
          · subst hj; rw [← hX, ← hY]; have h := c24; have h' := c33; simp at h h'; omega
          · exact hE j (by omega) h2
   (try exact nope c13); all_goals have c13p := c13; try simp [F] at c13p
   all_goals
    replace F := aF c13 F; try replace F := aF c13p F
    obtain rfl : n = 0 := by simp at c13; omega
    have hxy : x = y := by have := high_eq' (b := 65536) (n := 16) (i := 0) (by omega) hx4 hy4 (by omega) hE; simpa using this
    have hcI : cmpI x y = 0 := by rw [hxy]; exact cmpI_self y
    replace F := aF hcI F; refine run_exit ?_; refine hK5 _ _ ?_; refine sr fun _ hJ23 => ?_; refine hJ23 _ _ ?_; refine ra ?_; exact gcr

theorem valD_whole (b n V : Nat) : valD b (digs b n V ++ [V / b ^ n]) = V := by
  rw [valD_snoc, valD_digs, digs_len, Nat.mod_add_div]

set_option maxHeartbeats 1600000 in
attribute [local simp] undefA List.getElem?_cons_zero List.getElem?_cons_succ u64s_noObj in
theorem radd_ok {σ : St} {x y : Nat} (hx : x < 2 ^ 256) (hy : y < 2 ^ 256) :
    CallsA Try.prog 58 [.agg (numA x), .agg (numA y)] σ (fun av σ' => av = .tup [.agg (numA (addN x y)), .v (.bool (decide (x + y < 2 ^ 256)))] ∧ σ = σ') := by
  refine callsA_gcS ?_ (by simp [AV.under, underL, numA])
  have e256 : (65536 : Nat) ^ 16 = 2 ^ 256 := by rw [show (65536 : Nat) = 2 ^ 16 from rfl, ← Nat.pow_mul]
  have hx4 : x < 65536 ^ 16 := by rw [e256]; exact hx
  have hy4 : y < 65536 ^ 16 := by rw [e256]; exact hy
  obtain ⟨X, hX⟩ : ∃ X, X = digs 65536 16 x := ⟨_, rfl⟩
  obtain ⟨Y, hY⟩ : ∃ Y, Y = digs 65536 16 y := ⟨_, rfl⟩
  have hXl : X.length = 16 := by rw [hX]; simp
  have hYl : Y.length = 16 := by rw [hY]; simp
  have hXm : ∀ d ∈ X, d < 65536 := by rw [hX]; exact digs_lt (by decide)
  have hYm : ∀ d ∈ Y, d < 65536 := by rw [hY]; exact digs_lt (by decide)
  have hXY : X.length = Y.length := by omega
  have hvs : valD 65536 (addm X Y 16) = x + y := by
    rw [show 16 = X.length by omega, addm_all hXY, valD_zip _ _ _ hXY, hX, hY, valD_digs, valD_digs, Nat.mod_eq_of_lt hx4, Nat.mod_eq_of_lt hy4]
  have F := True.intro
  refine callsA_body Try.func58 rfl rfl rfl ?_; refine sr fun _ hJ2 => ?_; refine hJ2 _ _ ?_; refine sq fun K3 hK3 => ?_
  refine run_draw (by kernel_rfl) fun J4 hJ4 => ?_
  refine rp2 0 (k := ?_); refine rp2 2 (k := ?_); refine dc 1 rfl (c := digits_ok (x := x)) (k := ?_); rintro _ _ ⟨rfl, rfl⟩
  refine ⟨by first | exact fun _ _ h => h | (refine later_list [2] (by kernel_rfl) (List.forall_mem_cons.2 ⟨fun _ => fact2 rfl rfl ?_, fun _ h => absurd h List.not_mem_nil⟩) <;> constructor <;> first | rfl | (simp [F]; done)), ?_⟩
  (repeat (first | simp [F] | simp (disch := omega) only [wC, if_pos, if_neg])); refine dc 3 rfl (c := digits_sl (x := y)) (k := ?_); rintro _ _ ⟨rfl, rfl⟩; refine ⟨ln, ?_⟩; (repeat (first | simp [F] | simp (disch := omega) only [wC, if_pos, if_neg])); refine rp2 4 (k := ?_); refine rp2 5 (k := ?_); refine dd ?_; refine hJ4 _ _ ?_; refine hK3 _ _ ?_; refine sq fun K5 hK5 => ?_; refine sr fun _ hJ7 => ?_; refine hJ7 _ _ ?_; refine run_block_k ?_; refine run_loopF (X := Nat) [4, 5, 6, 7] (fun i ρ σ1 => (i ≤ 16) ∧ (ρ 8 = .v (.int .i64 i)) ∧ (σ1 = { σ with objs := σ.objs ++ [numA x, numA y, numA 0], rows := σ.rows ++ [⟨16, u64s (addm X Y i), none⟩] })) (fun i => 16 - i) (0) ?st1 ?rd1
  case st1 =>
   refine ⟨lp, lp, ?_⟩
   · rw [addm_zero, hX]; simp [numA_zero4]
  case rd1 =>
   rintro i ρ1 σ1 hF1 ⟨hi, h8, hσ⟩; obtain rfl := hσ.symm
   have f1 := keepL hF1
   (try simp [KeepL, F] at f1); replace F := aF h8 F; (try replace F := aF f1 F); refine sq fun K8 hK8 => ?_; refine sr fun _ hJ10 => ?_; refine hJ10 _ _ ?_; refine cs (fun c14 => ?_) (fun c14 => ?_)
   · (try exact nope c14); all_goals have c14p := c14; try simp [F] at c14p
     all_goals
      replace F := aF c14 F; (try replace F := aF c14p F); refine run_skip ?_; refine hK8 _ _ ?_; refine sq fun K11 hK11 => ?_; refine run_block_k ?_
      have hi16 : i < 16 := by simp at c14; omega
      obtain ⟨p, hp⟩ : ∃ p, p = X[i] := ⟨_, rfl⟩
      obtain ⟨q, hq⟩ : ∃ q, q = Y[i] := ⟨_, rfl⟩
      have hgx : (u64s (addm X Y i))[i]? = some (.v (.int .u64 p)) := by rw [hp]; exact u64s_get_of (addm_get hXY (by omega))
      have hgy : (u64s (digs 65536 16 y))[i]? = some (.v (.int .u64 q)) := by rw [← hY, hq]; exact u64s_get_of (List.getElem?_eq_getElem (by omega))
      obtain ⟨_, hgx2⟩ := List.getElem?_eq_some_iff.1 hgx
      obtain ⟨_, hgy2⟩ := List.getElem?_eq_some_iff.1 hgy
      have hdy : List.drop i (u64s (digs 65536 16 y)) = .v (.int .u64 q) :: List.drop (i + 1) (u64s (digs 65536 16 y)) := by rw [List.drop_eq_getElem_cons (by simpa using hi16), hgy2]
      have hpl : p < 65536 := by rw [hp]; exact hXm _ (List.getElem_mem _)
      have hql : q < 65536 := by rw [hq]; exact hYm _ (List.getElem_mem _)
      have hal := addm_len hXY (show i ≤ X.length by omega)
      rw [hXl] at hal
      obtain ⟨s, hs⟩ : ∃ s, s = p + q := ⟨_, rfl⟩
      have hsw : IntKind.u64.wrap ((p : Int) + q) = (s : Int) := by rw [show (p : Int) + q = (s : Int) by omega]; exact wrapN (by omega)
      have hset := u64s_set (addm X Y i) i s (by omega)
      rw [hs, hp, hq, addm_set hXY (by omega), ← hp, ← hq, ← hs] at hset
      have hii : (i : Int) < 16 := by omega
      replace F := aF hgx F; replace F := aF hgy F; replace F := aF hgx2 F; replace F := aF hgy2 F; replace F := aF hdy F; replace F := aF hal F; replace F := aF hsw F; replace F := aF hi16 F; replace F := aF hii F
      refine run_draw (by kernel_rfl) fun J12 hJ12 => ?_
      refine rp2 0 (k := ?_); refine rp2 1 (k := ?_); refine rp2 2 (k := ?_); refine rp2 3 (k := ?_); refine rp2 4 (k := ?_); refine rp2 5 (k := ?_); refine rp2 6 (k := ?_); refine rp2 7 (k := ?_); refine rp2 8 (k := ?_); refine rp2 9 (k := ?_); refine dop 10 rfl ?_; (repeat (first | simp [F] | simp (disch := omega) only [wC, if_pos, if_neg])); refine ⟨ln, ?_⟩; refine dd ?_; refine hJ12 _ _ ?_; refine hK11 _ _ ?_; refine rg' (h := fun J13 hJ13 => ?_); refine hJ13 _ _ ?_; refine ⟨(i + 1), ⟨kp, lp, lp, ?_⟩, lp⟩
      · simp [F, hset]
   (try exact nope c14); all_goals have c14p := c14; try simp [F] at c14p
   all_goals
    replace F := aF c14 F; try replace F := aF c14p F
    obtain rfl : i = 16 := by simp at c14; omega
    have hal := addm_len hXY (show 16 ≤ X.length by omega)
    rw [hXl] at hal
    have hsm : ∀ d ∈ addm X Y 16, d ≤ 4611686018427387904 := by rw [show addm X Y 16 = List.zipWith (· + ·) X Y by rw [← addm_all hXY, hXl]]; intro d hd; have := zip_le hXm hYm d hd; omega
    refine run_exit ?_; refine hK5 _ _ ?_; refine sr fun _ hJ15 => ?_
    refine ca (c := carry_ok (k := σ.rows.length) (g := 16) (n := 16) (L := addm X Y 16) (by simp) hal (by omega) hsm) (k := ?_)
    rintro _ _ ⟨rfl, rfl⟩
    rw [hvs]
    (repeat (first | simp [F] | simp (disch := omega) only [wC, if_pos, if_neg])); refine runL_fz 28 1 (k := ?_)
    refine ca (c := rof_ok (L := digs 65536 16 (x + y) ++ [(x + y) / 65536 ^ 16]) (n := 17) (by simp) (by omega) (by omega) (by rw [List.take_append_of_le_length (by simp), List.take_of_length_le (by simp)]; exact digs_lt (by decide))) (k := ?_)
    rintro _ _ ⟨rfl, rfl⟩
    rw [valD_whole]
    have hN : (if x + y < 2 ^ 256 then x + y else 0) = addN x y := rfl
    rw [hN]
    (repeat (first | simp [F] | simp (disch := omega) only [wC, if_pos, if_neg])); refine hJ15 _ _ ?_; refine run_ret ?_; (try simp only [Then, InBlock, NoGoto]); refine acell2 (h := ?_); exact gcr

set_option maxHeartbeats 1600000 in
attribute [local simp] undefA List.getElem?_cons_zero List.getElem?_cons_succ u64s_noObj in
theorem rrest_ok {σ : St} {x y : Nat} (hx : x < 2 ^ 256) (hy : y < 2 ^ 256) :
    CallsA Try.prog 111 [.agg (numA x), .agg (numA y)] σ (fun av σ' => av = .agg (numA (x - y)) ∧ σ = σ') := by
  refine callsA_gcS ?_ (by simp [AV.under, underL, numA])
  have e256 : (65536 : Nat) ^ 16 = 2 ^ 256 := by rw [show (65536 : Nat) = 2 ^ 16 from rfl, ← Nat.pow_mul]
  have hx4 : x < 65536 ^ 16 := by rw [e256]; exact hx
  have hy4 : y < 65536 ^ 16 := by rw [e256]; exact hy
  obtain ⟨s4, hs4⟩ : ∃ s4, s4 = x + 65536 ^ 16 - y := ⟨_, rfl⟩
  have F := True.intro
  refine callsA_body Try.func111 rfl rfl rfl ?_; refine sr fun _ hJ2 => ?_; refine hJ2 _ _ ?_; refine sq fun K3 hK3 => ?_; refine sr fun _ hJ5 => ?_; refine ca (c := rcmp_ok hx hy) (k := ?_); rintro _ _ ⟨rfl, rfl⟩; (repeat (first | simp [F] | simp (disch := omega) only [wC, if_pos, if_neg])); refine hJ5 _ _ ?_; refine cs (fun c15 => ?_) (fun c15 => ?_)
  · (try exact nope c15); all_goals have c15p := c15; try simp [F] at c15p
    all_goals
     replace F := aF c15 F; try replace F := aF c15p F
     have h0 : x - y = 0 := by have h := c15; simp only [decide_eq_true_eq] at h; unfold cmpI at h; split at h <;> first | omega | (split at h <;> omega)
     replace F := aF h0 (And.intro numA_zero4 F); refine sr fun _ hJ7 => ?_; refine hJ7 _ _ ?_; refine run_ret ?_; (try simp only [Then, InBlock, NoGoto]); refine acell (h := ?_); exact gcr
  (try exact nope c15); all_goals have c15p := c15; try simp [F] at c15p
  all_goals
   replace F := aF c15 F; try replace F := aF c15p F
   have hyx : y < x := by have h := c15; simp only [decide_eq_false_iff_not] at h; unfold cmpI at h; split at h <;> first | omega | (split at h <;> omega)
   refine run_skip ?_; refine hK3 _ _ ?_; refine sq fun K8 hK8 => ?_
   refine run_draw (by kernel_rfl) fun J9 hJ9 => ?_
   refine rp2 0 (k := ?_); refine rp2 2 (k := ?_); refine dc 1 rfl (c := digits_ok (x := x)) (k := ?_); rintro _ _ ⟨rfl, rfl⟩
   refine ⟨by first | exact fun _ _ h => h | (refine later_list [2] (by kernel_rfl) (List.forall_mem_cons.2 ⟨fun _ => fact2 rfl rfl ?_, fun _ h => absurd h List.not_mem_nil⟩) <;> constructor <;> first | rfl | (simp [F]; done)), ?_⟩
   (repeat (first | simp [F] | simp (disch := omega) only [wC, if_pos, if_neg])); refine dc 3 rfl (c := digits_sl (x := y)) (k := ?_); rintro _ _ ⟨rfl, rfl⟩; refine ⟨ln, ?_⟩; (repeat (first | simp [F] | simp (disch := omega) only [wC, if_pos, if_neg])); refine rp2 4 (k := ?_); refine rp2 5 (k := ?_); refine dd ?_; refine hJ9 _ _ ?_; refine hK8 _ _ ?_; refine sr fun _ hJ11 => ?_; refine hJ11 _ _ ?_; refine sq fun K12 hK12 => ?_; refine sr fun _ hJ14 => ?_; refine hJ14 _ _ ?_; refine run_block_k ?_; refine run_loopF (X := Nat) [4, 5, 6] (fun i ρ σ1 => (i ≤ 16) ∧ (ρ 7 = .v (.int .u64 (subb 65536 x y i : Nat))) ∧ (ρ 8 = .v (.int .i64 i)) ∧ (σ1 = { σ with objs := σ.objs ++ [numA x, numA y, numA 0], rows := σ.rows ++ [⟨16, u64s (mix 65536 16 i s4 x), none⟩] })) (fun i => 16 - i) (0) ?st1 ?rd1
   case st1 =>
    refine ⟨lp, ?_, lp, ?_⟩
    · simp [subb_zero]
    · rw [mix_zero]; simp [numA_zero4]
   case rd1 =>
    rintro i ρ1 σ1 hF1 ⟨hi, h7, h8, hσ⟩; obtain rfl := hσ.symm
    have f1 := keepL hF1
    (try simp [KeepL, F] at f1); replace F := aF h7 F; replace F := aF h8 F; (try replace F := aF f1 F); refine sq fun K15 hK15 => ?_; refine sr fun _ hJ17 => ?_; refine hJ17 _ _ ?_; refine cs (fun c22 => ?_) (fun c22 => ?_)
    · (try exact nope c22); all_goals have c22p := c22; try simp [F] at c22p
      all_goals
       replace F := aF c22 F; (try replace F := aF c22p F); refine run_skip ?_; refine hK15 _ _ ?_; refine sq fun K18 hK18 => ?_; refine run_block_k ?_; refine sq fun K19 hK19 => ?_
       have hi16 : i < 16 := by simp at c22; omega
       have hgx := mixU_get (b := 65536) (s := s4) (x := x) hi16
       have hgy := digU_get (b := 65536) (x := y) hi16
       have hml := mix_len (b := 65536) (s := s4) (x := x) (Nat.le_of_lt hi16)
       obtain ⟨p, hp⟩ : ∃ p, p = x / 65536 ^ i % 65536 := ⟨_, rfl⟩
       obtain ⟨q, hq⟩ : ∃ q, q = y / 65536 ^ i % 65536 := ⟨_, rfl⟩
       rw [← hp] at hgx
       rw [← hq] at hgy
       obtain ⟨_, hgx2⟩ := List.getElem?_eq_some_iff.1 hgx
       obtain ⟨_, hgy2⟩ := List.getElem?_eq_some_iff.1 hgy
       have hii : (i : Int) < 16 := by omega
       have hdy : List.drop i (u64s (digs 65536 16 y)) = .v (.int .u64 q) :: List.drop (i + 1) (u64s (digs 65536 16 y)) := by rw [List.drop_eq_getElem_cons (by simpa using hi16), hgy2]
       have hpl : p < 65536 := by rw [hp]; exact Nat.mod_lt _ (by decide)
       have hql : q < 65536 := by rw [hq]; exact Nat.mod_lt _ (by decide)
       obtain ⟨c, hc⟩ : ∃ c, c = subb 65536 x y i := ⟨_, rfl⟩
       have hcl : c ≤ 1 := by rw [hc]; exact subb_le _ _ _ _
       rw [← hc] at h7 F
       obtain ⟨n, hn⟩ : ∃ n, n = p + 65536 - q - c := ⟨_, rfl⟩
       have hne : (p : Int) + 65536 - q - c = (n : Int) := by omega
       obtain ⟨m, hm⟩ : ∃ m, m = n % 65536 := ⟨_, rfl⟩
       obtain ⟨v, hv⟩ : ∃ v, v = n / 65536 := ⟨_, rfl⟩
       obtain ⟨c2, hc2⟩ : ∃ c2, c2 = 1 - v := ⟨_, rfl⟩
       have hv1 : v ≤ 1 := by omega
       have hn6 : (n : Int).tmod 65536 = (m : Int) := by rw [Int.tmod_eq_emod_of_nonneg (by omega)]; omega
       have hn7 : (n : Int).tdiv 65536 = (v : Int) := by rw [Int.tdiv_eq_ediv_of_nonneg (by omega)]; omega
       have hn8 : (n : Int) % 65536 = (m : Int) := by omega
       have hn9 : (n : Int) / 65536 = (v : Int) := by omega
       have hw2 : IntKind.u64.wrap (1 - (v : Int)) = (c2 : Int) := by rw [wrap_u64c (by omega)]; omega
       have hdg : m = s4 / 65536 ^ i % 65536 := by rw [hm, hn, hs4, hp, hq, hc]; exact subb_dig (by decide) hi16 hx4 hy4
       have hc3 : c2 = subb 65536 x y (i + 1) := by rw [← subb_next (by decide), ← hp, ← hq, ← hc]; split <;> omega
       have hset := mixU_set (b := 65536) (s := s4) (x := x) hi16
       rw [← hdg] at hset
       replace F := aF hgx F; replace F := aF hgy F; replace F := aF hgx2 F; replace F := aF hgy2 F; replace F := aF hdy F; replace F := aF hml F; replace F := aF hne F; replace F := aF hn6 F; replace F := aF hn7 F; replace F := aF hn8 F; replace F := aF hn9 F; replace F := aF hw2 F; replace F := aF hi16 F; replace F := aF hii F
       refine run_draw (by kernel_rfl) fun J20 hJ20 => ?_
       refine rp2 0 (k := ?_); refine rp2 1 (k := ?_); refine rp2 2 (k := ?_); refine rp2 3 (k := ?_); refine rp2 4 (k := ?_); refine rp2 5 (k := ?_); refine rp2 6 (k := ?_); refine rp2 7 (k := ?_); refine rp2 8 (k := ?_); refine rp2 9 (k := ?_); refine rp2 10 (k := ?_); refine rp2 11 (k := ?_); refine rp2 12 (k := ?_); refine dd ?_; refine hJ20 _ _ ?_; refine hK19 _ _ ?_; refine sr fun _ hJ22 => ?_; refine hJ22 _ _ ?_; refine rg' (h := fun J23 hJ23 => ?_); refine hJ23 _ _ ?_; refine hK18 _ _ ?_; refine rg' (h := fun J24 hJ24 => ?_); refine hJ24 _ _ ?_; refine ⟨(i + 1), ⟨kp, lp, ?_, lp, ?_⟩, lp⟩
       · simp only [putA_get]
         repeat (first | simp [F] | simp (disch := omega) only [wC, if_pos, if_neg])
         rw [← hc3]
         omega
       · simp [F, hset]
    (try exact nope c22); all_goals have c22p := c22; try simp [F] at c22p
    all_goals
     replace F := aF c22 F; try replace F := aF c22p F
     obtain rfl : i = 16 := by simp at c22; omega
     rw [mix_all]
     refine run_fz 5 1 (k := ?_); refine run_exit ?_; refine hK12 _ _ ?_; refine sq fun K25 hK25 => ?_
     have hv : valD 65536 (digs 65536 16 s4) = x - y := by rw [valD_digs, hs4, show x + 65536 ^ 16 - y = (x - y) + 65536 ^ 16 by omega, Nat.add_mod_right, Nat.mod_eq_of_lt (by omega)]
     refine rg' (h := fun J26 hJ26 => ?_)
     refine ca (c := rof_ok (L := digs 65536 16 s4) (n := 16) (by simp) (by omega) (by omega) (by rw [List.take_of_length_le (by simp)]; exact digs_lt (by decide))) (k := ?_)
     rintro _ _ ⟨rfl, rfl⟩
     rw [hv]
     have hfit : x - y < 2 ^ 256 := by omega
     rw [if_pos hfit]
     (repeat (first | simp [F] | simp (disch := omega) only [wC, if_pos, if_neg])); refine hJ26 _ _ ?_; refine hK25 _ _ ?_; refine sr fun _ hJ28 => ?_; refine hJ28 _ _ ?_; refine run_ret ?_; (try simp only [Then, InBlock, NoGoto]); refine acell (h := ?_); exact gcr
end Go.Proofs.Ytmponlabfccjaaa

/-
  The document's coins.
-/
namespace Go.Proofs.Ytmponlabfccjaaa
set_option linter.unnecessarySimpa false
set_option maxRecDepth 100000
open Go Go.Vm
set_option linter.unusedSimpArgs false
set_option linter.unusedVariables false
attribute [local simp] evalL wantedA isCall opA evalA evalAll evalsA evalOpt ofValue ofCell plain binA_eql_pn binA_neq_pn binA_gtr binA_lss binA_geq binA_leq binA_add binA_sub binA_eql binA_neq binA_orI binA_andI binA_shl binA_shr binA_mul binA_quo binA_rem binA_agg_eql binA_agg_neq convA_int unA_not fieldAddrA loadA partA pickA_true pickA_false pickA_bb lenA builtinA storeA splice AV.cells AV.isCell sliceA boundA intA callOf indexAddrA newObjA buildA fillA zeroA ofCells buildSliceA indexA fieldA numA_len4 numA_take4 numA_drop4 set_appN get_appN take_appN List.getElem?_cons_zero List.getElem?_cons_succ makeA zeros64

set_option maxHeartbeats 1600000 in
attribute [local simp] undefA List.getElem?_cons_zero List.getElem?_cons_succ in
theorem rlist_ok {σ : St} {f : Nat → Nat} (hf : ∀ d, d < 8 → f d < 2 ^ 256) :
    CallsA Try.prog 59 [.agg (purA (purF f))] σ (fun av σ' => av = .sl 5 (coinsC (lstF f 8)) (lstF f 8).length .shut ∧ σ = σ') := by
  refine callsA_gcS ?_ (by simp [AV.under])
  have hpl : (purA (purF f)).length = 32 := by rw [purA_len]; simp
  have F := And.intro hpl (True.intro)
  refine callsA_body Try.func59 rfl rfl rfl ?_; refine sr fun _ hJ2 => ?_; refine hJ2 _ _ ?_; refine sr fun _ hJ4 => ?_; refine hJ4 _ _ ?_; refine sq fun K5 hK5 => ?_; refine sr fun _ hJ7 => ?_; refine hJ7 _ _ ?_; refine run_block_k ?_; refine run_loopF (X := Nat) [1, 2] (fun d ρ σ1 => (d ≤ 8) ∧ (ρ 3 = grA σ.toks.length 5 (neB (lstF f d)) (coinsC (lstF f d)) (lstF f d).length) ∧ (ρ 4 = .v (.int .i64 d)) ∧ (σ1 = { σ with objs := σ.objs ++ [purA (purF f)], toks := σ.toks ++ grT (neB (lstF f d)) (lstF f d).length })) (fun d => 8 - d) (0) ?st1 ?rd1
  case st1 =>
   refine ⟨lp, ?_, lp, ?_⟩
   · rfl
   · simp [lstF]
  case rd1 =>
   rintro d ρ1 σ1 hF1 ⟨hj, h3, h4, hσ⟩; obtain rfl := hσ.symm
   have f1 := keepL hF1
   (try simp [KeepL, F] at f1); replace F := aF h3 F; replace F := aF h4 F; (try replace F := aF f1 F); refine sq fun K8 hK8 => ?_; refine sr fun _ hJ10 => ?_; refine hJ10 _ _ ?_; refine cs (fun c6 => ?_) (fun c6 => ?_)
   · (try exact nope c6); all_goals have c6p := c6; try simp [F] at c6p
     all_goals
      replace F := aF c6 F; (try replace F := aF c6p F); refine run_skip ?_; refine hK8 _ _ ?_; refine sq fun K11 hK11 => ?_; refine run_block_k ?_; refine sq fun K12 hK12 => ?_
      have hd8 : d < 8 := by simp at c6; omega
      have hat := purA_at (P := purF f) (d := d) (by simpa using hd8)
      rw [purF_get hd8] at hat
      have hb1 : d * 4 + 4 ≤ 32 := by omega
      have hd5 : (d : Int) < 8 := by omega
      have hw8 : IntKind.u8.wrap (d : Int) = (d : Int) := wrap_u8c ⟨by omega, by omega⟩
      obtain ⟨c, hc⟩ : ∃ c : Coin, c = ⟨UInt8.ofNat d, Num.of (f d)⟩ := ⟨_, rfl⟩
      have hcn : c.n.v = f d := by rw [hc]; exact Num.of_v (hf d hd8)
      have hcd : (c.d.toNat : Int) = (d : Int) := by rw [hc]; simp only [toNat_u8 (show d < 256 by omega)]
      have hcoin : AV.v (.int .u8 (d : Int)) :: numA (f d) = coinC c := by rw [coinC, hcd, hcn]
      obtain ⟨L, hL⟩ : ∃ L, L = lstF f d := ⟨_, rfl⟩
      have hLl : L.length ≤ 8 := by rw [hL]; exact Nat.le_trans (lstF_len _ _) hj
      rw [← hL] at h3 F
      rw [← hL]
      have hb0 : neB L = false → coinsC L = [] ∧ L.length = 0 := fun h => by rw [neB_no h]; simp
      have happ : ∀ objs, appendA Try.prog 29 (grA σ.toks.length 5 (neB L) (coinsC L) L.length) (.sl 5 (coinC c) 1 .full) ⟨objs, σ.toks ++ grT (neB L) L.length, σ.gl, σ.rows⟩ = some (grA σ.toks.length 5 true (coinsC L ++ coinC c) (L.length + 1), ⟨objs, σ.toks ++ grT true (L.length + 1), σ.gl, σ.rows⟩) := fun objs => append_gr elemT_29 ti_93 (by decide) rfl hb0 (.inl rfl) (by simp [roomA]; omega) (by simp [maxLen]; omega)
      have hcl : (coinC c).length = 5 := rfl
      have hca : (coinC c).all AV.isCell = true := rfl
      have hdr : ∀ f : Nat → AV, List.drop 5 (List.map f (List.range 5)) = [] := fun _ => rfl
      replace F := aF hcl F; replace F := aF hca F; replace F := aF hdr F; replace F := aF hat F; replace F := aF hb1 F; replace F := aF hd5 F; replace F := aF hd8 F; replace F := aF hw8 F; replace F := aF hcoin F; replace F := aF happ F; refine rg' (h := fun J13 hJ13 => ?_); refine ca (c := zero_ok (x := ⟨f d, hf d hd8⟩)) (k := ?_); rintro _ _ ⟨rfl, rfl⟩; (repeat (first | simp [F] | simp (disch := omega) only [wC, if_pos, if_neg])); refine hJ13 _ _ ?_; refine hK12 _ _ ?_; refine cs (fun c13 => ?_) (fun c13 => ?_)
      · (try exact nope c13); all_goals have c13p := c13; try simp [F] at c13p
        all_goals
         replace F := aF c13 F; try replace F := aF c13p F
         have hnx : lstF f (d + 1) = L ++ [c] := by rw [hL, hc]; simp only [lstF]; rw [if_neg (by simpa using c13)]
         refine rg' (h := fun J14 hJ14 => ?_); refine hJ14 _ _ ?_; refine hK11 _ _ ?_; refine rg' (h := fun J15 hJ15 => ?_); refine hJ15 _ _ ?_; refine ⟨(d + 1), ⟨kp, lp, ?_, lp, ?_⟩, lp⟩
         · rw [hnx, ← coinsC_snoc]
           simp [F]
         · rw [hnx]
           simp [F]
      (try exact nope c13); all_goals have c13p := c13; try simp [F] at c13p
      all_goals
       replace F := aF c13 F; try replace F := aF c13p F
       have hnx : lstF f (d + 1) = L := by rw [hL]; simp only [lstF]; rw [if_pos (by simpa using c13), List.append_nil]
       refine run_skip ?_; refine hK11 _ _ ?_; refine rg' (h := fun J16 hJ16 => ?_); refine hJ16 _ _ ?_; refine ⟨(d + 1), ⟨kp, lp, ?_, lp, ?_⟩, lp⟩
       · rw [hnx]
         simp [F]
       · rw [hnx]
   (try exact nope c6); all_goals have c6p := c6; try simp [F] at c6p
   all_goals
    replace F := aF c6 F; try replace F := aF c6p F
    obtain rfl : d = 8 := by simp at c6; omega
    refine run_exit ?_; refine hK5 _ _ ?_; refine sr fun _ hJ18 => ?_; refine hJ18 _ _ ?_; refine ra ?_
    refine gcr (hA := by simp only [putA_get]; simp [F]; exact wk_grA (fun h => by rw [neB_no h]; simp))

end Go.Proofs.Ytmponlabfccjaaa
