import Derived.Test.YtlkajgjaidedkaaZ7
import Derived.Test.YtlkajgjaidedkaaZ14
/-
  What is under way: one more, another one, one less; all of them; of no store.
-/
namespace Go.Proofs.Ytlkajgjaidedkaa
set_option linter.unnecessarySimpa false
set_option maxRecDepth 100000
open Go Go.Vm
set_option linter.unusedSimpArgs false
set_option linter.unusedVariables false
attribute [local simp] evalL wantedA isCall opA evalA evalAll evalsA evalOpt ofValue ofCell plain binA_eql_pn binA_neq_pn binA_gtr binA_lss binA_geq binA_leq binA_add binA_sub binA_eql binA_neq binA_orI binA_shl binA_shr binA_mul binA_quo binA_rem binA_agg_eql binA_agg_neq convA_int unA_not fieldAddrA loadA partA pickA_true pickA_false pickA_bb lenA builtinA storeA splice AV.cells AV.isCell sliceA boundA intA callOf indexAddrA newObjA buildA fillA zeroA ofCells buildSliceA indexA fieldA set_appN get_appN take_appN List.getElem?_cons_zero List.getElem?_cons_succ get_sa0 get_sa1 get_sa2 get_sa3 set_sa0 set_sa1 set_sa2 set_sa3 sliceRowA binA_eqn binA_neqn drop_mr

set_option maxHeartbeats 1600000 in
attribute [local simp] undefA List.getElem?_cons_zero List.getElem?_cons_succ enC in
theorem leaveE_ok {σ : St} {o k n m : Nat} {G : Sg} {e : En} (h : HasS σ o k G) (hG : G.s.Ok n) (hn : n ≤ 900000) (hm : m + 1 < 2 ^ 64) (hc : getL G.s.l (ctK 101) = if m = 0 then none else some (nBytes 8 m)) (he : e.Ok) :
    CallsA Try.prog 55 [.ptr o 0, .agg (enC e)] σ (fun av σ' => ∃ G', G'.s = addL G.s 101 e.d (encE e) m ∧ av = .v (.int .u64 (m + 1 : Nat)) ∧ σ' = putS σ o k G') := by
  have h80 := encE_len e
  have hlay := fun τ => layE_ok (σ := τ) he.2.1
  have had := fun l => ladd_ok (kind := 101) (d := e.d) (p := encE e) (tp := .shut) (h.app l σ.toks) hG hn he.2.2 (by omega) hm hc
  have hpa := fun (G' : Sg) (l : List (List AV)) => putS_app h G' l
  refine callsA_mono (callsA_gcSt (X := Nat × Nat × Nat) (A := fun _ => .v (.int .u64 (m + 1 : Nat))) (T := fun x => ⟨addL G.s 101 e.d (encE e) m, x.1, x.2.1, x.2.2⟩) h (fun _ => rfl) ?_) (fun av σ' ⟨x, e1, e2⟩ => ⟨_, rfl, e1, e2⟩)
  obtain ⟨P, hP⟩ : ∃ P, P = encE e := ⟨_, rfl⟩
  simp only [← hP] at hlay had ⊢
  have F := True.intro
  refine callsA_body Try.func55 rfl rfl rfl ?_; refine sr fun _ hJ2 => ?_; refine hJ2 _ _ ?_; refine sq fun K3 hK3 => ?_
  refine run_draw (by kernel_rfl) fun J4 hJ4 => ?_
  refine rp2 0 (k := ?_); refine rp2 1 (k := ?_); refine rp2 2 (k := ?_); refine rp2 3 (k := ?_); refine dc 4 rfl (c := hlay _) (k := ?_); rintro _ _ ⟨rfl, rfl⟩
  refine ⟨by first | exact fun _ _ h => h | (refine later_list [2, 1, 0] (by kernel_rfl) (List.forall_mem_cons.2 ⟨fun _ => fact2 rfl rfl ?_, List.forall_mem_cons.2 ⟨fun _ => fact2 rfl rfl ?_, List.forall_mem_cons.2 ⟨fun _ => fact2 rfl rfl ?_, fun _ h => absurd h List.not_mem_nil⟩⟩⟩) <;> constructor <;> first | rfl | (simp [F]; done)), ?_⟩
  (repeat (first | simp [F] | simp (disch := omega) only [wC, if_pos, if_neg])); refine dc 5 rfl (c := had _) (k := ?_); rintro _ _ ⟨G', e0, rfl, rfl⟩
  refine ⟨by first | exact fun _ _ h => h | (refine later_list [1] (by kernel_rfl) (List.forall_mem_cons.2 ⟨fun _ => fact2 rfl rfl ?_, fun _ h => absurd h List.not_mem_nil⟩) <;> constructor <;> first | rfl | (simp [F]; done)), ?_⟩
  (repeat (first | simp [F] | simp (disch := omega) only [wC, if_pos, if_neg])); refine rp2 6 (k := ?_); refine dd ?_; refine hJ4 _ _ ?_; refine hK3 _ _ ?_; refine ra ?_
  obtain ⟨gs, a1, a2, a3⟩ := G'
  simp only at e0
  subst e0
  refine ⟨(a1, a2, a3), ?_⟩
  rw [hpa]
  exact gcr

set_option maxHeartbeats 1600000 in
attribute [local simp] undefA List.getElem?_cons_zero List.getElem?_cons_succ enC in
theorem dropE_ok {σ : St} {o k n : Nat} {G : Sg} {e : En} (h : HasS σ o k G) (hG : G.s.Ok n) (hn : n ≤ 900000) (he : e.Ok) :
    CallsA Try.prog 71 [.ptr o 0, .agg (enC e)] σ (fun av σ' => ∃ G', G'.s = doS G.s (keyW 101 e.d e.n) none ∧ av = .v (.bool (getL G.s.l (keyW 101 e.d e.n)).isSome) ∧ σ' = putS σ o k G') := by
  have had := fun l => lremove_ok (kind := 101) (d := e.d) (no := e.n) (h.app l σ.toks) hG hn he.2.2 he.1
  have hpa := fun (G' : Sg) (l : List (List AV)) => putS_app h G' l
  obtain ⟨w, hw⟩ : ∃ w, w = (getL G.s.l (keyW 101 e.d e.n)).isSome := ⟨_, rfl⟩
  simp only [← hw] at had ⊢
  refine callsA_mono (callsA_gcSt (X := Nat × Nat × Nat) (A := fun _ => .v (.bool w)) (T := fun x => ⟨doS G.s (keyW 101 e.d e.n) none, x.1, x.2.1, x.2.2⟩) h (fun _ => rfl) ?_) (fun av σ' ⟨x, e1, e2⟩ => ⟨_, rfl, e1, e2⟩)
  obtain ⟨K, hK⟩ : ∃ K, K = keyW 101 e.d e.n := ⟨_, rfl⟩
  simp only [← hK] at had ⊢
  have F := True.intro
  refine callsA_body Try.func71 rfl rfl rfl ?_; refine sr fun _ hJ2 => ?_; refine hJ2 _ _ ?_; refine sr fun _ hJ4 => ?_; refine ca (c := had _) (k := ?_); rintro _ _ ⟨G', e0, rfl, rfl⟩; (repeat (first | simp [F] | simp (disch := omega) only [wC, if_pos, if_neg])); refine hJ4 _ _ ?_; refine ra ?_
  obtain ⟨gs, a1, a2, a3⟩ := G'
  simp only at e0
  subst e0
  refine ⟨(a1, a2, a3), ?_⟩
  rw [hpa]
  exact gcr

set_option maxHeartbeats 1600000 in
attribute [local simp] undefA List.getElem?_cons_zero List.getElem?_cons_succ in
theorem allE_ok {σ : St} {o k n : Nat} {G : Sg} {E : List En} (h : HasS σ o k G) (hG : G.s.Ok n) (hn : n ≤ 900000) (hE : allL G.s.l 101 = E.map itE) (hok : ∀ e ∈ E, e.Ok) :
    CallsA Try.prog 57 [.ptr o 0] σ (fun av σ' => av = .sl 13 (ensC E) E.length .shut ∧ σ = σ') := by
  have hea := eachE_ok h hG hn hE hok
  have F := True.intro
  refine callsA_body Try.func57 rfl rfl rfl ?_; refine sr fun _ hJ2 => ?_; refine hJ2 _ _ ?_; refine sr fun _ hJ4 => ?_; refine ca (c := hea) (k := ?_); rintro _ _ ⟨rfl, rfl⟩; (repeat (first | simp [F] | simp (disch := omega) only [wC, if_pos, if_neg])); refine hJ4 _ _ ?_; refine ra ?_; exact rt

set_option maxHeartbeats 1600000 in
attribute [local simp] undefA List.getElem?_cons_zero List.getElem?_cons_succ hpC in
theorem leaveH_ok {σ : St} {o k n m : Nat} {G : Sg} {e : Hp} (h : HasS σ o k G) (hG : G.s.Ok n) (hn : n ≤ 900000) (hm : m + 1 < 2 ^ 64) (hc : getL G.s.l (ctK 104) = if m = 0 then none else some (nBytes 8 m)) (he : e.Ok) :
    CallsA Try.prog 56 [.ptr o 0, .agg (hpC e)] σ (fun av σ' => ∃ G', G'.s = addL G.s 104 e.d (encH e) m ∧ av = .v (.int .u64 (m + 1 : Nat)) ∧ σ' = putS σ o k G') := by
  have h80 := encH_len e
  have hlay := fun τ => layH_ok (σ := τ) he.2.1
  have had := fun l => ladd_ok (kind := 104) (d := e.d) (p := encH e) (tp := .shut) (h.app l σ.toks) hG hn he.2.2 (by omega) hm hc
  have hpa := fun (G' : Sg) (l : List (List AV)) => putS_app h G' l
  refine callsA_mono (callsA_gcSt (X := Nat × Nat × Nat) (A := fun _ => .v (.int .u64 (m + 1 : Nat))) (T := fun x => ⟨addL G.s 104 e.d (encH e) m, x.1, x.2.1, x.2.2⟩) h (fun _ => rfl) ?_) (fun av σ' ⟨x, e1, e2⟩ => ⟨_, rfl, e1, e2⟩)
  obtain ⟨P, hP⟩ : ∃ P, P = encH e := ⟨_, rfl⟩
  simp only [← hP] at hlay had ⊢
  have F := True.intro
  refine callsA_body Try.func56 rfl rfl rfl ?_; refine sr fun _ hJ2 => ?_; refine hJ2 _ _ ?_; refine sq fun K3 hK3 => ?_
  refine run_draw (by kernel_rfl) fun J4 hJ4 => ?_
  refine rp2 0 (k := ?_); refine rp2 1 (k := ?_); refine rp2 2 (k := ?_); refine rp2 3 (k := ?_); refine dc 4 rfl (c := hlay _) (k := ?_); rintro _ _ ⟨rfl, rfl⟩
  refine ⟨by first | exact fun _ _ h => h | (refine later_list [2, 1, 0] (by kernel_rfl) (List.forall_mem_cons.2 ⟨fun _ => fact2 rfl rfl ?_, List.forall_mem_cons.2 ⟨fun _ => fact2 rfl rfl ?_, List.forall_mem_cons.2 ⟨fun _ => fact2 rfl rfl ?_, fun _ h => absurd h List.not_mem_nil⟩⟩⟩) <;> constructor <;> first | rfl | (simp [F]; done)), ?_⟩
  (repeat (first | simp [F] | simp (disch := omega) only [wC, if_pos, if_neg])); refine dc 5 rfl (c := had _) (k := ?_); rintro _ _ ⟨G', e0, rfl, rfl⟩
  refine ⟨by first | exact fun _ _ h => h | (refine later_list [1] (by kernel_rfl) (List.forall_mem_cons.2 ⟨fun _ => fact2 rfl rfl ?_, fun _ h => absurd h List.not_mem_nil⟩) <;> constructor <;> first | rfl | (simp [F]; done)), ?_⟩
  (repeat (first | simp [F] | simp (disch := omega) only [wC, if_pos, if_neg])); refine rp2 6 (k := ?_); refine dd ?_; refine hJ4 _ _ ?_; refine hK3 _ _ ?_; refine ra ?_
  obtain ⟨gs, a1, a2, a3⟩ := G'
  simp only at e0
  subst e0
  refine ⟨(a1, a2, a3), ?_⟩
  rw [hpa]
  exact gcr

set_option maxHeartbeats 1600000 in
attribute [local simp] undefA List.getElem?_cons_zero List.getElem?_cons_succ hpC in
theorem dropH_ok {σ : St} {o k n : Nat} {G : Sg} {e : Hp} (h : HasS σ o k G) (hG : G.s.Ok n) (hn : n ≤ 900000) (he : e.Ok) :
    CallsA Try.prog 72 [.ptr o 0, .agg (hpC e)] σ (fun av σ' => ∃ G', G'.s = doS G.s (keyW 104 e.d e.n) none ∧ av = .v (.bool (getL G.s.l (keyW 104 e.d e.n)).isSome) ∧ σ' = putS σ o k G') := by
  have had := fun l => lremove_ok (kind := 104) (d := e.d) (no := e.n) (h.app l σ.toks) hG hn he.2.2 he.1
  have hpa := fun (G' : Sg) (l : List (List AV)) => putS_app h G' l
  obtain ⟨w, hw⟩ : ∃ w, w = (getL G.s.l (keyW 104 e.d e.n)).isSome := ⟨_, rfl⟩
  simp only [← hw] at had ⊢
  refine callsA_mono (callsA_gcSt (X := Nat × Nat × Nat) (A := fun _ => .v (.bool w)) (T := fun x => ⟨doS G.s (keyW 104 e.d e.n) none, x.1, x.2.1, x.2.2⟩) h (fun _ => rfl) ?_) (fun av σ' ⟨x, e1, e2⟩ => ⟨_, rfl, e1, e2⟩)
  obtain ⟨K, hK⟩ : ∃ K, K = keyW 104 e.d e.n := ⟨_, rfl⟩
  simp only [← hK] at had ⊢
  have F := True.intro
  refine callsA_body Try.func72 rfl rfl rfl ?_; refine sr fun _ hJ2 => ?_; refine hJ2 _ _ ?_; refine sr fun _ hJ4 => ?_; refine ca (c := had _) (k := ?_); rintro _ _ ⟨G', e0, rfl, rfl⟩; (repeat (first | simp [F] | simp (disch := omega) only [wC, if_pos, if_neg])); refine hJ4 _ _ ?_; refine ra ?_
  obtain ⟨gs, a1, a2, a3⟩ := G'
  simp only at e0
  subst e0
  refine ⟨(a1, a2, a3), ?_⟩
  rw [hpa]
  exact gcr

set_option maxHeartbeats 1600000 in
attribute [local simp] undefA List.getElem?_cons_zero List.getElem?_cons_succ in
theorem allH_ok {σ : St} {o k n : Nat} {G : Sg} {E : List Hp} (h : HasS σ o k G) (hG : G.s.Ok n) (hn : n ≤ 900000) (hE : allL G.s.l 104 = E.map itH) (hok : ∀ e ∈ E, e.Ok) :
    CallsA Try.prog 58 [.ptr o 0] σ (fun av σ' => av = .sl 14 (hpsC E) E.length .shut ∧ σ = σ') := by
  have hea := eachH_ok h hG hn hE hok
  have F := True.intro
  refine callsA_body Try.func58 rfl rfl rfl ?_; refine sr fun _ hJ2 => ?_; refine hJ2 _ _ ?_; refine sr fun _ hJ4 => ?_; refine ca (c := hea) (k := ?_); rintro _ _ ⟨rfl, rfl⟩; (repeat (first | simp [F] | simp (disch := omega) only [wC, if_pos, if_neg])); refine hJ4 _ _ ?_; refine ra ?_; exact rt

set_option maxHeartbeats 1600000 in
attribute [local simp] undefA List.getElem?_cons_zero List.getElem?_cons_succ enC in
theorem setE_ok {σ : St} {o k n : Nat} {G : Sg} {e : En} (h : HasS σ o k G) (hG : G.s.Ok n) (hn : n ≤ 900000) (he : e.Ok) :
    CallsA Try.prog 70 [.ptr o 0, .agg (enC e)] σ (fun av σ' => ∃ G', G'.s = (if (getL G.s.l (keyW 101 e.d e.n)).isSome then doS G.s (keyW 101 e.d e.n) (some (encE e)) else G.s) ∧ av = .v (.bool (getL G.s.l (keyW 101 e.d e.n)).isSome) ∧ σ' = putS σ o k G') := by
  have h80 := encE_len e
  have hlay := fun τ => layE_ok (σ := τ) he.2.1
  have had := fun l => lset_ok (kind := 101) (d := e.d) (no := e.n) (p := encE e) (h.app l σ.toks) hG hn he.2.2 he.1 (by omega)
  have hpa := fun (G' : Sg) (l : List (List AV)) => putS_app h G' l
  obtain ⟨w, hw⟩ : ∃ w, w = (getL G.s.l (keyW 101 e.d e.n)).isSome := ⟨_, rfl⟩
  simp only [← hw] at had ⊢
  obtain ⟨S, hS⟩ : ∃ S, S = (if w then doS G.s (keyW 101 e.d e.n) (some (encE e)) else G.s) := ⟨_, rfl⟩
  simp only [← hS] at had ⊢
  refine callsA_mono (callsA_gcSt (X := Nat × Nat × Nat) (A := fun _ => .v (.bool w)) (T := fun x => ⟨S, x.1, x.2.1, x.2.2⟩) h (fun _ => rfl) ?_) (fun av σ' ⟨x, e1, e2⟩ => ⟨_, rfl, e1, e2⟩)
  obtain ⟨P, hP⟩ : ∃ P, P = encE e := ⟨_, rfl⟩
  simp only [← hP, byC] at hlay had ⊢
  have hg0 : ∀ (G' : Sg) x, (putS { σ with objs := σ.objs ++ [x] } o k G').objs[σ.objs.length]? = some x := fun G' x => by rw [hpa]; simp [putS]
  have F := And.intro hg0 (True.intro)
  refine callsA_body Try.func70 rfl rfl rfl ?_; refine sr fun _ hJ2 => ?_; refine hJ2 _ _ ?_; refine sq fun K3 hK3 => ?_
  refine run_draw (by kernel_rfl) fun J4 hJ4 => ?_
  refine rp2 0 (k := ?_); refine rp2 1 (k := ?_); refine rp2 2 (k := ?_); refine rp2 3 (k := ?_); refine rp2 4 (k := ?_); refine rp2 5 (k := ?_); refine dc 6 rfl (c := hlay _) (k := ?_); rintro _ _ ⟨rfl, rfl⟩
  refine ⟨by first | exact fun _ _ h => h | (refine later_list [4, 3, 2, 1, 0] (by kernel_rfl) (List.forall_mem_cons.2 ⟨fun _ => fact2 rfl rfl ?_, List.forall_mem_cons.2 ⟨fun _ => fact2 rfl rfl ?_, List.forall_mem_cons.2 ⟨fun _ => fact2 rfl rfl ?_, List.forall_mem_cons.2 ⟨fun _ => fact2 rfl rfl ?_, List.forall_mem_cons.2 ⟨fun _ => fact2 rfl rfl ?_, fun _ h => absurd h List.not_mem_nil⟩⟩⟩⟩⟩) <;> constructor <;> first | rfl | (simp [F]; done)), ?_⟩
  (repeat (first | simp [F] | simp (disch := omega) only [wC, if_pos, if_neg])); refine rp2 7 (k := ?_); refine dc 8 rfl (c := had _) (k := ?_); rintro _ _ ⟨G', e0, rfl, rfl⟩
  refine ⟨by first | exact fun _ _ h => h | (refine later_list [4, 3, 2, 1] (by kernel_rfl) (List.forall_mem_cons.2 ⟨fun _ => fact2 rfl rfl ?_, List.forall_mem_cons.2 ⟨fun _ => fact2 rfl rfl ?_, List.forall_mem_cons.2 ⟨fun _ => fact2 rfl rfl ?_, List.forall_mem_cons.2 ⟨fun _ => fact2 rfl rfl ?_, fun _ h => absurd h List.not_mem_nil⟩⟩⟩⟩) <;> constructor <;> first | rfl | (simp [F]; done)), ?_⟩
  (repeat (first | simp [F] | simp (disch := omega) only [wC, if_pos, if_neg])); refine rp2 9 (k := ?_); refine dd ?_; refine hJ4 _ _ ?_; refine hK3 _ _ ?_; refine ra ?_
  obtain ⟨gs, a1, a2, a3⟩ := G'
  simp only at e0
  subst e0
  refine ⟨(a1, a2, a3), ?_⟩
  rw [hpa]
  exact gcr

theorem u8_beq (x y : UInt8) : (((x.toNat : Nat) : Int) == ((y.toNat : Nat) : Int)) = decide (x = y) := by
  rw [Bool.eq_iff_iff, beq_iff_eq, decide_eq_true_eq]; exact ⟨fun e => UInt8.toNat_inj.1 (Int.ofNat_inj.1 e), fun e => by rw [e]⟩
set_option maxHeartbeats 1600000 in
attribute [local simp] undefA List.getElem?_cons_zero List.getElem?_cons_succ enC in
theorem leaving1_ok {σ : St} {a b : Nat} {ow vl : UInt8} {e : En} (ha : σ.objs[a]? = some [.v (.int .u8 ow.toNat)]) (hb : σ.objs[b]? = some [.v (.int .u8 vl.toNat)]) :
    CallsA Try.prog 103 [.agg (enC e), .ptr a 0, .ptr b 0] σ (fun av σ' => av = .v (.bool (decide (e.o = ow ∧ e.v = vl))) ∧ σ = σ') := by
  refine callsA_gcS ?_ rfl
  have hla := lt_of_get ha
  have hlb := lt_of_get hb
  have ga : ∀ x, (σ.objs ++ [x])[a]? = some [.v (.int .u8 ow.toNat)] := fun x => by rw [List.getElem?_append_left hla]; exact ha
  have gb : ∀ x, (σ.objs ++ [x])[b]? = some [.v (.int .u8 vl.toNat)] := fun x => by rw [List.getElem?_append_left hlb]; exact hb
  have hu := u8_beq
  have F := And.intro ga (And.intro gb (And.intro hu (True.intro)))
  refine callsA_body Try.func103 rfl rfl rfl ?_; refine sr fun _ hJ2 => ?_; refine hJ2 _ _ ?_; refine sr fun _ hJ4 => ?_; refine gs 9 (fun g1_4 => ?_) (fun g1_4 => ?_)
  · (try exact nope g1_4); all_goals have g1_4p := g1_4; try simp [F] at g1_4p
    all_goals
     replace F := aF g1_4 F; try replace F := aF g1_4p F
     have hl : e.o = ow := by have h := g1_4; simp [u8_beq] at h; first | exact h | exact UInt8.toNat_inj.1 (by omega)
     replace F := aF hl F; (iterate 4 refine go2 (k := ?_)); refine hJ4 _ _ ?_; refine ra ?_; exact gcr
  (try exact nope g1_4); all_goals have g1_4p := g1_4; try simp [F] at g1_4p
  all_goals
   replace F := aF g1_4 F; try replace F := aF g1_4p F
   have hl : ¬ e.o = ow := by have h := g1_4; simp [u8_beq] at h; intro e; rw [e] at h; exact h rfl
   replace F := aF hl F; (iterate 4 refine no2 (k := ?_)); refine hJ4 _ _ ?_; refine ra ?_; exact gcr

set_option maxHeartbeats 1600000 in
attribute [local simp] undefA List.getElem?_cons_zero List.getElem?_cons_succ in
theorem leaving_ok {σ : St} {o k n : Nat} {G : Sg} {E : List En} {ow vl : UInt8} (h : HasS σ o k G) (hG : G.s.Ok n) (hn : n ≤ 900000) (hE : allL G.s.l 101 = E.map itE) (hok : ∀ e ∈ E, e.Ok) (hl : E.length ≤ 1000000) :
    CallsA Try.prog 64 [.ptr o 0, .v (.int .u8 ow.toNat), .v (.int .u8 vl.toNat)] σ (fun av σ' => av = .v (.int .i64 ((E.filter fun e => decide (e.o = ow ∧ e.v = vl)).length : Nat)) ∧ σ = σ') := by
  refine callsA_gcS ?_ rfl
  have hal := fun l => allE_ok (h.app l σ.toks) hG hn hE hok
  have hct := countE_ok (σ := { σ with objs := σ.objs ++ [[.v (.int .u8 ow.toNat)], [.v (.int .u8 vl.toNat)]] }) (tl := .shut) (f := 103) (caps := [.ptr σ.objs.length 0, .ptr (σ.objs.length + 1) 0]) (p := fun e => decide (e.o = ow ∧ e.v = vl)) hl rfl (by simp [noObjL, AV.noObj]) (fun l e => leaving1_ok (by simp) (by simp))
  have F := True.intro
  refine callsA_body Try.func64 rfl rfl rfl ?_; refine sr fun _ hJ2 => ?_; refine hJ2 _ _ ?_; refine sr fun _ hJ4 => ?_; refine ca (c := hal _) (k := ?_); rintro _ _ ⟨rfl, rfl⟩; (repeat (first | simp [F] | simp (disch := omega) only [wC, if_pos, if_neg])); refine ca (c := hct) (k := ?_); rintro _ _ ⟨rfl, rfl⟩; (repeat (first | simp [F] | simp (disch := omega) only [wC, if_pos, if_neg])); refine hJ4 _ _ ?_; refine ra ?_; exact gcr

structure Wd where
  E : List En
  H : List Hp
  a : Nat
  b : Nat
def wX (x y : AV) (a b : Nat) : List AV := [.v (.int .u64 0), .sl 0 [] 0 .full, .sl 0 [] 0 .full, .sl 0 [] 0 .full, .sl 0 [] 0 .full, .sl 0 [] 0 .full, x, y, .v (.int .u64 a), .v (.int .u64 b)]
def wC (W : Wd) : List AV := wX (.sl 13 (ensC W.E) W.E.length .shut) (.sl 14 (hpsC W.H) W.H.length .shut) W.a W.b
theorem wX_wk {x x' y y' : AV} {a b : Nat} (hx : Wk x x') (hy : Wk y y') : WkL (wX x y a b) (wX x' y' a b) :=
  .cons (Wk.refl _) (.cons (Wk.refl _) (.cons (Wk.refl _) (.cons (Wk.refl _) (.cons (Wk.refl _) (.cons (Wk.refl _) (.cons hx (.cons hy (.cons (Wk.refl _) (.cons (Wk.refl _) .nil)))))))))
theorem wC_under (B : Bd) (W : Wd) : underL B (wC W) = true := by simp [wC, wX, underL, AV.under, ensC_under, hpsC_under]
theorem wcall {P : Program} {f : FuncId} {args : List AV} {σ : St} {w : Nat} {W : Wd} {A : AV} (hw : w < σ.objs.length) (hA : A.under σ.bd = true)
    (k : CallsA P f args σ (fun av σ' => av = A ∧ ∃ tk x y l, Wk x (.sl 13 (ensC W.E) W.E.length .shut) ∧ Wk y (.sl 14 (hpsC W.H) W.H.length .shut) ∧ σ' = { σ with objs := σ.objs.set w (wX x y W.a W.b) ++ l, toks := σ.toks ++ tk })) :
    CallsA P f args σ (fun av σ' => av = A ∧ σ' = { σ with objs := σ.objs.set w (wC W) }) := by
  refine callsA_gcT (A := A) (τ := { σ with objs := σ.objs.set w (wC W) }) ?_ hA (by simp) rfl rfl rfl (ku_set (ku_refl _) (wC_under _ _)) (kur_refl _)
  refine callsA_wkS k (fun av σ' h => ?_)
  obtain ⟨rfl, tk, x, y, l, hx, hy, rfl⟩ := h
  refine ⟨av, { σ with objs := σ.objs.set w (wC W) ++ l, toks := σ.toks ++ tk }, Wk.refl _, ?_, Wk.refl _, l, tk, [], by simp⟩
  rw [← List.set_append_left _ _ hw, ← List.set_append_left _ _ hw]
  exact WkS.set (σ := { σ with toks := σ.toks ++ tk }) (wX_wk hx hy)
structure GS (α : Type) where
  i : Nat
  O : List α
  b : Bool
theorem cellE (e : En) : (∀ x ∈ enC e, AV.isCell x = true) := fun x hx => by simp only [enC, List.mem_cons, List.not_mem_nil, or_false] at hx; rcases hx with rfl | rfl | rfl | rfl | rfl | rfl | rfl | rfl | rfl | rfl | rfl | rfl | rfl <;> rfl
theorem cellH (e : Hp) : (∀ x ∈ hpC e, AV.isCell x = true) := fun x hx => by simp only [hpC, List.mem_cons, List.not_mem_nil, or_false] at hx; rcases hx with rfl | rfl | rfl | rfl | rfl | rfl | rfl | rfl | rfl | rfl | rfl | rfl | rfl | rfl <;> rfl
theorem isG_iff (e y : En) : isG itE e.d e.n y = decide (y.d = e.d ∧ y.n = e.n) := rfl
theorem isH_iff (e y : Hp) : isG itH e.d e.n y = decide (y.d = e.d ∧ y.n = e.n) := rfl

set_option maxHeartbeats 1600000 in
attribute [local simp] undefA List.getElem?_cons_zero List.getElem?_cons_succ drop_mr lsA_nil lsT_nil lsZ_nil lsL_nil in
theorem wleaveE_ok {σ : St} {w : Nat} {W : Wd} {e : En} (h : σ.objs[w]? = some (wC W)) (hl : W.E.length ≤ 1000000) (ha : W.a + 1 < 2 ^ 64) :
    CallsA Try.prog 98 [.ptr w 0, .agg (enC e)] σ (fun av σ' => av = .v (.int .u64 (W.a + 1 : Nat)) ∧ σ' = { σ with objs := σ.objs.set w (wC { W with E := insG itE W.E { e with n := W.a + 1 }, a := W.a + 1 }) }) := by
  have hw := lt_of_get h
  obtain ⟨E, H, a, b⟩ := W
  simp only at hl ha ⊢
  obtain ⟨N, hN⟩ : ∃ N, N = a + 1 := ⟨_, rfl⟩
  simp only [← hN] at ha ⊢
  obtain ⟨e1, he1⟩ : ∃ e1 : En, e1 = { e with n := N } := ⟨_, rfl⟩
  simp only [← he1]
  obtain ⟨T, hT⟩ : ∃ T, T = insG itE E e1 := ⟨_, rfl⟩
  simp only [← hT]
  refine wcall hw rfl ?_; simp only [wC] at h ⊢
  have hap : ∀ (O : List En) (x : En) objs, O.length ≤ 1000001 → appendA Try.prog 86 (lsA σ.toks.length 13 (ensC O) O.length) (.sl 13 (enC x) 1 .full) ⟨objs, σ.toks ++ lsT O.length, σ.gl, σ.rows⟩ = some (lsA σ.toks.length 13 (ensC (O ++ [x])) (O.length + 1), ⟨objs, σ.toks ++ lsT (O.length + 1), σ.gl, σ.rows⟩) := fun O x objs hO => by
    rw [ensC_app, show ensC [x] = enC x by simp [ensC]]
    exact append_ls elemT_86 ti_81 (by decide) rfl (fun h => by rw [List.eq_nil_of_length_eq_zero h]; rfl) rfl (by omega) (by simp only [roomA]; omega) (by simp only [maxLen]; omega)
  have hEc := ensC_len E
  have hwc : IntKind.u64.wrap (((a : Nat) : Int) + 1) = ((N : Nat) : Int) := by rw [wrap_u64c (by omega)]; omega
  obtain ⟨Q, hQ⟩ : ∃ Q, Q = enC e := ⟨_, rfl⟩
  obtain ⟨Q1, hQ1⟩ : ∃ Q, Q = enC e1 := ⟨_, rfl⟩
  have hQs : AV.v (.int .u64 N) :: Q.tail = Q1 := by rw [hQ, hQ1, he1]; rfl
  have hQl : Q.length = 13 := by rw [hQ]; rfl
  have hQ1l : Q1.length = 13 := by rw [hQ1]; rfl
  have hQ1t : List.take 13 Q1 = Q1 := by subst hQ1; rfl
  have hQ1d : ∀ h2 : 4 < Q1.length, Q1[4]'h2 = .v (.int .u64 (e1.d : Nat)) := fun h2 => by subst hQ1; rfl
  have hQ1n : ∀ h2 : 0 < Q1.length, Q1[0]'h2 = .v (.int .u64 (N : Nat)) := fun h2 => by subst hQ1; rw [he1]; rfl
  have hQc : (∀ x, x ∈ Q → x.isCell = true) = True := eq_true (by rw [hQ]; exact cellE e)
  have hQ1c : (∀ x, x ∈ Q1 → x.isCell = true) = True := eq_true (by rw [hQ1]; exact cellE e1)
  simp only [AV.isCell] at hQc hQ1c
  have ho1 : ∀ r, (σ.objs ++ r)[w]? = some _ := fun r => by rw [List.getElem?_append_left hw]; exact h
  have ho2 : ∀ x r, (σ.objs.set w x ++ r)[w]? = some x := fun x r => by rw [List.getElem?_append_left (by simpa using hw)]; exact set_self_of h x
  have ho3 : ∀ x r, (σ.objs ++ r).set w x = σ.objs.set w x ++ r := fun x r => List.set_append_left _ _ hw
  have ho4 : ∀ x y r, (σ.objs.set w y ++ r).set w x = σ.objs.set w x ++ r := fun x y r => by rw [List.set_append_left _ _ (by simpa using hw), List.set_set]
  have ho5 : ∀ x y, (σ.objs.set w x ++ [y])[σ.objs.length]? = some y := fun x y => by rw [List.getElem?_append_right (by simp)]; simp
  have ho6 : ∀ x y z, (σ.objs.set w x ++ [y]).set σ.objs.length z = σ.objs.set w x ++ [z] := fun x y z => by rw [List.set_append_right _ _ (by simp)]; simp
  rw [← hQ]
  simp only [wX] at ho1 ⊢
  have F := And.intro hEc (And.intro hwc (And.intro hQl (And.intro hQ1l (And.intro hQ1t (And.intro hQs (And.intro hQ1d (And.intro hQ1n (And.intro hQc (And.intro hQ1c (And.intro ho1 (And.intro ho2 (And.intro ho3 (And.intro ho4 (And.intro ho5 (And.intro ho6 (True.intro))))))))))))))))
  refine callsA_body Try.func98 rfl rfl rfl ?_; refine sr fun _ hJ2 => ?_; refine hJ2 _ _ ?_; refine sr fun _ hJ4 => ?_; refine hJ4 _ _ ?_; refine sr fun _ hJ6 => ?_; refine hJ6 _ _ ?_; refine sr fun _ hJ8 => ?_; refine hJ8 _ _ ?_; refine sr fun _ hJ10 => ?_; refine hJ10 _ _ ?_; refine sq fun K11 hK11 => ?_; refine sr fun _ hJ13 => ?_; refine hJ13 _ _ ?_; refine run_block_k ?_; refine run_loopF (X := GS En) [0, 3, 4] (fun x ρ σ1 => (x.i ≤ E.length) ∧ ((x.b = true → x.O ++ E.drop x.i = T) ∧ (x.b = false → x.O = E.take x.i ∧ ∀ y ∈ E.take x.i, y.d ≤ e1.d)) ∧ (x.O.length ≤ x.i + 1) ∧ (ρ 5 = lsA σ.toks.length 13 (ensC x.O) x.O.length) ∧ (ρ 6 = .v (.bool x.b)) ∧ (ρ 7 = .v (.int .i64 x.i)) ∧ (σ1 = { σ with objs := σ.objs.set w [.v (.int .u64 0), .sl 0 [] 0 .full, .sl 0 [] 0 .full, .sl 0 [] 0 .full, .sl 0 [] 0 .full, .sl 0 [] 0 .full, .sl 13 (ensC E) E.length .shut, .sl 14 (hpsC H) H.length .shut, .v (.int .u64 N), .v (.int .u64 b)] ++ [Q1], toks := σ.toks ++ lsT x.O.length })) (fun x => E.length - x.i) (⟨0, [], false⟩) ?st1 ?rd1
  case st1 =>
   refine ⟨lp, ?_, lp, lp, lp, lp, ?_⟩
   · exact ⟨fun e => by simp at e, fun _ => ⟨rfl, by simp⟩⟩
   · simp [lsT_nil, F]
  case rd1 =>
   rintro x ρ1 σ1 hF1 ⟨h1, h2, h3, h4, h5, h6, hσ⟩; obtain rfl := hσ.symm
   have f1 := keepL hF1
   (try simp [KeepL, F] at f1); replace F := aF h4 F; replace F := aF h5 F; replace F := aF h6 F; (try replace F := aF f1 F); refine sq fun K14 hK14 => ?_; refine sr fun _ hJ16 => ?_; refine hJ16 _ _ ?_; refine cs (fun c27 => ?_) (fun c27 => ?_)
   · (try exact nope c27); all_goals have c27p := c27; try simp [F] at c27p
     all_goals
      replace F := aF c27 F; try replace F := aF c27p F
      have hlt : x.i < E.length := by have h := c27; simp at h; omega
      obtain ⟨R, hR⟩ := ensC_at (l := E) (i := x.i) hlt
      obtain ⟨y, hy⟩ : ∃ y, y = E[x.i] := ⟨_, rfl⟩
      rw [← hy] at hR
      have g4 := get_drop (l := ensC E) (i := x.i * 13) (j := 4) (x := .v (.int .u64 (y.d : Nat))) (by rw [hR]; rfl)
      have hR3 : List.take 13 (List.drop (x.i * 13) (ensC E)) = enC y := by rw [hR]; rfl
      have d0 : x.i * 13 + 4 < E.length * 13 := by omega
      have d3 : x.i * 13 + 13 ≤ E.length * 13 := by omega
      have hi1 : x.i + 1 ≤ E.length := hlt
      have hta : E.take (x.i + 1) = E.take x.i ++ [y] := by rw [hy]; exact (List.take_append_getElem hlt).symm
      have hdr : E.drop x.i = y :: E.drop (x.i + 1) := by rw [hy]; exact List.drop_eq_getElem_cons hlt
      have hol : x.O.length ≤ 1000000 := by omega
      have hwi : IntKind.i64.wrap ((x.i : Int) + 1) = (x.i : Int) + 1 := wrap_i64 _ (by omega) (by omega)
      have p1 := fun objs => hap x.O y objs (by omega)
      have p2 := fun objs => hap x.O e1 objs (by omega)
      have p3 := fun objs => hap (x.O ++ [e1]) y objs (by simp; omega)
      simp only [List.length_append, List.length_cons, List.length_nil, Nat.zero_add] at p3
      have hyc : (∀ x, x ∈ enC y → x.isCell = true) = True := eq_true (cellE y)
      have hyl : (enC y).length = 13 := rfl
      obtain ⟨Y, hY⟩ : ∃ Y, Y = enC y := ⟨_, rfl⟩
      rw [← hY] at hyc hyl hR3
      simp only [AV.isCell] at hyc
      simp only [← hY] at p1 p3
      simp only [← hQ1] at p2
      replace F := aF hwi F; replace F := aF hlt (And.intro g4 (And.intro hR3 (And.intro d0 (And.intro d3 (And.intro hi1 (And.intro hyc (And.intro hyl (And.intro p1 (And.intro p2 (And.intro p3 F)))))))))); refine run_skip ?_; refine hK14 _ _ ?_; refine sq fun K17 hK17 => ?_; refine run_block_k ?_; refine sq fun K18 hK18 => ?_; refine sq fun K19 hK19 => ?_
      refine run_draw (by kernel_rfl) fun J20 hJ20 => ?_
      refine rp2 0 (k := ?_); refine rp2 1 (k := ?_); refine rp2 2 (k := ?_); refine gd 32 (fun g8_2 => ?_) (fun g8_2 => ?_)
      · (try exact nope g8_2); all_goals have g8_2p := g8_2; try simp [F] at g8_2p
        all_goals
         replace F := aF g8_2 F; (try replace F := aF g8_2p F); refine rp2 3 (k := ?_); refine rp2 4 (k := ?_); refine rp2 5 (k := ?_); refine rp2 6 (k := ?_); refine rp2 7 (k := ?_); refine rp2 8 (k := ?_); refine rp2 9 (k := ?_); refine rp2 10 (k := ?_); refine rp2 11 (k := ?_); refine rp2 12 (k := ?_); refine rp2 13 (k := ?_); refine rp2 14 (k := ?_); refine rp2 15 (k := ?_); refine dd ?_; refine hJ20 _ _ ?_; refine hK19 _ _ ?_; refine cs (fun c45 => ?_) (fun c45 => ?_)
         · (try exact nope c45); all_goals have c45p := c45; try simp [F] at c45p
           all_goals
            replace F := aF c45 F; (try replace F := aF c45p F); refine sr fun _ hJ22 => ?_; refine hJ22 _ _ ?_; refine rg' (h := fun J23 hJ23 => ?_); refine hJ23 _ _ ?_; refine hK18 _ _ ?_; refine rg' (h := fun J24 hJ24 => ?_); refine hJ24 _ _ ?_; refine hK17 _ _ ?_; refine rg' (h := fun J25 hJ25 => ?_); refine hJ25 _ _ ?_; refine ⟨(⟨x.i + 1, x.O ++ [e1] ++ [y], true⟩), ⟨kp, lp, ?_, ?_, lp, lp, lp, lp⟩, lp⟩
            · have hb : x.b = false := (by simpa using g8_2)
              obtain ⟨ho, hle⟩ := h2.2 hb
              refine ⟨fun _ => ?_, fun e => by cases e⟩
              show (x.O ++ [e1] ++ [y]) ++ E.drop (x.i + 1) = T
              rw [hT, insG_split itE hlt hle (by rw [← hy]; have h := c45; simp at h; exact h), ho, hdr]
              simp
            · have hb : x.b = false := (by simpa using g8_2)
              have hol := congrArg List.length (h2.2 hb).1
              rw [List.length_take] at hol
              simp
              omega
         (try exact nope c45); all_goals have c45p := c45; try simp [F] at c45p
         all_goals
          replace F := aF c45 F; (try replace F := aF c45p F); refine run_skip ?_; refine hK18 _ _ ?_; refine rg' (h := fun J26 hJ26 => ?_); refine hJ26 _ _ ?_; refine hK17 _ _ ?_; refine rg' (h := fun J27 hJ27 => ?_); refine hJ27 _ _ ?_; refine ⟨(⟨x.i + 1, x.O ++ [y], x.b⟩), ⟨kp, lp, ?_, ?_, lp, lp, lp, lp⟩, lp⟩
          · have hb : x.b = false := (by simpa using g8_2)
            obtain ⟨ho, hle⟩ := h2.2 hb
            refine ⟨fun e => by simp [hb] at e, fun _ => ⟨by show x.O ++ [y] = _; rw [hta, ho], ?_⟩⟩
            show ∀ z ∈ E.take (x.i + 1), z.d ≤ e1.d
            rw [hta]
            intro z hz
            rcases List.mem_append.1 hz with h | h
            · exact hle z h
            · simp at h; rw [h]; have h := c45; simp at h; exact h
          · simp
            omega
      (try exact nope g8_2); all_goals have g8_2p := g8_2; try simp [F] at g8_2p
      all_goals
       replace F := aF g8_2 F; (try replace F := aF g8_2p F); refine rp2 3 (k := ?_); refine rp2 4 (k := ?_); refine rp2 5 (k := ?_); refine rp2 6 (k := ?_); refine rp2 7 (k := ?_); refine rp2 8 (k := ?_); refine rp2 9 (k := ?_); refine rp2 10 (k := ?_); refine rp2 11 (k := ?_); refine rp2 12 (k := ?_); refine rp2 13 (k := ?_); refine rp2 14 (k := ?_); refine rp2 15 (k := ?_); refine dd ?_; refine hJ20 _ _ ?_; refine hK19 _ _ ?_; refine cf ?_; refine run_skip ?_; refine hK18 _ _ ?_; refine rg' (h := fun J28 hJ28 => ?_); refine hJ28 _ _ ?_; refine hK17 _ _ ?_; refine rg' (h := fun J29 hJ29 => ?_); refine hJ29 _ _ ?_; refine ⟨(⟨x.i + 1, x.O ++ [y], x.b⟩), ⟨kp, lp, ?_, ?_, lp, lp, lp, lp⟩, lp⟩
       · have hb : x.b = true := (by simpa using g8_2)
         refine ⟨fun _ => ?_, fun e => by simp [hb] at e⟩
         show (x.O ++ [y]) ++ E.drop (x.i + 1) = T
         rw [← h2.1 hb, hdr]
         simp
       · simp
         omega
   (try exact nope c27); all_goals have c27p := c27; try simp [F] at c27p
   all_goals
    replace F := aF c27 F; try replace F := aF c27p F
    have hxi : x.i = E.length := by have h := c27; simp at h; omega
    have hte : E.take x.i = E := List.take_of_length_le (by omega)
    have p2 := fun objs => hap x.O e1 objs (by omega)
    simp only [← hQ1] at p2
    replace F := aF p2 F; refine run_exit ?_; refine hK11 _ _ ?_; refine sq fun K30 hK30 => ?_; refine sr fun _ hJ32 => ?_; refine hJ32 _ _ ?_; refine cs (fun c62 => ?_) (fun c62 => ?_)
    · (try exact nope c62); all_goals have c62p := c62; try simp [F] at c62p
      all_goals
       replace F := aF c62 F; try replace F := aF c62p F
       have hb : x.b = false := by simpa using c62
       obtain ⟨ho, hle⟩ := h2.2 hb
       have hTO : T = x.O ++ [e1] := by rw [hT, insG_end itE (by rw [hte] at hle; exact hle), ho, hte]
       refine rg' (h := fun J33 hJ33 => ?_); refine hJ33 _ _ ?_; refine hK30 _ _ ?_; refine sr fun _ hJ35 => ?_; refine hJ35 _ _ ?_; refine sr fun _ hJ37 => ?_; refine hJ37 _ _ ?_; refine ra ?_
       refine ⟨by simp [F], lsT (x.O.length + 1), lsA σ.toks.length 13 (ensC (x.O ++ [e1])) (x.O.length + 1), _, [Q1], by rw [hTO]; simpa using lsA_wk (k := σ.toks.length) (sz := 13) (n := x.O.length + 1) (cs := ensC (x.O ++ [e1])) (fun h => by simp at h), Wk.refl _, rfl⟩
    (try exact nope c62); all_goals have c62p := c62; try simp [F] at c62p
    all_goals
     replace F := aF c62 F; try replace F := aF c62p F
     have hb : x.b = true := by simpa using c62
     have hTO : T = x.O := by have e := h2.1 hb; rw [List.drop_of_length_le (by omega), List.append_nil] at e; exact e.symm
     refine run_skip ?_; refine hK30 _ _ ?_; refine sr fun _ hJ39 => ?_; refine hJ39 _ _ ?_; refine sr fun _ hJ41 => ?_; refine hJ41 _ _ ?_; refine ra ?_
     refine ⟨by simp [F], lsT x.O.length, lsA σ.toks.length 13 (ensC x.O) x.O.length, _, [Q1], by rw [hTO]; exact lsA_wk (k := σ.toks.length) (sz := 13) (n := x.O.length) (cs := ensC x.O) (fun h => by rw [List.eq_nil_of_length_eq_zero h]; rfl), Wk.refl _, rfl⟩

set_option maxHeartbeats 1600000 in
attribute [local simp] undefA List.getElem?_cons_zero List.getElem?_cons_succ drop_mr lsA_nil lsT_nil lsZ_nil lsL_nil in
theorem wleaveH_ok {σ : St} {w : Nat} {W : Wd} {e : Hp} (h : σ.objs[w]? = some (wC W)) (hl : W.H.length ≤ 1000000) (ha : W.b + 1 < 2 ^ 64) :
    CallsA Try.prog 100 [.ptr w 0, .agg (hpC e)] σ (fun av σ' => av = .v (.int .u64 (W.b + 1 : Nat)) ∧ σ' = { σ with objs := σ.objs.set w (wC { W with H := insG itH W.H { e with n := W.b + 1 }, b := W.b + 1 }) }) := by
  have hw := lt_of_get h
  obtain ⟨E, H, a, b⟩ := W
  simp only at hl ha ⊢
  obtain ⟨N, hN⟩ : ∃ N, N = b + 1 := ⟨_, rfl⟩
  simp only [← hN] at ha ⊢
  obtain ⟨e1, he1⟩ : ∃ e1 : Hp, e1 = { e with n := N } := ⟨_, rfl⟩
  simp only [← he1]
  obtain ⟨T, hT⟩ : ∃ T, T = insG itH H e1 := ⟨_, rfl⟩
  simp only [← hT]
  refine wcall hw rfl ?_; simp only [wC] at h ⊢
  have hap : ∀ (O : List Hp) (x : Hp) objs, O.length ≤ 1000001 → appendA Try.prog 88 (lsA σ.toks.length 14 (hpsC O) O.length) (.sl 14 (hpC x) 1 .full) ⟨objs, σ.toks ++ lsT O.length, σ.gl, σ.rows⟩ = some (lsA σ.toks.length 14 (hpsC (O ++ [x])) (O.length + 1), ⟨objs, σ.toks ++ lsT (O.length + 1), σ.gl, σ.rows⟩) := fun O x objs hO => by
    rw [hpsC_app, show hpsC [x] = hpC x by simp [hpsC]]
    exact append_ls elemT_88 ti_83 (by decide) rfl (fun h => by rw [List.eq_nil_of_length_eq_zero h]; rfl) rfl (by omega) (by simp only [roomA]; omega) (by simp only [maxLen]; omega)
  have hEc := hpsC_len H
  have hwc : IntKind.u64.wrap (((b : Nat) : Int) + 1) = ((N : Nat) : Int) := by rw [wrap_u64c (by omega)]; omega
  obtain ⟨Q, hQ⟩ : ∃ Q, Q = hpC e := ⟨_, rfl⟩
  obtain ⟨Q1, hQ1⟩ : ∃ Q, Q = hpC e1 := ⟨_, rfl⟩
  have hQs : AV.v (.int .u64 N) :: Q.tail = Q1 := by rw [hQ, hQ1, he1]; rfl
  have hQl : Q.length = 14 := by rw [hQ]; rfl
  have hQ1l : Q1.length = 14 := by rw [hQ1]; rfl
  have hQ1t : List.take 14 Q1 = Q1 := by subst hQ1; rfl
  have hQ1d : ∀ h2 : 5 < Q1.length, Q1[5]'h2 = .v (.int .u64 (e1.d : Nat)) := fun h2 => by subst hQ1; rfl
  have hQ1n : ∀ h2 : 0 < Q1.length, Q1[0]'h2 = .v (.int .u64 (N : Nat)) := fun h2 => by subst hQ1; rw [he1]; rfl
  have hQc : (∀ x, x ∈ Q → x.isCell = true) = True := eq_true (by rw [hQ]; exact cellH e)
  have hQ1c : (∀ x, x ∈ Q1 → x.isCell = true) = True := eq_true (by rw [hQ1]; exact cellH e1)
  simp only [AV.isCell] at hQc hQ1c
  have ho1 : ∀ r, (σ.objs ++ r)[w]? = some _ := fun r => by rw [List.getElem?_append_left hw]; exact h
  have ho2 : ∀ x r, (σ.objs.set w x ++ r)[w]? = some x := fun x r => by rw [List.getElem?_append_left (by simpa using hw)]; exact set_self_of h x
  have ho3 : ∀ x r, (σ.objs ++ r).set w x = σ.objs.set w x ++ r := fun x r => List.set_append_left _ _ hw
  have ho4 : ∀ x y r, (σ.objs.set w y ++ r).set w x = σ.objs.set w x ++ r := fun x y r => by rw [List.set_append_left _ _ (by simpa using hw), List.set_set]
  have ho5 : ∀ x y, (σ.objs.set w x ++ [y])[σ.objs.length]? = some y := fun x y => by rw [List.getElem?_append_right (by simp)]; simp
  have ho6 : ∀ x y z, (σ.objs.set w x ++ [y]).set σ.objs.length z = σ.objs.set w x ++ [z] := fun x y z => by rw [List.set_append_right _ _ (by simp)]; simp
  rw [← hQ]
  simp only [wX] at ho1 ⊢
  have F := And.intro hEc (And.intro hwc (And.intro hQl (And.intro hQ1l (And.intro hQ1t (And.intro hQs (And.intro hQ1d (And.intro hQ1n (And.intro hQc (And.intro hQ1c (And.intro ho1 (And.intro ho2 (And.intro ho3 (And.intro ho4 (And.intro ho5 (And.intro ho6 (True.intro))))))))))))))))
  refine callsA_body Try.func100 rfl rfl rfl ?_; refine sr fun _ hJ2 => ?_; refine hJ2 _ _ ?_; refine sr fun _ hJ4 => ?_; refine hJ4 _ _ ?_; refine sr fun _ hJ6 => ?_; refine hJ6 _ _ ?_; refine sr fun _ hJ8 => ?_; refine hJ8 _ _ ?_; refine sr fun _ hJ10 => ?_; refine hJ10 _ _ ?_; refine sq fun K11 hK11 => ?_; refine sr fun _ hJ13 => ?_; refine hJ13 _ _ ?_; refine run_block_k ?_; refine run_loopF (X := GS Hp) [0, 3, 4] (fun x ρ σ1 => (x.i ≤ H.length) ∧ ((x.b = true → x.O ++ H.drop x.i = T) ∧ (x.b = false → x.O = H.take x.i ∧ ∀ y ∈ H.take x.i, y.d ≤ e1.d)) ∧ (x.O.length ≤ x.i + 1) ∧ (ρ 5 = lsA σ.toks.length 14 (hpsC x.O) x.O.length) ∧ (ρ 6 = .v (.bool x.b)) ∧ (ρ 7 = .v (.int .i64 x.i)) ∧ (σ1 = { σ with objs := σ.objs.set w [.v (.int .u64 0), .sl 0 [] 0 .full, .sl 0 [] 0 .full, .sl 0 [] 0 .full, .sl 0 [] 0 .full, .sl 0 [] 0 .full, .sl 13 (ensC E) E.length .shut, .sl 14 (hpsC H) H.length .shut, .v (.int .u64 a), .v (.int .u64 N)] ++ [Q1], toks := σ.toks ++ lsT x.O.length })) (fun x => H.length - x.i) (⟨0, [], false⟩) ?st1 ?rd1
  case st1 =>
   refine ⟨lp, ?_, lp, lp, lp, lp, ?_⟩
   · exact ⟨fun e => by simp at e, fun _ => ⟨rfl, by simp⟩⟩
   · simp [lsT_nil, F]
  case rd1 =>
   rintro x ρ1 σ1 hF1 ⟨h1, h2, h3, h4, h5, h6, hσ⟩; obtain rfl := hσ.symm
   have f1 := keepL hF1
   (try simp [KeepL, F] at f1); replace F := aF h4 F; replace F := aF h5 F; replace F := aF h6 F; (try replace F := aF f1 F); refine sq fun K14 hK14 => ?_; refine sr fun _ hJ16 => ?_; refine hJ16 _ _ ?_; refine cs (fun c27 => ?_) (fun c27 => ?_)
   · (try exact nope c27); all_goals have c27p := c27; try simp [F] at c27p
     all_goals
      replace F := aF c27 F; try replace F := aF c27p F
      have hlt : x.i < H.length := by have h := c27; simp at h; omega
      obtain ⟨R, hR⟩ := hpsC_at (l := H) (i := x.i) hlt
      obtain ⟨y, hy⟩ : ∃ y, y = H[x.i] := ⟨_, rfl⟩
      rw [← hy] at hR
      have g4 := get_drop (l := hpsC H) (i := x.i * 14) (j := 5) (x := .v (.int .u64 (y.d : Nat))) (by rw [hR]; rfl)
      have hR3 : List.take 14 (List.drop (x.i * 14) (hpsC H)) = hpC y := by rw [hR]; rfl
      have d0 : x.i * 14 + 5 < H.length * 14 := by omega
      have d3 : x.i * 14 + 14 ≤ H.length * 14 := by omega
      have hi1 : x.i + 1 ≤ H.length := hlt
      have hta : H.take (x.i + 1) = H.take x.i ++ [y] := by rw [hy]; exact (List.take_append_getElem hlt).symm
      have hdr : H.drop x.i = y :: H.drop (x.i + 1) := by rw [hy]; exact List.drop_eq_getElem_cons hlt
      have hol : x.O.length ≤ 1000000 := by omega
      have hwi : IntKind.i64.wrap ((x.i : Int) + 1) = (x.i : Int) + 1 := wrap_i64 _ (by omega) (by omega)
      have p1 := fun objs => hap x.O y objs (by omega)
      have p2 := fun objs => hap x.O e1 objs (by omega)
      have p3 := fun objs => hap (x.O ++ [e1]) y objs (by simp; omega)
      simp only [List.length_append, List.length_cons, List.length_nil, Nat.zero_add] at p3
      have hyc : (∀ x, x ∈ hpC y → x.isCell = true) = True := eq_true (cellH y)
      have hyl : (hpC y).length = 14 := rfl
      obtain ⟨Y, hY⟩ : ∃ Y, Y = hpC y := ⟨_, rfl⟩
      rw [← hY] at hyc hyl hR3
      simp only [AV.isCell] at hyc
      simp only [← hY] at p1 p3
      simp only [← hQ1] at p2
      replace F := aF hwi F; replace F := aF hlt (And.intro g4 (And.intro hR3 (And.intro d0 (And.intro d3 (And.intro hi1 (And.intro hyc (And.intro hyl (And.intro p1 (And.intro p2 (And.intro p3 F)))))))))); refine run_skip ?_; refine hK14 _ _ ?_; refine sq fun K17 hK17 => ?_; refine run_block_k ?_; refine sq fun K18 hK18 => ?_; refine sq fun K19 hK19 => ?_
      refine run_draw (by kernel_rfl) fun J20 hJ20 => ?_
      refine rp2 0 (k := ?_); refine rp2 1 (k := ?_); refine rp2 2 (k := ?_); refine gd 32 (fun g8_2 => ?_) (fun g8_2 => ?_)
      · (try exact nope g8_2); all_goals have g8_2p := g8_2; try simp [F] at g8_2p
        all_goals
         replace F := aF g8_2 F; (try replace F := aF g8_2p F); refine rp2 3 (k := ?_); refine rp2 4 (k := ?_); refine rp2 5 (k := ?_); refine rp2 6 (k := ?_); refine rp2 7 (k := ?_); refine rp2 8 (k := ?_); refine rp2 9 (k := ?_); refine rp2 10 (k := ?_); refine rp2 11 (k := ?_); refine rp2 12 (k := ?_); refine rp2 13 (k := ?_); refine rp2 14 (k := ?_); refine rp2 15 (k := ?_); refine dd ?_; refine hJ20 _ _ ?_; refine hK19 _ _ ?_; refine cs (fun c45 => ?_) (fun c45 => ?_)
         · (try exact nope c45); all_goals have c45p := c45; try simp [F] at c45p
           all_goals
            replace F := aF c45 F; (try replace F := aF c45p F); refine sr fun _ hJ22 => ?_; refine hJ22 _ _ ?_; refine rg' (h := fun J23 hJ23 => ?_); refine hJ23 _ _ ?_; refine hK18 _ _ ?_; refine rg' (h := fun J24 hJ24 => ?_); refine hJ24 _ _ ?_; refine hK17 _ _ ?_; refine rg' (h := fun J25 hJ25 => ?_); refine hJ25 _ _ ?_; refine ⟨(⟨x.i + 1, x.O ++ [e1] ++ [y], true⟩), ⟨kp, lp, ?_, ?_, lp, lp, lp, lp⟩, lp⟩
            · have hb : x.b = false := (by simpa using g8_2)
              obtain ⟨ho, hle⟩ := h2.2 hb
              refine ⟨fun _ => ?_, fun e => by cases e⟩
              show (x.O ++ [e1] ++ [y]) ++ H.drop (x.i + 1) = T
              rw [hT, insG_split itH hlt hle (by rw [← hy]; have h := c45; simp at h; exact h), ho, hdr]
              simp
            · have hb : x.b = false := (by simpa using g8_2)
              have hol := congrArg List.length (h2.2 hb).1
              rw [List.length_take] at hol
              simp
              omega
         (try exact nope c45); all_goals have c45p := c45; try simp [F] at c45p
         all_goals
          replace F := aF c45 F; (try replace F := aF c45p F); refine run_skip ?_; refine hK18 _ _ ?_; refine rg' (h := fun J26 hJ26 => ?_); refine hJ26 _ _ ?_; refine hK17 _ _ ?_; refine rg' (h := fun J27 hJ27 => ?_); refine hJ27 _ _ ?_; refine ⟨(⟨x.i + 1, x.O ++ [y], x.b⟩), ⟨kp, lp, ?_, ?_, lp, lp, lp, lp⟩, lp⟩
          · have hb : x.b = false := (by simpa using g8_2)
            obtain ⟨ho, hle⟩ := h2.2 hb
            refine ⟨fun e => by simp [hb] at e, fun _ => ⟨by show x.O ++ [y] = _; rw [hta, ho], ?_⟩⟩
            show ∀ z ∈ H.take (x.i + 1), z.d ≤ e1.d
            rw [hta]
            intro z hz
            rcases List.mem_append.1 hz with h | h
            · exact hle z h
            · simp at h; rw [h]; have h := c45; simp at h; exact h
          · simp
            omega
      (try exact nope g8_2); all_goals have g8_2p := g8_2; try simp [F] at g8_2p
      all_goals
       replace F := aF g8_2 F; (try replace F := aF g8_2p F); refine rp2 3 (k := ?_); refine rp2 4 (k := ?_); refine rp2 5 (k := ?_); refine rp2 6 (k := ?_); refine rp2 7 (k := ?_); refine rp2 8 (k := ?_); refine rp2 9 (k := ?_); refine rp2 10 (k := ?_); refine rp2 11 (k := ?_); refine rp2 12 (k := ?_); refine rp2 13 (k := ?_); refine rp2 14 (k := ?_); refine rp2 15 (k := ?_); refine dd ?_; refine hJ20 _ _ ?_; refine hK19 _ _ ?_; refine cf ?_; refine run_skip ?_; refine hK18 _ _ ?_; refine rg' (h := fun J28 hJ28 => ?_); refine hJ28 _ _ ?_; refine hK17 _ _ ?_; refine rg' (h := fun J29 hJ29 => ?_); refine hJ29 _ _ ?_; refine ⟨(⟨x.i + 1, x.O ++ [y], x.b⟩), ⟨kp, lp, ?_, ?_, lp, lp, lp, lp⟩, lp⟩
       · have hb : x.b = true := (by simpa using g8_2)
         refine ⟨fun _ => ?_, fun e => by simp [hb] at e⟩
         show (x.O ++ [y]) ++ H.drop (x.i + 1) = T
         rw [← h2.1 hb, hdr]
         simp
       · simp
         omega
   (try exact nope c27); all_goals have c27p := c27; try simp [F] at c27p
   all_goals
    replace F := aF c27 F; try replace F := aF c27p F
    have hxi : x.i = H.length := by have h := c27; simp at h; omega
    have hte : H.take x.i = H := List.take_of_length_le (by omega)
    have p2 := fun objs => hap x.O e1 objs (by omega)
    simp only [← hQ1] at p2
    replace F := aF p2 F; refine run_exit ?_; refine hK11 _ _ ?_; refine sq fun K30 hK30 => ?_; refine sr fun _ hJ32 => ?_; refine hJ32 _ _ ?_; refine cs (fun c62 => ?_) (fun c62 => ?_)
    · (try exact nope c62); all_goals have c62p := c62; try simp [F] at c62p
      all_goals
       replace F := aF c62 F; try replace F := aF c62p F
       have hb : x.b = false := by simpa using c62
       obtain ⟨ho, hle⟩ := h2.2 hb
       have hTO : T = x.O ++ [e1] := by rw [hT, insG_end itH (by rw [hte] at hle; exact hle), ho, hte]
       refine rg' (h := fun J33 hJ33 => ?_); refine hJ33 _ _ ?_; refine hK30 _ _ ?_; refine sr fun _ hJ35 => ?_; refine hJ35 _ _ ?_; refine sr fun _ hJ37 => ?_; refine hJ37 _ _ ?_; refine ra ?_
       refine ⟨by simp [F], lsT (x.O.length + 1), _, lsA σ.toks.length 14 (hpsC (x.O ++ [e1])) (x.O.length + 1), [Q1], Wk.refl _, by rw [hTO]; simpa using lsA_wk (k := σ.toks.length) (sz := 14) (n := x.O.length + 1) (cs := hpsC (x.O ++ [e1])) (fun h => by simp at h), rfl⟩
    (try exact nope c62); all_goals have c62p := c62; try simp [F] at c62p
    all_goals
     replace F := aF c62 F; try replace F := aF c62p F
     have hb : x.b = true := by simpa using c62
     have hTO : T = x.O := by have e := h2.1 hb; rw [List.drop_of_length_le (by omega), List.append_nil] at e; exact e.symm
     refine run_skip ?_; refine hK30 _ _ ?_; refine sr fun _ hJ39 => ?_; refine hJ39 _ _ ?_; refine sr fun _ hJ41 => ?_; refine hJ41 _ _ ?_; refine ra ?_
     refine ⟨by simp [F], lsT x.O.length, _, lsA σ.toks.length 14 (hpsC x.O) x.O.length, [Q1], Wk.refl _, by rw [hTO]; exact lsA_wk (k := σ.toks.length) (sz := 14) (n := x.O.length) (cs := hpsC x.O) (fun h => by rw [List.eq_nil_of_length_eq_zero h]; rfl), rfl⟩
set_option maxHeartbeats 1600000 in
attribute [local simp] undefA List.getElem?_cons_zero List.getElem?_cons_succ hpC in
theorem jumping1_ok {σ : St} {a b c : Nat} {ow fr tt : UInt8} {e : Hp} (ha : σ.objs[a]? = some [.v (.int .u8 ow.toNat)]) (hb : σ.objs[b]? = some [.v (.int .u8 fr.toNat)]) (hc : σ.objs[c]? = some [.v (.int .u8 tt.toNat)]) :
    CallsA Try.prog 105 [.agg (hpC e), .ptr a 0, .ptr b 0, .ptr c 0] σ (fun av σ' => av = .v (.bool (decide (e.o = ow ∧ e.f = fr ∧ e.t = tt))) ∧ σ = σ') := by
  refine callsA_gcS ?_ rfl
  have ga : ∀ x, (σ.objs ++ [x])[a]? = some [.v (.int .u8 ow.toNat)] := fun x => by rw [List.getElem?_append_left (lt_of_get ha)]; exact ha
  have gb : ∀ x, (σ.objs ++ [x])[b]? = some [.v (.int .u8 fr.toNat)] := fun x => by rw [List.getElem?_append_left (lt_of_get hb)]; exact hb
  have gc : ∀ x, (σ.objs ++ [x])[c]? = some [.v (.int .u8 tt.toNat)] := fun x => by rw [List.getElem?_append_left (lt_of_get hc)]; exact hc
  have hu := u8_beq
  have F := And.intro ga (And.intro gb (And.intro gc (And.intro hu (True.intro))))
  refine callsA_body Try.func105 rfl rfl rfl ?_; refine sr fun _ hJ2 => ?_; refine hJ2 _ _ ?_; refine sr fun _ hJ4 => ?_; refine gs 10 (fun g1_4 => ?_) (fun g1_4 => ?_)
  · (try exact nope g1_4); all_goals have g1_4p := g1_4; try simp [F] at g1_4p
    all_goals
     replace F := aF g1_4 F; try replace F := aF g1_4p F
     have hl : e.o = ow := by have h := g1_4; simp [u8_beq] at h; first | exact h | exact UInt8.toNat_inj.1 (by omega)
     replace F := aF hl F; (iterate 4 refine go2 (k := ?_)); refine gs 16 (fun g1_10 => ?_) (fun g1_10 => ?_)
     · (try exact nope g1_10); all_goals have g1_10p := g1_10; try simp [F] at g1_10p
       all_goals
        replace F := aF g1_10 F; try replace F := aF g1_10p F
        have hm : e.f = fr := by have h := g1_10; simp [u8_beq, hl] at h; first | exact h | exact UInt8.toNat_inj.1 (by omega)
        replace F := aF hm F; (iterate 4 refine go2 (k := ?_)); refine hJ4 _ _ ?_; refine ra ?_; exact gcr
     (try exact nope g1_10); all_goals have g1_10p := g1_10; try simp [F] at g1_10p
     all_goals
      replace F := aF g1_10 F; try replace F := aF g1_10p F
      have hm : ¬ e.f = fr ∨ ¬ e.o = ow := by
        by_cases e0 : e.o = ow
        · have h := g1_10; simp [u8_beq, hl, e0] at h; first | exact .inl h | exact .inl (fun e => h (by rw [e]))
        · exact .inr e0
      replace F := aF hm F; (iterate 4 refine no2 (k := ?_)); refine hJ4 _ _ ?_; refine ra ?_; exact gcr
  (try exact nope g1_4); all_goals have g1_4p := g1_4; try simp [F] at g1_4p
  all_goals
   replace F := aF g1_4 F; try replace F := aF g1_4p F
   have hl : ¬ e.o = ow := by have h := g1_4; simp [u8_beq] at h; intro e; rw [e] at h; exact h rfl
   replace F := aF hl F; (iterate 8 refine no2 (k := ?_)); refine hJ4 _ _ ?_; refine ra ?_; exact gcr

set_option maxHeartbeats 1600000 in
attribute [local simp] undefA List.getElem?_cons_zero List.getElem?_cons_succ hpC in
theorem came1_ok {σ : St} {a b c now : Nat} {ow tt : UInt8} {e : Hp} (ha : σ.objs[a]? = some [.v (.int .u8 ow.toNat)]) (hb : σ.objs[b]? = some [.v (.int .u8 tt.toNat)]) (hc : σ.objs[c]? = some [.v (.int .u64 now)]) :
    CallsA Try.prog 106 [.agg (hpC e), .ptr a 0, .ptr b 0, .ptr c 0] σ (fun av σ' => av = .v (.bool (decide (e.o = ow ∧ e.t = tt ∧ now < e.d))) ∧ σ = σ') := by
  refine callsA_gcS ?_ rfl
  have ga : ∀ x, (σ.objs ++ [x])[a]? = some [.v (.int .u8 ow.toNat)] := fun x => by rw [List.getElem?_append_left (lt_of_get ha)]; exact ha
  have gb : ∀ x, (σ.objs ++ [x])[b]? = some [.v (.int .u8 tt.toNat)] := fun x => by rw [List.getElem?_append_left (lt_of_get hb)]; exact hb
  have gc : ∀ x, (σ.objs ++ [x])[c]? = some [.v (.int .u64 now)] := fun x => by rw [List.getElem?_append_left (lt_of_get hc)]; exact hc
  have hu := u8_beq
  have F := And.intro ga (And.intro gb (And.intro gc (And.intro hu (True.intro))))
  refine callsA_body Try.func106 rfl rfl rfl ?_; refine sr fun _ hJ2 => ?_; refine hJ2 _ _ ?_; refine sr fun _ hJ4 => ?_; refine gs 10 (fun g1_4 => ?_) (fun g1_4 => ?_)
  · (try exact nope g1_4); all_goals have g1_4p := g1_4; try simp [F] at g1_4p
    all_goals
     replace F := aF g1_4 F; try replace F := aF g1_4p F
     have hl : e.o = ow := by have h := g1_4; simp [u8_beq] at h; first | exact h | exact UInt8.toNat_inj.1 (by omega)
     replace F := aF hl F; (iterate 4 refine go2 (k := ?_)); refine gs 16 (fun g1_10 => ?_) (fun g1_10 => ?_)
     · (try exact nope g1_10); all_goals have g1_10p := g1_10; try simp [F] at g1_10p
       all_goals
        replace F := aF g1_10 F; try replace F := aF g1_10p F
        have hm : e.t = tt := by have h := g1_10; simp [u8_beq, hl] at h; first | exact h | exact UInt8.toNat_inj.1 (by omega)
        replace F := aF hm F; (iterate 4 refine go2 (k := ?_)); refine hJ4 _ _ ?_; refine ra ?_; exact gcr
     (try exact nope g1_10); all_goals have g1_10p := g1_10; try simp [F] at g1_10p
     all_goals
      replace F := aF g1_10 F; try replace F := aF g1_10p F
      have hm : ¬ e.t = tt ∨ ¬ e.o = ow := by
        by_cases e0 : e.o = ow
        · have h := g1_10; simp [u8_beq, hl, e0] at h; first | exact .inl h | exact .inl (fun e => h (by rw [e]))
        · exact .inr e0
      replace F := aF hm F; (iterate 4 refine no2 (k := ?_)); refine hJ4 _ _ ?_; refine ra ?_; exact gcr
  (try exact nope g1_4); all_goals have g1_4p := g1_4; try simp [F] at g1_4p
  all_goals
   replace F := aF g1_4 F; try replace F := aF g1_4p F
   have hl : ¬ e.o = ow := by have h := g1_4; simp [u8_beq] at h; intro e; rw [e] at h; exact h rfl
   replace F := aF hl F; (iterate 8 refine no2 (k := ?_)); refine hJ4 _ _ ?_; refine ra ?_; exact gcr

set_option maxHeartbeats 1600000 in
attribute [local simp] undefA List.getElem?_cons_zero List.getElem?_cons_succ in
theorem jumping_ok {σ : St} {o k n : Nat} {G : Sg} {E : List Hp} {ow fr tt : UInt8} (h : HasS σ o k G) (hG : G.s.Ok n) (hn : n ≤ 900000) (hE : allL G.s.l 104 = E.map itH) (hok : ∀ e ∈ E, e.Ok) (hl : E.length ≤ 1000000) :
    CallsA Try.prog 66 [.ptr o 0, .v (.int .u8 ow.toNat), .v (.int .u8 fr.toNat), .v (.int .u8 tt.toNat)] σ (fun av σ' => av = .v (.int .i64 ((E.filter fun e => decide (e.o = ow ∧ e.f = fr ∧ e.t = tt)).length : Nat)) ∧ σ = σ') := by
  refine callsA_gcS ?_ rfl
  have hal := fun l => allH_ok (h.app l σ.toks) hG hn hE hok
  have hct := countH_ok (σ := { σ with objs := σ.objs ++ [[.v (.int .u8 ow.toNat)], [.v (.int .u8 fr.toNat)], [.v (.int .u8 tt.toNat)]] }) (tl := .shut) (f := 105) (caps := [.ptr σ.objs.length 0, .ptr (σ.objs.length + 1) 0, .ptr (σ.objs.length + 2) 0]) (p := fun e => decide (e.o = ow ∧ e.f = fr ∧ e.t = tt)) hl rfl (by simp [noObjL, AV.noObj]) (fun l e => jumping1_ok (by simp) (by simp) (by simp))
  have F := True.intro
  refine callsA_body Try.func66 rfl rfl rfl ?_; refine sr fun _ hJ2 => ?_; refine hJ2 _ _ ?_; refine sr fun _ hJ4 => ?_; refine ca (c := hal _) (k := ?_); rintro _ _ ⟨rfl, rfl⟩; (repeat (first | simp [F] | simp (disch := omega) only [wC, if_pos, if_neg])); refine ca (c := hct) (k := ?_); rintro _ _ ⟨rfl, rfl⟩; (repeat (first | simp [F] | simp (disch := omega) only [wC, if_pos, if_neg])); refine hJ4 _ _ ?_; refine ra ?_; exact gcr

set_option maxHeartbeats 1600000 in
attribute [local simp] undefA List.getElem?_cons_zero List.getElem?_cons_succ in
theorem came_ok {σ : St} {o k n : Nat} {G : Sg} {E : List Hp} {ow tt : UInt8} {now : Nat} (h : HasS σ o k G) (hG : G.s.Ok n) (hn : n ≤ 900000) (hE : allL G.s.l 104 = E.map itH) (hok : ∀ e ∈ E, e.Ok) (hl : E.length ≤ 1000000) :
    CallsA Try.prog 68 [.ptr o 0, .v (.int .u8 ow.toNat), .v (.int .u8 tt.toNat), .v (.int .u64 now)] σ (fun av σ' => av = .v (.bool (decide (0 < (E.filter fun e => decide (e.o = ow ∧ e.t = tt ∧ now < e.d)).length))) ∧ σ = σ') := by
  refine callsA_gcS ?_ rfl
  have hal := fun l => allH_ok (h.app l σ.toks) hG hn hE hok
  have hct := countH_ok (σ := { σ with objs := σ.objs ++ [[.v (.int .u8 ow.toNat)], [.v (.int .u8 tt.toNat)], [.v (.int .u64 now)]] }) (tl := .shut) (f := 106) (caps := [.ptr σ.objs.length 0, .ptr (σ.objs.length + 1) 0, .ptr (σ.objs.length + 2) 0]) (p := fun e => decide (e.o = ow ∧ e.t = tt ∧ now < e.d)) hl rfl (by simp [noObjL, AV.noObj]) (fun l e => came1_ok (by simp) (by simp) (by simp))
  have F := True.intro
  refine callsA_body Try.func68 rfl rfl rfl ?_; refine sr fun _ hJ2 => ?_; refine hJ2 _ _ ?_; refine sr fun _ hJ4 => ?_; refine ca (c := hal _) (k := ?_); rintro _ _ ⟨rfl, rfl⟩; (repeat (first | simp [F] | simp (disch := omega) only [wC, if_pos, if_neg])); refine ca (c := hct) (k := ?_); rintro _ _ ⟨rfl, rfl⟩; (repeat (first | simp [F] | simp (disch := omega) only [wC, if_pos, if_neg])); refine hJ4 _ _ ?_; refine ra ?_; exact gcr
theorem remG_snoc {α : Type} (it : α → It) (l : List α) (y : α) (d n : Nat) : remG it (l ++ [y]) d n = remG it l d n ++ (if isG it d n y then [] else [y]) := by
  rw [remG, remG, List.filter_append, List.filter_cons]
  cases isG it d n y <;> rfl
theorem repG_snoc {α : Type} (it : α → It) (l : List α) (y x : α) : repG it (l ++ [y]) x = repG it l x ++ [if isG it (it x).d (it x).n y then x else y] := by
  simp [repG]
def ediG (gone : Bool) (l : List En) (e : En) : List En := if gone then remG itE l e.d e.n else repG itE l e
theorem ediG_snoc (gone : Bool) (l : List En) (y e : En) : ediG gone (l ++ [y]) e = ediG gone l e ++ (if isG itE e.d e.n y then (if gone then [] else [e]) else [y]) := by
  cases gone with
  | true => simp only [ediG, if_true]; rw [remG_snoc]
  | false =>
    simp only [ediG, Bool.false_eq_true, if_false]
    rw [repG_snoc]
    show _ ++ [if isG itE e.d e.n y then e else y] = _
    cases isG itE e.d e.n y <;> rfl
theorem ediG_le (gone : Bool) (l : List En) (e : En) : (ediG gone l e).length ≤ l.length := by
  cases gone with
  | true => exact List.length_filter_le _ _
  | false => simp [ediG, repG]
theorem remG_le {α : Type} (it : α → It) (l : List α) (d n : Nat) : (remG it l d n).length ≤ l.length := List.length_filter_le _ _
theorem remG_lt {α : Type} (it : α → It) (d n : Nat) : ∀ l : List α, decide ((remG it l d n).length < l.length) = l.any (isG it d n)
  | [] => rfl
  | y :: l => by
    have ih := remG_lt it d n l
    have hle := remG_le it l d n
    simp only [remG, List.filter_cons, List.any_cons] at ih hle ⊢
    cases h : isG it d n y with
    | true => simp; omega
    | false => simp only [Bool.not_false, if_true, List.length_cons, Nat.add_lt_add_iff_right, Bool.false_or]; exact ih

set_option maxHeartbeats 1600000 in
attribute [local simp] undefA List.getElem?_cons_zero List.getElem?_cons_succ drop_mr lsA_nil lsT_nil lsZ_nil lsL_nil gcO_ls noObj_ls ensC_noObj in
theorem wedit_ok {σ : St} {w : Nat} {W : Wd} {e : En} {gone : Bool} (h : σ.objs[w]? = some (wC W)) (hl : W.E.length ≤ 1000000) :
    CallsA Try.prog 99 [.ptr w 0, .agg (enC e), .v (.bool gone)] σ (fun av σ' => av = .v (.bool (W.E.any (isG itE e.d e.n))) ∧ σ' = { σ with objs := σ.objs.set w (wC { W with E := ediG gone W.E e }) }) := by
  have hw := lt_of_get h
  obtain ⟨E, H, a, b⟩ := W
  simp only at hl ⊢
  obtain ⟨T, hT⟩ : ∃ T, T = ediG gone E e := ⟨_, rfl⟩
  simp only [← hT]
  refine wcall hw rfl ?_; simp only [wC] at h ⊢
  have hap : ∀ (O : List En) (x : En) objs, O.length ≤ 1000001 → appendA Try.prog 86 (lsA σ.toks.length 13 (ensC O) O.length) (.sl 13 (enC x) 1 .full) ⟨objs, σ.toks ++ lsT O.length, σ.gl, σ.rows⟩ = some (lsA σ.toks.length 13 (ensC (O ++ [x])) (O.length + 1), ⟨objs, σ.toks ++ lsT (O.length + 1), σ.gl, σ.rows⟩) := fun O x objs hO => by
    rw [ensC_app, show ensC [x] = enC x by simp [ensC]]
    exact append_ls elemT_86 ti_81 (by decide) rfl (fun h => by rw [List.eq_nil_of_length_eq_zero h]; rfl) rfl (by omega) (by simp only [roomA]; omega) (by simp only [maxLen]; omega)
  have hEc := ensC_len E
  obtain ⟨Q, hQ⟩ : ∃ Q, Q = enC e := ⟨_, rfl⟩
  have hQl : Q.length = 13 := by rw [hQ]; rfl
  have hQt : List.take 13 Q = Q := by subst hQ; rfl
  have hQd : ∀ h2 : 4 < Q.length, Q[4]'h2 = .v (.int .u64 (e.d : Nat)) := fun h2 => by subst hQ; rfl
  have hQn : ∀ h2 : 0 < Q.length, Q[0]'h2 = .v (.int .u64 (e.n : Nat)) := fun h2 => by subst hQ; rfl
  have hQc : (∀ x, x ∈ Q → x.isCell = true) = True := eq_true (by rw [hQ]; exact cellE e)
  simp only [AV.isCell] at hQc
  have ho1 : ∀ r, (σ.objs ++ r)[w]? = some _ := fun r => by rw [List.getElem?_append_left hw]; exact h
  have ho3 : ∀ x r, (σ.objs ++ r).set w x = σ.objs.set w x ++ r := fun x r => List.set_append_left _ _ hw
  have hw1 : w < σ.objs.length + 1 := by omega
  have hge : ∀ h2 : w < σ.objs.length, σ.objs[w]'h2 = _ := fun h2 => (List.getElem?_eq_some_iff.1 h).2
  have hQo : ∀ nb, noObjL nb Q = true := fun _ => by rw [hQ]; rfl
  rw [← hQ]
  simp only [wX] at ho1 hge ⊢
  have F := And.intro hEc (And.intro hQl (And.intro hQt (And.intro hQd (And.intro hQn (And.intro hQc (And.intro hQo (And.intro ho1 (And.intro ho3 (And.intro hge (And.intro hw (And.intro hw1 (True.intro))))))))))))
  refine callsA_body Try.func99 rfl rfl rfl ?_; refine sr fun _ hJ2 => ?_; refine hJ2 _ _ ?_; refine sr fun _ hJ4 => ?_; refine hJ4 _ _ ?_; refine sr fun _ hJ6 => ?_; refine hJ6 _ _ ?_; refine sq fun K7 hK7 => ?_; refine sr fun _ hJ9 => ?_; refine hJ9 _ _ ?_; refine run_block_k ?_; refine run_loopG (X := Nat) [0, 2, 4, 6] (fun i ρ σ1 => (i ≤ E.length) ∧ (ρ 7 = lsA σ.toks.length 13 (ensC (ediG gone (E.take i) e)) (ediG gone (E.take i) e).length) ∧ (ρ 8 = .v (.bool ((E.take i).any (isG itE e.d e.n)))) ∧ (ρ 9 = .v (.int .i64 i)) ∧ (σ1 = { σ with objs := σ.objs ++ [Q], toks := σ.toks ++ lsT (ediG gone (E.take i) e).length })) (fun i => E.length - i) (0) ?st1 ?rd1
  case st1 =>
   refine ⟨lp, ?_, lp, lp, ?_⟩
   · cases gone <;> rfl
   · simp [lsT_nil, ediG, remG, repG]
  case rd1 =>
   rintro i ρ1 σ1 hF1 ⟨h1, h4, h5, h6, hσ⟩; obtain rfl := hσ.symm
   have f1 := keepL hF1
   (try simp [KeepL, F] at f1); replace F := aF h4 F; replace F := aF h5 F; replace F := aF h6 F; (try replace F := aF f1 F); refine sq fun K10 hK10 => ?_; refine sr fun _ hJ12 => ?_; refine hJ12 _ _ ?_; refine cs (fun c18 => ?_) (fun c18 => ?_)
   · (try exact nope c18); all_goals have c18p := c18; try simp [F] at c18p
     all_goals
      replace F := aF c18 F; try replace F := aF c18p F
      have hlt : i < E.length := by have h := c18; simp at h; omega
      obtain ⟨R, hR⟩ := ensC_at (l := E) (i := i) hlt
      obtain ⟨y, hy⟩ : ∃ y, y = E[i] := ⟨_, rfl⟩
      rw [← hy] at hR
      have hR3 : List.take 13 (List.drop (i * 13) (ensC E)) = enC y := by rw [hR]; rfl
      have d3 : i * 13 + 13 ≤ E.length * 13 := by omega
      have hi1 : i + 1 ≤ E.length := hlt
      have hwi : IntKind.i64.wrap ((i : Int) + 1) = (i : Int) + 1 := wrap_i64 _ (by omega) (by omega)
      have hta : E.take (i + 1) = E.take i ++ [y] := by rw [hy]; exact (List.take_append_getElem hlt).symm
      have hsn := ediG_snoc gone (E.take i) y e
      rw [← hta] at hsn
      have hol := ediG_le gone (E.take i) e
      have htl : (E.take i).length = i := by rw [List.length_take]; omega
      have han : (E.take (i + 1)).any (isG itE e.d e.n) = ((E.take i).any (isG itE e.d e.n) || isG itE e.d e.n y) := by rw [hta, List.any_append]; simp
      obtain ⟨O, hO⟩ : ∃ O, O = ediG gone (E.take i) e := ⟨_, rfl⟩
      rw [← hO] at hsn hol h4
      rw [htl] at hol
      have p1 := fun objs => hap O y objs (by omega)
      have p2 := fun objs => hap O e objs (by omega)
      have hyc : (∀ x, x ∈ enC y → x.isCell = true) = True := eq_true (cellE y)
      have hyl : (enC y).length = 13 := rfl
      have hyt : List.take 13 (enC y) = enC y := rfl
      have hyo : ∀ nb, noObjL nb (enC y) = true := fun _ => rfl
      obtain ⟨Y, hY⟩ : ∃ Y, Y = enC y := ⟨_, rfl⟩
      have hyd : ∀ h2 : 4 < Y.length, Y[4]'h2 = .v (.int .u64 (y.d : Nat)) := fun h2 => by subst hY; rfl
      have hyn : ∀ h2 : 0 < Y.length, Y[0]'h2 = .v (.int .u64 (y.n : Nat)) := fun h2 => by subst hY; rfl
      rw [← hY] at hyc hyl hR3 hyt
      simp only [← hY] at hyo
      simp only [AV.isCell] at hyc
      simp only [← hY] at p1
      simp only [← hQ] at p2
      have hO2 := hO.symm
      replace F := aF hwi (And.intro hO2 (And.intro h4 (And.intro hyo F))); replace F := aF hlt (And.intro hR3 (And.intro d3 (And.intro hi1 (And.intro hyc (And.intro hyl (And.intro hyt (And.intro hyd (And.intro hyn (And.intro p1 (And.intro p2 F)))))))))); refine run_skip ?_; refine hK10 _ _ ?_; refine sq fun K13 hK13 => ?_; refine run_block_k ?_; refine sr fun _ hJ15 => ?_; refine hJ15 _ _ ?_; refine sq fun K16 hK16 => ?_; refine sr fun _ hJ18 => ?_; refine gs 34 (fun g7_5 => ?_) (fun g7_5 => ?_)
      · (try exact nope g7_5); all_goals have g7_5p := g7_5; try simp [F] at g7_5p
        all_goals
         replace F := aF g7_5 F; try replace F := aF g7_5p F
         have hng : isG itE e.d e.n y = false := by
           rw [isG_iff, decide_eq_false_iff_not]; rintro ⟨q1, q2⟩; have g := g7_5; simp [q1] at g
         rw [hng] at hsn han
         simp only [Bool.false_eq_true, if_false, Bool.or_false] at hsn han
         replace F := aF hsn (And.intro han F); (iterate 5 refine no2 (k := ?_)); refine hJ18 _ _ ?_; refine ct ?_; refine sr fun _ hJ20 => ?_; refine hJ20 _ _ ?_; refine run_exit ?_; refine hK13 _ _ ?_; refine rg' (h := fun J21 hJ21 => ?_); refine hJ21 _ _ ?_; refine ⟨gk, (i + 1), ⟨kpG, lpG, lpG, lpG, lpG, lpG⟩, lpG⟩
      (try exact nope g7_5); all_goals have g7_5p := g7_5; try simp [F] at g7_5p
      all_goals
       replace F := aF g7_5 F; (try replace F := aF g7_5p F); (iterate 5 refine go2 (k := ?_)); refine hJ18 _ _ ?_; refine cs (fun c40 => ?_) (fun c40 => ?_)
       · (try exact nope c40); all_goals have c40p := c40; try simp [F] at c40p
         all_goals
          replace F := aF c40 F; try replace F := aF c40p F
          have hng : isG itE e.d e.n y = false := by
            rw [isG_iff, decide_eq_false_iff_not]; rintro ⟨q1, q2⟩; have h := c40; have g := g7_5
            first | (simp [q1, q2] at g; done) | (simp [q1, q2] at h; done)
          rw [hng] at hsn han
          simp only [Bool.false_eq_true, if_false, Bool.or_false] at hsn han
          replace F := aF hsn (And.intro han F); refine sr fun _ hJ23 => ?_; refine hJ23 _ _ ?_; refine run_exit ?_; refine hK13 _ _ ?_; refine rg' (h := fun J24 hJ24 => ?_); refine hJ24 _ _ ?_; refine ⟨gk, (i + 1), ⟨kpG, lpG, lpG, lpG, lpG, lpG⟩, lpG⟩
       (try exact nope c40); all_goals have c40p := c40; try simp [F] at c40p
       all_goals
        replace F := aF c40 F; try replace F := aF c40p F
        have hye : isG itE e.d e.n y = true := by
          rw [isG_iff, decide_eq_true_eq]; have h := c40; have g := g7_5; simp at h g; exact ⟨by omega, by omega⟩
        rw [hye] at hsn han
        simp only [if_true, Bool.or_true] at hsn han
        replace F := aF han F; refine run_skip ?_; refine hK16 _ _ ?_; refine sr fun _ hJ26 => ?_; refine hJ26 _ _ ?_; refine sr fun _ hJ28 => ?_; refine hJ28 _ _ ?_; refine cs (fun c46 => ?_) (fun c46 => ?_)
        · (try exact nope c46); all_goals have c46p := c46; try simp [F] at c46p
          all_goals
           replace F := aF c46 F; try replace F := aF c46p F
           have hgo : gone = false := by simpa using c46
           have hs2 : ediG gone (E.take (i + 1)) e = O ++ [e] := by rw [hsn, hgo]; rfl
           have hs3 := hs2
           rw [hgo] at hs3
           replace F := aF hs2 (And.intro hs3 F); refine rg' (h := fun J29 hJ29 => ?_); refine hJ29 _ _ ?_; refine hK13 _ _ ?_; refine rg' (h := fun J30 hJ30 => ?_); refine hJ30 _ _ ?_; refine ⟨gk, (i + 1), ⟨kpG, lpG, lpG, lpG, lpG, lpG⟩, lpG⟩
        (try exact nope c46); all_goals have c46p := c46; try simp [F] at c46p
        all_goals
         replace F := aF c46 F; try replace F := aF c46p F
         have hgo : gone = true := by simpa using c46
         have hs2 : ediG gone (E.take (i + 1)) e = O := by rw [hsn, hgo]; simp
         have hs3 := hs2
         rw [hgo] at hs3
         replace F := aF hs2 (And.intro hs3 F); refine run_skip ?_; refine hK13 _ _ ?_; refine rg' (h := fun J31 hJ31 => ?_); refine hJ31 _ _ ?_; refine ⟨gk, (i + 1), ⟨kpG, lpG, lpG, lpG, lpG, lpG⟩, lpG⟩
   (try exact nope c18); all_goals have c18p := c18; try simp [F] at c18p
   all_goals
    replace F := aF c18 F; try replace F := aF c18p F
    have hje : E.take i = E := List.take_of_length_le (by have h := c18; simp at h; omega)
    rw [hje, ← hT] at h4
    rw [hje] at h5
    replace F := aF hje (And.intro h4 (And.intro h5 F))
    have hT2 := hT.symm
    replace F := aF hT2 F; refine run_exit ?_; refine hK7 _ _ ?_; refine sr fun _ hJ33 => ?_; refine hJ33 _ _ ?_; refine sr fun _ hJ35 => ?_; refine hJ35 _ _ ?_; refine ra ?_
    refine ⟨by simp [F], lsT T.length, lsA σ.toks.length 13 (ensC T) T.length, _, [Q], lsA_wk (fun h => by rw [List.eq_nil_of_length_eq_zero h]; rfl), Wk.refl _, by simp [F]⟩

set_option maxHeartbeats 1600000 in
attribute [local simp] undefA List.getElem?_cons_zero List.getElem?_cons_succ drop_mr lsA_nil lsT_nil lsZ_nil lsL_nil gcO_ls noObj_ls hpsC_noObj in
theorem wdrop_ok {σ : St} {w : Nat} {W : Wd} {e : Hp} (h : σ.objs[w]? = some (wC W)) (hl : W.H.length ≤ 1000000) :
    CallsA Try.prog 101 [.ptr w 0, .agg (hpC e)] σ (fun av σ' => av = .v (.bool (W.H.any (isG itH e.d e.n))) ∧ σ' = { σ with objs := σ.objs.set w (wC { W with H := remG itH W.H e.d e.n }) }) := by
  have hw := lt_of_get h
  obtain ⟨E, H, a, b⟩ := W
  simp only at hl ⊢
  obtain ⟨T, hT⟩ : ∃ T, T = remG itH H e.d e.n := ⟨_, rfl⟩
  simp only [← hT]
  refine wcall hw rfl ?_; simp only [wC] at h ⊢
  have hap : ∀ (O : List Hp) (x : Hp) objs, O.length ≤ 1000001 → appendA Try.prog 88 (lsA σ.toks.length 14 (hpsC O) O.length) (.sl 14 (hpC x) 1 .full) ⟨objs, σ.toks ++ lsT O.length, σ.gl, σ.rows⟩ = some (lsA σ.toks.length 14 (hpsC (O ++ [x])) (O.length + 1), ⟨objs, σ.toks ++ lsT (O.length + 1), σ.gl, σ.rows⟩) := fun O x objs hO => by
    rw [hpsC_app, show hpsC [x] = hpC x by simp [hpsC]]
    exact append_ls elemT_88 ti_83 (by decide) rfl (fun h => by rw [List.eq_nil_of_length_eq_zero h]; rfl) rfl (by omega) (by simp only [roomA]; omega) (by simp only [maxLen]; omega)
  have hEc := hpsC_len H
  obtain ⟨Q, hQ⟩ : ∃ Q, Q = hpC e := ⟨_, rfl⟩
  have hQl : Q.length = 14 := by rw [hQ]; rfl
  have hQt : List.take 14 Q = Q := by subst hQ; rfl
  have hQd : ∀ h2 : 5 < Q.length, Q[5]'h2 = .v (.int .u64 (e.d : Nat)) := fun h2 => by subst hQ; rfl
  have hQn : ∀ h2 : 0 < Q.length, Q[0]'h2 = .v (.int .u64 (e.n : Nat)) := fun h2 => by subst hQ; rfl
  have hQc : (∀ x, x ∈ Q → x.isCell = true) = True := eq_true (by rw [hQ]; exact cellH e)
  simp only [AV.isCell] at hQc
  have ho1 : ∀ r, (σ.objs ++ r)[w]? = some _ := fun r => by rw [List.getElem?_append_left hw]; exact h
  have ho3 : ∀ x r, (σ.objs ++ r).set w x = σ.objs.set w x ++ r := fun x r => List.set_append_left _ _ hw
  have hw1 : w < σ.objs.length + 1 := by omega
  have hge : ∀ h2 : w < σ.objs.length, σ.objs[w]'h2 = _ := fun h2 => (List.getElem?_eq_some_iff.1 h).2
  have hQo : ∀ nb, noObjL nb Q = true := fun _ => by rw [hQ]; rfl
  rw [← hQ]
  simp only [wX] at ho1 hge ⊢
  have F := And.intro hEc (And.intro hQl (And.intro hQt (And.intro hQd (And.intro hQn (And.intro hQc (And.intro hQo (And.intro ho1 (And.intro ho3 (And.intro hge (And.intro hw (And.intro hw1 (True.intro))))))))))))
  refine callsA_body Try.func101 rfl rfl rfl ?_; refine sr fun _ hJ2 => ?_; refine hJ2 _ _ ?_; refine sr fun _ hJ4 => ?_; refine hJ4 _ _ ?_; refine sq fun K5 hK5 => ?_; refine sr fun _ hJ7 => ?_; refine hJ7 _ _ ?_; refine run_block_k ?_; refine run_loopG (X := Nat) [0, 3, 4] (fun i ρ σ1 => (i ≤ H.length) ∧ (ρ 5 = lsA σ.toks.length 14 (hpsC (remG itH (H.take i) e.d e.n)) (remG itH (H.take i) e.d e.n).length) ∧ (ρ 6 = .v (.int .i64 i)) ∧ (σ1 = { σ with objs := σ.objs ++ [Q], toks := σ.toks ++ lsT (remG itH (H.take i) e.d e.n).length })) (fun i => H.length - i) (0) ?st1 ?rd1
  case st1 =>
   refine ⟨lp, lp, lp, ?_⟩
   · simp [lsT_nil, remG]
  case rd1 =>
   rintro i ρ1 σ1 hF1 ⟨h1, h4, h6, hσ⟩; obtain rfl := hσ.symm
   have f1 := keepL hF1
   (try simp [KeepL, F] at f1); replace F := aF h4 F; replace F := aF h6 F; (try replace F := aF f1 F); refine sq fun K8 hK8 => ?_; refine sr fun _ hJ10 => ?_; refine hJ10 _ _ ?_; refine cs (fun c16 => ?_) (fun c16 => ?_)
   · (try exact nope c16); all_goals have c16p := c16; try simp [F] at c16p
     all_goals
      replace F := aF c16 F; try replace F := aF c16p F
      have hlt : i < H.length := by have h := c16; simp at h; omega
      obtain ⟨R, hR⟩ := hpsC_at (l := H) (i := i) hlt
      obtain ⟨y, hy⟩ : ∃ y, y = H[i] := ⟨_, rfl⟩
      rw [← hy] at hR
      have hR3 : List.take 14 (List.drop (i * 14) (hpsC H)) = hpC y := by rw [hR]; rfl
      have d3 : i * 14 + 14 ≤ H.length * 14 := by omega
      have hi1 : i + 1 ≤ H.length := hlt
      have hwi : IntKind.i64.wrap ((i : Int) + 1) = (i : Int) + 1 := wrap_i64 _ (by omega) (by omega)
      have hta : H.take (i + 1) = H.take i ++ [y] := by rw [hy]; exact (List.take_append_getElem hlt).symm
      have hsn := remG_snoc itH (H.take i) y e.d e.n
      rw [← hta] at hsn
      have hol := remG_le itH (H.take i) e.d e.n
      have htl : (H.take i).length = i := by rw [List.length_take]; omega
      obtain ⟨O, hO⟩ : ∃ O, O = remG itH (H.take i) e.d e.n := ⟨_, rfl⟩
      rw [← hO] at hsn hol h4
      rw [htl] at hol
      have p1 := fun objs => hap O y objs (by omega)
      have hyc : (∀ x, x ∈ hpC y → x.isCell = true) = True := eq_true (cellH y)
      have hyl : (hpC y).length = 14 := rfl
      have hyt : List.take 14 (hpC y) = hpC y := rfl
      have hyo : ∀ nb, noObjL nb (hpC y) = true := fun _ => rfl
      obtain ⟨Y, hY⟩ : ∃ Y, Y = hpC y := ⟨_, rfl⟩
      have hyd : ∀ h2 : 5 < Y.length, Y[5]'h2 = .v (.int .u64 (y.d : Nat)) := fun h2 => by subst hY; rfl
      have hyn : ∀ h2 : 0 < Y.length, Y[0]'h2 = .v (.int .u64 (y.n : Nat)) := fun h2 => by subst hY; rfl
      rw [← hY] at hyc hyl hR3 hyt
      simp only [← hY] at hyo
      simp only [AV.isCell] at hyc
      simp only [← hY] at p1
      have hO2 := hO.symm
      replace F := aF hwi (And.intro hO2 (And.intro h4 (And.intro hyo F))); replace F := aF hlt (And.intro hR3 (And.intro d3 (And.intro hi1 (And.intro hyc (And.intro hyl (And.intro hyt (And.intro hyd (And.intro hyn (And.intro p1 F))))))))); refine run_skip ?_; refine hK8 _ _ ?_; refine sq fun K11 hK11 => ?_; refine run_block_k ?_; refine sr fun _ hJ13 => ?_; refine hJ13 _ _ ?_; refine sr fun _ hJ15 => ?_; refine gs 32 (fun g6_5 => ?_) (fun g6_5 => ?_)
      · (try exact nope g6_5); all_goals have g6_5p := g6_5; try simp [F] at g6_5p
        all_goals
         replace F := aF g6_5 F; try replace F := aF g6_5p F
         have hng : isG itH e.d e.n y = false := by
           rw [isH_iff, decide_eq_false_iff_not]; rintro ⟨q1, q2⟩; have g := g6_5; simp [q1] at g
         rw [hng] at hsn
         simp only [Bool.false_eq_true, if_false] at hsn
         replace F := aF hsn F; (iterate 5 refine no2 (k := ?_)); refine hJ15 _ _ ?_; refine ct ?_; refine rg' (h := fun J16 hJ16 => ?_); refine hJ16 _ _ ?_; refine hK11 _ _ ?_; refine rg' (h := fun J17 hJ17 => ?_); refine hJ17 _ _ ?_; refine ⟨gk, (i + 1), ⟨kpG, lpG, lpG, lpG, lpG⟩, lpG⟩
      (try exact nope g6_5); all_goals have g6_5p := g6_5; try simp [F] at g6_5p
      all_goals
       replace F := aF g6_5 F; (try replace F := aF g6_5p F); (iterate 5 refine go2 (k := ?_)); refine hJ15 _ _ ?_; refine cs (fun c38 => ?_) (fun c38 => ?_)
       · (try exact nope c38); all_goals have c38p := c38; try simp [F] at c38p
         all_goals
          replace F := aF c38 F; try replace F := aF c38p F
          have hng : isG itH e.d e.n y = false := by
            rw [isH_iff, decide_eq_false_iff_not]; rintro ⟨q1, q2⟩; have h := c38; have g := g6_5
            first | (simp [q1, q2] at g; done) | (simp [q1, q2] at h; done)
          rw [hng] at hsn
          simp only [Bool.false_eq_true, if_false] at hsn
          replace F := aF hsn F; refine rg' (h := fun J18 hJ18 => ?_); refine hJ18 _ _ ?_; refine hK11 _ _ ?_; refine rg' (h := fun J19 hJ19 => ?_); refine hJ19 _ _ ?_; refine ⟨gk, (i + 1), ⟨kpG, lpG, lpG, lpG, lpG⟩, lpG⟩
       (try exact nope c38); all_goals have c38p := c38; try simp [F] at c38p
       all_goals
        replace F := aF c38 F; try replace F := aF c38p F
        have hye : isG itH e.d e.n y = true := by
          rw [isH_iff, decide_eq_true_eq]; have h := c38; have g := g6_5; simp at h g; exact ⟨by omega, by omega⟩
        rw [hye] at hsn
        simp only [if_true, List.append_nil] at hsn
        replace F := aF hsn F; refine run_skip ?_; refine hK11 _ _ ?_; refine rg' (h := fun J20 hJ20 => ?_); refine hJ20 _ _ ?_; refine ⟨gk, (i + 1), ⟨kpG, lpG, lpG, lpG, lpG⟩, lpG⟩
   (try exact nope c16); all_goals have c16p := c16; try simp [F] at c16p
   all_goals
    replace F := aF c16 F; try replace F := aF c16p F
    have hje : H.take i = H := List.take_of_length_le (by have h := c16; simp at h; omega)
    rw [hje, ← hT] at h4
    have hlt9 := remG_lt itH e.d e.n H
    rw [← hT] at hlt9
    replace F := aF hje (And.intro h4 (And.intro hlt9 F))
    have hT2 := hT.symm
    replace F := aF hT2 F; refine run_exit ?_; refine hK5 _ _ ?_; refine sr fun _ hJ22 => ?_; refine hJ22 _ _ ?_; refine sr fun _ hJ24 => ?_; refine hJ24 _ _ ?_; refine sr fun _ hJ26 => ?_; refine hJ26 _ _ ?_; refine ra ?_
    refine ⟨by simp [F], lsT T.length, _, lsA σ.toks.length 14 (hpsC T) T.length, [Q], Wk.refl _, lsA_wk (fun h => by rw [List.eq_nil_of_length_eq_zero h]; rfl), by simp [F]⟩
theorem filt_snoc {α : Type} (p : α → Bool) (l : List α) (e : α) : ((l ++ [e]).filter p).length = (l.filter p).length + if p e then 1 else 0 := by
  rw [List.filter_append, List.length_append, List.filter_cons]; split <;> simp
theorem u8_eq {x y : UInt8} (h : ((x.toNat : Nat) : Int) = ((y.toNat : Nat) : Int)) : x = y := UInt8.toNat_inj.1 (by omega)

set_option maxHeartbeats 1600000 in
attribute [local simp] undefA List.getElem?_cons_zero List.getElem?_cons_succ in
theorem wleaving_ok {σ : St} {w : Nat} {W : Wd} {ow vl : UInt8} (h : σ.objs[w]? = some (wC W)) (hl : W.E.length ≤ 1000000) :
    CallsA Try.prog 65 [.ptr w 0, .v (.int .u8 ow.toNat), .v (.int .u8 vl.toNat)] σ (fun av σ' => av = .v (.int .i64 ((W.E.filter fun e => decide (e.o = ow ∧ e.v = vl)).length : Nat)) ∧ σ = σ') := by
  have hw := lt_of_get h
  obtain ⟨E, H, a, b⟩ := W
  simp only at hl ⊢
  simp only [wC, wX] at h
  have hge : ∀ h2 : w < σ.objs.length, σ.objs[w]'h2 = _ := fun h2 => (List.getElem?_eq_some_iff.1 h).2
  have ho1 : ∀ r, (σ.objs ++ r)[w]? = some _ := fun r => by rw [List.getElem?_append_left hw]; exact h
  have hw1 : w < σ.objs.length + 1 := by omega
  have hEc := ensC_len E
  obtain ⟨p, hp⟩ : ∃ p : En → Bool, p = fun e => decide (e.o = ow ∧ e.v = vl) := ⟨_, rfl⟩
  rw [← hp]
  have F := And.intro hEc (And.intro ho1 (And.intro h (And.intro hge (And.intro hw (And.intro hw1 (True.intro))))))
  refine callsA_body Try.func65 rfl rfl rfl ?_; refine sr fun _ hJ2 => ?_; refine hJ2 _ _ ?_; refine sr fun _ hJ4 => ?_; refine hJ4 _ _ ?_; refine sq fun K5 hK5 => ?_; refine sr fun _ hJ7 => ?_; refine hJ7 _ _ ?_; refine run_block_k ?_; refine run_loopF (X := Nat) [0, 1, 2, 6] (fun i ρ σ1 => (i ≤ E.length) ∧ (ρ 7 = .v (.int .i64 (((E.take i).filter p).length : Nat))) ∧ (ρ 8 = .v (.int .i64 i)) ∧ (σ1 = σ)) (fun i => E.length - i) (0) ?st1 ?rd1
  case st1 =>
   refine ⟨lp, lp, lp, lp⟩
  case rd1 =>
   rintro i ρ1 σ1 hF1 ⟨h1, h7, h6, hσ⟩; obtain rfl := hσ.symm
   have f1 := keepL hF1
   (try simp [KeepL, F] at f1); replace F := aF h7 F; replace F := aF h6 F; (try replace F := aF f1 F); refine sq fun K8 hK8 => ?_; refine sr fun _ hJ10 => ?_; refine hJ10 _ _ ?_; refine cs (fun c16 => ?_) (fun c16 => ?_)
   · (try exact nope c16); all_goals have c16p := c16; try simp [F] at c16p
     all_goals
      replace F := aF c16 F; try replace F := aF c16p F
      have hlt : i < E.length := by have h := c16; simp at h; omega
      obtain ⟨R, hR⟩ := ensC_at (l := E) (i := i) hlt
      obtain ⟨e, he⟩ : ∃ e, e = E[i] := ⟨_, rfl⟩
      rw [← he] at hR
      have f1 := get_drop (l := ensC E) (i := i * 13) (j := 1) (x := .v (.int .u8 (e.o.toNat : Nat))) (by rw [hR]; rfl)
      have f2 := get_drop (l := ensC E) (i := i * 13) (j := 2) (x := .v (.int .u8 (e.v.toNat : Nat))) (by rw [hR]; rfl)
      have d3 : i * 13 + 13 ≤ E.length * 13 := by omega
      have d1 : i * 13 + 1 < E.length * 13 := by omega
      have d2 : i * 13 + 2 < E.length * 13 := by omega
      have hi1 : i + 1 ≤ E.length := hlt
      have hwi : IntKind.i64.wrap ((i : Int) + 1) = (i : Int) + 1 := wrap_i64 _ (by omega) (by omega)
      have hsn := filt_snoc p (E.take i) e
      rw [he, List.take_append_getElem hlt, ← he] at hsn
      have hfl : ((E.take i).filter p).length ≤ i := Nat.le_trans (List.length_filter_le _ _) (by rw [List.length_take]; omega)
      obtain ⟨m, hm⟩ : ∃ m, m = ((E.take i).filter p).length := ⟨_, rfl⟩
      rw [← hm] at hfl hsn h7
      have hm2 := hm.symm
      have hw9 : IntKind.i64.wrap ((m : Int) + 1) = (m : Int) + 1 := wrap_i64 _ (by omega) (by omega)
      replace F := aF hlt (And.intro f1 (And.intro f2 (And.intro d1 (And.intro d2 (And.intro d3 (And.intro hi1 (And.intro hwi (And.intro hw9 (And.intro hm2 (And.intro h7 F)))))))))); refine run_skip ?_; refine hK8 _ _ ?_; refine sq fun K11 hK11 => ?_; refine run_block_k ?_; refine sr fun _ hJ13 => ?_; refine gs 30 (fun g5_11 => ?_) (fun g5_11 => ?_)
      · (try exact nope g5_11); all_goals have g5_11p := g5_11; try simp [F] at g5_11p
        all_goals
         replace F := aF g5_11 F; try replace F := aF g5_11p F
         have hl1 : e.o = ow := by have h := g5_11; simp [u8_beq] at h; first | exact h | exact u8_eq h | exact UInt8.toNat_inj.1 (by omega)
         replace F := aF hl1 F; (iterate 11 refine go2 (k := ?_)); refine hJ13 _ _ ?_; refine cs (fun c42 => ?_) (fun c42 => ?_)
         · (try exact nope c42); all_goals have c42p := c42; try simp [F] at c42p
           all_goals
            replace F := aF c42 F; try replace F := aF c42p F
            have hv : e.v = vl := by have h := c42; simp [u8_beq, hl1] at h; first | exact h | exact u8_eq h | exact UInt8.toNat_inj.1 (by omega) | omega
            have hpt : p e = true := by rw [hp]; simp [hl1, hv]
            rw [hpt] at hsn
            simp only [if_true] at hsn
            replace F := aF hsn F; refine rg' (h := fun J14 hJ14 => ?_); refine hJ14 _ _ ?_; refine hK11 _ _ ?_; refine rg' (h := fun J15 hJ15 => ?_); refine hJ15 _ _ ?_; refine ⟨(i + 1), ⟨kp, lp, lp, lp, lp⟩, lp⟩
         (try exact nope c42); all_goals have c42p := c42; try simp [F] at c42p
         all_goals
          replace F := aF c42 F; try replace F := aF c42p F
          have hv : ¬ e.v = vl := by have h := c42; simp [u8_beq, hl1] at h; first | exact h | (intro q; rw [q] at h; exact h rfl) | omega
          have hpf : p e = false := by rw [hp]; simp [hl1, hv]
          rw [hpf] at hsn
          simp only [Bool.false_eq_true, if_false, Nat.add_zero] at hsn
          replace F := aF hsn F; refine run_skip ?_; refine hK11 _ _ ?_; refine rg' (h := fun J16 hJ16 => ?_); refine hJ16 _ _ ?_; refine ⟨(i + 1), ⟨kp, lp, lp, lp, lp⟩, lp⟩
      (try exact nope g5_11); all_goals have g5_11p := g5_11; try simp [F] at g5_11p
      all_goals
       replace F := aF g5_11 F; try replace F := aF g5_11p F
       have hl1 : ¬ e.o = ow := by have h := g5_11; simp [u8_beq] at h; intro q; rw [q] at h; exact h rfl
       have hpf : p e = false := by rw [hp]; simp [hl1]
       rw [hpf] at hsn
       simp only [Bool.false_eq_true, if_false, Nat.add_zero] at hsn
       replace F := aF hl1 (And.intro hsn F); (iterate 11 refine no2 (k := ?_)); refine hJ13 _ _ ?_; refine cf ?_; refine run_skip ?_; refine hK11 _ _ ?_; refine rg' (h := fun J17 hJ17 => ?_); refine hJ17 _ _ ?_; refine ⟨(i + 1), ⟨kp, lp, lp, lp, lp⟩, lp⟩
   (try exact nope c16); all_goals have c16p := c16; try simp [F] at c16p
   all_goals
    replace F := aF c16 F; try replace F := aF c16p F
    have hje : E.take i = E := List.take_of_length_le (by have h := c16; simp at h; omega)
    rw [hje] at h7
    replace F := aF h7 F; refine run_exit ?_; refine hK5 _ _ ?_; refine sr fun _ hJ19 => ?_; refine hJ19 _ _ ?_; refine ra ?_; exact rt

set_option maxHeartbeats 1600000 in
attribute [local simp] undefA List.getElem?_cons_zero List.getElem?_cons_succ hpsC_noObj ensC_noObj in
theorem wjumping_ok {σ : St} {w : Nat} {W : Wd} {ow fr tt : UInt8} (h : σ.objs[w]? = some (wC W)) (hl : W.H.length ≤ 1000000) :
    CallsA Try.prog 67 [.ptr w 0, .v (.int .u8 ow.toNat), .v (.int .u8 fr.toNat), .v (.int .u8 tt.toNat)] σ (fun av σ' => av = .v (.int .i64 ((W.H.filter fun e => decide (e.o = ow ∧ e.f = fr ∧ e.t = tt)).length : Nat)) ∧ σ = σ') := by
  refine callsA_gcS ?_ rfl
  have hw := lt_of_get h
  obtain ⟨E, H, a, b⟩ := W
  simp only at hl ⊢
  simp only [wC, wX] at h
  have hge : ∀ h2 : w < σ.objs.length, σ.objs[w]'h2 = _ := fun h2 => (List.getElem?_eq_some_iff.1 h).2
  have ho1 : ∀ r, (σ.objs ++ r)[w]? = some _ := fun r => by rw [List.getElem?_append_left hw]; exact h
  have hw1 : w < σ.objs.length + 1 := by omega
  have hEc := hpsC_len H
  obtain ⟨p, hp⟩ : ∃ p : Hp → Bool, p = fun e => decide (e.o = ow ∧ e.f = fr ∧ e.t = tt) := ⟨_, rfl⟩
  rw [← hp]
  have F := And.intro hEc (And.intro ho1 (And.intro h (And.intro hge (And.intro hw (And.intro hw1 (True.intro))))))
  refine callsA_body Try.func67 rfl rfl rfl ?_; refine sr fun _ hJ2 => ?_; refine hJ2 _ _ ?_; refine sr fun _ hJ4 => ?_; refine hJ4 _ _ ?_; refine sq fun K5 hK5 => ?_; refine sr fun _ hJ7 => ?_; refine hJ7 _ _ ?_; refine run_block_k ?_; refine run_loopG (X := Nat) [0, 1, 2, 3, 8] (fun i ρ σ1 => (i ≤ H.length) ∧ (ρ 9 = .v (.int .i64 (((H.take i).filter p).length : Nat))) ∧ (ρ 10 = .v (.int .i64 i)) ∧ (σ1 = σ)) (fun i => H.length - i) (0) ?st1 ?rd1
  case st1 =>
   refine ⟨lp, lp, lp, lp⟩
  case rd1 =>
   rintro i ρ1 σ1 hF1 ⟨h1, h7, h6, hσ⟩; obtain rfl := hσ.symm
   have f1 := keepL hF1
   (try simp [KeepL, F] at f1); replace F := aF h7 F; replace F := aF h6 F; (try replace F := aF f1 F); refine sq fun K8 hK8 => ?_; refine sr fun _ hJ10 => ?_; refine hJ10 _ _ ?_; refine cs (fun c19 => ?_) (fun c19 => ?_)
   · (try exact nope c19); all_goals have c19p := c19; try simp [F] at c19p
     all_goals
      replace F := aF c19 F; try replace F := aF c19p F
      have hlt : i < H.length := by have h := c19; simp at h; omega
      obtain ⟨R, hR⟩ := hpsC_at (l := H) (i := i) hlt
      obtain ⟨e, he⟩ : ∃ e, e = H[i] := ⟨_, rfl⟩
      rw [← he] at hR
      have hR3 : List.take 14 (List.drop (i * 14) (hpsC H)) = hpC e := by rw [hR]; rfl
      have d3 : i * 14 + 14 ≤ H.length * 14 := by omega
      have hi1 : i + 1 ≤ H.length := hlt
      have hwi : IntKind.i64.wrap ((i : Int) + 1) = (i : Int) + 1 := wrap_i64 _ (by omega) (by omega)
      have hyc : (∀ x, x ∈ hpC e → x.isCell = true) = True := eq_true (cellH e)
      have hyl : (hpC e).length = 14 := rfl
      have hyt : List.take 14 (hpC e) = hpC e := rfl
      have hyo : ∀ nb, noObjL nb (hpC e) = true := fun _ => rfl
      obtain ⟨Y, hY⟩ : ∃ Y, Y = hpC e := ⟨_, rfl⟩
      have y1 : ∀ h2 : 1 < Y.length, Y[1]'h2 = .v (.int .u8 (e.o.toNat : Nat)) := fun h2 => by subst hY; rfl
      have y2 : ∀ h2 : 2 < Y.length, Y[2]'h2 = .v (.int .u8 (e.f.toNat : Nat)) := fun h2 => by subst hY; rfl
      have y3 : ∀ h2 : 3 < Y.length, Y[3]'h2 = .v (.int .u8 (e.t.toNat : Nat)) := fun h2 => by subst hY; rfl
      have y5 : ∀ h2 : 5 < Y.length, Y[5]'h2 = .v (.int .u64 (e.d : Nat)) := fun h2 => by subst hY; rfl
      rw [← hY] at hyc hyl hR3 hyt
      simp only [← hY] at hyo
      simp only [AV.isCell] at hyc
      have hsn := filt_snoc p (H.take i) e
      rw [he, List.take_append_getElem hlt, ← he] at hsn
      have hfl : ((H.take i).filter p).length ≤ i := Nat.le_trans (List.length_filter_le _ _) (by rw [List.length_take]; omega)
      obtain ⟨m, hm⟩ : ∃ m, m = ((H.take i).filter p).length := ⟨_, rfl⟩
      rw [← hm] at hfl hsn h7
      have hm2 := hm.symm
      have hw9 : IntKind.i64.wrap ((m : Int) + 1) = (m : Int) + 1 := wrap_i64 _ (by omega) (by omega)
      replace F := aF hw9 (And.intro hm2 (And.intro h7 F)); replace F := aF hlt (And.intro hR3 (And.intro d3 (And.intro hi1 (And.intro hwi (And.intro hyc (And.intro hyl (And.intro hyt (And.intro hyo (And.intro y1 (And.intro y2 (And.intro y3 (And.intro y5 F)))))))))))); refine run_skip ?_; refine hK8 _ _ ?_; refine sq fun K11 hK11 => ?_; refine run_block_k ?_; refine sr fun _ hJ13 => ?_; refine hJ13 _ _ ?_; refine sr fun _ hJ15 => ?_; refine gs 34 (fun g6_4 => ?_) (fun g6_4 => ?_)
      · (try exact nope g6_4); all_goals have g6_4p := g6_4; try simp [F] at g6_4p
        all_goals
         replace F := aF g6_4 F; try replace F := aF g6_4p F
         have hl1 : e.o = ow := by have h := g6_4; simp [u8_beq] at h; first | exact h | exact u8_eq h | exact UInt8.toNat_inj.1 (by omega)
         replace F := aF hl1 F; (iterate 4 refine go2 (k := ?_)); refine gs 40 (fun g6_10 => ?_) (fun g6_10 => ?_)
         · (try exact nope g6_10); all_goals have g6_10p := g6_10; try simp [F] at g6_10p
           all_goals
            replace F := aF g6_10 F; try replace F := aF g6_10p F
            have hl2 : e.f = fr := by have h := g6_10; simp [u8_beq, hl1] at h; first | exact h | exact u8_eq h | exact UInt8.toNat_inj.1 (by omega)
            replace F := aF hl2 F; (iterate 4 refine go2 (k := ?_)); refine hJ15 _ _ ?_; refine cs (fun c45 => ?_) (fun c45 => ?_)
            · (try exact nope c45); all_goals have c45p := c45; try simp [F] at c45p
              all_goals
               replace F := aF c45 F; try replace F := aF c45p F
               have hv : e.t = tt := by have h := c45; simp [u8_beq, hl1, hl2] at h; first | exact h | exact u8_eq h | exact UInt8.toNat_inj.1 (by omega) | omega
               have hpt : p e = true := by rw [hp]; simp [hl1, hl2, hv]
               rw [hpt] at hsn
               simp only [if_true] at hsn
               replace F := aF hsn F; refine rg' (h := fun J16 hJ16 => ?_); refine hJ16 _ _ ?_; refine hK11 _ _ ?_; refine rg' (h := fun J17 hJ17 => ?_); refine hJ17 _ _ ?_; refine ⟨gk, (i + 1), ⟨kpG, lpG, lpG, lpG, lpG⟩, lpG⟩
            (try exact nope c45); all_goals have c45p := c45; try simp [F] at c45p
            all_goals
             replace F := aF c45 F; try replace F := aF c45p F
             have hv : ¬ e.t = tt := by have h := c45; simp [u8_beq, hl1, hl2] at h; first | exact h | (intro q; rw [q] at h; exact h rfl) | omega
             have hpf : p e = false := by rw [hp]; simp [hl1, hl2, hv]
             rw [hpf] at hsn
             simp only [Bool.false_eq_true, if_false, Nat.add_zero] at hsn
             replace F := aF hsn F; refine run_skip ?_; refine hK11 _ _ ?_; refine rg' (h := fun J18 hJ18 => ?_); refine hJ18 _ _ ?_; refine ⟨gk, (i + 1), ⟨kpG, lpG, lpG, lpG, lpG⟩, lpG⟩
         (try exact nope g6_10); all_goals have g6_10p := g6_10; try simp [F] at g6_10p
         all_goals
          replace F := aF g6_10 F; try replace F := aF g6_10p F
          have hl2 : ¬ e.f = fr := by have h := g6_10; simp [u8_beq, hl1] at h; first | exact h | (intro q; rw [q] at h; exact h rfl)
          have hpf : p e = false := by rw [hp]; simp [hl1, hl2]
          rw [hpf] at hsn
          simp only [Bool.false_eq_true, if_false, Nat.add_zero] at hsn
          replace F := aF hl2 (And.intro hsn F); (iterate 4 refine no2 (k := ?_)); refine hJ15 _ _ ?_; refine cf ?_; refine run_skip ?_; refine hK11 _ _ ?_; refine rg' (h := fun J19 hJ19 => ?_); refine hJ19 _ _ ?_; refine ⟨gk, (i + 1), ⟨kpG, lpG, lpG, lpG, lpG⟩, lpG⟩
      (try exact nope g6_4); all_goals have g6_4p := g6_4; try simp [F] at g6_4p
      all_goals
       replace F := aF g6_4 F; try replace F := aF g6_4p F
       have hl1 : ¬ e.o = ow := by have h := g6_4; simp [u8_beq] at h; intro q; rw [q] at h; exact h rfl
       have hpf : p e = false := by rw [hp]; simp [hl1]
       rw [hpf] at hsn
       simp only [Bool.false_eq_true, if_false, Nat.add_zero] at hsn
       replace F := aF hl1 (And.intro hsn F); (iterate 8 refine no2 (k := ?_)); refine hJ15 _ _ ?_; refine cf ?_; refine run_skip ?_; refine hK11 _ _ ?_; refine rg' (h := fun J20 hJ20 => ?_); refine hJ20 _ _ ?_; refine ⟨gk, (i + 1), ⟨kpG, lpG, lpG, lpG, lpG⟩, lpG⟩
   (try exact nope c19); all_goals have c19p := c19; try simp [F] at c19p
   all_goals
    replace F := aF c19 F; try replace F := aF c19p F
    have hje : H.take i = H := List.take_of_length_le (by have h := c19; simp at h; omega)
    rw [hje] at h7
    replace F := aF h7 F; refine run_exit ?_; refine hK5 _ _ ?_; refine sr fun _ hJ22 => ?_; refine hJ22 _ _ ?_; refine ra ?_; exact gcr

set_option maxHeartbeats 1600000 in
attribute [local simp] undefA List.getElem?_cons_zero List.getElem?_cons_succ hpsC_noObj ensC_noObj in
theorem wcame_ok {σ : St} {w now : Nat} {W : Wd} {ow tt : UInt8} (h : σ.objs[w]? = some (wC W)) (hl : W.H.length ≤ 1000000) :
    CallsA Try.prog 69 [.ptr w 0, .v (.int .u8 ow.toNat), .v (.int .u8 tt.toNat), .v (.int .u64 now)] σ (fun av σ' => av = .v (.bool (decide (0 < (W.H.filter fun e => decide (e.o = ow ∧ e.t = tt ∧ now < e.d)).length))) ∧ σ = σ') := by
  refine callsA_gcS ?_ rfl
  have hw := lt_of_get h
  obtain ⟨E, H, a, b⟩ := W
  simp only at hl ⊢
  simp only [wC, wX] at h
  have hge : ∀ h2 : w < σ.objs.length, σ.objs[w]'h2 = _ := fun h2 => (List.getElem?_eq_some_iff.1 h).2
  have ho1 : ∀ r, (σ.objs ++ r)[w]? = some _ := fun r => by rw [List.getElem?_append_left hw]; exact h
  have hw1 : w < σ.objs.length + 1 := by omega
  have hEc := hpsC_len H
  obtain ⟨p, hp⟩ : ∃ p : Hp → Bool, p = fun e => decide (e.o = ow ∧ e.t = tt ∧ now < e.d) := ⟨_, rfl⟩
  rw [← hp]
  obtain ⟨B, hB⟩ : ∃ B, B = decide (0 < (H.filter p).length) := ⟨_, rfl⟩
  rw [← hB]
  have F := And.intro hEc (And.intro ho1 (And.intro h (And.intro hge (And.intro hw (And.intro hw1 (True.intro))))))
  refine callsA_body Try.func69 rfl rfl rfl ?_; refine sr fun _ hJ2 => ?_; refine hJ2 _ _ ?_; refine sq fun K3 hK3 => ?_; refine sr fun _ hJ5 => ?_; refine hJ5 _ _ ?_; refine run_block_k ?_; refine run_loopG (X := Nat) [0, 1, 2, 3] (fun i ρ σ1 => (i ≤ H.length) ∧ (((H.take i).filter p).length = 0) ∧ (ρ 9 = .v (.int .i64 i)) ∧ (σ1 = σ)) (fun i => H.length - i) (0) ?st1 ?rd1
  case st1 =>
   refine ⟨lp, ?_, lp, lp⟩
   · rfl
  case rd1 =>
   rintro i ρ1 σ1 hF1 ⟨h1, h7, h6, hσ⟩; obtain rfl := hσ.symm
   have f1 := keepL hF1
   (try simp [KeepL, F] at f1); replace F := aF h6 F; (try replace F := aF f1 F); refine sq fun K6 hK6 => ?_; refine sr fun _ hJ8 => ?_; refine hJ8 _ _ ?_; refine cs (fun c18 => ?_) (fun c18 => ?_)
   · (try exact nope c18); all_goals have c18p := c18; try simp [F] at c18p
     all_goals
      replace F := aF c18 F; try replace F := aF c18p F
      have hlt : i < H.length := by have h := c18; simp at h; omega
      obtain ⟨R, hR⟩ := hpsC_at (l := H) (i := i) hlt
      obtain ⟨e, he⟩ : ∃ e, e = H[i] := ⟨_, rfl⟩
      rw [← he] at hR
      have hR3 : List.take 14 (List.drop (i * 14) (hpsC H)) = hpC e := by rw [hR]; rfl
      have d3 : i * 14 + 14 ≤ H.length * 14 := by omega
      have hi1 : i + 1 ≤ H.length := hlt
      have hwi : IntKind.i64.wrap ((i : Int) + 1) = (i : Int) + 1 := wrap_i64 _ (by omega) (by omega)
      have hyc : (∀ x, x ∈ hpC e → x.isCell = true) = True := eq_true (cellH e)
      have hyl : (hpC e).length = 14 := rfl
      have hyt : List.take 14 (hpC e) = hpC e := rfl
      have hyo : ∀ nb, noObjL nb (hpC e) = true := fun _ => rfl
      obtain ⟨Y, hY⟩ : ∃ Y, Y = hpC e := ⟨_, rfl⟩
      have y1 : ∀ h2 : 1 < Y.length, Y[1]'h2 = .v (.int .u8 (e.o.toNat : Nat)) := fun h2 => by subst hY; rfl
      have y2 : ∀ h2 : 2 < Y.length, Y[2]'h2 = .v (.int .u8 (e.f.toNat : Nat)) := fun h2 => by subst hY; rfl
      have y3 : ∀ h2 : 3 < Y.length, Y[3]'h2 = .v (.int .u8 (e.t.toNat : Nat)) := fun h2 => by subst hY; rfl
      have y5 : ∀ h2 : 5 < Y.length, Y[5]'h2 = .v (.int .u64 (e.d : Nat)) := fun h2 => by subst hY; rfl
      rw [← hY] at hyc hyl hR3 hyt
      simp only [← hY] at hyo
      simp only [AV.isCell] at hyc
      have hsn := filt_snoc p (H.take i) e
      rw [he, List.take_append_getElem hlt, ← he] at hsn
      rw [h7] at hsn
      replace F := aF hlt (And.intro hR3 (And.intro d3 (And.intro hi1 (And.intro hwi (And.intro hyc (And.intro hyl (And.intro hyt (And.intro hyo (And.intro y1 (And.intro y2 (And.intro y3 (And.intro y5 F)))))))))))); refine run_skip ?_; refine hK6 _ _ ?_; refine sq fun K9 hK9 => ?_; refine run_block_k ?_; refine sr fun _ hJ11 => ?_; refine hJ11 _ _ ?_; refine sr fun _ hJ13 => ?_; refine gs 33 (fun g5_4 => ?_) (fun g5_4 => ?_)
      · (try exact nope g5_4); all_goals have g5_4p := g5_4; try simp [F] at g5_4p
        all_goals
         replace F := aF g5_4 F; try replace F := aF g5_4p F
         have hl1 : e.o = ow := by have h := g5_4; simp [u8_beq] at h; first | exact h | exact u8_eq h | exact UInt8.toNat_inj.1 (by omega)
         replace F := aF hl1 F; (iterate 4 refine go2 (k := ?_)); refine gs 39 (fun g5_10 => ?_) (fun g5_10 => ?_)
         · (try exact nope g5_10); all_goals have g5_10p := g5_10; try simp [F] at g5_10p
           all_goals
            replace F := aF g5_10 F; try replace F := aF g5_10p F
            have hl2 : e.t = tt := by have h := g5_10; simp [u8_beq, hl1] at h; first | exact h | exact u8_eq h | exact UInt8.toNat_inj.1 (by omega)
            replace F := aF hl2 F; (iterate 4 refine go2 (k := ?_)); refine hJ13 _ _ ?_; refine cs (fun c44 => ?_) (fun c44 => ?_)
            · (try exact nope c44); all_goals have c44p := c44; try simp [F] at c44p
              all_goals
               replace F := aF c44 F; try replace F := aF c44p F
               have hv : now < e.d := by have h := c44; simp [u8_beq, hl1, hl2] at h; first | exact h | exact u8_eq h | exact UInt8.toNat_inj.1 (by omega) | omega
               have hpt : p e = true := by rw [hp]; simp [hl1, hl2, hv]
               rw [hpt] at hsn
               simp only [if_true] at hsn
               replace F := aF hsn F
               have hBt : B = true := by rw [hB, decide_eq_true_eq]; exact List.length_pos_of_mem (List.mem_filter.2 ⟨by rw [he]; exact List.getElem_mem _, hpt⟩)
               replace F := aF hBt F; refine sr fun _ hJ15 => ?_; refine hJ15 _ _ ?_; refine ra ?_; exact gcr
            (try exact nope c44); all_goals have c44p := c44; try simp [F] at c44p
            all_goals
             replace F := aF c44 F; try replace F := aF c44p F
             have hv : ¬ now < e.d := by have h := c44; simp [u8_beq, hl1, hl2] at h; first | exact h | (intro q; rw [q] at h; exact h rfl) | omega
             have hpf : p e = false := by rw [hp]; simp [hl1, hl2, hv]
             rw [hpf] at hsn
             simp only [Bool.false_eq_true, if_false, Nat.add_zero] at hsn
             replace F := aF hsn F; refine run_skip ?_; refine hK9 _ _ ?_; refine rg' (h := fun J16 hJ16 => ?_); refine hJ16 _ _ ?_; refine ⟨gk, (i + 1), ⟨kpG, lpG, lpG, lpG, lpG⟩, lpG⟩
         (try exact nope g5_10); all_goals have g5_10p := g5_10; try simp [F] at g5_10p
         all_goals
          replace F := aF g5_10 F; try replace F := aF g5_10p F
          have hl2 : ¬ e.t = tt := by have h := g5_10; simp [u8_beq, hl1] at h; first | exact h | (intro q; rw [q] at h; exact h rfl)
          have hpf : p e = false := by rw [hp]; simp [hl1, hl2]
          rw [hpf] at hsn
          simp only [Bool.false_eq_true, if_false, Nat.add_zero] at hsn
          replace F := aF hl2 (And.intro hsn F); (iterate 4 refine no2 (k := ?_)); refine hJ13 _ _ ?_; refine cf ?_; refine run_skip ?_; refine hK9 _ _ ?_; refine rg' (h := fun J17 hJ17 => ?_); refine hJ17 _ _ ?_; refine ⟨gk, (i + 1), ⟨kpG, lpG, lpG, lpG, lpG⟩, lpG⟩
      (try exact nope g5_4); all_goals have g5_4p := g5_4; try simp [F] at g5_4p
      all_goals
       replace F := aF g5_4 F; try replace F := aF g5_4p F
       have hl1 : ¬ e.o = ow := by have h := g5_4; simp [u8_beq] at h; intro q; rw [q] at h; exact h rfl
       have hpf : p e = false := by rw [hp]; simp [hl1]
       rw [hpf] at hsn
       simp only [Bool.false_eq_true, if_false, Nat.add_zero] at hsn
       replace F := aF hl1 (And.intro hsn F); (iterate 8 refine no2 (k := ?_)); refine hJ13 _ _ ?_; refine cf ?_; refine run_skip ?_; refine hK9 _ _ ?_; refine rg' (h := fun J18 hJ18 => ?_); refine hJ18 _ _ ?_; refine ⟨gk, (i + 1), ⟨kpG, lpG, lpG, lpG, lpG⟩, lpG⟩
   (try exact nope c18); all_goals have c18p := c18; try simp [F] at c18p
   all_goals
    replace F := aF c18 F; try replace F := aF c18p F
    have hje : H.take i = H := List.take_of_length_le (by have h := c18; simp at h; omega)
    rw [hje] at h7
    have hBf : B = false := by rw [hB, h7]; rfl
    replace F := aF hBf F; refine run_exit ?_; refine hK3 _ _ ?_; refine sr fun _ hJ20 => ?_; refine hJ20 _ _ ?_; refine ra ?_; exact gcr
structure HopS (s : Sto) (W : Wd) (n : Nat) : Prop where
  ok : s.Ok n
  le : Ln s.l 101 (W.E.map itE) W.a
  lh : Ln s.l 104 (W.H.map itH) W.b
  oe : ∀ e ∈ W.E, e.Ok
  oh : ∀ e ∈ W.H, e.Ok
  ne : W.E.length ≤ n
  nh : W.H.length ≤ n
  na : W.a ≤ n
  nb : W.b ≤ n
def wd0 : Wd := ⟨[], [], 0, 0⟩
theorem HopS.nil : HopS newSg.s wd0 0 := ⟨newSg_ok, Ln.nil 101, Ln.nil 104, fun e h => by simp [wd0] at h, fun e h => by simp [wd0] at h, Nat.le_refl _, Nat.le_refl _, Nat.le_refl _, Nat.le_refl _⟩
theorem srtG_of {α : Type} {it : α → It} {l : List α} (h : (l.map it).Pairwise fun x y => x.d < y.d ∨ x.d = y.d ∧ x.n < y.n) : SrtG it l := List.pairwise_map.1 h
theorem num_lt {α : Type} {it : α → It} {l : List α} {L : List Pr} {k : UInt8} {c : Nat} (h : Ln L k (l.map it) c) : ∀ y ∈ l, (it y).n < c + 1 := fun y hy => by have := (h.num _ (List.mem_map_of_mem hy)).2; omega
def leaveW (W : Wd) (e : En) : Wd := { W with E := insG itE W.E { e with n := W.a + 1 }, a := W.a + 1 }
def jumpW (W : Wd) (e : Hp) : Wd := { W with H := insG itH W.H { e with n := W.b + 1 }, b := W.b + 1 }
theorem HopS.leave {s : Sto} {W : Wd} {n : Nat} (h : HopS s W n) (hn : n ≤ 1000) {e : En} (he : e.Ok) : HopS (addL s 101 e.d (encE e) W.a) (leaveW W e) (n + 2) := by
  have hna := h.na
  have h1 := h.le.add h.ok.srt (p := encE e) he.2.2 (by omega : W.a + 1 < 2 ^ 64)
  have h2 : setI (W.E.map itE) e.d (W.a + 1) (some (encE e)) = (insG itE W.E { e with n := W.a + 1 }).map itE := insG_map itE (x := { e with n := W.a + 1 }) (num_lt h.le)
  rw [h2] at h1
  have h80 := encE_len e
  refine ⟨addL_ok h.ok (by omega), h1, h.lh.add' h.ok.srt (by decide), fun x hx => ?_, h.oh, ?_, Nat.le_succ_of_le (Nat.le_succ_of_le h.nh), Nat.succ_le_succ (Nat.le_succ_of_le h.na), Nat.le_succ_of_le (Nat.le_succ_of_le h.nb)⟩
  · rcases insG_mem itE hx with rfl | hx
    · exact ⟨by show W.a + 1 < 2 ^ 64; omega, he.2⟩
    · exact h.oe x hx
  · show (insG itE W.E _).length ≤ _
    rw [insG_len]; have := h.ne; omega
theorem HopS.jump {s : Sto} {W : Wd} {n : Nat} (h : HopS s W n) (hn : n ≤ 1000) {e : Hp} (he : e.Ok) : HopS (addL s 104 e.d (encH e) W.b) (jumpW W e) (n + 2) := by
  have hnb := h.nb
  have h1 := h.lh.add h.ok.srt (p := encH e) he.2.2 (by omega : W.b + 1 < 2 ^ 64)
  have h2 : setI (W.H.map itH) e.d (W.b + 1) (some (encH e)) = (insG itH W.H { e with n := W.b + 1 }).map itH := insG_map itH (x := { e with n := W.b + 1 }) (num_lt h.lh)
  rw [h2] at h1
  have h80 := encH_len e
  refine ⟨addL_ok h.ok (by omega), h.le.add' h.ok.srt (by decide), h1, h.oe, fun x hx => ?_, Nat.le_succ_of_le (Nat.le_succ_of_le h.ne), ?_, Nat.le_succ_of_le (Nat.le_succ_of_le h.na), Nat.succ_le_succ (Nat.le_succ_of_le h.nb)⟩
  · rcases insG_mem itH hx with rfl | hx
    · exact ⟨by show W.b + 1 < 2 ^ 64; omega, he.2⟩
    · exact h.oh x hx
  · show (insG itH W.H _).length ≤ _
    rw [insG_len]; have := h.nh; omega
theorem HopS.dropE {s : Sto} {W : Wd} {n : Nat} (h : HopS s W n) {e : En} (he : e.Ok) : HopS (doS s (keyW 101 e.d e.n) none) { W with E := remG itE W.E e.d e.n } (n + 1) := by
  have h1 : Ln (setL s.l (keyW 101 e.d e.n) none) 101 (setI (W.E.map itE) e.d e.n none) W.a := h.le.set h.ok.srt he.2.2 he.1 (fun q => (q rfl).elim)
  rw [remG_map itE (srtG_of (h.le.sorted h.ok.srt))] at h1
  exact ⟨rem_ok h.ok, h1, h.lh.other h.ok.srt (by decide), fun x hx => h.oe x (List.mem_filter.1 hx).1, h.oh, Nat.le_succ_of_le (Nat.le_trans (remG_le itE W.E e.d e.n) h.ne), Nat.le_succ_of_le h.nh, Nat.le_succ_of_le h.na, Nat.le_succ_of_le h.nb⟩
theorem HopS.dropH {s : Sto} {W : Wd} {n : Nat} (h : HopS s W n) {e : Hp} (he : e.Ok) : HopS (doS s (keyW 104 e.d e.n) none) { W with H := remG itH W.H e.d e.n } (n + 1) := by
  have h1 : Ln (setL s.l (keyW 104 e.d e.n) none) 104 (setI (W.H.map itH) e.d e.n none) W.b := h.lh.set h.ok.srt he.2.2 he.1 (fun q => (q rfl).elim)
  rw [remG_map itH (srtG_of (h.lh.sorted h.ok.srt))] at h1
  exact ⟨rem_ok h.ok, h.le.other h.ok.srt (by decide), h1, h.oe, fun x hx => h.oh x (List.mem_filter.1 hx).1, Nat.le_succ_of_le h.ne, Nat.le_succ_of_le (Nat.le_trans (remG_le itH W.H e.d e.n) h.nh), Nat.le_succ_of_le h.na, Nat.le_succ_of_le h.nb⟩
theorem HopS.setE {s : Sto} {W : Wd} {n : Nat} (h : HopS s W n) {e : En} (he : e.Ok) : HopS (if W.E.any (isG itE e.d e.n) then doS s (keyW 101 e.d e.n) (some (encE e)) else s) { W with E := repG itE W.E e } (n + 1) := by
  have h80 := encE_len e
  cases ha : W.E.any (isG itE e.d e.n) with
  | true =>
    rw [if_pos rfl]
    obtain ⟨y, hy, hy2⟩ := List.any_eq_true.1 ha
    have hyn := h.le.num _ (List.mem_map_of_mem hy)
    rw [isG, decide_eq_true_eq] at hy2
    have h1 : Ln (setL s.l (keyW 101 e.d e.n) (some (encE e))) 101 (setI (W.E.map itE) e.d e.n (some (encE e))) W.a := h.le.set h.ok.srt he.2.2 he.1 (fun _ => by rw [← hy2.2]; exact hyn)
    have h2 : setI (W.E.map itE) e.d e.n (some (encE e)) = (repG itE W.E e).map itE := repG_map itE (x := e) (srtG_of (h.le.sorted h.ok.srt)) ha
    rw [h2] at h1
    refine ⟨doS_ok h.ok (by rw [keyW_len]; omega) (by simp; omega), h1, h.lh.other h.ok.srt (by decide), fun x hx => ?_, h.oh, ?_, Nat.le_succ_of_le h.nh, Nat.le_succ_of_le h.na, Nat.le_succ_of_le h.nb⟩
    · obtain ⟨z, hz, rfl⟩ := List.mem_map.1 hx
      split
      · exact he
      · exact h.oe z hz
    · show (repG itE W.E e).length ≤ _
      rw [repG, List.length_map]; exact Nat.le_succ_of_le h.ne
  | false =>
    rw [if_neg (by simp)]
    have h2 : repG itE W.E e = W.E := repG_no itE (fun y hy => by exact (Bool.not_eq_true _).mp (List.any_eq_false.1 ha y hy))
    rw [h2]
    exact ⟨h.ok.mono (Nat.le_succ _), h.le, h.lh, h.oe, h.oh, Nat.le_succ_of_le h.ne, Nat.le_succ_of_le h.nh, Nat.le_succ_of_le h.na, Nat.le_succ_of_le h.nb⟩

theorem hleave_ok {σ : St} {o k n : Nat} {G : Sg} {W : Wd} {e : En} (h : HasS σ o k G) (hi : HopS G.s W n) (hn : n ≤ 1000) (he : e.Ok) :
    CallsA Try.prog 55 [.ptr o 0, .agg (enC e)] σ (fun av σ' => ∃ G', HopS G'.s (leaveW W e) (n + 2) ∧ av = .v (.int .u64 (W.a + 1 : Nat)) ∧ σ' = putS σ o k G') :=
  callsA_mono (leaveE_ok h hi.ok (by omega) (by have := hi.na; omega) hi.le.ct he) (fun av σ' ⟨G', e1, e2, e3⟩ => ⟨G', by rw [e1]; exact hi.leave hn he, e2, e3⟩)
theorem hjump_ok {σ : St} {o k n : Nat} {G : Sg} {W : Wd} {e : Hp} (h : HasS σ o k G) (hi : HopS G.s W n) (hn : n ≤ 1000) (he : e.Ok) :
    CallsA Try.prog 56 [.ptr o 0, .agg (hpC e)] σ (fun av σ' => ∃ G', HopS G'.s (jumpW W e) (n + 2) ∧ av = .v (.int .u64 (W.b + 1 : Nat)) ∧ σ' = putS σ o k G') :=
  callsA_mono (leaveH_ok h hi.ok (by omega) (by have := hi.nb; omega) hi.lh.ct he) (fun av σ' ⟨G', e1, e2, e3⟩ => ⟨G', by rw [e1]; exact hi.jump hn he, e2, e3⟩)
theorem hdropE_ok {σ : St} {o k n : Nat} {G : Sg} {W : Wd} {e : En} (h : HasS σ o k G) (hi : HopS G.s W n) (hn : n ≤ 1000) (he : e.Ok) :
    CallsA Try.prog 71 [.ptr o 0, .agg (enC e)] σ (fun av σ' => ∃ G', HopS G'.s { W with E := remG itE W.E e.d e.n } (n + 1) ∧ av = .v (.bool (W.E.any (isG itE e.d e.n))) ∧ σ' = putS σ o k G') :=
  callsA_mono (dropE_ok h hi.ok (by omega) he) (fun av σ' ⟨G', e1, e2, e3⟩ => ⟨G', by rw [e1]; exact hi.dropE he, by rw [e2, hi.le.get he.2.2 he.1, any_map], e3⟩)
theorem hdropH_ok {σ : St} {o k n : Nat} {G : Sg} {W : Wd} {e : Hp} (h : HasS σ o k G) (hi : HopS G.s W n) (hn : n ≤ 1000) (he : e.Ok) :
    CallsA Try.prog 72 [.ptr o 0, .agg (hpC e)] σ (fun av σ' => ∃ G', HopS G'.s { W with H := remG itH W.H e.d e.n } (n + 1) ∧ av = .v (.bool (W.H.any (isG itH e.d e.n))) ∧ σ' = putS σ o k G') :=
  callsA_mono (dropH_ok h hi.ok (by omega) he) (fun av σ' ⟨G', e1, e2, e3⟩ => ⟨G', by rw [e1]; exact hi.dropH he, by rw [e2, hi.lh.get he.2.2 he.1, any_map], e3⟩)
theorem hsetE_ok {σ : St} {o k n : Nat} {G : Sg} {W : Wd} {e : En} (h : HasS σ o k G) (hi : HopS G.s W n) (hn : n ≤ 1000) (he : e.Ok) :
    CallsA Try.prog 70 [.ptr o 0, .agg (enC e)] σ (fun av σ' => ∃ G', HopS G'.s { W with E := repG itE W.E e } (n + 1) ∧ av = .v (.bool (W.E.any (isG itE e.d e.n))) ∧ σ' = putS σ o k G') :=
  callsA_mono (setE_ok h hi.ok (by omega) he) (fun av σ' ⟨G', e1, e2, e3⟩ => by
    rw [hi.le.get he.2.2 he.1, any_map] at e1 e2
    exact ⟨G', by rw [e1]; exact hi.setE he, e2, e3⟩)
theorem hallE_ok {σ : St} {o k n : Nat} {G : Sg} {W : Wd} (h : HasS σ o k G) (hi : HopS G.s W n) (hn : n ≤ 1000) :
    CallsA Try.prog 57 [.ptr o 0] σ (fun av σ' => av = .sl 13 (ensC W.E) W.E.length .shut ∧ σ = σ') := allE_ok h hi.ok (by omega) (hi.le.all hi.ok.srt) hi.oe
theorem hleaving_ok {σ : St} {o k n : Nat} {G : Sg} {W : Wd} {ow vl : UInt8} (h : HasS σ o k G) (hi : HopS G.s W n) (hn : n ≤ 1000) :
    CallsA Try.prog 64 [.ptr o 0, .v (.int .u8 ow.toNat), .v (.int .u8 vl.toNat)] σ (fun av σ' => av = .v (.int .i64 ((W.E.filter fun e => decide (e.o = ow ∧ e.v = vl)).length : Nat)) ∧ σ = σ') := leaving_ok h hi.ok (by omega) (hi.le.all hi.ok.srt) hi.oe (by have := hi.ne; omega)
theorem hjumping_ok {σ : St} {o k n : Nat} {G : Sg} {W : Wd} {ow fr tt : UInt8} (h : HasS σ o k G) (hi : HopS G.s W n) (hn : n ≤ 1000) :
    CallsA Try.prog 66 [.ptr o 0, .v (.int .u8 ow.toNat), .v (.int .u8 fr.toNat), .v (.int .u8 tt.toNat)] σ (fun av σ' => av = .v (.int .i64 ((W.H.filter fun e => decide (e.o = ow ∧ e.f = fr ∧ e.t = tt)).length : Nat)) ∧ σ = σ') := jumping_ok h hi.ok (by omega) (hi.lh.all hi.ok.srt) hi.oh (by have := hi.nh; omega)
theorem hcame_ok {σ : St} {o k n now : Nat} {G : Sg} {W : Wd} {ow tt : UInt8} (h : HasS σ o k G) (hi : HopS G.s W n) (hn : n ≤ 1000) :
    CallsA Try.prog 68 [.ptr o 0, .v (.int .u8 ow.toNat), .v (.int .u8 tt.toNat), .v (.int .u64 now)] σ (fun av σ' => av = .v (.bool (decide (0 < (W.H.filter fun e => decide (e.o = ow ∧ e.t = tt ∧ now < e.d)).length))) ∧ σ = σ') := came_ok h hi.ok (by omega) (hi.lh.all hi.ok.srt) hi.oh (by have := hi.nh; omega)

def en0 (n o d : Nat) : En := ⟨n, UInt8.ofNat o, 0, 0, d, Num.zero, Num.zero⟩
def hp0 (d : Nat) : Hp := ⟨0, 0, 0, 0, 0, d, Num.zero, Num.zero⟩
set_option maxHeartbeats 1600000 in
attribute [local simp] undefA List.getElem?_cons_zero List.getElem?_cons_succ in
theorem leaves_ok {σ : St} : CallsA Try.prog 59 [] σ (fun av σ' => av = .v (.bool true) ∧ σ = σ') := by
  refine callsA_gcS ?_ rfl
  have hnew : CallsA Try.prog 22 [] σ (fun av σ' => av = .ptr σ.objs.length 0 ∧ σ' = St1 σ newSg) := new_st_ok
  have kE : ∀ n o d : Nat, n < 10 → d < 10 → (en0 n o d).Ok := fun n o d h1 h2 => ⟨by show n < _; omega, by show 0 < _; omega, by show d < _; omega⟩
  have kH : ∀ d : Nat, d < 10 → (hp0 d).Ok := fun d h2 => ⟨by show 0 < _; omega, by show 0 < _; omega, by show d < _; omega⟩
  have z0 : (AV.v (.int .u64 0)) = .v (.int .u64 ((0 : Nat) : Int)) := rfl
  have eE : ∀ n o d : Nat, enC (en0 n o d) = [.v (.int .u64 n), .v (.int .u8 ((UInt8.ofNat o).toNat : Nat)), .v (.int .u8 0), .v (.int .u64 0), .v (.int .u64 d), .v (.int .u64 0), .v (.int .u64 0), .v (.int .u64 0), .v (.int .u64 0), .v (.int .u64 0), .v (.int .u64 0), .v (.int .u64 0), .v (.int .u64 0)] := fun n o d => by simp [enC, en0, Num.zero, limb]
  have eH : ∀ d : Nat, hpC (hp0 d) = [.v (.int .u64 0), .v (.int .u8 0), .v (.int .u8 0), .v (.int .u8 0), .v (.int .u64 0), .v (.int .u64 d), .v (.int .u64 0), .v (.int .u64 0), .v (.int .u64 0), .v (.int .u64 0), .v (.int .u64 0), .v (.int .u64 0), .v (.int .u64 0), .v (.int .u64 0)] := fun d => by simp [hpC, hp0, Num.zero, limb]
  have c1 : CallsA Try.prog 55 [.ptr σ.objs.length 0, .agg (enC (en0 0 0 3))] (St1 σ newSg) (fun av σ' => ∃ G', HopS G'.s ⟨[en0 1 0 3], [], 1, 0⟩ 2 ∧ av = .v (.int .u64 1) ∧ σ' = St1 σ G') :=
    callsA_mono (hleave_ok (St1.has σ newSg) HopS.nil (by omega) (kE 0 0 3 (by omega) (by omega))) (fun av σ' ⟨G', e1, e2, e3⟩ => ⟨G', e1, e2, by rw [e3, St1.put]⟩)
  have c2 : ∀ G, HopS G.s ⟨[en0 1 0 3], [], 1, 0⟩ 2 → CallsA Try.prog 55 [.ptr σ.objs.length 0, .agg (enC (en0 0 5 3))] (St1 σ G) (fun av σ' => ∃ G', HopS G'.s ⟨[en0 1 0 3, en0 2 5 3], [], 2, 0⟩ 4 ∧ av = .v (.int .u64 2) ∧ σ' = St1 σ G') := fun G hG =>
    callsA_mono (hleave_ok (St1.has σ G) hG (by omega) (kE 0 5 3 (by omega) (by omega))) (fun av σ' ⟨G', e1, e2, e3⟩ => ⟨G', e1, e2, by rw [e3, St1.put]⟩)
  have c3 : ∀ G, HopS G.s ⟨[en0 1 0 3, en0 2 5 3], [], 2, 0⟩ 4 → CallsA Try.prog 71 [.ptr σ.objs.length 0, .agg (enC (en0 1 0 3))] (St1 σ G) (fun av σ' => ∃ G', HopS G'.s ⟨[en0 2 5 3], [], 2, 0⟩ 5 ∧ av = .v (.bool true) ∧ σ' = St1 σ G') := fun G hG =>
    callsA_mono (hdropE_ok (St1.has σ G) hG (by omega) (kE 1 0 3 (by omega) (by omega))) (fun av σ' ⟨G', e1, e2, e3⟩ => ⟨G', e1, e2, by rw [e3, St1.put]⟩)
  have c4 : ∀ G, HopS G.s ⟨[en0 2 5 3], [], 2, 0⟩ 5 → CallsA Try.prog 57 [.ptr σ.objs.length 0] (St1 σ G) (fun av σ' => av = .sl 13 (enC (en0 2 5 3)) 1 .shut ∧ St1 σ G = σ') := fun G hG => by
    have := hallE_ok (St1.has σ G) hG (by omega)
    rw [show ensC [en0 2 5 3] = enC (en0 2 5 3) by simp [ensC]] at this; exact this
  have c5 : ∀ G, HopS G.s ⟨[en0 2 5 3], [], 2, 0⟩ 5 → CallsA Try.prog 64 [.ptr σ.objs.length 0, .v (.int .u8 5), .v (.int .u8 0)] (St1 σ G) (fun av σ' => av = .v (.int .i64 1) ∧ St1 σ G = σ') := fun G hG =>
    hleaving_ok (ow := 5) (vl := 0) (St1.has σ G) hG (by omega)
  have c6 : ∀ G, HopS G.s ⟨[en0 2 5 3], [], 2, 0⟩ 5 → CallsA Try.prog 56 [.ptr σ.objs.length 0, .agg (hpC (hp0 9))] (St1 σ G) (fun av σ' => ∃ G', av = .v (.int .u64 1) ∧ σ' = St1 σ G') := fun G hG =>
    callsA_mono (hjump_ok (St1.has σ G) hG (by omega) (kH 9 (by omega))) (fun av σ' ⟨G', e1, e2, e3⟩ => ⟨G', e2, by rw [e3, St1.put]⟩)
  simp only [eE, eH] at c1 c2 c3 c4 c6
  have F := True.intro
  refine callsA_body Try.func59 rfl rfl rfl ?_; refine sr fun _ hJ2 => ?_; refine hJ2 _ _ ?_; refine sr fun _ hJ4 => ?_; refine ca (c := hnew) (k := ?_); rintro _ _ ⟨rfl, rfl⟩; (repeat (first | simp [F] | simp (disch := omega) only [wC, if_pos, if_neg])); refine hJ4 _ _ ?_; refine sq fun K5 hK5 => ?_; refine sr fun _ hJ7 => ?_; refine ca (c := c1) (k := ?_); rintro _ _ ⟨G1, e1, rfl, rfl⟩; (repeat (first | simp [F] | simp (disch := omega) only [wC, if_pos, if_neg])); (iterate 2 refine go2 (k := ?_)); refine ca (c := c2 G1 e1) (k := ?_); rintro _ _ ⟨G2, e2, rfl, rfl⟩; (repeat (first | simp [F] | simp (disch := omega) only [wC, if_pos, if_neg])); (iterate 3 refine go2 (k := ?_)); refine ca (c := c3 G2 e2) (k := ?_); rintro _ _ ⟨G3, e3, rfl, rfl⟩; (repeat (first | simp [F] | simp (disch := omega) only [wC, if_pos, if_neg])); refine go2 (k := ?_); refine hJ7 _ _ ?_; refine cf ?_; refine run_skip ?_; refine hK5 _ _ ?_; refine sr fun _ hJ9 => ?_; refine ca (c := c4 G3 e3) (k := ?_); rintro _ _ ⟨rfl, rfl⟩; (repeat (first | simp [F] | simp (disch := omega) only [wC, if_pos, if_neg])); refine hJ9 _ _ ?_; refine sr fun _ hJ11 => ?_; (iterate 11 refine go2 (k := ?_)); refine ca (c := c5 G3 e3) (k := ?_); rintro _ _ ⟨rfl, rfl⟩; (repeat (first | simp [F] | simp (disch := omega) only [wC, if_pos, if_neg])); (iterate 3 refine go2 (k := ?_)); refine ca (c := c6 G3 e3) (k := ?_); rintro _ _ ⟨G4, rfl, rfl⟩; (repeat (first | simp [F] | simp (disch := omega) only [wC, if_pos, if_neg])); refine go2 (k := ?_); refine hJ11 _ _ ?_; refine ra ?_; exact gcr
theorem en_cells {P : Program} {u b : TypeId} {a0 a1 a2 a3 a4 a5 a6 a7 a8 a9 a10 a11 a12 : AV} (hu : P.underlying u = some (.int .u64)) (hb : P.underlying b = some (.int .u8)) (h0 : WC P u a0) (h1 : WC P b a1) (h2 : WC P b a2) (h3 : WC P u a3) (h4 : WC P u a4) (h5 : WC P u a5) (h6 : WC P u a6) (h7 : WC P u a7) (h8 : WC P u a8) (h9 : WC P u a9) (h10 : WC P u a10) (h11 : WC P u a11) (h12 : WC P u a12) : ∃ e : En, [a0, a1, a2, a3, a4, a5, a6, a7, a8, a9, a10, a11, a12] = enC e ∧ e.Ok := by
  obtain ⟨x0, q0, rfl⟩ := u64_of' hu h0
  obtain ⟨x1, rfl⟩ := u8_of hb h1
  obtain ⟨x2, rfl⟩ := u8_of hb h2
  obtain ⟨x3, q3, rfl⟩ := u64_of' hu h3
  obtain ⟨x4, q4, rfl⟩ := u64_of' hu h4
  obtain ⟨f, hf⟩ := num_of hu h5 h6 h7 h8
  obtain ⟨g, hg⟩ := num_of hu h9 h10 h11 h12
  simp only [numA, List.cons.injEq, and_true] at hf hg
  obtain ⟨rfl, rfl, rfl, rfl⟩ := hf
  obtain ⟨rfl, rfl, rfl, rfl⟩ := hg
  exact ⟨⟨x0, x1, x2, x3, x4, f, g⟩, rfl, q0, q3, q4⟩

theorem hp_cells {P : Program} {u b : TypeId} {a0 a1 a2 a3 a4 a5 a6 a7 a8 a9 a10 a11 a12 a13 : AV} (hu : P.underlying u = some (.int .u64)) (hb : P.underlying b = some (.int .u8)) (h0 : WC P u a0) (h1 : WC P b a1) (h2 : WC P b a2) (h3 : WC P b a3) (h4 : WC P u a4) (h5 : WC P u a5) (h6 : WC P u a6) (h7 : WC P u a7) (h8 : WC P u a8) (h9 : WC P u a9) (h10 : WC P u a10) (h11 : WC P u a11) (h12 : WC P u a12) (h13 : WC P u a13) : ∃ e : Hp, [a0, a1, a2, a3, a4, a5, a6, a7, a8, a9, a10, a11, a12, a13] = hpC e ∧ e.Ok := by
  obtain ⟨x0, q0, rfl⟩ := u64_of' hu h0
  obtain ⟨x1, rfl⟩ := u8_of hb h1
  obtain ⟨x2, rfl⟩ := u8_of hb h2
  obtain ⟨x3, rfl⟩ := u8_of hb h3
  obtain ⟨x4, q4, rfl⟩ := u64_of' hu h4
  obtain ⟨x5, q5, rfl⟩ := u64_of' hu h5
  obtain ⟨f, hf⟩ := num_of hu h6 h7 h8 h9
  obtain ⟨g, hg⟩ := num_of hu h10 h11 h12 h13
  simp only [numA, List.cons.injEq, and_true] at hf hg
  obtain ⟨rfl, rfl, rfl, rfl⟩ := hf
  obtain ⟨rfl, rfl, rfl, rfl⟩ := hg
  exact ⟨⟨x0, x1, x2, x3, x4, x5, f, g⟩, rfl, q0, q4, q5⟩

structure AH where
  f : UInt8
  e : En
  h : Hp
def AH.Ok (a : AH) : Prop := a.e.Ok ∧ a.h.Ok
def ahC (a : AH) : List AV := .v (.int .u8 a.f.toNat) :: (enC a.e ++ hpC a.h)
def ahsC (l : List AH) : List AV := l.flatMap ahC
theorem ahC_len (a : AH) : (ahC a).length = 28 := rfl
theorem ahsC_len (l : List AH) : (ahsC l).length = l.length * 28 := flat_length ahC 28 (fun _ => rfl) l
theorem ahsC_at {l : List AH} {i : Nat} (h : i < l.length) : ∃ R, (ahsC l).drop (i * 28) = ahC l[i] ++ R := ⟨_, flat_at ahC 28 (fun _ => rfl) l i h⟩
theorem cellA (a : AH) : (∀ x ∈ ahC a, AV.isCell x = true) := fun x hx => by
  rcases List.mem_cons.1 hx with rfl | hx
  · rfl
  · rcases List.mem_append.1 hx with hx | hx
    · exact cellE a.e x hx
    · exact cellH a.h x hx

theorem ahs_of {P : Program} {t e u b : TypeId} {k : Nat} {a : AV} (ht : P.underlying t = some (.slice e)) (hle : leaves P k e = some [b, u, b, b, u, u, u, u, u, u, u, u, u, u, u, b, b, b, u, u, u, u, u, u, u, u, u, u]) (hu : P.underlying u = some (.int .u64)) (hb : P.underlying b = some (.int .u8)) (w : WC P t a) :
    ∃ L : List AH, a = .sl 28 (ahsC L) L.length .shut ∧ L.length ≤ 9223372036854775807 ∧ ∀ x ∈ L, x.Ok := by
  cases w with
  | bool h => rw [ht] at h; cases h
  | string h _ => rw [ht] at h; cases h
  | int h _ => rw [ht] at h; cases h
  | slice h hls hl hn hc =>
    rw [ht] at h
    cases h
    rename_i fuel ls cs n
    obtain rfl := leaves_one hle hls
    obtain ⟨L, hL, rfl⟩ := groups (α := { x : AH // x.Ok }) (f := fun x => ahC x.1) (ls := [b, u, b, b, u, u, u, u, u, u, u, u, u, u, u, b, b, b, u, u, u, u, u, u, u, u, u, u]) (by simp) (fun _ => rfl) (fun cs h1 h2 => by
      match cs, h1, h2 with
      | [a0, a1, a2, a3, a4, a5, a6, a7, a8, a9, a10, a11, a12, a13, a14, a15, a16, a17, a18, a19, a20, a21, a22, a23, a24, a25, a26, a27], _, h2 =>
        obtain ⟨m, e0⟩ := u8_of hb (h2 0 a0 b rfl rfl)
        obtain ⟨e, e1, o1⟩ := en_cells hu hb (h2 1 a1 _ rfl rfl) (h2 2 a2 _ rfl rfl) (h2 3 a3 _ rfl rfl) (h2 4 a4 _ rfl rfl) (h2 5 a5 _ rfl rfl) (h2 6 a6 _ rfl rfl) (h2 7 a7 _ rfl rfl) (h2 8 a8 _ rfl rfl) (h2 9 a9 _ rfl rfl) (h2 10 a10 _ rfl rfl) (h2 11 a11 _ rfl rfl) (h2 12 a12 _ rfl rfl) (h2 13 a13 _ rfl rfl)
        obtain ⟨f, e2, o2⟩ := hp_cells hu hb (h2 14 a14 _ rfl rfl) (h2 15 a15 _ rfl rfl) (h2 16 a16 _ rfl rfl) (h2 17 a17 _ rfl rfl) (h2 18 a18 _ rfl rfl) (h2 19 a19 _ rfl rfl) (h2 20 a20 _ rfl rfl) (h2 21 a21 _ rfl rfl) (h2 22 a22 _ rfl rfl) (h2 23 a23 _ rfl rfl) (h2 24 a24 _ rfl rfl) (h2 25 a25 _ rfl rfl) (h2 26 a26 _ rfl rfl) (h2 27 a27 _ rfl rfl)
        refine ⟨⟨⟨m, e, f⟩, o1, o2⟩, ?_⟩
        show _ = AV.v (.int .u8 m.toNat) :: (enC e ++ hpC f)
        rw [← e1, ← e2, e0]; rfl) n cs hl hc
    refine ⟨L.map Subtype.val, ?_, by rw [List.length_map, hL]; exact hn, fun x hx => ?_⟩
    · rw [List.length_map, hL]
      show AV.sl 28 _ n .shut = _
      congr 1
      simp [ahsC, List.flatMap_map]
    · obtain ⟨y, _, rfl⟩ := List.mem_map.1 hx
      exact y.2
theorem ahs_arg {n : Nat} {P : Program} {t e u b : TypeId} {k : Nat} {H : Type} {enc : TypeId × Value → H} {W : World} {spare : Nat → Bool} {ad : Option Addr} {m c : Nat} {d : DataW H} {ps : List MemPlace} (hl : leaves P n t = some [t]) (ht : P.underlying t = some (.slice e)) (hle : leaves P k e = some [b, u, b, b, u, u, u, u, u, u, u, u, u, u, u, b, b, b, u, u, u, u, u, u, u, u, u, u]) (hu : P.underlying u = some (.int .u64)) (hb : P.underlying b = some (.int .u8))
    (h : DataW.Trod enc P W 0 spare true t (.slice ad m c) d ps) : ∃ L : List AH, L.length ≤ 9223372036854775807 ∧ (∀ x ∈ L, x.Ok) ∧ AVR (atFirst W) W (.slice ad m c) (.sl 28 (ahsC L) L.length .shut) := by
  obtain ⟨l, h1, h2, h3, h4⟩ := open_arg hl h
  have hc : Value.cells (.slice ad m c) = #[.slice ad m c] := rfl
  obtain ⟨a, rfl⟩ : ∃ a, l = [a] := by
    match l, h1 with
    | [a], _ => exact ⟨a, rfl⟩
  obtain ⟨L, rfl, e1, e2⟩ := ahs_of ht hle hu hb (h4 0 a t rfl rfl)
  exact ⟨L, e1, e2, h3 0 _ _ (by rw [hc]; rfl) rfl⟩
theorem HopS.mono {s : Sto} {W : Wd} {n m : Nat} (h : HopS s W n) (hm : n ≤ m) : HopS s W m := ⟨h.ok.mono hm, h.le, h.lh, h.oe, h.oh, Nat.le_trans h.ne hm, Nat.le_trans h.nh hm, Nat.le_trans h.na hm, Nat.le_trans h.nb hm⟩
def putW (σ : St) (w : Nat) (W : Wd) : St := { σ with objs := σ.objs.set w (wC W) }
def nearH (a : AH) : AH := ⟨a.f, { a.e with n := a.e.n % 7, d := a.e.d % 4, o := a.e.o % 3, v := a.e.v % 3 }, { a.h with n := a.h.n % 7, d := a.h.d % 4, o := a.h.o % 3, f := a.h.f % 3, t := a.h.t % 3 }⟩
theorem nearH_ok {a : AH} (h : a.Ok) : (nearH a).Ok := by
  obtain ⟨⟨h1, h2, h3⟩, h4, h5, h6⟩ := h
  refine ⟨⟨?_, h2, ?_⟩, ?_, h5, ?_⟩ <;> simp only [nearH] <;> omega

theorem rem_u64 (n m : Nat) (hm : (m : Int) ≠ 0) (xo yo : Operand) : binA Try.prog .rem 54 xo yo (.v (.int .u64 (n : Nat))) (.v (.int .u64 m)) = some (.v (.int .u64 ((n % m : Nat) : Int))) := by rw [binA_rem (h := hm)]; rfl
theorem rem_u8 (b : UInt8) (m : Nat) (hm : (m : Int) ≠ 0) (xo yo : Operand) : binA Try.prog .rem 5 xo yo (.v (.int .u8 (b.toNat : Nat))) (.v (.int .u8 m)) = some (.v (.int .u8 ((b.toNat % m : Nat) : Int))) := by rw [binA_rem (h := hm)]; rfl

set_option maxHeartbeats 1600000 in
attribute [local simp] undefA List.getElem?_cons_zero List.getElem?_cons_succ in
theorem nearH_run {σ : St} {a : AH} :
    CallsA Try.prog 60 [.agg (ahC a)] σ (fun av σ' => av = .agg (ahC (nearH a)) ∧ σ = σ') := by
  refine callsA_gcS ?_ rfl
  obtain ⟨a1, q1⟩ : ∃ x : AH, x = { a with e := { a.e with n := a.e.n % 7 } } := ⟨_, rfl⟩
  obtain ⟨a2, q2⟩ : ∃ x : AH, x = { a1 with e := { a1.e with d := a.e.d % 4 } } := ⟨_, rfl⟩
  obtain ⟨a3, q3⟩ : ∃ x : AH, x = { a2 with h := { a2.h with n := a.h.n % 7 } } := ⟨_, rfl⟩
  obtain ⟨a4, q4⟩ : ∃ x : AH, x = { a3 with h := { a3.h with d := a.h.d % 4 } } := ⟨_, rfl⟩
  obtain ⟨a5, q5⟩ : ∃ x : AH, x = { a4 with e := { a4.e with o := a.e.o % 3 } } := ⟨_, rfl⟩
  obtain ⟨a6, q6⟩ : ∃ x : AH, x = { a5 with e := { a5.e with v := a.e.v % 3 } } := ⟨_, rfl⟩
  obtain ⟨a7, q7⟩ : ∃ x : AH, x = { a6 with h := { a6.h with o := a.h.o % 3 } } := ⟨_, rfl⟩
  obtain ⟨a8, q8⟩ : ∃ x : AH, x = { a7 with h := { a7.h with f := a.h.f % 3 } } := ⟨_, rfl⟩
  have q9 : nearH a = { a8 with h := { a8.h with t := a.h.t % 3 } } := by rw [q8, q7, q6, q5, q4, q3, q2, q1]; rfl
  have u3 : ∀ b : UInt8, ((b.toNat : Int) % 3) = ((b % 3).toNat : Int) := fun b => by rw [UInt8.toNat_mod]; rfl
  have e0 : ∀ h2 : 1 < (ahC a).length, (ahC a)[1]'h2 = .v (.int .u64 (a.e.n : Nat)) := fun _ => rfl
  have e1 : ∀ h2 : 5 < (ahC a).length, (ahC a)[5]'h2 = .v (.int .u64 (a.e.d : Nat)) := fun _ => rfl
  have e2 : ∀ h2 : 14 < (ahC a).length, (ahC a)[14]'h2 = .v (.int .u64 (a.h.n : Nat)) := fun _ => rfl
  have e3 : ∀ h2 : 19 < (ahC a).length, (ahC a)[19]'h2 = .v (.int .u64 (a.h.d : Nat)) := fun _ => rfl
  have s1 : List.take 1 (ahC a) ++ AV.v (.int .u64 ((a.e.n : Int) % 7)) :: List.drop 2 (ahC a) = ahC a1 := by rw [q1]; rfl
  have s2 : List.take 5 (ahC a1) ++ AV.v (.int .u64 ((a.e.d : Int) % 4)) :: List.drop 6 (ahC a1) = ahC a2 := by rw [q2]; rfl
  have s3 : List.take 14 (ahC a2) ++ AV.v (.int .u64 ((a.h.n : Int) % 7)) :: List.drop 15 (ahC a2) = ahC a3 := by rw [q3]; rfl
  have s4 : List.take 19 (ahC a3) ++ AV.v (.int .u64 ((a.h.d : Int) % 4)) :: List.drop 20 (ahC a3) = ahC a4 := by rw [q4]; rfl
  have f0 : ∀ h2 : 2 < (ahC a4).length, (ahC a4)[2]'h2 = .v (.int .u8 (a.e.o.toNat : Nat)) := fun _ => by subst q4; subst q3; subst q2; subst q1; rfl
  have f1 : ∀ h2 : 3 < (ahC a4).length, (ahC a4)[3]'h2 = .v (.int .u8 (a.e.v.toNat : Nat)) := fun _ => by subst q4; subst q3; subst q2; subst q1; rfl
  have f2 : ∀ h2 : 15 < (ahC a4).length, (ahC a4)[15]'h2 = .v (.int .u8 (a.h.o.toNat : Nat)) := fun _ => by subst q4; subst q3; subst q2; subst q1; rfl
  have f3 : ∀ h2 : 16 < (ahC a4).length, (ahC a4)[16]'h2 = .v (.int .u8 (a.h.f.toNat : Nat)) := fun _ => by subst q4; subst q3; subst q2; subst q1; rfl
  have f4 : ∀ h2 : 17 < (ahC a4).length, (ahC a4)[17]'h2 = .v (.int .u8 (a.h.t.toNat : Nat)) := fun _ => by subst q4; subst q3; subst q2; subst q1; rfl
  have s5 : List.take 2 (ahC a4) ++ AV.v (.int .u8 ((a.e.o.toNat : Int) % 3)) :: List.drop 3 (ahC a4) = ahC a5 := by rw [q5, u3]; rfl
  have s6 : List.take 3 (ahC a5) ++ AV.v (.int .u8 ((a.e.v.toNat : Int) % 3)) :: List.drop 4 (ahC a5) = ahC a6 := by rw [q6, u3]; rfl
  have s7 : List.take 15 (ahC a6) ++ AV.v (.int .u8 ((a.h.o.toNat : Int) % 3)) :: List.drop 16 (ahC a6) = ahC a7 := by rw [q7, u3]; rfl
  have s8 : List.take 16 (ahC a7) ++ AV.v (.int .u8 ((a.h.f.toNat : Int) % 3)) :: List.drop 17 (ahC a7) = ahC a8 := by rw [q8, u3]; rfl
  have s9 : List.take 17 (ahC a8) ++ AV.v (.int .u8 ((a.h.t.toNat : Int) % 3)) :: List.drop 18 (ahC a8) = ahC (nearH a) := by rw [q9, u3]; rfl
  have r7 : ∀ (n : Nat) xo yo, binA Try.prog .rem 54 xo yo (.v (.int .u64 (n : Nat))) (.v (.int .u64 7)) = some (.v (.int .u64 ((n % 7 : Nat) : Int))) := fun n xo yo => rem_u64 n 7 (by decide) xo yo
  have r4 : ∀ (n : Nat) xo yo, binA Try.prog .rem 54 xo yo (.v (.int .u64 (n : Nat))) (.v (.int .u64 4)) = some (.v (.int .u64 ((n % 4 : Nat) : Int))) := fun n xo yo => rem_u64 n 4 (by decide) xo yo
  have r3 : ∀ (b : UInt8) xo yo, binA Try.prog .rem 5 xo yo (.v (.int .u8 (b.toNat : Nat))) (.v (.int .u8 3)) = some (.v (.int .u8 ((b.toNat % 3 : Nat) : Int))) := fun b xo yo => rem_u8 b 3 (by decide) xo yo
  have hl := ahC_len
  have ht : ∀ x : AH, List.take 28 (ahC x) = ahC x := fun x => List.take_of_length_le (Nat.le_of_eq (ahC_len x))
  obtain ⟨C, hC⟩ : ∃ C, C = ahC (nearH a) := ⟨_, rfl⟩
  have hcl : (∀ x, x ∈ C → x.isCell = true) = True := eq_true (by rw [hC]; exact cellA _)
  have hCl : C.length = 28 := by rw [hC]; rfl
  have hCt : List.take 28 C = C := List.take_of_length_le (Nat.le_of_eq hCl)
  simp only [AV.isCell] at hcl
  rw [← hC] at s9
  rw [← hC]
  clear q1 q2 q3 q4 q5 q6 q7 q8 q9
  have F := And.intro e0 (And.intro e1 (And.intro e2 (And.intro e3 (And.intro s1 (And.intro s2 (And.intro s3 (And.intro s4 (And.intro f0 (And.intro f1 (And.intro f2 (And.intro f3 (And.intro f4 (And.intro s5 (And.intro s6 (And.intro s7 (And.intro s8 (And.intro s9 (And.intro r7 (And.intro r4 (And.intro r3 (And.intro hl (And.intro ht (And.intro hcl (And.intro hCl (And.intro hCt (True.intro))))))))))))))))))))))))))
  refine callsA_body Try.func60 rfl rfl rfl ?_; refine sr fun _ hJ2 => ?_; refine hJ2 _ _ ?_; refine sr fun _ hJ4 => ?_; refine hJ4 _ _ ?_; refine sr fun _ hJ6 => ?_; refine hJ6 _ _ ?_; refine sr fun _ hJ8 => ?_; refine hJ8 _ _ ?_; refine run_ret ?_; (try simp only [Then, InBlock, NoGoto]); refine acell (h := ?_); exact gcr

theorem wset_ok {σ : St} {w : Nat} {W : Wd} {e : En} (h : σ.objs[w]? = some (wC W)) (hl : W.E.length ≤ 1000000) :
    CallsA Try.prog 99 [.ptr w 0, .agg (enC e), .v (.bool false)] σ (fun av σ' => av = .v (.bool (W.E.any (isG itE e.d e.n))) ∧ σ' = putW σ w { W with E := repG itE W.E e }) := wedit_ok (gone := false) h hl
theorem wgone_ok {σ : St} {w : Nat} {W : Wd} {e : En} (h : σ.objs[w]? = some (wC W)) (hl : W.E.length ≤ 1000000) :
    CallsA Try.prog 99 [.ptr w 0, .agg (enC e), .v (.bool true)] σ (fun av σ' => av = .v (.bool (W.E.any (isG itE e.d e.n))) ∧ σ' = putW σ w { W with E := remG itE W.E e.d e.n }) := wedit_ok (gone := true) h hl
theorem wlv_ok {σ : St} {w : Nat} {W : Wd} {e : En} (h : σ.objs[w]? = some (wC W)) (hl : W.E.length ≤ 1000000) (ha : W.a + 1 < 2 ^ 64) :
    CallsA Try.prog 98 [.ptr w 0, .agg (enC e)] σ (fun av σ' => av = .v (.int .u64 (W.a + 1 : Nat)) ∧ σ' = putW σ w (leaveW W e)) := wleaveE_ok h hl ha
theorem wjp_ok {σ : St} {w : Nat} {W : Wd} {e : Hp} (h : σ.objs[w]? = some (wC W)) (hl : W.H.length ≤ 1000000) (ha : W.b + 1 < 2 ^ 64) :
    CallsA Try.prog 100 [.ptr w 0, .agg (hpC e)] σ (fun av σ' => av = .v (.int .u64 (W.b + 1 : Nat)) ∧ σ' = putW σ w (jumpW W e)) := wleaveH_ok h hl ha
theorem wdp_ok {σ : St} {w : Nat} {W : Wd} {e : Hp} (h : σ.objs[w]? = some (wC W)) (hl : W.H.length ≤ 1000000) :
    CallsA Try.prog 101 [.ptr w 0, .agg (hpC e)] σ (fun av σ' => av = .v (.bool (W.H.any (isG itH e.d e.n))) ∧ σ' = putW σ w { W with H := remG itH W.H e.d e.n }) := wdrop_ok h hl

set_option maxHeartbeats 1600000 in
attribute [local simp] undefA List.getElem?_cons_zero List.getElem?_cons_succ in
theorem does14_ok {σ : St} {o k w n : Nat} {G : Sg} {W : Wd} {a : AH} (h : HasS σ o k G) (hw : σ.objs[w]? = some (wC W)) (how : o ≠ w) (hi : HopS G.s W n) (hn : n ≤ 900) (ha : a.Ok) :
    CallsA Try.prog 61 [.ptr o 0, .ptr w 0, .agg (ahC a)] σ (fun av σ' => ∃ G' W', HopS G'.s W' (n + 2) ∧ av = .v (.bool true) ∧ σ' = putW (putS σ o k G') w W') := by
  refine callsA_mono (callsA_gcX (X := { x : Sg × Wd // HopS x.1.s x.2 (n + 2) }) (A := fun _ => .v (.bool true)) (τ := fun x => putW (putS σ o k x.1.1) w x.1.2) ?_ (fun _ => rfl) (fun x => by simp [putW, putS]) (fun x => rfl) (fun x => by simp [putW, putS]) (fun x => rfl) (fun x => ku_set (putS_o h _) (wC_under _ _)) (fun x => putS_r (o := o) (k := k) (σ := σ) _)) (fun av σ' ⟨x, e1, e2⟩ => ⟨x.1.1, x.1.2, x.2, e1, e2⟩)
  have hwl := lt_of_get hw
  have hne := hi.ne
  have hnh := hi.nh
  have hna := hi.na
  have hnb := hi.nb
  have he := ha.1
  have hh := ha.2
  obtain ⟨A, hA⟩ : ∃ A, A = ahC a := ⟨_, rfl⟩
  have hAl : A.length = 28 := by rw [hA]; rfl
  have hAt : List.take 28 A = A := List.take_of_length_le (Nat.le_of_eq hAl)
  have hA0 : ∀ h2 : 0 < A.length, A[0]'h2 = .v (.int .u8 (a.f.toNat : Nat)) := fun _ => by subst hA; rfl
  obtain ⟨Q, hQ⟩ : ∃ Q, Q = enC a.e := ⟨_, rfl⟩
  obtain ⟨Y, hY⟩ : ∃ Y, Y = hpC a.h := ⟨_, rfl⟩
  have hAQ : List.take 13 A.tail = Q := by rw [hA, hQ]; rfl
  have hAY : List.take 14 (List.drop 14 A) = Y := by rw [hA, hY]; rfl
  have hr8 : ∀ xo yo, binA Try.prog .rem 5 xo yo (.v (.int .u8 (a.f.toNat : Nat))) (.v (.int .u8 8)) = some (.v (.int .u8 ((a.f.toNat % 8 : Nat) : Int))) := fun xo yo => rem_u8 a.f 8 (by decide) xo yo
  have hbb : ∀ xo yo (b : Bool), binA Try.prog .eql 4 xo yo (.v (.bool b)) (.v (.bool b)) = some (.v (.bool true)) := fun xo yo b => by cases b <;> rfl
  obtain ⟨r, hr⟩ : ∃ r, r = a.f.toNat % 8 := ⟨_, rfl⟩
  simp only [← hr] at hr8
  have hpa := fun (G' : Sg) => putS_app h G' [A]
  have hS : HasS { σ with objs := σ.objs ++ [A] } o k G := h.app [A] σ.toks
  have gw : ∀ G', (putS { σ with objs := σ.objs ++ [A] } o k G').objs[w]? = some (wC W) := fun G' => by simp only [putS]; rw [List.getElem?_set_ne how, List.getElem?_append_left hwl]; exact hw
  have gA : ∀ G', (putS { σ with objs := σ.objs ++ [A] } o k G').objs[σ.objs.length]? = some A := fun G' => by rw [hpa]; simp [putS]
  have gB : ∀ G' W', (putW (putS { σ with objs := σ.objs ++ [A] } o k G') w W').objs[σ.objs.length]? = some A := fun G' W' => by simp only [putW]; rw [List.getElem?_set_ne (by omega)]; exact gA G'
  have hfin : ∀ G' W', putW (putS { σ with objs := σ.objs ++ [A] } o k G') w W' = { putW (putS σ o k G') w W' with objs := (putW (putS σ o k G') w W').objs ++ [A] } := fun G' W' => by
    rw [hpa]; simp only [putW]; rw [List.set_append_left _ _ (by simpa [putS] using hwl)]
  have d1 := hleave_ok (e := a.e) hS hi (by omega) he
  have d2 := hsetE_ok (e := a.e) hS hi (by omega) he
  have d3 := hdropE_ok (e := a.e) hS hi (by omega) he
  have d4 := hjump_ok (e := a.h) hS hi (by omega) hh
  have d5 := hdropH_ok (e := a.h) hS hi (by omega) hh
  have w1 := fun G' => wlv_ok (e := a.e) (gw G') (by omega) (by omega)
  have w2 := fun G' => wset_ok (e := a.e) (gw G') (by omega)
  have w3 := fun G' => wgone_ok (e := a.e) (gw G') (by omega)
  have w4 := fun G' => wjp_ok (e := a.h) (gw G') (by omega) (by omega)
  have w5 := fun G' => wdp_ok (e := a.h) (gw G') (by omega)
  simp only [← hQ] at d1 d2 d3 w1 w2 w3
  simp only [← hY] at d4 d5 w4 w5
  rw [← hA]
  have F := And.intro hAl (And.intro hAt (And.intro hA0 (And.intro hAQ (And.intro hAY (And.intro hr8 (And.intro hbb (And.intro gA (And.intro gB (True.intro)))))))))
  refine callsA_body Try.func61 rfl rfl rfl ?_; refine sr fun _ hJ2 => ?_; refine hJ2 _ _ ?_; refine sq fun K3 hK3 => ?_; refine sr fun _ hJ5 => ?_; refine hJ5 _ _ ?_; refine run_block_k ?_; refine sq fun K6 hK6 => ?_; refine sr fun _ hJ8 => ?_; refine hJ8 _ _ ?_; refine cs (fun c10 => ?_) (fun c10 => ?_)
  · (try exact nope c10); all_goals have c10p := c10; try simp [F] at c10p
    all_goals
     replace F := aF c10 F; (try replace F := aF c10p F); refine run_skip ?_; refine hK6 _ _ ?_; refine cs (fun c10 => ?_) (fun c10 => ?_)
     · (try exact nope c10); all_goals have c10p := c10; try simp [F] at c10p
       all_goals
        replace F := aF c10 F; (try replace F := aF c10p F); refine sq fun K9 hK9 => ?_
        refine run_draw (by kernel_rfl) fun J10 hJ10 => ?_
        refine rp2 0 (k := ?_); refine rp2 1 (k := ?_); refine rp2 2 (k := ?_); refine rp2 4 (k := ?_); refine rp2 5 (k := ?_); refine rp2 6 (k := ?_); refine dc 3 rfl (c := d1) (k := ?_); rintro _ _ ⟨G1, e1, rfl, rfl⟩
        refine ⟨by first | exact fun _ _ h => h | (refine later_list [6, 5, 4, 1] (by kernel_rfl) (List.forall_mem_cons.2 ⟨fun _ => fact2 rfl rfl ?_, List.forall_mem_cons.2 ⟨fun _ => fact2 rfl rfl ?_, List.forall_mem_cons.2 ⟨fun _ => fact2 rfl rfl ?_, List.forall_mem_cons.2 ⟨fun _ => fact2 rfl rfl ?_, fun _ h => absurd h List.not_mem_nil⟩⟩⟩⟩) <;> constructor <;> first | rfl | (simp [F]; done)), ?_⟩
        (repeat (first | simp [F] | simp (disch := omega) only [wC, if_pos, if_neg])); refine dc 7 rfl (c := w1 G1) (k := ?_); rintro _ _ ⟨rfl, rfl⟩
        refine ⟨by first | exact fun _ _ h => h | (refine later_list [5, 1] (by kernel_rfl) (List.forall_mem_cons.2 ⟨fun _ => fact2 rfl rfl ?_, List.forall_mem_cons.2 ⟨fun _ => fact2 rfl rfl ?_, fun _ h => absurd h List.not_mem_nil⟩⟩) <;> constructor <;> first | rfl | (simp [F]; done)), ?_⟩
        (repeat (first | simp [F] | simp (disch := omega) only [wC, if_pos, if_neg])); refine rp2 8 (k := ?_); refine rp2 9 (k := ?_); refine dd ?_; refine hJ10 _ _ ?_; refine hK9 _ _ ?_; refine ra ?_; refine ⟨⟨(G1, leaveW W a.e), e1⟩, ?_⟩
        rw [hfin]
        exact gcr
     (try exact nope c10); all_goals have c10p := c10; try simp [F] at c10p
     all_goals
      replace F := aF c10 F; (try replace F := aF c10p F); refine sr fun _ hJ12 => ?_; refine hJ12 _ _ ?_; refine cs (fun c22 => ?_) (fun c22 => ?_)
      · (try exact nope c22); all_goals have c22p := c22; try simp [F] at c22p
        all_goals
         replace F := aF c22 F; (try replace F := aF c22p F); refine sq fun K13 hK13 => ?_
         refine run_draw (by kernel_rfl) fun J14 hJ14 => ?_
         refine rp2 0 (k := ?_); refine rp2 1 (k := ?_); refine rp2 2 (k := ?_); refine rp2 4 (k := ?_); refine rp2 5 (k := ?_); refine rp2 6 (k := ?_); refine dc 3 rfl (c := d2) (k := ?_); rintro _ _ ⟨G1, e1, rfl, rfl⟩
         refine ⟨by first | exact fun _ _ h => h | (refine later_list [6, 5, 4, 1] (by kernel_rfl) (List.forall_mem_cons.2 ⟨fun _ => fact2 rfl rfl ?_, List.forall_mem_cons.2 ⟨fun _ => fact2 rfl rfl ?_, List.forall_mem_cons.2 ⟨fun _ => fact2 rfl rfl ?_, List.forall_mem_cons.2 ⟨fun _ => fact2 rfl rfl ?_, fun _ h => absurd h List.not_mem_nil⟩⟩⟩⟩) <;> constructor <;> first | rfl | (simp [F]; done)), ?_⟩
         (repeat (first | simp [F] | simp (disch := omega) only [wC, if_pos, if_neg])); refine dc 7 rfl (c := w2 G1) (k := ?_); rintro _ _ ⟨rfl, rfl⟩
         refine ⟨by first | exact fun _ _ h => h | (refine later_list [5, 1] (by kernel_rfl) (List.forall_mem_cons.2 ⟨fun _ => fact2 rfl rfl ?_, List.forall_mem_cons.2 ⟨fun _ => fact2 rfl rfl ?_, fun _ h => absurd h List.not_mem_nil⟩⟩) <;> constructor <;> first | rfl | (simp [F]; done)), ?_⟩
         (repeat (first | simp [F] | simp (disch := omega) only [wC, if_pos, if_neg])); refine rp2 8 (k := ?_); refine rp2 9 (k := ?_); refine dd ?_; refine hJ14 _ _ ?_; refine hK13 _ _ ?_; refine ra ?_; refine ⟨⟨(G1, leaveW W a.e), e1⟩, ?_⟩
         rw [hfin]
         exact gcr
      (try exact nope c22); all_goals have c22p := c22; try simp [F] at c22p
      all_goals
       replace F := aF c22 F; (try replace F := aF c22p F); refine sr fun _ hJ16 => ?_; refine hJ16 _ _ ?_; refine cs (fun c33 => ?_) (fun c33 => ?_)
       · (try exact nope c33); all_goals have c33p := c33; try simp [F] at c33p
         all_goals
          replace F := aF c33 F; (try replace F := aF c33p F); refine sq fun K17 hK17 => ?_
          refine run_draw (by kernel_rfl) fun J18 hJ18 => ?_
          refine rp2 0 (k := ?_); refine rp2 1 (k := ?_); refine rp2 2 (k := ?_); refine rp2 4 (k := ?_); refine rp2 5 (k := ?_); refine rp2 6 (k := ?_); refine dc 3 rfl (c := d3) (k := ?_); rintro _ _ ⟨G1, e1, rfl, rfl⟩
          refine ⟨by first | exact fun _ _ h => h | (refine later_list [6, 5, 4, 1] (by kernel_rfl) (List.forall_mem_cons.2 ⟨fun _ => fact2 rfl rfl ?_, List.forall_mem_cons.2 ⟨fun _ => fact2 rfl rfl ?_, List.forall_mem_cons.2 ⟨fun _ => fact2 rfl rfl ?_, List.forall_mem_cons.2 ⟨fun _ => fact2 rfl rfl ?_, fun _ h => absurd h List.not_mem_nil⟩⟩⟩⟩) <;> constructor <;> first | rfl | (simp [F]; done)), ?_⟩
          (repeat (first | simp [F] | simp (disch := omega) only [wC, if_pos, if_neg])); refine dc 7 rfl (c := w3 G1) (k := ?_); rintro _ _ ⟨rfl, rfl⟩
          refine ⟨by first | exact fun _ _ h => h | (refine later_list [5, 1] (by kernel_rfl) (List.forall_mem_cons.2 ⟨fun _ => fact2 rfl rfl ?_, List.forall_mem_cons.2 ⟨fun _ => fact2 rfl rfl ?_, fun _ h => absurd h List.not_mem_nil⟩⟩) <;> constructor <;> first | rfl | (simp [F]; done)), ?_⟩
          (repeat (first | simp [F] | simp (disch := omega) only [wC, if_pos, if_neg])); refine rp2 8 (k := ?_); refine rp2 9 (k := ?_); refine dd ?_; refine hJ18 _ _ ?_; refine hK17 _ _ ?_; refine ra ?_; refine ⟨⟨(G1, leaveW W a.e), e1⟩, ?_⟩
          rw [hfin]
          exact gcr
       (try exact nope c33); all_goals have c33p := c33; try simp [F] at c33p
       all_goals
        replace F := aF c33 F; (try replace F := aF c33p F); refine sq fun K19 hK19 => ?_; refine sr fun _ hJ21 => ?_; refine hJ21 _ _ ?_; refine cs (fun c44 => ?_) (fun c44 => ?_)
        · (try exact nope c44); all_goals have c44p := c44; try simp [F] at c44p
          all_goals
           replace F := aF c44 F; (try replace F := aF c44p F); refine run_skip ?_; refine hK19 _ _ ?_; refine cs (fun c44 => ?_) (fun c44 => ?_)
           · (try exact nope c44); all_goals have c44p := c44; try simp [F] at c44p
             all_goals
              replace F := aF c44 F; (try replace F := aF c44p F); refine sq fun K22 hK22 => ?_
              refine run_draw (by kernel_rfl) fun J23 hJ23 => ?_
              refine rp2 0 (k := ?_); refine rp2 1 (k := ?_); refine rp2 2 (k := ?_); refine rp2 4 (k := ?_); refine rp2 5 (k := ?_); refine rp2 6 (k := ?_); refine dc 3 rfl (c := d4) (k := ?_); rintro _ _ ⟨G1, e1, rfl, rfl⟩
              refine ⟨by first | exact fun _ _ h => h | (refine later_list [6, 5, 4, 1] (by kernel_rfl) (List.forall_mem_cons.2 ⟨fun _ => fact2 rfl rfl ?_, List.forall_mem_cons.2 ⟨fun _ => fact2 rfl rfl ?_, List.forall_mem_cons.2 ⟨fun _ => fact2 rfl rfl ?_, List.forall_mem_cons.2 ⟨fun _ => fact2 rfl rfl ?_, fun _ h => absurd h List.not_mem_nil⟩⟩⟩⟩) <;> constructor <;> first | rfl | (simp [F]; done)), ?_⟩
              (repeat (first | simp [F] | simp (disch := omega) only [wC, if_pos, if_neg])); refine dc 7 rfl (c := w4 G1) (k := ?_); rintro _ _ ⟨rfl, rfl⟩
              refine ⟨by first | exact fun _ _ h => h | (refine later_list [5, 1] (by kernel_rfl) (List.forall_mem_cons.2 ⟨fun _ => fact2 rfl rfl ?_, List.forall_mem_cons.2 ⟨fun _ => fact2 rfl rfl ?_, fun _ h => absurd h List.not_mem_nil⟩⟩) <;> constructor <;> first | rfl | (simp [F]; done)), ?_⟩
              (repeat (first | simp [F] | simp (disch := omega) only [wC, if_pos, if_neg])); refine rp2 8 (k := ?_); refine rp2 9 (k := ?_); refine dd ?_; refine hJ23 _ _ ?_; refine hK22 _ _ ?_; refine ra ?_; refine ⟨⟨(G1, leaveW W a.e), e1⟩, ?_⟩
              rw [hfin]
              exact gcr
           (try exact nope c44); all_goals have c44p := c44; try simp [F] at c44p
           all_goals
            replace F := aF c44 F; (try replace F := aF c44p F); refine run_skip ?_; refine hK3 _ _ ?_; refine sq fun K24 hK24 => ?_
            refine run_draw (by kernel_rfl) fun J25 hJ25 => ?_
            refine rp2 0 (k := ?_); refine rp2 1 (k := ?_); refine rp2 2 (k := ?_); refine rp2 4 (k := ?_); refine rp2 5 (k := ?_); refine rp2 6 (k := ?_); refine dc 3 rfl (c := d5) (k := ?_); rintro _ _ ⟨G1, e1, rfl, rfl⟩
            refine ⟨by first | exact fun _ _ h => h | (refine later_list [6, 5, 4, 1] (by kernel_rfl) (List.forall_mem_cons.2 ⟨fun _ => fact2 rfl rfl ?_, List.forall_mem_cons.2 ⟨fun _ => fact2 rfl rfl ?_, List.forall_mem_cons.2 ⟨fun _ => fact2 rfl rfl ?_, List.forall_mem_cons.2 ⟨fun _ => fact2 rfl rfl ?_, fun _ h => absurd h List.not_mem_nil⟩⟩⟩⟩) <;> constructor <;> first | rfl | (simp [F]; done)), ?_⟩
            (repeat (first | simp [F] | simp (disch := omega) only [wC, if_pos, if_neg])); refine dc 7 rfl (c := w5 G1) (k := ?_); rintro _ _ ⟨rfl, rfl⟩
            refine ⟨by first | exact fun _ _ h => h | (refine later_list [5, 1] (by kernel_rfl) (List.forall_mem_cons.2 ⟨fun _ => fact2 rfl rfl ?_, List.forall_mem_cons.2 ⟨fun _ => fact2 rfl rfl ?_, fun _ h => absurd h List.not_mem_nil⟩⟩) <;> constructor <;> first | rfl | (simp [F]; done)), ?_⟩
            (repeat (first | simp [F] | simp (disch := omega) only [wC, if_pos, if_neg])); refine rp2 8 (k := ?_); refine rp2 9 (k := ?_); refine dd ?_; refine hJ25 _ _ ?_; refine hK24 _ _ ?_; refine ra ?_; refine ⟨⟨(G1, leaveW W a.e), e1⟩, ?_⟩
            rw [hfin]
            exact gcr
        (try exact nope c44); all_goals have c44p := c44; try simp [F] at c44p
        all_goals
         replace F := aF c44 F; (try replace F := aF c44p F); refine sr fun _ hJ27 => ?_; refine hJ27 _ _ ?_; refine cs (fun c44 => ?_) (fun c44 => ?_)
         · (try exact nope c44); all_goals have c44p := c44; try simp [F] at c44p
           all_goals
            replace F := aF c44 F; (try replace F := aF c44p F); refine run_skip ?_; refine hK19 _ _ ?_; refine cs (fun c44 => ?_) (fun c44 => ?_)
            · (try exact nope c44); all_goals have c44p := c44; try simp [F] at c44p
              all_goals
               replace F := aF c44 F; (try replace F := aF c44p F); refine sq fun K28 hK28 => ?_
               refine run_draw (by kernel_rfl) fun J29 hJ29 => ?_
               refine rp2 0 (k := ?_); refine rp2 1 (k := ?_); refine rp2 2 (k := ?_); refine rp2 4 (k := ?_); refine rp2 5 (k := ?_); refine rp2 6 (k := ?_); refine dc 3 rfl (c := d4) (k := ?_); rintro _ _ ⟨G1, e1, rfl, rfl⟩
               refine ⟨by first | exact fun _ _ h => h | (refine later_list [6, 5, 4, 1] (by kernel_rfl) (List.forall_mem_cons.2 ⟨fun _ => fact2 rfl rfl ?_, List.forall_mem_cons.2 ⟨fun _ => fact2 rfl rfl ?_, List.forall_mem_cons.2 ⟨fun _ => fact2 rfl rfl ?_, List.forall_mem_cons.2 ⟨fun _ => fact2 rfl rfl ?_, fun _ h => absurd h List.not_mem_nil⟩⟩⟩⟩) <;> constructor <;> first | rfl | (simp [F]; done)), ?_⟩
               (repeat (first | simp [F] | simp (disch := omega) only [wC, if_pos, if_neg])); refine dc 7 rfl (c := w4 G1) (k := ?_); rintro _ _ ⟨rfl, rfl⟩
               refine ⟨by first | exact fun _ _ h => h | (refine later_list [5, 1] (by kernel_rfl) (List.forall_mem_cons.2 ⟨fun _ => fact2 rfl rfl ?_, List.forall_mem_cons.2 ⟨fun _ => fact2 rfl rfl ?_, fun _ h => absurd h List.not_mem_nil⟩⟩) <;> constructor <;> first | rfl | (simp [F]; done)), ?_⟩
               (repeat (first | simp [F] | simp (disch := omega) only [wC, if_pos, if_neg])); refine rp2 8 (k := ?_); refine rp2 9 (k := ?_); refine dd ?_; refine hJ29 _ _ ?_; refine hK28 _ _ ?_; refine ra ?_; refine ⟨⟨(G1, leaveW W a.e), e1⟩, ?_⟩
               rw [hfin]
               exact gcr
            (try exact nope c44); all_goals have c44p := c44; try simp [F] at c44p
            all_goals
             replace F := aF c44 F; (try replace F := aF c44p F); refine run_skip ?_; refine hK3 _ _ ?_; refine sq fun K30 hK30 => ?_
             refine run_draw (by kernel_rfl) fun J31 hJ31 => ?_
             refine rp2 0 (k := ?_); refine rp2 1 (k := ?_); refine rp2 2 (k := ?_); refine rp2 4 (k := ?_); refine rp2 5 (k := ?_); refine rp2 6 (k := ?_); refine dc 3 rfl (c := d5) (k := ?_); rintro _ _ ⟨G1, e1, rfl, rfl⟩
             refine ⟨by first | exact fun _ _ h => h | (refine later_list [6, 5, 4, 1] (by kernel_rfl) (List.forall_mem_cons.2 ⟨fun _ => fact2 rfl rfl ?_, List.forall_mem_cons.2 ⟨fun _ => fact2 rfl rfl ?_, List.forall_mem_cons.2 ⟨fun _ => fact2 rfl rfl ?_, List.forall_mem_cons.2 ⟨fun _ => fact2 rfl rfl ?_, fun _ h => absurd h List.not_mem_nil⟩⟩⟩⟩) <;> constructor <;> first | rfl | (simp [F]; done)), ?_⟩
             (repeat (first | simp [F] | simp (disch := omega) only [wC, if_pos, if_neg])); refine dc 7 rfl (c := w5 G1) (k := ?_); rintro _ _ ⟨rfl, rfl⟩
             refine ⟨by first | exact fun _ _ h => h | (refine later_list [5, 1] (by kernel_rfl) (List.forall_mem_cons.2 ⟨fun _ => fact2 rfl rfl ?_, List.forall_mem_cons.2 ⟨fun _ => fact2 rfl rfl ?_, fun _ h => absurd h List.not_mem_nil⟩⟩) <;> constructor <;> first | rfl | (simp [F]; done)), ?_⟩
             (repeat (first | simp [F] | simp (disch := omega) only [wC, if_pos, if_neg])); refine rp2 8 (k := ?_); refine rp2 9 (k := ?_); refine dd ?_; refine hJ31 _ _ ?_; refine hK30 _ _ ?_; refine ra ?_; refine ⟨⟨(G1, leaveW W a.e), e1⟩, ?_⟩
             rw [hfin]
             exact gcr
         (try exact nope c44); all_goals have c44p := c44; try simp [F] at c44p
         all_goals
          replace F := aF c44 F; (try replace F := aF c44p F); refine rg' (h := fun J32 hJ32 => ?_); refine hJ32 _ _ ?_; refine hK19 _ _ ?_; refine cs (fun c44 => ?_) (fun c44 => ?_)
          · (try exact nope c44); all_goals have c44p := c44; try simp [F] at c44p
            all_goals
             replace F := aF c44 F; (try replace F := aF c44p F); refine sq fun K33 hK33 => ?_
             refine run_draw (by kernel_rfl) fun J34 hJ34 => ?_
             refine rp2 0 (k := ?_); refine rp2 1 (k := ?_); refine rp2 2 (k := ?_); refine rp2 4 (k := ?_); refine rp2 5 (k := ?_); refine rp2 6 (k := ?_); refine dc 3 rfl (c := d4) (k := ?_); rintro _ _ ⟨G1, e1, rfl, rfl⟩
             refine ⟨by first | exact fun _ _ h => h | (refine later_list [6, 5, 4, 1] (by kernel_rfl) (List.forall_mem_cons.2 ⟨fun _ => fact2 rfl rfl ?_, List.forall_mem_cons.2 ⟨fun _ => fact2 rfl rfl ?_, List.forall_mem_cons.2 ⟨fun _ => fact2 rfl rfl ?_, List.forall_mem_cons.2 ⟨fun _ => fact2 rfl rfl ?_, fun _ h => absurd h List.not_mem_nil⟩⟩⟩⟩) <;> constructor <;> first | rfl | (simp [F]; done)), ?_⟩
             (repeat (first | simp [F] | simp (disch := omega) only [wC, if_pos, if_neg])); refine dc 7 rfl (c := w4 G1) (k := ?_); rintro _ _ ⟨rfl, rfl⟩
             refine ⟨by first | exact fun _ _ h => h | (refine later_list [5, 1] (by kernel_rfl) (List.forall_mem_cons.2 ⟨fun _ => fact2 rfl rfl ?_, List.forall_mem_cons.2 ⟨fun _ => fact2 rfl rfl ?_, fun _ h => absurd h List.not_mem_nil⟩⟩) <;> constructor <;> first | rfl | (simp [F]; done)), ?_⟩
             (repeat (first | simp [F] | simp (disch := omega) only [wC, if_pos, if_neg])); refine rp2 8 (k := ?_); refine rp2 9 (k := ?_); refine dd ?_; refine hJ34 _ _ ?_; refine hK33 _ _ ?_; refine ra ?_; refine ⟨⟨(G1, leaveW W a.e), e1⟩, ?_⟩
             rw [hfin]
             exact gcr
          (try exact nope c44); all_goals have c44p := c44; try simp [F] at c44p
          all_goals
           replace F := aF c44 F; (try replace F := aF c44p F); refine run_skip ?_; refine hK3 _ _ ?_; refine sq fun K35 hK35 => ?_
           refine run_draw (by kernel_rfl) fun J36 hJ36 => ?_
           refine rp2 0 (k := ?_); refine rp2 1 (k := ?_); refine rp2 2 (k := ?_); refine rp2 4 (k := ?_); refine rp2 5 (k := ?_); refine rp2 6 (k := ?_); refine dc 3 rfl (c := d5) (k := ?_); rintro _ _ ⟨G1, e1, rfl, rfl⟩
           refine ⟨by first | exact fun _ _ h => h | (refine later_list [6, 5, 4, 1] (by kernel_rfl) (List.forall_mem_cons.2 ⟨fun _ => fact2 rfl rfl ?_, List.forall_mem_cons.2 ⟨fun _ => fact2 rfl rfl ?_, List.forall_mem_cons.2 ⟨fun _ => fact2 rfl rfl ?_, List.forall_mem_cons.2 ⟨fun _ => fact2 rfl rfl ?_, fun _ h => absurd h List.not_mem_nil⟩⟩⟩⟩) <;> constructor <;> first | rfl | (simp [F]; done)), ?_⟩
           (repeat (first | simp [F] | simp (disch := omega) only [wC, if_pos, if_neg])); refine dc 7 rfl (c := w5 G1) (k := ?_); rintro _ _ ⟨rfl, rfl⟩
           refine ⟨by first | exact fun _ _ h => h | (refine later_list [5, 1] (by kernel_rfl) (List.forall_mem_cons.2 ⟨fun _ => fact2 rfl rfl ?_, List.forall_mem_cons.2 ⟨fun _ => fact2 rfl rfl ?_, fun _ h => absurd h List.not_mem_nil⟩⟩) <;> constructor <;> first | rfl | (simp [F]; done)), ?_⟩
           (repeat (first | simp [F] | simp (disch := omega) only [wC, if_pos, if_neg])); refine rp2 8 (k := ?_); refine rp2 9 (k := ?_); refine dd ?_; refine hJ36 _ _ ?_; refine hK35 _ _ ?_; refine ra ?_; refine ⟨⟨(G1, leaveW W a.e), e1⟩, ?_⟩
           rw [hfin]
           exact gcr
  (try exact nope c10); all_goals have c10p := c10; try simp [F] at c10p
  all_goals
   replace F := aF c10 F; (try replace F := aF c10p F); refine rg' (h := fun J37 hJ37 => ?_); refine hJ37 _ _ ?_; refine hK6 _ _ ?_; refine cs (fun c10 => ?_) (fun c10 => ?_)
   · (try exact nope c10); all_goals have c10p := c10; try simp [F] at c10p
     all_goals
      replace F := aF c10 F; (try replace F := aF c10p F); refine sq fun K38 hK38 => ?_
      refine run_draw (by kernel_rfl) fun J39 hJ39 => ?_
      refine rp2 0 (k := ?_); refine rp2 1 (k := ?_); refine rp2 2 (k := ?_); refine rp2 4 (k := ?_); refine rp2 5 (k := ?_); refine rp2 6 (k := ?_); refine dc 3 rfl (c := d1) (k := ?_); rintro _ _ ⟨G1, e1, rfl, rfl⟩
      refine ⟨by first | exact fun _ _ h => h | (refine later_list [6, 5, 4, 1] (by kernel_rfl) (List.forall_mem_cons.2 ⟨fun _ => fact2 rfl rfl ?_, List.forall_mem_cons.2 ⟨fun _ => fact2 rfl rfl ?_, List.forall_mem_cons.2 ⟨fun _ => fact2 rfl rfl ?_, List.forall_mem_cons.2 ⟨fun _ => fact2 rfl rfl ?_, fun _ h => absurd h List.not_mem_nil⟩⟩⟩⟩) <;> constructor <;> first | rfl | (simp [F]; done)), ?_⟩
      (repeat (first | simp [F] | simp (disch := omega) only [wC, if_pos, if_neg])); refine dc 7 rfl (c := w1 G1) (k := ?_); rintro _ _ ⟨rfl, rfl⟩
      refine ⟨by first | exact fun _ _ h => h | (refine later_list [5, 1] (by kernel_rfl) (List.forall_mem_cons.2 ⟨fun _ => fact2 rfl rfl ?_, List.forall_mem_cons.2 ⟨fun _ => fact2 rfl rfl ?_, fun _ h => absurd h List.not_mem_nil⟩⟩) <;> constructor <;> first | rfl | (simp [F]; done)), ?_⟩
      (repeat (first | simp [F] | simp (disch := omega) only [wC, if_pos, if_neg])); refine rp2 8 (k := ?_); refine rp2 9 (k := ?_); refine dd ?_; refine hJ39 _ _ ?_; refine hK38 _ _ ?_; refine ra ?_; refine ⟨⟨(G1, leaveW W a.e), e1⟩, ?_⟩
      rw [hfin]
      exact gcr
   (try exact nope c10); all_goals have c10p := c10; try simp [F] at c10p
   all_goals
    replace F := aF c10 F; (try replace F := aF c10p F); refine sr fun _ hJ41 => ?_; refine hJ41 _ _ ?_; refine cs (fun c22 => ?_) (fun c22 => ?_)
    · (try exact nope c22); all_goals have c22p := c22; try simp [F] at c22p
      all_goals
       replace F := aF c22 F; (try replace F := aF c22p F); refine sq fun K42 hK42 => ?_
       refine run_draw (by kernel_rfl) fun J43 hJ43 => ?_
       refine rp2 0 (k := ?_); refine rp2 1 (k := ?_); refine rp2 2 (k := ?_); refine rp2 4 (k := ?_); refine rp2 5 (k := ?_); refine rp2 6 (k := ?_); refine dc 3 rfl (c := d2) (k := ?_); rintro _ _ ⟨G1, e1, rfl, rfl⟩
       refine ⟨by first | exact fun _ _ h => h | (refine later_list [6, 5, 4, 1] (by kernel_rfl) (List.forall_mem_cons.2 ⟨fun _ => fact2 rfl rfl ?_, List.forall_mem_cons.2 ⟨fun _ => fact2 rfl rfl ?_, List.forall_mem_cons.2 ⟨fun _ => fact2 rfl rfl ?_, List.forall_mem_cons.2 ⟨fun _ => fact2 rfl rfl ?_, fun _ h => absurd h List.not_mem_nil⟩⟩⟩⟩) <;> constructor <;> first | rfl | (simp [F]; done)), ?_⟩
       (repeat (first | simp [F] | simp (disch := omega) only [wC, if_pos, if_neg])); refine dc 7 rfl (c := w2 G1) (k := ?_); rintro _ _ ⟨rfl, rfl⟩
       refine ⟨by first | exact fun _ _ h => h | (refine later_list [5, 1] (by kernel_rfl) (List.forall_mem_cons.2 ⟨fun _ => fact2 rfl rfl ?_, List.forall_mem_cons.2 ⟨fun _ => fact2 rfl rfl ?_, fun _ h => absurd h List.not_mem_nil⟩⟩) <;> constructor <;> first | rfl | (simp [F]; done)), ?_⟩
       (repeat (first | simp [F] | simp (disch := omega) only [wC, if_pos, if_neg])); refine rp2 8 (k := ?_); refine rp2 9 (k := ?_); refine dd ?_; refine hJ43 _ _ ?_; refine hK42 _ _ ?_; refine ra ?_; refine ⟨⟨(G1, _), e1.mono (Nat.le_succ _)⟩, ?_⟩
       rw [hfin]
       exact gcr
    (try exact nope c22); all_goals have c22p := c22; try simp [F] at c22p
    all_goals
     replace F := aF c22 F; (try replace F := aF c22p F); refine sr fun _ hJ45 => ?_; refine hJ45 _ _ ?_; refine cs (fun c33 => ?_) (fun c33 => ?_)
     · (try exact nope c33); all_goals have c33p := c33; try simp [F] at c33p
       all_goals
        replace F := aF c33 F; (try replace F := aF c33p F); refine sq fun K46 hK46 => ?_
        refine run_draw (by kernel_rfl) fun J47 hJ47 => ?_
        refine rp2 0 (k := ?_); refine rp2 1 (k := ?_); refine rp2 2 (k := ?_); refine rp2 4 (k := ?_); refine rp2 5 (k := ?_); refine rp2 6 (k := ?_); refine dc 3 rfl (c := d3) (k := ?_); rintro _ _ ⟨G1, e1, rfl, rfl⟩
        refine ⟨by first | exact fun _ _ h => h | (refine later_list [6, 5, 4, 1] (by kernel_rfl) (List.forall_mem_cons.2 ⟨fun _ => fact2 rfl rfl ?_, List.forall_mem_cons.2 ⟨fun _ => fact2 rfl rfl ?_, List.forall_mem_cons.2 ⟨fun _ => fact2 rfl rfl ?_, List.forall_mem_cons.2 ⟨fun _ => fact2 rfl rfl ?_, fun _ h => absurd h List.not_mem_nil⟩⟩⟩⟩) <;> constructor <;> first | rfl | (simp [F]; done)), ?_⟩
        (repeat (first | simp [F] | simp (disch := omega) only [wC, if_pos, if_neg])); refine dc 7 rfl (c := w3 G1) (k := ?_); rintro _ _ ⟨rfl, rfl⟩
        refine ⟨by first | exact fun _ _ h => h | (refine later_list [5, 1] (by kernel_rfl) (List.forall_mem_cons.2 ⟨fun _ => fact2 rfl rfl ?_, List.forall_mem_cons.2 ⟨fun _ => fact2 rfl rfl ?_, fun _ h => absurd h List.not_mem_nil⟩⟩) <;> constructor <;> first | rfl | (simp [F]; done)), ?_⟩
        (repeat (first | simp [F] | simp (disch := omega) only [wC, if_pos, if_neg])); refine rp2 8 (k := ?_); refine rp2 9 (k := ?_); refine dd ?_; refine hJ47 _ _ ?_; refine hK46 _ _ ?_; refine ra ?_; refine ⟨⟨(G1, _), e1.mono (Nat.le_succ _)⟩, ?_⟩
        rw [hfin]
        exact gcr
     (try exact nope c33); all_goals have c33p := c33; try simp [F] at c33p
     all_goals
      replace F := aF c33 F; (try replace F := aF c33p F); refine sq fun K48 hK48 => ?_; refine sr fun _ hJ50 => ?_; refine hJ50 _ _ ?_; refine cs (fun c44 => ?_) (fun c44 => ?_)
      · (try exact nope c44); all_goals have c44p := c44; try simp [F] at c44p
        all_goals
         replace F := aF c44 F; (try replace F := aF c44p F); refine run_skip ?_; refine hK48 _ _ ?_; refine cs (fun c44 => ?_) (fun c44 => ?_)
         · (try exact nope c44); all_goals have c44p := c44; try simp [F] at c44p
           all_goals
            replace F := aF c44 F; (try replace F := aF c44p F); refine sq fun K51 hK51 => ?_
            refine run_draw (by kernel_rfl) fun J52 hJ52 => ?_
            refine rp2 0 (k := ?_); refine rp2 1 (k := ?_); refine rp2 2 (k := ?_); refine rp2 4 (k := ?_); refine rp2 5 (k := ?_); refine rp2 6 (k := ?_); refine dc 3 rfl (c := d4) (k := ?_); rintro _ _ ⟨G1, e1, rfl, rfl⟩
            refine ⟨by first | exact fun _ _ h => h | (refine later_list [6, 5, 4, 1] (by kernel_rfl) (List.forall_mem_cons.2 ⟨fun _ => fact2 rfl rfl ?_, List.forall_mem_cons.2 ⟨fun _ => fact2 rfl rfl ?_, List.forall_mem_cons.2 ⟨fun _ => fact2 rfl rfl ?_, List.forall_mem_cons.2 ⟨fun _ => fact2 rfl rfl ?_, fun _ h => absurd h List.not_mem_nil⟩⟩⟩⟩) <;> constructor <;> first | rfl | (simp [F]; done)), ?_⟩
            (repeat (first | simp [F] | simp (disch := omega) only [wC, if_pos, if_neg])); refine dc 7 rfl (c := w4 G1) (k := ?_); rintro _ _ ⟨rfl, rfl⟩
            refine ⟨by first | exact fun _ _ h => h | (refine later_list [5, 1] (by kernel_rfl) (List.forall_mem_cons.2 ⟨fun _ => fact2 rfl rfl ?_, List.forall_mem_cons.2 ⟨fun _ => fact2 rfl rfl ?_, fun _ h => absurd h List.not_mem_nil⟩⟩) <;> constructor <;> first | rfl | (simp [F]; done)), ?_⟩
            (repeat (first | simp [F] | simp (disch := omega) only [wC, if_pos, if_neg])); refine rp2 8 (k := ?_); refine rp2 9 (k := ?_); refine dd ?_; refine hJ52 _ _ ?_; refine hK51 _ _ ?_; refine ra ?_; refine ⟨⟨(G1, jumpW W a.h), e1⟩, ?_⟩
            rw [hfin]
            exact gcr
         (try exact nope c44); all_goals have c44p := c44; try simp [F] at c44p
         all_goals
          replace F := aF c44 F; (try replace F := aF c44p F); refine run_skip ?_; refine hK3 _ _ ?_; refine sq fun K53 hK53 => ?_
          refine run_draw (by kernel_rfl) fun J54 hJ54 => ?_
          refine rp2 0 (k := ?_); refine rp2 1 (k := ?_); refine rp2 2 (k := ?_); refine rp2 4 (k := ?_); refine rp2 5 (k := ?_); refine rp2 6 (k := ?_); refine dc 3 rfl (c := d5) (k := ?_); rintro _ _ ⟨G1, e1, rfl, rfl⟩
          refine ⟨by first | exact fun _ _ h => h | (refine later_list [6, 5, 4, 1] (by kernel_rfl) (List.forall_mem_cons.2 ⟨fun _ => fact2 rfl rfl ?_, List.forall_mem_cons.2 ⟨fun _ => fact2 rfl rfl ?_, List.forall_mem_cons.2 ⟨fun _ => fact2 rfl rfl ?_, List.forall_mem_cons.2 ⟨fun _ => fact2 rfl rfl ?_, fun _ h => absurd h List.not_mem_nil⟩⟩⟩⟩) <;> constructor <;> first | rfl | (simp [F]; done)), ?_⟩
          (repeat (first | simp [F] | simp (disch := omega) only [wC, if_pos, if_neg])); refine dc 7 rfl (c := w5 G1) (k := ?_); rintro _ _ ⟨rfl, rfl⟩
          refine ⟨by first | exact fun _ _ h => h | (refine later_list [5, 1] (by kernel_rfl) (List.forall_mem_cons.2 ⟨fun _ => fact2 rfl rfl ?_, List.forall_mem_cons.2 ⟨fun _ => fact2 rfl rfl ?_, fun _ h => absurd h List.not_mem_nil⟩⟩) <;> constructor <;> first | rfl | (simp [F]; done)), ?_⟩
          (repeat (first | simp [F] | simp (disch := omega) only [wC, if_pos, if_neg])); refine rp2 8 (k := ?_); refine rp2 9 (k := ?_); refine dd ?_; refine hJ54 _ _ ?_; refine hK53 _ _ ?_; refine ra ?_; refine ⟨⟨(G1, jumpW W a.h), e1⟩, ?_⟩
          rw [hfin]
          exact gcr
      (try exact nope c44); all_goals have c44p := c44; try simp [F] at c44p
      all_goals
       replace F := aF c44 F; (try replace F := aF c44p F); refine sr fun _ hJ56 => ?_; refine hJ56 _ _ ?_; refine cs (fun c44 => ?_) (fun c44 => ?_)
       · (try exact nope c44); all_goals have c44p := c44; try simp [F] at c44p
         all_goals
          replace F := aF c44 F; (try replace F := aF c44p F); refine run_skip ?_; refine hK48 _ _ ?_; refine cs (fun c44 => ?_) (fun c44 => ?_)
          · (try exact nope c44); all_goals have c44p := c44; try simp [F] at c44p
            all_goals
             replace F := aF c44 F; (try replace F := aF c44p F); refine sq fun K57 hK57 => ?_
             refine run_draw (by kernel_rfl) fun J58 hJ58 => ?_
             refine rp2 0 (k := ?_); refine rp2 1 (k := ?_); refine rp2 2 (k := ?_); refine rp2 4 (k := ?_); refine rp2 5 (k := ?_); refine rp2 6 (k := ?_); refine dc 3 rfl (c := d4) (k := ?_); rintro _ _ ⟨G1, e1, rfl, rfl⟩
             refine ⟨by first | exact fun _ _ h => h | (refine later_list [6, 5, 4, 1] (by kernel_rfl) (List.forall_mem_cons.2 ⟨fun _ => fact2 rfl rfl ?_, List.forall_mem_cons.2 ⟨fun _ => fact2 rfl rfl ?_, List.forall_mem_cons.2 ⟨fun _ => fact2 rfl rfl ?_, List.forall_mem_cons.2 ⟨fun _ => fact2 rfl rfl ?_, fun _ h => absurd h List.not_mem_nil⟩⟩⟩⟩) <;> constructor <;> first | rfl | (simp [F]; done)), ?_⟩
             (repeat (first | simp [F] | simp (disch := omega) only [wC, if_pos, if_neg])); refine dc 7 rfl (c := w4 G1) (k := ?_); rintro _ _ ⟨rfl, rfl⟩
             refine ⟨by first | exact fun _ _ h => h | (refine later_list [5, 1] (by kernel_rfl) (List.forall_mem_cons.2 ⟨fun _ => fact2 rfl rfl ?_, List.forall_mem_cons.2 ⟨fun _ => fact2 rfl rfl ?_, fun _ h => absurd h List.not_mem_nil⟩⟩) <;> constructor <;> first | rfl | (simp [F]; done)), ?_⟩
             (repeat (first | simp [F] | simp (disch := omega) only [wC, if_pos, if_neg])); refine rp2 8 (k := ?_); refine rp2 9 (k := ?_); refine dd ?_; refine hJ58 _ _ ?_; refine hK57 _ _ ?_; refine ra ?_; refine ⟨⟨(G1, jumpW W a.h), e1⟩, ?_⟩
             rw [hfin]
             exact gcr
          (try exact nope c44); all_goals have c44p := c44; try simp [F] at c44p
          all_goals
           replace F := aF c44 F; (try replace F := aF c44p F); refine run_skip ?_; refine hK3 _ _ ?_; refine sq fun K59 hK59 => ?_
           refine run_draw (by kernel_rfl) fun J60 hJ60 => ?_
           refine rp2 0 (k := ?_); refine rp2 1 (k := ?_); refine rp2 2 (k := ?_); refine rp2 4 (k := ?_); refine rp2 5 (k := ?_); refine rp2 6 (k := ?_); refine dc 3 rfl (c := d5) (k := ?_); rintro _ _ ⟨G1, e1, rfl, rfl⟩
           refine ⟨by first | exact fun _ _ h => h | (refine later_list [6, 5, 4, 1] (by kernel_rfl) (List.forall_mem_cons.2 ⟨fun _ => fact2 rfl rfl ?_, List.forall_mem_cons.2 ⟨fun _ => fact2 rfl rfl ?_, List.forall_mem_cons.2 ⟨fun _ => fact2 rfl rfl ?_, List.forall_mem_cons.2 ⟨fun _ => fact2 rfl rfl ?_, fun _ h => absurd h List.not_mem_nil⟩⟩⟩⟩) <;> constructor <;> first | rfl | (simp [F]; done)), ?_⟩
           (repeat (first | simp [F] | simp (disch := omega) only [wC, if_pos, if_neg])); refine dc 7 rfl (c := w5 G1) (k := ?_); rintro _ _ ⟨rfl, rfl⟩
           refine ⟨by first | exact fun _ _ h => h | (refine later_list [5, 1] (by kernel_rfl) (List.forall_mem_cons.2 ⟨fun _ => fact2 rfl rfl ?_, List.forall_mem_cons.2 ⟨fun _ => fact2 rfl rfl ?_, fun _ h => absurd h List.not_mem_nil⟩⟩) <;> constructor <;> first | rfl | (simp [F]; done)), ?_⟩
           (repeat (first | simp [F] | simp (disch := omega) only [wC, if_pos, if_neg])); refine rp2 8 (k := ?_); refine rp2 9 (k := ?_); refine dd ?_; refine hJ60 _ _ ?_; refine hK59 _ _ ?_; refine ra ?_; refine ⟨⟨(G1, jumpW W a.h), e1⟩, ?_⟩
           rw [hfin]
           exact gcr
       (try exact nope c44); all_goals have c44p := c44; try simp [F] at c44p
       all_goals
        replace F := aF c44 F; (try replace F := aF c44p F); refine rg' (h := fun J61 hJ61 => ?_); refine hJ61 _ _ ?_; refine hK48 _ _ ?_; refine cs (fun c44 => ?_) (fun c44 => ?_)
        · (try exact nope c44); all_goals have c44p := c44; try simp [F] at c44p
          all_goals
           replace F := aF c44 F; (try replace F := aF c44p F); refine sq fun K62 hK62 => ?_
           refine run_draw (by kernel_rfl) fun J63 hJ63 => ?_
           refine rp2 0 (k := ?_); refine rp2 1 (k := ?_); refine rp2 2 (k := ?_); refine rp2 4 (k := ?_); refine rp2 5 (k := ?_); refine rp2 6 (k := ?_); refine dc 3 rfl (c := d4) (k := ?_); rintro _ _ ⟨G1, e1, rfl, rfl⟩
           refine ⟨by first | exact fun _ _ h => h | (refine later_list [6, 5, 4, 1] (by kernel_rfl) (List.forall_mem_cons.2 ⟨fun _ => fact2 rfl rfl ?_, List.forall_mem_cons.2 ⟨fun _ => fact2 rfl rfl ?_, List.forall_mem_cons.2 ⟨fun _ => fact2 rfl rfl ?_, List.forall_mem_cons.2 ⟨fun _ => fact2 rfl rfl ?_, fun _ h => absurd h List.not_mem_nil⟩⟩⟩⟩) <;> constructor <;> first | rfl | (simp [F]; done)), ?_⟩
           (repeat (first | simp [F] | simp (disch := omega) only [wC, if_pos, if_neg])); refine dc 7 rfl (c := w4 G1) (k := ?_); rintro _ _ ⟨rfl, rfl⟩
           refine ⟨by first | exact fun _ _ h => h | (refine later_list [5, 1] (by kernel_rfl) (List.forall_mem_cons.2 ⟨fun _ => fact2 rfl rfl ?_, List.forall_mem_cons.2 ⟨fun _ => fact2 rfl rfl ?_, fun _ h => absurd h List.not_mem_nil⟩⟩) <;> constructor <;> first | rfl | (simp [F]; done)), ?_⟩
           (repeat (first | simp [F] | simp (disch := omega) only [wC, if_pos, if_neg])); refine rp2 8 (k := ?_); refine rp2 9 (k := ?_); refine dd ?_; refine hJ63 _ _ ?_; refine hK62 _ _ ?_; refine ra ?_; refine ⟨⟨(G1, jumpW W a.h), e1⟩, ?_⟩
           rw [hfin]
           exact gcr
        (try exact nope c44); all_goals have c44p := c44; try simp [F] at c44p
        all_goals
         replace F := aF c44 F; (try replace F := aF c44p F); refine run_skip ?_; refine hK3 _ _ ?_; refine sq fun K64 hK64 => ?_
         refine run_draw (by kernel_rfl) fun J65 hJ65 => ?_
         refine rp2 0 (k := ?_); refine rp2 1 (k := ?_); refine rp2 2 (k := ?_); refine rp2 4 (k := ?_); refine rp2 5 (k := ?_); refine rp2 6 (k := ?_); refine dc 3 rfl (c := d5) (k := ?_); rintro _ _ ⟨G1, e1, rfl, rfl⟩
         refine ⟨by first | exact fun _ _ h => h | (refine later_list [6, 5, 4, 1] (by kernel_rfl) (List.forall_mem_cons.2 ⟨fun _ => fact2 rfl rfl ?_, List.forall_mem_cons.2 ⟨fun _ => fact2 rfl rfl ?_, List.forall_mem_cons.2 ⟨fun _ => fact2 rfl rfl ?_, List.forall_mem_cons.2 ⟨fun _ => fact2 rfl rfl ?_, fun _ h => absurd h List.not_mem_nil⟩⟩⟩⟩) <;> constructor <;> first | rfl | (simp [F]; done)), ?_⟩
         (repeat (first | simp [F] | simp (disch := omega) only [wC, if_pos, if_neg])); refine dc 7 rfl (c := w5 G1) (k := ?_); rintro _ _ ⟨rfl, rfl⟩
         refine ⟨by first | exact fun _ _ h => h | (refine later_list [5, 1] (by kernel_rfl) (List.forall_mem_cons.2 ⟨fun _ => fact2 rfl rfl ?_, List.forall_mem_cons.2 ⟨fun _ => fact2 rfl rfl ?_, fun _ h => absurd h List.not_mem_nil⟩⟩) <;> constructor <;> first | rfl | (simp [F]; done)), ?_⟩
         (repeat (first | simp [F] | simp (disch := omega) only [wC, if_pos, if_neg])); refine rp2 8 (k := ?_); refine rp2 9 (k := ?_); refine dd ?_; refine hJ65 _ _ ?_; refine hK64 _ _ ?_; refine ra ?_; refine ⟨⟨(G1, _), e1.mono (Nat.le_succ _)⟩, ?_⟩
         rw [hfin]
         exact gcr
def St6 (σ : St) (G : Sg) (W : Wd) (l : List (List AV)) : St := { σ with objs := σ.objs ++ stC σ.rows.length G :: wC W :: l, rows := σ.rows ++ [stR1 G, stR2 G, stR3 G] }
theorem St6.s (σ : St) (G : Sg) (W : Wd) (l : List (List AV)) : HasS (St6 σ G W l) σ.objs.length σ.rows.length G := ⟨by simp [St6], by simp [St6], by simp [St6], by simp [St6]⟩
theorem St6.w (σ : St) (G : Sg) (W : Wd) (l : List (List AV)) : (St6 σ G W l).objs[σ.objs.length + 1]? = some (wC W) := by simp [St6]
theorem St6.put (σ : St) (G G' : Sg) (W W' : Wd) (l : List (List AV)) : putW (putS (St6 σ G W l) σ.objs.length σ.rows.length G') (σ.objs.length + 1) W' = St6 σ G' W' l := by simp [St6, putS, putW]
section
variable {z : Zone} {P : Program} {N : Nat} {ρ : Nat → AV}
theorem run_newW {c : Code} {Q : Exit → (Nat → AV) → St → Prop} (σ : St) (k : Run z P N c ρ (St6 σ newSg wd0 []) Q) :
    Run z P N c ρ { σ with objs := σ.objs ++ [stC σ.rows.length newSg, wX (.sl 0 [] 0 .full) (.sl 0 [] 0 .full) 0 0], rows := σ.rows ++ [stR1 newSg, stR2 newSg, stR3 newSg] } Q := by
  have h0 : WkS { σ with objs := (σ.objs ++ [stC σ.rows.length newSg, []]).set (σ.objs.length + 1) (wX (.sl 0 [] 0 .full) (.sl 0 [] 0 .full) 0 0), rows := σ.rows ++ [stR1 newSg, stR2 newSg, stR3 newSg] }
      { σ with objs := (σ.objs ++ [stC σ.rows.length newSg, []]).set (σ.objs.length + 1) (wC wd0), rows := σ.rows ++ [stR1 newSg, stR2 newSg, stR3 newSg] } :=
    WkS.set (σ := { σ with rows := σ.rows ++ [stR1 newSg, stR2 newSg, stR3 newSg] }) (wX_wk (Wk.nil _ _ _) (Wk.nil _ _ _))
  simp only [List.set_append_right _ _ (Nat.le_add_right _ _), Nat.add_sub_cancel_left, List.set_cons_succ, List.set_cons_zero] at h0
  exact run_wkS h0 k
end
theorem does6 {σ : St} {n : Nat} {G : Sg} {W : Wd} {l : List (List AV)} {a : AH} (hi : HopS G.s W n) (hn : n ≤ 900) (ha : a.Ok) :
    CallsA Try.prog 61 [.ptr σ.objs.length 0, .ptr (σ.objs.length + 1) 0, .agg (ahC a)] (St6 σ G W l) (fun av σ' => ∃ G' W', HopS G'.s W' (n + 2) ∧ av = .v (.bool true) ∧ σ' = St6 σ G' W' l) :=
  callsA_mono (does14_ok (St6.s σ G W l) (St6.w σ G W l) (by omega) hi hn ha) (fun av σ' ⟨G', W', e1, e2, e3⟩ => ⟨G', W', e1, e2, by rw [e3, St6.put]⟩)
structure LG where
  i : Nat
  G : Sg
  W : Wd
  l : List (List AV)
structure KS where
  k : Nat
  ow : UInt8
  fr : UInt8
  tt : UInt8
  now : Nat

set_option maxHeartbeats 1600000 in
attribute [local simp] undefA List.getElem?_cons_zero List.getElem?_cons_succ in
theorem hopCounts_ok {σ : St} {l : List AH} {ow fr tt : UInt8} {now : Nat} (hl : l.length ≤ 9223372036854775807) (hb : ∀ a ∈ l, a.Ok) :
    CallsA Try.prog 18 [.sl 28 (ahsC l) l.length .shut, .v (.int .u8 ow.toNat), .v (.int .u8 fr.toNat), .v (.int .u8 tt.toNat), .v (.int .u64 now)] σ (fun av σ' => av = .v (.bool true) ∧ σ = σ') := by
  refine callsA_gcS ?_ rfl
  have hlc := ahsC_len l
  have r3 : ∀ (b : UInt8) xo yo, binA Try.prog .rem 5 xo yo (.v (.int .u8 (b.toNat : Nat))) (.v (.int .u8 3)) = some (.v (.int .u8 ((b % 3).toNat : Int))) := fun b xo yo => by rw [UInt8.toNat_mod]; exact rem_u8 b 3 (by decide) xo yo
  have r5 : ∀ (n : Nat) xo yo, binA Try.prog .rem 54 xo yo (.v (.int .u64 (n : Nat))) (.v (.int .u64 5)) = some (.v (.int .u64 ((n % 5 : Nat) : Int))) := fun n xo yo => rem_u64 n 5 (by decide) xo yo
  have hbn : ∀ xo yo (b : Bool), binA Try.prog .neq 4 xo yo (.v (.bool b)) (.v (.bool b)) = some (.v (.bool false)) := fun xo yo b => by cases b <;> rfl
  have F := And.intro hlc (And.intro hbn (True.intro))
  refine callsA_body Try.func18 rfl rfl rfl ?_; refine sr fun _ hJ2 => ?_; refine hJ2 _ _ ?_; refine sq fun K3 hK3 => ?_; refine sr fun _ hJ5 => ?_; refine ca (c := leaves_ok) (k := ?_); rintro _ _ ⟨rfl, rfl⟩; (repeat (first | simp [F] | simp (disch := omega) only [wC, if_pos, if_neg])); (iterate 3 refine go2 (k := ?_)); refine hJ5 _ _ ?_; refine cs (fun c21 => ?_) (fun c21 => ?_)
  · (try exact nope c21); all_goals have c21p := c21; try simp [F] at c21p
    all_goals
     replace F := aF c21 F; (try replace F := aF c21p F); refine sr fun _ hJ7 => ?_; refine ca (c := leaves_ok) (k := ?_); rintro _ _ ⟨rfl, rfl⟩; (repeat (first | simp [F] | simp (disch := omega) only [wC, if_pos, if_neg])); refine hJ7 _ _ ?_; refine ra ?_; exact gcr
  (try exact nope c21); all_goals have c21p := c21; try simp [F] at c21p
  all_goals
   replace F := aF c21 F; try replace F := aF c21p F
   have h40 : l.length ≤ 40 := by have h := c21; simp at h; omega
   refine run_skip ?_; refine hK3 _ _ ?_; refine sr fun _ hJ9 => ?_; refine ca (c := new_st_ok) (k := ?_); rintro _ _ ⟨rfl, rfl⟩; (repeat (first | simp [F] | simp (disch := omega) only [wC, if_pos, if_neg])); refine hJ9 _ _ ?_; refine sq fun K10 hK10 => ?_; refine sq fun K11 hK11 => ?_; refine run_newW σ ?_; refine rg' (h := fun J12 hJ12 => ?_); refine hJ12 _ _ ?_; refine hK11 _ _ ?_; refine run_block_k ?_; refine run_loopF (X := LG) [0, 1, 2, 3, 4, 11, 12] (fun x ρ σ1 => (x.i ≤ l.length) ∧ (HopS x.G.s x.W (2 * x.i)) ∧ (ρ 13 = .v (.int .i64 x.i)) ∧ (σ1 = St6 σ x.G x.W [])) (fun x => l.length - x.i) (⟨0, newSg, wd0, []⟩) ?st1 ?rd1
   case st1 =>
    refine ⟨lp, ?_, lp, lp⟩
    · exact HopS.nil
   case rd1 =>
    rintro x ρ1 σ1 hF1 ⟨h1, h2, h5, hσ⟩; obtain rfl := hσ.symm
    have f1 := keepL hF1
    (try simp [KeepL, F] at f1); replace F := aF h5 F; (try replace F := aF f1 F); refine sq fun K13 hK13 => ?_; refine sr fun _ hJ15 => ?_; refine hJ15 _ _ ?_; refine cs (fun c29 => ?_) (fun c29 => ?_)
    · (try exact nope c29); all_goals have c29p := c29; try simp [F] at c29p
      all_goals
       replace F := aF c29 F; try replace F := aF c29p F
       have hlt : x.i < l.length := by have h := c29; simp at h; omega
       obtain ⟨R, hR⟩ := ahsC_at hlt
       obtain ⟨a, ha⟩ : ∃ a, a = l[x.i] := ⟨_, rfl⟩
       rw [← ha] at hR
       have hao : a.Ok := hb a (by rw [ha]; exact List.getElem_mem _)
       have hR3 : List.take 28 (List.drop (x.i * 28) (ahsC l)) = ahC a := by rw [hR]; exact List.take_left' (ahC_len a)
       have d3 : x.i * 28 + 28 ≤ l.length * 28 := by omega
       have hi1 : x.i + 1 ≤ l.length := hlt
       have hwi : IntKind.i64.wrap ((x.i : Int) + 1) = (x.i : Int) + 1 := wrap_i64 _ (by omega) (by omega)
       have n1 := fun τ => nearH_run (σ := τ) (a := a)
       have k2 := does6 (σ := σ) (l := []) h2 (by omega) (nearH_ok hao)
       have hcl : (∀ x, x ∈ ahC a → x.isCell = true) = True := eq_true (cellA a)
       have hAl : (ahC a).length = 28 := rfl
       have hAt : List.take 28 (ahC a) = ahC a := List.take_of_length_le (Nat.le_of_eq hAl)
       obtain ⟨A, hA⟩ : ∃ A, A = ahC a := ⟨_, rfl⟩
       obtain ⟨B, hB⟩ : ∃ B, B = ahC (nearH a) := ⟨_, rfl⟩
       rw [← hA] at hR3 hcl hAl hAt
       simp only [← hA] at n1
       simp only [← hB] at n1 k2
       simp only [AV.isCell] at hcl
       replace F := aF hlt (And.intro hR3 (And.intro d3 (And.intro hi1 (And.intro hwi (And.intro hcl (And.intro hAl (And.intro hAt F))))))); refine run_skip ?_; refine hK13 _ _ ?_; refine sq fun K16 hK16 => ?_; refine run_block_k ?_; refine sr fun _ hJ18 => ?_; refine ca (c := n1 _) (k := ?_); rintro _ _ ⟨rfl, rfl⟩; (repeat (first | simp [F] | simp (disch := omega) only [wC, if_pos, if_neg])); refine ca (c := k2) (k := ?_); rintro _ _ ⟨G1, W1, e1, rfl, rfl⟩; (repeat (first | simp [F] | simp (disch := omega) only [wC, if_pos, if_neg])); refine hJ18 _ _ ?_; refine cf ?_; refine run_skip ?_; refine hK16 _ _ ?_; refine rg' (h := fun J19 hJ19 => ?_); refine hJ19 _ _ ?_; refine ⟨(⟨x.i + 1, G1, W1, []⟩), ⟨kp, lp, ?_, lp, lp⟩, lp⟩
       · exact e1
    (try exact nope c29); all_goals have c29p := c29; try simp [F] at c29p
    all_goals
     replace F := aF c29 F; try replace F := aF c29p F
     have hn80 : 2 * x.i ≤ 1000 := by omega
     have hneE := h2.ne
     have hneH := h2.nh
     refine run_exit ?_; refine hK10 _ _ ?_; refine sq fun K20 hK20 => ?_; refine sr fun _ hJ22 => ?_; refine hJ22 _ _ ?_; refine run_block_k ?_; refine run_loopF (X := KS) [11, 12] (fun y ρ σ1 => (y.k ≤ 2) ∧ (ρ 14 = .v (.int .i64 y.k)) ∧ (ρ 1 = .v (.int .u8 y.ow.toNat)) ∧ (ρ 2 = .v (.int .u8 y.fr.toNat)) ∧ (ρ 3 = .v (.int .u8 y.tt.toNat)) ∧ (ρ 4 = .v (.int .u64 y.now)) ∧ (σ1 = St6 σ x.G x.W [])) (fun y => 2 - y.k) (⟨0, ow, fr, tt, now⟩) ?st2 ?rd2
     case st2 =>
      refine ⟨lp, lp, lp, lp, lp, lp, lp⟩
     case rd2 =>
      rintro y ρ2 σ1 hF2 ⟨k1, k2, k3, k4, k5, k6, hσ⟩; obtain rfl := hσ.symm
      have f2 := keepL hF2
      (try simp [KeepL, F] at f2); replace F := aF k2 F; replace F := aF k3 F; replace F := aF k4 F; replace F := aF k5 F; replace F := aF k6 F; (try replace F := aF f2 F); refine sq fun K23 hK23 => ?_; refine sr fun _ hJ25 => ?_; refine hJ25 _ _ ?_; refine cs (fun c42 => ?_) (fun c42 => ?_)
      · (try exact nope c42); all_goals have c42p := c42; try simp [F] at c42p
        all_goals
         replace F := aF c42 F; try replace F := aF c42p F
         have hkt : y.k < 2 := by have h := c42; simp at h; omega
         have ra := r3 y.ow
         have rb := r3 y.fr
         have rc := r3 y.tt
         have rd := r5 y.now
         have hwi : IntKind.i64.wrap ((y.k : Int) + 1) = (y.k : Int) + 1 := wrap_i64 _ (by omega) (by omega)
         replace F := aF hwi (And.intro ra (And.intro rb (And.intro rc (And.intro rd F)))); refine run_skip ?_; refine hK23 _ _ ?_; refine sq fun K26 hK26 => ?_; refine run_block_k ?_; refine sq fun K27 hK27 => ?_; refine sr fun _ hJ29 => ?_; refine ca (c := hleaving_ok (St6.s σ x.G x.W []) h2 hn80) (k := ?_); rintro _ _ ⟨rfl, rfl⟩; repeat (first | simp [F] | simp (disch := omega) only [wC, if_pos, if_neg])
         refine ca (c := wleaving_ok (St6.w σ x.G x.W []) (by omega)) (k := ?_)
         rintro _ _ ⟨rfl, rfl⟩; (repeat (first | simp [F] | simp (disch := omega) only [wC, if_pos, if_neg])); (iterate 4 refine go2 (k := ?_)); refine ca (c := hjumping_ok (St6.s σ x.G x.W []) h2 hn80) (k := ?_); rintro _ _ ⟨rfl, rfl⟩; (repeat (first | simp [F] | simp (disch := omega) only [wC, if_pos, if_neg])); iterate 4 refine go2 (k := ?_)
         refine ca (c := wjumping_ok (St6.w σ x.G x.W []) (by omega)) (k := ?_)
         rintro _ _ ⟨rfl, rfl⟩; (repeat (first | simp [F] | simp (disch := omega) only [wC, if_pos, if_neg])); (iterate 5 refine go2 (k := ?_)); refine ca (c := hcame_ok (St6.s σ x.G x.W []) h2 hn80) (k := ?_); rintro _ _ ⟨rfl, rfl⟩; (repeat (first | simp [F] | simp (disch := omega) only [wC, if_pos, if_neg])); iterate 4 refine go2 (k := ?_)
         refine ca (c := wcame_ok (St6.w σ x.G x.W []) (by omega)) (k := ?_)
         rintro _ _ ⟨rfl, rfl⟩; (repeat (first | simp [F] | simp (disch := omega) only [wC, if_pos, if_neg])); refine go2 (k := ?_); refine hJ29 _ _ ?_; refine cf ?_; refine run_skip ?_; refine hK27 _ _ ?_; refine rg' (h := fun J30 hJ30 => ?_); refine hJ30 _ _ ?_; refine hK26 _ _ ?_; refine rg' (h := fun J31 hJ31 => ?_); refine hJ31 _ _ ?_; refine ⟨(⟨y.k + 1, y.ow % 3, y.fr % 3, y.tt % 3, y.now % 5⟩), ⟨kp, lp, lp, lp, lp, lp, lp, lp⟩, lp⟩
      (try exact nope c42); all_goals have c42p := c42; try simp [F] at c42p
      all_goals
       replace F := aF c42 F; (try replace F := aF c42p F); refine run_exit ?_; refine hK20 _ _ ?_; refine sr fun _ hJ33 => ?_; refine hJ33 _ _ ?_; refine ra ?_; simp only [St6]
       exact gcr
end Go.Proofs.Ytlkajgjaidedkaa
