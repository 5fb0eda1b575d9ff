import Derived.Test.YtlkajgjaidedkaaZ7
import Derived.Test.YtlkajgjaidedkaaZ14
/-
  What is under way: one more, another one, one less; all of them; of no store.
-/
namespace Go.Proofs.Ytlkajgjaidedkaa
set_option linter.unnecessarySimpa false
set_option maxRecDepth 100000
open Go Go.Vm
set_option linter.unusedSimpArgs false
set_option linter.unusedVariables false
attribute [local simp] evalL wantedA isCall opA evalA evalAll evalsA evalOpt ofValue ofCell plain binA_eql_pn binA_neq_pn binA_gtr binA_lss binA_geq binA_leq binA_add binA_sub binA_eql binA_neq binA_orI binA_shl binA_shr binA_mul binA_quo binA_rem binA_agg_eql binA_agg_neq convA_int unA_not fieldAddrA loadA partA pickA_true pickA_false pickA_bb lenA builtinA storeA splice AV.cells AV.isCell sliceA boundA intA callOf indexAddrA newObjA buildA fillA zeroA ofCells buildSliceA indexA fieldA set_appN get_appN take_appN List.getElem?_cons_zero List.getElem?_cons_succ get_sa0 get_sa1 get_sa2 get_sa3 set_sa0 set_sa1 set_sa2 set_sa3 sliceRowA binA_eqn binA_neqn drop_mr

set_option maxHeartbeats 1600000 in
attribute [local simp] undefA List.getElem?_cons_zero List.getElem?_cons_succ enC in
theorem leaveE_ok {σ : St} {o k n m : Nat} {G : Sg} {e : En} (h : HasS σ o k G) (hG : G.s.Ok n) (hn : n ≤ 900000) (hm : m + 1 < 2 ^ 64) (hc : getL G.s.l (ctK 101) = if m = 0 then none else some (nBytes 8 m)) (he : e.Ok) :
    CallsA Try.prog 55 [.ptr o 0, .agg (enC e)] σ (fun av σ' => ∃ G', G'.s = addL G.s 101 e.d (encE e) m ∧ av = .v (.int .u64 (m + 1 : Nat)) ∧ σ' = putS σ o k G') := by
  have h80 := encE_len e
  have hlay := fun τ => layE_ok (σ := τ) he.2.1
  have had := fun l => ladd_ok (kind := 101) (d := e.d) (p := encE e) (tp := .shut) (h.app l σ.toks) hG hn he.2.2 (by omega) hm hc
  have hpa := fun (G' : Sg) (l : List (List AV)) => putS_app h G' l
  refine callsA_mono (callsA_gcSt (X := Nat × Nat × Nat) (A := fun _ => .v (.int .u64 (m + 1 : Nat))) (T := fun x => ⟨addL G.s 101 e.d (encE e) m, x.1, x.2.1, x.2.2⟩) h (fun _ => rfl) ?_) (fun av σ' ⟨x, e1, e2⟩ => ⟨_, rfl, e1, e2⟩)
  obtain ⟨P, hP⟩ : ∃ P, P = encE e := ⟨_, rfl⟩
  simp only [← hP] at hlay had ⊢
  have F := True.intro
  refine callsA_body Try.func55 rfl rfl rfl ?_; refine sr fun _ hJ2 => ?_; refine hJ2 _ _ ?_; refine sq fun K3 hK3 => ?_
  refine run_draw (by kernel_rfl) fun J4 hJ4 => ?_
  refine rp2 0 (k := ?_); refine rp2 1 (k := ?_); refine rp2 2 (k := ?_); refine rp2 3 (k := ?_); refine dc 4 rfl (c := hlay _) (k := ?_); rintro _ _ ⟨rfl, rfl⟩
  refine ⟨by first | exact fun _ _ h => h | (refine later_list [2, 1, 0] (by kernel_rfl) (List.forall_mem_cons.2 ⟨fun _ => fact2 rfl rfl ?_, List.forall_mem_cons.2 ⟨fun _ => fact2 rfl rfl ?_, List.forall_mem_cons.2 ⟨fun _ => fact2 rfl rfl ?_, fun _ h => absurd h List.not_mem_nil⟩⟩⟩) <;> constructor <;> first | rfl | (simp [F]; done)), ?_⟩
  (repeat (first | simp [F] | simp (disch := omega) only [wC, if_pos, if_neg])); refine dc 5 rfl (c := had _) (k := ?_); rintro _ _ ⟨G', e0, rfl, rfl⟩
  refine ⟨by first | exact fun _ _ h => h | (refine later_list [1] (by kernel_rfl) (List.forall_mem_cons.2 ⟨fun _ => fact2 rfl rfl ?_, fun _ h => absurd h List.not_mem_nil⟩) <;> constructor <;> first | rfl | (simp [F]; done)), ?_⟩
  (repeat (first | simp [F] | simp (disch := omega) only [wC, if_pos, if_neg])); refine rp2 6 (k := ?_); refine dd ?_; refine hJ4 _ _ ?_; refine hK3 _ _ ?_; refine ra ?_
  obtain ⟨gs, a1, a2, a3⟩ := G'
  simp only at e0
  subst e0
  refine ⟨(a1, a2, a3), ?_⟩
  rw [hpa]
  exact gcr

set_option maxHeartbeats 1600000 in
attribute [local simp] undefA List.getElem?_cons_zero List.getElem?_cons_succ enC in
theorem dropE_ok {σ : St} {o k n : Nat} {G : Sg} {e : En} (h : HasS σ o k G) (hG : G.s.Ok n) (hn : n ≤ 900000) (he : e.Ok) :
    CallsA Try.prog 71 [.ptr o 0, .agg (enC e)] σ (fun av σ' => ∃ G', G'.s = doS G.s (keyW 101 e.d e.n) none ∧ av = .v (.bool (getL G.s.l (keyW 101 e.d e.n)).isSome) ∧ σ' = putS σ o k G') := by
  have had := fun l => lremove_ok (kind := 101) (d := e.d) (no := e.n) (h.app l σ.toks) hG hn he.2.2 he.1
  have hpa := fun (G' : Sg) (l : List (List AV)) => putS_app h G' l
  obtain ⟨w, hw⟩ : ∃ w, w = (getL G.s.l (keyW 101 e.d e.n)).isSome := ⟨_, rfl⟩
  simp only [← hw] at had ⊢
  refine callsA_mono (callsA_gcSt (X := Nat × Nat × Nat) (A := fun _ => .v (.bool w)) (T := fun x => ⟨doS G.s (keyW 101 e.d e.n) none, x.1, x.2.1, x.2.2⟩) h (fun _ => rfl) ?_) (fun av σ' ⟨x, e1, e2⟩ => ⟨_, rfl, e1, e2⟩)
  obtain ⟨K, hK⟩ : ∃ K, K = keyW 101 e.d e.n := ⟨_, rfl⟩
  simp only [← hK] at had ⊢
  have F := True.intro
  refine callsA_body Try.func71 rfl rfl rfl ?_; refine sr fun _ hJ2 => ?_; refine hJ2 _ _ ?_; refine sr fun _ hJ4 => ?_; refine ca (c := had _) (k := ?_); rintro _ _ ⟨G', e0, rfl, rfl⟩; (repeat (first | simp [F] | simp (disch := omega) only [wC, if_pos, if_neg])); refine hJ4 _ _ ?_; refine ra ?_
  obtain ⟨gs, a1, a2, a3⟩ := G'
  simp only at e0
  subst e0
  refine ⟨(a1, a2, a3), ?_⟩
  rw [hpa]
  exact gcr

set_option maxHeartbeats 1600000 in
attribute [local simp] undefA List.getElem?_cons_zero List.getElem?_cons_succ in
theorem allE_ok {σ : St} {o k n : Nat} {G : Sg} {E : List En} (h : HasS σ o k G) (hG : G.s.Ok n) (hn : n ≤ 900000) (hE : allL G.s.l 101 = E.map itE) (hok : ∀ e ∈ E, e.Ok) :
    CallsA Try.prog 57 [.ptr o 0] σ (fun av σ' => av = .sl 13 (ensC E) E.length .shut ∧ σ = σ') := by
  have hea := eachE_ok h hG hn hE hok
  have F := True.intro
  refine callsA_body Try.func57 rfl rfl rfl ?_; refine sr fun _ hJ2 => ?_; refine hJ2 _ _ ?_; refine sr fun _ hJ4 => ?_; refine ca (c := hea) (k := ?_); rintro _ _ ⟨rfl, rfl⟩; (repeat (first | simp [F] | simp (disch := omega) only [wC, if_pos, if_neg])); refine hJ4 _ _ ?_; refine ra ?_; exact rt

set_option maxHeartbeats 1600000 in
attribute [local simp] undefA List.getElem?_cons_zero List.getElem?_cons_succ enC in
theorem leaveEN_ok {σ : St} {e : En} (hm : e.m < 2 ^ 64) : CallsA Try.prog 55 [.v (.pointer none), .agg (enC e)] σ (fun av σ' => av = .v (.int .u64 0) ∧ σ = σ') := by
  refine callsA_gcS ?_ rfl
  have hlay := fun τ => layE_ok (σ := τ) hm
  obtain ⟨P, hP⟩ : ∃ P, P = encE e := ⟨_, rfl⟩
  simp only [← hP] at hlay
  have F := True.intro
  refine callsA_body Try.func55 rfl rfl rfl ?_; refine sr fun _ hJ2 => ?_; refine hJ2 _ _ ?_; refine sq fun K3 hK3 => ?_
  refine run_draw (by kernel_rfl) fun J4 hJ4 => ?_
  refine rp2 0 (k := ?_); refine rp2 1 (k := ?_); refine rp2 2 (k := ?_); refine rp2 3 (k := ?_); refine dc 4 rfl (c := hlay _) (k := ?_); rintro _ _ ⟨rfl, rfl⟩
  refine ⟨by first | exact fun _ _ h => h | (refine later_list [2, 1, 0] (by kernel_rfl) (List.forall_mem_cons.2 ⟨fun _ => fact2 rfl rfl ?_, List.forall_mem_cons.2 ⟨fun _ => fact2 rfl rfl ?_, List.forall_mem_cons.2 ⟨fun _ => fact2 rfl rfl ?_, fun _ h => absurd h List.not_mem_nil⟩⟩⟩) <;> constructor <;> first | rfl | (simp [F]; done)), ?_⟩
  (repeat (first | simp [F] | simp (disch := omega) only [wC, if_pos, if_neg])); refine dc 5 rfl (c := laddN_ok) (k := ?_); rintro _ _ ⟨rfl, rfl⟩
  refine ⟨by first | exact fun _ _ h => h | (refine later_list [1] (by kernel_rfl) (List.forall_mem_cons.2 ⟨fun _ => fact2 rfl rfl ?_, fun _ h => absurd h List.not_mem_nil⟩) <;> constructor <;> first | rfl | (simp [F]; done)), ?_⟩
  (repeat (first | simp [F] | simp (disch := omega) only [wC, if_pos, if_neg])); refine rp2 6 (k := ?_); refine dd ?_; refine hJ4 _ _ ?_; refine hK3 _ _ ?_; refine ra ?_; exact gcr

set_option maxHeartbeats 1600000 in
attribute [local simp] undefA List.getElem?_cons_zero List.getElem?_cons_succ enC in
theorem dropEN_ok {σ : St} {e : En} (he : e.Ok) : CallsA Try.prog 71 [.v (.pointer none), .agg (enC e)] σ (fun av σ' => av = .v (.bool false) ∧ σ = σ') := by
  refine callsA_gcS ?_ rfl
  have hl := fun τ => lremoveN_ok (σ := τ) (kind := 101) he.2.2 he.1
  have F := True.intro
  refine callsA_body Try.func71 rfl rfl rfl ?_; refine sr fun _ hJ2 => ?_; refine hJ2 _ _ ?_; refine sr fun _ hJ4 => ?_; refine ca (c := hl _) (k := ?_); rintro _ _ ⟨rfl, rfl⟩; (repeat (first | simp [F] | simp (disch := omega) only [wC, if_pos, if_neg])); refine hJ4 _ _ ?_; refine ra ?_; exact gcr

set_option maxHeartbeats 1600000 in
attribute [local simp] undefA List.getElem?_cons_zero List.getElem?_cons_succ in
theorem eachEN_ok {σ : St} : CallsA Try.prog 94 [.v (.pointer none), .v (.int .u8 101), .fn 95 []] σ (fun av σ' => av = .sl 13 [] 0 .shut ∧ σ = σ') := by
  refine callsA_gcS ?_ rfl
  have hal : CallsA Try.prog 46 [.v (.pointer none), .v (.int .u8 101)] σ _ := allN_ok (kind := 101)
  have F := True.intro
  refine callsA_body Try.func94 rfl rfl rfl ?_; refine sr fun _ hJ2 => ?_; refine hJ2 _ _ ?_; refine sr fun _ hJ4 => ?_; refine hJ4 _ _ ?_; refine sq fun K5 hK5 => ?_; refine sr fun _ hJ7 => ?_; refine ca (c := hal) (k := ?_); rintro _ _ ⟨rfl, rfl⟩; (repeat (first | simp [F] | simp (disch := omega) only [wC, if_pos, if_neg])); refine hJ7 _ _ ?_; refine run_block_k ?_; refine run_loopF (X := Nat) [2, 6, 12, 13] (fun j ρ σ1 => (ρ 14 = .v (.int .i64 0)) ∧ (ρ 7 = .sl 0 [] 0 .full) ∧ (σ1 = σ)) (fun j => 0) (0) ?st1 ?rd1
  case st1 =>
   refine ⟨lp, lp, lp⟩
  case rd1 =>
   rintro j ρ1 σ1 hF1 ⟨h16, h7, hσ⟩; obtain rfl := hσ.symm
   have f1 := keepL hF1
   (try simp [KeepL, F] at f1); replace F := aF h16 F; replace F := aF h7 F; (try replace F := aF f1 F); refine sr fun _ hJ9 => ?_; refine hJ9 _ _ ?_; refine sq fun K10 hK10 => ?_; refine cf ?_; refine run_exit ?_; refine hK5 _ _ ?_; refine sr fun _ hJ12 => ?_; refine hJ12 _ _ ?_; refine ra ?_; exact gcr

set_option maxHeartbeats 1600000 in
attribute [local simp] undefA List.getElem?_cons_zero List.getElem?_cons_succ in
theorem allEN_ok {σ : St} : CallsA Try.prog 57 [.v (.pointer none)] σ (fun av σ' => av = .sl 13 [] 0 .shut ∧ σ = σ') := by
  have F := True.intro
  refine callsA_body Try.func57 rfl rfl rfl ?_; refine sr fun _ hJ2 => ?_; refine hJ2 _ _ ?_; refine sr fun _ hJ4 => ?_; refine ca (c := eachEN_ok) (k := ?_); rintro _ _ ⟨rfl, rfl⟩; (repeat (first | simp [F] | simp (disch := omega) only [wC, if_pos, if_neg])); refine hJ4 _ _ ?_; refine ra ?_; exact rt

set_option maxHeartbeats 1600000 in
attribute [local simp] undefA List.getElem?_cons_zero List.getElem?_cons_succ hpC in
theorem leaveH_ok {σ : St} {o k n m : Nat} {G : Sg} {e : Hp} (h : HasS σ o k G) (hG : G.s.Ok n) (hn : n ≤ 900000) (hm : m + 1 < 2 ^ 64) (hc : getL G.s.l (ctK 104) = if m = 0 then none else some (nBytes 8 m)) (he : e.Ok) :
    CallsA Try.prog 56 [.ptr o 0, .agg (hpC e)] σ (fun av σ' => ∃ G', G'.s = addL G.s 104 e.d (encH e) m ∧ av = .v (.int .u64 (m + 1 : Nat)) ∧ σ' = putS σ o k G') := by
  have h80 := encH_len e
  have hlay := fun τ => layH_ok (σ := τ) he.2.1
  have had := fun l => ladd_ok (kind := 104) (d := e.d) (p := encH e) (tp := .shut) (h.app l σ.toks) hG hn he.2.2 (by omega) hm hc
  have hpa := fun (G' : Sg) (l : List (List AV)) => putS_app h G' l
  refine callsA_mono (callsA_gcSt (X := Nat × Nat × Nat) (A := fun _ => .v (.int .u64 (m + 1 : Nat))) (T := fun x => ⟨addL G.s 104 e.d (encH e) m, x.1, x.2.1, x.2.2⟩) h (fun _ => rfl) ?_) (fun av σ' ⟨x, e1, e2⟩ => ⟨_, rfl, e1, e2⟩)
  obtain ⟨P, hP⟩ : ∃ P, P = encH e := ⟨_, rfl⟩
  simp only [← hP] at hlay had ⊢
  have F := True.intro
  refine callsA_body Try.func56 rfl rfl rfl ?_; refine sr fun _ hJ2 => ?_; refine hJ2 _ _ ?_; refine sq fun K3 hK3 => ?_
  refine run_draw (by kernel_rfl) fun J4 hJ4 => ?_
  refine rp2 0 (k := ?_); refine rp2 1 (k := ?_); refine rp2 2 (k := ?_); refine rp2 3 (k := ?_); refine dc 4 rfl (c := hlay _) (k := ?_); rintro _ _ ⟨rfl, rfl⟩
  refine ⟨by first | exact fun _ _ h => h | (refine later_list [2, 1, 0] (by kernel_rfl) (List.forall_mem_cons.2 ⟨fun _ => fact2 rfl rfl ?_, List.forall_mem_cons.2 ⟨fun _ => fact2 rfl rfl ?_, List.forall_mem_cons.2 ⟨fun _ => fact2 rfl rfl ?_, fun _ h => absurd h List.not_mem_nil⟩⟩⟩) <;> constructor <;> first | rfl | (simp [F]; done)), ?_⟩
  (repeat (first | simp [F] | simp (disch := omega) only [wC, if_pos, if_neg])); refine dc 5 rfl (c := had _) (k := ?_); rintro _ _ ⟨G', e0, rfl, rfl⟩
  refine ⟨by first | exact fun _ _ h => h | (refine later_list [1] (by kernel_rfl) (List.forall_mem_cons.2 ⟨fun _ => fact2 rfl rfl ?_, fun _ h => absurd h List.not_mem_nil⟩) <;> constructor <;> first | rfl | (simp [F]; done)), ?_⟩
  (repeat (first | simp [F] | simp (disch := omega) only [wC, if_pos, if_neg])); refine rp2 6 (k := ?_); refine dd ?_; refine hJ4 _ _ ?_; refine hK3 _ _ ?_; refine ra ?_
  obtain ⟨gs, a1, a2, a3⟩ := G'
  simp only at e0
  subst e0
  refine ⟨(a1, a2, a3), ?_⟩
  rw [hpa]
  exact gcr

set_option maxHeartbeats 1600000 in
attribute [local simp] undefA List.getElem?_cons_zero List.getElem?_cons_succ hpC in
theorem leaveHN_ok {σ : St} {e : Hp} (hm : e.m < 2 ^ 64) : CallsA Try.prog 56 [.v (.pointer none), .agg (hpC e)] σ (fun av σ' => av = .v (.int .u64 0) ∧ σ = σ') := by
  refine callsA_gcS ?_ rfl
  have hlay := fun τ => layH_ok (σ := τ) hm
  obtain ⟨P, hP⟩ : ∃ P, P = encH e := ⟨_, rfl⟩
  simp only [← hP] at hlay
  have F := True.intro
  refine callsA_body Try.func56 rfl rfl rfl ?_; refine sr fun _ hJ2 => ?_; refine hJ2 _ _ ?_; refine sq fun K3 hK3 => ?_
  refine run_draw (by kernel_rfl) fun J4 hJ4 => ?_
  refine rp2 0 (k := ?_); refine rp2 1 (k := ?_); refine rp2 2 (k := ?_); refine rp2 3 (k := ?_); refine dc 4 rfl (c := hlay _) (k := ?_); rintro _ _ ⟨rfl, rfl⟩
  refine ⟨by first | exact fun _ _ h => h | (refine later_list [2, 1, 0] (by kernel_rfl) (List.forall_mem_cons.2 ⟨fun _ => fact2 rfl rfl ?_, List.forall_mem_cons.2 ⟨fun _ => fact2 rfl rfl ?_, List.forall_mem_cons.2 ⟨fun _ => fact2 rfl rfl ?_, fun _ h => absurd h List.not_mem_nil⟩⟩⟩) <;> constructor <;> first | rfl | (simp [F]; done)), ?_⟩
  (repeat (first | simp [F] | simp (disch := omega) only [wC, if_pos, if_neg])); refine dc 5 rfl (c := laddN_ok) (k := ?_); rintro _ _ ⟨rfl, rfl⟩
  refine ⟨by first | exact fun _ _ h => h | (refine later_list [1] (by kernel_rfl) (List.forall_mem_cons.2 ⟨fun _ => fact2 rfl rfl ?_, fun _ h => absurd h List.not_mem_nil⟩) <;> constructor <;> first | rfl | (simp [F]; done)), ?_⟩
  (repeat (first | simp [F] | simp (disch := omega) only [wC, if_pos, if_neg])); refine rp2 6 (k := ?_); refine dd ?_; refine hJ4 _ _ ?_; refine hK3 _ _ ?_; refine ra ?_; exact gcr

set_option maxHeartbeats 1600000 in
attribute [local simp] undefA List.getElem?_cons_zero List.getElem?_cons_succ hpC in
theorem dropHN_ok {σ : St} {e : Hp} (he : e.Ok) : CallsA Try.prog 72 [.v (.pointer none), .agg (hpC e)] σ (fun av σ' => av = .v (.bool false) ∧ σ = σ') := by
  refine callsA_gcS ?_ rfl
  have hl := fun τ => lremoveN_ok (σ := τ) (kind := 104) he.2.2 he.1
  have F := True.intro
  refine callsA_body Try.func72 rfl rfl rfl ?_; refine sr fun _ hJ2 => ?_; refine hJ2 _ _ ?_; refine sr fun _ hJ4 => ?_; refine ca (c := hl _) (k := ?_); rintro _ _ ⟨rfl, rfl⟩; (repeat (first | simp [F] | simp (disch := omega) only [wC, if_pos, if_neg])); refine hJ4 _ _ ?_; refine ra ?_; exact gcr

set_option maxHeartbeats 1600000 in
attribute [local simp] undefA List.getElem?_cons_zero List.getElem?_cons_succ in
theorem eachHN_ok {σ : St} : CallsA Try.prog 96 [.v (.pointer none), .v (.int .u8 104), .fn 97 []] σ (fun av σ' => av = .sl 14 [] 0 .shut ∧ σ = σ') := by
  refine callsA_gcS ?_ rfl
  have hal : CallsA Try.prog 46 [.v (.pointer none), .v (.int .u8 104)] σ _ := allN_ok (kind := 104)
  have F := True.intro
  refine callsA_body Try.func96 rfl rfl rfl ?_; refine sr fun _ hJ2 => ?_; refine hJ2 _ _ ?_; refine sr fun _ hJ4 => ?_; refine hJ4 _ _ ?_; refine sq fun K5 hK5 => ?_; refine sr fun _ hJ7 => ?_; refine ca (c := hal) (k := ?_); rintro _ _ ⟨rfl, rfl⟩; (repeat (first | simp [F] | simp (disch := omega) only [wC, if_pos, if_neg])); refine hJ7 _ _ ?_; refine run_block_k ?_; refine run_loopF (X := Nat) [2, 6, 12, 13] (fun j ρ σ1 => (ρ 14 = .v (.int .i64 0)) ∧ (ρ 7 = .sl 0 [] 0 .full) ∧ (σ1 = σ)) (fun j => 0) (0) ?st1 ?rd1
  case st1 =>
   refine ⟨lp, lp, lp⟩
  case rd1 =>
   rintro j ρ1 σ1 hF1 ⟨h16, h7, hσ⟩; obtain rfl := hσ.symm
   have f1 := keepL hF1
   (try simp [KeepL, F] at f1); replace F := aF h16 F; replace F := aF h7 F; (try replace F := aF f1 F); refine sr fun _ hJ9 => ?_; refine hJ9 _ _ ?_; refine sq fun K10 hK10 => ?_; refine cf ?_; refine run_exit ?_; refine hK5 _ _ ?_; refine sr fun _ hJ12 => ?_; refine hJ12 _ _ ?_; refine ra ?_; exact gcr

set_option maxHeartbeats 1600000 in
attribute [local simp] undefA List.getElem?_cons_zero List.getElem?_cons_succ in
theorem allHN_ok {σ : St} : CallsA Try.prog 58 [.v (.pointer none)] σ (fun av σ' => av = .sl 14 [] 0 .shut ∧ σ = σ') := by
  have F := True.intro
  refine callsA_body Try.func58 rfl rfl rfl ?_; refine sr fun _ hJ2 => ?_; refine hJ2 _ _ ?_; refine sr fun _ hJ4 => ?_; refine ca (c := eachHN_ok) (k := ?_); rintro _ _ ⟨rfl, rfl⟩; (repeat (first | simp [F] | simp (disch := omega) only [wC, if_pos, if_neg])); refine hJ4 _ _ ?_; refine ra ?_; exact rt

set_option maxHeartbeats 1600000 in
attribute [local simp] undefA List.getElem?_cons_zero List.getElem?_cons_succ enC in
theorem setEN_ok {σ : St} {e : En} (he : e.Ok) : CallsA Try.prog 70 [.v (.pointer none), .agg (enC e)] σ (fun av σ' => av = .v (.bool false) ∧ σ = σ') := by
  refine callsA_gcS ?_ rfl
  have hlay := fun τ => layE_ok (σ := τ) he.2.1
  have hl := fun τ => lsetN_ok (σ := τ) (kind := 101) (p := encE e) he.2.2 he.1
  obtain ⟨P, hP⟩ : ∃ P, P = encE e := ⟨_, rfl⟩
  simp only [← hP, byC] at hlay hl
  have F := True.intro
  refine callsA_body Try.func70 rfl rfl rfl ?_; refine sr fun _ hJ2 => ?_; refine hJ2 _ _ ?_; refine sq fun K3 hK3 => ?_
  refine run_draw (by kernel_rfl) fun J4 hJ4 => ?_
  refine rp2 0 (k := ?_); refine rp2 1 (k := ?_); refine rp2 2 (k := ?_); refine rp2 3 (k := ?_); refine rp2 4 (k := ?_); refine rp2 5 (k := ?_); refine dc 6 rfl (c := hlay _) (k := ?_); rintro _ _ ⟨rfl, rfl⟩
  refine ⟨by first | exact fun _ _ h => h | (refine later_list [4, 3, 2, 1, 0] (by kernel_rfl) (List.forall_mem_cons.2 ⟨fun _ => fact2 rfl rfl ?_, List.forall_mem_cons.2 ⟨fun _ => fact2 rfl rfl ?_, List.forall_mem_cons.2 ⟨fun _ => fact2 rfl rfl ?_, List.forall_mem_cons.2 ⟨fun _ => fact2 rfl rfl ?_, List.forall_mem_cons.2 ⟨fun _ => fact2 rfl rfl ?_, fun _ h => absurd h List.not_mem_nil⟩⟩⟩⟩⟩) <;> constructor <;> first | rfl | (simp [F]; done)), ?_⟩
  (repeat (first | simp [F] | simp (disch := omega) only [wC, if_pos, if_neg])); refine rp2 7 (k := ?_); refine dc 8 rfl (c := hl _) (k := ?_); rintro _ _ ⟨rfl, rfl⟩
  refine ⟨by first | exact fun _ _ h => h | (refine later_list [4, 3, 2, 1] (by kernel_rfl) (List.forall_mem_cons.2 ⟨fun _ => fact2 rfl rfl ?_, List.forall_mem_cons.2 ⟨fun _ => fact2 rfl rfl ?_, List.forall_mem_cons.2 ⟨fun _ => fact2 rfl rfl ?_, List.forall_mem_cons.2 ⟨fun _ => fact2 rfl rfl ?_, fun _ h => absurd h List.not_mem_nil⟩⟩⟩⟩) <;> constructor <;> first | rfl | (simp [F]; done)), ?_⟩
  (repeat (first | simp [F] | simp (disch := omega) only [wC, if_pos, if_neg])); refine rp2 9 (k := ?_); refine dd ?_; refine hJ4 _ _ ?_; refine hK3 _ _ ?_; refine ra ?_; exact gcr

theorem u8_beq (x y : UInt8) : (((x.toNat : Nat) : Int) == ((y.toNat : Nat) : Int)) = decide (x = y) := by
  rw [Bool.eq_iff_iff, beq_iff_eq, decide_eq_true_eq]; exact ⟨fun e => UInt8.toNat_inj.1 (Int.ofNat_inj.1 e), fun e => by rw [e]⟩
set_option maxHeartbeats 1600000 in
attribute [local simp] undefA List.getElem?_cons_zero List.getElem?_cons_succ enC in
theorem leaving1_ok {σ : St} {a b : Nat} {ow vl : UInt8} {e : En} (ha : σ.objs[a]? = some [.v (.int .u8 ow.toNat)]) (hb : σ.objs[b]? = some [.v (.int .u8 vl.toNat)]) :
    CallsA Try.prog 103 [.agg (enC e), .ptr a 0, .ptr b 0] σ (fun av σ' => av = .v (.bool (decide (e.o = ow ∧ e.v = vl))) ∧ σ = σ') := by
  refine callsA_gcS ?_ rfl
  have hla := lt_of_get ha
  have hlb := lt_of_get hb
  have ga : ∀ x, (σ.objs ++ [x])[a]? = some [.v (.int .u8 ow.toNat)] := fun x => by rw [List.getElem?_append_left hla]; exact ha
  have gb : ∀ x, (σ.objs ++ [x])[b]? = some [.v (.int .u8 vl.toNat)] := fun x => by rw [List.getElem?_append_left hlb]; exact hb
  have hu := u8_beq
  have F := And.intro ga (And.intro gb (And.intro hu (True.intro)))
  refine callsA_body Try.func103 rfl rfl rfl ?_; refine sr fun _ hJ2 => ?_; refine hJ2 _ _ ?_; refine sr fun _ hJ4 => ?_; refine gs 9 (fun g1_4 => ?_) (fun g1_4 => ?_)
  · (try exact nope g1_4); all_goals have g1_4p := g1_4; try simp [F] at g1_4p
    all_goals
     replace F := aF g1_4 F; try replace F := aF g1_4p F
     have hl : e.o = ow := by have h := g1_4; simp [u8_beq] at h; first | exact h | exact UInt8.toNat_inj.1 (by omega)
     replace F := aF hl F; (iterate 4 refine go2 (k := ?_)); refine hJ4 _ _ ?_; refine ra ?_; exact gcr
  (try exact nope g1_4); all_goals have g1_4p := g1_4; try simp [F] at g1_4p
  all_goals
   replace F := aF g1_4 F; try replace F := aF g1_4p F
   have hl : ¬ e.o = ow := by have h := g1_4; simp [u8_beq] at h; intro e; rw [e] at h; exact h rfl
   replace F := aF hl F; (iterate 4 refine no2 (k := ?_)); refine hJ4 _ _ ?_; refine ra ?_; exact gcr

set_option maxHeartbeats 1600000 in
attribute [local simp] undefA List.getElem?_cons_zero List.getElem?_cons_succ in
theorem leaving_ok {σ : St} {o k n : Nat} {G : Sg} {E : List En} {ow vl : UInt8} (h : HasS σ o k G) (hG : G.s.Ok n) (hn : n ≤ 900000) (hE : allL G.s.l 101 = E.map itE) (hok : ∀ e ∈ E, e.Ok) (hl : E.length ≤ 1000000) :
    CallsA Try.prog 64 [.ptr o 0, .v (.int .u8 ow.toNat), .v (.int .u8 vl.toNat)] σ (fun av σ' => av = .v (.int .i64 ((E.filter fun e => decide (e.o = ow ∧ e.v = vl)).length : Nat)) ∧ σ = σ') := by
  refine callsA_gcS ?_ rfl
  have hal := fun l => allE_ok (h.app l σ.toks) hG hn hE hok
  have hct := countE_ok (σ := { σ with objs := σ.objs ++ [[.v (.int .u8 ow.toNat)], [.v (.int .u8 vl.toNat)]] }) (tl := .shut) (f := 103) (caps := [.ptr σ.objs.length 0, .ptr (σ.objs.length + 1) 0]) (p := fun e => decide (e.o = ow ∧ e.v = vl)) hl rfl (by simp [noObjL, AV.noObj]) (fun l e => leaving1_ok (by simp) (by simp))
  have F := True.intro
  refine callsA_body Try.func64 rfl rfl rfl ?_; refine sr fun _ hJ2 => ?_; refine hJ2 _ _ ?_; refine sr fun _ hJ4 => ?_; refine ca (c := hal _) (k := ?_); rintro _ _ ⟨rfl, rfl⟩; (repeat (first | simp [F] | simp (disch := omega) only [wC, if_pos, if_neg])); refine ca (c := hct) (k := ?_); rintro _ _ ⟨rfl, rfl⟩; (repeat (first | simp [F] | simp (disch := omega) only [wC, if_pos, if_neg])); refine hJ4 _ _ ?_; refine ra ?_; exact gcr

structure Wd where
  E : List En
  H : List Hp
  a : Nat
  b : Nat
def wX (x y : AV) (a b : Nat) : List AV := [.v (.int .u64 0), .sl 0 [] 0 .full, .sl 0 [] 0 .full, .sl 0 [] 0 .full, .sl 0 [] 0 .full, .sl 0 [] 0 .full, x, y, .v (.int .u64 a), .v (.int .u64 b)]
def wC (W : Wd) : List AV := wX (.sl 13 (ensC W.E) W.E.length .shut) (.sl 14 (hpsC W.H) W.H.length .shut) W.a W.b
structure GS (α : Type) where
  i : Nat
  O : List α
  b : Bool
set_option maxHeartbeats 1600000 in
attribute [local simp] undefA List.getElem?_cons_zero List.getElem?_cons_succ hpC in
theorem jumping1_ok {σ : St} {a b c : Nat} {ow fr tt : UInt8} {e : Hp} (ha : σ.objs[a]? = some [.v (.int .u8 ow.toNat)]) (hb : σ.objs[b]? = some [.v (.int .u8 fr.toNat)]) (hc : σ.objs[c]? = some [.v (.int .u8 tt.toNat)]) :
    CallsA Try.prog 105 [.agg (hpC e), .ptr a 0, .ptr b 0, .ptr c 0] σ (fun av σ' => av = .v (.bool (decide (e.o = ow ∧ e.f = fr ∧ e.t = tt))) ∧ σ = σ') := by
  refine callsA_gcS ?_ rfl
  have ga : ∀ x, (σ.objs ++ [x])[a]? = some [.v (.int .u8 ow.toNat)] := fun x => by rw [List.getElem?_append_left (lt_of_get ha)]; exact ha
  have gb : ∀ x, (σ.objs ++ [x])[b]? = some [.v (.int .u8 fr.toNat)] := fun x => by rw [List.getElem?_append_left (lt_of_get hb)]; exact hb
  have gc : ∀ x, (σ.objs ++ [x])[c]? = some [.v (.int .u8 tt.toNat)] := fun x => by rw [List.getElem?_append_left (lt_of_get hc)]; exact hc
  have hu := u8_beq
  have F := And.intro ga (And.intro gb (And.intro gc (And.intro hu (True.intro))))
  refine callsA_body Try.func105 rfl rfl rfl ?_; refine sr fun _ hJ2 => ?_; refine hJ2 _ _ ?_; refine sr fun _ hJ4 => ?_; refine gs 10 (fun g1_4 => ?_) (fun g1_4 => ?_)
  · (try exact nope g1_4); all_goals have g1_4p := g1_4; try simp [F] at g1_4p
    all_goals
     replace F := aF g1_4 F; try replace F := aF g1_4p F
     have hl : e.o = ow := by have h := g1_4; simp [u8_beq] at h; first | exact h | exact UInt8.toNat_inj.1 (by omega)
     replace F := aF hl F; (iterate 4 refine go2 (k := ?_)); refine gs 16 (fun g1_10 => ?_) (fun g1_10 => ?_)
     · (try exact nope g1_10); all_goals have g1_10p := g1_10; try simp [F] at g1_10p
       all_goals
        replace F := aF g1_10 F; try replace F := aF g1_10p F
        have hm : e.f = fr := by have h := g1_10; simp [u8_beq, hl] at h; first | exact h | exact UInt8.toNat_inj.1 (by omega)
        replace F := aF hm F; (iterate 4 refine go2 (k := ?_)); refine hJ4 _ _ ?_; refine ra ?_; exact gcr
     (try exact nope g1_10); all_goals have g1_10p := g1_10; try simp [F] at g1_10p
     all_goals
      replace F := aF g1_10 F; try replace F := aF g1_10p F
      have hm : ¬ e.f = fr ∨ ¬ e.o = ow := by
        by_cases e0 : e.o = ow
        · have h := g1_10; simp [u8_beq, hl, e0] at h; first | exact .inl h | exact .inl (fun e => h (by rw [e]))
        · exact .inr e0
      replace F := aF hm F; (iterate 4 refine no2 (k := ?_)); refine hJ4 _ _ ?_; refine ra ?_; exact gcr
  (try exact nope g1_4); all_goals have g1_4p := g1_4; try simp [F] at g1_4p
  all_goals
   replace F := aF g1_4 F; try replace F := aF g1_4p F
   have hl : ¬ e.o = ow := by have h := g1_4; simp [u8_beq] at h; intro e; rw [e] at h; exact h rfl
   replace F := aF hl F; (iterate 8 refine no2 (k := ?_)); refine hJ4 _ _ ?_; refine ra ?_; exact gcr

set_option maxHeartbeats 1600000 in
attribute [local simp] undefA List.getElem?_cons_zero List.getElem?_cons_succ hpC in
theorem came1_ok {σ : St} {a b c now : Nat} {ow tt : UInt8} {e : Hp} (ha : σ.objs[a]? = some [.v (.int .u8 ow.toNat)]) (hb : σ.objs[b]? = some [.v (.int .u8 tt.toNat)]) (hc : σ.objs[c]? = some [.v (.int .u64 now)]) :
    CallsA Try.prog 106 [.agg (hpC e), .ptr a 0, .ptr b 0, .ptr c 0] σ (fun av σ' => av = .v (.bool (decide (e.o = ow ∧ e.t = tt ∧ now < e.d))) ∧ σ = σ') := by
  refine callsA_gcS ?_ rfl
  have ga : ∀ x, (σ.objs ++ [x])[a]? = some [.v (.int .u8 ow.toNat)] := fun x => by rw [List.getElem?_append_left (lt_of_get ha)]; exact ha
  have gb : ∀ x, (σ.objs ++ [x])[b]? = some [.v (.int .u8 tt.toNat)] := fun x => by rw [List.getElem?_append_left (lt_of_get hb)]; exact hb
  have gc : ∀ x, (σ.objs ++ [x])[c]? = some [.v (.int .u64 now)] := fun x => by rw [List.getElem?_append_left (lt_of_get hc)]; exact hc
  have hu := u8_beq
  have F := And.intro ga (And.intro gb (And.intro gc (And.intro hu (True.intro))))
  refine callsA_body Try.func106 rfl rfl rfl ?_; refine sr fun _ hJ2 => ?_; refine hJ2 _ _ ?_; refine sr fun _ hJ4 => ?_; refine gs 10 (fun g1_4 => ?_) (fun g1_4 => ?_)
  · (try exact nope g1_4); all_goals have g1_4p := g1_4; try simp [F] at g1_4p
    all_goals
     replace F := aF g1_4 F; try replace F := aF g1_4p F
     have hl : e.o = ow := by have h := g1_4; simp [u8_beq] at h; first | exact h | exact UInt8.toNat_inj.1 (by omega)
     replace F := aF hl F; (iterate 4 refine go2 (k := ?_)); refine gs 16 (fun g1_10 => ?_) (fun g1_10 => ?_)
     · (try exact nope g1_10); all_goals have g1_10p := g1_10; try simp [F] at g1_10p
       all_goals
        replace F := aF g1_10 F; try replace F := aF g1_10p F
        have hm : e.t = tt := by have h := g1_10; simp [u8_beq, hl] at h; first | exact h | exact UInt8.toNat_inj.1 (by omega)
        replace F := aF hm F; (iterate 4 refine go2 (k := ?_)); refine hJ4 _ _ ?_; refine ra ?_; exact gcr
     (try exact nope g1_10); all_goals have g1_10p := g1_10; try simp [F] at g1_10p
     all_goals
      replace F := aF g1_10 F; try replace F := aF g1_10p F
      have hm : ¬ e.t = tt ∨ ¬ e.o = ow := by
        by_cases e0 : e.o = ow
        · have h := g1_10; simp [u8_beq, hl, e0] at h; first | exact .inl h | exact .inl (fun e => h (by rw [e]))
        · exact .inr e0
      replace F := aF hm F; (iterate 4 refine no2 (k := ?_)); refine hJ4 _ _ ?_; refine ra ?_; exact gcr
  (try exact nope g1_4); all_goals have g1_4p := g1_4; try simp [F] at g1_4p
  all_goals
   replace F := aF g1_4 F; try replace F := aF g1_4p F
   have hl : ¬ e.o = ow := by have h := g1_4; simp [u8_beq] at h; intro e; rw [e] at h; exact h rfl
   replace F := aF hl F; (iterate 8 refine no2 (k := ?_)); refine hJ4 _ _ ?_; refine ra ?_; exact gcr

set_option maxHeartbeats 1600000 in
attribute [local simp] undefA List.getElem?_cons_zero List.getElem?_cons_succ in
theorem jumpingN_ok {σ : St} {ow fr tt : UInt8} :
    CallsA Try.prog 66 [.v (.pointer none), .v (.int .u8 ow.toNat), .v (.int .u8 fr.toNat), .v (.int .u8 tt.toNat)] σ (fun av σ' => av = .v (.int .i64 0) ∧ σ = σ') := by
  refine callsA_gcS ?_ rfl
  have hal := fun l => allHN_ok (σ := { σ with objs := σ.objs ++ l })
  have hct : CallsA Try.prog 104 [.sl 14 [] 0 .shut, .fn 105 [.ptr σ.objs.length 0, .ptr (σ.objs.length + 1) 0, .ptr (σ.objs.length + 2) 0]] { σ with objs := σ.objs ++ [[.v (.int .u8 ow.toNat)], [.v (.int .u8 fr.toNat)], [.v (.int .u8 tt.toNat)]] } (fun av σ' => av = .v (.int .i64 0) ∧ { σ with objs := σ.objs ++ [[.v (.int .u8 ow.toNat)], [.v (.int .u8 fr.toNat)], [.v (.int .u8 tt.toNat)]] } = σ') := countH_ok (σ := { σ with objs := σ.objs ++ [[.v (.int .u8 ow.toNat)], [.v (.int .u8 fr.toNat)], [.v (.int .u8 tt.toNat)]] }) (E := []) (tl := .shut) (f := 105) (caps := [.ptr σ.objs.length 0, .ptr (σ.objs.length + 1) 0, .ptr (σ.objs.length + 2) 0]) (p := fun e => decide (e.o = ow ∧ e.f = fr ∧ e.t = tt)) (by simp) rfl (by simp [noObjL, AV.noObj]) (fun l e => jumping1_ok (by simp) (by simp) (by simp))
  have F := True.intro
  refine callsA_body Try.func66 rfl rfl rfl ?_; refine sr fun _ hJ2 => ?_; refine hJ2 _ _ ?_; refine sr fun _ hJ4 => ?_; refine ca (c := hal _) (k := ?_); rintro _ _ ⟨rfl, rfl⟩; (repeat (first | simp [F] | simp (disch := omega) only [wC, if_pos, if_neg])); refine ca (c := hct) (k := ?_); rintro _ _ ⟨rfl, rfl⟩; (repeat (first | simp [F] | simp (disch := omega) only [wC, if_pos, if_neg])); refine hJ4 _ _ ?_; refine ra ?_; exact gcr

set_option maxHeartbeats 1600000 in
attribute [local simp] undefA List.getElem?_cons_zero List.getElem?_cons_succ in
theorem cameN_ok {σ : St} {ow tt : UInt8} {now : Nat} :
    CallsA Try.prog 68 [.v (.pointer none), .v (.int .u8 ow.toNat), .v (.int .u8 tt.toNat), .v (.int .u64 now)] σ (fun av σ' => av = .v (.bool false) ∧ σ = σ') := by
  refine callsA_gcS ?_ rfl
  have hal := fun l => allHN_ok (σ := { σ with objs := σ.objs ++ l })
  have hct : CallsA Try.prog 104 [.sl 14 [] 0 .shut, .fn 106 [.ptr σ.objs.length 0, .ptr (σ.objs.length + 1) 0, .ptr (σ.objs.length + 2) 0]] { σ with objs := σ.objs ++ [[.v (.int .u8 ow.toNat)], [.v (.int .u8 tt.toNat)], [.v (.int .u64 now)]] } (fun av σ' => av = .v (.int .i64 0) ∧ { σ with objs := σ.objs ++ [[.v (.int .u8 ow.toNat)], [.v (.int .u8 tt.toNat)], [.v (.int .u64 now)]] } = σ') := countH_ok (σ := { σ with objs := σ.objs ++ [[.v (.int .u8 ow.toNat)], [.v (.int .u8 tt.toNat)], [.v (.int .u64 now)]] }) (E := []) (tl := .shut) (f := 106) (caps := [.ptr σ.objs.length 0, .ptr (σ.objs.length + 1) 0, .ptr (σ.objs.length + 2) 0]) (p := fun e => decide (e.o = ow ∧ e.t = tt ∧ now < e.d)) (by simp) rfl (by simp [noObjL, AV.noObj]) (fun l e => came1_ok (by simp) (by simp) (by simp))
  have F := True.intro
  refine callsA_body Try.func68 rfl rfl rfl ?_; refine sr fun _ hJ2 => ?_; refine hJ2 _ _ ?_; refine sr fun _ hJ4 => ?_; refine ca (c := hal _) (k := ?_); rintro _ _ ⟨rfl, rfl⟩; (repeat (first | simp [F] | simp (disch := omega) only [wC, if_pos, if_neg])); refine ca (c := hct) (k := ?_); rintro _ _ ⟨rfl, rfl⟩; (repeat (first | simp [F] | simp (disch := omega) only [wC, if_pos, if_neg])); refine hJ4 _ _ ?_; refine ra ?_; exact gcr

set_option maxHeartbeats 1600000 in
attribute [local simp] undefA List.getElem?_cons_zero List.getElem?_cons_succ in
theorem leavingN_ok {σ : St} {ow vl : UInt8} :
    CallsA Try.prog 64 [.v (.pointer none), .v (.int .u8 ow.toNat), .v (.int .u8 vl.toNat)] σ (fun av σ' => av = .v (.int .i64 0) ∧ σ = σ') := by
  refine callsA_gcS ?_ rfl
  have hal := fun l => allEN_ok (σ := { σ with objs := σ.objs ++ l })
  have hct : CallsA Try.prog 102 [.sl 13 [] 0 .shut, .fn 103 [.ptr σ.objs.length 0, .ptr (σ.objs.length + 1) 0]] { σ with objs := σ.objs ++ [[.v (.int .u8 ow.toNat)], [.v (.int .u8 vl.toNat)]] } (fun av σ' => av = .v (.int .i64 0) ∧ { σ with objs := σ.objs ++ [[.v (.int .u8 ow.toNat)], [.v (.int .u8 vl.toNat)]] } = σ') := countE_ok (σ := { σ with objs := σ.objs ++ [[.v (.int .u8 ow.toNat)], [.v (.int .u8 vl.toNat)]] }) (E := []) (tl := .shut) (f := 103) (caps := [.ptr σ.objs.length 0, .ptr (σ.objs.length + 1) 0]) (p := fun e => decide (e.o = ow ∧ e.v = vl)) (by simp) rfl (by simp [noObjL, AV.noObj]) (fun l e => leaving1_ok (by simp) (by simp))
  have F := True.intro
  refine callsA_body Try.func64 rfl rfl rfl ?_; refine sr fun _ hJ2 => ?_; refine hJ2 _ _ ?_; refine sr fun _ hJ4 => ?_; refine ca (c := hal _) (k := ?_); rintro _ _ ⟨rfl, rfl⟩; (repeat (first | simp [F] | simp (disch := omega) only [wC, if_pos, if_neg])); refine ca (c := hct) (k := ?_); rintro _ _ ⟨rfl, rfl⟩; (repeat (first | simp [F] | simp (disch := omega) only [wC, if_pos, if_neg])); refine hJ4 _ _ ?_; refine ra ?_; exact gcr
theorem remG_le {α : Type} (it : α → It) (l : List α) (d n : Nat) : (remG it l d n).length ≤ l.length := List.length_filter_le _ _
structure HopS (s : Sto) (W : Wd) (n : Nat) : Prop where
  ok : s.Ok n
  le : Ln s.l 101 (W.E.map itE) W.a
  lh : Ln s.l 104 (W.H.map itH) W.b
  oe : ∀ e ∈ W.E, e.Ok
  oh : ∀ e ∈ W.H, e.Ok
  ne : W.E.length ≤ n
  nh : W.H.length ≤ n
  na : W.a ≤ n
  nb : W.b ≤ n
def wd0 : Wd := ⟨[], [], 0, 0⟩
theorem HopS.nil : HopS newSg.s wd0 0 := ⟨newSg_ok, Ln.nil 101, Ln.nil 104, fun e h => by simp [wd0] at h, fun e h => by simp [wd0] at h, Nat.le_refl _, Nat.le_refl _, Nat.le_refl _, Nat.le_refl _⟩
theorem srtG_of {α : Type} {it : α → It} {l : List α} (h : (l.map it).Pairwise fun x y => x.d < y.d ∨ x.d = y.d ∧ x.n < y.n) : SrtG it l := List.pairwise_map.1 h
theorem num_lt {α : Type} {it : α → It} {l : List α} {L : List Pr} {k : UInt8} {c : Nat} (h : Ln L k (l.map it) c) : ∀ y ∈ l, (it y).n < c + 1 := fun y hy => by have := (h.num _ (List.mem_map_of_mem hy)).2; omega
def leaveW (W : Wd) (e : En) : Wd := { W with E := insG itE W.E { e with n := W.a + 1 }, a := W.a + 1 }
def jumpW (W : Wd) (e : Hp) : Wd := { W with H := insG itH W.H { e with n := W.b + 1 }, b := W.b + 1 }
theorem HopS.leave {s : Sto} {W : Wd} {n : Nat} (h : HopS s W n) (hn : n ≤ 1000) {e : En} (he : e.Ok) : HopS (addL s 101 e.d (encE e) W.a) (leaveW W e) (n + 2) := by
  have hna := h.na
  have h1 := h.le.add h.ok.srt (p := encE e) he.2.2 (by omega : W.a + 1 < 2 ^ 64)
  have h2 : setI (W.E.map itE) e.d (W.a + 1) (some (encE e)) = (insG itE W.E { e with n := W.a + 1 }).map itE := insG_map itE (x := { e with n := W.a + 1 }) (num_lt h.le)
  rw [h2] at h1
  have h80 := encE_len e
  refine ⟨addL_ok h.ok (by omega), h1, h.lh.add' h.ok.srt (by decide), fun x hx => ?_, h.oh, ?_, Nat.le_succ_of_le (Nat.le_succ_of_le h.nh), Nat.succ_le_succ (Nat.le_succ_of_le h.na), Nat.le_succ_of_le (Nat.le_succ_of_le h.nb)⟩
  · rcases insG_mem itE hx with rfl | hx
    · exact ⟨by show W.a + 1 < 2 ^ 64; omega, he.2⟩
    · exact h.oe x hx
  · show (insG itE W.E _).length ≤ _
    rw [insG_len]; have := h.ne; omega
theorem HopS.jump {s : Sto} {W : Wd} {n : Nat} (h : HopS s W n) (hn : n ≤ 1000) {e : Hp} (he : e.Ok) : HopS (addL s 104 e.d (encH e) W.b) (jumpW W e) (n + 2) := by
  have hnb := h.nb
  have h1 := h.lh.add h.ok.srt (p := encH e) he.2.2 (by omega : W.b + 1 < 2 ^ 64)
  have h2 : setI (W.H.map itH) e.d (W.b + 1) (some (encH e)) = (insG itH W.H { e with n := W.b + 1 }).map itH := insG_map itH (x := { e with n := W.b + 1 }) (num_lt h.lh)
  rw [h2] at h1
  have h80 := encH_len e
  refine ⟨addL_ok h.ok (by omega), h.le.add' h.ok.srt (by decide), h1, h.oe, fun x hx => ?_, Nat.le_succ_of_le (Nat.le_succ_of_le h.ne), ?_, Nat.le_succ_of_le (Nat.le_succ_of_le h.na), Nat.succ_le_succ (Nat.le_succ_of_le h.nb)⟩
  · rcases insG_mem itH hx with rfl | hx
    · exact ⟨by show W.b + 1 < 2 ^ 64; omega, he.2⟩
    · exact h.oh x hx
  · show (insG itH W.H _).length ≤ _
    rw [insG_len]; have := h.nh; omega
theorem HopS.dropE {s : Sto} {W : Wd} {n : Nat} (h : HopS s W n) {e : En} (he : e.Ok) : HopS (doS s (keyW 101 e.d e.n) none) { W with E := remG itE W.E e.d e.n } (n + 1) := by
  have h1 : Ln (setL s.l (keyW 101 e.d e.n) none) 101 (setI (W.E.map itE) e.d e.n none) W.a := h.le.set h.ok.srt he.2.2 he.1 (fun q => (q rfl).elim)
  rw [remG_map itE (srtG_of (h.le.sorted h.ok.srt))] at h1
  exact ⟨rem_ok h.ok, h1, h.lh.other h.ok.srt (by decide), fun x hx => h.oe x (List.mem_filter.1 hx).1, h.oh, Nat.le_succ_of_le (Nat.le_trans (remG_le itE W.E e.d e.n) h.ne), Nat.le_succ_of_le h.nh, Nat.le_succ_of_le h.na, Nat.le_succ_of_le h.nb⟩
theorem hleave_ok {σ : St} {o k n : Nat} {G : Sg} {W : Wd} {e : En} (h : HasS σ o k G) (hi : HopS G.s W n) (hn : n ≤ 1000) (he : e.Ok) :
    CallsA Try.prog 55 [.ptr o 0, .agg (enC e)] σ (fun av σ' => ∃ G', HopS G'.s (leaveW W e) (n + 2) ∧ av = .v (.int .u64 (W.a + 1 : Nat)) ∧ σ' = putS σ o k G') :=
  callsA_mono (leaveE_ok h hi.ok (by omega) (by have := hi.na; omega) hi.le.ct he) (fun av σ' ⟨G', e1, e2, e3⟩ => ⟨G', by rw [e1]; exact hi.leave hn he, e2, e3⟩)
theorem hjump_ok {σ : St} {o k n : Nat} {G : Sg} {W : Wd} {e : Hp} (h : HasS σ o k G) (hi : HopS G.s W n) (hn : n ≤ 1000) (he : e.Ok) :
    CallsA Try.prog 56 [.ptr o 0, .agg (hpC e)] σ (fun av σ' => ∃ G', HopS G'.s (jumpW W e) (n + 2) ∧ av = .v (.int .u64 (W.b + 1 : Nat)) ∧ σ' = putS σ o k G') :=
  callsA_mono (leaveH_ok h hi.ok (by omega) (by have := hi.nb; omega) hi.lh.ct he) (fun av σ' ⟨G', e1, e2, e3⟩ => ⟨G', by rw [e1]; exact hi.jump hn he, e2, e3⟩)
theorem hdropE_ok {σ : St} {o k n : Nat} {G : Sg} {W : Wd} {e : En} (h : HasS σ o k G) (hi : HopS G.s W n) (hn : n ≤ 1000) (he : e.Ok) :
    CallsA Try.prog 71 [.ptr o 0, .agg (enC e)] σ (fun av σ' => ∃ G', HopS G'.s { W with E := remG itE W.E e.d e.n } (n + 1) ∧ av = .v (.bool (W.E.any (isG itE e.d e.n))) ∧ σ' = putS σ o k G') :=
  callsA_mono (dropE_ok h hi.ok (by omega) he) (fun av σ' ⟨G', e1, e2, e3⟩ => ⟨G', by rw [e1]; exact hi.dropE he, by rw [e2, hi.le.get he.2.2 he.1, any_map], e3⟩)
theorem hallE_ok {σ : St} {o k n : Nat} {G : Sg} {W : Wd} (h : HasS σ o k G) (hi : HopS G.s W n) (hn : n ≤ 1000) :
    CallsA Try.prog 57 [.ptr o 0] σ (fun av σ' => av = .sl 13 (ensC W.E) W.E.length .shut ∧ σ = σ') := allE_ok h hi.ok (by omega) (hi.le.all hi.ok.srt) hi.oe
theorem hleaving_ok {σ : St} {o k n : Nat} {G : Sg} {W : Wd} {ow vl : UInt8} (h : HasS σ o k G) (hi : HopS G.s W n) (hn : n ≤ 1000) :
    CallsA Try.prog 64 [.ptr o 0, .v (.int .u8 ow.toNat), .v (.int .u8 vl.toNat)] σ (fun av σ' => av = .v (.int .i64 ((W.E.filter fun e => decide (e.o = ow ∧ e.v = vl)).length : Nat)) ∧ σ = σ') := leaving_ok h hi.ok (by omega) (hi.le.all hi.ok.srt) hi.oe (by have := hi.ne; omega)
def en0 (n o d : Nat) : En := ⟨n, UInt8.ofNat o, 0, 0, d, Num.zero, Num.zero⟩
def hp0 (d : Nat) : Hp := ⟨0, 0, 0, 0, 0, d, Num.zero, Num.zero⟩
set_option maxHeartbeats 1600000 in
attribute [local simp] undefA List.getElem?_cons_zero List.getElem?_cons_succ in
theorem leaves_ok {σ : St} : CallsA Try.prog 59 [] σ (fun av σ' => av = .v (.bool true) ∧ σ = σ') := by
  refine callsA_gcS ?_ rfl
  have hnew : CallsA Try.prog 22 [] σ (fun av σ' => av = .ptr σ.objs.length 0 ∧ σ' = St1 σ newSg) := new_st_ok
  have kE : ∀ n o d : Nat, n < 10 → d < 10 → (en0 n o d).Ok := fun n o d h1 h2 => ⟨by show n < _; omega, by show 0 < _; omega, by show d < _; omega⟩
  have kH : ∀ d : Nat, d < 10 → (hp0 d).Ok := fun d h2 => ⟨by show 0 < _; omega, by show 0 < _; omega, by show d < _; omega⟩
  have z0 : (AV.v (.int .u64 0)) = .v (.int .u64 ((0 : Nat) : Int)) := rfl
  have eE : ∀ n o d : Nat, enC (en0 n o d) = [.v (.int .u64 n), .v (.int .u8 ((UInt8.ofNat o).toNat : Nat)), .v (.int .u8 0), .v (.int .u64 0), .v (.int .u64 d), .v (.int .u64 0), .v (.int .u64 0), .v (.int .u64 0), .v (.int .u64 0), .v (.int .u64 0), .v (.int .u64 0), .v (.int .u64 0), .v (.int .u64 0)] := fun n o d => by simp [enC, en0, Num.zero, limb]
  have eH : ∀ d : Nat, hpC (hp0 d) = [.v (.int .u64 0), .v (.int .u8 0), .v (.int .u8 0), .v (.int .u8 0), .v (.int .u64 0), .v (.int .u64 d), .v (.int .u64 0), .v (.int .u64 0), .v (.int .u64 0), .v (.int .u64 0), .v (.int .u64 0), .v (.int .u64 0), .v (.int .u64 0), .v (.int .u64 0)] := fun d => by simp [hpC, hp0, Num.zero, limb]
  have c1 : CallsA Try.prog 55 [.ptr σ.objs.length 0, .agg (enC (en0 0 0 3))] (St1 σ newSg) (fun av σ' => ∃ G', HopS G'.s ⟨[en0 1 0 3], [], 1, 0⟩ 2 ∧ av = .v (.int .u64 1) ∧ σ' = St1 σ G') :=
    callsA_mono (hleave_ok (St1.has σ newSg) HopS.nil (by omega) (kE 0 0 3 (by omega) (by omega))) (fun av σ' ⟨G', e1, e2, e3⟩ => ⟨G', e1, e2, by rw [e3, St1.put]⟩)
  have c2 : ∀ G, HopS G.s ⟨[en0 1 0 3], [], 1, 0⟩ 2 → CallsA Try.prog 55 [.ptr σ.objs.length 0, .agg (enC (en0 0 5 3))] (St1 σ G) (fun av σ' => ∃ G', HopS G'.s ⟨[en0 1 0 3, en0 2 5 3], [], 2, 0⟩ 4 ∧ av = .v (.int .u64 2) ∧ σ' = St1 σ G') := fun G hG =>
    callsA_mono (hleave_ok (St1.has σ G) hG (by omega) (kE 0 5 3 (by omega) (by omega))) (fun av σ' ⟨G', e1, e2, e3⟩ => ⟨G', e1, e2, by rw [e3, St1.put]⟩)
  have c3 : ∀ G, HopS G.s ⟨[en0 1 0 3, en0 2 5 3], [], 2, 0⟩ 4 → CallsA Try.prog 71 [.ptr σ.objs.length 0, .agg (enC (en0 1 0 3))] (St1 σ G) (fun av σ' => ∃ G', HopS G'.s ⟨[en0 2 5 3], [], 2, 0⟩ 5 ∧ av = .v (.bool true) ∧ σ' = St1 σ G') := fun G hG =>
    callsA_mono (hdropE_ok (St1.has σ G) hG (by omega) (kE 1 0 3 (by omega) (by omega))) (fun av σ' ⟨G', e1, e2, e3⟩ => ⟨G', e1, e2, by rw [e3, St1.put]⟩)
  have c4 : ∀ G, HopS G.s ⟨[en0 2 5 3], [], 2, 0⟩ 5 → CallsA Try.prog 57 [.ptr σ.objs.length 0] (St1 σ G) (fun av σ' => av = .sl 13 (enC (en0 2 5 3)) 1 .shut ∧ St1 σ G = σ') := fun G hG => by
    have := hallE_ok (St1.has σ G) hG (by omega)
    rw [show ensC [en0 2 5 3] = enC (en0 2 5 3) by simp [ensC]] at this; exact this
  have c5 : ∀ G, HopS G.s ⟨[en0 2 5 3], [], 2, 0⟩ 5 → CallsA Try.prog 64 [.ptr σ.objs.length 0, .v (.int .u8 5), .v (.int .u8 0)] (St1 σ G) (fun av σ' => av = .v (.int .i64 1) ∧ St1 σ G = σ') := fun G hG =>
    hleaving_ok (ow := 5) (vl := 0) (St1.has σ G) hG (by omega)
  have c6 : ∀ G, HopS G.s ⟨[en0 2 5 3], [], 2, 0⟩ 5 → CallsA Try.prog 56 [.ptr σ.objs.length 0, .agg (hpC (hp0 9))] (St1 σ G) (fun av σ' => ∃ G', av = .v (.int .u64 1) ∧ σ' = St1 σ G') := fun G hG =>
    callsA_mono (hjump_ok (St1.has σ G) hG (by omega) (kH 9 (by omega))) (fun av σ' ⟨G', e1, e2, e3⟩ => ⟨G', e2, by rw [e3, St1.put]⟩)
  simp only [eE, eH] at c1 c2 c3 c4 c6
  have F := True.intro
  refine callsA_body Try.func59 rfl rfl rfl ?_; refine sr fun _ hJ2 => ?_; refine hJ2 _ _ ?_; refine sr fun _ hJ4 => ?_; refine ca (c := hnew) (k := ?_); rintro _ _ ⟨rfl, rfl⟩; (repeat (first | simp [F] | simp (disch := omega) only [wC, if_pos, if_neg])); refine hJ4 _ _ ?_; refine sq fun K5 hK5 => ?_; refine sr fun _ hJ7 => ?_; refine ca (c := c1) (k := ?_); rintro _ _ ⟨G1, e1, rfl, rfl⟩; (repeat (first | simp [F] | simp (disch := omega) only [wC, if_pos, if_neg])); (iterate 2 refine go2 (k := ?_)); refine ca (c := c2 G1 e1) (k := ?_); rintro _ _ ⟨G2, e2, rfl, rfl⟩; (repeat (first | simp [F] | simp (disch := omega) only [wC, if_pos, if_neg])); (iterate 3 refine go2 (k := ?_)); refine ca (c := c3 G2 e2) (k := ?_); rintro _ _ ⟨G3, e3, rfl, rfl⟩; (repeat (first | simp [F] | simp (disch := omega) only [wC, if_pos, if_neg])); refine go2 (k := ?_); refine hJ7 _ _ ?_; refine cf ?_; refine run_skip ?_; refine hK5 _ _ ?_; refine sr fun _ hJ9 => ?_; refine ca (c := c4 G3 e3) (k := ?_); rintro _ _ ⟨rfl, rfl⟩; (repeat (first | simp [F] | simp (disch := omega) only [wC, if_pos, if_neg])); refine hJ9 _ _ ?_; refine sr fun _ hJ11 => ?_; (iterate 11 refine go2 (k := ?_)); refine ca (c := c5 G3 e3) (k := ?_); rintro _ _ ⟨rfl, rfl⟩; (repeat (first | simp [F] | simp (disch := omega) only [wC, if_pos, if_neg])); (iterate 3 refine go2 (k := ?_)); refine ca (c := c6 G3 e3) (k := ?_); rintro _ _ ⟨G4, rfl, rfl⟩; (repeat (first | simp [F] | simp (disch := omega) only [wC, if_pos, if_neg])); refine go2 (k := ?_); refine hJ11 _ _ ?_; refine ra ?_; exact gcr

set_option maxHeartbeats 1600000 in
attribute [local simp] undefA List.getElem?_cons_zero List.getElem?_cons_succ in
theorem hopNil_ok {σ : St} {e : En} {h : Hp} {now : Nat} (he : e.Ok) (hh : h.Ok) :
    CallsA Try.prog 19 [.agg (enC e), .agg (hpC h), .v (.int .u64 now)] σ (fun av σ' => av = .v (.bool true) ∧ σ = σ') := by
  refine callsA_gcS ?_ rfl
  have n1 := fun τ => leaveEN_ok (σ := τ) he.2.1
  have n2 := fun τ => leaveHN_ok (σ := τ) hh.2.1
  have n3 := fun τ => setEN_ok (σ := τ) he
  have n4 := fun τ => dropEN_ok (σ := τ) he
  have n5 := fun τ => dropHN_ok (σ := τ) hh
  have n6 := fun τ => leavingN_ok (σ := τ) (ow := e.o) (vl := e.v)
  have n7 := fun τ => jumpingN_ok (σ := τ) (ow := h.o) (fr := h.f) (tt := h.t)
  have n8 := fun τ => cameN_ok (σ := τ) (ow := h.o) (tt := h.t) (now := now)
  obtain ⟨Q, hQ⟩ : ∃ Q, Q = enC e := ⟨_, rfl⟩
  obtain ⟨Y, hY⟩ : ∃ Y, Y = hpC h := ⟨_, rfl⟩
  have hQl : Q.length = 13 := by rw [hQ]; rfl
  have hQt : List.take 13 Q = Q := by subst hQ; rfl
  have hYl : Y.length = 14 := by rw [hY]; rfl
  have hYt : List.take 14 Y = Y := by subst hY; rfl
  have q1 : ∀ h2 : 1 < Q.length, Q[1]'h2 = .v (.int .u8 (e.o.toNat : Nat)) := fun h2 => by subst hQ; rfl
  have q2 : ∀ h2 : 2 < Q.length, Q[2]'h2 = .v (.int .u8 (e.v.toNat : Nat)) := fun h2 => by subst hQ; rfl
  have y1 : ∀ h2 : 1 < Y.length, Y[1]'h2 = .v (.int .u8 (h.o.toNat : Nat)) := fun h2 => by subst hY; rfl
  have y2 : ∀ h2 : 2 < Y.length, Y[2]'h2 = .v (.int .u8 (h.f.toNat : Nat)) := fun h2 => by subst hY; rfl
  have y3 : ∀ h2 : 3 < Y.length, Y[3]'h2 = .v (.int .u8 (h.t.toNat : Nat)) := fun h2 => by subst hY; rfl
  rw [← hQ, ← hY]
  simp only [← hQ] at n1 n3 n4
  simp only [← hY] at n2 n5
  have F := And.intro hQl (And.intro hQt (And.intro hYl (And.intro hYt (And.intro q1 (And.intro q2 (And.intro y1 (And.intro y2 (And.intro y3 (True.intro)))))))))
  refine callsA_body Try.func19 rfl rfl rfl ?_; refine sr fun _ hJ2 => ?_; refine hJ2 _ _ ?_; refine sr fun _ hJ4 => ?_; refine ca (c := leaves_ok) (k := ?_); rintro _ _ ⟨rfl, rfl⟩; (repeat (first | simp [F] | simp (disch := omega) only [wC, if_pos, if_neg])); refine go2 (k := ?_); refine ca (c := n1 _) (k := ?_); rintro _ _ ⟨rfl, rfl⟩; (repeat (first | simp [F] | simp (disch := omega) only [wC, if_pos, if_neg])); (iterate 2 refine go2 (k := ?_)); refine ca (c := n2 _) (k := ?_); rintro _ _ ⟨rfl, rfl⟩; (repeat (first | simp [F] | simp (disch := omega) only [wC, if_pos, if_neg])); (iterate 2 refine go2 (k := ?_)); refine ca (c := n3 _) (k := ?_); rintro _ _ ⟨rfl, rfl⟩; (repeat (first | simp [F] | simp (disch := omega) only [wC, if_pos, if_neg])); (iterate 2 refine go2 (k := ?_)); refine ca (c := n4 _) (k := ?_); rintro _ _ ⟨rfl, rfl⟩; (repeat (first | simp [F] | simp (disch := omega) only [wC, if_pos, if_neg])); (iterate 2 refine go2 (k := ?_)); refine ca (c := n5 _) (k := ?_); rintro _ _ ⟨rfl, rfl⟩; (repeat (first | simp [F] | simp (disch := omega) only [wC, if_pos, if_neg])); refine go2 (k := ?_); refine ca (c := allEN_ok) (k := ?_); rintro _ _ ⟨rfl, rfl⟩; (repeat (first | simp [F] | simp (disch := omega) only [wC, if_pos, if_neg])); refine go2 (k := ?_); refine ca (c := allHN_ok) (k := ?_); rintro _ _ ⟨rfl, rfl⟩; (repeat (first | simp [F] | simp (disch := omega) only [wC, if_pos, if_neg])); (iterate 7 refine go2 (k := ?_)); refine ca (c := n6 _) (k := ?_); rintro _ _ ⟨rfl, rfl⟩; (repeat (first | simp [F] | simp (disch := omega) only [wC, if_pos, if_neg])); (iterate 7 refine go2 (k := ?_)); refine ca (c := n7 _) (k := ?_); rintro _ _ ⟨rfl, rfl⟩; (repeat (first | simp [F] | simp (disch := omega) only [wC, if_pos, if_neg])); (iterate 6 refine go2 (k := ?_)); refine ca (c := n8 _) (k := ?_); rintro _ _ ⟨rfl, rfl⟩; (repeat (first | simp [F] | simp (disch := omega) only [wC, if_pos, if_neg])); refine go2 (k := ?_); refine hJ4 _ _ ?_; refine ra ?_; exact gcr
theorem en_cells {P : Program} {u b : TypeId} {a0 a1 a2 a3 a4 a5 a6 a7 a8 a9 a10 a11 a12 : AV} (hu : P.underlying u = some (.int .u64)) (hb : P.underlying b = some (.int .u8)) (h0 : WC P u a0) (h1 : WC P b a1) (h2 : WC P b a2) (h3 : WC P u a3) (h4 : WC P u a4) (h5 : WC P u a5) (h6 : WC P u a6) (h7 : WC P u a7) (h8 : WC P u a8) (h9 : WC P u a9) (h10 : WC P u a10) (h11 : WC P u a11) (h12 : WC P u a12) : ∃ e : En, [a0, a1, a2, a3, a4, a5, a6, a7, a8, a9, a10, a11, a12] = enC e ∧ e.Ok := by
  obtain ⟨x0, q0, rfl⟩ := u64_of' hu h0
  obtain ⟨x1, rfl⟩ := u8_of hb h1
  obtain ⟨x2, rfl⟩ := u8_of hb h2
  obtain ⟨x3, q3, rfl⟩ := u64_of' hu h3
  obtain ⟨x4, q4, rfl⟩ := u64_of' hu h4
  obtain ⟨f, hf⟩ := num_of hu h5 h6 h7 h8
  obtain ⟨g, hg⟩ := num_of hu h9 h10 h11 h12
  simp only [numA, List.cons.injEq, and_true] at hf hg
  obtain ⟨rfl, rfl, rfl, rfl⟩ := hf
  obtain ⟨rfl, rfl, rfl, rfl⟩ := hg
  exact ⟨⟨x0, x1, x2, x3, x4, f, g⟩, rfl, q0, q3, q4⟩

theorem en_arg {P : Program} {n : Nat} {t u b : TypeId} {H : Type} {enc : TypeId × Value → H} {W : World} {spare : Nat → Bool} {cs : Array Value} {d : DataW H} {ps : List MemPlace} (hl : leaves P n t = some [u, b, b, u, u, u, u, u, u, u, u, u, u])
    (hu : P.underlying u = some (.int .u64)) (hb : P.underlying b = some (.int .u8)) (h : DataW.Trod enc P W 0 spare true t (.agg cs) d ps) : ∃ e : En, e.Ok ∧ AVR (atFirst W) W (.agg cs) (.agg (enC e)) := by
  obtain ⟨l, h1, h2, h3, h4⟩ := open_arg hl h
  have hc : Value.cells (.agg cs) = cs := rfl
  rw [hc] at h2 h3
  match l, h1, h2, h3, h4 with
  | [a0, a1, a2, a3, a4, a5, a6, a7, a8, a9, a10, a11, a12], _, h2, h3, h4 =>
    obtain ⟨e, he, ho⟩ := en_cells hu hb (h4 0 a0 _ rfl rfl) (h4 1 a1 _ rfl rfl) (h4 2 a2 _ rfl rfl) (h4 3 a3 _ rfl rfl) (h4 4 a4 _ rfl rfl) (h4 5 a5 _ rfl rfl) (h4 6 a6 _ rfl rfl) (h4 7 a7 _ rfl rfl) (h4 8 a8 _ rfl rfl) (h4 9 a9 _ rfl rfl) (h4 10 a10 _ rfl rfl) (h4 11 a11 _ rfl rfl) (h4 12 a12 _ rfl rfl)
    rw [he] at h2 h3
    exact ⟨e, ho, .agg h2 h3⟩

theorem hp_cells {P : Program} {u b : TypeId} {a0 a1 a2 a3 a4 a5 a6 a7 a8 a9 a10 a11 a12 a13 : AV} (hu : P.underlying u = some (.int .u64)) (hb : P.underlying b = some (.int .u8)) (h0 : WC P u a0) (h1 : WC P b a1) (h2 : WC P b a2) (h3 : WC P b a3) (h4 : WC P u a4) (h5 : WC P u a5) (h6 : WC P u a6) (h7 : WC P u a7) (h8 : WC P u a8) (h9 : WC P u a9) (h10 : WC P u a10) (h11 : WC P u a11) (h12 : WC P u a12) (h13 : WC P u a13) : ∃ e : Hp, [a0, a1, a2, a3, a4, a5, a6, a7, a8, a9, a10, a11, a12, a13] = hpC e ∧ e.Ok := by
  obtain ⟨x0, q0, rfl⟩ := u64_of' hu h0
  obtain ⟨x1, rfl⟩ := u8_of hb h1
  obtain ⟨x2, rfl⟩ := u8_of hb h2
  obtain ⟨x3, rfl⟩ := u8_of hb h3
  obtain ⟨x4, q4, rfl⟩ := u64_of' hu h4
  obtain ⟨x5, q5, rfl⟩ := u64_of' hu h5
  obtain ⟨f, hf⟩ := num_of hu h6 h7 h8 h9
  obtain ⟨g, hg⟩ := num_of hu h10 h11 h12 h13
  simp only [numA, List.cons.injEq, and_true] at hf hg
  obtain ⟨rfl, rfl, rfl, rfl⟩ := hf
  obtain ⟨rfl, rfl, rfl, rfl⟩ := hg
  exact ⟨⟨x0, x1, x2, x3, x4, x5, f, g⟩, rfl, q0, q4, q5⟩

theorem hp_arg {P : Program} {n : Nat} {t u b : TypeId} {H : Type} {enc : TypeId × Value → H} {W : World} {spare : Nat → Bool} {cs : Array Value} {d : DataW H} {ps : List MemPlace} (hl : leaves P n t = some [u, b, b, b, u, u, u, u, u, u, u, u, u, u])
    (hu : P.underlying u = some (.int .u64)) (hb : P.underlying b = some (.int .u8)) (h : DataW.Trod enc P W 0 spare true t (.agg cs) d ps) : ∃ e : Hp, e.Ok ∧ AVR (atFirst W) W (.agg cs) (.agg (hpC e)) := by
  obtain ⟨l, h1, h2, h3, h4⟩ := open_arg hl h
  have hc : Value.cells (.agg cs) = cs := rfl
  rw [hc] at h2 h3
  match l, h1, h2, h3, h4 with
  | [a0, a1, a2, a3, a4, a5, a6, a7, a8, a9, a10, a11, a12, a13], _, h2, h3, h4 =>
    obtain ⟨e, he, ho⟩ := hp_cells hu hb (h4 0 a0 _ rfl rfl) (h4 1 a1 _ rfl rfl) (h4 2 a2 _ rfl rfl) (h4 3 a3 _ rfl rfl) (h4 4 a4 _ rfl rfl) (h4 5 a5 _ rfl rfl) (h4 6 a6 _ rfl rfl) (h4 7 a7 _ rfl rfl) (h4 8 a8 _ rfl rfl) (h4 9 a9 _ rfl rfl) (h4 10 a10 _ rfl rfl) (h4 11 a11 _ rfl rfl) (h4 12 a12 _ rfl rfl) (h4 13 a13 _ rfl rfl)
    rw [he] at h2 h3
    exact ⟨e, ho, .agg h2 h3⟩

structure AH where
  f : UInt8
  e : En
  h : Hp
def AH.Ok (a : AH) : Prop := a.e.Ok ∧ a.h.Ok
end Go.Proofs.Ytlkajgjaidedkaa
