import Derived.Test.YtlkajgjaidedkaaZ7
import Derived.Test.YtlkajgjaidedkaaZ14
/-
  Entries and hops: the store and the document beside one another; the example; of no store.
-/
namespace Go.Proofs.Ytlkajgjaidedkaa
set_option linter.unnecessarySimpa false
set_option maxRecDepth 100000
open Go Go.Vm
set_option linter.unusedSimpArgs false
set_option linter.unusedVariables false
attribute [local simp] evalL wantedA isCall opA evalA evalAll evalsA evalOpt ofValue ofCell plain binA_eql_pn binA_neq_pn binA_gtr binA_lss binA_geq binA_leq binA_add binA_sub binA_eql binA_neq binA_orI binA_shl binA_shr binA_mul binA_quo binA_rem binA_agg_eql binA_agg_neq convA_int unA_not fieldAddrA loadA partA pickA_true pickA_false pickA_bb lenA builtinA storeA splice AV.cells AV.isCell sliceA boundA intA callOf indexAddrA newObjA buildA fillA zeroA ofCells buildSliceA indexA fieldA set_appN get_appN take_appN List.getElem?_cons_zero List.getElem?_cons_succ get_sa0 get_sa1 get_sa2 get_sa3 set_sa0 set_sa1 set_sa2 set_sa3 sliceRowA binA_eqn binA_neqn drop_mr

structure HopS (s : Sto) (W : Wd) (n : Nat) : Prop where
  ok : s.Ok n
  le : Ln s.l 101 (W.E.map itE) W.a
  lh : Ln s.l 104 (W.H.map itH) W.b
  oe : ∀ e ∈ W.E, e.Ok
  oh : ∀ e ∈ W.H, e.Ok
  ne : W.E.length ≤ n
  nh : W.H.length ≤ n
  na : W.a ≤ n
  nb : W.b ≤ n
def wd0 : Wd := ⟨[], [], 0, 0⟩
theorem HopS.nil : HopS newSg.s wd0 0 := ⟨newSg_ok, Ln.nil 101, Ln.nil 104, fun e h => by simp [wd0] at h, fun e h => by simp [wd0] at h, Nat.le_refl _, Nat.le_refl _, Nat.le_refl _, Nat.le_refl _⟩
theorem srtG_of {α : Type} {it : α → It} {l : List α} (h : (l.map it).Pairwise fun x y => x.d < y.d ∨ x.d = y.d ∧ x.n < y.n) : SrtG it l := List.pairwise_map.1 h
theorem num_lt {α : Type} {it : α → It} {l : List α} {L : List Pr} {k : UInt8} {c : Nat} (h : Ln L k (l.map it) c) : ∀ y ∈ l, (it y).n < c + 1 := fun y hy => by have := (h.num _ (List.mem_map_of_mem hy)).2; omega
def leaveW (W : Wd) (e : En) : Wd := { W with E := insG itE W.E { e with n := W.a + 1 }, a := W.a + 1 }
def jumpW (W : Wd) (e : Hp) : Wd := { W with H := insG itH W.H { e with n := W.b + 1 }, b := W.b + 1 }
theorem HopS.leave {s : Sto} {W : Wd} {n : Nat} (h : HopS s W n) (hn : n ≤ 1000) {e : En} (he : e.Ok) : HopS (addL s 101 e.d (encE e) W.a) (leaveW W e) (n + 2) := by
  have hna := h.na
  have h1 := h.le.add h.ok.srt (p := encE e) he.2.2 (by omega : W.a + 1 < 2 ^ 64)
  have h2 : setI (W.E.map itE) e.d (W.a + 1) (some (encE e)) = (insG itE W.E { e with n := W.a + 1 }).map itE := insG_map itE (x := { e with n := W.a + 1 }) (num_lt h.le)
  rw [h2] at h1
  have h80 := encE_len e
  refine ⟨addL_ok h.ok (by omega), h1, h.lh.add' h.ok.srt (by decide), fun x hx => ?_, h.oh, ?_, Nat.le_succ_of_le (Nat.le_succ_of_le h.nh), Nat.succ_le_succ (Nat.le_succ_of_le h.na), Nat.le_succ_of_le (Nat.le_succ_of_le h.nb)⟩
  · rcases insG_mem itE hx with rfl | hx
    · exact ⟨by show W.a + 1 < 2 ^ 64; omega, he.2⟩
    · exact h.oe x hx
  · show (insG itE W.E _).length ≤ _
    rw [insG_len]; have := h.ne; omega
theorem HopS.jump {s : Sto} {W : Wd} {n : Nat} (h : HopS s W n) (hn : n ≤ 1000) {e : Hp} (he : e.Ok) : HopS (addL s 104 e.d (encH e) W.b) (jumpW W e) (n + 2) := by
  have hnb := h.nb
  have h1 := h.lh.add h.ok.srt (p := encH e) he.2.2 (by omega : W.b + 1 < 2 ^ 64)
  have h2 : setI (W.H.map itH) e.d (W.b + 1) (some (encH e)) = (insG itH W.H { e with n := W.b + 1 }).map itH := insG_map itH (x := { e with n := W.b + 1 }) (num_lt h.lh)
  rw [h2] at h1
  have h80 := encH_len e
  refine ⟨addL_ok h.ok (by omega), h.le.add' h.ok.srt (by decide), h1, h.oe, fun x hx => ?_, Nat.le_succ_of_le (Nat.le_succ_of_le h.ne), ?_, Nat.le_succ_of_le (Nat.le_succ_of_le h.na), Nat.succ_le_succ (Nat.le_succ_of_le h.nb)⟩
  · rcases insG_mem itH hx with rfl | hx
    · exact ⟨by show W.b + 1 < 2 ^ 64; omega, he.2⟩
    · exact h.oh x hx
  · show (insG itH W.H _).length ≤ _
    rw [insG_len]; have := h.nh; omega
theorem HopS.dropE {s : Sto} {W : Wd} {n : Nat} (h : HopS s W n) {e : En} (he : e.Ok) : HopS (doS s (keyW 101 e.d e.n) none) { W with E := remG itE W.E e.d e.n } (n + 1) := by
  have h1 : Ln (setL s.l (keyW 101 e.d e.n) none) 101 (setI (W.E.map itE) e.d e.n none) W.a := h.le.set h.ok.srt he.2.2 he.1 (fun q => (q rfl).elim)
  rw [remG_map itE (srtG_of (h.le.sorted h.ok.srt))] at h1
  exact ⟨rem_ok h.ok, h1, h.lh.other h.ok.srt (by decide), fun x hx => h.oe x (List.mem_filter.1 hx).1, h.oh, Nat.le_succ_of_le (Nat.le_trans (remG_le itE W.E e.d e.n) h.ne), Nat.le_succ_of_le h.nh, Nat.le_succ_of_le h.na, Nat.le_succ_of_le h.nb⟩
theorem hleave_ok {σ : St} {o k n : Nat} {G : Sg} {W : Wd} {e : En} (h : HasS σ o k G) (hi : HopS G.s W n) (hn : n ≤ 1000) (he : e.Ok) :
    CallsA Try.prog 55 [.ptr o 0, .agg (enC e)] σ (fun av σ' => ∃ G', HopS G'.s (leaveW W e) (n + 2) ∧ av = .v (.int .u64 (W.a + 1 : Nat)) ∧ σ' = putS σ o k G') :=
  callsA_mono (leaveE_ok h hi.ok (by omega) (by have := hi.na; omega) hi.le.ct he) (fun av σ' ⟨G', e1, e2, e3⟩ => ⟨G', by rw [e1]; exact hi.leave hn he, e2, e3⟩)
theorem hjump_ok {σ : St} {o k n : Nat} {G : Sg} {W : Wd} {e : Hp} (h : HasS σ o k G) (hi : HopS G.s W n) (hn : n ≤ 1000) (he : e.Ok) :
    CallsA Try.prog 56 [.ptr o 0, .agg (hpC e)] σ (fun av σ' => ∃ G', HopS G'.s (jumpW W e) (n + 2) ∧ av = .v (.int .u64 (W.b + 1 : Nat)) ∧ σ' = putS σ o k G') :=
  callsA_mono (leaveH_ok h hi.ok (by omega) (by have := hi.nb; omega) hi.lh.ct he) (fun av σ' ⟨G', e1, e2, e3⟩ => ⟨G', by rw [e1]; exact hi.jump hn he, e2, e3⟩)
theorem hdropE_ok {σ : St} {o k n : Nat} {G : Sg} {W : Wd} {e : En} (h : HasS σ o k G) (hi : HopS G.s W n) (hn : n ≤ 1000) (he : e.Ok) :
    CallsA Try.prog 71 [.ptr o 0, .agg (enC e)] σ (fun av σ' => ∃ G', HopS G'.s { W with E := remG itE W.E e.d e.n } (n + 1) ∧ av = .v (.bool (W.E.any (isG itE e.d e.n))) ∧ σ' = putS σ o k G') :=
  callsA_mono (dropE_ok h hi.ok (by omega) he) (fun av σ' ⟨G', e1, e2, e3⟩ => ⟨G', by rw [e1]; exact hi.dropE he, by rw [e2, hi.le.get he.2.2 he.1, any_map], e3⟩)
theorem hallE_ok {σ : St} {o k n : Nat} {G : Sg} {W : Wd} (h : HasS σ o k G) (hi : HopS G.s W n) (hn : n ≤ 1000) :
    CallsA Try.prog 57 [.ptr o 0] σ (fun av σ' => av = .sl 13 (ensC W.E) W.E.length .shut ∧ σ = σ') := allE_ok h hi.ok (by omega) (hi.le.all hi.ok.srt) hi.oe
theorem hallH_ok {σ : St} {o k n : Nat} {G : Sg} {W : Wd} (h : HasS σ o k G) (hi : HopS G.s W n) (hn : n ≤ 1000) :
    CallsA Try.prog 58 [.ptr o 0] σ (fun av σ' => av = .sl 14 (hpsC W.H) W.H.length .shut ∧ σ = σ') := allH_ok h hi.ok (by omega) (hi.lh.all hi.ok.srt) hi.oh
theorem hleaving_ok {σ : St} {o k n : Nat} {G : Sg} {W : Wd} {ow vl : UInt8} (h : HasS σ o k G) (hi : HopS G.s W n) (hn : n ≤ 1000) :
    CallsA Try.prog 64 [.ptr o 0, .v (.int .u8 ow.toNat), .v (.int .u8 vl.toNat)] σ (fun av σ' => av = .v (.int .i64 ((W.E.filter fun e => decide (e.o = ow ∧ e.v = vl)).length : Nat)) ∧ σ = σ') := leaving_ok h hi.ok (by omega) (hi.le.all hi.ok.srt) hi.oe (by have := hi.ne; omega)
def en0 (n o d : Nat) : En := ⟨n, UInt8.ofNat o, 0, 0, d, Num.zero, Num.zero⟩
def hp0 (d : Nat) : Hp := ⟨0, 0, 0, 0, 0, d, Num.zero, Num.zero⟩
set_option maxHeartbeats 1600000 in
attribute [local simp] undefA List.getElem?_cons_zero List.getElem?_cons_succ in
theorem leaves_ok {σ : St} : CallsA Try.prog 59 [] σ (fun av σ' => av = .v (.bool true) ∧ σ = σ') := by
  refine callsA_gcS ?_ rfl
  have hnew : CallsA Try.prog 22 [] σ (fun av σ' => av = .ptr σ.objs.length 0 ∧ σ' = St1 σ newSg) := new_st_ok
  have kE : ∀ n o d : Nat, n < 10 → d < 10 → (en0 n o d).Ok := fun n o d h1 h2 => ⟨by show n < _; omega, by show 0 < _; omega, by show d < _; omega⟩
  have kH : ∀ d : Nat, d < 10 → (hp0 d).Ok := fun d h2 => ⟨by show 0 < _; omega, by show 0 < _; omega, by show d < _; omega⟩
  have z0 : (AV.v (.int .u64 0)) = .v (.int .u64 ((0 : Nat) : Int)) := rfl
  have eE : ∀ n o d : Nat, enC (en0 n o d) = [.v (.int .u64 n), .v (.int .u8 ((UInt8.ofNat o).toNat : Nat)), .v (.int .u8 0), .v (.int .u64 0), .v (.int .u64 d), .v (.int .u64 0), .v (.int .u64 0), .v (.int .u64 0), .v (.int .u64 0), .v (.int .u64 0), .v (.int .u64 0), .v (.int .u64 0), .v (.int .u64 0)] := fun n o d => by simp [enC, en0, Num.zero, limb]
  have eH : ∀ d : Nat, hpC (hp0 d) = [.v (.int .u64 0), .v (.int .u8 0), .v (.int .u8 0), .v (.int .u8 0), .v (.int .u64 0), .v (.int .u64 d), .v (.int .u64 0), .v (.int .u64 0), .v (.int .u64 0), .v (.int .u64 0), .v (.int .u64 0), .v (.int .u64 0), .v (.int .u64 0), .v (.int .u64 0)] := fun d => by simp [hpC, hp0, Num.zero, limb]
  have c1 : CallsA Try.prog 55 [.ptr σ.objs.length 0, .agg (enC (en0 0 0 3))] (St1 σ newSg) (fun av σ' => ∃ G', HopS G'.s ⟨[en0 1 0 3], [], 1, 0⟩ 2 ∧ av = .v (.int .u64 1) ∧ σ' = St1 σ G') :=
    callsA_mono (hleave_ok (St1.has σ newSg) HopS.nil (by omega) (kE 0 0 3 (by omega) (by omega))) (fun av σ' ⟨G', e1, e2, e3⟩ => ⟨G', e1, e2, by rw [e3, St1.put]⟩)
  have c2 : ∀ G, HopS G.s ⟨[en0 1 0 3], [], 1, 0⟩ 2 → CallsA Try.prog 55 [.ptr σ.objs.length 0, .agg (enC (en0 0 5 3))] (St1 σ G) (fun av σ' => ∃ G', HopS G'.s ⟨[en0 1 0 3, en0 2 5 3], [], 2, 0⟩ 4 ∧ av = .v (.int .u64 2) ∧ σ' = St1 σ G') := fun G hG =>
    callsA_mono (hleave_ok (St1.has σ G) hG (by omega) (kE 0 5 3 (by omega) (by omega))) (fun av σ' ⟨G', e1, e2, e3⟩ => ⟨G', e1, e2, by rw [e3, St1.put]⟩)
  have c3 : ∀ G, HopS G.s ⟨[en0 1 0 3, en0 2 5 3], [], 2, 0⟩ 4 → CallsA Try.prog 71 [.ptr σ.objs.length 0, .agg (enC (en0 1 0 3))] (St1 σ G) (fun av σ' => ∃ G', HopS G'.s ⟨[en0 2 5 3], [], 2, 0⟩ 5 ∧ av = .v (.bool true) ∧ σ' = St1 σ G') := fun G hG =>
    callsA_mono (hdropE_ok (St1.has σ G) hG (by omega) (kE 1 0 3 (by omega) (by omega))) (fun av σ' ⟨G', e1, e2, e3⟩ => ⟨G', e1, e2, by rw [e3, St1.put]⟩)
  have c4 : ∀ G, HopS G.s ⟨[en0 2 5 3], [], 2, 0⟩ 5 → CallsA Try.prog 57 [.ptr σ.objs.length 0] (St1 σ G) (fun av σ' => av = .sl 13 (enC (en0 2 5 3)) 1 .shut ∧ St1 σ G = σ') := fun G hG => by
    have := hallE_ok (St1.has σ G) hG (by omega)
    rw [show ensC [en0 2 5 3] = enC (en0 2 5 3) by simp [ensC]] at this; exact this
  have c5 : ∀ G, HopS G.s ⟨[en0 2 5 3], [], 2, 0⟩ 5 → CallsA Try.prog 64 [.ptr σ.objs.length 0, .v (.int .u8 5), .v (.int .u8 0)] (St1 σ G) (fun av σ' => av = .v (.int .i64 1) ∧ St1 σ G = σ') := fun G hG =>
    hleaving_ok (ow := 5) (vl := 0) (St1.has σ G) hG (by omega)
  have c6 : ∀ G, HopS G.s ⟨[en0 2 5 3], [], 2, 0⟩ 5 → CallsA Try.prog 56 [.ptr σ.objs.length 0, .agg (hpC (hp0 9))] (St1 σ G) (fun av σ' => ∃ G', av = .v (.int .u64 1) ∧ σ' = St1 σ G') := fun G hG =>
    callsA_mono (hjump_ok (St1.has σ G) hG (by omega) (kH 9 (by omega))) (fun av σ' ⟨G', e1, e2, e3⟩ => ⟨G', e2, by rw [e3, St1.put]⟩)
  simp only [eE, eH] at c1 c2 c3 c4 c6
  have F := True.intro
  refine callsA_body Try.func59 rfl rfl rfl ?_; refine sr fun _ hJ2 => ?_; refine hJ2 _ _ ?_; refine sr fun _ hJ4 => ?_; refine ca (c := hnew) (k := ?_); rintro _ _ ⟨rfl, rfl⟩; (repeat (first | simp [F] | simp (disch := omega) only [wC, if_pos, if_neg])); refine hJ4 _ _ ?_; refine sq fun K5 hK5 => ?_; refine sr fun _ hJ7 => ?_; refine ca (c := c1) (k := ?_); rintro _ _ ⟨G1, e1, rfl, rfl⟩; (repeat (first | simp [F] | simp (disch := omega) only [wC, if_pos, if_neg])); (iterate 2 refine go2 (k := ?_)); refine ca (c := c2 G1 e1) (k := ?_); rintro _ _ ⟨G2, e2, rfl, rfl⟩; (repeat (first | simp [F] | simp (disch := omega) only [wC, if_pos, if_neg])); (iterate 3 refine go2 (k := ?_)); refine ca (c := c3 G2 e2) (k := ?_); rintro _ _ ⟨G3, e3, rfl, rfl⟩; (repeat (first | simp [F] | simp (disch := omega) only [wC, if_pos, if_neg])); refine go2 (k := ?_); refine hJ7 _ _ ?_; refine cf ?_; refine run_skip ?_; refine hK5 _ _ ?_; refine sr fun _ hJ9 => ?_; refine ca (c := c4 G3 e3) (k := ?_); rintro _ _ ⟨rfl, rfl⟩; (repeat (first | simp [F] | simp (disch := omega) only [wC, if_pos, if_neg])); refine hJ9 _ _ ?_; refine sr fun _ hJ11 => ?_; (iterate 11 refine go2 (k := ?_)); refine ca (c := c5 G3 e3) (k := ?_); rintro _ _ ⟨rfl, rfl⟩; (repeat (first | simp [F] | simp (disch := omega) only [wC, if_pos, if_neg])); (iterate 3 refine go2 (k := ?_)); refine ca (c := c6 G3 e3) (k := ?_); rintro _ _ ⟨G4, rfl, rfl⟩; (repeat (first | simp [F] | simp (disch := omega) only [wC, if_pos, if_neg])); refine go2 (k := ?_); refine hJ11 _ _ ?_; refine ra ?_; exact gcr

set_option maxHeartbeats 1600000 in
attribute [local simp] undefA List.getElem?_cons_zero List.getElem?_cons_succ in
theorem hopThere_ok {σ : St} {e : En} {h : Hp} (he : e.Ok) (hh : h.Ok) :
    CallsA Try.prog 16 [.agg (enC e), .agg (hpC h)] σ (fun av σ' => av = .v (.bool true) ∧ σ = σ') := by
  refine callsA_gcS ?_ rfl
  obtain ⟨τ, hτ⟩ : ∃ τ : St, τ = { σ with objs := σ.objs ++ [enC e, hpC h] } := ⟨_, rfl⟩
  have hτl : τ.objs.length = σ.objs.length + 2 := by rw [hτ]; simp
  have hnew : CallsA Try.prog 22 [] τ (fun av σ' => av = .ptr τ.objs.length 0 ∧ σ' = St1 τ newSg) := new_st_ok
  have c1 : CallsA Try.prog 55 [.ptr τ.objs.length 0, .agg (enC e)] (St1 τ newSg) (fun av σ' => ∃ G', HopS G'.s ⟨[{ e with n := 1 }], [], 1, 0⟩ 2 ∧ av = .v (.int .u64 1) ∧ σ' = St1 τ G') :=
    callsA_mono (hleave_ok (St1.has τ newSg) HopS.nil (by omega) he) (fun av σ' ⟨G', e1, e2, e3⟩ => ⟨G', e1, e2, by rw [e3, St1.put]⟩)
  have c2 : ∀ G, HopS G.s ⟨[{ e with n := 1 }], [], 1, 0⟩ 2 → CallsA Try.prog 56 [.ptr τ.objs.length 0, .agg (hpC h)] (St1 τ G) (fun av σ' => ∃ G', HopS G'.s ⟨[{ e with n := 1 }], [{ h with n := 1 }], 1, 1⟩ 4 ∧ av = .v (.int .u64 1) ∧ σ' = St1 τ G') := fun G hG =>
    callsA_mono (hjump_ok (St1.has τ G) hG (by omega) hh) (fun av σ' ⟨G', e1, e2, e3⟩ => ⟨G', e1, e2, by rw [e3, St1.put]⟩)
  have c3 : ∀ G, HopS G.s ⟨[{ e with n := 1 }], [{ h with n := 1 }], 1, 1⟩ 4 → CallsA Try.prog 57 [.ptr τ.objs.length 0] (St1 τ G) (fun av σ' => av = .sl 13 (enC { e with n := 1 }) 1 .shut ∧ St1 τ G = σ') := fun G hG => by
    have := hallE_ok (St1.has τ G) hG (by omega)
    rw [show ensC [{ e with n := 1 }] = enC { e with n := 1 } by simp [ensC]] at this; exact this
  have c4 : ∀ G, HopS G.s ⟨[{ e with n := 1 }], [{ h with n := 1 }], 1, 1⟩ 4 → CallsA Try.prog 58 [.ptr τ.objs.length 0] (St1 τ G) (fun av σ' => av = .sl 14 (hpC { h with n := 1 }) 1 .shut ∧ St1 τ G = σ') := fun G hG => by
    have := hallH_ok (St1.has τ G) hG (by omega)
    rw [show hpsC [{ h with n := 1 }] = hpC { h with n := 1 } by simp [hpsC]] at this; exact this
  have g1 : ∀ G, (St1 τ G).objs[σ.objs.length]? = some (enC e) := fun G => by simp [St1, hτ]
  have g2 : ∀ G, (St1 τ G).objs[σ.objs.length + 1]? = some (hpC h) := fun G => by simp [St1, hτ]
  obtain ⟨Q, hQ⟩ : ∃ Q, Q = enC e := ⟨_, rfl⟩
  obtain ⟨Y, hY⟩ : ∃ Y, Y = hpC h := ⟨_, rfl⟩
  obtain ⟨Q1, hQ1⟩ : ∃ Q, Q = enC { e with n := 1 } := ⟨_, rfl⟩
  obtain ⟨Y1, hY1⟩ : ∃ Y, Y = hpC { h with n := 1 } := ⟨_, rfl⟩
  have hQs : AV.v (.int .u64 1) :: Q.tail = Q1 := by rw [hQ, hQ1]; rfl
  have hYs : AV.v (.int .u64 1) :: Y.tail = Y1 := by rw [hY, hY1]; rfl
  have hQl : Q.length = 13 := by rw [hQ]; rfl
  have hQt : List.take 13 Q = Q := by subst hQ; rfl
  have hYl : Y.length = 14 := by rw [hY]; rfl
  have hYt : List.take 14 Y = Y := by subst hY; rfl
  have hQ1l : Q1.length = 13 := by rw [hQ1]; rfl
  have hQ1t : List.take 13 Q1 = Q1 := by subst hQ1; rfl
  have hY1l : Y1.length = 14 := by rw [hY1]; rfl
  have hY1t : List.take 14 Y1 = Y1 := by subst hY1; rfl
  have hQQ : cellsEqA Q1 Q1 = true := by subst hQ1; simp [enC, cellsEqA]
  have hYY : cellsEqA Y1 Y1 = true := by subst hY1; simp [hpC, cellsEqA]
  have hfQ : fitsK [some IntKind.u64, some IntKind.u8, some IntKind.u8, some IntKind.u64, some IntKind.u64, some IntKind.u64, some IntKind.u64, some IntKind.u64, some IntKind.u64, some IntKind.u64, some IntKind.u64, some IntKind.u64, some IntKind.u64] Q1 = true := by subst hQ1; rfl
  have hfY : fitsK [some IntKind.u64, some IntKind.u8, some IntKind.u8, some IntKind.u8, some IntKind.u64, some IntKind.u64, some IntKind.u64, some IntKind.u64, some IntKind.u64, some IntKind.u64, some IntKind.u64, some IntKind.u64, some IntKind.u64, some IntKind.u64] Y1 = true := by subst hY1; rfl
  have hQc : (∀ x, x ∈ Q1 → x.isCell = true) = True := eq_true (by rw [hQ1]; exact cellE _)
  have hYc : (∀ x, x ∈ Y1 → x.isCell = true) = True := eq_true (by rw [hY1]; exact cellH _)
  simp only [AV.isCell] at hQc hYc
  rw [← hQ, ← hY] at hτ
  simp only [← hQ] at c1 g1
  simp only [← hY] at c2 g2
  simp only [← hQ1] at c3
  simp only [← hY1] at c4
  rw [← hQ, ← hY]
  have g3 : ∀ (G : Sg) x, ((St1 τ G).objs.set σ.objs.length x)[σ.objs.length + 1]? = some Y := fun G x => by rw [List.getElem?_set_ne (by omega)]; exact g2 G
  have g4 : ∀ (G : Sg) x y, (((St1 τ G).objs.set σ.objs.length x).set (σ.objs.length + 1) y)[σ.objs.length]? = some x := fun G x y => by rw [List.getElem?_set_ne (by omega)]; exact set_self_of (g1 G) x
  have g5 : ∀ (G : Sg) x y, (((St1 τ G).objs.set σ.objs.length x).set (σ.objs.length + 1) y)[σ.objs.length + 1]? = some y := fun G x y => set_self_of (g3 G x) y
  have hbk : { σ with objs := σ.objs ++ [Q, Y] } = τ := hτ.symm
  have hfin : ∀ (G : Sg), ∃ l r, { St1 τ G with objs := ((St1 τ G).objs.set σ.objs.length Q1).set (σ.objs.length + 1) Y1 } = { σ with objs := σ.objs ++ l, rows := σ.rows ++ r } := fun G => ⟨[Q1, Y1, stC τ.rows.length G], [stR1 G, stR2 G, stR3 G], by simp [St1, hτ]⟩
  have F := And.intro hQl (And.intro hQt (And.intro hYl (And.intro hYt (And.intro hQ1l (And.intro hQ1t (And.intro hY1l (And.intro hY1t (And.intro hQQ (And.intro hYY (And.intro hfQ (And.intro hfY (And.intro hQc (And.intro hYc (And.intro hQs (And.intro hYs (And.intro g1 (And.intro g2 (And.intro g3 (And.intro g4 (And.intro g5 (True.intro)))))))))))))))))))))
  refine callsA_body Try.func16 rfl rfl rfl ?_; refine sr fun _ hJ2 => ?_; refine hJ2 _ _ ?_; refine sq fun K3 hK3 => ?_
  rw [hbk]
  refine rg' (h := fun J4 hJ4 => ?_); refine ca (c := hnew) (k := ?_); rintro _ _ ⟨rfl, rfl⟩; (repeat (first | simp [F] | simp (disch := omega) only [wC, if_pos, if_neg])); refine hJ4 _ _ ?_; refine hK3 _ _ ?_; refine sq fun K5 hK5 => ?_
  refine run_draw (by kernel_rfl) fun J6 hJ6 => ?_
  refine rp2 0 (k := ?_); refine rp2 1 (k := ?_); refine rp2 3 (k := ?_); refine rp2 4 (k := ?_); refine dc 2 rfl (c := c1) (k := ?_); rintro _ _ ⟨G1, e1, rfl, rfl⟩
  refine ⟨by first | exact fun _ _ h => h | (refine later_list [4, 3] (by kernel_rfl) (List.forall_mem_cons.2 ⟨fun _ => fact2 rfl rfl ?_, List.forall_mem_cons.2 ⟨fun _ => fact2 rfl rfl ?_, fun _ h => absurd h List.not_mem_nil⟩⟩) <;> constructor <;> first | rfl | (simp [F]; done)), ?_⟩
  (repeat (first | simp [F] | simp (disch := omega) only [wC, if_pos, if_neg])); refine dc 5 rfl (c := c2 G1 e1) (k := ?_); rintro _ _ ⟨G2, e2, rfl, rfl⟩; refine ⟨ln, ?_⟩; (repeat (first | simp [F] | simp (disch := omega) only [wC, if_pos, if_neg])); refine rp2 6 (k := ?_); refine rp2 7 (k := ?_); refine dd ?_; refine hJ6 _ _ ?_; refine hK5 _ _ ?_; refine sr fun _ hJ8 => ?_; refine ca (c := c3 G2 e2) (k := ?_); rintro _ _ ⟨rfl, rfl⟩; (repeat (first | simp [F] | simp (disch := omega) only [wC, if_pos, if_neg])); refine ca (c := c4 G2 e2) (k := ?_); rintro _ _ ⟨rfl, rfl⟩; (repeat (first | simp [F] | simp (disch := omega) only [wC, if_pos, if_neg])); refine hJ8 _ _ ?_; refine sr fun _ hJ10 => ?_; refine hJ10 _ _ ?_; refine sq fun K11 hK11 => ?_
  refine run_draw (by kernel_rfl) fun J12 hJ12 => ?_
  refine dc 0 rfl (c := leaves_ok) (k := ?_); rintro _ _ ⟨rfl, rfl⟩; refine ⟨ln, ?_⟩; (repeat (first | simp [F] | simp (disch := omega) only [wC, if_pos, if_neg])); refine rp2 1 (k := ?_); refine rp2 2 (k := ?_); refine rp2 3 (k := ?_); refine rp2 4 (k := ?_); refine rp2 5 (k := ?_); refine rp2 6 (k := ?_); refine rp2 7 (k := ?_); refine rp2 8 (k := ?_); refine rp2 9 (k := ?_); refine rp2 10 (k := ?_); refine rp2 11 (k := ?_); refine rp2 12 (k := ?_); refine rp2 13 (k := ?_); refine rp2 14 (k := ?_); refine rp2 15 (k := ?_); refine rp2 16 (k := ?_); refine rp2 17 (k := ?_); refine rp2 18 (k := ?_); refine rp2 19 (k := ?_); refine rp2 20 (k := ?_); refine rp2 21 (k := ?_); refine rp2 22 (k := ?_); refine rp2 23 (k := ?_); refine rp2 24 (k := ?_); refine rp2 25 (k := ?_); refine rp2 26 (k := ?_); refine rp2 27 (k := ?_); refine rp2 28 (k := ?_); refine rp2 29 (k := ?_); refine rp2 30 (k := ?_); refine rp2 31 (k := ?_); refine rp2 32 (k := ?_); refine rp2 33 (k := ?_); refine dd ?_; refine hJ12 _ _ ?_; refine hK11 _ _ ?_; refine ra ?_
  obtain ⟨lf, rf, hf⟩ := hfin G2
  rw [hf]
  exact gcr
theorem en_cells {P : Program} {u b : TypeId} {a0 a1 a2 a3 a4 a5 a6 a7 a8 a9 a10 a11 a12 : AV} (hu : P.underlying u = some (.int .u64)) (hb : P.underlying b = some (.int .u8)) (h0 : WC P u a0) (h1 : WC P b a1) (h2 : WC P b a2) (h3 : WC P u a3) (h4 : WC P u a4) (h5 : WC P u a5) (h6 : WC P u a6) (h7 : WC P u a7) (h8 : WC P u a8) (h9 : WC P u a9) (h10 : WC P u a10) (h11 : WC P u a11) (h12 : WC P u a12) : ∃ e : En, [a0, a1, a2, a3, a4, a5, a6, a7, a8, a9, a10, a11, a12] = enC e ∧ e.Ok := by
  obtain ⟨x0, q0, rfl⟩ := u64_of' hu h0
  obtain ⟨x1, rfl⟩ := u8_of hb h1
  obtain ⟨x2, rfl⟩ := u8_of hb h2
  obtain ⟨x3, q3, rfl⟩ := u64_of' hu h3
  obtain ⟨x4, q4, rfl⟩ := u64_of' hu h4
  obtain ⟨f, hf⟩ := num_of hu h5 h6 h7 h8
  obtain ⟨g, hg⟩ := num_of hu h9 h10 h11 h12
  simp only [numA, List.cons.injEq, and_true] at hf hg
  obtain ⟨rfl, rfl, rfl, rfl⟩ := hf
  obtain ⟨rfl, rfl, rfl, rfl⟩ := hg
  exact ⟨⟨x0, x1, x2, x3, x4, f, g⟩, rfl, q0, q3, q4⟩

theorem en_arg {P : Program} {n : Nat} {t u b : TypeId} {H : Type} {enc : TypeId × Value → H} {W : World} {spare : Nat → Bool} {cs : Array Value} {d : DataW H} {ps : List MemPlace} (hl : leaves P n t = some [u, b, b, u, u, u, u, u, u, u, u, u, u])
    (hu : P.underlying u = some (.int .u64)) (hb : P.underlying b = some (.int .u8)) (h : DataW.Trod enc P W 0 spare true t (.agg cs) d ps) : ∃ e : En, e.Ok ∧ AVR (atFirst W) W (.agg cs) (.agg (enC e)) := by
  obtain ⟨l, h1, h2, h3, h4⟩ := open_arg hl h
  have hc : Value.cells (.agg cs) = cs := rfl
  rw [hc] at h2 h3
  match l, h1, h2, h3, h4 with
  | [a0, a1, a2, a3, a4, a5, a6, a7, a8, a9, a10, a11, a12], _, h2, h3, h4 =>
    obtain ⟨e, he, ho⟩ := en_cells hu hb (h4 0 a0 _ rfl rfl) (h4 1 a1 _ rfl rfl) (h4 2 a2 _ rfl rfl) (h4 3 a3 _ rfl rfl) (h4 4 a4 _ rfl rfl) (h4 5 a5 _ rfl rfl) (h4 6 a6 _ rfl rfl) (h4 7 a7 _ rfl rfl) (h4 8 a8 _ rfl rfl) (h4 9 a9 _ rfl rfl) (h4 10 a10 _ rfl rfl) (h4 11 a11 _ rfl rfl) (h4 12 a12 _ rfl rfl)
    rw [he] at h2 h3
    exact ⟨e, ho, .agg h2 h3⟩

theorem hp_cells {P : Program} {u b : TypeId} {a0 a1 a2 a3 a4 a5 a6 a7 a8 a9 a10 a11 a12 a13 : AV} (hu : P.underlying u = some (.int .u64)) (hb : P.underlying b = some (.int .u8)) (h0 : WC P u a0) (h1 : WC P b a1) (h2 : WC P b a2) (h3 : WC P b a3) (h4 : WC P u a4) (h5 : WC P u a5) (h6 : WC P u a6) (h7 : WC P u a7) (h8 : WC P u a8) (h9 : WC P u a9) (h10 : WC P u a10) (h11 : WC P u a11) (h12 : WC P u a12) (h13 : WC P u a13) : ∃ e : Hp, [a0, a1, a2, a3, a4, a5, a6, a7, a8, a9, a10, a11, a12, a13] = hpC e ∧ e.Ok := by
  obtain ⟨x0, q0, rfl⟩ := u64_of' hu h0
  obtain ⟨x1, rfl⟩ := u8_of hb h1
  obtain ⟨x2, rfl⟩ := u8_of hb h2
  obtain ⟨x3, rfl⟩ := u8_of hb h3
  obtain ⟨x4, q4, rfl⟩ := u64_of' hu h4
  obtain ⟨x5, q5, rfl⟩ := u64_of' hu h5
  obtain ⟨f, hf⟩ := num_of hu h6 h7 h8 h9
  obtain ⟨g, hg⟩ := num_of hu h10 h11 h12 h13
  simp only [numA, List.cons.injEq, and_true] at hf hg
  obtain ⟨rfl, rfl, rfl, rfl⟩ := hf
  obtain ⟨rfl, rfl, rfl, rfl⟩ := hg
  exact ⟨⟨x0, x1, x2, x3, x4, x5, f, g⟩, rfl, q0, q4, q5⟩

theorem hp_arg {P : Program} {n : Nat} {t u b : TypeId} {H : Type} {enc : TypeId × Value → H} {W : World} {spare : Nat → Bool} {cs : Array Value} {d : DataW H} {ps : List MemPlace} (hl : leaves P n t = some [u, b, b, b, u, u, u, u, u, u, u, u, u, u])
    (hu : P.underlying u = some (.int .u64)) (hb : P.underlying b = some (.int .u8)) (h : DataW.Trod enc P W 0 spare true t (.agg cs) d ps) : ∃ e : Hp, e.Ok ∧ AVR (atFirst W) W (.agg cs) (.agg (hpC e)) := by
  obtain ⟨l, h1, h2, h3, h4⟩ := open_arg hl h
  have hc : Value.cells (.agg cs) = cs := rfl
  rw [hc] at h2 h3
  match l, h1, h2, h3, h4 with
  | [a0, a1, a2, a3, a4, a5, a6, a7, a8, a9, a10, a11, a12, a13], _, h2, h3, h4 =>
    obtain ⟨e, he, ho⟩ := hp_cells hu hb (h4 0 a0 _ rfl rfl) (h4 1 a1 _ rfl rfl) (h4 2 a2 _ rfl rfl) (h4 3 a3 _ rfl rfl) (h4 4 a4 _ rfl rfl) (h4 5 a5 _ rfl rfl) (h4 6 a6 _ rfl rfl) (h4 7 a7 _ rfl rfl) (h4 8 a8 _ rfl rfl) (h4 9 a9 _ rfl rfl) (h4 10 a10 _ rfl rfl) (h4 11 a11 _ rfl rfl) (h4 12 a12 _ rfl rfl) (h4 13 a13 _ rfl rfl)
    rw [he] at h2 h3
    exact ⟨e, ho, .agg h2 h3⟩

structure AH where
  f : UInt8
  e : En
  h : Hp
def AH.Ok (a : AH) : Prop := a.e.Ok ∧ a.h.Ok
end Go.Proofs.Ytlkajgjaidedkaa
