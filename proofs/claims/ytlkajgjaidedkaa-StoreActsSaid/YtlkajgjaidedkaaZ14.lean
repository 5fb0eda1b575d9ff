import Derived.Test.YtlkajgjaidedkaaZ7
import Derived.Test.YtlkajgjaidedkaaZ13
import Derived.Test.YtlkajgjaidedkaaZ9
/-
  The law StoreActs.
-/
namespace Go.Proofs.Ytlkajgjaidedkaa
set_option linter.unnecessarySimpa false
set_option maxRecDepth 100000
open Go Go.Vm
set_option linter.unusedSimpArgs false
set_option linter.unusedVariables false
attribute [local simp] evalL wantedA isCall opA evalA evalAll evalsA evalOpt ofValue ofCell plain binA_eql_pn binA_neq_pn binA_gtr binA_lss binA_geq binA_leq binA_add binA_sub binA_eql binA_neq binA_orI binA_shl binA_shr binA_mul binA_quo binA_rem binA_agg_eql binA_agg_neq convA_int unA_not fieldAddrA loadA partA pickA_true pickA_false pickA_bb lenA builtinA storeA splice AV.cells AV.isCell sliceA boundA intA callOf indexAddrA newObjA buildA fillA zeroA ofCells buildSliceA indexA fieldA set_appN get_appN take_appN List.getElem?_cons_zero List.getElem?_cons_succ get_sa0 get_sa1 get_sa2 get_sa3 set_sa0 set_sa1 set_sa2 set_sa3 sliceRowA binA_eqn binA_neqn drop_mr

theorem keysNil_ok {σ : St} {o k n : Nat} {G : Sg} (h : HasS σ o k G) (hG : G.s.Ok n) (hn : n ≤ 1000000) :
    CallsA Try.prog 28 [.ptr o 0, .sl 0 [] 0 .full] σ (fun av σ' => av = .sl 1 (kysC (G.s.l.map (·.k))) G.s.l.length .shut ∧ σ = σ') := by
  have hke := keys_ok (p := []) (t := .full) h hG hn
  rw [keysL_nil, List.length_map] at hke
  exact callsA_wk (.cons (Wk.refl _) (.cons (fun G w x h => by obtain ⟨a, c, rfl, rfl⟩ := sl_empty_full h; exact .sl0 rfl) .nil)) hke

set_option maxHeartbeats 1600000 in
attribute [local simp] undefA List.getElem?_cons_zero List.getElem?_cons_succ in
theorem same2_ok {σ : St} {o k m q n : Nat} {G : Sg} {M : RS} (h : HasS σ o k G) (hr : HasR σ m q M) (hi : R5 G.s M n) (hn : n ≤ 1000000) :
    CallsA Try.prog 27 [.ptr o 0, .ptr m 0] σ (fun av σ' => av = .v (.bool true) ∧ σ = σ') := by
  have hke := keysNil_ok h hi.ok hn
  have hle := len_ok h
  have hde := depth_ok h
  have hge := fun key => get_ok (key := key) (t1 := .shut) h hi.ok hn
  have hl := hi.l
  have hmw := hi.len
  have hs := hi.ok.srt
  have hkv := hi.ok.kv
  have hll := hi.ok.l
  have hmr := hr.o
  obtain ⟨L, hL⟩ : ∃ L, L = G.s.l := ⟨_, rfl⟩
  rw [← hL] at hl
  simp only [← hL, hmw] at hke hle hde hge hs hkv hll
  rw [rmC, ← hl] at hmr
  have hlc := prsC_len L
  have hkc : (kysC (L.map (·.k))).length = L.length := by rw [kysC_len, List.length_map]
  have F := And.intro hmr (And.intro hlc (And.intro hkc (True.intro)))
  refine callsA_body Try.func27 rfl rfl rfl ?_; refine sr fun _ hJ2 => ?_; refine hJ2 _ _ ?_; refine sr fun _ hJ4 => ?_; refine ca (c := hke) (k := ?_); rintro _ _ ⟨rfl, rfl⟩; (repeat (first | simp [F] | simp (disch := omega) only [wC, if_pos, if_neg])); refine hJ4 _ _ ?_; refine sq fun K5 hK5 => ?_; refine sq fun K6 hK6 => ?_
  refine run_draw (by kernel_rfl) fun J7 hJ7 => ?_
  refine rp2 0 (k := ?_); refine rp2 1 (k := ?_); refine rp2 2 (k := ?_); refine rp2 3 (k := ?_); refine rp2 4 (k := ?_); refine rp2 5 (k := ?_); refine rp2 6 (k := ?_); refine rp2 7 (k := ?_); refine rp2 8 (k := ?_); refine rp2 9 (k := ?_); refine rp2 11 (k := ?_); refine rp2 12 (k := ?_); refine rp2 13 (k := ?_); refine rp2 14 (k := ?_); refine rp2 15 (k := ?_); refine dc 10 rfl (c := hle) (k := ?_); rintro _ _ ⟨rfl, rfl⟩
  refine ⟨by first | exact fun _ _ h => h | (refine later_list [15, 14, 13, 12, 11, 7, 6, 5, 4, 3, 2, 1, 0] (by kernel_rfl) (List.forall_mem_cons.2 ⟨fun _ => fact2 rfl rfl ?_, List.forall_mem_cons.2 ⟨fun _ => fact2 rfl rfl ?_, List.forall_mem_cons.2 ⟨fun _ => fact2 rfl rfl ?_, List.forall_mem_cons.2 ⟨fun _ => fact2 rfl rfl ?_, List.forall_mem_cons.2 ⟨fun _ => fact2 rfl rfl ?_, List.forall_mem_cons.2 ⟨fun _ => fact2 rfl rfl ?_, List.forall_mem_cons.2 ⟨fun _ => fact2 rfl rfl ?_, List.forall_mem_cons.2 ⟨fun _ => fact2 rfl rfl ?_, List.forall_mem_cons.2 ⟨fun _ => fact2 rfl rfl ?_, List.forall_mem_cons.2 ⟨fun _ => fact2 rfl rfl ?_, List.forall_mem_cons.2 ⟨fun _ => fact2 rfl rfl ?_, List.forall_mem_cons.2 ⟨fun _ => fact2 rfl rfl ?_, List.forall_mem_cons.2 ⟨fun _ => fact2 rfl rfl ?_, fun _ h => absurd h List.not_mem_nil⟩⟩⟩⟩⟩⟩⟩⟩⟩⟩⟩⟩⟩) <;> constructor <;> first | rfl | (simp [F]; done)), ?_⟩
  (repeat (first | simp [F] | simp (disch := omega) only [wC, if_pos, if_neg])); refine rp2 16 (k := ?_); refine rp2 17 (k := ?_); refine rp2 18 (k := ?_); refine rp2 19 (k := ?_); refine rp2 21 (k := ?_); refine rp2 22 (k := ?_); refine rp2 23 (k := ?_); refine rp2 24 (k := ?_); refine rp2 25 (k := ?_); refine dc 20 rfl (c := hde) (k := ?_); rintro _ _ ⟨rfl, rfl⟩
  refine ⟨by first | exact fun _ _ h => h | (refine later_list [25, 24, 23, 22, 21, 17, 16, 15, 14, 13, 12, 11, 7, 6, 5, 4, 3, 2, 1, 0] (by kernel_rfl) (List.forall_mem_cons.2 ⟨fun _ => fact2 rfl rfl ?_, List.forall_mem_cons.2 ⟨fun _ => fact2 rfl rfl ?_, List.forall_mem_cons.2 ⟨fun _ => fact2 rfl rfl ?_, List.forall_mem_cons.2 ⟨fun _ => fact2 rfl rfl ?_, List.forall_mem_cons.2 ⟨fun _ => fact2 rfl rfl ?_, List.forall_mem_cons.2 ⟨fun _ => fact2 rfl rfl ?_, List.forall_mem_cons.2 ⟨fun _ => fact2 rfl rfl ?_, List.forall_mem_cons.2 ⟨fun _ => fact2 rfl rfl ?_, List.forall_mem_cons.2 ⟨fun _ => fact2 rfl rfl ?_, List.forall_mem_cons.2 ⟨fun _ => fact2 rfl rfl ?_, List.forall_mem_cons.2 ⟨fun _ => fact2 rfl rfl ?_, List.forall_mem_cons.2 ⟨fun _ => fact2 rfl rfl ?_, List.forall_mem_cons.2 ⟨fun _ => fact2 rfl rfl ?_, List.forall_mem_cons.2 ⟨fun _ => fact2 rfl rfl ?_, List.forall_mem_cons.2 ⟨fun _ => fact2 rfl rfl ?_, List.forall_mem_cons.2 ⟨fun _ => fact2 rfl rfl ?_, List.forall_mem_cons.2 ⟨fun _ => fact2 rfl rfl ?_, List.forall_mem_cons.2 ⟨fun _ => fact2 rfl rfl ?_, List.forall_mem_cons.2 ⟨fun _ => fact2 rfl rfl ?_, List.forall_mem_cons.2 ⟨fun _ => fact2 rfl rfl ?_, fun _ h => absurd h List.not_mem_nil⟩⟩⟩⟩⟩⟩⟩⟩⟩⟩⟩⟩⟩⟩⟩⟩⟩⟩⟩⟩) <;> constructor <;> first | rfl | (simp [F]; done)), ?_⟩
  (repeat (first | simp [F] | simp (disch := omega) only [wC, if_pos, if_neg])); refine rp2 26 (k := ?_); refine rp2 27 (k := ?_); refine dd ?_; refine hJ7 _ _ ?_; refine hK6 _ _ ?_; refine cf ?_; refine run_skip ?_; refine hK5 _ _ ?_; refine sq fun K8 hK8 => ?_; refine sr fun _ hJ10 => ?_; refine hJ10 _ _ ?_; refine run_block_k ?_; refine run_loopF (X := Nat) [0, 1, 5] (fun i ρ σ1 => (i ≤ L.length) ∧ (ρ 6 = .v (.int .i64 i)) ∧ (σ1 = σ)) (fun i => L.length - i) (0) ?st1 ?rd1
  case st1 =>
   refine ⟨lp, lp, lp⟩
  case rd1 =>
   rintro i ρ1 σ1 hF1 ⟨h1, h5, hσ⟩; obtain rfl := hσ.symm
   have f1 := keepL hF1
   (try simp [KeepL, F] at f1); replace F := aF h5 F; (try replace F := aF f1 F); refine sq fun K11 hK11 => ?_; refine sr fun _ hJ13 => ?_; refine hJ13 _ _ ?_; refine cs (fun c42 => ?_) (fun c42 => ?_)
   · (try exact nope c42); all_goals have c42p := c42; try simp [F] at c42p
     all_goals
      replace F := aF c42 F; try replace F := aF c42p F
      have hlt : i < L.length := by have h := c42; simp at h; omega
      obtain ⟨x, hx⟩ : ∃ x, x = L[i] := ⟨_, rfl⟩
      have hxm : x ∈ L := by rw [hx]; exact List.getElem_mem _
      have hgx := hge x.k
      rw [getL_of_mem hs hxm] at hgx
      have hb := hkv x hxm
      have hat : (kysC (L.map (·.k)))[i]? = some (byC x.k) := by rw [kysC_at (by simpa using hlt)]; simp [hx]
      have hkE : ∀ h : i < (kysC (L.map (·.k))).length, (kysC (L.map (·.k)))[i]'h = .sl 1 (bytesA x.k) x.k.length .shut := fun h => (List.getElem?_eq_some_iff.1 hat).2
      have hpa := prsC_at hlt
      rw [← hx] at hpa
      have hatE : ∀ h : i * 2 < (prsC L).length, (prsC L)[i * 2]'h = .sl 1 (bytesA x.k) x.k.length .shut := fun h => (List.getElem?_eq_some_iff.1 hpa.1).2
      have hatV : ∀ h : i * 2 + 1 < (prsC L).length, (prsC L)[i * 2 + 1]'h = .sl 1 (bytesA x.v) x.v.length .shut := fun h => (List.getElem?_eq_some_iff.1 hpa.2).2
      have hb1 : i * 2 < L.length * 2 := by omega
      have hb2 : i * 2 + 1 < L.length * 2 := by omega
      have hi1 : i + 1 ≤ L.length := hlt
      simp only [byC] at hgx
      replace F := aF hlt (And.intro hkE (And.intro hatE (And.intro hatV (And.intro hb1 (And.intro hb2 (And.intro hi1 F)))))); refine run_skip ?_; refine hK11 _ _ ?_; refine sq fun K14 hK14 => ?_; refine run_block_k ?_; refine sr fun _ hJ16 => ?_; refine ca (c := hgx) (k := ?_); rintro _ _ ⟨rfl, rfl⟩; (repeat (first | simp [F] | simp (disch := omega) only [wC, if_pos, if_neg])); refine hJ16 _ _ ?_; refine sq fun K17 hK17 => ?_
      refine run_draw (by kernel_rfl) fun J18 hJ18 => ?_
      refine rp2 0 (k := ?_); refine rp2 1 (k := ?_); refine rp2 2 (k := ?_); refine rp2 3 (k := ?_); refine rp2 4 (k := ?_); refine rp2 5 (k := ?_); refine rp2 6 (k := ?_); refine rp2 7 (k := ?_); refine rp2 8 (k := ?_); refine rp2 9 (k := ?_); refine rp2 10 (k := ?_); refine rp2 11 (k := ?_); refine rp2 12 (k := ?_); refine rp2 13 (k := ?_); refine rp2 14 (k := ?_); refine dc 15 rfl (c := same_ok (p := x.k) (q := x.k) hb.1) (k := ?_); rintro _ _ ⟨rfl, rfl⟩
      refine ⟨by first | exact fun _ _ h => h | (refine later_list [13, 12, 11, 10, 9, 8, 7, 5, 4, 3, 1, 0] (by kernel_rfl) (List.forall_mem_cons.2 ⟨fun _ => fact2 rfl rfl ?_, List.forall_mem_cons.2 ⟨fun _ => fact2 rfl rfl ?_, List.forall_mem_cons.2 ⟨fun _ => fact2 rfl rfl ?_, List.forall_mem_cons.2 ⟨fun _ => fact2 rfl rfl ?_, List.forall_mem_cons.2 ⟨fun _ => fact2 rfl rfl ?_, List.forall_mem_cons.2 ⟨fun _ => fact2 rfl rfl ?_, List.forall_mem_cons.2 ⟨fun _ => fact2 rfl rfl ?_, List.forall_mem_cons.2 ⟨fun _ => fact2 rfl rfl ?_, List.forall_mem_cons.2 ⟨fun _ => fact2 rfl rfl ?_, List.forall_mem_cons.2 ⟨fun _ => fact2 rfl rfl ?_, List.forall_mem_cons.2 ⟨fun _ => fact2 rfl rfl ?_, List.forall_mem_cons.2 ⟨fun _ => fact2 rfl rfl ?_, fun _ h => absurd h List.not_mem_nil⟩⟩⟩⟩⟩⟩⟩⟩⟩⟩⟩⟩) <;> constructor <;> first | rfl | (simp [F]; done)), ?_⟩
      (repeat (first | simp [F] | simp (disch := omega) only [wC, if_pos, if_neg])); refine rp2 16 (k := ?_); refine rp2 17 (k := ?_); refine rp2 18 (k := ?_); refine rp2 19 (k := ?_); refine rp2 20 (k := ?_); refine rp2 21 (k := ?_); refine rp2 22 (k := ?_); refine rp2 23 (k := ?_); refine rp2 24 (k := ?_); refine rp2 25 (k := ?_); refine rp2 26 (k := ?_); refine rp2 27 (k := ?_); refine dc 28 rfl (c := same_ok (p := x.v) (q := x.v) hb.2) (k := ?_); rintro _ _ ⟨rfl, rfl⟩
      refine ⟨by first | exact fun _ _ h => h | (refine later_list [26, 25, 24, 23, 22, 21, 20, 17, 16, 13, 12, 11, 10, 9, 8, 7, 5, 4, 3, 1, 0] (by kernel_rfl) (List.forall_mem_cons.2 ⟨fun _ => fact2 rfl rfl ?_, List.forall_mem_cons.2 ⟨fun _ => fact2 rfl rfl ?_, List.forall_mem_cons.2 ⟨fun _ => fact2 rfl rfl ?_, List.forall_mem_cons.2 ⟨fun _ => fact2 rfl rfl ?_, List.forall_mem_cons.2 ⟨fun _ => fact2 rfl rfl ?_, List.forall_mem_cons.2 ⟨fun _ => fact2 rfl rfl ?_, List.forall_mem_cons.2 ⟨fun _ => fact2 rfl rfl ?_, List.forall_mem_cons.2 ⟨fun _ => fact2 rfl rfl ?_, List.forall_mem_cons.2 ⟨fun _ => fact2 rfl rfl ?_, List.forall_mem_cons.2 ⟨fun _ => fact2 rfl rfl ?_, List.forall_mem_cons.2 ⟨fun _ => fact2 rfl rfl ?_, List.forall_mem_cons.2 ⟨fun _ => fact2 rfl rfl ?_, List.forall_mem_cons.2 ⟨fun _ => fact2 rfl rfl ?_, List.forall_mem_cons.2 ⟨fun _ => fact2 rfl rfl ?_, List.forall_mem_cons.2 ⟨fun _ => fact2 rfl rfl ?_, List.forall_mem_cons.2 ⟨fun _ => fact2 rfl rfl ?_, List.forall_mem_cons.2 ⟨fun _ => fact2 rfl rfl ?_, List.forall_mem_cons.2 ⟨fun _ => fact2 rfl rfl ?_, List.forall_mem_cons.2 ⟨fun _ => fact2 rfl rfl ?_, List.forall_mem_cons.2 ⟨fun _ => fact2 rfl rfl ?_, List.forall_mem_cons.2 ⟨fun _ => fact2 rfl rfl ?_, fun _ h => absurd h List.not_mem_nil⟩⟩⟩⟩⟩⟩⟩⟩⟩⟩⟩⟩⟩⟩⟩⟩⟩⟩⟩⟩⟩) <;> constructor <;> first | rfl | (simp [F]; done)), ?_⟩
      (repeat (first | simp [F] | simp (disch := omega) only [wC, if_pos, if_neg])); refine rp2 29 (k := ?_); refine rp2 30 (k := ?_); refine dd ?_; refine hJ18 _ _ ?_; refine hK17 _ _ ?_; refine cf ?_; refine run_skip ?_; refine hK14 _ _ ?_; refine rg' (h := fun J19 hJ19 => ?_); refine hJ19 _ _ ?_; refine ⟨(i + 1), ⟨kp, lp, lp, lp⟩, lp⟩
   (try exact nope c42); all_goals have c42p := c42; try simp [F] at c42p
   all_goals
    replace F := aF c42 F; (try replace F := aF c42p F); refine run_exit ?_; refine hK8 _ _ ?_; refine sr fun _ hJ21 => ?_; refine hJ21 _ _ ?_; refine ra ?_; exact rt

set_option maxHeartbeats 1600000 in
attribute [local simp] undefA List.getElem?_cons_zero List.getElem?_cons_succ in
theorem storeActs_ok {σ : St} {l : List Ac} (hl : l.length ≤ 9223372036854775807) (hb : ∀ a ∈ l, a.k.length ≤ 9223372036854775807 ∧ a.v.length ≤ 9223372036854775807) :
    CallsA Try.prog 4 [.sl 3 (acsC l) l.length .shut] σ (fun av σ' => av = .v (.bool true) ∧ σ = σ') := by
  refine callsA_gcS ?_ rfl
  have hlc := acsC_len l
  have hdo := fun (G : Sg) (M : RS) (a : Ac) (n : Nat) h1 h2 h3 => does2 (σ := σ) (G := G) (M := M) (a := a) (n := n) h1 h2 h3
  have F := And.intro hlc (True.intro)
  refine callsA_body Try.func4 rfl rfl rfl ?_; refine sr fun _ hJ2 => ?_; refine hJ2 _ _ ?_; refine sq fun K3 hK3 => ?_; refine sr fun _ hJ5 => ?_; refine ca (c := rolls_ok) (k := ?_); rintro _ _ ⟨rfl, rfl⟩; (repeat (first | simp [F] | simp (disch := omega) only [wC, if_pos, if_neg])); refine go2 (k := ?_); refine ca (c := few_ok hl hb) (k := ?_); rintro _ _ ⟨rfl, rfl⟩; (repeat (first | simp [F] | simp (disch := omega) only [wC, if_pos, if_neg])); refine go2 (k := ?_); refine hJ5 _ _ ?_; refine cs (fun c12 => ?_) (fun c12 => ?_)
  · (try exact nope c12); all_goals have c12p := c12; try simp [F] at c12p
    all_goals
     replace F := aF c12 F; (try replace F := aF c12p F); refine sr fun _ hJ7 => ?_; refine ca (c := rolls_ok) (k := ?_); rintro _ _ ⟨rfl, rfl⟩; (repeat (first | simp [F] | simp (disch := omega) only [wC, if_pos, if_neg])); refine hJ7 _ _ ?_; refine ra ?_; exact gcr
  (try exact nope c12); all_goals have c12p := c12; try simp [F] at c12p
  all_goals
   replace F := aF c12 F; try replace F := aF c12p F
   have hfw : FewA l := by have h := c12; simpa using h
   refine run_skip ?_; refine hK3 _ _ ?_; refine sr fun _ hJ9 => ?_; refine ca (c := new_st_ok) (k := ?_); rintro _ _ ⟨rfl, rfl⟩; (repeat (first | simp [F] | simp (disch := omega) only [wC, if_pos, if_neg])); refine hJ9 _ _ ?_; refine sq fun K10 hK10 => ?_; refine sq fun K11 hK11 => ?_; refine run_new2 σ ?_; refine rg' (h := fun J12 hJ12 => ?_); refine hJ12 _ _ ?_; refine hK11 _ _ ?_; refine run_block_k ?_; refine run_loopF (X := LS) [0, 3, 4] (fun x ρ σ1 => (x.i ≤ l.length) ∧ (R5 x.G.s x.M x.i) ∧ (ρ 5 = .v (.int .i64 x.i)) ∧ (σ1 = St2 σ x.G x.M)) (fun x => l.length - x.i) (⟨0, newSg, newR⟩) ?st1 ?rd1
   case st1 =>
    refine ⟨lp, ?_, lp, lp⟩
    · exact newR5
   case rd1 =>
    rintro x ρ1 σ1 hF1 ⟨h1, h2, h5, hσ⟩; obtain rfl := hσ.symm
    have f1 := keepL hF1
    (try simp [KeepL, F] at f1); replace F := aF h5 F; (try replace F := aF f1 F); refine sq fun K13 hK13 => ?_; refine sr fun _ hJ15 => ?_; refine hJ15 _ _ ?_; refine cs (fun c20 => ?_) (fun c20 => ?_)
    · (try exact nope c20); all_goals have c20p := c20; try simp [F] at c20p
      all_goals
       replace F := aF c20 F; try replace F := aF c20p F
       have hlt : x.i < l.length := by have h := c20; simp at h; omega
       obtain ⟨R, hR⟩ := acsC_at hlt
       obtain ⟨a, ha⟩ : ∃ a, a = l[x.i] := ⟨_, rfl⟩
       rw [← ha] at hR
       simp only [acC, byC] at hR
       have haf : a.Few := hfw.2 a (by rw [ha]; exact List.getElem_mem _)
       have h40 := hfw.1
       have hb3 : x.i * 3 + 3 ≤ l.length * 3 := by omega
       have hi1 : x.i + 1 ≤ l.length := hlt
       have hda := hdo x.G x.M a x.i h2 (by omega) haf
       simp only [acC, byC] at hda
       have hr2 := h2.act haf
       replace F := aF hlt (And.intro hR (And.intro hb3 (And.intro hi1 F))); refine run_skip ?_; refine hK13 _ _ ?_; refine sq fun K16 hK16 => ?_; refine run_block_k ?_; refine sr fun _ hJ18 => ?_; refine ca (c := hda) (k := ?_); rintro _ _ ⟨G', e0, rfl, rfl⟩; (repeat (first | simp [F] | simp (disch := omega) only [wC, if_pos, if_neg])); iterate 2 refine go2 (k := ?_)
       refine ca (c := same2_ok (St2.s σ G' (actR x.M a)) (St2.r σ G' (actR x.M a)) (n := x.i + 1) (by rw [e0]; exact hr2) (by omega)) (k := ?_)
       rintro _ _ ⟨rfl, rfl⟩; (repeat (first | simp [F] | simp (disch := omega) only [wC, if_pos, if_neg])); refine go2 (k := ?_); refine hJ18 _ _ ?_; refine cf ?_; refine run_skip ?_; refine hK16 _ _ ?_; refine rg' (h := fun J19 hJ19 => ?_); refine hJ19 _ _ ?_; refine ⟨(⟨x.i + 1, G', actR x.M a⟩), ⟨kp, lp, ?_, lp, lp⟩, lp⟩
       · rw [e0]
         exact hr2
    (try exact nope c20); all_goals have c20p := c20; try simp [F] at c20p
    all_goals
     replace F := aF c20 F; (try replace F := aF c20p F); refine run_exit ?_; refine hK10 _ _ ?_; refine sr fun _ hJ21 => ?_; refine hJ21 _ _ ?_; refine ra ?_; exact gcr

end Go.Proofs.Ytlkajgjaidedkaa

/-
  Plans: what they are, when they are right.
-/
namespace Go.Vm
open Go

structure Per where
  l : Nat
  c : List Coin
deriving DecidableEq

structure Pln where
  k : UInt8
  s : Nat
  e : Nat
  tot : List Coin
  ps : List Per
deriving DecidableEq

def perC (p : Per) : List AV := [.v (.int .u64 p.l), .sl 5 (coinsC p.c) p.c.length .shut]
def persC (l : List Per) : List AV := l.flatMap perC
@[simp] theorem persC_nil : persC [] = [] := rfl
@[simp] theorem persC_len (l : List Per) : (persC l).length = l.length * 2 := flat_length perC 2 (fun _ => rfl) l
structure PerQ where
  i : Nat
  e : Nat
  a : List Coin

section
variable {P : Program} {z : Zone} {N : Nat} {σ : St} {ρ : Nat → AV}
end

end Go.Vm

/-
  Arguments: numbers, lists of coins, plans.
-/
namespace Go.Vm
set_option linter.unnecessarySimpa false
set_option linter.unusedVariables false
open Go

theorem leavesF_mono {go go' : TypeId → Option (List TypeId)} (h : ∀ t l, go t = some l → go' t = some l) : ∀ (fs : List Field) (acc ls : List TypeId), leavesF go fs acc = some ls → leavesF go' fs acc = some ls
  | [], acc, ls, e => e
  | f :: fs, acc, ls, e => by
    simp only [leavesF] at e ⊢
    split at e
    · rename_i hf
      rw [if_pos hf]
      cases hg : go f.type with
      | none => rw [hg] at e; cases e
      | some l =>
        rw [hg] at e
        rw [h _ _ hg]
        exact leavesF_mono h fs _ ls e
    · cases e

theorem leaves_succ {P : Program} : ∀ (n : Nat) (t : TypeId) (l : List TypeId), leaves P n t = some l → leaves P (n + 1) t = some l
  | 0, t, l, h => by simp [leaves] at h
  | n + 1, t, l, h => by
    have ih := leaves_succ (P := P) n
    rw [leaves] at h ⊢
    split at h
    · exact h
    · exact h
    · exact h
    · rename_i e hu
      cases hg : leaves P n e with
      | none => rw [hg] at h; cases h
      | some l' => rw [hg] at h; simp only [ih _ _ hg]; exact h
    · rename_i fs hu
      cases hg : leavesF (leaves P n) fs.toList [] with
      | none => rw [hg] at h; cases h
      | some l' => rw [hg] at h; simp only [leavesF_mono ih _ _ _ hg]; exact h
    · rename_i k e hu
      cases hg : leaves P n e with
      | none => rw [hg] at h; cases h
      | some l' => rw [hg] at h; simp only [ih _ _ hg]; exact h
    · cases h

theorem leaves_add {P : Program} {n : Nat} {t : TypeId} {l : List TypeId} (h : leaves P n t = some l) : ∀ k, leaves P (n + k) t = some l
  | 0 => h
  | k + 1 => leaves_succ _ _ _ (leaves_add h k)
theorem leaves_one {P : Program} {n m : Nat} {t : TypeId} {l l' : List TypeId} (h : leaves P n t = some l) (h' : leaves P m t = some l') : l = l' := by
  have h1 := leaves_add h m
  have h2 := leaves_add h' n
  rw [Nat.add_comm] at h2
  rw [h1] at h2
  exact Option.some.inj h2

theorem u8_of {P : Program} {u : TypeId} {a : AV} (hu : P.underlying u = some (.int .u8)) (w : WC P u a) : ∃ b : UInt8, a = .v (.int .u8 b.toNat) := by
  cases w with
  | bool h => rw [hu] at h; cases h
  | string h _ => rw [hu] at h; cases h
  | slice h _ _ _ _ => rw [hu] at h; cases h
  | int h hw =>
    rename_i k n
    rw [hu] at h
    cases h
    have m1 : IntKind.u8.min = 0 := rfl
    have m2 : IntKind.u8.max = 255 := rfl
    simp [Lit.wf, m1, m2] at hw
    refine ⟨UInt8.ofNat n.toNat, ?_⟩
    have e : (UInt8.ofNat n.toNat).toNat = n.toNat := toNat_u8 (by omega)
    rw [e]
    congr 2; omega

theorem groups {P : Program} {α : Type} {f : α → List AV} {ls : List TypeId} (hl : 0 < ls.length) (hf : ∀ a, (f a).length = ls.length)
    (one : ∀ cs : List AV, cs.length = ls.length → (∀ (j : Nat) a u, cs[j]? = some a → ls[j]? = some u → WC P u a) → ∃ x, cs = f x) :
    ∀ (n : Nat) (cs : List AV), cs.length = n * ls.length → (∀ (j : Nat) a u, cs[j]? = some a → ls[j % ls.length]? = some u → WC P u a) → ∃ l : List α, l.length = n ∧ cs = l.flatMap f
  | 0, cs, h, _ => ⟨[], rfl, by simpa using h⟩
  | n + 1, cs, h, hc => by
    have hle : ls.length ≤ cs.length := by rw [h, Nat.add_mul]; omega
    obtain ⟨x, hx⟩ := one (cs.take ls.length) (by simp; omega) (fun j a u ha hu => by
      have hj : j < ls.length := (List.getElem?_eq_some_iff.1 hu).1
      rw [List.getElem?_take, if_pos hj] at ha
      exact hc j a u ha (by rw [Nat.mod_eq_of_lt hj]; exact hu))
    obtain ⟨l, hln, hl2⟩ := groups hl hf one n (cs.drop ls.length) (by rw [List.length_drop, h, Nat.add_mul]; omega) (fun j a u ha hu => by
      rw [List.getElem?_drop] at ha
      exact hc (ls.length + j) a u ha (by rw [Nat.add_mod_left]; exact hu))
    exact ⟨x :: l, by simp [hln], by rw [List.flatMap_cons, ← hx, ← hl2, List.take_append_drop]⟩

theorem wc_len {P : Program} {t : TypeId} {sz n : Nat} {cs : List AV} {tl : Tail} (w : WC P t (.sl sz cs n tl)) : n ≤ 9223372036854775807 := by
  generalize hx : AV.sl sz cs n tl = x at w
  cases w with
  | bool h => cases hx
  | string h _ => cases hx
  | int h _ => cases hx
  | slice h hls hl hn hc => cases hx; exact hn

end Go.Vm

/-
  Arguments: deeds.
-/
namespace Go.Proofs.Ytlkajgjaidedkaa
set_option linter.unnecessarySimpa false
set_option maxRecDepth 100000
open Go Go.Vm
set_option linter.unusedVariables false

theorem bytes_cells2 {P : Program} {u : TypeId} (hu : P.underlying u = some (.int .u8)) : ∀ cs : List AV, (∀ a, a ∈ cs → WC P u a) → ∃ p : List UInt8, cs = bytesA p
  | [], _ => ⟨[], rfl⟩
  | a :: cs, hh => by
    obtain ⟨p, hp⟩ := bytes_cells2 hu cs (fun b hb => hh b (by simp [hb]))
    obtain ⟨b, hb⟩ := u8_of hu (hh a (by simp))
    exact ⟨b :: p, by rw [hp, hb]; rfl⟩
theorem bytes_of {P : Program} {t e : TypeId} {k : Nat} {a : AV} (ht : P.underlying t = some (.slice e)) (hle : leaves P k e = some [e]) (he : P.underlying e = some (.int .u8)) (w : WC P t a) : ∃ p : List UInt8, a = byC p ∧ p.length ≤ 9223372036854775807 := by
  have w0 := w
  cases w with
  | bool h => rw [ht] at h; cases h
  | string h _ => rw [ht] at h; cases h
  | int h _ => rw [ht] at h; cases h
  | slice h hls hl hn hc =>
    rw [ht] at h
    cases h
    rename_i fuel ls cs n
    obtain rfl := leaves_one hle hls
    obtain ⟨p, rfl⟩ := bytes_cells2 he cs (fun a ha => by
      obtain ⟨j, hj⟩ := List.mem_iff_getElem?.1 ha
      exact hc j a e hj (by simp [Nat.mod_one]))
    have : n = p.length := by simpa using hl.symm
    subst this
    exact ⟨p, rfl, wc_len w0⟩
theorem acts_of {P : Program} {t e u tc ec : TypeId} {k k2 : Nat} {a : AV} (ht : P.underlying t = some (.slice e)) (hle : leaves P k e = some [u, tc, tc]) (hu : P.underlying u = some (.int .u8))
    (htc : P.underlying tc = some (.slice ec)) (hlc : leaves P k2 ec = some [ec]) (hec : P.underlying ec = some (.int .u8)) (w : WC P t a) : ∃ L : List Ac, a = .sl 3 (acsC L) L.length .shut ∧ L.length ≤ 9223372036854775807 ∧ ∀ x ∈ L, x.k.length ≤ 9223372036854775807 ∧ x.v.length ≤ 9223372036854775807 := by
  cases w with
  | bool h => rw [ht] at h; cases h
  | string h _ => rw [ht] at h; cases h
  | int h _ => rw [ht] at h; cases h
  | slice h hls hl hn hc =>
    rw [ht] at h
    cases h
    rename_i fuel ls cs n
    obtain rfl := leaves_one hle hls
    obtain ⟨L, hL, rfl⟩ := groups (α := { x : Ac // x.k.length ≤ 9223372036854775807 ∧ x.v.length ≤ 9223372036854775807 }) (f := fun x => acC x.1) (ls := [u, tc, tc]) (by simp) (fun _ => rfl) (fun cs h1 h2 => by
      obtain ⟨a0, a1, a2, rfl⟩ : ∃ a0 a1 a2, cs = [a0, a1, a2] := by
        match cs, h1 with
        | [a0, a1, a2], _ => exact ⟨a0, a1, a2, rfl⟩
      obtain ⟨m, e0⟩ := u8_of hu (h2 0 a0 u rfl rfl)
      obtain ⟨p, e1, hp⟩ := bytes_of htc hlc hec (h2 1 a1 tc rfl rfl)
      obtain ⟨q, e2, hq⟩ := bytes_of htc hlc hec (h2 2 a2 tc rfl rfl)
      exact ⟨⟨⟨m, p, q⟩, hp, hq⟩, by rw [e0, e1, e2]; rfl⟩) n cs hl hc
    refine ⟨L.map Subtype.val, ?_, by rw [List.length_map, hL]; exact hn, fun x hx => ?_⟩
    · rw [List.length_map, hL]
      show AV.sl 3 _ n .shut = _
      congr 1
      induction L with
      | nil => rfl
      | cons y L ih => simp [acsC, List.flatMap_cons]
    · obtain ⟨y, _, rfl⟩ := List.mem_map.1 hx
      exact y.2
theorem acts_arg {n : Nat} {P : Program} {t e u tc ec : TypeId} {k k2 : Nat} {H : Type} {enc : TypeId × Value → H} {W : World} {spare : Nat → Bool} {ad : Option Addr} {m c : Nat} {d : DataW H} {ps : List MemPlace} (hl : leaves P n t = some [t]) (ht : P.underlying t = some (.slice e)) (hle : leaves P k e = some [u, tc, tc]) (hu : P.underlying u = some (.int .u8))
    (htc : P.underlying tc = some (.slice ec)) (hlc : leaves P k2 ec = some [ec]) (hec : P.underlying ec = some (.int .u8))
    (h : DataW.Trod enc P W 0 spare true t (.slice ad m c) d ps) : ∃ L : List Ac, L.length ≤ 9223372036854775807 ∧ (∀ x ∈ L, x.k.length ≤ 9223372036854775807 ∧ x.v.length ≤ 9223372036854775807) ∧ AVR (atFirst W) W (.slice ad m c) (.sl 3 (acsC L) L.length .shut) := by
  obtain ⟨l, h1, h2, h3, h4⟩ := open_arg hl h
  have hc : Value.cells (.slice ad m c) = #[.slice ad m c] := rfl
  obtain ⟨a, rfl⟩ : ∃ a, l = [a] := by
    match l, h1 with
    | [a], _ => exact ⟨a, rfl⟩
  obtain ⟨L, rfl, e1, e2⟩ := acts_of ht hle hu htc hlc hec (h4 0 a t rfl rfl)
  exact ⟨L, e1, e2, h3 0 _ _ (by rw [hc]; rfl) rfl⟩

end Go.Proofs.Ytlkajgjaidedkaa
