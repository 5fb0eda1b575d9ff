import Derived.Test.YtmponlabfccjaaaZ7
import Derived.Test.YtmponlabfccjaaaZ16
import Derived.Test.YtmponlabfccjaaaZ14
import Derived.Test.YtmponlabfccjaaaZ10
/-
  Bank: has the store what the document has? BankActs, BankBack.
-/
namespace Go.Proofs.Ytmponlabfccjaaa
set_option linter.unnecessarySimpa false
set_option maxRecDepth 100000
open Go Go.Vm
set_option linter.unusedSimpArgs false
set_option linter.unusedVariables false
attribute [local simp] evalL wantedA isCall opA evalA evalAll evalsA evalOpt ofValue ofCell plain binA_eql_pn binA_neq_pn binA_gtr binA_lss binA_geq binA_leq binA_add binA_sub binA_eql binA_neq binA_orI binA_shl binA_shr binA_mul binA_quo binA_rem binA_agg_eql binA_agg_neq convA_int unA_not fieldAddrA loadA partA pickA_true pickA_false pickA_bb lenA builtinA storeA splice AV.cells AV.isCell sliceA boundA intA callOf indexAddrA newObjA buildA fillA zeroA ofCells buildSliceA indexA fieldA set_appN get_appN take_appN List.getElem?_cons_zero List.getElem?_cons_succ get_sa0 get_sa1 get_sa2 get_sa3 set_sa0 set_sa1 set_sa2 set_sa3 sliceRowA binA_eqn binA_neqn drop_mr

set_option maxHeartbeats 1600000 in
attribute [local simp] undefA List.getElem?_cons_zero List.getElem?_cons_succ balsC_noObj in
theorem same09_ok {σ : St} {o k m n : Nat} {G : Sg} {T : Tb} (h : HasS σ o k G) (hm : σ.objs[m]? = some (bC T)) (hi : BankS G.s T n) (hn : n ≤ 1000) :
    CallsA Try.prog 28 [.ptr o 0, .ptr m 0] σ (fun av σ' => av = .v (.bool true) ∧ σ = σ') := by
  refine callsA_gcS ?_ rfl
  have hal := allB_ok h hi hn
  have hsu := supply_ok h hi (by omega)
  have hol := lt_of_get h.o
  have hml := lt_of_get hm
  have hsm : ∀ (τ : St) (o : Option UInt8), CallsA Try.prog 21 [.sl 5 (coinsC (T o)) (T o).length .shut, .sl 5 (coinsC (T o)) (T o).length .shut] τ (fun av σ' => av = .v (.bool true) ∧ τ = σ') := fun τ o => by
    have h8 := right_len (hi.rt o)
    have := rsame_ok (σ := τ) (l := T o) (m := T o) (t1 := .shut) (t2 := .shut) (by omega) (by omega)
    rw [decide_eq_true rfl] at this; exact this
  have hco := fun (a : UInt8) l => coinsB_ok (a := a) (h.app l σ.toks) hi (by omega)
  have hmem := fun b => mem_bals (T := T) (b := b)
  obtain ⟨B, hB⟩ : ∃ B, B = bals T := ⟨_, rfl⟩
  have hBl : B.length ≤ 256 := by rw [hB]; exact bals_len T
  simp only [bC, bX, ← hB] at hm hmem hal
  have hBc := balsC_len B
  have hsmn := fun τ => hsm τ none
  obtain ⟨S, hS⟩ : ∃ S, S = T none := ⟨_, rfl⟩
  simp only [← hS] at hm hsu hsmn
  have hm1 : ∀ l, (σ.objs ++ l)[m]? = some _ := fun l => by rw [List.getElem?_append_left hml]; exact hm
  have hge : ∀ h2 : m < σ.objs.length, σ.objs[m]'h2 = _ := fun h2 => (List.getElem?_eq_some_iff.1 hm).2
  have F := And.intro hm (And.intro hm1 (And.intro hge (And.intro hol (And.intro hml (And.intro hBc (True.intro))))))
  refine callsA_body Try.func28 rfl rfl rfl ?_; refine sr fun _ hJ2 => ?_; refine hJ2 _ _ ?_; refine sr fun _ hJ4 => ?_; refine ca (c := hal) (k := ?_); rintro _ _ ⟨rfl, rfl⟩; (repeat (first | simp [F] | simp (disch := omega) only [wC, if_pos, if_neg])); refine hJ4 _ _ ?_; refine sq fun K5 hK5 => ?_; refine sq fun K6 hK6 => ?_
  refine run_draw (by kernel_rfl) fun J7 hJ7 => ?_
  refine rp2 0 (k := ?_); refine rp2 1 (k := ?_); refine rp2 2 (k := ?_); refine rp2 3 (k := ?_); refine rp2 4 (k := ?_); refine rp2 5 (k := ?_); refine rp2 6 (k := ?_); refine rp2 7 (k := ?_); refine rp2 8 (k := ?_); refine rp2 9 (k := ?_); refine rp2 11 (k := ?_); refine rp2 12 (k := ?_); refine rp2 13 (k := ?_); refine rp2 14 (k := ?_); refine dc 10 rfl (c := hsu) (k := ?_); rintro _ _ ⟨rfl, rfl⟩
  refine ⟨by first | exact fun _ _ h => h | (refine later_list [14, 13, 12, 11, 7, 6, 5, 4, 3, 2, 1, 0] (by kernel_rfl) (List.forall_mem_cons.2 ⟨fun _ => fact2 rfl rfl ?_, List.forall_mem_cons.2 ⟨fun _ => fact2 rfl rfl ?_, List.forall_mem_cons.2 ⟨fun _ => fact2 rfl rfl ?_, List.forall_mem_cons.2 ⟨fun _ => fact2 rfl rfl ?_, List.forall_mem_cons.2 ⟨fun _ => fact2 rfl rfl ?_, List.forall_mem_cons.2 ⟨fun _ => fact2 rfl rfl ?_, List.forall_mem_cons.2 ⟨fun _ => fact2 rfl rfl ?_, List.forall_mem_cons.2 ⟨fun _ => fact2 rfl rfl ?_, List.forall_mem_cons.2 ⟨fun _ => fact2 rfl rfl ?_, List.forall_mem_cons.2 ⟨fun _ => fact2 rfl rfl ?_, List.forall_mem_cons.2 ⟨fun _ => fact2 rfl rfl ?_, List.forall_mem_cons.2 ⟨fun _ => fact2 rfl rfl ?_, fun _ h => absurd h List.not_mem_nil⟩⟩⟩⟩⟩⟩⟩⟩⟩⟩⟩⟩) <;> constructor <;> first | rfl | (simp [F]; done)), ?_⟩
  (repeat (first | simp [F] | simp (disch := omega) only [wC, if_pos, if_neg])); refine dc 15 rfl (c := hsmn _) (k := ?_); rintro _ _ ⟨rfl, rfl⟩
  refine ⟨by first | exact fun _ _ h => h | (refine later_list [13, 12, 11, 7, 6, 5, 4, 3, 2, 1, 0] (by kernel_rfl) (List.forall_mem_cons.2 ⟨fun _ => fact2 rfl rfl ?_, List.forall_mem_cons.2 ⟨fun _ => fact2 rfl rfl ?_, List.forall_mem_cons.2 ⟨fun _ => fact2 rfl rfl ?_, List.forall_mem_cons.2 ⟨fun _ => fact2 rfl rfl ?_, List.forall_mem_cons.2 ⟨fun _ => fact2 rfl rfl ?_, List.forall_mem_cons.2 ⟨fun _ => fact2 rfl rfl ?_, List.forall_mem_cons.2 ⟨fun _ => fact2 rfl rfl ?_, List.forall_mem_cons.2 ⟨fun _ => fact2 rfl rfl ?_, List.forall_mem_cons.2 ⟨fun _ => fact2 rfl rfl ?_, List.forall_mem_cons.2 ⟨fun _ => fact2 rfl rfl ?_, List.forall_mem_cons.2 ⟨fun _ => fact2 rfl rfl ?_, fun _ h => absurd h List.not_mem_nil⟩⟩⟩⟩⟩⟩⟩⟩⟩⟩⟩) <;> constructor <;> first | rfl | (simp [F]; done)), ?_⟩
  (repeat (first | simp [F] | simp (disch := omega) only [wC, if_pos, if_neg])); refine rp2 16 (k := ?_); refine rp2 17 (k := ?_); refine dd ?_; refine hJ7 _ _ ?_; refine hK6 _ _ ?_; refine cf ?_; refine run_skip ?_; refine hK5 _ _ ?_; refine sq fun K8 hK8 => ?_; refine sr fun _ hJ10 => ?_; refine hJ10 _ _ ?_; refine run_block_k ?_; refine run_loopG (X := Nat) [0, 1, 5] (fun i ρ σ1 => (i ≤ B.length) ∧ (ρ 6 = .v (.int .i64 i)) ∧ (σ1 = σ)) (fun i => B.length - i) (0) ?st1 ?rd1
  case st1 =>
   refine ⟨lp, lp, lp⟩
  case rd1 =>
   rintro i ρ1 σ1 hF1 ⟨h1, h5, hσ⟩; obtain rfl := hσ.symm
   have f1 := keepL hF1
   (try simp [KeepL, F] at f1); replace F := aF h5 F; (try replace F := aF f1 F); refine sq fun K11 hK11 => ?_; refine sr fun _ hJ13 => ?_; refine hJ13 _ _ ?_; refine cs (fun c31 => ?_) (fun c31 => ?_)
   · (try exact nope c31); all_goals have c31p := c31; try simp [F] at c31p
     all_goals
      replace F := aF c31 F; try replace F := aF c31p F
      have hlt : i < B.length := by have h := c31; simp at h; omega
      obtain ⟨R, hR⟩ := balsC_at hlt
      obtain ⟨b, hb⟩ : ∃ b, b = B[i] := ⟨_, rfl⟩
      rw [← hb] at hR
      have hR3 : List.take 2 (List.drop (i * 2) (balsC B)) = balC b := by rw [hR]; rfl
      have f0 : ∀ h2 : i * 2 < (balsC B).length, (balsC B)[i * 2]'h2 = .v (.int .u8 (b.a.toNat : Nat)) := fun h2 => by have := get_dropB (l := balsC B) (i := i * 2) (j := 0) (x := .v (.int .u8 (b.a.toNat : Nat))) (by rw [hR]; rfl); exact this h2
      have f1 := get_dropB (l := balsC B) (i := i * 2) (j := 1) (x := .sl 5 (coinsC b.l) b.l.length .shut) (by rw [hR]; rfl)
      have d0 : i * 2 < B.length * 2 := by omega
      have d1 : i * 2 + 1 < B.length * 2 := by omega
      have d3 : i * 2 + 2 ≤ B.length * 2 := by omega
      have hi1 : i + 1 ≤ B.length := hlt
      have hwi : IntKind.i64.wrap ((i : Int) + 1) = (i : Int) + 1 := wrap_i64 _ (by omega) (by omega)
      have hbm := (hmem b).1 (by rw [hb]; exact List.getElem_mem hlt)
      have hs1 := fun τ => hsm τ (some b.a)
      have hc1 := hco b.a
      simp only [← hbm.1] at hs1 hc1
      have hyc : (∀ x, x ∈ balC b → x.isCell = true) = True := eq_true (cellBl b)
      have hyl : (balC b).length = 2 := rfl
      have hyt : List.take 2 (balC b) = balC b := rfl
      have hyo : ∀ nb, noObjL nb (balC b) = true := fun nb => balC_noObj nb b
      obtain ⟨Y, hY⟩ : ∃ Y, Y = balC b := ⟨_, rfl⟩
      have y0 : ∀ h2 : 0 < Y.length, Y[0]'h2 = .v (.int .u8 (b.a.toNat : Nat)) := fun h2 => by subst hY; rfl
      have y1 : ∀ h2 : 1 < Y.length, Y[1]'h2 = .sl 5 (coinsC b.l) b.l.length .shut := fun h2 => by subst hY; rfl
      rw [← hY] at hyc hyl hR3 hyt
      simp only [← hY] at hyo
      simp only [AV.isCell] at hyc
      replace F := aF hlt (And.intro hR3 (And.intro f0 (And.intro f1 (And.intro d0 (And.intro d1 (And.intro d3 (And.intro hi1 (And.intro hwi (And.intro hyc (And.intro hyl (And.intro hyt (And.intro hyo (And.intro y0 (And.intro y1 F)))))))))))))); refine run_skip ?_; refine hK11 _ _ ?_; refine sq fun K14 hK14 => ?_; refine run_block_k ?_; refine sr fun _ hJ16 => ?_; refine hJ16 _ _ ?_; refine sq fun K17 hK17 => ?_
      refine run_draw (by kernel_rfl) fun J18 hJ18 => ?_
      refine rp2 0 (k := ?_); refine rp2 1 (k := ?_); refine rp2 2 (k := ?_); refine rp2 3 (k := ?_); refine rp2 4 (k := ?_); refine rp2 5 (k := ?_); refine rp2 6 (k := ?_); refine rp2 7 (k := ?_); refine rp2 8 (k := ?_); refine rp2 9 (k := ?_); refine rp2 10 (k := ?_); refine rp2 11 (k := ?_); refine rp2 12 (k := ?_); refine rp2 13 (k := ?_); refine rp2 14 (k := ?_); refine rp2 15 (k := ?_); refine dc 16 rfl (c := hs1 _) (k := ?_); rintro _ _ ⟨rfl, rfl⟩
      refine ⟨by first | exact fun _ _ h => h | (refine later_list [14, 12, 11, 10, 9, 7, 6, 5, 4, 3, 2, 1, 0] (by kernel_rfl) (List.forall_mem_cons.2 ⟨fun _ => fact2 rfl rfl ?_, List.forall_mem_cons.2 ⟨fun _ => fact2 rfl rfl ?_, List.forall_mem_cons.2 ⟨fun _ => fact2 rfl rfl ?_, List.forall_mem_cons.2 ⟨fun _ => fact2 rfl rfl ?_, List.forall_mem_cons.2 ⟨fun _ => fact2 rfl rfl ?_, List.forall_mem_cons.2 ⟨fun _ => fact2 rfl rfl ?_, List.forall_mem_cons.2 ⟨fun _ => fact2 rfl rfl ?_, List.forall_mem_cons.2 ⟨fun _ => fact2 rfl rfl ?_, List.forall_mem_cons.2 ⟨fun _ => fact2 rfl rfl ?_, List.forall_mem_cons.2 ⟨fun _ => fact2 rfl rfl ?_, List.forall_mem_cons.2 ⟨fun _ => fact2 rfl rfl ?_, List.forall_mem_cons.2 ⟨fun _ => fact2 rfl rfl ?_, List.forall_mem_cons.2 ⟨fun _ => fact2 rfl rfl ?_, fun _ h => absurd h List.not_mem_nil⟩⟩⟩⟩⟩⟩⟩⟩⟩⟩⟩⟩⟩) <;> constructor <;> first | rfl | (simp [F]; done)), ?_⟩
      (repeat (first | simp [F] | simp (disch := omega) only [wC, if_pos, if_neg])); refine rp2 17 (k := ?_); refine rp2 18 (k := ?_); refine rp2 19 (k := ?_); refine rp2 20 (k := ?_); refine rp2 21 (k := ?_); refine rp2 22 (k := ?_); refine rp2 24 (k := ?_); refine rp2 25 (k := ?_); refine dc 23 rfl (c := hc1 _) (k := ?_); rintro _ _ ⟨rfl, rfl⟩
      refine ⟨by first | exact fun _ _ h => h | (refine later_list [25, 24, 21, 18, 17, 14, 12, 11, 10, 9, 7, 6, 5, 4, 3, 2, 1, 0] (by kernel_rfl) (List.forall_mem_cons.2 ⟨fun _ => fact2 rfl rfl ?_, List.forall_mem_cons.2 ⟨fun _ => fact2 rfl rfl ?_, List.forall_mem_cons.2 ⟨fun _ => fact2 rfl rfl ?_, List.forall_mem_cons.2 ⟨fun _ => fact2 rfl rfl ?_, List.forall_mem_cons.2 ⟨fun _ => fact2 rfl rfl ?_, List.forall_mem_cons.2 ⟨fun _ => fact2 rfl rfl ?_, List.forall_mem_cons.2 ⟨fun _ => fact2 rfl rfl ?_, List.forall_mem_cons.2 ⟨fun _ => fact2 rfl rfl ?_, List.forall_mem_cons.2 ⟨fun _ => fact2 rfl rfl ?_, List.forall_mem_cons.2 ⟨fun _ => fact2 rfl rfl ?_, List.forall_mem_cons.2 ⟨fun _ => fact2 rfl rfl ?_, List.forall_mem_cons.2 ⟨fun _ => fact2 rfl rfl ?_, List.forall_mem_cons.2 ⟨fun _ => fact2 rfl rfl ?_, List.forall_mem_cons.2 ⟨fun _ => fact2 rfl rfl ?_, List.forall_mem_cons.2 ⟨fun _ => fact2 rfl rfl ?_, List.forall_mem_cons.2 ⟨fun _ => fact2 rfl rfl ?_, List.forall_mem_cons.2 ⟨fun _ => fact2 rfl rfl ?_, List.forall_mem_cons.2 ⟨fun _ => fact2 rfl rfl ?_, fun _ h => absurd h List.not_mem_nil⟩⟩⟩⟩⟩⟩⟩⟩⟩⟩⟩⟩⟩⟩⟩⟩⟩⟩) <;> constructor <;> first | rfl | (simp [F]; done)), ?_⟩
      (repeat (first | simp [F] | simp (disch := omega) only [wC, if_pos, if_neg])); refine dc 26 rfl (c := hs1 _) (k := ?_); rintro _ _ ⟨rfl, rfl⟩
      refine ⟨by first | exact fun _ _ h => h | (refine later_list [24, 21, 18, 17, 14, 12, 11, 10, 9, 7, 6, 5, 4, 3, 2, 1, 0] (by kernel_rfl) (List.forall_mem_cons.2 ⟨fun _ => fact2 rfl rfl ?_, List.forall_mem_cons.2 ⟨fun _ => fact2 rfl rfl ?_, List.forall_mem_cons.2 ⟨fun _ => fact2 rfl rfl ?_, List.forall_mem_cons.2 ⟨fun _ => fact2 rfl rfl ?_, List.forall_mem_cons.2 ⟨fun _ => fact2 rfl rfl ?_, List.forall_mem_cons.2 ⟨fun _ => fact2 rfl rfl ?_, List.forall_mem_cons.2 ⟨fun _ => fact2 rfl rfl ?_, List.forall_mem_cons.2 ⟨fun _ => fact2 rfl rfl ?_, List.forall_mem_cons.2 ⟨fun _ => fact2 rfl rfl ?_, List.forall_mem_cons.2 ⟨fun _ => fact2 rfl rfl ?_, List.forall_mem_cons.2 ⟨fun _ => fact2 rfl rfl ?_, List.forall_mem_cons.2 ⟨fun _ => fact2 rfl rfl ?_, List.forall_mem_cons.2 ⟨fun _ => fact2 rfl rfl ?_, List.forall_mem_cons.2 ⟨fun _ => fact2 rfl rfl ?_, List.forall_mem_cons.2 ⟨fun _ => fact2 rfl rfl ?_, List.forall_mem_cons.2 ⟨fun _ => fact2 rfl rfl ?_, List.forall_mem_cons.2 ⟨fun _ => fact2 rfl rfl ?_, fun _ h => absurd h List.not_mem_nil⟩⟩⟩⟩⟩⟩⟩⟩⟩⟩⟩⟩⟩⟩⟩⟩⟩) <;> constructor <;> first | rfl | (simp [F]; done)), ?_⟩
      (repeat (first | simp [F] | simp (disch := omega) only [wC, if_pos, if_neg])); refine rp2 27 (k := ?_); refine rp2 28 (k := ?_); refine dd ?_; refine hJ18 _ _ ?_; refine hK17 _ _ ?_; refine cf ?_; refine run_skip ?_; refine hK14 _ _ ?_; refine rg' (h := fun J19 hJ19 => ?_); refine hJ19 _ _ ?_; refine ⟨gk, (i + 1), ⟨kpG, lpG, lpG, lpG⟩, lpG⟩
   (try exact nope c31); all_goals have c31p := c31; try simp [F] at c31p
   all_goals
    replace F := aF c31 F; (try replace F := aF c31p F); refine run_exit ?_; refine hK8 _ _ ?_; refine sr fun _ hJ21 => ?_; refine hJ21 _ _ ?_; refine ra ?_; exact gcr

theorem sendB_back {T : Tb} {a b : UInt8} {l : List Coin} (hs : SumT T) (hr : ∀ o, Right (T o)) (h0 : (sendB T a b l).e = 0) (hab : a ≠ b) : sendB (sendB T a b l).T b a l = ⟨T, 0⟩ := by
  obtain ⟨T1, hT1⟩ : ∃ T1, T1 = (sendB T a b l).T := ⟨_, rfl⟩
  have hs1 : SumT T1 := by rw [hT1]; exact sumT_send hs
  rw [← hT1]
  by_cases q1 : isB a = true ∧ isB b = true ∧ Right l
  · by_cases q2 : cWith l (T (some a))
    · rw [sendB, if_neg (not_not_intro q1), if_neg (not_not_intro q2)] at hT1
      dsimp only at hT1
      have hroom := send_room (b := b) hs q2
      have hab2 : (some b : Option UInt8) ≠ some a := fun e => hab (Option.some.inj e).symm
      rw [upd_ne _ _ hab2] at hT1 hroom
      have e1 : T1 (some a) = cRest (T (some a)) l := by rw [hT1, upd_ne _ _ (fun e => hab (Option.some.inj e)), upd_self]
      have e2 : T1 (some b) = addC (T (some b)) l := by rw [hT1, upd_self]
      have w2 : cWith l (T1 (some b)) := fun d hd => by rw [e2, addC_amt hroom hd]; omega
      rw [sendB, if_neg (not_not_intro ⟨q1.2.1, q1.1, q1.2.2⟩), if_neg (not_not_intro w2)]
      have hroom2 := send_room (b := a) hs1 w2
      have hab3 : (some a : Option UInt8) ≠ some b := fun e => hab (Option.some.inj e)
      rw [upd_ne _ _ hab3] at hroom2 ⊢
      have r1 : cRest (T1 (some b)) l = T (some b) := by
        refine right_ext (right_cRest _ _) (hr _) (fun d hd => ?_)
        rw [amt_cRest _ _ hd, e2, addC_amt hroom hd]; omega
      have r2 : addC (T1 (some a)) l = T (some a) := by
        refine right_ext (right_lstF hroom2 8 (Nat.le_refl 8)) (hr _) (fun d hd => ?_)
        rw [addC_amt hroom2 hd, e1, amt_cRest _ _ hd]
        have := q2 d hd
        omega
      rw [r1, r2]
      congr 1
      funext o
      by_cases x1 : o = some a
      · subst x1; rw [upd_self]
      · rw [upd_ne _ _ x1]
        by_cases x2 : o = some b
        · subst x2; rw [upd_self]
        · rw [upd_ne _ _ x2, hT1, upd_ne _ _ x2, upd_ne _ _ x1]
    · rw [sendB, if_neg (not_not_intro q1), if_pos q2] at h0; simp at h0
  · rw [sendB, if_pos q1] at h0; simp at h0
theorem sendB_self {T : Tb} {a : UInt8} {l : List Coin} (hr : ∀ o, Right (T o)) (hs : SumT T) : (sendB T a a l).T = T := by
  unfold sendB
  split
  · rfl
  · split
    · rfl
    · rename_i q1 q2
      have w2 : cWith l (T (some a)) := Classical.not_not.1 q2
      dsimp only
      have hroom := send_room (b := a) hs w2
      rw [upd_self] at hroom ⊢
      have r2 : addC (cRest (T (some a)) l) l = T (some a) := by
        refine right_ext (right_lstF hroom 8 (Nat.le_refl 8)) (hr _) (fun d hd => ?_)
        rw [addC_amt hroom hd, amt_cRest _ _ hd]
        have := w2 d hd
        omega
      rw [r2, upd_upd, upd_id]
theorem sendB_no {T : Tb} {a b : UInt8} {l : List Coin} (h0 : (sendB T a b l).e ≠ 0) : (sendB T a b l).T = T := by
  unfold sendB at h0 ⊢
  split
  · rfl
  · split
    · rfl
    · rename_i q1 q2
      rw [if_neg q1, if_neg q2] at h0
      exact absurd rfl h0

set_option maxHeartbeats 1600000 in
attribute [local simp] undefA List.getElem?_cons_zero List.getElem?_cons_succ in
theorem bankBack_ok {σ : St} {l : List AB} {x0 : AB} (hl : l.length ≤ 9223372036854775807) (hb : ∀ a ∈ l, a.Ok) (hx0 : x0.Ok) :
    CallsA Try.prog 8 [.sl 5 (absC l) l.length .shut, .agg (abC x0)] σ (fun av σ' => av = .v (.bool true) ∧ σ = σ') := by
  refine callsA_gcS ?_ rfl
  have hlc := absC_len l
  have hco := fun τ => coins09_ok (σ := τ) hx0
  have hLl := lawC_len hx0
  obtain ⟨L, hL⟩ : ∃ L, L = lawC x0 := ⟨_, rfl⟩
  simp only [← hL] at hco hLl
  have hx1 := fun τ => addr09_ok (σ := τ) (n := x0.a)
  have hx2 := fun τ => addr09_ok (σ := τ) (n := x0.b)
  obtain ⟨a, ha9⟩ : ∃ a, a = adr x0.a := ⟨_, rfl⟩
  obtain ⟨b0, hb9⟩ : ∃ b, b = adr x0.b := ⟨_, rfl⟩
  simp only [← ha9] at hx1
  simp only [← hb9] at hx2
  obtain ⟨A0, hA0⟩ : ∃ A, A = abC x0 := ⟨_, rfl⟩
  have q0 : A0.length = 5 := by rw [hA0]; rfl
  have q1 : List.take 5 A0 = A0 := List.take_of_length_le (Nat.le_of_eq q0)
  have q2 : ∀ h2 : 1 < A0.length, A0[1]'h2 = .v (.int .u8 (x0.a.toNat : Nat)) := fun _ => by subst hA0; rfl
  have q3 : ∀ h2 : 2 < A0.length, A0[2]'h2 = .v (.int .u8 (x0.b.toNat : Nat)) := fun _ => by subst hA0; rfl
  have q4 : ∀ h2 : 3 < A0.length, A0[3]'h2 = .sl 5 (coinsC x0.l) x0.l.length .shut := fun _ => by subst hA0; rfl
  rw [← hA0] at hco ⊢
  obtain ⟨τ, hτ⟩ : ∃ τ, τ = ({ σ with objs := σ.objs ++ [A0] } : St) := ⟨_, rfl⟩
  have hτl : τ.objs.length = σ.objs.length + 1 := by rw [hτ]; simp
  have hlen := Sp.len τ
  rw [hτl] at hlen
  have gA : ∀ G l, (Sp τ G l).objs[σ.objs.length]? = some A0 := fun G l => by rw [hτ]; simp [Sp]
  have gA2 : ∀ G l (h2 : σ.objs.length < (Sp τ G l).objs.length), (Sp τ G l).objs[σ.objs.length]'h2 = A0 := fun G l h2 => (List.getElem?_eq_some_iff.1 (gA G l)).2
  have hnew : CallsA Try.prog 16 [] { σ with objs := σ.objs ++ [A0] } (fun av σ' => av = .ptr (σ.objs.length + 1) 0 ∧ σ' = Sp τ newSg []) := by
    have := newSp_ok (σ := τ)
    rw [hτl] at this; rw [hτ] at this ⊢; exact this
  have hse : ∀ {n : Nat} {G : Sg} {T : Tb} {p q : UInt8} (ls : List (List AV)), BankS G.s T n → SumT T → n ≤ 900 → CallsA Try.prog 34 [.ptr (σ.objs.length + 1) 0, .v (.int .u8 p.toNat), .v (.int .u8 q.toNat), .sl 5 (coinsC L) L.length .shut] (Sp τ G ls) (fun av σ' => ∃ G', BankS G'.s (sendB T p q L).T (n + 16) ∧ av = .v (.int .i64 ((sendB T p q L).e : Nat)) ∧ σ' = Sp τ G' ls) := fun {n G T p q} ls hi hs hn => by
    have := send_ok2 (a := p) (b := q) (l := L) (Sp.has τ G ls) hi hs hn hLl
    rw [hτl] at this
    exact callsA_mono this (fun av σ' ⟨G', e1, e2, e3⟩ => ⟨G', e1, e2, by rw [e3, ← hτl, Sp.put]⟩)
  have hdo : ∀ {n : Nat} {G : Sg} {T : Tb} {x : AB}, BkI G.s T n → n ≤ 900 → x.Ok → CallsA Try.prog 17 [.ptr (σ.objs.length + 1) 0, .ptr (σ.objs.length + 1 + 1) 0, .agg (abC x)] (Sp τ G [bC T]) (fun av σ' => ∃ G' T', BkI G'.s T' (n + 16) ∧ av = .v (.bool true) ∧ σ' = Sp τ G' [bC T']) := fun {n G T x} hi hn hx => by
    have := does9 (σ := τ) hi hn hx
    rw [hτl] at this; exact this
  have hsa : ∀ {n : Nat} {G : Sg} {T : Tb}, BankS G.s T n → n ≤ 1000 → CallsA Try.prog 28 [.ptr (σ.objs.length + 1) 0, .ptr (σ.objs.length + 1 + 1) 0] (Sp τ G [bC T]) (fun av σ' => av = .v (.bool true) ∧ Sp τ G [bC T] = σ') := fun {n G T} hi hn => by
    have := same09_ok (Sp.has τ G [bC T]) (Sp.sb τ G T) hi hn
    rw [hτl] at this; exact this
  have F := And.intro hlc (And.intro hlen (And.intro q0 (And.intro q1 (And.intro q2 (And.intro q3 (And.intro q4 (And.intro gA (And.intro gA2 (True.intro)))))))))
  refine callsA_body Try.func8 rfl rfl rfl ?_; refine sr fun _ hJ2 => ?_; refine hJ2 _ _ ?_; refine sq fun K3 hK3 => ?_; refine sr fun _ hJ5 => ?_; refine ca (c := sends_ok) (k := ?_); rintro _ _ ⟨rfl, rfl⟩; (repeat (first | simp [F] | simp (disch := omega) only [wC, if_pos, if_neg])); refine go2 (k := ?_); refine ca (c := few09_ok hl) (k := ?_); rintro _ _ ⟨b, hbf, rfl, rfl⟩; (repeat (first | simp [F] | simp (disch := omega) only [wC, if_pos, if_neg])); refine go2 (k := ?_); refine gs 18 (fun g1_7 => ?_) (fun g1_7 => ?_)
  · (try exact nope g1_7); all_goals have g1_7p := g1_7; try simp [F] at g1_7p
    all_goals
     replace F := aF g1_7 F; (try replace F := aF g1_7p F); (iterate 4 refine no2 (k := ?_)); refine hJ5 _ _ ?_; refine ct ?_; refine sr fun _ hJ7 => ?_; refine ca (c := sends_ok) (k := ?_); rintro _ _ ⟨rfl, rfl⟩; (repeat (first | simp [F] | simp (disch := omega) only [wC, if_pos, if_neg])); refine hJ7 _ _ ?_; refine ra ?_; exact gcr
  (try exact nope g1_7); all_goals have g1_7p := g1_7; try simp [F] at g1_7p
  all_goals
   replace F := aF g1_7 F; (try replace F := aF g1_7p F); (iterate 4 refine go2 (k := ?_)); refine hJ5 _ _ ?_; refine cs (fun c23 => ?_) (fun c23 => ?_)
   · (try exact nope c23); all_goals have c23p := c23; try simp [F] at c23p
     all_goals
      replace F := aF c23 F; (try replace F := aF c23p F); refine sr fun _ hJ9 => ?_; refine ca (c := sends_ok) (k := ?_); rintro _ _ ⟨rfl, rfl⟩; (repeat (first | simp [F] | simp (disch := omega) only [wC, if_pos, if_neg])); refine hJ9 _ _ ?_; refine ra ?_; exact gcr
   (try exact nope c23); all_goals have c23p := c23; try simp [F] at c23p
   all_goals
    replace F := aF c23 F; try replace F := aF c23p F
    have h30 : l.length ≤ 30 := hbf (by have h := g1_7; first | (simpa using h) | (have h := c23; simp at h; exact h.1))
    refine run_skip ?_; refine hK3 _ _ ?_; refine sr fun _ hJ11 => ?_; refine ca (c := hnew) (k := ?_); rintro _ _ ⟨rfl, rfl⟩; (repeat (first | simp [F] | simp (disch := omega) only [wC, if_pos, if_neg])); refine hJ11 _ _ ?_; refine sq fun K12 hK12 => ?_; refine sq fun K13 hK13 => ?_; refine run_newB τ ?_; refine rg' (h := fun J14 hJ14 => ?_); refine hJ14 _ _ ?_; refine hK13 _ _ ?_; refine run_block_k ?_; refine run_loopF (X := FB) [0, 3, 4, 5, 6] (fun x ρ σ1 => (x.i ≤ l.length) ∧ (BkI x.G.s x.T (x.i * 16)) ∧ (ρ 7 = .v (.int .i64 x.i)) ∧ (σ1 = Sp τ x.G [bC x.T])) (fun x => l.length - x.i) (⟨0, newSg, tb0⟩) ?st1 ?rd1
    case st1 =>
     refine ⟨lp, ?_, lp, lp⟩
     · exact BkI.nil
    case rd1 =>
     rintro x ρ1 σ1 hF1 ⟨h1, h2, h5, hσ⟩; obtain rfl := hσ.symm
     have f1 := keepL hF1
     (try simp [KeepL, F] at f1); replace F := aF h5 F; (try replace F := aF f1 F); refine sq fun K15 hK15 => ?_; refine sr fun _ hJ17 => ?_; refine hJ17 _ _ ?_; refine cs (fun c31 => ?_) (fun c31 => ?_)
     · (try exact nope c31); all_goals have c31p := c31; try simp [F] at c31p
       all_goals
        replace F := aF c31 F; try replace F := aF c31p F
        have hlt : x.i < l.length := by have h := c31; simp at h; omega
        obtain ⟨R, hR⟩ := absC_at hlt
        obtain ⟨a, ha⟩ : ∃ a, a = l[x.i] := ⟨_, rfl⟩
        rw [← ha] at hR
        have hao : a.Ok := hb a (by rw [ha]; exact List.getElem_mem _)
        have hR3 : List.take 5 (List.drop (x.i * 5) (absC l)) = abC a := by rw [hR]; exact List.take_left' (abC_len a)
        have d3 : x.i * 5 + 5 ≤ l.length * 5 := by omega
        have hi1 : x.i + 1 ≤ l.length := hlt
        have hwi : IntKind.i64.wrap ((x.i : Int) + 1) = (x.i : Int) + 1 := wrap_i64 _ (by omega) (by omega)
        have k2 := hdo h2 (by omega) hao
        have hcl : (∀ x, x ∈ abC a → x.isCell = true) = True := eq_true (cellAB a)
        have hAl : (abC a).length = 5 := rfl
        have hAt : List.take 5 (abC a) = abC a := List.take_of_length_le (Nat.le_of_eq hAl)
        obtain ⟨A, hA⟩ : ∃ A, A = abC a := ⟨_, rfl⟩
        rw [← hA] at hR3 hcl hAl hAt k2
        simp only [AV.isCell] at hcl
        replace F := aF hlt (And.intro hR3 (And.intro d3 (And.intro hi1 (And.intro hwi (And.intro hcl (And.intro hAl (And.intro hAt F))))))); refine run_skip ?_; refine hK15 _ _ ?_; refine sq fun K18 hK18 => ?_; refine run_block_k ?_; refine rg' (h := fun J19 hJ19 => ?_); refine ca (c := k2) (k := ?_); rintro _ _ ⟨G1, T1, e1, rfl, rfl⟩; (repeat (first | simp [F] | simp (disch := omega) only [wC, if_pos, if_neg])); refine hJ19 _ _ ?_; refine hK18 _ _ ?_; refine rg' (h := fun J20 hJ20 => ?_); refine hJ20 _ _ ?_; refine ⟨(⟨x.i + 1, G1, T1⟩), ⟨kp, lp, ?_, lp, lp⟩, lp⟩
        · have e : (x.i + 1) * 16 = x.i * 16 + 16 := by omega
          rw [e]
          exact e1
     (try exact nope c31); all_goals have c31p := c31; try simp [F] at c31p
     all_goals
      replace F := aF c31 F; (try replace F := aF c31p F); refine run_exit ?_; refine hK12 _ _ ?_; refine sq fun K21 hK21 => ?_
      refine run_draw (by kernel_rfl) fun J22 hJ22 => ?_
      refine rp2 0 (k := ?_); refine rp2 1 (k := ?_); refine rp2 3 (k := ?_); refine rp2 4 (k := ?_); refine rp2 6 (k := ?_); refine dc 2 rfl (c := hx1 _) (k := ?_); rintro _ _ ⟨rfl, rfl⟩
      refine ⟨by first | exact fun _ _ h => h | (refine later_list [6, 4, 3, 0] (by kernel_rfl) (List.forall_mem_cons.2 ⟨fun _ => fact2 rfl rfl ?_, List.forall_mem_cons.2 ⟨fun _ => fact2 rfl rfl ?_, List.forall_mem_cons.2 ⟨fun _ => fact2 rfl rfl ?_, List.forall_mem_cons.2 ⟨fun _ => fact2 rfl rfl ?_, fun _ h => absurd h List.not_mem_nil⟩⟩⟩⟩) <;> constructor <;> first | rfl | (simp [F]; done)), ?_⟩
      (repeat (first | simp [F] | simp (disch := omega) only [wC, if_pos, if_neg])); refine dc 5 rfl (c := hx2 _) (k := ?_); rintro _ _ ⟨rfl, rfl⟩
      refine ⟨by first | exact fun _ _ h => h | (refine later_list [6, 3, 0] (by kernel_rfl) (List.forall_mem_cons.2 ⟨fun _ => fact2 rfl rfl ?_, List.forall_mem_cons.2 ⟨fun _ => fact2 rfl rfl ?_, List.forall_mem_cons.2 ⟨fun _ => fact2 rfl rfl ?_, fun _ h => absurd h List.not_mem_nil⟩⟩⟩) <;> constructor <;> first | rfl | (simp [F]; done)), ?_⟩
      (repeat (first | simp [F] | simp (disch := omega) only [wC, if_pos, if_neg])); refine dc 7 rfl (c := hco _) (k := ?_); rintro _ _ ⟨rfl, rfl⟩
      refine ⟨by first | exact fun _ _ h => h | (refine later_list [3, 0] (by kernel_rfl) (List.forall_mem_cons.2 ⟨fun _ => fact2 rfl rfl ?_, List.forall_mem_cons.2 ⟨fun _ => fact2 rfl rfl ?_, fun _ h => absurd h List.not_mem_nil⟩⟩) <;> constructor <;> first | rfl | (simp [F]; done)), ?_⟩
      (repeat (first | simp [F] | simp (disch := omega) only [wC, if_pos, if_neg])); refine rp2 8 (k := ?_); refine rp2 9 (k := ?_); refine rp2 10 (k := ?_); refine dd ?_; refine hJ22 _ _ ?_; refine hK21 _ _ ?_; refine sq fun K23 hK23 => ?_; refine sr fun _ hJ25 => ?_
      refine ca (c := hse (p := a) (q := b0) _ h2.bk h2.sm (by omega)) (k := ?_)
      rintro _ _ ⟨G1, e1, rfl, rfl⟩; (repeat (first | simp [F] | simp (disch := omega) only [wC, if_pos, if_neg])); refine hJ25 _ _ ?_; refine cs (fun c54 => ?_) (fun c54 => ?_)
      · (try exact nope c54); all_goals have c54p := c54; try simp [F] at c54p
        all_goals
         replace F := aF c54 F; try replace F := aF c54p F
         have he : (sendB x.T a b0 L).e ≠ 0 := by have h := c54; simp at h; exact h
         rw [sendB_no he] at e1
         refine sr fun _ hJ27 => ?_
         refine ca (c := hsa e1 (by omega)) (k := ?_)
         rintro _ _ ⟨rfl, rfl⟩; (repeat (first | simp [F] | simp (disch := omega) only [wC, if_pos, if_neg])); refine hJ27 _ _ ?_; refine ra ?_
         rw [hτ]
         simp only [Sp, List.append_assoc]
         exact gcr
      (try exact nope c54); all_goals have c54p := c54; try simp [F] at c54p
      all_goals
       replace F := aF c54 F; try replace F := aF c54p F
       have he : (sendB x.T a b0 L).e = 0 := by have h := c54; simpa using h
       refine run_skip ?_; refine hK23 _ _ ?_; refine sq fun K28 hK28 => ?_; refine sr fun _ hJ30 => ?_; refine gs 61 (fun g11_3 => ?_) (fun g11_3 => ?_)
       · (try exact nope g11_3); all_goals have g11_3p := g11_3; try simp [F] at g11_3p
         all_goals
          replace F := aF g11_3 F; try replace F := aF g11_3p F
          have hne : a ≠ b0 := by intro q; have h := g11_3; simp [q] at h
          have hback := sendB_back h2.sm h2.bk.rt he hne
          have k3 := hse (p := b0) (q := a) [bC x.T] e1 (sumT_send h2.sm) (by omega)
          rw [hback] at k3
          simp only at k3
          (iterate 4 refine go2 (k := ?_)); refine ca (c := k3) (k := ?_); rintro _ _ ⟨G2, e2, rfl, rfl⟩; (repeat (first | simp [F] | simp (disch := omega) only [wC, if_pos, if_neg])); refine go2 (k := ?_); refine hJ30 _ _ ?_; refine cf ?_; refine run_skip ?_; refine hK28 _ _ ?_; refine sr fun _ hJ32 => ?_
          refine ca (c := (by first | exact hsa e2 (by omega) | exact hsa e4 (by omega))) (k := ?_)
          rintro _ _ ⟨rfl, rfl⟩; (repeat (first | simp [F] | simp (disch := omega) only [wC, if_pos, if_neg])); refine hJ32 _ _ ?_; refine ra ?_
          rw [hτ]
          simp only [Sp, List.append_assoc]
          exact gcr
       (try exact nope g11_3); all_goals have g11_3p := g11_3; try simp [F] at g11_3p
       all_goals
        replace F := aF g11_3 F; try replace F := aF g11_3p F
        have heq : a = b0 := by have h := g11_3; simp at h; exact UInt8.toNat_inj.1 (by omega)
        have e4 := e1
        rw [← heq, sendB_self h2.bk.rt h2.sm] at e4
        (iterate 6 refine no2 (k := ?_)); refine hJ30 _ _ ?_; refine cf ?_; refine run_skip ?_; refine hK28 _ _ ?_; refine sr fun _ hJ34 => ?_
        refine ca (c := (by first | exact hsa e2 (by omega) | exact hsa e4 (by omega))) (k := ?_)
        rintro _ _ ⟨rfl, rfl⟩; (repeat (first | simp [F] | simp (disch := omega) only [wC, if_pos, if_neg])); refine hJ34 _ _ ?_; refine ra ?_
        rw [hτ]
        simp only [Sp, List.append_assoc]
        exact gcr
end Go.Proofs.Ytmponlabfccjaaa

/-
  Plans: what they are, when they are right.
-/
namespace Go.Vm
open Go

structure Per where
  l : Nat
  c : List Coin
deriving DecidableEq

structure Pln where
  k : UInt8
  s : Nat
  e : Nat
  tot : List Coin
  ps : List Per
deriving DecidableEq

def perC (p : Per) : List AV := [.v (.int .u64 p.l), .sl 5 (coinsC p.c) p.c.length .shut]
def persC (l : List Per) : List AV := l.flatMap perC
@[simp] theorem persC_nil : persC [] = [] := rfl
@[simp] theorem persC_len (l : List Per) : (persC l).length = l.length * 2 := flat_length perC 2 (fun _ => rfl) l
def Pln.Ok (p : Pln) : Prop := p.s < 2 ^ 64 ∧ p.e < 2 ^ 64 ∧ p.tot.length ≤ 9223372036854775807 ∧ p.ps.length ≤ 9223372036854775807 ∧ ∀ x ∈ p.ps, x.l < 2 ^ 64 ∧ x.c.length ≤ 9223372036854775807

structure PerQ where
  i : Nat
  e : Nat
  a : List Coin

section
variable {P : Program} {z : Zone} {N : Nat} {σ : St} {ρ : Nat → AV}
end

def lenS : List Per → Nat
  | [] => 0
  | x :: l => x.l + lenS l
def sumL : List Per → List Coin → List Coin
  | [], a => a
  | x :: l, a => sumL l (cAddL a x.c)
end Go.Vm

/-
  Plans that are made of numbers: they are right.
-/
namespace Go.Vm
set_option linter.unnecessarySimpa false
set_option linter.unusedSimpArgs false
set_option linter.unusedVariables false
open Go

structure Pc where
  l : Nat
  c : List Coin
structure Mad where
  k : UInt8
  s : Nat
  n : Nat
  c : List Coin
  ps : List Pc
def Mad.Ok (m : Mad) : Prop := m.s < 2 ^ 32 ∧ m.n < 2 ^ 16 ∧ ∀ x ∈ m.ps, x.l < 2 ^ 16
def pcC (x : Pc) : List AV := [.v (.int .u16 x.l), .sl 5 (coinsC x.c) x.c.length .shut]
def pcsC (l : List Pc) : List AV := l.flatMap pcC
@[simp] theorem pcsC_nil : pcsC [] = [] := rfl
@[simp] theorem pcsC_len (l : List Pc) : (pcsC l).length = l.length * 2 := flat_length pcC 2 (fun _ => rfl) l
def PerOk (x : Per) : Prop := 0 < x.l ∧ x.l ≤ 2 ^ 16 ∧ x.c ≠ [] ∧ Right x.c ∧ ∀ d, d < 8 → amt x.c d < 2 ^ 250
structure Fine (p : Pln) : Prop where
  ok : p.Ok
  tot : Right p.tot
  kinds : p.k = 0 ∨ p.k = 1 ∨ p.k = 2 ∨ p.k = 3 ∨ p.k = 4 ∨ p.k = 5
  zero : p.k = 0 → p = ⟨0, 0, 0, [], []⟩
  even : p.k = 1 → p.s < p.e
  late : p.k = 2 → p.s = 0
  small : p.s + lenS p.ps ≤ 2 ^ 40
  pers : ∀ x ∈ p.ps, PerOk x
  steps : p.k = 3 ∨ p.k = 5 → p.e = p.s + lenS p.ps ∧ p.tot = sumL p.ps [] ∧ p.ps ≠ [] ∧ p.ps.length ≤ 16
end Go.Vm

/-
  Messages: what they are, what a kind has, when they are right.
-/
namespace Go.Vm
set_option linter.unnecessarySimpa false
set_option linter.unusedSimpArgs false
open Go

structure Out where
  t : UInt8
  c : List Coin
deriving DecidableEq
structure Msg where
  k : UInt8
  f : UInt8
  s : Nat
  fee : List Coin
  t : UInt8
  v : UInt8
  o : UInt8
  n : Num
  c : List Coin
  outs : List Out
  p : Pln
  tm : Nat
  pt : Nat
  j : Bool
deriving DecidableEq

def outC (x : Out) : List AV := [.v (.int .u8 x.t.toNat), .sl 5 (coinsC x.c) x.c.length .shut]
def outsC (l : List Out) : List AV := l.flatMap outC
@[simp] theorem outsC_nil : outsC [] = [] := rfl
@[simp] theorem outsC_len (l : List Out) : (outsC l).length = l.length * 2 := flat_length outC 2 (fun _ => rfl) l
structure Msg.Ok (m : Msg) : Prop where
  s : m.s < 2 ^ 64
  fee : m.fee.length ≤ 9223372036854775807
  c : m.c.length ≤ 9223372036854775807
  outs : m.outs.length ≤ 9223372036854775807
  out : ∀ x ∈ m.outs, x.c.length ≤ 9223372036854775807
  p : m.p.Ok
  tm : m.tm < 2 ^ 64
  pt : m.pt < 2 ^ 16

def outA (b : Bool) (l : List Out) : AV := bif b then .sl 2 (outsC l) l.length .shut else .sl 0 [] 0 .full
@[simp] theorem outA_yes (l : List Out) : outA true l = .sl 2 (outsC l) l.length .shut := rfl
@[simp] theorem outA_no (l : List Out) : outA false l = .sl 0 [] 0 .full := rfl
def perA (b : Bool) (l : List Per) : AV := bif b then .sl 2 (persC l) l.length .shut else .sl 0 [] 0 .full
@[simp] theorem perA_yes (l : List Per) : perA true l = .sl 2 (persC l) l.length .shut := rfl
@[simp] theorem perA_no (l : List Per) : perA false l = .sl 0 [] 0 .full := rfl

end Go.Vm

/-
  Arguments: numbers, lists of coins, plans.
-/
namespace Go.Vm
set_option linter.unnecessarySimpa false
set_option linter.unusedVariables false
open Go

theorem leavesF_mono {go go' : TypeId → Option (List TypeId)} (h : ∀ t l, go t = some l → go' t = some l) : ∀ (fs : List Field) (acc ls : List TypeId), leavesF go fs acc = some ls → leavesF go' fs acc = some ls
  | [], acc, ls, e => e
  | f :: fs, acc, ls, e => by
    simp only [leavesF] at e ⊢
    split at e
    · rename_i hf
      rw [if_pos hf]
      cases hg : go f.type with
      | none => rw [hg] at e; cases e
      | some l =>
        rw [hg] at e
        rw [h _ _ hg]
        exact leavesF_mono h fs _ ls e
    · cases e

theorem leaves_succ {P : Program} : ∀ (n : Nat) (t : TypeId) (l : List TypeId), leaves P n t = some l → leaves P (n + 1) t = some l
  | 0, t, l, h => by simp [leaves] at h
  | n + 1, t, l, h => by
    have ih := leaves_succ (P := P) n
    rw [leaves] at h ⊢
    split at h
    · exact h
    · exact h
    · exact h
    · rename_i e hu
      cases hg : leaves P n e with
      | none => rw [hg] at h; cases h
      | some l' => rw [hg] at h; simp only [ih _ _ hg]; exact h
    · rename_i fs hu
      cases hg : leavesF (leaves P n) fs.toList [] with
      | none => rw [hg] at h; cases h
      | some l' => rw [hg] at h; simp only [leavesF_mono ih _ _ _ hg]; exact h
    · rename_i k e hu
      cases hg : leaves P n e with
      | none => rw [hg] at h; cases h
      | some l' => rw [hg] at h; simp only [ih _ _ hg]; exact h
    · cases h

theorem leaves_add {P : Program} {n : Nat} {t : TypeId} {l : List TypeId} (h : leaves P n t = some l) : ∀ k, leaves P (n + k) t = some l
  | 0 => h
  | k + 1 => leaves_succ _ _ _ (leaves_add h k)
theorem leaves_one {P : Program} {n m : Nat} {t : TypeId} {l l' : List TypeId} (h : leaves P n t = some l) (h' : leaves P m t = some l') : l = l' := by
  have h1 := leaves_add h m
  have h2 := leaves_add h' n
  rw [Nat.add_comm] at h2
  rw [h1] at h2
  exact Option.some.inj h2

theorem join4' {a b c d : Nat} (ha : a < 2 ^ 64) (hb : b < 2 ^ 64) (hc : c < 2 ^ 64) (hd : d < 2 ^ 64) : ∃ x, x < 2 ^ 256 ∧ limb x 0 = a ∧ limb x 1 = b ∧ limb x 2 = c ∧ limb x 3 = d := by
  refine ⟨a + 2 ^ 64 * (b + 2 ^ 64 * (c + 2 ^ 64 * d)), ?_, ?_, ?_, ?_, ?_⟩ <;> (try simp only [limb, Nat.reduceMul, Nat.reducePow]) <;> omega

theorem u64_of' {P : Program} {u : TypeId} {a : AV} (hu : P.underlying u = some (.int .u64)) (w : WC P u a) : ∃ n : Nat, n < 2 ^ 64 ∧ a = .v (.int .u64 n) := by
  cases w with
  | bool h => rw [hu] at h; cases h
  | string h _ => rw [hu] at h; cases h
  | slice h _ _ _ _ => rw [hu] at h; cases h
  | int h hw =>
    rename_i k n
    rw [hu] at h
    cases h
    have m1 : IntKind.u64.min = 0 := rfl
    have m2 : IntKind.u64.max = 18446744073709551615 := rfl
    simp [Lit.wf, m1, m2] at hw
    exact ⟨n.toNat, by omega, by congr 2; omega⟩
theorem u8_of {P : Program} {u : TypeId} {a : AV} (hu : P.underlying u = some (.int .u8)) (w : WC P u a) : ∃ b : UInt8, a = .v (.int .u8 b.toNat) := by
  cases w with
  | bool h => rw [hu] at h; cases h
  | string h _ => rw [hu] at h; cases h
  | slice h _ _ _ _ => rw [hu] at h; cases h
  | int h hw =>
    rename_i k n
    rw [hu] at h
    cases h
    have m1 : IntKind.u8.min = 0 := rfl
    have m2 : IntKind.u8.max = 255 := rfl
    simp [Lit.wf, m1, m2] at hw
    refine ⟨UInt8.ofNat n.toNat, ?_⟩
    have e : (UInt8.ofNat n.toNat).toNat = n.toNat := toNat_u8 (by omega)
    rw [e]
    congr 2; omega

theorem num_of {P : Program} {u : TypeId} {a b c d : AV} (hu : P.underlying u = some (.int .u64)) (ha : WC P u a) (hb : WC P u b) (hc : WC P u c) (hd : WC P u d) : ∃ x : Num, [a, b, c, d] = numA x.v := by
  obtain ⟨na, ga, rfl⟩ := u64_of' hu ha
  obtain ⟨nb, gb, rfl⟩ := u64_of' hu hb
  obtain ⟨nc, gc, rfl⟩ := u64_of' hu hc
  obtain ⟨nd, gd, rfl⟩ := u64_of' hu hd
  obtain ⟨x, hx, x0, x1, x2, x3⟩ := join4' ga gb gc gd
  exact ⟨⟨x, hx⟩, by simp [numA, x0, x1, x2, x3]⟩

theorem groups {P : Program} {α : Type} {f : α → List AV} {ls : List TypeId} (hl : 0 < ls.length) (hf : ∀ a, (f a).length = ls.length)
    (one : ∀ cs : List AV, cs.length = ls.length → (∀ (j : Nat) a u, cs[j]? = some a → ls[j]? = some u → WC P u a) → ∃ x, cs = f x) :
    ∀ (n : Nat) (cs : List AV), cs.length = n * ls.length → (∀ (j : Nat) a u, cs[j]? = some a → ls[j % ls.length]? = some u → WC P u a) → ∃ l : List α, l.length = n ∧ cs = l.flatMap f
  | 0, cs, h, _ => ⟨[], rfl, by simpa using h⟩
  | n + 1, cs, h, hc => by
    have hle : ls.length ≤ cs.length := by rw [h, Nat.add_mul]; omega
    obtain ⟨x, hx⟩ := one (cs.take ls.length) (by simp; omega) (fun j a u ha hu => by
      have hj : j < ls.length := (List.getElem?_eq_some_iff.1 hu).1
      rw [List.getElem?_take, if_pos hj] at ha
      exact hc j a u ha (by rw [Nat.mod_eq_of_lt hj]; exact hu))
    obtain ⟨l, hln, hl2⟩ := groups hl hf one n (cs.drop ls.length) (by rw [List.length_drop, h, Nat.add_mul]; omega) (fun j a u ha hu => by
      rw [List.getElem?_drop] at ha
      exact hc (ls.length + j) a u ha (by rw [Nat.add_mod_left]; exact hu))
    exact ⟨x :: l, by simp [hln], by rw [List.flatMap_cons, ← hx, ← hl2, List.take_append_drop]⟩

theorem coins_of {P : Program} {t e tb u : TypeId} {k : Nat} {a : AV} (ht : P.underlying t = some (.slice e)) (hle : leaves P k e = some [tb, u, u, u, u]) (hb : P.underlying tb = some (.int .u8)) (hu : P.underlying u = some (.int .u64)) (w : WC P t a) : ∃ L : List Coin, a = .sl 5 (coinsC L) L.length .shut := by
  cases w with
  | bool h => rw [ht] at h; cases h
  | string h _ => rw [ht] at h; cases h
  | int h _ => rw [ht] at h; cases h
  | slice h hls hl hn hc =>
    rw [ht] at h
    cases h
    rename_i fuel ls cs n
    obtain rfl := leaves_one hle hls
    obtain ⟨L, hL, rfl⟩ := groups (f := coinC) (ls := [tb, u, u, u, u]) (by simp) (fun _ => rfl) (fun cs h1 h2 => by
      obtain ⟨a0, a1, a2, a3, a4, rfl⟩ : ∃ a0 a1 a2 a3 a4, cs = [a0, a1, a2, a3, a4] := by
        match cs, h1 with
        | [a0, a1, a2, a3, a4], _ => exact ⟨a0, a1, a2, a3, a4, rfl⟩
      obtain ⟨b, hb⟩ := u8_of hb (h2 0 a0 tb rfl rfl)
      obtain ⟨x, hx⟩ := num_of hu (h2 1 a1 u rfl rfl) (h2 2 a2 u rfl rfl) (h2 3 a3 u rfl rfl) (h2 4 a4 u rfl rfl)
      exact ⟨⟨b, x⟩, by rw [hb, hx]; rfl⟩) n cs hl hc
    exact ⟨L, by rw [← hL]; rfl⟩

theorem wc_len {P : Program} {t : TypeId} {sz n : Nat} {cs : List AV} {tl : Tail} (w : WC P t (.sl sz cs n tl)) : n ≤ 9223372036854775807 := by
  generalize hx : AV.sl sz cs n tl = x at w
  cases w with
  | bool h => cases hx
  | string h _ => cases hx
  | int h _ => cases hx
  | slice h hls hl hn hc => cases hx; exact hn

theorem bool_of {P : Program} {u : TypeId} {a : AV} (hu : P.underlying u = some .bool) (w : WC P u a) : ∃ b : Bool, a = .v (.bool b) := by
  cases w with
  | int h _ => rw [hu] at h; cases h
  | string h _ => rw [hu] at h; cases h
  | slice h _ _ _ _ => rw [hu] at h; cases h
  | bool h => exact ⟨_, rfl⟩
end Go.Vm

/-
  Arguments: deeds of a bank.
-/
namespace Go.Proofs.Ytmponlabfccjaaa
set_option linter.unnecessarySimpa false
set_option maxRecDepth 100000
open Go Go.Vm
set_option linter.unusedSimpArgs false
set_option linter.unusedVariables false
attribute [local simp] evalL wantedA isCall opA evalA evalAll evalsA evalOpt ofValue ofCell plain binA_eql_pn binA_neq_pn binA_gtr binA_lss binA_geq binA_leq binA_add binA_sub binA_eql binA_neq binA_orI binA_shl binA_shr binA_mul binA_quo binA_rem binA_agg_eql binA_agg_neq convA_int unA_not fieldAddrA loadA partA pickA_true pickA_false pickA_bb lenA builtinA storeA splice AV.cells AV.isCell sliceA boundA intA callOf indexAddrA newObjA buildA fillA zeroA ofCells buildSliceA indexA fieldA set_appN get_appN take_appN List.getElem?_cons_zero List.getElem?_cons_succ get_sa0 get_sa1 get_sa2 get_sa3 set_sa0 set_sa1 set_sa2 set_sa3 sliceRowA binA_eqn binA_neqn drop_mr

theorem ab_cells {P : Program} {k2 : Nat} {u b t c ec : TypeId} {a0 a1 a2 a3 a4 : AV} (hu : P.underlying u = some (.int .u64)) (hb : P.underlying b = some (.int .u8)) (ht : P.underlying t = some .bool) (hc : P.underlying c = some (.slice ec)) (hlc : leaves P k2 ec = some [b, u, u, u, u]) (h0 : WC P b a0) (h1 : WC P b a1) (h2 : WC P b a2) (h3 : WC P c a3) (h4 : WC P t a4) : ∃ e : AB, [a0, a1, a2, a3, a4] = abC e ∧ e.Ok := by
  obtain ⟨x0, rfl⟩ := u8_of hb h0
  obtain ⟨x1, rfl⟩ := u8_of hb h1
  obtain ⟨x2, rfl⟩ := u8_of hb h2
  obtain ⟨L, hL⟩ := coins_of hc hlc hb hu h3
  obtain ⟨x4, rfl⟩ := bool_of ht h4
  subst hL
  exact ⟨⟨x0, x1, x2, L, x4⟩, rfl, wc_len h3⟩

theorem ab_arg {P : Program} {k2 : Nat} {u b t c ec : TypeId} {n : Nat} {ty : TypeId} {H : Type} {enc : TypeId × Value → H} {W : World} {spare : Nat → Bool} {cs : Array Value} {d : DataW H} {ps : List MemPlace} (hl : leaves P n ty = some [b, b, b, c, t]) (hu : P.underlying u = some (.int .u64)) (hb : P.underlying b = some (.int .u8)) (ht : P.underlying t = some .bool) (hc : P.underlying c = some (.slice ec)) (hlc : leaves P k2 ec = some [b, u, u, u, u])
    (h : DataW.Trod enc P W 0 spare true ty (.agg cs) d ps) : ∃ e : AB, e.Ok ∧ AVR (atFirst W) W (.agg cs) (.agg (abC e)) := by
  obtain ⟨l, h1, h2, h3, h4⟩ := open_arg hl h
  have hc9 : Value.cells (.agg cs) = cs := rfl
  rw [hc9] at h2 h3
  match l, h1, h2, h3, h4 with
  | [a0, a1, a2, a3, a4], _, h2, h3, h4 =>
    obtain ⟨e, he, ho⟩ := ab_cells hu hb ht hc hlc (h4 0 a0 _ rfl rfl) (h4 1 a1 _ rfl rfl) (h4 2 a2 _ rfl rfl) (h4 3 a3 _ rfl rfl) (h4 4 a4 _ rfl rfl)
    rw [he] at h2 h3
    exact ⟨e, ho, .agg h2 h3⟩

theorem abs_of {P : Program} {k2 : Nat} {u b t c ec : TypeId} {k : Nat} {ty e : TypeId} {a : AV} (hty : P.underlying ty = some (.slice e)) (hle : leaves P k e = some [b, b, b, c, t]) (hu : P.underlying u = some (.int .u64)) (hb : P.underlying b = some (.int .u8)) (ht : P.underlying t = some .bool) (hc : P.underlying c = some (.slice ec)) (hlc : leaves P k2 ec = some [b, u, u, u, u]) (w : WC P ty a) :
    ∃ L : List AB, a = .sl 5 (absC L) L.length .shut ∧ L.length ≤ 9223372036854775807 ∧ ∀ x ∈ L, x.Ok := by
  cases w with
  | bool h => rw [hty] at h; cases h
  | string h _ => rw [hty] at h; cases h
  | int h _ => rw [hty] at h; cases h
  | slice h hls hl hn hcc =>
    rw [hty] at h
    cases h
    rename_i fuel ls cs n
    obtain rfl := leaves_one hle hls
    obtain ⟨L, hL, rfl⟩ := groups (α := { x : AB // x.Ok }) (f := fun x => abC x.1) (ls := [b, b, b, c, t]) (by simp) (fun _ => rfl) (fun cs h1 h2 => by
      match cs, h1, h2 with
      | [a0, a1, a2, a3, a4], _, h2 =>
        obtain ⟨e, e1, o1⟩ := ab_cells hu hb ht hc hlc (h2 0 a0 _ rfl rfl) (h2 1 a1 _ rfl rfl) (h2 2 a2 _ rfl rfl) (h2 3 a3 _ rfl rfl) (h2 4 a4 _ rfl rfl)
        exact ⟨⟨e, o1⟩, e1⟩) n cs hl hcc
    refine ⟨L.map Subtype.val, ?_, by rw [List.length_map, hL]; exact hn, fun x hx => ?_⟩
    · rw [List.length_map, hL]
      show AV.sl 5 _ n .shut = _
      congr 1
      simp [absC, List.flatMap_map]
    · obtain ⟨y, _, rfl⟩ := List.mem_map.1 hx
      exact y.2
theorem abs_arg {P : Program} {k2 : Nat} {u b t c ec : TypeId} {n k : Nat} {ty e : TypeId} {H : Type} {enc : TypeId × Value → H} {W : World} {spare : Nat → Bool} {ad : Option Addr} {m c9 : Nat} {d : DataW H} {ps : List MemPlace} (hl : leaves P n ty = some [ty]) (hty : P.underlying ty = some (.slice e)) (hle : leaves P k e = some [b, b, b, c, t]) (hu : P.underlying u = some (.int .u64)) (hb : P.underlying b = some (.int .u8)) (ht : P.underlying t = some .bool) (hc : P.underlying c = some (.slice ec)) (hlc : leaves P k2 ec = some [b, u, u, u, u])
    (h : DataW.Trod enc P W 0 spare true ty (.slice ad m c9) d ps) : ∃ L : List AB, L.length ≤ 9223372036854775807 ∧ (∀ x ∈ L, x.Ok) ∧ AVR (atFirst W) W (.slice ad m c9) (.sl 5 (absC L) L.length .shut) := by
  obtain ⟨l, h1, h2, h3, h4⟩ := open_arg hl h
  have hc9 : Value.cells (.slice ad m c9) = #[.slice ad m c9] := rfl
  obtain ⟨a, rfl⟩ : ∃ a, l = [a] := by
    match l, h1 with
    | [a], _ => exact ⟨a, rfl⟩
  obtain ⟨L, rfl, e1, e2⟩ := abs_of hty hle hu hb ht hc hlc (h4 0 a ty rfl rfl)
  exact ⟨L, e1, e2, h3 0 _ _ (by rw [hc9]; rfl) rfl⟩

end Go.Proofs.Ytmponlabfccjaaa
