import Derived.Test.YtmponlabfccjaaaZ7
import Derived.Test.YtmponlabfccjaaaZ14
import Derived.Test.YtmponlabfccjaaaZ10
/-
  Validators and delegations in a store: another one; of no store.
-/
namespace Go.Proofs.Ytmponlabfccjaaa
set_option linter.unnecessarySimpa false
set_option maxRecDepth 100000
open Go Go.Vm
set_option linter.unusedSimpArgs false
set_option linter.unusedVariables false
attribute [local simp] evalL wantedA isCall opA evalA evalAll evalsA evalOpt ofValue ofCell plain binA_eql_pn binA_neq_pn binA_gtr binA_lss binA_geq binA_leq binA_add binA_sub binA_eql binA_neq binA_orI binA_shl binA_shr binA_mul binA_quo binA_rem binA_agg_eql binA_agg_neq convA_int unA_not fieldAddrA loadA partA pickA_true pickA_false pickA_bb lenA builtinA storeA splice AV.cells AV.isCell sliceA boundA intA callOf indexAddrA newObjA buildA fillA zeroA ofCells buildSliceA indexA fieldA set_appN get_appN take_appN List.getElem?_cons_zero List.getElem?_cons_succ get_sa0 get_sa1 get_sa2 get_sa3 set_sa0 set_sa1 set_sa2 set_sa3 sliceRowA binA_eqn binA_neqn drop_mr

theorem pval_ok {σ : St} {o k n : Nat} {G : Sg} {W : Pw} {i : UInt8} (h : HasS σ o k G) (hi : PoolS G.s W n) (hn : n ≤ 1000) :
    CallsA Try.prog 39 [.ptr o 0, .v (.int .u8 i.toNat)] σ (fun av σ' => ∃ Z : List AV, (Z.length = 14 ∧ (∀ x, x ∈ Z → x.isCell = true) = True ∧ ∀ h2 : i.toNat < W.V.length, Z = vlC (W.V[i.toNat])) ∧ av = .tup [.agg Z, .v (.bool (decide (i.toNat < W.V.length)))] ∧ σ = σ') := by
  by_cases hl : i.toNat < W.V.length
  · have e : W.V[i.toNat].i = i := UInt8.toNat_inj.1 (hi.ids _ hl)
    have hg := hi.getV hl
    have := val_yes h hi.ok (by omega) (hi.rv _ (List.getElem_mem hl)) hg
    rw [e] at this
    exact callsA_mono this (fun av σ' ⟨e1, e2⟩ => ⟨vlC W.V[i.toNat], ⟨rfl, eq_true (cellV _), fun _ => rfl⟩, by rw [e1, decide_eq_true hl], e2⟩)
  · have := val_no (i := i) h hi.ok (by omega) (hi.noV (by omega))
    exact callsA_mono this (fun av σ' ⟨e1, e2⟩ => ⟨vl0C, ⟨rfl, eq_true (fun x hx => by simp only [vl0C, List.mem_cons, List.not_mem_nil, or_false] at hx; rcases hx with rfl | rfl | rfl | rfl | rfl | rfl | rfl | rfl | rfl | rfl | rfl | rfl | rfl | rfl <;> rfl), fun h2 => absurd h2 hl⟩, by rw [e1, decide_eq_false hl], e2⟩)

set_option maxHeartbeats 1600000 in
attribute [local simp] undefA List.getElem?_cons_zero List.getElem?_cons_succ in
theorem psetV_ok {σ : St} {o k n : Nat} {G : Sg} {W : Pw} {v : Vl} (h : HasS σ o k G) (hi : PoolS G.s W n) (hn : n ≤ 1000) (hv : v.Ok) :
    CallsA Try.prog 37 [.ptr o 0, .agg (vlC v)] σ (fun av σ' => ∃ G', PoolS G'.s (setVP W v).W (n + 1) ∧ av = .v (.int .i64 ((setVP W v).e : Nat)) ∧ σ' = putS σ o k G') := by
  obtain ⟨⟨PW, PI, PE⟩, hP0⟩ : ∃ P, P = setVP W v := ⟨_, rfl⟩
  rw [← hP0]
  simp only
  refine callsA_mono (callsA_gcX (X := { G' : Sg // PoolS G'.s PW (n + 1) }) (A := fun _ => .v (.int .i64 (PE : Nat))) (τ := fun x => putS σ o k x.1) ?_ (fun _ => rfl) (fun x => by simp [putS]) (fun x => rfl) (fun x => by simp [putS]) (fun x => rfl) (fun x => putS_o h _) (fun x => putS_r (o := o) (k := k) (σ := σ) _)) (fun av σ' ⟨x, e1, e2⟩ => ⟨x.1, x.2, e1, e2⟩)
  have hr1 := fun l => right1_ok (σ := { σ with objs := σ.objs ++ l }) hv
  have hva := fun l => pval_ok (i := v.i) (h.app l σ.toks) hi hn
  have hwr := fun hR l => write_ok (v := v) (h.app l σ.toks) hi.ok (by omega) hR
  have hpa := fun (G' : Sg) (l : List (List AV)) => putS_app h G' l
  have hself := putS_self h
  obtain ⟨Q, hQ⟩ : ∃ Q, Q = vlC v := ⟨_, rfl⟩
  have hQl : Q.length = 14 := by rw [hQ]; rfl
  have hQt : List.take 14 Q = Q := by subst hQ; rfl
  have hQ0 : ∀ h2 : 0 < Q.length, Q[0]'h2 = .v (.int .u8 (v.i.toNat : Nat)) := fun h2 => by subst hQ; rfl
  have hQh : Q.head? = some (.v (.int .u8 (v.i.toNat : Nat))) := by subst hQ; rfl
  simp only [← hQ] at hr1 hwr
  rw [← hQ]
  have F := And.intro hQl (And.intro hQt (And.intro hQ0 (True.intro)))
  refine callsA_body Try.func37 rfl rfl rfl ?_; refine sr fun _ hJ2 => ?_; refine hJ2 _ _ ?_; refine sq fun K3 hK3 => ?_; refine sr fun _ hJ5 => ?_; refine go2 (k := ?_); refine ca (c := hr1 _) (k := ?_); rintro _ _ ⟨rfl, rfl⟩; (repeat (first | simp [F] | simp (disch := omega) only [wC, if_pos, if_neg])); refine go2 (k := ?_); refine hJ5 _ _ ?_; refine cs (fun c13 => ?_) (fun c13 => ?_)
  · (try exact nope c13); all_goals have c13p := c13; try simp [F] at c13p
    all_goals
     replace F := aF c13 F; try replace F := aF c13p F
     have hR : ¬ RightV v := by have h := c13; simpa using h
     obtain ⟨rfl, rfl, rfl⟩ : PW = W ∧ PI = 0 ∧ PE = 1 := by rw [setVP, if_neg hR] at hP0; simpa using hP0
     refine sr fun _ hJ7 => ?_; refine hJ7 _ _ ?_; refine ra ?_; refine ⟨⟨G, hi.mono (Nat.le_succ _)⟩, ?_⟩
     rw [hself]
     exact gcr
  (try exact nope c13); all_goals have c13p := c13; try simp [F] at c13p
  all_goals
   replace F := aF c13 F; try replace F := aF c13p F
   have hR : RightV v := by have h := c13; simpa using h
   refine run_skip ?_; refine hK3 _ _ ?_; refine sq fun K8 hK8 => ?_; refine sr fun _ hJ10 => ?_; refine ca (c := hva _) (k := ?_); rintro _ _ ⟨Z, ⟨z1, z2, z3⟩, rfl, rfl⟩; simp only [AV.isCell] at z2
   replace F := aF z1 (And.intro z2 F); (repeat (first | simp [F] | simp (disch := omega) only [wC, if_pos, if_neg])); refine hJ10 _ _ ?_; refine sr fun _ hJ12 => ?_; refine hJ12 _ _ ?_; refine cs (fun c22 => ?_) (fun c22 => ?_)
   · (try exact nope c22); all_goals have c22p := c22; try simp [F] at c22p
     all_goals
      replace F := aF c22 F; try replace F := aF c22p F
      have h16 : W.V.length ≤ v.i.toNat := by have h := c22; simp at h; omega
      obtain ⟨rfl, rfl, rfl⟩ : PW = W ∧ PI = 0 ∧ PE = 5 := by rw [setVP, if_pos hR, if_pos h16] at hP0; simpa using hP0
      refine sr fun _ hJ14 => ?_; refine hJ14 _ _ ?_; refine ra ?_; refine ⟨⟨G, hi.mono (Nat.le_succ _)⟩, ?_⟩
      rw [hself]
      exact gcr
   (try exact nope c22); all_goals have c22p := c22; try simp [F] at c22p
   all_goals
    replace F := aF c22 F; try replace F := aF c22p F
    have h16 : ¬ W.V.length ≤ v.i.toNat := by have h := c22; simp at h; omega
    obtain ⟨rfl, rfl, rfl⟩ : PW = { W with V := W.V.set v.i.toNat v } ∧ PI = 0 ∧ PE = 0 := by rw [setVP, if_pos hR, if_neg h16] at hP0; simpa using hP0
    have hw2 := hwr hR
    refine run_skip ?_; refine hK8 _ _ ?_; refine sr fun _ hJ16 => ?_; refine ca (c := hw2 _) (k := ?_); rintro _ _ ⟨G', e0, rfl, rfl⟩; (repeat (first | simp [F] | simp (disch := omega) only [wC, if_pos, if_neg])); refine hJ16 _ _ ?_; refine sr fun _ hJ18 => ?_; refine hJ18 _ _ ?_; refine ra ?_
    refine ⟨⟨G', by rw [e0]; exact hi.setV hR (by omega)⟩, ?_⟩
    rw [hpa]
    exact gcr

set_option maxHeartbeats 1600000 in
attribute [local simp] undefA List.getElem?_cons_zero List.getElem?_cons_succ dlC cos in
theorem psetD_ok {σ : St} {o k n : Nat} {G : Sg} {W : Pw} {d : Dl} (h : HasS σ o k G) (hi : PoolS G.s W n) (hn : n ≤ 1000) (hd : d.Ok) :
    CallsA Try.prog 38 [.ptr o 0, .agg (dlC d)] σ (fun av σ' => ∃ G', PoolS G'.s (setDP W d).W (n + 1) ∧ av = .v (.int .i64 ((setDP W d).e : Nat)) ∧ σ' = putS σ o k G') := by
  obtain ⟨⟨PW, PI, PE⟩, hP0⟩ : ∃ P, P = setDP W d := ⟨_, rfl⟩
  rw [← hP0]
  simp only
  refine callsA_mono (callsA_gcX (X := { G' : Sg // PoolS G'.s PW (n + 1) }) (A := fun _ => .v (.int .i64 (PE : Nat))) (τ := fun x => putS σ o k x.1) ?_ (fun _ => rfl) (fun x => by simp [putS]) (fun x => rfl) (fun x => by simp [putS]) (fun x => rfl) (fun x => putS_o h _) (fun x => putS_r (o := o) (k := k) (σ := σ) _)) (fun av σ' ⟨x, e1, e2⟩ => ⟨x.1, x.2, e1, e2⟩)
  have hr1 := fun l => right_ok (σ := { σ with objs := σ.objs ++ l }) (l := d.x) (tl := .shut) hd
  have hva := fun l => pval_ok (i := d.v) (h.app l σ.toks) hi hn
  obtain ⟨A1, hA1⟩ : ∃ A, A = [] ++ encN d.s.v := ⟨_, rfl⟩
  obtain ⟨A2, hA2⟩ : ∃ A, A = A1 ++ encL d.x := ⟨_, rfl⟩
  have hA : encD d = A2 := by rw [hA2, hA1]; simp [encD]
  have hne : A2 ≠ [] := by rw [← hA]; simp [encD, encN]
  have hw0 : [AV.sl 0 [] 0 Tail.full] = [wrA 0 []] := rfl
  have hse : A2.length ≤ 1000000 → ∀ l tk, CallsA Try.prog 67 [.ptr o 0, .sl 1 [.v (.int .u8 100), .v (.int .u8 d.o.toNat), .v (.int .u8 d.v.toNat)] 3 .full, .sl 1 (bytesA A2) A2.length .shut] { σ with objs := σ.objs ++ l, toks := tk } (fun av σ' => ∃ G', G'.s = doS G.s (keyD d.o d.v) (some A2) ∧ av = .tup [] ∧ σ' = putS { σ with objs := σ.objs ++ l, toks := tk } o k G') := fun hl l tk => set_oG (K := keyD d.o d.v) h hi.ok (by omega) (by simp [keyD]) hl l tk
  have hde : ∀ l, CallsA Try.prog 66 [.ptr o 0, .sl 1 [.v (.int .u8 100), .v (.int .u8 d.o.toNat), .v (.int .u8 d.v.toNat)] 3 .full] { σ with objs := σ.objs ++ l } _ := fun l => del_ok (key := keyD d.o d.v) (t1 := .full) (h.app l σ.toks) hi.ok (by omega) (by simp [keyD])
  have hpt := putS_at h
  have hpa := fun (G' : Sg) (l : List (List AV)) => putS_app h G' l
  have hself := putS_self h
  have hz := cellsEq_num0 d.s
  have hzd : zD d = decide (d.s.v = 0) := rfl
  simp only [numA] at hz
  have hEl : Right d.x → (encD d).length ≤ 400 := encD_len
  rw [hA] at hEl
  have hsd : Right d.x → PoolS (doS G.s (keyD d.o d.v) (if zD d then none else some A2)) { W with D := setD d (zD d) W.D } (n + 1) := fun hR => by rw [← hA]; exact hi.setD (z := zD d) hR
  have l1e := congrArg List.length hA1
  have l2e := congrArg List.length hA2
  simp only [List.length_append, List.length_nil] at l1e l2e
  have hg0 : ∀ (G' : Sg) x r tk, (putS { σ with objs := σ.objs ++ x :: r, toks := tk } o k G').objs[σ.objs.length]? = some x := fun G' x r tk => by rw [hpt]; simp [putS]
  have F := And.intro hz (And.intro hg0 (True.intro))
  refine callsA_body Try.func38 rfl rfl rfl ?_; refine sr fun _ hJ2 => ?_; refine hJ2 _ _ ?_; refine sq fun K3 hK3 => ?_; refine sr fun _ hJ5 => ?_; (iterate 3 refine go2 (k := ?_)); refine gs 16 (fun g1_7 => ?_) (fun g1_7 => ?_)
  · (try exact nope g1_7); all_goals have g1_7p := g1_7; try simp [F] at g1_7p
    all_goals
     replace F := aF g1_7 F; try replace F := aF g1_7p F
     have ho : ¬ d.o.toNat < 200 := by have h := g1_7; simp at h; omega
     obtain ⟨rfl, rfl, rfl⟩ : PW = W ∧ PI = 0 ∧ PE = 1 := by rw [setDP, if_neg (fun q => ho q.1)] at hP0; simpa using hP0
     (iterate 4 refine no2 (k := ?_)); refine hJ5 _ _ ?_; refine ct ?_; refine sr fun _ hJ7 => ?_; refine hJ7 _ _ ?_; refine ra ?_; refine ⟨⟨G, hi.mono (Nat.le_succ _)⟩, ?_⟩
     rw [hself]
     exact gcr
  (try exact nope g1_7); all_goals have g1_7p := g1_7; try simp [F] at g1_7p
  all_goals
   replace F := aF g1_7 F; try replace F := aF g1_7p F
   have ho : d.o.toNat < 200 := by have h := g1_7; simp at h; omega
   (iterate 2 refine go2 (k := ?_)); refine ca (c := hr1 _) (k := ?_); rintro _ _ ⟨rfl, rfl⟩; (repeat (first | simp [F] | simp (disch := omega) only [wC, if_pos, if_neg])); refine go2 (k := ?_); refine hJ5 _ _ ?_; refine cs (fun c21 => ?_) (fun c21 => ?_)
   · (try exact nope c21); all_goals have c21p := c21; try simp [F] at c21p
     all_goals
      replace F := aF c21 F; try replace F := aF c21p F
      have hR : ¬ Right d.x := by have h := c21; simpa using h
      obtain ⟨rfl, rfl, rfl⟩ : PW = W ∧ PI = 0 ∧ PE = 1 := by rw [setDP, if_neg (fun q => hR q.2)] at hP0; simpa using hP0
      refine sr fun _ hJ9 => ?_; refine hJ9 _ _ ?_; refine ra ?_; refine ⟨⟨G, hi.mono (Nat.le_succ _)⟩, ?_⟩
      rw [hself]
      exact gcr
   (try exact nope c21); all_goals have c21p := c21; try simp [F] at c21p
   all_goals
    replace F := aF c21 F; try replace F := aF c21p F
    have hR : Right d.x := by have h := c21; simpa using h
    refine run_skip ?_; refine hK3 _ _ ?_; refine sq fun K10 hK10 => ?_; refine sr fun _ hJ12 => ?_; refine ca (c := hva _) (k := ?_); rintro _ _ ⟨Z, ⟨z1, z2, z3⟩, rfl, rfl⟩; simp only [AV.isCell] at z2
    replace F := aF z1 (And.intro z2 F); (repeat (first | simp [F] | simp (disch := omega) only [wC, if_pos, if_neg])); refine hJ12 _ _ ?_; refine sr fun _ hJ14 => ?_; refine hJ14 _ _ ?_; refine cs (fun c30 => ?_) (fun c30 => ?_)
    · (try exact nope c30); all_goals have c30p := c30; try simp [F] at c30p
      all_goals
       replace F := aF c30 F; try replace F := aF c30p F
       have h16 : W.V.length ≤ d.v.toNat := by have h := c30; simp at h; omega
       obtain ⟨rfl, rfl, rfl⟩ : PW = W ∧ PI = 0 ∧ PE = 5 := by rw [setDP, if_pos ⟨ho, hR⟩, if_pos h16] at hP0; simpa using hP0
       refine sr fun _ hJ16 => ?_; refine hJ16 _ _ ?_; refine ra ?_; refine ⟨⟨G, hi.mono (Nat.le_succ _)⟩, ?_⟩
       rw [hself]
       exact gcr
    (try exact nope c30); all_goals have c30p := c30; try simp [F] at c30p
    all_goals
     replace F := aF c30 F; try replace F := aF c30p F
     have h16 : ¬ W.V.length ≤ d.v.toNat := by have h := c30; simp at h; omega
     obtain ⟨rfl, rfl, rfl⟩ : PW = { W with D := setD d (zD d) W.D } ∧ PI = 0 ∧ PE = 0 := by rw [setDP, if_pos ⟨ho, hR⟩, if_neg h16] at hP0; simpa using hP0
     have hel := hEl hR
     have hs2 := hse (by omega)
     have hfin := hsd hR
     refine run_skip ?_; refine hK10 _ _ ?_; refine sr fun _ hJ18 => ?_; refine hJ18 _ _ ?_; refine sq fun K19 hK19 => ?_; refine sr fun _ hJ21 => ?_; refine hJ21 _ _ ?_; refine cs (fun c39 => ?_) (fun c39 => ?_)
     · (try exact nope c39); all_goals have c39p := c39; try simp [F] at c39p
       all_goals
        replace F := aF c39 F; try replace F := aF c39p F
        have hz0 : zD d = true := by have h := c39; rw [hzd]; simpa using h
        rw [hz0, if_pos rfl] at hfin
        refine sr fun _ hJ23 => ?_; refine ca (c := hde _) (k := ?_); rintro _ _ ⟨G', e0, rfl, rfl⟩; (repeat (first | simp [F] | simp (disch := omega) only [wC, if_pos, if_neg])); refine hJ23 _ _ ?_; refine sr fun _ hJ25 => ?_; refine hJ25 _ _ ?_; refine ra ?_
        refine ⟨⟨G', by rw [e0, hz0]; exact hfin⟩, ?_⟩
        rw [hpa]
        exact gcr
     (try exact nope c39); all_goals have c39p := c39; try simp [F] at c39p
     all_goals
      replace F := aF c39 F; try replace F := aF c39p F
      have hz0 : zD d = false := by have h := c39; rw [hzd]; simpa using h
      rw [hz0, if_neg (by simp)] at hfin
      refine run_skip ?_; refine hK19 _ _ ?_; refine sr fun _ hJ27 => ?_; refine hJ27 _ _ ?_; refine sq fun K28 hK28 => ?_; replace F := aF hw0 F
      refine run_draw (by kernel_rfl) fun J29 hJ29 => ?_
      refine rp2 0 (k := ?_); refine rp2 1 (k := ?_); refine rp2 2 (k := ?_); refine rp2 3 (k := ?_); refine rp2 4 (k := ?_); refine rp2 6 (k := ?_); refine rp2 7 (k := ?_)
      refine dc 5 rfl (c := wnumL (k := 0) (l := []) hA1 (by simp [F, hw0]) (.inl rfl) (by simp)) (k := ?_)
      rintro _ _ ⟨rfl, k1, tk1, w1, rfl⟩
      refine ⟨by first | exact fun _ _ h => h | (refine later_list [7, 6, 3, 1, 0] (by kernel_rfl) (List.forall_mem_cons.2 ⟨fun _ => fact2 rfl rfl ?_, List.forall_mem_cons.2 ⟨fun _ => fact2 rfl rfl ?_, List.forall_mem_cons.2 ⟨fun _ => fact2 rfl rfl ?_, List.forall_mem_cons.2 ⟨fun _ => fact2 rfl rfl ?_, List.forall_mem_cons.2 ⟨fun _ => fact2 rfl rfl ?_, fun _ h => absurd h List.not_mem_nil⟩⟩⟩⟩⟩) <;> constructor <;> first | rfl | (simp [F]; done)), ?_⟩
      repeat (first | simp [F] | simp (disch := omega) only [wC, if_pos, if_neg])
      refine dc 8 rfl (c := wcoinsL hA2 (by simp [F]) w1.tok hR (by omega)) (k := ?_)
      rintro _ _ ⟨rfl, k2, tk2, w2, rfl⟩
      refine ⟨by first | exact fun _ _ h => h | (refine later_list [6, 3, 1, 0] (by kernel_rfl) (List.forall_mem_cons.2 ⟨fun _ => fact2 rfl rfl ?_, List.forall_mem_cons.2 ⟨fun _ => fact2 rfl rfl ?_, List.forall_mem_cons.2 ⟨fun _ => fact2 rfl rfl ?_, List.forall_mem_cons.2 ⟨fun _ => fact2 rfl rfl ?_, fun _ h => absurd h List.not_mem_nil⟩⟩⟩⟩) <;> constructor <;> first | rfl | (simp [F]; done)), ?_⟩
      repeat (first | simp [F] | simp (disch := omega) only [wC, if_pos, if_neg])
      refine dc 9 rfl (c := doneL (l := A2) (k := k2) (by simp [F]) hne (by omega)) (k := ?_)
      rintro _ _ ⟨rfl, rfl⟩
      refine ⟨by first | exact fun _ _ h => h | (refine later_list [6, 3, 1, 0] (by kernel_rfl) (List.forall_mem_cons.2 ⟨fun _ => fact2 rfl rfl ?_, List.forall_mem_cons.2 ⟨fun _ => fact2 rfl rfl ?_, List.forall_mem_cons.2 ⟨fun _ => fact2 rfl rfl ?_, List.forall_mem_cons.2 ⟨fun _ => fact2 rfl rfl ?_, fun _ h => absurd h List.not_mem_nil⟩⟩⟩⟩) <;> constructor <;> first | rfl | (simp [F]; done)), ?_⟩
      (repeat (first | simp [F] | simp (disch := omega) only [wC, if_pos, if_neg])); refine dc 10 rfl (c := hs2 _ _) (k := ?_); rintro _ _ ⟨G', e0, rfl, rfl⟩
      refine ⟨by first | exact fun _ _ h => h | (refine later_list [6, 3] (by kernel_rfl) (List.forall_mem_cons.2 ⟨fun _ => fact2 rfl rfl ?_, List.forall_mem_cons.2 ⟨fun _ => fact2 rfl rfl ?_, fun _ h => absurd h List.not_mem_nil⟩⟩) <;> constructor <;> first | rfl | (simp [F]; done)), ?_⟩
      (repeat (first | simp [F] | simp (disch := omega) only [wC, if_pos, if_neg])); refine dd ?_; refine hJ29 _ _ ?_; refine hK28 _ _ ?_; refine sr fun _ hJ31 => ?_; refine hJ31 _ _ ?_; refine ra ?_
      obtain ⟨tm, htm⟩ := (w1.trans w2).pre
      refine ⟨⟨G', by rw [e0, hz0]; exact hfin⟩, ?_⟩
      rw [hpt, htm]
      exact gcr

set_option maxHeartbeats 1600000 in
attribute [local simp] undefA List.getElem?_cons_zero List.getElem?_cons_succ drop_mr lsA_nil lsT_nil lsZ_nil lsL_nil gcO_ls noObj_ls vlsC_noObj kysC_noObj bytes_noObj in
theorem vals_ok {σ : St} {o k n : Nat} {G : Sg} {W : Pw} (h : HasS σ o k G) (hi : PoolS G.s W n) (hn : n ≤ 1000) :
    CallsA Try.prog 27 [.ptr o 0] σ (fun av σ' => av = .sl 14 (vlsC W.V) W.V.length .shut ∧ σ = σ') := by
  refine callsA_gcS ?_ (by simp [AV.under, vlsC_under])
  have hke : CallsA Try.prog 56 [.ptr o 0, .sl 1 [.v (.int .u8 118)] 1 .full] σ _ := keys_ok (p := [118]) (t := .full) h hi.ok (by omega)
  have hkl : keysL G.s.l [118] = W.V.map fun v => keyV v.i := by rw [keysL_filter hi.ok.srt]; show (pl G.s.l [118]).map (·.k) = _; rw [hi.pv, List.map_map]; rfl
  rw [hkl, List.length_map] at hke
  have hlv := hi.lv
  have hol := lt_of_get h.o
  obtain ⟨V, hV⟩ : ∃ V, V = W.V := ⟨_, rfl⟩
  have hva : ∀ (j : Nat) (hj : j < V.length) tk, CallsA Try.prog 39 [.ptr o 0, .v (.int .u8 V[j].i.toNat)] { σ with toks := tk } (fun av σ' => av = .tup [.agg (vlC V[j]), .v (.bool true)] ∧ { σ with toks := tk } = σ') := fun j hj tk => by
    subst hV; exact val_yes (by simpa using h.app [] tk) hi.ok (by omega) (hi.rv _ (List.getElem_mem _)) (hi.getV hj)
  rw [← hV] at hke hlv ⊢
  obtain ⟨K, hK⟩ : ∃ K, K = V.map fun v => keyV v.i := ⟨_, rfl⟩
  have hKl : K.length = V.length := by rw [hK, List.length_map]
  rw [← hK] at hke
  have hkc := kysC_len K
  rw [hKl] at hkc
  have hap : ∀ (O : List Vl) (x : Vl) objs, O.length ≤ 1000000 → appendA Try.prog 32 (lsA σ.toks.length 14 (vlsC O) O.length) (.sl 14 (vlC x) 1 .full) ⟨objs, σ.toks ++ lsT O.length, σ.gl, σ.rows⟩ = some (lsA σ.toks.length 14 (vlsC (O ++ [x])) (O.length + 1), ⟨objs, σ.toks ++ lsT (O.length + 1), σ.gl, σ.rows⟩) := fun O x objs hO => by
    rw [vlsC_app, show vlsC [x] = vlC x by simp [vlsC]]
    exact append_ls elemT_32 ti_70 (by decide) rfl (fun h => by rw [List.eq_nil_of_length_eq_zero h]; rfl) rfl (by omega) (by simp only [roomA]; omega) (by simp only [maxLen]; omega)
  have F := And.intro hol (And.intro hkc (And.intro hKl (True.intro)))
  refine callsA_body Try.func27 rfl rfl rfl ?_; refine sr fun _ hJ2 => ?_; refine hJ2 _ _ ?_; refine sr fun _ hJ4 => ?_; refine hJ4 _ _ ?_; refine sq fun K5 hK5 => ?_; refine sr fun _ hJ7 => ?_; refine ca (c := hke) (k := ?_); rintro _ _ ⟨rfl, rfl⟩; (repeat (first | simp [F] | simp (disch := omega) only [wC, if_pos, if_neg])); refine hJ7 _ _ ?_; refine run_block_k ?_; refine run_loopG (X := Nat) [0, 2, 10, 11] (fun j ρ σ1 => (j ≤ V.length) ∧ (ρ 12 = .v (.int .i64 j)) ∧ (ρ 3 = lsA σ.toks.length 14 (vlsC (V.take j)) j) ∧ (σ1 = { σ with toks := σ.toks ++ lsT j })) (fun j => V.length - j) (0) ?st1 ?rd1
  case st1 =>
   refine ⟨lp, lp, lp, ?_⟩
   · simp [lsT_nil]
  case rd1 =>
   rintro j ρ1 σ1 hF1 ⟨h1, h16, h7, hσ⟩; obtain rfl := hσ.symm
   have f1 := keepL hF1
   (try simp [KeepL, F] at f1); replace F := aF h16 F; replace F := aF h7 F; (try replace F := aF f1 F); refine sr fun _ hJ9 => ?_; refine hJ9 _ _ ?_; refine sq fun K10 hK10 => ?_; refine cs (fun c13 => ?_) (fun c13 => ?_)
   · (try exact nope c13); all_goals have c13p := c13; try simp [F] at c13p
     all_goals
      replace F := aF c13 F; try replace F := aF c13p F
      have hlt : j < V.length := by have h := c13; simp at h; omega
      have hgK : ∀ h : j < (kysC K).length, (kysC K)[j]'h = .sl 1 [.v (.int .u8 118), .v (.int .u8 V[j].i.toNat)] 2 .shut := fun h => by rw [kysC_ix (by omega) h]; simp only [hK, List.getElem_map]; rfl
      have hv1 := hva j hlt
      have hj1 : j + 1 ≤ V.length := hlt
      have hTj : (V.take j).length = j := by rw [List.length_take]; omega
      have hta : V.take j ++ [V[j]] = V.take (j + 1) := List.take_append_getElem hlt
      have hap0 := fun objs => hap (V.take j) V[j] objs (by omega)
      simp only [hta, hTj] at hap0
      have hec : (vlC V[j]).length = 14 := rfl
      have hcl : (∀ x, x ∈ vlC V[j] → x.isCell = true) = True := eq_true (cellV _)
      have hyo : ∀ nb, noObjL nb (vlC V[j]) = true := fun nb => vlC_noObj nb _
      have hyt : List.take 14 (vlC V[j]) = vlC V[j] := rfl
      obtain ⟨Q, hQ⟩ : ∃ Q, Q = vlC V[j] := ⟨_, rfl⟩
      rw [← hQ] at hec hcl hyt
      simp only [← hQ] at hv1 hap0 hyo
      simp only [AV.isCell] at hcl
      replace F := aF hlt (And.intro hgK (And.intro hj1 (And.intro hec (And.intro hcl (And.intro hyo (And.intro hyt (And.intro hap0 F))))))); refine run_skip ?_; refine hK10 _ _ ?_; refine sq fun K11 hK11 => ?_; refine run_block_k ?_; refine sr fun _ hJ13 => ?_; refine hJ13 _ _ ?_; refine sr fun _ hJ15 => ?_; refine ca (c := hv1 _) (k := ?_); rintro _ _ ⟨rfl, rfl⟩; (repeat (first | simp [F] | simp (disch := omega) only [wC, if_pos, if_neg])); refine hJ15 _ _ ?_; refine rg' (h := fun J16 hJ16 => ?_); refine hJ16 _ _ ?_; refine hK11 _ _ ?_; refine rg' (h := fun J17 hJ17 => ?_); refine hJ17 _ _ ?_; refine ⟨gk, (j + 1), ⟨kpG, lpG, lpG, lpG, lpG⟩, lpG⟩
   (try exact nope c13); all_goals have c13p := c13; try simp [F] at c13p
   all_goals
    replace F := aF c13 F; try replace F := aF c13p F
    have hje : V.take j = V := List.take_of_length_le (by have h := c13; simp at h; omega)
    have hjl : j = V.length := by have h := c13; simp at h; omega
    have hwk := lsA_wk (k := σ.toks.length) (sz := 14) (n := j) (cs := vlsC V) (fun h => by rw [List.eq_nil_of_length_eq_zero (l := V) (by omega)]; rfl)
    refine run_exit ?_; refine hK5 _ _ ?_; refine sr fun _ hJ19 => ?_; refine hJ19 _ _ ?_; refine ra ?_
    rw [hje] at h7
    rw [← hjl]
    exact gcr (hA := by simp only [putA_get]; simp [F]; rw [hje]; exact hwk)

set_option maxHeartbeats 1600000 in
attribute [local simp] undefA List.getElem?_cons_zero List.getElem?_cons_succ drop_mr lsA_nil lsT_nil lsZ_nil lsL_nil gcO_ls noObj_ls dlsC_noObj kysC_noObj bytes_noObj in
theorem below_ok {σ : St} {o k n : Nat} {G : Sg} {W : Pw} {p : List UInt8} {D : List Dl} (h : HasS σ o k G) (hi : PoolS G.s W n) (hn : n ≤ 1000) (hp : p.length ≤ 10) (hk : pl G.s.l p = D.map prD) (hD : ∀ d ∈ D, d ∈ W.D) (hl : D.length ≤ 1000) :
    CallsA Try.prog 81 [.ptr o 0, .sl 1 (bytesA p) p.length .full] σ (fun av σ' => av = .sl 7 (dlsC D) D.length .shut ∧ σ = σ') := by
  refine callsA_gcS ?_ (by simp [AV.under, dlsC_under])
  have hke : CallsA Try.prog 56 [.ptr o 0, .sl 1 (bytesA p) p.length .full] σ _ := keys_ok (p := p) (t := .full) h hi.ok (by omega)
  have hkl : keysL G.s.l p = D.map fun d => keyD d.o d.v := by rw [keysL_filter hi.ok.srt]; show (pl G.s.l p).map (·.k) = _; rw [hk, List.map_map]; rfl
  rw [hkl, List.length_map] at hke
  have hol := lt_of_get h.o
  have hva : ∀ (j : Nat) (hj : j < D.length) tk, CallsA Try.prog 40 [.ptr o 0, .v (.int .u8 D[j].o.toNat), .v (.int .u8 D[j].v.toNat)] { σ with toks := tk } (fun av σ' => av = .tup [.agg (dlC D[j]), .v (.bool true)] ∧ { σ with toks := tk } = σ') := fun j hj tk =>
    get_yes (by simpa using h.app [] tk) hi.ok (by omega) (hi.rd _ (hD _ (List.getElem_mem _))) (hi.getD (hD _ (List.getElem_mem _)))
  have hvb : ∀ (j : Nat) (hj : j < D.length) l tk, CallsA Try.prog 40 [.ptr o 0, .v (.int .u8 D[j].o.toNat), .v (.int .u8 D[j].v.toNat)] { σ with objs := σ.objs ++ l, toks := tk } (fun av σ' => av = .tup [.agg (dlC D[j]), .v (.bool true)] ∧ { σ with objs := σ.objs ++ l, toks := tk } = σ') := fun j hj l tk =>
    get_yes (h.app l tk) hi.ok (by omega) (hi.rd _ (hD _ (List.getElem_mem _))) (hi.getD (hD _ (List.getElem_mem _)))
  obtain ⟨K, hK⟩ : ∃ K, K = D.map fun d => keyD d.o d.v := ⟨_, rfl⟩
  have hKl : K.length = D.length := by rw [hK, List.length_map]
  rw [← hK] at hke
  have hkc := kysC_len K
  rw [hKl] at hkc
  have hap : ∀ (O : List Dl) (x : Dl) objs, O.length ≤ 1000000 → appendA Try.prog 33 (lsA σ.toks.length 7 (dlsC O) O.length) (.sl 7 (dlC x) 1 .full) ⟨objs, σ.toks ++ lsT O.length, σ.gl, σ.rows⟩ = some (lsA σ.toks.length 7 (dlsC (O ++ [x])) (O.length + 1), ⟨objs, σ.toks ++ lsT (O.length + 1), σ.gl, σ.rows⟩) := fun O x objs hO => by
    rw [dlsC_app, show dlsC [x] = dlC x by simp [dlsC]]
    exact append_ls elemT_33 ti_72 (by decide) rfl (fun h => by rw [List.eq_nil_of_length_eq_zero h]; rfl) rfl (by omega) (by simp only [roomA]; omega) (by simp only [maxLen]; omega)
  have F := And.intro hol (And.intro hkc (And.intro hKl (True.intro)))
  refine callsA_body Try.func81 rfl rfl rfl ?_; refine sr fun _ hJ2 => ?_; refine hJ2 _ _ ?_; refine sr fun _ hJ4 => ?_; refine hJ4 _ _ ?_; refine sq fun K5 hK5 => ?_; refine sr fun _ hJ7 => ?_; refine ca (c := hke) (k := ?_); rintro _ _ ⟨rfl, rfl⟩; (repeat (first | simp [F] | simp (disch := omega) only [wC, if_pos, if_neg])); refine hJ7 _ _ ?_; refine run_block_k ?_; refine run_loopG (X := Nat) [0, 4, 12, 13] (fun j ρ σ1 => (j ≤ D.length) ∧ (ρ 14 = .v (.int .i64 j)) ∧ (ρ 5 = lsA σ.toks.length 7 (dlsC (D.take j)) j) ∧ (σ1 = { σ with toks := σ.toks ++ lsT j })) (fun j => D.length - j) (0) ?st1 ?rd1
  case st1 =>
   refine ⟨lp, lp, lp, ?_⟩
   · simp [lsT_nil]
  case rd1 =>
   rintro j ρ1 σ1 hF1 ⟨h1, h16, h7, hσ⟩; obtain rfl := hσ.symm
   have f1 := keepL hF1
   (try simp [KeepL, F] at f1); replace F := aF h16 F; replace F := aF h7 F; (try replace F := aF f1 F); refine sr fun _ hJ9 => ?_; refine hJ9 _ _ ?_; refine sq fun K10 hK10 => ?_; refine cs (fun c15 => ?_) (fun c15 => ?_)
   · (try exact nope c15); all_goals have c15p := c15; try simp [F] at c15p
     all_goals
      replace F := aF c15 F; try replace F := aF c15p F
      have hlt : j < D.length := by have h := c15; simp at h; omega
      have hgK : ∀ h : j < (kysC K).length, (kysC K)[j]'h = .sl 1 [.v (.int .u8 100), .v (.int .u8 D[j].o.toNat), .v (.int .u8 D[j].v.toNat)] 3 .shut := fun h => by rw [kysC_ix (by omega) h]; simp only [hK, List.getElem_map]; rfl
      have hv1 := hva j hlt
      have hv2 := hvb j hlt
      have hj1 : j + 1 ≤ D.length := hlt
      have hTj : (D.take j).length = j := by rw [List.length_take]; omega
      have hta : D.take j ++ [D[j]] = D.take (j + 1) := List.take_append_getElem hlt
      have hap0 := fun objs => hap (D.take j) D[j] objs (by omega)
      simp only [hta, hTj] at hap0
      have hec : (dlC D[j]).length = 7 := rfl
      have hcl : (∀ x, x ∈ dlC D[j] → x.isCell = true) = True := eq_true (cellD _)
      have hyo : ∀ nb, noObjL nb (dlC D[j]) = true := fun nb => dlC_noObj nb _
      have hyt : List.take 7 (dlC D[j]) = dlC D[j] := rfl
      obtain ⟨Q, hQ⟩ : ∃ Q, Q = dlC D[j] := ⟨_, rfl⟩
      rw [← hQ] at hec hcl hyt
      simp only [← hQ] at hv1 hv2 hap0 hyo
      simp only [AV.isCell] at hcl
      replace F := aF hlt (And.intro hgK (And.intro hj1 (And.intro hec (And.intro hcl (And.intro hyo (And.intro hyt (And.intro hap0 F))))))); refine run_skip ?_; refine hK10 _ _ ?_; refine sq fun K11 hK11 => ?_; refine run_block_k ?_; refine sr fun _ hJ13 => ?_; refine hJ13 _ _ ?_; refine sq fun K14 hK14 => ?_
      refine run_draw (by kernel_rfl) fun J15 hJ15 => ?_
      refine rp2 0 (k := ?_); refine rp2 1 (k := ?_); refine rp2 2 (k := ?_); refine rp2 3 (k := ?_); refine rp2 4 (k := ?_); refine rp2 5 (k := ?_); refine rp2 6 (k := ?_); refine d2 7 11 ?_ ?_
      · refine ac 7 rfl (c := (by first | exact hv1 _ | exact hv2 _ _)) (k := ?_)
        rintro _ _ ⟨rfl, rfl⟩
        refine ⟨by first | exact fun _ _ h => h | (refine later_list [5, 4, 2, 1] (by kernel_rfl) (List.forall_mem_cons.2 ⟨fun _ => fact2 rfl rfl ?_, List.forall_mem_cons.2 ⟨fun _ => fact2 rfl rfl ?_, List.forall_mem_cons.2 ⟨fun _ => fact2 rfl rfl ?_, List.forall_mem_cons.2 ⟨fun _ => fact2 rfl rfl ?_, fun _ h => absurd h List.not_mem_nil⟩⟩⟩⟩) <;> constructor <;> first | rfl | (simp [F]; done)), ?_⟩
        (repeat (first | simp [F] | simp (disch := omega) only [wC, if_pos, if_neg])); refine rp2 8 (k := ?_); refine rp2 9 (k := ?_); refine rp2 10 (k := ?_); refine dop 11 rfl ?_; repeat (first | simp [F] | simp (disch := omega) only [wC, if_pos, if_neg])
        refine ⟨by first | exact later_more _ (by kernel_rfl) | exact later_more2 (by kernel_rfl) rfl, ?_⟩
        refine dop 12 rfl ?_; repeat (first | simp [F] | simp (disch := omega) only [wC, if_pos, if_neg])
        refine ⟨later_tmp (by kernel_rfl), ?_⟩
        refine rp2 13 (k := ?_); refine dd ?_; refine hJ15 _ _ ?_; refine hK14 _ _ ?_; refine rg' (h := fun J16 hJ16 => ?_); refine hJ16 _ _ ?_; refine hK11 _ _ ?_; refine rg' (h := fun J17 hJ17 => ?_); refine hJ17 _ _ ?_; refine ⟨gk, (j + 1), ⟨kpG, lpG, lpG, lpG, lpG⟩, lpG⟩
      · refine ao 11 rfl ?_; repeat (first | simp [F] | simp (disch := omega) only [wC, if_pos, if_neg])
        refine ⟨by first | exact later_more _ (by kernel_rfl) | exact later_more2 (by kernel_rfl) rfl, ?_⟩
        refine dc 7 rfl (c := (by first | exact hv1 _ | exact hv2 _ _)) (k := ?_)
        rintro _ _ ⟨rfl, rfl⟩
        refine ⟨by first | exact fun _ _ h => h | (refine later_list [5, 4, 2, 1] (by kernel_rfl) (List.forall_mem_cons.2 ⟨fun _ => fact2 rfl rfl ?_, List.forall_mem_cons.2 ⟨fun _ => fact2 rfl rfl ?_, List.forall_mem_cons.2 ⟨fun _ => fact2 rfl rfl ?_, List.forall_mem_cons.2 ⟨fun _ => fact2 rfl rfl ?_, fun _ h => absurd h List.not_mem_nil⟩⟩⟩⟩) <;> constructor <;> first | rfl | (simp [F]; done)), ?_⟩
        (repeat (first | simp [F] | simp (disch := omega) only [wC, if_pos, if_neg])); refine rp2 8 (k := ?_); refine rp2 9 (k := ?_); refine rp2 10 (k := ?_); refine dop 12 rfl ?_; repeat (first | simp [F] | simp (disch := omega) only [wC, if_pos, if_neg])
        refine ⟨later_tmp (by kernel_rfl), ?_⟩
        refine rp2 13 (k := ?_); refine dd ?_; refine hJ15 _ _ ?_; refine hK14 _ _ ?_; refine rg' (h := fun J18 hJ18 => ?_); refine hJ18 _ _ ?_; refine hK11 _ _ ?_; refine rg' (h := fun J19 hJ19 => ?_); refine hJ19 _ _ ?_; refine ⟨gk, (j + 1), ⟨kpG, lpG, lpG, lpG, lpG⟩, lpG⟩
   (try exact nope c15); all_goals have c15p := c15; try simp [F] at c15p
   all_goals
    replace F := aF c15 F; try replace F := aF c15p F
    have hje : D.take j = D := List.take_of_length_le (by have h := c15; simp at h; omega)
    have hjl : j = D.length := by have h := c15; simp at h; omega
    have hwk := lsA_wk (k := σ.toks.length) (sz := 7) (n := j) (cs := dlsC D) (fun h => by rw [List.eq_nil_of_length_eq_zero (l := D) (by omega)]; rfl)
    refine run_exit ?_; refine hK5 _ _ ?_; refine sr fun _ hJ21 => ?_; refine hJ21 _ _ ?_; refine ra ?_
    rw [hje] at h7
    rw [← hjl]
    exact gcr (hA := by simp only [putA_get]; simp [F]; rw [hje]; exact hwk)

set_option maxHeartbeats 1600000 in
attribute [local simp] undefA List.getElem?_cons_zero List.getElem?_cons_succ in
theorem all11_ok {σ : St} {o k n : Nat} {G : Sg} {W : Pw} (h : HasS σ o k G) (hi : PoolS G.s W n) (hn : n ≤ 1000) :
    CallsA Try.prog 48 [.ptr o 0] σ (fun av σ' => av = .sl 7 (dlsC W.D) W.D.length .shut ∧ σ = σ') := by
  have hb : CallsA Try.prog 81 [.ptr o 0, .sl 1 [.v (.int .u8 100)] 1 .full] σ _ := below_ok (p := [100]) h hi hn (by simp) hi.pd (fun d hd => hd) (by have := hi.nd; omega)
  have F := True.intro
  refine callsA_body Try.func48 rfl rfl rfl ?_; refine sr fun _ hJ2 => ?_; refine hJ2 _ _ ?_; refine sr fun _ hJ4 => ?_; refine ca (c := hb) (k := ?_); rintro _ _ ⟨rfl, rfl⟩; (repeat (first | simp [F] | simp (disch := omega) only [wC, if_pos, if_neg])); refine hJ4 _ _ ?_; refine ra ?_; exact rt
theorem of_plD {s : Sto} {W : Pw} {n : Nat} {ow : UInt8} (h : PoolS s W n) : pl s.l [100, ow] = (W.D.filter fun d => decide (d.o = ow)).map prD := by
  have e1 : pl s.l [100, ow] = (pl s.l [100]).filter fun x => preB x.k [100, ow] := by
    simp only [pl]
    rw [List.filter_filter]
    refine List.filter_congr (fun x _ => ?_)
    cases hb : preB x.k [100, ow] with
    | false => rfl
    | true =>
      simp only [preB, Bool.and_eq_true, decide_eq_true_eq] at hb
      symm
      rw [Bool.true_and]
      simp only [preB, Bool.and_eq_true, decide_eq_true_eq]
      have hl := hb.1
      simp only [List.length_cons, List.length_nil] at hl
      refine ⟨by simp only [List.length_cons, List.length_nil]; omega, ?_⟩
      have h2 := congrArg (List.take 1) hb.2
      rw [List.take_take] at h2
      simpa using h2
  rw [e1, h.pd, List.filter_map]
  congr 1
  exact List.filter_congr (fun d _ => keyD_p3 _ _ _)
set_option maxHeartbeats 1600000 in
attribute [local simp] undefA List.getElem?_cons_zero List.getElem?_cons_succ in
theorem of11_ok {σ : St} {o k n : Nat} {G : Sg} {W : Pw} {ow : UInt8} (h : HasS σ o k G) (hi : PoolS G.s W n) (hn : n ≤ 1000) :
    CallsA Try.prog 46 [.ptr o 0, .v (.int .u8 ow.toNat)] σ (fun av σ' => av = .sl 7 (dlsC (W.D.filter fun d => decide (d.o = ow))) (W.D.filter fun d => decide (d.o = ow)).length .shut ∧ σ = σ') := by
  have hb : CallsA Try.prog 81 [.ptr o 0, .sl 1 [.v (.int .u8 100), .v (.int .u8 ow.toNat)] 2 .full] σ _ := below_ok (p := [100, ow]) h hi hn (by simp) (of_plD hi) (fun d hd => (List.mem_filter.1 hd).1) (by have := hi.nd; have := List.length_filter_le (fun d : Dl => decide (d.o = ow)) W.D; omega)
  obtain ⟨D, hD⟩ : ∃ D, D = W.D.filter fun d => decide (d.o = ow) := ⟨_, rfl⟩
  rw [← hD] at hb ⊢
  have F := True.intro
  refine callsA_body Try.func46 rfl rfl rfl ?_; refine sr fun _ hJ2 => ?_; refine hJ2 _ _ ?_; refine sr fun _ hJ4 => ?_; refine ca (c := hb) (k := ?_); rintro _ _ ⟨rfl, rfl⟩; (repeat (first | simp [F] | simp (disch := omega) only [wC, if_pos, if_neg])); refine hJ4 _ _ ?_; refine ra ?_; exact rt
def pX (x y : AV) : List AV := [.v (.int .u64 0), .sl 0 [] 0 .full, .sl 0 [] 0 .full, .sl 0 [] 0 .full, x, y, .sl 0 [] 0 .full, .sl 0 [] 0 .full]
def pC (W : Pw) : List AV := pX (.sl 14 (vlsC W.V) W.V.length .shut) (.sl 7 (dlsC W.D) W.D.length .shut)
theorem pX_wk {x x' y y' : AV} (hx : Wk x x') (hy : Wk y y') : WkL (pX x y) (pX x' y') :=
  .cons (Wk.refl _) (.cons (Wk.refl _) (.cons (Wk.refl _) (.cons (Wk.refl _) (.cons hx (.cons hy (.cons (Wk.refl _) (.cons (Wk.refl _) .nil)))))))
theorem pC_under (B : Bd) (W : Pw) : underL B (pC W) = true := by simp [pC, pX, underL, AV.under, vlsC_under, dlsC_under]
def putP (σ : St) (m : Nat) (W : Pw) : St := { σ with objs := σ.objs.set m (pC W) }
theorem pcall {P : Program} {f : FuncId} {args : List AV} {σ : St} {m : Nat} {W : Pw} {A : AV} (hw : m < σ.objs.length) (hA : A.under σ.bd = true)
    (k : CallsA P f args σ (fun av σ' => av = A ∧ ∃ tk x y l r, Wk x (.sl 14 (vlsC W.V) W.V.length .shut) ∧ Wk y (.sl 7 (dlsC W.D) W.D.length .shut) ∧ σ' = { σ with objs := σ.objs.set m (pX x y) ++ l, toks := σ.toks ++ tk, rows := σ.rows ++ r })) :
    CallsA P f args σ (fun av σ' => av = A ∧ σ' = putP σ m W) := by
  refine callsA_gcT (A := A) (τ := putP σ m W) ?_ hA (by simp [putP]) rfl rfl rfl (ku_set (ku_refl _) (pC_under _ _)) (kur_refl _)
  refine callsA_wkS k (fun av σ' h => ?_)
  obtain ⟨rfl, tk, x, y, l, r, hx, hy, rfl⟩ := h
  refine ⟨av, { σ with objs := σ.objs.set m (pC W) ++ l, toks := σ.toks ++ tk, rows := σ.rows ++ r }, Wk.refl _, ?_, Wk.refl _, l, tk, r, by simp [putP]⟩
  rw [← List.set_append_left _ _ hw, ← List.set_append_left _ _ hw]
  exact WkS.set (σ := { σ with toks := σ.toks ++ tk, rows := σ.rows ++ r }) (pX_wk hx hy)
set_option maxHeartbeats 1600000 in
attribute [local simp] undefA List.getElem?_cons_zero List.getElem?_cons_succ vlC cos in
theorem rright1_ok {σ : St} {v : Vl} (hv : v.Ok) :
    CallsA Try.prog 108 [.agg (vlC v)] σ (fun av σ' => av = .v (.bool (decide (RightV v))) ∧ σ = σ') := by
  refine callsA_gcS ?_ rfl
  have hx := fun τ => rright_ok (σ := τ) (l := v.x) (tl := .shut) hv.2.1
  have he := fun τ => rright_ok (σ := τ) (l := v.e) (tl := .shut) hv.2.2
  obtain ⟨B, hB⟩ : ∃ B, B = decide (RightV v) := ⟨_, rfl⟩
  rw [← hB]
  have F := True.intro
  refine callsA_body Try.func108 rfl rfl rfl ?_; refine sr fun _ hJ2 => ?_; refine hJ2 _ _ ?_; refine sr fun _ hJ4 => ?_; refine gs 6 (fun g1_3 => ?_) (fun g1_3 => ?_)
  · (try exact nope g1_3); all_goals have g1_3p := g1_3; try simp [F] at g1_3p
    all_goals
     replace F := aF g1_3 F; try replace F := aF g1_3p F
     have h1 : v.o.toNat < 200 := by have h := g1_3; simp at h; omega
     replace F := aF h1 F; (iterate 3 refine go2 (k := ?_)); refine gs 11 (fun g1_8 => ?_) (fun g1_8 => ?_)
     · (try exact nope g1_8); all_goals have g1_8p := g1_8; try simp [F] at g1_8p
       all_goals
        replace F := aF g1_8 F; try replace F := aF g1_8p F
        have h2 : v.r ≤ 10000 := by have h := g1_8; simp [F] at h; first | omega | (have h := g1_8; simp [h1] at h; omega)
        replace F := aF h2 F; (iterate 2 refine go2 (k := ?_)); refine ca (c := hx _) (k := ?_); rintro _ _ ⟨rfl, rfl⟩; (repeat (first | simp [F] | simp (disch := omega) only [wC, if_pos, if_neg])); refine gs 16 (fun g1_13 => ?_) (fun g1_13 => ?_)
        · (try exact nope g1_13); all_goals have g1_13p := g1_13; try simp [F] at g1_13p
          all_goals
           replace F := aF g1_13 F; try replace F := aF g1_13p F
           have h3 : Right v.x := by have h := g1_13; simp [h1, h2] at h; exact h
           have hfin : B = decide (Right v.e) := by rw [hB, decide_eq_decide]; exact ⟨fun q => q.2.2.2, fun q => ⟨h1, h2, h3, q⟩⟩
           replace F := aF hfin F; (iterate 2 refine go2 (k := ?_)); refine ca (c := he _) (k := ?_); rintro _ _ ⟨rfl, rfl⟩; (repeat (first | simp [F] | simp (disch := omega) only [wC, if_pos, if_neg])); refine hJ4 _ _ ?_; refine ra ?_; exact gcr
        (try exact nope g1_13); all_goals have g1_13p := g1_13; try simp [F] at g1_13p
        all_goals
         replace F := aF g1_13 F; try replace F := aF g1_13p F
         have hf : B = false := by
           rw [hB, decide_eq_false_iff_not]; intro q; have h := g1_13; simp [q.1, q.2.1, q.2.2.1] at h
         replace F := aF hf F; (iterate 3 refine no2 (k := ?_)); refine hJ4 _ _ ?_; refine ra ?_; exact gcr
     (try exact nope g1_8); all_goals have g1_8p := g1_8; try simp [F] at g1_8p
     all_goals
      replace F := aF g1_8 F; try replace F := aF g1_8p F
      have hf : B = false := by
        rw [hB, decide_eq_false_iff_not]; intro q; have h2 := q.2.1; have h1 := q.1; have h := g1_8; simp [h1] at h; omega
      replace F := aF hf F; (iterate 6 refine no2 (k := ?_)); refine hJ4 _ _ ?_; refine ra ?_; exact gcr
  (try exact nope g1_3); all_goals have g1_3p := g1_3; try simp [F] at g1_3p
  all_goals
   replace F := aF g1_3 F; try replace F := aF g1_3p F
   have hf : B = false := by rw [hB, decide_eq_false_iff_not]; intro q; have h1 := q.1; have h := g1_3; simp at h; omega
   replace F := aF hf F; (iterate 9 refine no2 (k := ?_)); refine hJ4 _ _ ?_; refine ra ?_; exact gcr

theorem app_v1 {σ : St} {V : List Vl} {tl : Tail} (hl : V.length ≤ 1000) (objs : List (List AV)) : appendA Try.prog 32 (.sl 0 [] 0 .full) (.sl 14 (vlsC V) V.length tl) ⟨objs, σ.toks, σ.gl, σ.rows⟩ = some (.sl 14 (vlsC V) V.length (.own σ.toks.length), ⟨objs, σ.toks ++ [V.length], σ.gl, σ.rows⟩) := by
  have e1 := elemT_32
  have e2 := ti_70
  have h1 : V.length ≤ 9223372036854775807 := by omega
  simp [appendA, readA, e1, e2, roomA, maxLen, h1, Value.cells]
  try omega
theorem app_v2 {σ : St} {cs ys : List AV} {n : Nat} {tl : Tail} (hl : n ≤ 1000) (objs : List (List AV)) : appendA Try.prog 32 (.sl 14 cs n (.own σ.toks.length)) (.sl 14 ys 1 tl) ⟨objs, σ.toks ++ [n], σ.gl, σ.rows⟩ = some (.sl 14 (cs ++ ys) (n + 1) (.own σ.toks.length), ⟨objs, σ.toks ++ [n + 1], σ.gl, σ.rows⟩) := by
  have e1 := elemT_32
  have e2 := ti_70
  have h1 : n + 1 ≤ 9223372036854775807 := by omega
  simp [appendA, readA, e1, e2, roomA, maxLen, h1, Value.cells]
  try omega
theorem WkL_app : ∀ {a b c d : List AV}, WkL a b → WkL c d → WkL (a ++ c) (b ++ d)
  | _, _, _, _, .nil, h2 => h2
  | _, _, _, _, .cons h t, h2 => .cons h (WkL_app t h2)

set_option maxHeartbeats 1600000 in
attribute [local simp] undefA List.getElem?_cons_zero List.getElem?_cons_succ lsA_nil lsT_nil lsZ_nil lsL_nil in
theorem radd_ok {σ : St} {m : Nat} {W : Pw} {ow : UInt8} {r : Nat} (h : σ.objs[m]? = some (pC W)) (hl : W.V.length ≤ 16) (hr : r < 65536) :
    CallsA Try.prog 78 [.ptr m 0, .v (.int .u8 ow.toNat), .v (.int .u16 r)] σ (fun av σ' => av = .tup [.v (.int .u8 ((addP W ow r).i : Nat)), .v (.int .i64 ((addP W ow r).e : Nat))] ∧ σ' = putP σ m (addP W ow r).W) := by
  have hw := lt_of_get h
  obtain ⟨⟨PW, PI, PE⟩, hP0⟩ : ∃ P, P = addP W ow r := ⟨_, rfl⟩
  rw [← hP0]
  simp only
  obtain ⟨N, hN⟩ : ∃ N : UInt8, N = UInt8.ofNat W.V.length := ⟨_, rfl⟩
  have hNn : N.toNat = W.V.length := by rw [hN]; exact toNat_ofNat (by omega)
  have hw8 : IntKind.u8.wrap (W.V.length : Int) = (N.toNat : Int) := by rw [wrap_u8, hNn]; omega
  have hr1 : ∀ l, CallsA Try.prog 108 [.agg (nvC N ow r)] { σ with objs := σ.objs ++ l } (fun av σ' => av = .v (.bool (decide (rightN ow r))) ∧ { σ with objs := σ.objs ++ l } = σ') := fun l => by
    have := rright1_ok (σ := { σ with objs := σ.objs ++ l }) (v := newV N ow r) ⟨hr, by simp [newV], by simp [newV]⟩
    rw [decide_eq_decide.2 (rightN_iff (i := N))] at this
    exact callsA_wk (.cons (nvC_wk N ow r) .nil) this
  have hap := app_v2 (σ := σ) (cs := vlsC W.V) (ys := nvC N ow r) (n := W.V.length) (tl := .full) (by omega)
  have hav := app_v1 (σ := σ) (V := W.V) (tl := .shut) (by omega)
  have hwkl : Wk (.sl 14 (vlsC W.V ++ nvC N ow r) (W.V.length + 1) (.own σ.toks.length)) (.sl 14 (vlsC (W.V ++ [newV N ow r])) (W.V ++ [newV N ow r]).length .shut) := by
    rw [vlsC_app, show vlsC [newV N ow r] = vlC (newV N ow r) by simp [vlsC], List.length_append]
    refine (Wk.shut _ _ _ _).trans ?_
    have e : vlC (newV N ow r) = [.v (.int .u8 N.toNat), .v (.int .u8 ow.toNat), .v (.int .u16 r), .v (.bool false), .v (.int .u64 0), .v (.int .u64 0), .v (.int .u64 0), .v (.int .u64 0), .v (.int .u64 0), .v (.int .u64 0), .v (.int .u64 0), .v (.int .u64 0), .sl 5 [] 0 .shut, .sl 5 [] 0 .shut] := by simp [vlC, newV, Num.zero, limb, cos, coinsC]
    rw [e]
    refine Wk.cells (WkL_app (WkL.refl _) ?_); exact .cons (Wk.refl _) (.cons (Wk.refl _) (.cons (Wk.refl _) (.cons (Wk.refl _) (.cons (Wk.refl _) (.cons (Wk.refl _) (.cons (Wk.refl _) (.cons (Wk.refl _) (.cons (Wk.refl _) (.cons (Wk.refl _) (.cons (Wk.refl _) (.cons (Wk.refl _) (.cons (Wk.nil _ _ _) (.cons (Wk.nil _ _ _) .nil)))))))))))))
  refine pcall hw rfl ?_
  have hoX : ∀ l, (σ.objs ++ l)[m]? = some (pC W) := fun l => by rw [List.getElem?_append_left hw]; exact h
  have ho3 : ∀ x l, (σ.objs ++ l).set m x = σ.objs.set m x ++ l := fun x l => List.set_append_left _ _ hw
  have hbx : ∀ x l y, (σ.objs.set m x ++ y :: l)[σ.objs.length]? = some y := fun x l y => by rw [List.getElem?_append_right (by simp)]; simp
  have hms : σ.objs.set m (pC W) = σ.objs := set_same' h
  have hb0 : ∀ l, { σ with objs := σ.objs ++ l } = { σ with objs := σ.objs.set m (pC W) ++ l, toks := σ.toks ++ [], rows := σ.rows ++ [] } := fun l => by rw [hms]; simp
  simp only [pC, pX, nvC] at h hr1 hap hoX hwkl
  have hVc := vlsC_len W.V
  have F := And.intro hw8 (And.intro hoX (And.intro h (And.intro ho3 (And.intro hbx (And.intro hav (And.intro hap (And.intro hVc (True.intro))))))))
  refine callsA_body Try.func78 rfl rfl rfl ?_; refine sr fun _ hJ2 => ?_; refine hJ2 _ _ ?_; refine sr fun _ hJ4 => ?_; refine hJ4 _ _ ?_; refine sq fun K5 hK5 => ?_; refine sr fun _ hJ7 => ?_; refine ca (c := hr1 _) (k := ?_); rintro _ _ ⟨rfl, rfl⟩; (repeat (first | simp [F] | simp (disch := omega) only [wC, if_pos, if_neg])); refine hJ7 _ _ ?_; refine cs (fun c21 => ?_) (fun c21 => ?_)
  · (try exact nope c21); all_goals have c21p := c21; try simp [F] at c21p
    all_goals
     replace F := aF c21 F; try replace F := aF c21p F
     have hR : ¬ rightN ow r := by have h := c21; simpa using h
     obtain ⟨rfl, rfl, rfl⟩ : PW = W ∧ PI = 0 ∧ PE = 1 := by rw [addP, if_neg hR] at hP0; simpa using hP0
     refine sr fun _ hJ9 => ?_; refine hJ9 _ _ ?_; refine run_ret ?_; (try simp only [Then, InBlock, NoGoto]); refine answer_tmp2 rfl (.inr rfl) ?_
     refine ⟨by simp [F], [], _, _, _, [], Wk.refl _, Wk.refl _, by rw [hb0]; rfl⟩
  (try exact nope c21); all_goals have c21p := c21; try simp [F] at c21p
  all_goals
   replace F := aF c21 F; try replace F := aF c21p F
   have hR : rightN ow r := by have h := c21; simpa using h
   refine run_skip ?_; refine hK5 _ _ ?_; refine sq fun K10 hK10 => ?_; refine sr fun _ hJ12 => ?_; refine hJ12 _ _ ?_; refine cs (fun c27 => ?_) (fun c27 => ?_)
   · (try exact nope c27); all_goals have c27p := c27; try simp [F] at c27p
     all_goals
      replace F := aF c27 F; try replace F := aF c27p F
      have h16 : 16 ≤ W.V.length := by have h := c27; simp at h; omega
      obtain ⟨rfl, rfl, rfl⟩ : PW = W ∧ PI = 0 ∧ PE = 7 := by rw [addP, if_pos hR, if_pos h16] at hP0; simpa using hP0
      refine sr fun _ hJ14 => ?_; refine hJ14 _ _ ?_; refine run_ret ?_; (try simp only [Then, InBlock, NoGoto]); refine answer_tmp2 rfl (.inr rfl) ?_
      refine ⟨by simp [F], [], _, _, _, [], Wk.refl _, Wk.refl _, by rw [hb0]; rfl⟩
   (try exact nope c27); all_goals have c27p := c27; try simp [F] at c27p
   all_goals
    replace F := aF c27 F; try replace F := aF c27p F
    have h16 : ¬ 16 ≤ W.V.length := by have h := c27; simp at h; omega
    obtain ⟨rfl, rfl, rfl⟩ : PW = { W with V := W.V ++ [newV N ow r] } ∧ PI = W.V.length ∧ PE = 0 := by rw [addP, if_pos hR, if_neg h16, ← hN] at hP0; simpa using hP0
    refine run_skip ?_; refine hK10 _ _ ?_; refine sr fun _ hJ16 => ?_; refine hJ16 _ _ ?_; refine sr fun _ hJ18 => ?_; refine hJ18 _ _ ?_; refine sr fun _ hJ20 => ?_; refine hJ20 _ _ ?_; refine sr fun _ hJ22 => ?_; refine hJ22 _ _ ?_; refine run_ret ?_; (try simp only [Then, InBlock, NoGoto]); refine answer_tmp2 rfl (.inr rfl) ?_
    refine ⟨by simp [F, hNn], [W.V.length + 1], _, _, _, [], hwkl, Wk.refl _, by simp; rfl⟩
theorem ltD_trans {a b c : Dl} (h : ltD a b) (k : ltD b c) : ltD a c := by
  unfold ltD at *
  rcases h with h | ⟨h, h2⟩ <;> rcases k with k | ⟨k, k2⟩
  · exact .inl (by omega)
  · rw [k] at h; exact .inl h
  · rw [← h] at k; exact .inl k
  · exact .inr ⟨h.trans k, by omega⟩
theorem ltD_ne {a b : Dl} (h : ltD a b) : ¬ eqD a b := fun e => by
  unfold ltD at h; unfold eqD at e
  rcases h with h | ⟨_, h⟩
  · rw [e.1] at h; omega
  · rw [e.2] at h; omega
theorem eq_ltD {a b c : Dl} (e : eqD a b) (h : ltD b c) : ltD a c := by
  unfold ltD at *; unfold eqD at e
  rw [e.1, e.2] at h; exact h
def dGo (d : Dl) : List Dl → Bool → List Dl → List Dl
  | [], b, out => if b then out else out ++ [d]
  | x :: l, b, out => if b = false ∧ ltD d x then (if eqD d x then dGo d l true (out ++ [d]) else dGo d l true (out ++ [d] ++ [x])) else (if eqD d x then dGo d l b out else dGo d l b (out ++ [x]))
theorem dGo_done {d : Dl} : ∀ {l out : List Dl}, (∀ x ∈ l, ltD d x) → dGo d l true out = out ++ l
  | [], out, _ => by simp [dGo]
  | x :: l, out, h => by rw [dGo, if_neg (by simp), if_neg (ltD_ne (h x (by simp))), dGo_done (fun y hy => h y (by simp [hy]))]; simp
theorem dGo_gt {d : Dl} : ∀ {l out : List Dl}, (∀ x ∈ l, ltD d x) → dGo d l false out = out ++ d :: l
  | [], out, _ => by simp [dGo]
  | x :: l, out, h => by rw [dGo, if_pos ⟨rfl, h x (by simp)⟩, if_neg (ltD_ne (h x (by simp))), dGo_done (fun y hy => h y (by simp [hy]))]; simp
theorem dGo_all {d : Dl} {z : Bool} : ∀ {l out : List Dl}, l.Pairwise ltD → dGo d l z out = out ++ setD d z l
  | [], out, _ => by cases z <;> simp [dGo, setD]
  | x :: l, out, h => by
    have l1 := List.pairwise_cons.1 h
    have ih := fun out => dGo_all (d := d) (z := z) (out := out) l1.2
    rw [dGo, setD]
    by_cases e : eqD d x
    · have hg : ∀ y ∈ l, ltD d y := fun y hy => eq_ltD e (l1.1 y hy)
      rw [if_neg (fun q => ltD_ne q.2 e), if_pos e, if_pos e]
      cases z with
      | true => rw [dGo_done hg]; rfl
      | false => rw [dGo_gt hg]; rfl
    · by_cases e2 : ltD d x
      · have hg : ∀ y ∈ l, ltD d y := fun y hy => ltD_trans e2 (l1.1 y hy)
        cases z with
        | true => rw [if_neg (by simp), if_neg e, if_neg e, if_pos e2, dGo_done hg]; simp
        | false => rw [if_pos ⟨rfl, e2⟩, if_neg e, if_neg e, if_pos e2, dGo_done hg]; simp
      · rw [if_neg (fun q => e2 q.2), if_neg e, if_neg e, if_neg e2, ih]; simp
theorem PoolS.srtD {s : Sto} {W : Pw} {n : Nat} (h : PoolS s W n) : W.D.Pairwise ltD := by
  have hs := pl_srt (p := [100]) h.ok.srt
  rw [h.pd, Srt, List.pairwise_map] at hs
  refine List.Pairwise.imp (fun {x y} hxy => ?_) hs
  have e : ltB (keyD x.o x.v) (keyD y.o y.v) = true := hxy
  rw [keyD_lt, decide_eq_true_eq] at e
  exact e

attribute [local simp] appendA rowAppA readA roomA maxLen zeroCell Value.oneCell' Value.cells in
set_option maxHeartbeats 1600000 in
attribute [local simp] undefA List.getElem?_cons_zero List.getElem?_cons_succ in
theorem rsetV_ok {σ : St} {m : Nat} {W : Pw} {v : Vl} (h : σ.objs[m]? = some (pC W)) (hl : W.V.length ≤ 16) (hv : v.Ok) :
    CallsA Try.prog 79 [.ptr m 0, .agg (vlC v)] σ (fun av σ' => av = .v (.int .i64 ((setVP W v).e : Nat)) ∧ σ' = putP σ m (setVP W v).W) := by
  have hw := lt_of_get h
  obtain ⟨⟨PW, PI, PE⟩, hP0⟩ : ∃ P, P = setVP W v := ⟨_, rfl⟩
  rw [← hP0]
  simp only
  have hr1 := fun l => rright1_ok (σ := { σ with objs := σ.objs ++ l }) hv
  obtain ⟨Q, hQ⟩ : ∃ Q, Q = vlC v := ⟨_, rfl⟩
  have hQl : Q.length = 14 := by rw [hQ]; rfl
  have hQt : List.take 14 Q = Q := by subst hQ; rfl
  have hQ0 : ∀ h2 : 0 < Q.length, Q[0]'h2 = .v (.int .u8 (v.i.toNat : Nat)) := fun h2 => by subst hQ; rfl
  have hQc : (∀ x, x ∈ Q → x.isCell = true) = True := eq_true (by rw [hQ]; exact cellV v)
  simp only [AV.isCell] at hQc
  refine pcall hw rfl ?_
  have hoX : ∀ l, (σ.objs ++ l)[m]? = some (pC W) := fun l => by rw [List.getElem?_append_left hw]; exact h
  have ho3 : ∀ x l, (σ.objs ++ l).set m x = σ.objs.set m x ++ l := fun x l => List.set_append_left _ _ hw
  have hms : σ.objs.set m (pC W) = σ.objs := set_same' h
  have hb0 : ∀ l, { σ with objs := σ.objs ++ l } = { σ with objs := σ.objs.set m (pC W) ++ l, toks := σ.toks ++ [], rows := σ.rows ++ [] } := fun l => by rw [hms]; simp
  simp only [pC, pX] at h hoX
  have hVc := vlsC_len W.V
  have hVt : List.take (W.V.length * 14) (vlsC W.V) = vlsC W.V := List.take_of_length_le (Nat.le_of_eq hVc)
  have r1 : W.V.length * 120 ≤ 140737488355328 := by omega
  have r2 : W.V.length ≤ 9223372036854775807 := by omega
  simp only [← hQ] at hr1
  rw [← hQ]
  have hcu : IntKind.i64.wrap ((v.i.toNat : Nat) : Int) = (v.i.toNat : Int) := wrap_i64 _ (by omega) (by have := v.i.toNat_lt; omega)
  have sp1 : v.i.toNat < W.V.length → List.take (v.i.toNat * 14) (vlsC W.V) ++ (Q ++ List.drop (v.i.toNat * 14 + 14) (vlsC W.V)) = vlsC (W.V.set v.i.toNat v) := fun hlt => by
    have := flat_set vlC 14 (fun _ => rfl) W.V v.i.toNat hlt v
    unfold splice at this
    rw [List.append_assoc] at this
    rw [hQ]
    exact this
  have hVs : (vlsC (W.V.set v.i.toNat v)).length = W.V.length * 14 := by rw [vlsC_len, List.length_set]
  have F := And.intro hQl (And.intro hQt (And.intro hQ0 (And.intro hQc (And.intro hoX (And.intro h (And.intro ho3 (And.intro hVc (And.intro hVt (And.intro hVs (And.intro r1 (And.intro r2 (And.intro hcu (True.intro)))))))))))))
  refine callsA_body Try.func79 rfl rfl rfl ?_; refine sr fun _ hJ2 => ?_; refine hJ2 _ _ ?_; refine sq fun K3 hK3 => ?_; refine sr fun _ hJ5 => ?_; refine ca (c := hr1 _) (k := ?_); rintro _ _ ⟨rfl, rfl⟩; (repeat (first | simp [F] | simp (disch := omega) only [wC, if_pos, if_neg])); refine hJ5 _ _ ?_; refine cs (fun c8 => ?_) (fun c8 => ?_)
  · (try exact nope c8); all_goals have c8p := c8; try simp [F] at c8p
    all_goals
     replace F := aF c8 F; try replace F := aF c8p F
     have hR : ¬ RightV v := by have h := c8; simpa using h
     obtain ⟨rfl, rfl, rfl⟩ : PW = W ∧ PI = 0 ∧ PE = 1 := by rw [setVP, if_neg hR] at hP0; simpa using hP0
     refine sr fun _ hJ7 => ?_; refine hJ7 _ _ ?_; refine ra ?_
     refine ⟨by simp [F], [], _, _, _, [], Wk.refl _, Wk.refl _, by rw [hb0]; rfl⟩
  (try exact nope c8); all_goals have c8p := c8; try simp [F] at c8p
  all_goals
   replace F := aF c8 F; try replace F := aF c8p F
   have hR : RightV v := by have h := c8; simpa using h
   refine run_skip ?_; refine hK3 _ _ ?_; refine sq fun K8 hK8 => ?_; refine sq fun K9 hK9 => ?_
   refine run_draw (by kernel_rfl) fun J10 hJ10 => ?_
   refine rp2 0 (k := ?_); refine rp2 1 (k := ?_); refine rp2 2 (k := ?_); refine rp2 3 (k := ?_); refine rp2 4 (k := ?_); refine rp2 5 (k := ?_); refine rp2 6 (k := ?_); refine rp2 7 (k := ?_); refine rp2 8 (k := ?_); refine dd ?_; refine hJ10 _ _ ?_; refine hK9 _ _ ?_; refine cs (fun c17 => ?_) (fun c17 => ?_)
   · (try exact nope c17); all_goals have c17p := c17; try simp [F] at c17p
     all_goals
      replace F := aF c17 F; try replace F := aF c17p F
      have h16 : W.V.length ≤ v.i.toNat := by have h := c17; simp at h; omega
      obtain ⟨rfl, rfl, rfl⟩ : PW = W ∧ PI = 0 ∧ PE = 5 := by rw [setVP, if_pos hR, if_pos h16] at hP0; simpa using hP0
      refine sr fun _ hJ12 => ?_; refine hJ12 _ _ ?_; refine ra ?_
      refine ⟨by simp [F], [], _, _, _, [], Wk.refl _, Wk.refl _, by rw [hb0]; rfl⟩
   (try exact nope c17); all_goals have c17p := c17; try simp [F] at c17p
   all_goals
    replace F := aF c17 F; try replace F := aF c17p F
    have h16 : ¬ W.V.length ≤ v.i.toNat := by have h := c17; simp at h; omega
    obtain ⟨rfl, rfl, rfl⟩ : PW = { W with V := W.V.set v.i.toNat v } ∧ PI = 0 ∧ PE = 0 := by rw [setVP, if_pos hR, if_neg h16] at hP0; simpa using hP0
    have s1 := sp1 (by omega)
    have b1 : v.i.toNat < W.V.length := by omega
    have b2 : v.i.toNat * 14 + 14 ≤ W.V.length * 14 := by omega
    have b3 : v.i.toNat + 1 ≤ W.V.length := b1
    replace F := aF s1 (And.intro b1 (And.intro b2 (And.intro b3 F))); refine run_skip ?_; refine hK8 _ _ ?_; refine sr fun _ hJ14 => ?_; refine hJ14 _ _ ?_; refine sq fun K15 hK15 => ?_; refine run_nilrow 5 14 (k := ?_); refine rg' (h := fun J16 hJ16 => ?_); refine hJ16 _ _ ?_; refine hK15 _ _ ?_; refine sr fun _ hJ18 => ?_; refine hJ18 _ _ ?_; refine sq fun K19 hK19 => ?_; refine run_fz 5 14 (k := ?_); refine rg' (h := fun J20 hJ20 => ?_); refine hJ20 _ _ ?_; refine hK19 _ _ ?_; refine sr fun _ hJ22 => ?_; refine hJ22 _ _ ?_; refine ra ?_
    refine ⟨by simp [F], [], .sl 14 (vlsC (W.V.set v.i.toNat v)) W.V.length .shut, _, [Q], [⟨2, [], none⟩], by simpa using Wk.refl (.sl 14 (vlsC (W.V.set v.i.toNat v)) W.V.length .shut), Wk.refl _, by simp [pX]⟩

structure GD where
  i : Nat
  O : List Dl
  b : Bool
set_option maxHeartbeats 1600000 in
attribute [local simp] undefA List.getElem?_cons_zero List.getElem?_cons_succ lsA_nil lsT_nil lsZ_nil lsL_nil gcO_ls noObj_ls dlsC_noObj vlsC_noObj in
theorem rsetD_ok {σ : St} {m : Nat} {W : Pw} {d : Dl} (h : σ.objs[m]? = some (pC W)) (hs : W.D.Pairwise ltD) (hlD : W.D.length ≤ 1000) (hlV : W.V.length ≤ 16) (hd : d.Ok) :
    CallsA Try.prog 80 [.ptr m 0, .agg (dlC d)] σ (fun av σ' => av = .v (.int .i64 ((setDP W d).e : Nat)) ∧ σ' = putP σ m (setDP W d).W) := by
  have hw := lt_of_get h
  obtain ⟨⟨PW, PI, PE⟩, hP0⟩ : ∃ P, P = setDP W d := ⟨_, rfl⟩
  rw [← hP0]
  simp only
  have hr1 := fun l => rright_ok (σ := { σ with objs := σ.objs ++ l }) (l := d.x) (tl := .shut) hd
  have hz1 := fun l => zero_ok (σ := { σ with objs := σ.objs ++ l }) (x := d.s)
  have hzd : decide (d.s.v = 0) = zD d := rfl
  simp only [hzd] at hz1
  obtain ⟨Q, hQ⟩ : ∃ Q, Q = dlC d := ⟨_, rfl⟩
  have hQl : Q.length = 7 := by rw [hQ]; rfl
  have hQt : List.take 7 Q = Q := by subst hQ; rfl
  have hQ0 : ∀ h2 : 0 < Q.length, Q[0]'h2 = .v (.int .u8 (d.o.toNat : Nat)) := fun h2 => by subst hQ; rfl
  have hQ1 : ∀ h2 : 1 < Q.length, Q[1]'h2 = .v (.int .u8 (d.v.toNat : Nat)) := fun h2 => by subst hQ; rfl
  have hQ6 : ∀ h2 : 6 < Q.length, Q[6]'h2 = .sl 5 (coinsC d.x) d.x.length .shut := fun h2 => by subst hQ; rfl
  have hQn : List.take 4 (List.drop 2 Q) = numA d.s.v := by subst hQ; rfl
  have hQc : (∀ x, x ∈ Q → x.isCell = true) = True := eq_true (by rw [hQ]; exact cellD d)
  simp only [AV.isCell] at hQc
  have hQo : ∀ nb, noObjL nb Q = true := fun nb => by rw [hQ]; exact dlC_noObj nb d
  refine pcall hw rfl ?_
  have hoX : ∀ l, (σ.objs ++ l)[m]? = some (pC W) := fun l => by rw [List.getElem?_append_left hw]; exact h
  have ho3 : ∀ x l, (σ.objs ++ l).set m x = σ.objs.set m x ++ l := fun x l => List.set_append_left _ _ hw
  have hms : σ.objs.set m (pC W) = σ.objs := set_same' h
  have hb0 : ∀ l, { σ with objs := σ.objs ++ l } = { σ with objs := σ.objs.set m (pC W) ++ l, toks := σ.toks ++ [], rows := σ.rows ++ [] } := fun l => by rw [hms]; simp
  have hge : ∀ h2 : m < σ.objs.length, σ.objs[m]'h2 = _ := fun h2 => (List.getElem?_eq_some_iff.1 h).2
  have hw1 : m < σ.objs.length + 1 := by omega
  simp only [pC, pX] at h hoX hge
  have hDc := dlsC_len W.D
  have hcu : IntKind.i64.wrap ((d.v.toNat : Nat) : Int) = (d.v.toNat : Int) := wrap_i64 _ (by omega) (by have := d.v.toNat_lt; omega)
  obtain ⟨T, hT⟩ : ∃ T, T = setD d (zD d) W.D := ⟨_, rfl⟩
  have hgo : dGo d W.D (zD d) [] = T := by rw [dGo_all hs, hT]; rfl
  have hap : ∀ (O : List Dl) (x : Dl) objs, O.length ≤ 1000000 → appendA Try.prog 33 (lsA σ.toks.length 7 (dlsC O) O.length) (.sl 7 (dlC x) 1 .full) ⟨objs, σ.toks ++ lsT O.length, σ.gl, σ.rows⟩ = some (lsA σ.toks.length 7 (dlsC (O ++ [x])) (O.length + 1), ⟨objs, σ.toks ++ lsT (O.length + 1), σ.gl, σ.rows⟩) := fun O x objs hO => by
    rw [dlsC_app, show dlsC [x] = dlC x by simp [dlsC]]
    exact append_ls elemT_33 ti_72 (by decide) rfl (fun h => by rw [List.eq_nil_of_length_eq_zero h]; rfl) rfl (by omega) (by simp only [roomA]; omega) (by simp only [maxLen]; omega)
  rw [← hQ]
  obtain ⟨V, D⟩ := W
  simp only at *
  have F := And.intro hQl (And.intro hQt (And.intro hQ0 (And.intro hQ1 (And.intro hQ6 (And.intro hQn (And.intro hQc (And.intro hQo (And.intro hoX (And.intro h (And.intro ho3 (And.intro hge (And.intro hw (And.intro hw1 (And.intro hDc (And.intro hcu (True.intro))))))))))))))))
  refine callsA_body Try.func80 rfl rfl rfl ?_; refine sr fun _ hJ2 => ?_; refine hJ2 _ _ ?_; refine sq fun K3 hK3 => ?_; refine sr fun _ hJ5 => ?_; refine gs 12 (fun g1_3 => ?_) (fun g1_3 => ?_)
  · (try exact nope g1_3); all_goals have g1_3p := g1_3; try simp [F] at g1_3p
    all_goals
     replace F := aF g1_3 F; try replace F := aF g1_3p F
     have ho : ¬ d.o.toNat < 200 := by have h := g1_3; simp at h; omega
     obtain ⟨rfl, rfl, rfl⟩ : PW = ⟨V, D⟩ ∧ PI = 0 ∧ PE = 1 := by rw [setDP, if_neg (fun q => ho q.1)] at hP0; simpa using hP0
     (iterate 4 refine no2 (k := ?_)); refine hJ5 _ _ ?_; refine ct ?_; refine sr fun _ hJ7 => ?_; refine hJ7 _ _ ?_; refine ra ?_
     refine ⟨by simp [F], [], _, _, _, [], Wk.refl _, Wk.refl _, by rw [hb0]; rfl⟩
  (try exact nope g1_3); all_goals have g1_3p := g1_3; try simp [F] at g1_3p
  all_goals
   replace F := aF g1_3 F; try replace F := aF g1_3p F
   have ho : d.o.toNat < 200 := by have h := g1_3; simp at h; omega
   (iterate 2 refine go2 (k := ?_)); refine ca (c := hr1 _) (k := ?_); rintro _ _ ⟨rfl, rfl⟩; (repeat (first | simp [F] | simp (disch := omega) only [wC, if_pos, if_neg])); refine go2 (k := ?_); refine hJ5 _ _ ?_; refine cs (fun c17 => ?_) (fun c17 => ?_)
   · (try exact nope c17); all_goals have c17p := c17; try simp [F] at c17p
     all_goals
      replace F := aF c17 F; try replace F := aF c17p F
      have hR : ¬ Right d.x := by have h := c17; simpa using h
      obtain ⟨rfl, rfl, rfl⟩ : PW = ⟨V, D⟩ ∧ PI = 0 ∧ PE = 1 := by rw [setDP, if_neg (fun q => hR q.2)] at hP0; simpa using hP0
      refine sr fun _ hJ9 => ?_; refine hJ9 _ _ ?_; refine ra ?_
      refine ⟨by simp [F], [], _, _, _, [], Wk.refl _, Wk.refl _, by rw [hb0]; rfl⟩
   (try exact nope c17); all_goals have c17p := c17; try simp [F] at c17p
   all_goals
    replace F := aF c17 F; try replace F := aF c17p F
    have hR : Right d.x := by have h := c17; simpa using h
    refine run_skip ?_; refine hK3 _ _ ?_; refine sq fun K10 hK10 => ?_; refine sq fun K11 hK11 => ?_
    refine run_draw (by kernel_rfl) fun J12 hJ12 => ?_
    refine rp2 0 (k := ?_); refine rp2 1 (k := ?_); refine rp2 2 (k := ?_); refine rp2 3 (k := ?_); refine rp2 4 (k := ?_); refine rp2 5 (k := ?_); refine rp2 6 (k := ?_); refine rp2 7 (k := ?_); refine rp2 8 (k := ?_); refine dd ?_; refine hJ12 _ _ ?_; refine hK11 _ _ ?_; refine cs (fun c26 => ?_) (fun c26 => ?_)
    · (try exact nope c26); all_goals have c26p := c26; try simp [F] at c26p
      all_goals
       replace F := aF c26 F; try replace F := aF c26p F
       have h16 : V.length ≤ d.v.toNat := by have h := c26; simp at h; omega
       obtain ⟨rfl, rfl, rfl⟩ : PW = ⟨V, D⟩ ∧ PI = 0 ∧ PE = 5 := by rw [setDP, if_pos ⟨ho, hR⟩, if_pos h16] at hP0; simpa using hP0
       refine sr fun _ hJ14 => ?_; refine hJ14 _ _ ?_; refine ra ?_
       refine ⟨by simp [F], [], _, _, _, [], Wk.refl _, Wk.refl _, by rw [hb0]; rfl⟩
    (try exact nope c26); all_goals have c26p := c26; try simp [F] at c26p
    all_goals
     replace F := aF c26 F; try replace F := aF c26p F
     have h16 : ¬ V.length ≤ d.v.toNat := by have h := c26; simp at h; omega
     obtain ⟨rfl, rfl, rfl⟩ : PW = ⟨V, T⟩ ∧ PI = 0 ∧ PE = 0 := by rw [setDP, if_pos ⟨ho, hR⟩, if_neg h16, ← hT] at hP0; simpa using hP0
     refine run_skip ?_; refine hK10 _ _ ?_; refine sr fun _ hJ16 => ?_; refine hJ16 _ _ ?_; refine sr fun _ hJ18 => ?_; refine ca (c := hz1 _) (k := ?_); rintro _ _ ⟨rfl, rfl⟩; (repeat (first | simp [F] | simp (disch := omega) only [wC, if_pos, if_neg])); refine hJ18 _ _ ?_; refine sq fun K19 hK19 => ?_; refine sr fun _ hJ21 => ?_; refine hJ21 _ _ ?_; refine run_block_k ?_; refine run_loopG (X := GD) [0, 3, 4] (fun x ρ σ1 => (x.i ≤ D.length) ∧ (dGo d (D.drop x.i) x.b x.O = T) ∧ (x.O.length ≤ 2 * x.i) ∧ (ρ 5 = lsA σ.toks.length 7 (dlsC x.O) x.O.length) ∧ (ρ 6 = .v (.bool x.b)) ∧ (ρ 7 = .v (.int .i64 x.i)) ∧ (σ1 = { σ with objs := σ.objs ++ [Q], toks := σ.toks ++ lsT x.O.length })) (fun x => D.length - x.i) (⟨0, [], zD d⟩) ?st1 ?rd1
     case st1 =>
      refine ⟨lp, ?_, lp, lp, lp, lp, ?_⟩
      · exact hgo
      · simp [lsT_nil, F]
     case rd1 =>
      rintro x ρ1 σ1 hF1 ⟨h1, h2, h3, h4, h5, h6, hσ⟩; obtain rfl := hσ.symm
      have f1 := keepL hF1
      (try simp [KeepL, F] at f1); replace F := aF h4 F; replace F := aF h5 F; replace F := aF h6 F; (try replace F := aF f1 F); refine sq fun K22 hK22 => ?_; refine sr fun _ hJ24 => ?_; refine hJ24 _ _ ?_; refine cs (fun c36 => ?_) (fun c36 => ?_)
      · (try exact nope c36); all_goals have c36p := c36; try simp [F] at c36p
        all_goals
         replace F := aF c36 F; try replace F := aF c36p F
         have hlt : x.i < D.length := by have h := c36; simp at h; omega
         obtain ⟨R, hR9⟩ := dlsC_at (l := D) (i := x.i) hlt
         obtain ⟨y, hy⟩ : ∃ y, y = D[x.i] := ⟨_, rfl⟩
         rw [← hy] at hR9
         have hR3 : List.take 7 (List.drop (x.i * 7) (dlsC D)) = dlC y := by rw [hR9]; rfl
         have d3 : x.i * 7 + 7 ≤ D.length * 7 := by omega
         have hi1 : x.i + 1 ≤ D.length := hlt
         have hwi : IntKind.i64.wrap ((x.i : Int) + 1) = (x.i : Int) + 1 := wrap_i64 _ (by omega) (by omega)
         have hdr : D.drop x.i = y :: D.drop (x.i + 1) := by rw [hy]; exact List.drop_eq_getElem_cons hlt
         rw [hdr, dGo] at h2
         have p1 := fun objs => hap x.O y objs (by omega)
         have p2 := fun objs => hap x.O d objs (by omega)
         have p3 := fun objs => hap (x.O ++ [d]) y objs (by simp; omega)
         simp only [List.length_append, List.length_cons, List.length_nil, Nat.zero_add] at p3
         have hyc : (∀ x, x ∈ dlC y → x.isCell = true) = True := eq_true (cellD y)
         have hyl : (dlC y).length = 7 := rfl
         have hyt : List.take 7 (dlC y) = dlC y := rfl
         have hyo : ∀ nb, noObjL nb (dlC y) = true := fun nb => dlC_noObj nb y
         obtain ⟨Y, hY⟩ : ∃ Y, Y = dlC y := ⟨_, rfl⟩
         have y0 : ∀ h2 : 0 < Y.length, Y[0]'h2 = .v (.int .u8 (y.o.toNat : Nat)) := fun h2 => by subst hY; rfl
         have y1 : ∀ h2 : 1 < Y.length, Y[1]'h2 = .v (.int .u8 (y.v.toNat : Nat)) := fun h2 => by subst hY; rfl
         rw [← hY] at hyc hyl hR3 hyt
         simp only [← hY] at hyo p1 p3
         simp only [AV.isCell] at hyc
         simp only [← hQ] at p2
         replace F := aF hwi F; replace F := aF hlt (And.intro hR3 (And.intro d3 (And.intro hi1 (And.intro hyc (And.intro hyl (And.intro hyt (And.intro hyo (And.intro y0 (And.intro y1 (And.intro p1 (And.intro p2 (And.intro p3 F)))))))))))); refine run_skip ?_; refine hK22 _ _ ?_; refine sq fun K25 hK25 => ?_; refine run_block_k ?_; refine sr fun _ hJ27 => ?_; refine hJ27 _ _ ?_; refine sq fun K28 hK28 => ?_; refine sr fun _ hJ30 => ?_; refine gs 48 (fun g11_2 => ?_) (fun g11_2 => ?_)
         · (try exact nope g11_2); all_goals have g11_2p := g11_2; try simp [F] at g11_2p
           all_goals
            replace F := aF g11_2 F; try replace F := aF g11_2p F
            have hb : x.b = false := by simpa using g11_2
            (iterate 6 refine go2 (k := ?_)); refine gs 54 (fun g11_8 => ?_) (fun g11_8 => ?_)
            · (try exact nope g11_8); all_goals have g11_8p := g11_8; try simp [F] at g11_8p
              all_goals
               replace F := aF g11_8 F; try replace F := aF g11_8p F
               have hld : ltD d y := .inl (by have h := g11_8; simp at h; omega)
               rw [if_pos ⟨hb, hld⟩] at h2
               (iterate 12 refine no2 (k := ?_)); refine go2 (k := ?_); refine hJ30 _ _ ?_; refine ct ?_; refine sr fun _ hJ32 => ?_; refine hJ32 _ _ ?_; refine rg' (h := fun J33 hJ33 => ?_); refine hJ33 _ _ ?_; refine hK28 _ _ ?_; refine sr fun _ hJ35 => ?_; refine gs 78 (fun g14_5 => ?_) (fun g14_5 => ?_)
               · (try exact nope g14_5); all_goals have g14_5p := g14_5; try simp [F] at g14_5p
                 all_goals
                  replace F := aF g14_5 F; try replace F := aF g14_5p F
                  have hne : ¬ eqD d y := by intro q; have h := g14_5; simp at h; rw [q.1] at h; exact h rfl
                  rw [if_neg hne] at h2
                  (iterate 5 refine no2 (k := ?_)); refine hJ35 _ _ ?_; refine ct ?_; refine rg' (h := fun J36 hJ36 => ?_); refine hJ36 _ _ ?_; refine hK25 _ _ ?_; refine rg' (h := fun J37 hJ37 => ?_); refine hJ37 _ _ ?_; refine ⟨gk, (⟨x.i + 1, x.O ++ [d] ++ [y], true⟩), ⟨kpG, lpG, ?_, ?_, lpG, lpG, lpG, lpG⟩, lpG⟩
                  · exact h2
                  · simp
                    omega
               (try exact nope g14_5); all_goals have g14_5p := g14_5; try simp [F] at g14_5p
               all_goals
                replace F := aF g14_5 F; (try replace F := aF g14_5p F); (iterate 5 refine go2 (k := ?_)); refine hJ35 _ _ ?_; refine cs (fun c84 => ?_) (fun c84 => ?_)
                · (try exact nope c84); all_goals have c84p := c84; try simp [F] at c84p
                  all_goals
                   replace F := aF c84 F; try replace F := aF c84p F
                   have hne : ¬ eqD d y := by intro q; have h := c84; simp at h; rw [q.2] at h; exact h rfl
                   rw [if_neg hne] at h2
                   refine rg' (h := fun J38 hJ38 => ?_); refine hJ38 _ _ ?_; refine hK25 _ _ ?_; refine rg' (h := fun J39 hJ39 => ?_); refine hJ39 _ _ ?_; refine ⟨gk, (⟨x.i + 1, x.O ++ [d] ++ [y], true⟩), ⟨kpG, lpG, ?_, ?_, lpG, lpG, lpG, lpG⟩, lpG⟩
                   · exact h2
                   · simp
                     omega
                (try exact nope c84); all_goals have c84p := c84; try simp [F] at c84p
                all_goals
                 replace F := aF c84 F; try replace F := aF c84p F
                 have heq : eqD d y := ⟨by have h := g14_5; simp at h; exact UInt8.toNat_inj.1 (by omega), by have h := c84; simp at h; exact UInt8.toNat_inj.1 (by omega)⟩
                 rw [if_pos heq] at h2
                 refine run_skip ?_; refine hK25 _ _ ?_; refine rg' (h := fun J40 hJ40 => ?_); refine hJ40 _ _ ?_; refine ⟨gk, (⟨x.i + 1, x.O ++ [d], true⟩), ⟨kpG, lpG, ?_, ?_, lpG, lpG, lpG, lpG⟩, lpG⟩
                 · exact h2
                 · simp
                   omega
            (try exact nope g11_8); all_goals have g11_8p := g11_8; try simp [F] at g11_8p
            all_goals
             replace F := aF g11_8 F; (try replace F := aF g11_8p F); (iterate 6 refine go2 (k := ?_)); refine gs 60 (fun g11_14 => ?_) (fun g11_14 => ?_)
             · (try exact nope g11_14); all_goals have g11_14p := g11_14; try simp [F] at g11_14p
               all_goals
                replace F := aF g11_14 F; try replace F := aF g11_14p F
                have heo : d.o = y.o := by have h := g11_14; simp at h; exact UInt8.toNat_inj.1 (by omega)
                (iterate 7 refine go2 (k := ?_)); refine hJ30 _ _ ?_; refine cs (fun c68 => ?_) (fun c68 => ?_)
                · (try exact nope c68); all_goals have c68p := c68; try simp [F] at c68p
                  all_goals
                   replace F := aF c68 F; try replace F := aF c68p F
                   have hld : ltD d y := .inr ⟨heo, by have h := c68; simp at h; omega⟩
                   rw [if_pos ⟨hb, hld⟩] at h2
                   refine sr fun _ hJ42 => ?_; refine hJ42 _ _ ?_; refine rg' (h := fun J43 hJ43 => ?_); refine hJ43 _ _ ?_; refine hK28 _ _ ?_; refine sr fun _ hJ45 => ?_; refine gs 78 (fun g14_5 => ?_) (fun g14_5 => ?_)
                   · (try exact nope g14_5); all_goals have g14_5p := g14_5; try simp [F] at g14_5p
                     all_goals
                      replace F := aF g14_5 F; try replace F := aF g14_5p F
                      have hne : ¬ eqD d y := by intro q; have h := g14_5; simp at h; rw [q.1] at h; exact h rfl
                      rw [if_neg hne] at h2
                      (iterate 5 refine no2 (k := ?_)); refine hJ45 _ _ ?_; refine ct ?_; refine rg' (h := fun J46 hJ46 => ?_); refine hJ46 _ _ ?_; refine hK25 _ _ ?_; refine rg' (h := fun J47 hJ47 => ?_); refine hJ47 _ _ ?_; refine ⟨gk, (⟨x.i + 1, x.O ++ [d] ++ [y], true⟩), ⟨kpG, lpG, ?_, ?_, lpG, lpG, lpG, lpG⟩, lpG⟩
                      · exact h2
                      · simp
                        omega
                   (try exact nope g14_5); all_goals have g14_5p := g14_5; try simp [F] at g14_5p
                   all_goals
                    replace F := aF g14_5 F; (try replace F := aF g14_5p F); (iterate 5 refine go2 (k := ?_)); refine hJ45 _ _ ?_; refine cs (fun c84 => ?_) (fun c84 => ?_)
                    · (try exact nope c84); all_goals have c84p := c84; try simp [F] at c84p
                      all_goals
                       replace F := aF c84 F; try replace F := aF c84p F
                       have hne : ¬ eqD d y := by intro q; have h := c84; simp at h; rw [q.2] at h; exact h rfl
                       rw [if_neg hne] at h2
                       refine rg' (h := fun J48 hJ48 => ?_); refine hJ48 _ _ ?_; refine hK25 _ _ ?_; refine rg' (h := fun J49 hJ49 => ?_); refine hJ49 _ _ ?_; refine ⟨gk, (⟨x.i + 1, x.O ++ [d] ++ [y], true⟩), ⟨kpG, lpG, ?_, ?_, lpG, lpG, lpG, lpG⟩, lpG⟩
                       · exact h2
                       · simp
                         omega
                    (try exact nope c84); all_goals have c84p := c84; try simp [F] at c84p
                    all_goals
                     replace F := aF c84 F; try replace F := aF c84p F
                     have heq : eqD d y := ⟨by have h := g14_5; simp at h; exact UInt8.toNat_inj.1 (by omega), by have h := c84; simp at h; exact UInt8.toNat_inj.1 (by omega)⟩
                     rw [if_pos heq] at h2
                     refine run_skip ?_; refine hK25 _ _ ?_; refine rg' (h := fun J50 hJ50 => ?_); refine hJ50 _ _ ?_; refine ⟨gk, (⟨x.i + 1, x.O ++ [d], true⟩), ⟨kpG, lpG, ?_, ?_, lpG, lpG, lpG, lpG⟩, lpG⟩
                     · exact h2
                     · simp
                       omega
                (try exact nope c68); all_goals have c68p := c68; try simp [F] at c68p
                all_goals
                 replace F := aF c68 F; try replace F := aF c68p F
                 have hld : ¬ ltD d y := fun q => by rcases q with q | ⟨q1, q2⟩ <;> first | (have h := g11_8; simp at h; omega) | (have h := c68; simp at h; omega)
                 rw [if_neg (fun q => hld q.2)] at h2
                 refine run_skip ?_; refine hK28 _ _ ?_; refine sr fun _ hJ52 => ?_; refine gs 78 (fun g14_5 => ?_) (fun g14_5 => ?_)
                 · (try exact nope g14_5); all_goals have g14_5p := g14_5; try simp [F] at g14_5p
                   all_goals
                    replace F := aF g14_5 F; try replace F := aF g14_5p F
                    have hne : ¬ eqD d y := by intro q; have h := g14_5; simp at h; rw [q.1] at h; exact h rfl
                    rw [if_neg hne] at h2
                    (iterate 5 refine no2 (k := ?_)); refine hJ52 _ _ ?_; refine ct ?_; refine rg' (h := fun J53 hJ53 => ?_); refine hJ53 _ _ ?_; refine hK25 _ _ ?_; refine rg' (h := fun J54 hJ54 => ?_); refine hJ54 _ _ ?_; refine ⟨gk, (⟨x.i + 1, x.O ++ [y], x.b⟩), ⟨kpG, lpG, ?_, ?_, lpG, lpG, lpG, lpG⟩, lpG⟩
                    · exact h2
                    · simp
                      omega
                 (try exact nope g14_5); all_goals have g14_5p := g14_5; try simp [F] at g14_5p
                 all_goals
                  replace F := aF g14_5 F; (try replace F := aF g14_5p F); (iterate 5 refine go2 (k := ?_)); refine hJ52 _ _ ?_; refine cs (fun c84 => ?_) (fun c84 => ?_)
                  · (try exact nope c84); all_goals have c84p := c84; try simp [F] at c84p
                    all_goals
                     replace F := aF c84 F; try replace F := aF c84p F
                     have hne : ¬ eqD d y := by intro q; have h := c84; simp at h; rw [q.2] at h; exact h rfl
                     rw [if_neg hne] at h2
                     refine rg' (h := fun J55 hJ55 => ?_); refine hJ55 _ _ ?_; refine hK25 _ _ ?_; refine rg' (h := fun J56 hJ56 => ?_); refine hJ56 _ _ ?_; refine ⟨gk, (⟨x.i + 1, x.O ++ [y], x.b⟩), ⟨kpG, lpG, ?_, ?_, lpG, lpG, lpG, lpG⟩, lpG⟩
                     · exact h2
                     · simp
                       omega
                  (try exact nope c84); all_goals have c84p := c84; try simp [F] at c84p
                  all_goals
                   replace F := aF c84 F; try replace F := aF c84p F
                   have heq : eqD d y := ⟨by have h := g14_5; simp at h; exact UInt8.toNat_inj.1 (by omega), by have h := c84; simp at h; exact UInt8.toNat_inj.1 (by omega)⟩
                   rw [if_pos heq] at h2
                   refine run_skip ?_; refine hK25 _ _ ?_; refine rg' (h := fun J57 hJ57 => ?_); refine hJ57 _ _ ?_; refine ⟨gk, (⟨x.i + 1, x.O, x.b⟩), ⟨kpG, lpG, ?_, ?_, lpG, lpG, lpG, lpG⟩, lpG⟩
                   · exact h2
                   · simp
                     omega
             (try exact nope g11_14); all_goals have g11_14p := g11_14; try simp [F] at g11_14p
             all_goals
              replace F := aF g11_14 F; try replace F := aF g11_14p F
              have hld : ¬ ltD d y := fun q => by rcases q with q | ⟨q1, q2⟩ <;> first | (have h := g11_8; simp at h; omega) | (have h := g11_14; simp at h; rw [q1] at h; exact h rfl)
              rw [if_neg (fun q => hld q.2)] at h2
              (iterate 5 refine no2 (k := ?_)); (iterate 2 refine go2 (k := ?_)); refine hJ30 _ _ ?_; refine cf ?_; refine run_skip ?_; refine hK28 _ _ ?_; refine sr fun _ hJ59 => ?_; refine gs 78 (fun g14_5 => ?_) (fun g14_5 => ?_)
              · (try exact nope g14_5); all_goals have g14_5p := g14_5; try simp [F] at g14_5p
                all_goals
                 replace F := aF g14_5 F; try replace F := aF g14_5p F
                 have hne : ¬ eqD d y := by intro q; have h := g14_5; simp at h; rw [q.1] at h; exact h rfl
                 rw [if_neg hne] at h2
                 (iterate 5 refine no2 (k := ?_)); refine hJ59 _ _ ?_; refine ct ?_; refine rg' (h := fun J60 hJ60 => ?_); refine hJ60 _ _ ?_; refine hK25 _ _ ?_; refine rg' (h := fun J61 hJ61 => ?_); refine hJ61 _ _ ?_; refine ⟨gk, (⟨x.i + 1, x.O ++ [y], x.b⟩), ⟨kpG, lpG, ?_, ?_, lpG, lpG, lpG, lpG⟩, lpG⟩
                 · exact h2
                 · simp
                   omega
              (try exact nope g14_5); all_goals have g14_5p := g14_5; try simp [F] at g14_5p
              all_goals
               replace F := aF g14_5 F; (try replace F := aF g14_5p F); (iterate 5 refine go2 (k := ?_)); refine hJ59 _ _ ?_; refine cs (fun c84 => ?_) (fun c84 => ?_)
               · (try exact nope c84); all_goals have c84p := c84; try simp [F] at c84p
                 all_goals
                  replace F := aF c84 F; try replace F := aF c84p F
                  have hne : ¬ eqD d y := by intro q; have h := c84; simp at h; rw [q.2] at h; exact h rfl
                  rw [if_neg hne] at h2
                  refine rg' (h := fun J62 hJ62 => ?_); refine hJ62 _ _ ?_; refine hK25 _ _ ?_; refine rg' (h := fun J63 hJ63 => ?_); refine hJ63 _ _ ?_; refine ⟨gk, (⟨x.i + 1, x.O ++ [y], x.b⟩), ⟨kpG, lpG, ?_, ?_, lpG, lpG, lpG, lpG⟩, lpG⟩
                  · exact h2
                  · simp
                    omega
               (try exact nope c84); all_goals have c84p := c84; try simp [F] at c84p
               all_goals
                replace F := aF c84 F; try replace F := aF c84p F
                have heq : eqD d y := ⟨by have h := g14_5; simp at h; exact UInt8.toNat_inj.1 (by omega), by have h := c84; simp at h; exact UInt8.toNat_inj.1 (by omega)⟩
                rw [if_pos heq] at h2
                refine run_skip ?_; refine hK25 _ _ ?_; refine rg' (h := fun J64 hJ64 => ?_); refine hJ64 _ _ ?_; refine ⟨gk, (⟨x.i + 1, x.O, x.b⟩), ⟨kpG, lpG, ?_, ?_, lpG, lpG, lpG, lpG⟩, lpG⟩
                · exact h2
                · simp
                  omega
         (try exact nope g11_2); all_goals have g11_2p := g11_2; try simp [F] at g11_2p
         all_goals
          replace F := aF g11_2 F; try replace F := aF g11_2p F
          have hb : x.b = true := by simpa using g11_2
          rw [if_neg (by rw [hb]; simp)] at h2
          (iterate 19 refine no2 (k := ?_)); refine hJ30 _ _ ?_; refine cf ?_; refine run_skip ?_; refine hK28 _ _ ?_; refine sr fun _ hJ66 => ?_; refine gs 78 (fun g14_5 => ?_) (fun g14_5 => ?_)
          · (try exact nope g14_5); all_goals have g14_5p := g14_5; try simp [F] at g14_5p
            all_goals
             replace F := aF g14_5 F; try replace F := aF g14_5p F
             have hne : ¬ eqD d y := by intro q; have h := g14_5; simp at h; rw [q.1] at h; exact h rfl
             rw [if_neg hne] at h2
             (iterate 5 refine no2 (k := ?_)); refine hJ66 _ _ ?_; refine ct ?_; refine rg' (h := fun J67 hJ67 => ?_); refine hJ67 _ _ ?_; refine hK25 _ _ ?_; refine rg' (h := fun J68 hJ68 => ?_); refine hJ68 _ _ ?_; refine ⟨gk, (⟨x.i + 1, x.O ++ [y], x.b⟩), ⟨kpG, lpG, ?_, ?_, lpG, lpG, lpG, lpG⟩, lpG⟩
             · exact h2
             · simp
               omega
          (try exact nope g14_5); all_goals have g14_5p := g14_5; try simp [F] at g14_5p
          all_goals
           replace F := aF g14_5 F; (try replace F := aF g14_5p F); (iterate 5 refine go2 (k := ?_)); refine hJ66 _ _ ?_; refine cs (fun c84 => ?_) (fun c84 => ?_)
           · (try exact nope c84); all_goals have c84p := c84; try simp [F] at c84p
             all_goals
              replace F := aF c84 F; try replace F := aF c84p F
              have hne : ¬ eqD d y := by intro q; have h := c84; simp at h; rw [q.2] at h; exact h rfl
              rw [if_neg hne] at h2
              refine rg' (h := fun J69 hJ69 => ?_); refine hJ69 _ _ ?_; refine hK25 _ _ ?_; refine rg' (h := fun J70 hJ70 => ?_); refine hJ70 _ _ ?_; refine ⟨gk, (⟨x.i + 1, x.O ++ [y], x.b⟩), ⟨kpG, lpG, ?_, ?_, lpG, lpG, lpG, lpG⟩, lpG⟩
              · exact h2
              · simp
                omega
           (try exact nope c84); all_goals have c84p := c84; try simp [F] at c84p
           all_goals
            replace F := aF c84 F; try replace F := aF c84p F
            have heq : eqD d y := ⟨by have h := g14_5; simp at h; exact UInt8.toNat_inj.1 (by omega), by have h := c84; simp at h; exact UInt8.toNat_inj.1 (by omega)⟩
            rw [if_pos heq] at h2
            refine run_skip ?_; refine hK25 _ _ ?_; refine rg' (h := fun J71 hJ71 => ?_); refine hJ71 _ _ ?_; refine ⟨gk, (⟨x.i + 1, x.O, x.b⟩), ⟨kpG, lpG, ?_, ?_, lpG, lpG, lpG, lpG⟩, lpG⟩
            · exact h2
            · simp
              omega
      (try exact nope c36); all_goals have c36p := c36; try simp [F] at c36p
      all_goals
       replace F := aF c36 F; try replace F := aF c36p F
       have hde : D.drop x.i = [] := List.drop_of_length_le (by have h := c36; simp at h; omega)
       rw [hde, dGo] at h2
       have p2 := fun objs => hap x.O d objs (by omega)
       simp only [← hQ] at p2
       replace F := aF p2 F; refine run_exit ?_; refine hK19 _ _ ?_; refine sq fun K72 hK72 => ?_; refine sr fun _ hJ74 => ?_; refine hJ74 _ _ ?_; refine cs (fun c90 => ?_) (fun c90 => ?_)
       · (try exact nope c90); all_goals have c90p := c90; try simp [F] at c90p
         all_goals
          replace F := aF c90 F; try replace F := aF c90p F
          have hb : x.b = false := by simpa using c90
          rw [hb, if_neg (by simp)] at h2
          refine rg' (h := fun J75 hJ75 => ?_); refine hJ75 _ _ ?_; refine hK72 _ _ ?_; refine sr fun _ hJ77 => ?_; refine hJ77 _ _ ?_; refine sr fun _ hJ79 => ?_; refine hJ79 _ _ ?_; refine ra ?_
          refine ⟨by simp [F], lsT (x.O.length + 1), _, lsA σ.toks.length 7 (dlsC (x.O ++ [d])) (x.O.length + 1), [Q], [], Wk.refl _, by rw [← h2]; simpa using lsA_wk (k := σ.toks.length) (sz := 7) (n := x.O.length + 1) (cs := dlsC (x.O ++ [d])) (fun h => by simp at h), by simp [pX]⟩
       (try exact nope c90); all_goals have c90p := c90; try simp [F] at c90p
       all_goals
        replace F := aF c90 F; try replace F := aF c90p F
        have hb : x.b = true := by simpa using c90
        rw [hb, if_pos rfl] at h2
        refine run_skip ?_; refine hK72 _ _ ?_; refine sr fun _ hJ81 => ?_; refine hJ81 _ _ ?_; refine sr fun _ hJ83 => ?_; refine hJ83 _ _ ?_; refine ra ?_
        refine ⟨by simp [F], lsT x.O.length, _, lsA σ.toks.length 7 (dlsC x.O) x.O.length, [Q], [], Wk.refl _, by rw [← h2]; exact lsA_wk (k := σ.toks.length) (sz := 7) (n := x.O.length) (cs := dlsC x.O) (fun h => by rw [List.eq_nil_of_length_eq_zero h]; rfl), by simp [pX]⟩
set_option maxHeartbeats 1600000 in
attribute [local simp] undefA List.getElem?_cons_zero List.getElem?_cons_succ vlC cos in
theorem rsameV_ok {σ : St} {v : Vl} (hv : v.Ok) :
    CallsA Try.prog 41 [.agg (vlC v), .agg (vlC v)] σ (fun av σ' => av = .v (.bool true) ∧ σ = σ') := by
  refine callsA_gcS ?_ rfl
  have hx : ∀ τ, CallsA Try.prog 21 [.sl 5 (coinsC v.x) v.x.length .shut, .sl 5 (coinsC v.x) v.x.length .shut] τ (fun av σ' => av = .v (.bool true) ∧ τ = σ') := fun τ => by have := rsame_ok (σ := τ) (l := v.x) (m := v.x) (t1 := .shut) (t2 := .shut) hv.2.1 hv.2.1; simpa using this
  have he : ∀ τ, CallsA Try.prog 21 [.sl 5 (coinsC v.e) v.e.length .shut, .sl 5 (coinsC v.e) v.e.length .shut] τ (fun av σ' => av = .v (.bool true) ∧ τ = σ') := fun τ => by have := rsame_ok (σ := τ) (l := v.e) (m := v.e) (t1 := .shut) (t2 := .shut) hv.2.2 hv.2.2; simpa using this
  have ht := cellsEq_num v.t v.t
  have hs := cellsEq_num v.s v.s
  simp only [numA, decide_true] at ht hs
  have F := And.intro ht (And.intro hs (True.intro))
  refine callsA_body Try.func41 rfl rfl rfl ?_; refine sr fun _ hJ2 => ?_; refine hJ2 _ _ ?_; refine sr fun _ hJ4 => ?_; (iterate 29 refine go2 (k := ?_)); refine ca (c := hx _) (k := ?_); rintro _ _ ⟨rfl, rfl⟩; (repeat (first | simp [F] | simp (disch := omega) only [wC, if_pos, if_neg])); (iterate 4 refine go2 (k := ?_)); refine ca (c := he _) (k := ?_); rintro _ _ ⟨rfl, rfl⟩; (repeat (first | simp [F] | simp (disch := omega) only [wC, if_pos, if_neg])); refine hJ4 _ _ ?_; refine ra ?_; exact gcr

set_option maxHeartbeats 1600000 in
attribute [local simp] undefA List.getElem?_cons_zero List.getElem?_cons_succ dlC cos in
theorem ralikeD_ok {σ : St} {d : Dl} (hd : d.Ok) :
    CallsA Try.prog 43 [.agg (dlC d), .agg (dlC d)] σ (fun av σ' => av = .v (.bool true) ∧ σ = σ') := by
  refine callsA_gcS ?_ rfl
  have hx : ∀ τ, CallsA Try.prog 21 [.sl 5 (coinsC d.x) d.x.length .shut, .sl 5 (coinsC d.x) d.x.length .shut] τ (fun av σ' => av = .v (.bool true) ∧ τ = σ') := fun τ => by have := rsame_ok (σ := τ) (l := d.x) (m := d.x) (t1 := .shut) (t2 := .shut) hd hd; simpa using this
  have hs := cellsEq_num d.s d.s
  simp only [numA, decide_true] at hs
  have F := And.intro hs (True.intro)
  refine callsA_body Try.func43 rfl rfl rfl ?_; refine sr fun _ hJ2 => ?_; refine hJ2 _ _ ?_; refine sr fun _ hJ4 => ?_; (iterate 14 refine go2 (k := ?_)); refine ca (c := hx _) (k := ?_); rintro _ _ ⟨rfl, rfl⟩; (repeat (first | simp [F] | simp (disch := omega) only [wC, if_pos, if_neg])); refine hJ4 _ _ ?_; refine ra ?_; exact gcr

structure AP where
  f : UInt8
  v : Vl
  d : Dl
def AP.Ok (a : AP) : Prop := a.v.Ok ∧ a.d.Ok
def apC (a : AP) : List AV := .v (.int .u8 a.f.toNat) :: (vlC a.v ++ dlC a.d)
def apsC (l : List AP) : List AV := l.flatMap apC
theorem apC_len (a : AP) : (apC a).length = 22 := rfl
theorem apsC_len (l : List AP) : (apsC l).length = l.length * 22 := flat_length apC 22 (fun _ => rfl) l
theorem apsC_at {l : List AP} {i : Nat} (h : i < l.length) : ∃ R, (apsC l).drop (i * 22) = apC l[i] ++ R := ⟨_, flat_at apC 22 (fun _ => rfl) l i h⟩
theorem cellP (a : AP) : (∀ x ∈ apC a, AV.isCell x = true) := fun x hx => by
  rcases List.mem_cons.1 hx with rfl | hx
  · rfl
  · rcases List.mem_append.1 hx with hx | hx
    · exact cellV a.v x hx
    · exact cellD a.d x hx
theorem get_drop {l : List AV} {i j : Nat} {x : AV} (h : (l.drop i)[j]? = some x) : ∀ h2 : i + j < l.length, l[i + j]'h2 = x := fun h2 => by
  rw [List.getElem?_drop] at h
  exact (List.getElem?_eq_some_iff.1 h).2

set_option maxHeartbeats 1600000 in
attribute [local simp] undefA List.getElem?_cons_zero List.getElem?_cons_succ in
theorem few11_ok {σ : St} {l : List AP} (hl : l.length ≤ 9223372036854775807) :
    CallsA Try.prog 44 [.sl 22 (apsC l) l.length .shut] σ (fun av σ' => ∃ b : Bool, (b = true → l.length ≤ 30) ∧ av = .v (.bool b) ∧ σ = σ') := by
  have hlc := apsC_len l
  have F := And.intro hlc (True.intro)
  refine callsA_body Try.func44 rfl rfl rfl ?_; refine sr fun _ hJ2 => ?_; refine hJ2 _ _ ?_; refine sq fun K3 hK3 => ?_; refine sr fun _ hJ5 => ?_; refine hJ5 _ _ ?_; refine cs (fun c6 => ?_) (fun c6 => ?_)
  · (try exact nope c6); all_goals have c6p := c6; try simp [F] at c6p
    all_goals
     replace F := aF c6 F; (try replace F := aF c6p F); refine sr fun _ hJ7 => ?_; refine hJ7 _ _ ?_; refine ra ?_; exact ⟨false, by simp, by simp [F], rfl⟩
  (try exact nope c6); all_goals have c6p := c6; try simp [F] at c6p
  all_goals
   replace F := aF c6 F; try replace F := aF c6p F
   have h30 : l.length ≤ 30 := by have h := c6; simp at h; omega
   refine run_skip ?_; refine hK3 _ _ ?_; refine sq fun K8 hK8 => ?_; refine sr fun _ hJ10 => ?_; refine hJ10 _ _ ?_; refine run_block_k ?_; refine run_loopF (X := Nat) [0] (fun i ρ σ1 => (i ≤ l.length) ∧ (ρ 3 = .v (.int .i64 i)) ∧ (σ1 = σ)) (fun i => l.length - i) (0) ?st1 ?rd1
   case st1 =>
    refine ⟨lp, lp, lp⟩
   case rd1 =>
    rintro i ρ1 σ1 hF1 ⟨h1, h5, hσ⟩; obtain rfl := hσ.symm
    have f1 := keepL hF1
    (try simp [KeepL, F] at f1); replace F := aF h5 F; (try replace F := aF f1 F); refine sq fun K11 hK11 => ?_; refine sr fun _ hJ13 => ?_; refine hJ13 _ _ ?_; refine cs (fun c10 => ?_) (fun c10 => ?_)
    · (try exact nope c10); all_goals have c10p := c10; try simp [F] at c10p
      all_goals
       replace F := aF c10 F; try replace F := aF c10p F
       have hlt : i < l.length := by have h := c10; simp at h; omega
       obtain ⟨R, hR⟩ := apsC_at hlt
       obtain ⟨a, ha⟩ : ∃ a, a = l[i] := ⟨_, rfl⟩
       rw [← ha] at hR
       have e1 := get_drop (l := apsC l) (i := i * 22) (j := 13) (x := .sl 5 (coinsC a.v.x) a.v.x.length .shut) (by rw [hR]; rfl)
       have e2 := get_drop (l := apsC l) (i := i * 22) (j := 14) (x := .sl 5 (coinsC a.v.e) a.v.e.length .shut) (by rw [hR]; rfl)
       have e3 := get_drop (l := apsC l) (i := i * 22) (j := 21) (x := .sl 5 (coinsC a.d.x) a.d.x.length .shut) (by rw [hR]; rfl)
       have d1 : i * 22 + 13 < l.length * 22 := by omega
       have d2 : i * 22 + 14 < l.length * 22 := by omega
       have d3 : i * 22 + 21 < l.length * 22 := by omega
       have d4 : i * 22 + 22 ≤ l.length * 22 := by omega
       have hi1 : i + 1 ≤ l.length := hlt
       have hwi : IntKind.i64.wrap ((i : Int) + 1) = (i : Int) + 1 := wrap_i64 _ (by omega) (by omega)
       replace F := aF hlt (And.intro e1 (And.intro e2 (And.intro e3 (And.intro d1 (And.intro d2 (And.intro d3 (And.intro d4 (And.intro hi1 (And.intro hwi F))))))))); refine run_skip ?_; refine hK11 _ _ ?_; refine sq fun K14 hK14 => ?_; refine run_block_k ?_; refine sq fun K15 hK15 => ?_
       refine run_draw (by kernel_rfl) fun J16 hJ16 => ?_
       refine rp2 0 (k := ?_); refine rp2 1 (k := ?_); refine rp2 2 (k := ?_); refine rp2 3 (k := ?_); refine rp2 4 (k := ?_); refine rp2 5 (k := ?_); refine rp2 6 (k := ?_); refine rp2 7 (k := ?_); refine rp2 8 (k := ?_); refine rp2 9 (k := ?_); refine rp2 10 (k := ?_); refine rp2 11 (k := ?_); refine rp2 12 (k := ?_); refine rp2 13 (k := ?_); refine rp2 14 (k := ?_); refine rp2 15 (k := ?_); refine rp2 16 (k := ?_); refine rp2 17 (k := ?_); refine rp2 18 (k := ?_); refine rp2 19 (k := ?_); refine rp2 20 (k := ?_); refine rp2 21 (k := ?_); refine rp2 22 (k := ?_); refine rp2 23 (k := ?_); refine dd ?_; refine hJ16 _ _ ?_; refine hK15 _ _ ?_; refine cs (fun c36 => ?_) (fun c36 => ?_)
       · (try exact nope c36); all_goals have c36p := c36; try simp [F] at c36p
         all_goals
          replace F := aF c36 F; (try replace F := aF c36p F); refine sr fun _ hJ18 => ?_; refine hJ18 _ _ ?_; refine ra ?_; exact ⟨false, by simp, by simp [F], rfl⟩
       (try exact nope c36); all_goals have c36p := c36; try simp [F] at c36p
       all_goals
        replace F := aF c36 F; (try replace F := aF c36p F); refine run_skip ?_; refine hK14 _ _ ?_; refine rg' (h := fun J19 hJ19 => ?_); refine hJ19 _ _ ?_; refine ⟨(i + 1), ⟨kp, lp, lp, lp⟩, lp⟩
    (try exact nope c10); all_goals have c10p := c10; try simp [F] at c10p
    all_goals
     replace F := aF c10 F; (try replace F := aF c10p F); refine run_exit ?_; refine hK8 _ _ ?_; refine sr fun _ hJ21 => ?_; refine hJ21 _ _ ?_; refine ra ?_; exact ⟨true, fun _ => h30, by simp [F], rfl⟩

theorem rem_p8 (b : UInt8) (m : Nat) (hm : (m : Int) ≠ 0) (xo yo : Operand) : binA Try.prog .rem 5 xo yo (.v (.int .u8 (b.toNat : Nat))) (.v (.int .u8 m)) = some (.v (.int .u8 ((b.toNat % m : Nat) : Int))) := by rw [binA_rem (h := hm)]; rfl

set_option maxHeartbeats 1600000 in
attribute [local simp] undefA List.getElem?_cons_zero List.getElem?_cons_succ in
theorem does11_ok {σ : St} {o k m n : Nat} {G : Sg} {W : Pw} {a : AP} (h : HasS σ o k G) (hm : σ.objs[m]? = some (pC W)) (hom : o ≠ m) (hi : PoolS G.s W n) (hn : n ≤ 900) (ha : a.Ok) :
    CallsA Try.prog 45 [.ptr o 0, .ptr m 0, .agg (apC a)] σ (fun av σ' => ∃ G' W', PoolS G'.s W' (n + 1) ∧ av = .v (.bool true) ∧ σ' = putP (putS σ o k G') m W') := by
  refine callsA_mono (callsA_gcX (X := { x : Sg × Pw // PoolS x.1.s x.2 (n + 1) }) (A := fun _ => .v (.bool true)) (τ := fun x => putP (putS σ o k x.1.1) m x.1.2) ?_ (fun _ => rfl) (fun x => by simp [putP, putS]) (fun x => rfl) (fun x => by simp [putP, putS]) (fun x => rfl) (fun x => ku_set (putS_o h _) (pC_under _ _)) (fun x => putS_r (o := o) (k := k) (σ := σ) _)) (fun av σ' ⟨x, e1, e2⟩ => ⟨x.1.1, x.1.2, x.2, e1, e2⟩)
  have hwl := lt_of_get hm
  have hr := ha.1.1
  have hnd := hi.nd
  obtain ⟨A, hA⟩ : ∃ A, A = apC a := ⟨_, rfl⟩
  have hAl : A.length = 22 := by rw [hA]; rfl
  have hAt : List.take 22 A = A := List.take_of_length_le (Nat.le_of_eq hAl)
  have hA0 : ∀ h2 : 0 < A.length, A[0]'h2 = .v (.int .u8 (a.f.toNat : Nat)) := fun _ => by subst hA; rfl
  have hA2 : ∀ h2 : 2 < A.length, A[2]'h2 = .v (.int .u8 (a.v.o.toNat : Nat)) := fun _ => by subst hA; rfl
  have hA3 : ∀ h2 : 3 < A.length, A[3]'h2 = .v (.int .u16 (a.v.r : Nat)) := fun _ => by subst hA; rfl
  obtain ⟨Q, hQ⟩ : ∃ Q, Q = vlC a.v := ⟨_, rfl⟩
  obtain ⟨Y, hY⟩ : ∃ Y, Y = dlC a.d := ⟨_, rfl⟩
  have hAQ : List.take 14 A.tail = Q := by rw [hA, hQ]; rfl
  have hAY : List.take 7 (List.drop 15 A) = Y := by rw [hA, hY]; rfl
  have hr4 : ∀ xo yo, binA Try.prog .rem 5 xo yo (.v (.int .u8 (a.f.toNat : Nat))) (.v (.int .u8 4)) = some (.v (.int .u8 ((a.f.toNat % 4 : Nat) : Int))) := fun xo yo => rem_p8 a.f 4 (by decide) xo yo
  obtain ⟨r, hr9⟩ : ∃ r, r = a.f.toNat % 4 := ⟨_, rfl⟩
  simp only [← hr9] at hr4
  have hpa := fun (G' : Sg) => putS_app h G' [A]
  have hS : HasS { σ with objs := σ.objs ++ [A] } o k G := h.app [A] σ.toks
  have gw : ∀ G', (putS { σ with objs := σ.objs ++ [A] } o k G').objs[m]? = some (pC W) := fun G' => by simp only [putS]; rw [List.getElem?_set_ne hom, List.getElem?_append_left hwl]; exact hm
  have gA : ∀ G', (putS { σ with objs := σ.objs ++ [A] } o k G').objs[σ.objs.length]? = some A := fun G' => by rw [hpa]; simp [putS]
  have gB : ∀ G' W', (putP (putS { σ with objs := σ.objs ++ [A] } o k G') m W').objs[σ.objs.length]? = some A := fun G' W' => by simp only [putP]; rw [List.getElem?_set_ne (by omega)]; exact gA G'
  have hfin : ∀ G' W', putP (putS { σ with objs := σ.objs ++ [A] } o k G') m W' = { putP (putS σ o k G') m W' with objs := (putP (putS σ o k G') m W').objs ++ [A] } := fun G' W' => by
    rw [hpa]; simp only [putP]; rw [List.set_append_left _ _ (by simpa [putS] using hwl)]
  have d1 := padd_ok (ow := a.v.o) (r := a.v.r) hS hi (by omega) hr
  have d2 := psetV_ok (v := a.v) hS hi (by omega) ha.1
  have d3 := psetD_ok (d := a.d) hS hi (by omega) ha.2
  have w1 := fun G' => radd_ok (ow := a.v.o) (r := a.v.r) (gw G') hi.lv hr
  have w2 := fun G' => rsetV_ok (v := a.v) (gw G') hi.lv ha.1
  have w3 := fun G' => rsetD_ok (d := a.d) (gw G') hi.srtD (by omega) hi.lv ha.2
  obtain ⟨P1, hP1⟩ : ∃ P, P = addP W a.v.o a.v.r := ⟨_, rfl⟩
  obtain ⟨P2, hP2⟩ : ∃ P, P = setVP W a.v := ⟨_, rfl⟩
  obtain ⟨P3, hP3⟩ : ∃ P, P = setDP W a.d := ⟨_, rfl⟩
  simp only [← hP1] at d1 w1
  simp only [← hP2, ← hQ] at d2 w2
  simp only [← hP3, ← hY] at d3 w3
  rw [← hA]
  have F := And.intro hAl (And.intro hAt (And.intro hA0 (And.intro hA2 (And.intro hA3 (And.intro hAQ (And.intro hAY (And.intro hr4 (And.intro gA (And.intro gB (True.intro))))))))))
  refine callsA_body Try.func45 rfl rfl rfl ?_; refine sr fun _ hJ2 => ?_; refine hJ2 _ _ ?_; refine sq fun K3 hK3 => ?_; refine sr fun _ hJ5 => ?_; refine hJ5 _ _ ?_; refine run_block_k ?_; refine sr fun _ hJ7 => ?_; refine hJ7 _ _ ?_; refine cs (fun c14 => ?_) (fun c14 => ?_)
  · (try exact nope c14); all_goals have c14p := c14; try simp [F] at c14p
    all_goals
     replace F := aF c14 F; (try replace F := aF c14p F); refine sr fun _ hJ9 => ?_; refine ca (c := d1) (k := ?_); rintro _ _ ⟨G1, e1, rfl, rfl⟩; (repeat (first | simp [F] | simp (disch := omega) only [wC, if_pos, if_neg])); refine hJ9 _ _ ?_; refine sr fun _ hJ11 => ?_; refine ca (c := w1 G1) (k := ?_); rintro _ _ ⟨rfl, rfl⟩; (repeat (first | simp [F] | simp (disch := omega) only [wC, if_pos, if_neg])); refine hJ11 _ _ ?_; refine sr fun _ hJ13 => ?_; (iterate 3 refine go2 (k := ?_)); refine hJ13 _ _ ?_; refine ra ?_; refine ⟨⟨(G1, _), e1⟩, ?_⟩
     rw [hfin]
     exact gcr
  (try exact nope c14); all_goals have c14p := c14; try simp [F] at c14p
  all_goals
   replace F := aF c14 F; (try replace F := aF c14p F); refine sr fun _ hJ15 => ?_; refine hJ15 _ _ ?_; refine cs (fun c46 => ?_) (fun c46 => ?_)
   · (try exact nope c46); all_goals have c46p := c46; try simp [F] at c46p
     all_goals
      replace F := aF c46 F; (try replace F := aF c46p F); refine sq fun K16 hK16 => ?_
      refine run_draw (by kernel_rfl) fun J17 hJ17 => ?_
      refine rp2 0 (k := ?_); refine rp2 1 (k := ?_); refine rp2 2 (k := ?_); refine rp2 4 (k := ?_); refine rp2 5 (k := ?_); refine rp2 6 (k := ?_); refine dc 3 rfl (c := d2) (k := ?_); rintro _ _ ⟨G1, e1, rfl, rfl⟩
      refine ⟨by first | exact fun _ _ h => h | (refine later_list [6, 5, 4, 1] (by kernel_rfl) (List.forall_mem_cons.2 ⟨fun _ => fact2 rfl rfl ?_, List.forall_mem_cons.2 ⟨fun _ => fact2 rfl rfl ?_, List.forall_mem_cons.2 ⟨fun _ => fact2 rfl rfl ?_, List.forall_mem_cons.2 ⟨fun _ => fact2 rfl rfl ?_, fun _ h => absurd h List.not_mem_nil⟩⟩⟩⟩) <;> constructor <;> first | rfl | (simp [F]; done)), ?_⟩
      (repeat (first | simp [F] | simp (disch := omega) only [wC, if_pos, if_neg])); refine dc 7 rfl (c := w2 G1) (k := ?_); rintro _ _ ⟨rfl, rfl⟩
      refine ⟨by first | exact fun _ _ h => h | (refine later_list [5, 1] (by kernel_rfl) (List.forall_mem_cons.2 ⟨fun _ => fact2 rfl rfl ?_, List.forall_mem_cons.2 ⟨fun _ => fact2 rfl rfl ?_, fun _ h => absurd h List.not_mem_nil⟩⟩) <;> constructor <;> first | rfl | (simp [F]; done)), ?_⟩
      (repeat (first | simp [F] | simp (disch := omega) only [wC, if_pos, if_neg])); refine rp2 8 (k := ?_); refine rp2 9 (k := ?_); refine dd ?_; refine hJ17 _ _ ?_; refine hK16 _ _ ?_; refine ra ?_; refine ⟨⟨(G1, _), e1⟩, ?_⟩
      rw [hfin]
      exact gcr
   (try exact nope c46); all_goals have c46p := c46; try simp [F] at c46p
   all_goals
    replace F := aF c46 F; (try replace F := aF c46p F); refine run_skip ?_; refine hK3 _ _ ?_; refine sq fun K18 hK18 => ?_
    refine run_draw (by kernel_rfl) fun J19 hJ19 => ?_
    refine rp2 0 (k := ?_); refine rp2 1 (k := ?_); refine rp2 2 (k := ?_); refine rp2 4 (k := ?_); refine rp2 5 (k := ?_); refine rp2 6 (k := ?_); refine dc 3 rfl (c := d3) (k := ?_); rintro _ _ ⟨G1, e1, rfl, rfl⟩
    refine ⟨by first | exact fun _ _ h => h | (refine later_list [6, 5, 4, 1] (by kernel_rfl) (List.forall_mem_cons.2 ⟨fun _ => fact2 rfl rfl ?_, List.forall_mem_cons.2 ⟨fun _ => fact2 rfl rfl ?_, List.forall_mem_cons.2 ⟨fun _ => fact2 rfl rfl ?_, List.forall_mem_cons.2 ⟨fun _ => fact2 rfl rfl ?_, fun _ h => absurd h List.not_mem_nil⟩⟩⟩⟩) <;> constructor <;> first | rfl | (simp [F]; done)), ?_⟩
    (repeat (first | simp [F] | simp (disch := omega) only [wC, if_pos, if_neg])); refine dc 7 rfl (c := w3 G1) (k := ?_); rintro _ _ ⟨rfl, rfl⟩
    refine ⟨by first | exact fun _ _ h => h | (refine later_list [5, 1] (by kernel_rfl) (List.forall_mem_cons.2 ⟨fun _ => fact2 rfl rfl ?_, List.forall_mem_cons.2 ⟨fun _ => fact2 rfl rfl ?_, fun _ h => absurd h List.not_mem_nil⟩⟩) <;> constructor <;> first | rfl | (simp [F]; done)), ?_⟩
    (repeat (first | simp [F] | simp (disch := omega) only [wC, if_pos, if_neg])); refine rp2 8 (k := ?_); refine rp2 9 (k := ?_); refine dd ?_; refine hJ19 _ _ ?_; refine hK18 _ _ ?_; refine ra ?_; refine ⟨⟨(G1, _), e1⟩, ?_⟩
    rw [hfin]
    exact gcr
set_option maxHeartbeats 1600000 in
attribute [local simp] undefA List.getElem?_cons_zero List.getElem?_cons_succ vlsC_noObj dlsC_noObj in
theorem same11_ok {σ : St} {o k m n : Nat} {G : Sg} {W : Pw} (h : HasS σ o k G) (hm : σ.objs[m]? = some (pC W)) (hi : PoolS G.s W n) (hn : n ≤ 1000) :
    CallsA Try.prog 47 [.ptr o 0, .ptr m 0] σ (fun av σ' => av = .v (.bool true) ∧ σ = σ') := by
  refine callsA_gcS ?_ rfl
  have hvs := vals_ok h hi hn
  have hds := all11_ok h hi hn
  have hol := lt_of_get h.o
  have hml := lt_of_get hm
  have hlv := hi.lv
  have hld := hi.nd
  have hva : ∀ (j : Nat) (hj : j < W.V.length), CallsA Try.prog 39 [.ptr o 0, .v (.int .u8 (j : Nat))] σ (fun av σ' => av = .tup [.agg (vlC W.V[j]), .v (.bool true)] ∧ σ = σ') := fun j hj => by
    have := val_yes h hi.ok (by omega) (hi.rv _ (List.getElem_mem _)) (hi.getV hj)
    rw [hi.ids j hj] at this; exact this
  have hda : ∀ (j : Nat) (hj : j < W.D.length), CallsA Try.prog 40 [.ptr o 0, .v (.int .u8 W.D[j].o.toNat), .v (.int .u8 W.D[j].v.toNat)] σ (fun av σ' => av = .tup [.agg (dlC W.D[j]), .v (.bool true)] ∧ σ = σ') := fun j hj =>
    get_yes h hi.ok (by omega) (hi.rd _ (List.getElem_mem _)) (hi.getD (List.getElem_mem _))
  have hdb : ∀ (j : Nat) (hj : j < W.D.length) l, CallsA Try.prog 40 [.ptr o 0, .v (.int .u8 W.D[j].o.toNat), .v (.int .u8 W.D[j].v.toNat)] { σ with objs := σ.objs ++ l } (fun av σ' => av = .tup [.agg (dlC W.D[j]), .v (.bool true)] ∧ { σ with objs := σ.objs ++ l } = σ') := fun j hj l =>
    get_yes (h.app l σ.toks) hi.ok (by omega) (hi.rd _ (List.getElem_mem _)) (hi.getD (List.getElem_mem _))
  have hvk : ∀ v ∈ W.V, v.Ok := fun v hv => by
    have hr := hi.rv v hv
    have h1 := right_len hr.2.2.1; have h2 := right_len hr.2.2.2
    exact ⟨by have := hr.2.1; omega, by omega, by omega⟩
  have hdk : ∀ d ∈ W.D, d.Ok := fun d hd => by have := right_len (hi.rd d hd); show d.x.length ≤ _; omega
  obtain ⟨V, D⟩ := W
  simp only at *
  simp only [pC, pX] at hm
  have hm1 : ∀ l, (σ.objs ++ l)[m]? = some _ := fun l => by rw [List.getElem?_append_left hml]; exact hm
  have hge : ∀ h2 : m < σ.objs.length, σ.objs[m]'h2 = _ := fun h2 => (List.getElem?_eq_some_iff.1 hm).2
  have hml1 : m < σ.objs.length + 1 := by omega
  have hVc := vlsC_len V
  have hDc := dlsC_len D
  have F := And.intro hm (And.intro hm1 (And.intro hge (And.intro hol (And.intro hml (And.intro hml1 (And.intro hVc (And.intro hDc (True.intro))))))))
  refine callsA_body Try.func47 rfl rfl rfl ?_; refine sr fun _ hJ2 => ?_; refine hJ2 _ _ ?_; refine sr fun _ hJ4 => ?_; refine ca (c := hvs) (k := ?_); rintro _ _ ⟨rfl, rfl⟩; (repeat (first | simp [F] | simp (disch := omega) only [wC, if_pos, if_neg])); refine ca (c := hds) (k := ?_); rintro _ _ ⟨rfl, rfl⟩; (repeat (first | simp [F] | simp (disch := omega) only [wC, if_pos, if_neg])); refine hJ4 _ _ ?_; refine sq fun K5 hK5 => ?_; refine sr fun _ hJ7 => ?_; (iterate 8 refine go2 (k := ?_)); refine hJ7 _ _ ?_; refine cf ?_; refine run_skip ?_; refine hK5 _ _ ?_; refine sq fun K8 hK8 => ?_; refine sr fun _ hJ10 => ?_; refine hJ10 _ _ ?_; refine run_block_k ?_; refine run_loopG (X := Nat) [0, 1, 5, 6] (fun i ρ σ1 => (i ≤ V.length) ∧ (ρ 7 = .v (.int .i64 i)) ∧ (σ1 = σ)) (fun i => V.length - i) (0) ?st1 ?rd1
  case st1 =>
   refine ⟨lp, lp, lp⟩
  case rd1 =>
   rintro i ρ1 σ1 hF1 ⟨h1, h5, hσ⟩; obtain rfl := hσ.symm
   have f1 := keepL hF1
   (try simp [KeepL, F] at f1); replace F := aF h5 F; (try replace F := aF f1 F); refine sq fun K11 hK11 => ?_; refine sr fun _ hJ13 => ?_; refine hJ13 _ _ ?_; refine cs (fun c38 => ?_) (fun c38 => ?_)
   · (try exact nope c38); all_goals have c38p := c38; try simp [F] at c38p
     all_goals
      replace F := aF c38 F; try replace F := aF c38p F
      have hlt : i < V.length := by have h := c38; simp at h; omega
      obtain ⟨R, hR⟩ := vlsC_at hlt
      obtain ⟨v, hv⟩ : ∃ v, v = V[i] := ⟨_, rfl⟩
      rw [← hv] at hR
      have hR3 : List.take 14 (List.drop (i * 14) (vlsC V)) = vlC v := by rw [hR]; rfl
      have hv1 := hva i hlt
      rw [← hv] at hv1
      have hs1 := fun τ => rsameV_ok (σ := τ) (hvk v (by rw [hv]; exact List.getElem_mem _))
      have d3 : i * 14 + 14 ≤ V.length * 14 := by omega
      have hi1 : i + 1 ≤ V.length := hlt
      have hwi : IntKind.i64.wrap ((i : Int) + 1) = (i : Int) + 1 := wrap_i64 _ (by omega) (by omega)
      have hw8 : IntKind.u8.wrap (i : Int) = (i : Int) := by rw [wrap_u8]; omega
      have hec : (vlC v).length = 14 := rfl
      have hcl : (∀ x, x ∈ vlC v → x.isCell = true) = True := eq_true (cellV _)
      have hyo : ∀ nb, noObjL nb (vlC v) = true := fun nb => vlC_noObj nb _
      have hyt : List.take 14 (vlC v) = vlC v := rfl
      obtain ⟨Q, hQ⟩ : ∃ Q, Q = vlC v := ⟨_, rfl⟩
      rw [← hQ] at hR3 hec hcl hyt hv1
      simp only [← hQ] at hs1 hyo
      simp only [AV.isCell] at hcl
      replace F := aF hlt (And.intro hR3 (And.intro d3 (And.intro hi1 (And.intro hwi (And.intro hw8 (And.intro hec (And.intro hcl (And.intro hyo (And.intro hyt F))))))))); refine run_skip ?_; refine hK11 _ _ ?_; refine sq fun K14 hK14 => ?_; refine run_block_k ?_; refine sr fun _ hJ16 => ?_; refine ca (c := hv1) (k := ?_); rintro _ _ ⟨rfl, rfl⟩; (repeat (first | simp [F] | simp (disch := omega) only [wC, if_pos, if_neg])); refine hJ16 _ _ ?_; refine sq fun K17 hK17 => ?_
      refine run_draw (by kernel_rfl) fun J18 hJ18 => ?_
      refine rp2 0 (k := ?_); refine rp2 1 (k := ?_); refine rp2 2 (k := ?_); refine rp2 3 (k := ?_); refine rp2 4 (k := ?_); refine rp2 5 (k := ?_); refine rp2 6 (k := ?_); refine rp2 7 (k := ?_); refine rp2 8 (k := ?_); refine rp2 9 (k := ?_); refine rp2 10 (k := ?_); refine rp2 11 (k := ?_); refine rp2 12 (k := ?_); refine rp2 13 (k := ?_); refine dc 14 rfl (c := hs1 _) (k := ?_); rintro _ _ ⟨rfl, rfl⟩
      refine ⟨by first | exact fun _ _ h => h | (refine later_list [12, 11, 10, 9, 8, 7, 5, 4, 3, 1, 0] (by kernel_rfl) (List.forall_mem_cons.2 ⟨fun _ => fact2 rfl rfl ?_, List.forall_mem_cons.2 ⟨fun _ => fact2 rfl rfl ?_, List.forall_mem_cons.2 ⟨fun _ => fact2 rfl rfl ?_, List.forall_mem_cons.2 ⟨fun _ => fact2 rfl rfl ?_, List.forall_mem_cons.2 ⟨fun _ => fact2 rfl rfl ?_, List.forall_mem_cons.2 ⟨fun _ => fact2 rfl rfl ?_, List.forall_mem_cons.2 ⟨fun _ => fact2 rfl rfl ?_, List.forall_mem_cons.2 ⟨fun _ => fact2 rfl rfl ?_, List.forall_mem_cons.2 ⟨fun _ => fact2 rfl rfl ?_, List.forall_mem_cons.2 ⟨fun _ => fact2 rfl rfl ?_, List.forall_mem_cons.2 ⟨fun _ => fact2 rfl rfl ?_, fun _ h => absurd h List.not_mem_nil⟩⟩⟩⟩⟩⟩⟩⟩⟩⟩⟩) <;> constructor <;> first | rfl | (simp [F]; done)), ?_⟩
      (repeat (first | simp [F] | simp (disch := omega) only [wC, if_pos, if_neg])); refine rp2 15 (k := ?_); refine rp2 16 (k := ?_); refine rp2 17 (k := ?_); refine rp2 18 (k := ?_); refine rp2 19 (k := ?_); refine rp2 20 (k := ?_); refine rp2 21 (k := ?_); refine rp2 22 (k := ?_); refine rp2 23 (k := ?_); refine rp2 24 (k := ?_); refine rp2 25 (k := ?_); refine dc 26 rfl (c := hs1 _) (k := ?_); rintro _ _ ⟨rfl, rfl⟩
      refine ⟨by first | exact fun _ _ h => h | (refine later_list [24, 23, 22, 21, 20, 19, 16, 15, 12, 11, 10, 9, 8, 7, 5, 4, 3, 1, 0] (by kernel_rfl) (List.forall_mem_cons.2 ⟨fun _ => fact2 rfl rfl ?_, List.forall_mem_cons.2 ⟨fun _ => fact2 rfl rfl ?_, List.forall_mem_cons.2 ⟨fun _ => fact2 rfl rfl ?_, List.forall_mem_cons.2 ⟨fun _ => fact2 rfl rfl ?_, List.forall_mem_cons.2 ⟨fun _ => fact2 rfl rfl ?_, List.forall_mem_cons.2 ⟨fun _ => fact2 rfl rfl ?_, List.forall_mem_cons.2 ⟨fun _ => fact2 rfl rfl ?_, List.forall_mem_cons.2 ⟨fun _ => fact2 rfl rfl ?_, List.forall_mem_cons.2 ⟨fun _ => fact2 rfl rfl ?_, List.forall_mem_cons.2 ⟨fun _ => fact2 rfl rfl ?_, List.forall_mem_cons.2 ⟨fun _ => fact2 rfl rfl ?_, List.forall_mem_cons.2 ⟨fun _ => fact2 rfl rfl ?_, List.forall_mem_cons.2 ⟨fun _ => fact2 rfl rfl ?_, List.forall_mem_cons.2 ⟨fun _ => fact2 rfl rfl ?_, List.forall_mem_cons.2 ⟨fun _ => fact2 rfl rfl ?_, List.forall_mem_cons.2 ⟨fun _ => fact2 rfl rfl ?_, List.forall_mem_cons.2 ⟨fun _ => fact2 rfl rfl ?_, List.forall_mem_cons.2 ⟨fun _ => fact2 rfl rfl ?_, List.forall_mem_cons.2 ⟨fun _ => fact2 rfl rfl ?_, fun _ h => absurd h List.not_mem_nil⟩⟩⟩⟩⟩⟩⟩⟩⟩⟩⟩⟩⟩⟩⟩⟩⟩⟩⟩) <;> constructor <;> first | rfl | (simp [F]; done)), ?_⟩
      (repeat (first | simp [F] | simp (disch := omega) only [wC, if_pos, if_neg])); refine rp2 27 (k := ?_); refine rp2 28 (k := ?_); refine dd ?_; refine hJ18 _ _ ?_; refine hK17 _ _ ?_; refine cf ?_; refine run_skip ?_; refine hK14 _ _ ?_; refine rg' (h := fun J19 hJ19 => ?_); refine hJ19 _ _ ?_; refine ⟨gk, (i + 1), ⟨kpG, lpG, lpG, lpG⟩, lpG⟩
   (try exact nope c38); all_goals have c38p := c38; try simp [F] at c38p
   all_goals
    replace F := aF c38 F; (try replace F := aF c38p F); refine run_exit ?_; refine hK8 _ _ ?_; refine sq fun K20 hK20 => ?_; refine sr fun _ hJ22 => ?_; refine hJ22 _ _ ?_; refine run_block_k ?_; refine run_loopG (X := Nat) [0, 1, 6] (fun i ρ σ1 => (i ≤ D.length) ∧ (ρ 10 = .v (.int .i64 i)) ∧ (σ1 = σ)) (fun i => D.length - i) (0) ?st2 ?rd2
    case st2 =>
     refine ⟨lp, lp, lp⟩
    case rd2 =>
     rintro i ρ2 σ1 hF2 ⟨h1, h5, hσ⟩; obtain rfl := hσ.symm
     have f2 := keepL hF2
     (try simp [KeepL, F] at f2); replace F := aF h5 F; (try replace F := aF f2 F); refine sq fun K23 hK23 => ?_; refine sr fun _ hJ25 => ?_; refine hJ25 _ _ ?_; refine cs (fun c80 => ?_) (fun c80 => ?_)
     · (try exact nope c80); all_goals have c80p := c80; try simp [F] at c80p
       all_goals
        replace F := aF c80 F; try replace F := aF c80p F
        have hlt : i < D.length := by have h := c80; simp at h; omega
        obtain ⟨R, hR⟩ := dlsC_at hlt
        obtain ⟨v, hv⟩ : ∃ v, v = D[i] := ⟨_, rfl⟩
        rw [← hv] at hR
        have hR3 : List.take 7 (List.drop (i * 7) (dlsC D)) = dlC v := by rw [hR]; rfl
        have f0 : ∀ h2 : i * 7 < (dlsC D).length, (dlsC D)[i * 7]'h2 = .v (.int .u8 (v.o.toNat : Nat)) := fun h2 => by have := get_drop (l := dlsC D) (i := i * 7) (j := 0) (x := .v (.int .u8 (v.o.toNat : Nat))) (by rw [hR]; rfl); exact this h2
        have f1 := get_drop (l := dlsC D) (i := i * 7) (j := 1) (x := .v (.int .u8 (v.v.toNat : Nat))) (by rw [hR]; rfl)
        have hv1 := hda i hlt
        have hv2 := hdb i hlt
        rw [← hv] at hv1 hv2
        have hs1 := fun τ => ralikeD_ok (σ := τ) (hdk v (by rw [hv]; exact List.getElem_mem _))
        have d0 : i * 7 < D.length * 7 := by omega
        have d1 : i * 7 + 1 < D.length * 7 := by omega
        have d3 : i * 7 + 7 ≤ D.length * 7 := by omega
        have hi1 : i + 1 ≤ D.length := hlt
        have hwi : IntKind.i64.wrap ((i : Int) + 1) = (i : Int) + 1 := wrap_i64 _ (by omega) (by omega)
        have hec : (dlC v).length = 7 := rfl
        have hcl : (∀ x, x ∈ dlC v → x.isCell = true) = True := eq_true (cellD _)
        have hyo : ∀ nb, noObjL nb (dlC v) = true := fun nb => dlC_noObj nb _
        have hyt : List.take 7 (dlC v) = dlC v := rfl
        obtain ⟨Q, hQ⟩ : ∃ Q, Q = dlC v := ⟨_, rfl⟩
        rw [← hQ] at hR3 hec hcl hyt hv1
        simp only [← hQ] at hs1 hyo hv2
        simp only [AV.isCell] at hcl
        replace F := aF hlt (And.intro hR3 (And.intro f0 (And.intro f1 (And.intro d0 (And.intro d1 (And.intro d3 (And.intro hi1 (And.intro hwi (And.intro hec (And.intro hcl (And.intro hyo (And.intro hyt F)))))))))))); refine run_skip ?_; refine hK23 _ _ ?_; refine sq fun K26 hK26 => ?_; refine run_block_k ?_; refine sq fun K27 hK27 => ?_
        refine run_draw (by kernel_rfl) fun J28 hJ28 => ?_
        refine rp2 0 (k := ?_); refine rp2 1 (k := ?_); refine rp2 2 (k := ?_); refine rp2 3 (k := ?_); refine rp2 4 (k := ?_); refine rp2 5 (k := ?_); refine rp2 6 (k := ?_); refine rp2 7 (k := ?_); refine rp2 8 (k := ?_); refine rp2 9 (k := ?_); refine rp2 10 (k := ?_); refine d2 11 15 ?_ ?_
        · refine ac 11 rfl (c := (by first | exact hv1 | exact hv2 _)) (k := ?_)
          rintro _ _ ⟨rfl, rfl⟩
          refine ⟨by first | exact fun _ _ h => h | (refine later_list [9, 8, 7, 6, 4, 3, 2, 1] (by kernel_rfl) (List.forall_mem_cons.2 ⟨fun _ => fact2 rfl rfl ?_, List.forall_mem_cons.2 ⟨fun _ => fact2 rfl rfl ?_, List.forall_mem_cons.2 ⟨fun _ => fact2 rfl rfl ?_, List.forall_mem_cons.2 ⟨fun _ => fact2 rfl rfl ?_, List.forall_mem_cons.2 ⟨fun _ => fact2 rfl rfl ?_, List.forall_mem_cons.2 ⟨fun _ => fact2 rfl rfl ?_, List.forall_mem_cons.2 ⟨fun _ => fact2 rfl rfl ?_, List.forall_mem_cons.2 ⟨fun _ => fact2 rfl rfl ?_, fun _ h => absurd h List.not_mem_nil⟩⟩⟩⟩⟩⟩⟩⟩) <;> constructor <;> first | rfl | (simp [F]; done)), ?_⟩
          (repeat (first | simp [F] | simp (disch := omega) only [wC, if_pos, if_neg])); refine rp2 12 (k := ?_); refine rp2 13 (k := ?_); refine rp2 14 (k := ?_); refine dop 15 rfl ?_; repeat (first | simp [F] | simp (disch := omega) only [wC, if_pos, if_neg])
          refine ⟨by first | exact later_more _ (by kernel_rfl) | exact later_more2 (by kernel_rfl) rfl, ?_⟩
          refine dop 16 rfl ?_; repeat (first | simp [F] | simp (disch := omega) only [wC, if_pos, if_neg])
          refine ⟨later_tmp (by kernel_rfl), ?_⟩
          refine rp2 17 (k := ?_); refine dd ?_; refine hJ28 _ _ ?_; refine hK27 _ _ ?_; refine sq fun K29 hK29 => ?_
          refine run_draw (by kernel_rfl) fun J30 hJ30 => ?_
          refine rp2 0 (k := ?_); refine rp2 1 (k := ?_); refine rp2 2 (k := ?_); refine rp2 3 (k := ?_); refine rp2 4 (k := ?_); refine rp2 5 (k := ?_); refine rp2 6 (k := ?_); refine rp2 7 (k := ?_); refine rp2 8 (k := ?_); refine rp2 9 (k := ?_); refine rp2 10 (k := ?_); refine rp2 11 (k := ?_); refine rp2 12 (k := ?_); refine rp2 13 (k := ?_); refine dc 14 rfl (c := hs1 _) (k := ?_); rintro _ _ ⟨rfl, rfl⟩
          refine ⟨by first | exact fun _ _ h => h | (refine later_list [12, 11, 10, 9, 8, 7, 5, 4, 3, 1, 0] (by kernel_rfl) (List.forall_mem_cons.2 ⟨fun _ => fact2 rfl rfl ?_, List.forall_mem_cons.2 ⟨fun _ => fact2 rfl rfl ?_, List.forall_mem_cons.2 ⟨fun _ => fact2 rfl rfl ?_, List.forall_mem_cons.2 ⟨fun _ => fact2 rfl rfl ?_, List.forall_mem_cons.2 ⟨fun _ => fact2 rfl rfl ?_, List.forall_mem_cons.2 ⟨fun _ => fact2 rfl rfl ?_, List.forall_mem_cons.2 ⟨fun _ => fact2 rfl rfl ?_, List.forall_mem_cons.2 ⟨fun _ => fact2 rfl rfl ?_, List.forall_mem_cons.2 ⟨fun _ => fact2 rfl rfl ?_, List.forall_mem_cons.2 ⟨fun _ => fact2 rfl rfl ?_, List.forall_mem_cons.2 ⟨fun _ => fact2 rfl rfl ?_, fun _ h => absurd h List.not_mem_nil⟩⟩⟩⟩⟩⟩⟩⟩⟩⟩⟩) <;> constructor <;> first | rfl | (simp [F]; done)), ?_⟩
          (repeat (first | simp [F] | simp (disch := omega) only [wC, if_pos, if_neg])); refine rp2 15 (k := ?_); refine rp2 16 (k := ?_); refine rp2 17 (k := ?_); refine rp2 18 (k := ?_); refine rp2 19 (k := ?_); refine rp2 20 (k := ?_); refine rp2 21 (k := ?_); refine rp2 22 (k := ?_); refine dc 23 rfl (c := hs1 _) (k := ?_); rintro _ _ ⟨rfl, rfl⟩
          refine ⟨by first | exact fun _ _ h => h | (refine later_list [21, 20, 19, 16, 15, 12, 11, 10, 9, 8, 7, 5, 4, 3, 1, 0] (by kernel_rfl) (List.forall_mem_cons.2 ⟨fun _ => fact2 rfl rfl ?_, List.forall_mem_cons.2 ⟨fun _ => fact2 rfl rfl ?_, List.forall_mem_cons.2 ⟨fun _ => fact2 rfl rfl ?_, List.forall_mem_cons.2 ⟨fun _ => fact2 rfl rfl ?_, List.forall_mem_cons.2 ⟨fun _ => fact2 rfl rfl ?_, List.forall_mem_cons.2 ⟨fun _ => fact2 rfl rfl ?_, List.forall_mem_cons.2 ⟨fun _ => fact2 rfl rfl ?_, List.forall_mem_cons.2 ⟨fun _ => fact2 rfl rfl ?_, List.forall_mem_cons.2 ⟨fun _ => fact2 rfl rfl ?_, List.forall_mem_cons.2 ⟨fun _ => fact2 rfl rfl ?_, List.forall_mem_cons.2 ⟨fun _ => fact2 rfl rfl ?_, List.forall_mem_cons.2 ⟨fun _ => fact2 rfl rfl ?_, List.forall_mem_cons.2 ⟨fun _ => fact2 rfl rfl ?_, List.forall_mem_cons.2 ⟨fun _ => fact2 rfl rfl ?_, List.forall_mem_cons.2 ⟨fun _ => fact2 rfl rfl ?_, List.forall_mem_cons.2 ⟨fun _ => fact2 rfl rfl ?_, fun _ h => absurd h List.not_mem_nil⟩⟩⟩⟩⟩⟩⟩⟩⟩⟩⟩⟩⟩⟩⟩⟩) <;> constructor <;> first | rfl | (simp [F]; done)), ?_⟩
          (repeat (first | simp [F] | simp (disch := omega) only [wC, if_pos, if_neg])); refine rp2 24 (k := ?_); refine rp2 25 (k := ?_); refine dd ?_; refine hJ30 _ _ ?_; refine hK29 _ _ ?_; refine cf ?_; refine run_skip ?_; refine hK26 _ _ ?_; refine rg' (h := fun J31 hJ31 => ?_); refine hJ31 _ _ ?_; refine ⟨gk, (i + 1), ⟨kpG, lpG, lpG, lpG⟩, lpG⟩
        · refine ao 15 rfl ?_; repeat (first | simp [F] | simp (disch := omega) only [wC, if_pos, if_neg])
          refine ⟨by first | exact later_more _ (by kernel_rfl) | exact later_more2 (by kernel_rfl) rfl, ?_⟩
          refine dc 11 rfl (c := (by first | exact hv1 | exact hv2 _)) (k := ?_)
          rintro _ _ ⟨rfl, rfl⟩
          refine ⟨by first | exact fun _ _ h => h | (refine later_list [9, 8, 7, 6, 4, 3, 2, 1] (by kernel_rfl) (List.forall_mem_cons.2 ⟨fun _ => fact2 rfl rfl ?_, List.forall_mem_cons.2 ⟨fun _ => fact2 rfl rfl ?_, List.forall_mem_cons.2 ⟨fun _ => fact2 rfl rfl ?_, List.forall_mem_cons.2 ⟨fun _ => fact2 rfl rfl ?_, List.forall_mem_cons.2 ⟨fun _ => fact2 rfl rfl ?_, List.forall_mem_cons.2 ⟨fun _ => fact2 rfl rfl ?_, List.forall_mem_cons.2 ⟨fun _ => fact2 rfl rfl ?_, List.forall_mem_cons.2 ⟨fun _ => fact2 rfl rfl ?_, fun _ h => absurd h List.not_mem_nil⟩⟩⟩⟩⟩⟩⟩⟩) <;> constructor <;> first | rfl | (simp [F]; done)), ?_⟩
          (repeat (first | simp [F] | simp (disch := omega) only [wC, if_pos, if_neg])); refine rp2 12 (k := ?_); refine rp2 13 (k := ?_); refine rp2 14 (k := ?_); refine dop 16 rfl ?_; repeat (first | simp [F] | simp (disch := omega) only [wC, if_pos, if_neg])
          refine ⟨later_tmp (by kernel_rfl), ?_⟩
          refine rp2 17 (k := ?_); refine dd ?_; refine hJ28 _ _ ?_; refine hK27 _ _ ?_; refine sq fun K32 hK32 => ?_
          refine run_draw (by kernel_rfl) fun J33 hJ33 => ?_
          refine rp2 0 (k := ?_); refine rp2 1 (k := ?_); refine rp2 2 (k := ?_); refine rp2 3 (k := ?_); refine rp2 4 (k := ?_); refine rp2 5 (k := ?_); refine rp2 6 (k := ?_); refine rp2 7 (k := ?_); refine rp2 8 (k := ?_); refine rp2 9 (k := ?_); refine rp2 10 (k := ?_); refine rp2 11 (k := ?_); refine rp2 12 (k := ?_); refine rp2 13 (k := ?_); refine dc 14 rfl (c := hs1 _) (k := ?_); rintro _ _ ⟨rfl, rfl⟩
          refine ⟨by first | exact fun _ _ h => h | (refine later_list [12, 11, 10, 9, 8, 7, 5, 4, 3, 1, 0] (by kernel_rfl) (List.forall_mem_cons.2 ⟨fun _ => fact2 rfl rfl ?_, List.forall_mem_cons.2 ⟨fun _ => fact2 rfl rfl ?_, List.forall_mem_cons.2 ⟨fun _ => fact2 rfl rfl ?_, List.forall_mem_cons.2 ⟨fun _ => fact2 rfl rfl ?_, List.forall_mem_cons.2 ⟨fun _ => fact2 rfl rfl ?_, List.forall_mem_cons.2 ⟨fun _ => fact2 rfl rfl ?_, List.forall_mem_cons.2 ⟨fun _ => fact2 rfl rfl ?_, List.forall_mem_cons.2 ⟨fun _ => fact2 rfl rfl ?_, List.forall_mem_cons.2 ⟨fun _ => fact2 rfl rfl ?_, List.forall_mem_cons.2 ⟨fun _ => fact2 rfl rfl ?_, List.forall_mem_cons.2 ⟨fun _ => fact2 rfl rfl ?_, fun _ h => absurd h List.not_mem_nil⟩⟩⟩⟩⟩⟩⟩⟩⟩⟩⟩) <;> constructor <;> first | rfl | (simp [F]; done)), ?_⟩
          (repeat (first | simp [F] | simp (disch := omega) only [wC, if_pos, if_neg])); refine rp2 15 (k := ?_); refine rp2 16 (k := ?_); refine rp2 17 (k := ?_); refine rp2 18 (k := ?_); refine rp2 19 (k := ?_); refine rp2 20 (k := ?_); refine rp2 21 (k := ?_); refine rp2 22 (k := ?_); refine dc 23 rfl (c := hs1 _) (k := ?_); rintro _ _ ⟨rfl, rfl⟩
          refine ⟨by first | exact fun _ _ h => h | (refine later_list [21, 20, 19, 16, 15, 12, 11, 10, 9, 8, 7, 5, 4, 3, 1, 0] (by kernel_rfl) (List.forall_mem_cons.2 ⟨fun _ => fact2 rfl rfl ?_, List.forall_mem_cons.2 ⟨fun _ => fact2 rfl rfl ?_, List.forall_mem_cons.2 ⟨fun _ => fact2 rfl rfl ?_, List.forall_mem_cons.2 ⟨fun _ => fact2 rfl rfl ?_, List.forall_mem_cons.2 ⟨fun _ => fact2 rfl rfl ?_, List.forall_mem_cons.2 ⟨fun _ => fact2 rfl rfl ?_, List.forall_mem_cons.2 ⟨fun _ => fact2 rfl rfl ?_, List.forall_mem_cons.2 ⟨fun _ => fact2 rfl rfl ?_, List.forall_mem_cons.2 ⟨fun _ => fact2 rfl rfl ?_, List.forall_mem_cons.2 ⟨fun _ => fact2 rfl rfl ?_, List.forall_mem_cons.2 ⟨fun _ => fact2 rfl rfl ?_, List.forall_mem_cons.2 ⟨fun _ => fact2 rfl rfl ?_, List.forall_mem_cons.2 ⟨fun _ => fact2 rfl rfl ?_, List.forall_mem_cons.2 ⟨fun _ => fact2 rfl rfl ?_, List.forall_mem_cons.2 ⟨fun _ => fact2 rfl rfl ?_, List.forall_mem_cons.2 ⟨fun _ => fact2 rfl rfl ?_, fun _ h => absurd h List.not_mem_nil⟩⟩⟩⟩⟩⟩⟩⟩⟩⟩⟩⟩⟩⟩⟩⟩) <;> constructor <;> first | rfl | (simp [F]; done)), ?_⟩
          (repeat (first | simp [F] | simp (disch := omega) only [wC, if_pos, if_neg])); refine rp2 24 (k := ?_); refine rp2 25 (k := ?_); refine dd ?_; refine hJ33 _ _ ?_; refine hK32 _ _ ?_; refine cf ?_; refine run_skip ?_; refine hK26 _ _ ?_; refine rg' (h := fun J34 hJ34 => ?_); refine hJ34 _ _ ?_; refine ⟨gk, (i + 1), ⟨kpG, lpG, lpG, lpG⟩, lpG⟩
     (try exact nope c80); all_goals have c80p := c80; try simp [F] at c80p
     all_goals
      replace F := aF c80 F; (try replace F := aF c80p F); refine run_exit ?_; refine hK20 _ _ ?_; refine sr fun _ hJ36 => ?_; refine hJ36 _ _ ?_; refine ra ?_; exact gcr

def Sp (σ : St) (G : Sg) (l : List (List AV)) : St := { σ with objs := σ.objs ++ stC σ.rows.length G :: l, rows := σ.rows ++ [stR1 G, stR2 G, stR3 G] }
theorem Sp.has (σ : St) (G : Sg) (l : List (List AV)) : HasS (Sp σ G l) σ.objs.length σ.rows.length G := ⟨by simp [Sp], by simp [Sp], by simp [Sp], by simp [Sp]⟩
theorem Sp.put (σ : St) (G G' : Sg) (l : List (List AV)) : putS (Sp σ G l) σ.objs.length σ.rows.length G' = Sp σ G' l := by simp [Sp, putS]
theorem Sp.app (σ : St) (G : Sg) (l : List (List AV)) (x : List AV) : { Sp σ G l with objs := (Sp σ G l).objs ++ [x] } = Sp σ G (l ++ [x]) := by simp [Sp]
theorem Sp.len (σ : St) (G : Sg) (l : List (List AV)) : (Sp σ G l).objs.length = σ.objs.length + (1 + l.length) := by simp [Sp]; omega
theorem newSp_ok {σ : St} : CallsA Try.prog 16 [] σ (fun av σ' => av = .ptr σ.objs.length 0 ∧ σ' = Sp σ newSg []) := new_st_ok
theorem addSp_ok {σ : St} {n : Nat} {G : Sg} {W : Pw} {ow : UInt8} {r : Nat} {l : List (List AV)} (hi : PoolS G.s W n) (hn : n ≤ 1000) (hr : r < 65536) :
    CallsA Try.prog 26 [.ptr σ.objs.length 0, .v (.int .u8 ow.toNat), .v (.int .u16 r)] (Sp σ G l) (fun av σ' => ∃ G', PoolS G'.s (addP W ow r).W (n + 1) ∧ av = .tup [.v (.int .u8 ((addP W ow r).i : Nat)), .v (.int .i64 ((addP W ow r).e : Nat))] ∧ σ' = Sp σ G' l) :=
  callsA_mono (padd_ok (Sp.has σ G l) hi hn hr) (fun av σ' ⟨G', e1, e2, e3⟩ => ⟨G', e1, e2, by rw [e3, Sp.put]⟩)
theorem setDSp_ok {σ : St} {n : Nat} {G : Sg} {W : Pw} {d : Dl} {l : List (List AV)} (hi : PoolS G.s W n) (hn : n ≤ 1000) (hd : d.Ok) :
    CallsA Try.prog 38 [.ptr σ.objs.length 0, .agg (dlC d)] (Sp σ G l) (fun av σ' => ∃ G', PoolS G'.s (setDP W d).W (n + 1) ∧ av = .v (.int .i64 ((setDP W d).e : Nat)) ∧ σ' = Sp σ G' l) :=
  callsA_mono (psetD_ok (Sp.has σ G l) hi hn hd) (fun av σ' ⟨G', e1, e2, e3⟩ => ⟨G', e1, e2, by rw [e3, Sp.put]⟩)
theorem PoolS.noD {s : Sto} {W : Pw} {n : Nat} {a b : UInt8} (h : PoolS s W n) (hx : ∀ d ∈ W.D, ¬ (d.o = a ∧ d.v = b)) : getL s.l (keyD a b) = none := by
  rw [← getL_pl (keyD_p1 _ _), h.pd]
  refine getL_no (fun p hp => ?_)
  obtain ⟨d, hd, rfl⟩ := List.mem_map.1 hp
  intro e
  have e2 : keyD d.o d.v = keyD a b := e
  simp only [keyD, List.cons.injEq, and_true, true_and] at e2
  exact hx d hd e2

def n5 : Num := ⟨5, by decide⟩
def d5 : Dl := ⟨7, 1, n5, []⟩
def d50 : Dl := ⟨7, 1, Num.zero, []⟩
theorem dl_wk {a b c d e f : AV} : Wk (.agg [a, b, c, d, e, f, .sl 0 [] 0 .full]) (.agg [a, b, c, d, e, f, .sl 5 [] 0 .shut]) :=
  WkL.agg (.cons (Wk.refl _) (.cons (Wk.refl _) (.cons (Wk.refl _) (.cons (Wk.refl _) (.cons (Wk.refl _) (.cons (Wk.refl _) (.cons (Wk.nil _ _ _) .nil)))))))
set_option maxHeartbeats 1600000 in
attribute [local simp] undefA List.getElem?_cons_zero List.getElem?_cons_succ dl0C in
theorem adds11_ok {σ : St} : CallsA Try.prog 25 [] σ (fun av σ' => av = .v (.bool true) ∧ σ = σ') := by
  refine callsA_gcS ?_ rfl
  have w1 : addP pw0 1 0 = ⟨⟨[newV 0 1 0], []⟩, 0, 0⟩ := by simp [addP, rightN, pw0]
  have w2 : addP ⟨[newV 0 1 0], []⟩ 2 10000 = ⟨⟨[newV 0 1 0, newV 1 2 10000], []⟩, 1, 0⟩ := by simp [addP, rightN]
  have w3 : setDP ⟨[newV 0 1 0, newV 1 2 10000], []⟩ d5 = ⟨⟨[newV 0 1 0, newV 1 2 10000], [d5]⟩, 0, 0⟩ := by simp [setDP, d5, Go.Vm.right_nil, zD, n5, setD]
  have w4 : setDP ⟨[newV 0 1 0, newV 1 2 10000], [d5]⟩ d50 = ⟨⟨[newV 0 1 0, newV 1 2 10000], []⟩, 0, 0⟩ := by simp [setDP, d5, d50, Go.Vm.right_nil, zD, Num.zero, setD, eqD]
  have k5 : d5.Ok := by show [].length ≤ _; simp
  have k50 : d50.Ok := by show [].length ≤ _; simp
  have c1 : CallsA Try.prog 26 [.ptr σ.objs.length 0, .v (.int .u8 1), .v (.int .u16 0)] (Sp σ newSg []) (fun av σ' => ∃ G', PoolS G'.s ⟨[newV 0 1 0], []⟩ 1 ∧ av = .tup [.v (.int .u8 0), .v (.int .i64 0)] ∧ σ' = Sp σ G' []) := by
    have := addSp_ok (σ := σ) (ow := 1) (r := 0) (l := []) PoolS.nil (by omega) (by omega)
    rw [w1] at this; exact this
  have c2 : ∀ G, PoolS G.s ⟨[newV 0 1 0], []⟩ 1 → CallsA Try.prog 26 [.ptr σ.objs.length 0, .v (.int .u8 2), .v (.int .u16 10000)] (Sp σ G []) (fun av σ' => ∃ G', PoolS G'.s ⟨[newV 0 1 0, newV 1 2 10000], []⟩ 2 ∧ av = .tup [.v (.int .u8 1), .v (.int .i64 0)] ∧ σ' = Sp σ G' []) := fun G hG => by
    have := addSp_ok (σ := σ) (ow := 2) (r := 10000) (l := []) hG (by omega) (by omega)
    rw [w2] at this; exact this
  have e5 : dlC d5 = [.v (.int .u8 7), .v (.int .u8 1), .v (.int .u64 5), .v (.int .u64 0), .v (.int .u64 0), .v (.int .u64 0), .sl 5 [] 0 .shut] := by simp [dlC, d5, n5, limb, cos, coinsC]
  have e50 : dlC d50 = [.v (.int .u8 7), .v (.int .u8 1), .v (.int .u64 0), .v (.int .u64 0), .v (.int .u64 0), .v (.int .u64 0), .sl 5 [] 0 .shut] := by simp [dlC, d50, Num.zero, limb, cos, coinsC]
  have c3 : ∀ G, PoolS G.s ⟨[newV 0 1 0, newV 1 2 10000], []⟩ 2 → CallsA Try.prog 38 [.ptr σ.objs.length 0, .agg [.v (.int .u8 7), .v (.int .u8 1), .v (.int .u64 5), .v (.int .u64 0), .v (.int .u64 0), .v (.int .u64 0), .sl 0 [] 0 .full]] (Sp σ G []) (fun av σ' => ∃ G', PoolS G'.s ⟨[newV 0 1 0, newV 1 2 10000], [d5]⟩ 3 ∧ av = .v (.int .i64 0) ∧ σ' = Sp σ G' []) := fun G hG => by
    have := setDSp_ok (σ := σ) (d := d5) (l := []) hG (by omega) k5
    rw [w3, e5] at this; exact callsA_wk (.cons (Wk.refl _) (.cons dl_wk .nil)) this
  have c4 : ∀ G, PoolS G.s ⟨[newV 0 1 0, newV 1 2 10000], [d5]⟩ 3 → CallsA Try.prog 40 [.ptr σ.objs.length 0, .v (.int .u8 7), .v (.int .u8 1)] (Sp σ G []) (fun av σ' => av = .tup [.agg (dlC d5), .v (.bool true)] ∧ Sp σ G [] = σ') := fun G hG =>
    get_yes (d := d5) (Sp.has σ G []) hG.ok (by omega) Go.Vm.right_nil (hG.getD (by simp))
  have c5 : ∀ G l, PoolS G.s ⟨[newV 0 1 0, newV 1 2 10000], [d5]⟩ 3 → CallsA Try.prog 38 [.ptr σ.objs.length 0, .agg [.v (.int .u8 7), .v (.int .u8 1), .v (.int .u64 0), .v (.int .u64 0), .v (.int .u64 0), .v (.int .u64 0), .sl 0 [] 0 .full]] (Sp σ G l) (fun av σ' => ∃ G', PoolS G'.s ⟨[newV 0 1 0, newV 1 2 10000], []⟩ 4 ∧ av = .v (.int .i64 0) ∧ σ' = Sp σ G' l) := fun G l hG => by
    have := setDSp_ok (σ := σ) (d := d50) (l := l) hG (by omega) k50
    rw [w4, e50] at this; exact callsA_wk (.cons (Wk.refl _) (.cons dl_wk .nil)) this
  have c6 : ∀ G l, PoolS G.s ⟨[newV 0 1 0, newV 1 2 10000], []⟩ 4 → CallsA Try.prog 40 [.ptr σ.objs.length 0, .v (.int .u8 7), .v (.int .u8 1)] (Sp σ G l) (fun av σ' => av = .tup [.agg dl0C, .v (.bool false)] ∧ Sp σ G l = σ') := fun G l hG =>
    get_no (a := 7) (b := 1) (Sp.has σ G l) hG.ok (by omega) (hG.noD (fun d hd => absurd hd (by simp)))
  rw [e5] at c4
  have hlen := Sp.len σ
  have hapx := Sp.app σ
  have g1 : ∀ G x l, (Sp σ G (x :: l)).objs[σ.objs.length + 1]? = some x := fun G x l => by simp [Sp]
  have g2 : ∀ G x l (h2 : σ.objs.length + 1 < (Sp σ G (x :: l)).objs.length), (Sp σ G (x :: l)).objs[σ.objs.length + 1]'h2 = x := fun G x l h2 => (List.getElem?_eq_some_iff.1 (g1 G x l)).2
  have F := And.intro hlen (And.intro g1 (And.intro g2 (True.intro)))
  refine callsA_body Try.func25 rfl rfl rfl ?_; refine sr fun _ hJ2 => ?_; refine hJ2 _ _ ?_; refine sr fun _ hJ4 => ?_; refine ca (c := newSp_ok) (k := ?_); rintro _ _ ⟨rfl, rfl⟩; (repeat (first | simp [F] | simp (disch := omega) only [wC, if_pos, if_neg])); refine hJ4 _ _ ?_; refine sr fun _ hJ6 => ?_; refine ca (c := c1) (k := ?_); rintro _ _ ⟨G1, e1, rfl, rfl⟩; (repeat (first | simp [F] | simp (disch := omega) only [wC, if_pos, if_neg])); refine hJ6 _ _ ?_; refine sr fun _ hJ8 => ?_; refine ca (c := c2 G1 e1) (k := ?_); rintro _ _ ⟨G2, e2, rfl, rfl⟩; (repeat (first | simp [F] | simp (disch := omega) only [wC, if_pos, if_neg])); refine hJ8 _ _ ?_; refine sq fun K9 hK9 => ?_; refine sr fun _ hJ11 => ?_; (iterate 9 refine go2 (k := ?_)); refine ca (c := c3 G2 e2) (k := ?_); rintro _ _ ⟨G3, e3, rfl, rfl⟩; (repeat (first | simp [F] | simp (disch := omega) only [wC, if_pos, if_neg])); refine go2 (k := ?_); refine hJ11 _ _ ?_; refine cf ?_; refine run_skip ?_; refine hK9 _ _ ?_; refine sr fun _ hJ13 => ?_; refine ca (c := c4 G3 e3) (k := ?_); rintro _ _ ⟨rfl, rfl⟩; (repeat (first | simp [F] | simp (disch := omega) only [wC, if_pos, if_neg])); refine hJ13 _ _ ?_; refine sq fun K14 hK14 => ?_; refine sq fun K15 hK15 => ?_
  rw [hapx]
  refine rg' (h := fun J16 hJ16 => ?_); refine ca (c := c5 G3 _ e3) (k := ?_); rintro _ _ ⟨G4, e4, rfl, rfl⟩; (repeat (first | simp [F] | simp (disch := omega) only [wC, if_pos, if_neg])); refine hJ16 _ _ ?_; refine hK15 _ _ ?_; refine cf ?_; refine run_skip ?_; refine hK14 _ _ ?_; refine sr fun _ hJ18 => ?_; refine ca (c := c6 G4 _ e4) (k := ?_); rintro _ _ ⟨rfl, rfl⟩; (repeat (first | simp [F] | simp (disch := omega) only [wC, if_pos, if_neg])); refine hJ18 _ _ ?_; refine sr fun _ hJ20 => ?_; (iterate 6 refine go2 (k := ?_)); refine hJ20 _ _ ?_; refine ra ?_; simp only [Sp]
  exact gcr
end Go.Proofs.Ytmponlabfccjaaa

/-
  Plans: what they are, when they are right.
-/
namespace Go.Vm
open Go

structure Per where
  l : Nat
  c : List Coin
deriving DecidableEq

structure Pln where
  k : UInt8
  s : Nat
  e : Nat
  tot : List Coin
  ps : List Per
deriving DecidableEq

def perC (p : Per) : List AV := [.v (.int .u64 p.l), .sl 5 (coinsC p.c) p.c.length .shut]
def persC (l : List Per) : List AV := l.flatMap perC
@[simp] theorem persC_nil : persC [] = [] := rfl
@[simp] theorem persC_len (l : List Per) : (persC l).length = l.length * 2 := flat_length perC 2 (fun _ => rfl) l
def Pln.Ok (p : Pln) : Prop := p.s < 2 ^ 64 ∧ p.e < 2 ^ 64 ∧ p.tot.length ≤ 9223372036854775807 ∧ p.ps.length ≤ 9223372036854775807 ∧ ∀ x ∈ p.ps, x.l < 2 ^ 64 ∧ x.c.length ≤ 9223372036854775807

structure PerQ where
  i : Nat
  e : Nat
  a : List Coin

section
variable {P : Program} {z : Zone} {N : Nat} {σ : St} {ρ : Nat → AV}
end

def lenS : List Per → Nat
  | [] => 0
  | x :: l => x.l + lenS l
def sumL : List Per → List Coin → List Coin
  | [], a => a
  | x :: l, a => sumL l (cAddL a x.c)
end Go.Vm

/-
  Plans that are made of numbers: they are right.
-/
namespace Go.Vm
set_option linter.unnecessarySimpa false
set_option linter.unusedSimpArgs false
set_option linter.unusedVariables false
open Go

structure Pc where
  l : Nat
  c : List Coin
structure Mad where
  k : UInt8
  s : Nat
  n : Nat
  c : List Coin
  ps : List Pc
def Mad.Ok (m : Mad) : Prop := m.s < 2 ^ 32 ∧ m.n < 2 ^ 16 ∧ ∀ x ∈ m.ps, x.l < 2 ^ 16
def pcC (x : Pc) : List AV := [.v (.int .u16 x.l), .sl 5 (coinsC x.c) x.c.length .shut]
def pcsC (l : List Pc) : List AV := l.flatMap pcC
@[simp] theorem pcsC_nil : pcsC [] = [] := rfl
@[simp] theorem pcsC_len (l : List Pc) : (pcsC l).length = l.length * 2 := flat_length pcC 2 (fun _ => rfl) l
end Go.Vm

/-
  The laws PoolNil, PoolFull, PoolActs, PoolOf.
-/
namespace Go.Proofs.Ytmponlabfccjaaa
set_option linter.unnecessarySimpa false
set_option maxRecDepth 100000
open Go Go.Vm
set_option linter.unusedSimpArgs false
set_option linter.unusedVariables false
attribute [local simp] evalL wantedA isCall opA evalA evalAll evalsA evalOpt ofValue ofCell plain binA_eql_pn binA_neq_pn binA_gtr binA_lss binA_geq binA_leq binA_add binA_sub binA_eql binA_neq binA_orI binA_shl binA_shr binA_mul binA_quo binA_rem binA_agg_eql binA_agg_neq convA_int unA_not fieldAddrA loadA partA pickA_true pickA_false pickA_bb lenA builtinA storeA splice AV.cells AV.isCell sliceA boundA intA callOf indexAddrA newObjA buildA fillA zeroA ofCells buildSliceA indexA fieldA set_appN get_appN take_appN List.getElem?_cons_zero List.getElem?_cons_succ get_sa0 get_sa1 get_sa2 get_sa3 set_sa0 set_sa1 set_sa2 set_sa3 sliceRowA binA_eqn binA_neqn drop_mr

structure FS where
  i : Nat
  G : Sg
  W : Pw
section
variable {z : Zone} {P : Program} {N : Nat} {ρ : Nat → AV}
theorem run_newP {c : Code} {Q : Exit → (Nat → AV) → St → Prop} (σ : St) (k : Run z P N c ρ (Sp σ newSg [pC pw0]) Q) :
    Run z P N c ρ { Sp σ newSg [] with objs := (Sp σ newSg []).objs ++ [pX (.sl 0 [] 0 .full) (.sl 0 [] 0 .full)] } Q := by
  have h0 : WkS { σ with objs := (σ.objs ++ [stC σ.rows.length newSg, []]).set (σ.objs.length + 1) (pX (.sl 0 [] 0 .full) (.sl 0 [] 0 .full)), rows := σ.rows ++ [stR1 newSg, stR2 newSg, stR3 newSg] }
      { σ with objs := (σ.objs ++ [stC σ.rows.length newSg, []]).set (σ.objs.length + 1) (pC pw0), rows := σ.rows ++ [stR1 newSg, stR2 newSg, stR3 newSg] } :=
    WkS.set (σ := { σ with rows := σ.rows ++ [stR1 newSg, stR2 newSg, stR3 newSg] }) (pX_wk (Wk.nil _ _ _) (Wk.nil _ _ _))
  simp only [List.set_append_right _ _ (Nat.le_add_right _ _), Nat.add_sub_cancel_left, List.set_cons_succ, List.set_cons_zero] at h0
  have e : ∀ a b : St, a = b → Run z P N c ρ b Q → Run z P N c ρ a Q := fun a b h k => h ▸ k
  refine e _ _ ?_ (run_wkS h0 k); simp [Sp]
end
theorem Sp.st (σ : St) (G : Sg) (W : Pw) : (Sp σ G [pC W]).objs[σ.objs.length + 1]? = some (pC W) := by simp [Sp]
theorem does7 {σ : St} {n : Nat} {G : Sg} {W : Pw} {a : AP} (hi : PoolS G.s W n) (hn : n ≤ 900) (ha : a.Ok) :
    CallsA Try.prog 45 [.ptr σ.objs.length 0, .ptr (σ.objs.length + 1) 0, .agg (apC a)] (Sp σ G [pC W]) (fun av σ' => ∃ G' W', PoolS G'.s W' (n + 1) ∧ av = .v (.bool true) ∧ σ' = Sp σ G' [pC W']) :=
  callsA_mono (does11_ok (Sp.has σ G [pC W]) (Sp.st σ G W) (by omega) hi hn ha) (fun av σ' ⟨G', W', e1, e2, e3⟩ => ⟨G', W', e1, e2, by rw [e3, Sp.put]; simp [Sp, putP]⟩)

set_option maxHeartbeats 1600000 in
attribute [local simp] undefA List.getElem?_cons_zero List.getElem?_cons_succ in
theorem poolActs_ok {σ : St} {l : List AP} (hl : l.length ≤ 9223372036854775807) (hb : ∀ a ∈ l, a.Ok) :
    CallsA Try.prog 12 [.sl 22 (apsC l) l.length .shut] σ (fun av σ' => av = .v (.bool true) ∧ σ = σ') := by
  refine callsA_gcS ?_ rfl
  have hlc := apsC_len l
  have hlen := Sp.len σ
  have F := And.intro hlc (And.intro hlen (True.intro))
  refine callsA_body Try.func12 rfl rfl rfl ?_; refine sr fun _ hJ2 => ?_; refine hJ2 _ _ ?_; refine sq fun K3 hK3 => ?_; refine sr fun _ hJ5 => ?_; refine ca (c := adds11_ok) (k := ?_); rintro _ _ ⟨rfl, rfl⟩; (repeat (first | simp [F] | simp (disch := omega) only [wC, if_pos, if_neg])); refine go2 (k := ?_); refine ca (c := few11_ok hl) (k := ?_); rintro _ _ ⟨b, hbf, rfl, rfl⟩; (repeat (first | simp [F] | simp (disch := omega) only [wC, if_pos, if_neg])); refine go2 (k := ?_); refine hJ5 _ _ ?_; refine cs (fun c12 => ?_) (fun c12 => ?_)
  · (try exact nope c12); all_goals have c12p := c12; try simp [F] at c12p
    all_goals
     replace F := aF c12 F; (try replace F := aF c12p F); refine sr fun _ hJ7 => ?_; refine ca (c := adds11_ok) (k := ?_); rintro _ _ ⟨rfl, rfl⟩; (repeat (first | simp [F] | simp (disch := omega) only [wC, if_pos, if_neg])); refine hJ7 _ _ ?_; refine ra ?_; exact gcr
  (try exact nope c12); all_goals have c12p := c12; try simp [F] at c12p
  all_goals
   replace F := aF c12 F; try replace F := aF c12p F
   have h30 : l.length ≤ 30 := hbf (by have h := c12; simpa using h)
   refine run_skip ?_; refine hK3 _ _ ?_; refine sr fun _ hJ9 => ?_; refine ca (c := newSp_ok) (k := ?_); rintro _ _ ⟨rfl, rfl⟩; (repeat (first | simp [F] | simp (disch := omega) only [wC, if_pos, if_neg])); refine hJ9 _ _ ?_; refine sq fun K10 hK10 => ?_; refine sq fun K11 hK11 => ?_; refine run_newP σ ?_; refine rg' (h := fun J12 hJ12 => ?_); refine hJ12 _ _ ?_; refine hK11 _ _ ?_; refine run_block_k ?_; refine run_loopF (X := FS) [0, 3, 4] (fun x ρ σ1 => (x.i ≤ l.length) ∧ (PoolS x.G.s x.W x.i) ∧ (ρ 5 = .v (.int .i64 x.i)) ∧ (σ1 = Sp σ x.G [pC x.W])) (fun x => l.length - x.i) (⟨0, newSg, pw0⟩) ?st1 ?rd1
   case st1 =>
    refine ⟨lp, ?_, lp, lp⟩
    · exact PoolS.nil
   case rd1 =>
    rintro x ρ1 σ1 hF1 ⟨h1, h2, h5, hσ⟩; obtain rfl := hσ.symm
    have f1 := keepL hF1
    (try simp [KeepL, F] at f1); replace F := aF h5 F; (try replace F := aF f1 F); refine sq fun K13 hK13 => ?_; refine sr fun _ hJ15 => ?_; refine hJ15 _ _ ?_; refine cs (fun c20 => ?_) (fun c20 => ?_)
    · (try exact nope c20); all_goals have c20p := c20; try simp [F] at c20p
      all_goals
       replace F := aF c20 F; try replace F := aF c20p F
       have hlt : x.i < l.length := by have h := c20; simp at h; omega
       obtain ⟨R, hR⟩ := apsC_at hlt
       obtain ⟨a, ha⟩ : ∃ a, a = l[x.i] := ⟨_, rfl⟩
       rw [← ha] at hR
       have hao : a.Ok := hb a (by rw [ha]; exact List.getElem_mem _)
       have hR3 : List.take 22 (List.drop (x.i * 22) (apsC l)) = apC a := by rw [hR]; exact List.take_left' (apC_len a)
       have d3 : x.i * 22 + 22 ≤ l.length * 22 := by omega
       have hi1 : x.i + 1 ≤ l.length := hlt
       have hwi : IntKind.i64.wrap ((x.i : Int) + 1) = (x.i : Int) + 1 := wrap_i64 _ (by omega) (by omega)
       have k2 := does7 (σ := σ) h2 (by omega) hao
       have hcl : (∀ x, x ∈ apC a → x.isCell = true) = True := eq_true (cellP a)
       have hAl : (apC a).length = 22 := rfl
       have hAt : List.take 22 (apC a) = apC a := List.take_of_length_le (Nat.le_of_eq hAl)
       obtain ⟨A, hA⟩ : ∃ A, A = apC a := ⟨_, rfl⟩
       rw [← hA] at hR3 hcl hAl hAt k2
       simp only [AV.isCell] at hcl
       replace F := aF hlt (And.intro hR3 (And.intro d3 (And.intro hi1 (And.intro hwi (And.intro hcl (And.intro hAl (And.intro hAt F))))))); refine run_skip ?_; refine hK13 _ _ ?_; refine sq fun K16 hK16 => ?_; refine run_block_k ?_; refine sr fun _ hJ18 => ?_; refine ca (c := k2) (k := ?_); rintro _ _ ⟨G1, W1, e1, rfl, rfl⟩; (repeat (first | simp [F] | simp (disch := omega) only [wC, if_pos, if_neg])); iterate 2 refine go2 (k := ?_)
       refine ca (c := same11_ok (Sp.has σ G1 [pC W1]) (Sp.st σ G1 W1) e1 (by omega)) (k := ?_)
       rintro _ _ ⟨rfl, rfl⟩; (repeat (first | simp [F] | simp (disch := omega) only [wC, if_pos, if_neg])); refine go2 (k := ?_); refine hJ18 _ _ ?_; refine cf ?_; refine run_skip ?_; refine hK16 _ _ ?_; refine rg' (h := fun J19 hJ19 => ?_); refine hJ19 _ _ ?_; refine ⟨(⟨x.i + 1, G1, W1⟩), ⟨kp, lp, ?_, lp, lp⟩, lp⟩
       · exact e1
    (try exact nope c20); all_goals have c20p := c20; try simp [F] at c20p
    all_goals
     replace F := aF c20 F; (try replace F := aF c20p F); refine run_exit ?_; refine hK10 _ _ ?_; refine sr fun _ hJ21 => ?_; refine hJ21 _ _ ?_; refine ra ?_; simp only [Sp]
     exact gcr

theorem filt_at {α : Type} (p : α → Bool) : ∀ {l : List α} {i : Nat} (h : i < l.length), p l[i] = true → ∃ h2 : ((l.take i).filter p).length < (l.filter p).length, (l.filter p)[((l.take i).filter p).length] = l[i]
  | x :: l, 0, h, hp => by
    have hx : p x = true := hp
    refine ⟨by rw [List.filter_cons, if_pos hx]; simp, ?_⟩
    simp [List.filter_cons, hx]
  | x :: l, i + 1, h, hp => by
    obtain ⟨h2, h3⟩ := filt_at p (l := l) (i := i) (by simpa using h) (by simpa using hp)
    by_cases hx : p x = true
    · refine ⟨by simp [List.filter_cons, hx]; exact h2, ?_⟩
      simp [List.filter_cons, hx]; exact h3
    · refine ⟨by simp [List.filter_cons, hx]; exact h2, ?_⟩
      simp [List.filter_cons, hx]; exact h3
theorem filt_snoc {α : Type} (p : α → Bool) (l : List α) (e : α) : ((l ++ [e]).filter p).length = (l.filter p).length + if p e then 1 else 0 := by
  rw [List.filter_append, List.length_append, List.filter_cons]; split <;> simp

set_option maxHeartbeats 1600000 in
attribute [local simp] undefA List.getElem?_cons_zero List.getElem?_cons_succ in
theorem poolOf_ok {σ : St} {l : List AP} {ow : UInt8} (hl : l.length ≤ 9223372036854775807) (hb : ∀ a ∈ l, a.Ok) :
    CallsA Try.prog 11 [.sl 22 (apsC l) l.length .shut, .v (.int .u8 ow.toNat)] σ (fun av σ' => av = .v (.bool true) ∧ σ = σ') := by
  refine callsA_gcS ?_ rfl
  have hlc := apsC_len l
  have hlen := Sp.len σ
  have hst : ∀ G W, (Sp σ G [pC W]).objs[σ.objs.length + 1]? = some _ := Sp.st σ
  have hst2 : ∀ G W (h2 : σ.objs.length + 1 < (Sp σ G [pC W]).objs.length), (Sp σ G [pC W]).objs[σ.objs.length + 1]'h2 = _ := fun G W h2 => (List.getElem?_eq_some_iff.1 (Sp.st σ G W)).2
  have hpcx : ∀ W, pC W = pX (.sl 14 (vlsC W.V) W.V.length .shut) (.sl 7 (dlsC W.D) W.D.length .shut) := fun W => rfl
  have h5p : ∀ W, (pC W)[5]? = some (.sl 7 (dlsC W.D) W.D.length .shut) := fun W => rfl
  have h5q : ∀ W (h2 : 5 < (pC W).length), (pC W)[5]'h2 = .sl 7 (dlsC W.D) W.D.length .shut := fun W h2 => rfl
  have h5l : ∀ W, (pC W).length = 8 := fun W => rfl
  have F := And.intro hlc (And.intro hlen (And.intro hst (And.intro hst2 (And.intro h5p (And.intro h5q (And.intro h5l (True.intro)))))))
  refine callsA_body Try.func11 rfl rfl rfl ?_; refine sr fun _ hJ2 => ?_; refine hJ2 _ _ ?_; refine sq fun K3 hK3 => ?_; refine sr fun _ hJ5 => ?_; refine ca (c := adds11_ok) (k := ?_); rintro _ _ ⟨rfl, rfl⟩; (repeat (first | simp [F] | simp (disch := omega) only [wC, if_pos, if_neg])); refine go2 (k := ?_); refine ca (c := few11_ok hl) (k := ?_); rintro _ _ ⟨b, hbf, rfl, rfl⟩; (repeat (first | simp [F] | simp (disch := omega) only [wC, if_pos, if_neg])); refine go2 (k := ?_); refine hJ5 _ _ ?_; refine cs (fun c17 => ?_) (fun c17 => ?_)
  · (try exact nope c17); all_goals have c17p := c17; try simp [F] at c17p
    all_goals
     replace F := aF c17 F; (try replace F := aF c17p F); refine sr fun _ hJ7 => ?_; refine ca (c := adds11_ok) (k := ?_); rintro _ _ ⟨rfl, rfl⟩; (repeat (first | simp [F] | simp (disch := omega) only [wC, if_pos, if_neg])); refine hJ7 _ _ ?_; refine ra ?_; exact gcr
  (try exact nope c17); all_goals have c17p := c17; try simp [F] at c17p
  all_goals
   replace F := aF c17 F; try replace F := aF c17p F
   have h30 : l.length ≤ 30 := hbf (by have h := c17; simpa using h)
   refine run_skip ?_; refine hK3 _ _ ?_; refine sr fun _ hJ9 => ?_; refine ca (c := newSp_ok) (k := ?_); rintro _ _ ⟨rfl, rfl⟩; (repeat (first | simp [F] | simp (disch := omega) only [wC, if_pos, if_neg])); refine hJ9 _ _ ?_; refine sq fun K10 hK10 => ?_; refine sq fun K11 hK11 => ?_; refine run_newP σ ?_; refine rg' (h := fun J12 hJ12 => ?_); refine hJ12 _ _ ?_; refine hK11 _ _ ?_; refine run_block_k ?_; refine run_loopF (X := FS) [0, 1, 4, 5, 6] (fun x ρ σ1 => (x.i ≤ l.length) ∧ (PoolS x.G.s x.W x.i) ∧ (ρ 7 = .v (.int .i64 x.i)) ∧ (σ1 = Sp σ x.G [pC x.W])) (fun x => l.length - x.i) (⟨0, newSg, pw0⟩) ?st1 ?rd1
   case st1 =>
    refine ⟨lp, ?_, lp, lp⟩
    · exact PoolS.nil
   case rd1 =>
    rintro x ρ1 σ1 hF1 ⟨h1, h2, h5, hσ⟩; obtain rfl := hσ.symm
    have f1 := keepL hF1
    (try simp [KeepL, F] at f1); replace F := aF h5 F; (try replace F := aF f1 F); refine sq fun K13 hK13 => ?_; refine sr fun _ hJ15 => ?_; refine hJ15 _ _ ?_; refine cs (fun c25 => ?_) (fun c25 => ?_)
    · (try exact nope c25); all_goals have c25p := c25; try simp [F] at c25p
      all_goals
       replace F := aF c25 F; try replace F := aF c25p F
       have hlt : x.i < l.length := by have h := c25; simp at h; omega
       obtain ⟨R, hR⟩ := apsC_at hlt
       obtain ⟨a, ha⟩ : ∃ a, a = l[x.i] := ⟨_, rfl⟩
       rw [← ha] at hR
       have hao : a.Ok := hb a (by rw [ha]; exact List.getElem_mem _)
       have hR3 : List.take 22 (List.drop (x.i * 22) (apsC l)) = apC a := by rw [hR]; exact List.take_left' (apC_len a)
       have d3 : x.i * 22 + 22 ≤ l.length * 22 := by omega
       have hi1 : x.i + 1 ≤ l.length := hlt
       have hwi : IntKind.i64.wrap ((x.i : Int) + 1) = (x.i : Int) + 1 := wrap_i64 _ (by omega) (by omega)
       have k2 := does7 (σ := σ) h2 (by omega) hao
       have hcl : (∀ x, x ∈ apC a → x.isCell = true) = True := eq_true (cellP a)
       have hAl : (apC a).length = 22 := rfl
       have hAt : List.take 22 (apC a) = apC a := List.take_of_length_le (Nat.le_of_eq hAl)
       obtain ⟨A, hA⟩ : ∃ A, A = apC a := ⟨_, rfl⟩
       rw [← hA] at hR3 hcl hAl hAt k2
       simp only [AV.isCell] at hcl
       replace F := aF hlt (And.intro hR3 (And.intro d3 (And.intro hi1 (And.intro hwi (And.intro hcl (And.intro hAl (And.intro hAt F))))))); refine run_skip ?_; refine hK13 _ _ ?_; refine sq fun K16 hK16 => ?_; refine run_block_k ?_; refine rg' (h := fun J17 hJ17 => ?_); refine ca (c := k2) (k := ?_); rintro _ _ ⟨G1, W1, e1, rfl, rfl⟩; (repeat (first | simp [F] | simp (disch := omega) only [wC, if_pos, if_neg])); refine hJ17 _ _ ?_; refine hK16 _ _ ?_; refine rg' (h := fun J18 hJ18 => ?_); refine hJ18 _ _ ?_; refine ⟨(⟨x.i + 1, G1, W1⟩), ⟨kp, lp, ?_, lp, lp⟩, lp⟩
       · exact e1
    (try exact nope c25); all_goals have c25p := c25; try simp [F] at c25p
    all_goals
     replace F := aF c25 F; try replace F := aF c25p F
     have hof := of11_ok (ow := ow) (Sp.has σ x.G [pC x.W]) h2 (by omega)
     obtain ⟨D, hD⟩ : ∃ D, D = x.W.D := ⟨_, rfl⟩
     obtain ⟨p, hp⟩ : ∃ p : Dl → Bool, p = fun d => decide (d.o = ow) := ⟨_, rfl⟩
     rw [← hD, ← hp] at hof
     have hDl : D.length ≤ 1000 := by rw [hD]; have := h2.nd; omega
     have hDr : ∀ d ∈ D, d.Ok := fun d hd => by rw [hD] at hd; have := right_len (h2.rd d hd); show d.x.length ≤ _; omega
     obtain ⟨E, hE⟩ : ∃ E, E = D.filter p := ⟨_, rfl⟩
     rw [← hE] at hof
     have hDc := dlsC_len D
     have hEc := dlsC_len E
     have hElen : E.length ≤ 1000 := by rw [hE]; exact Nat.le_trans (List.length_filter_le _ _) hDl
     have hD2 := hD.symm
     replace F := aF hDc (And.intro hEc (And.intro hD2 F)); refine run_exit ?_; refine hK10 _ _ ?_; refine sr fun _ hJ20 => ?_; refine ca (c := hof) (k := ?_); rintro _ _ ⟨rfl, rfl⟩; (repeat (first | simp [F] | simp (disch := omega) only [wC, if_pos, if_neg])); refine hJ20 _ _ ?_; refine sr fun _ hJ22 => ?_; refine hJ22 _ _ ?_; refine sq fun K23 hK23 => ?_; refine sr fun _ hJ25 => ?_; refine hJ25 _ _ ?_; refine run_block_k ?_; refine run_loopF (X := Nat) [1, 6, 8] (fun i ρ σ1 => (i ≤ D.length) ∧ (ρ 10 = .v (.int .i64 i)) ∧ (ρ 9 = .v (.int .i64 (((D.take i).filter p).length : Nat))) ∧ (σ1 = Sp σ x.G [pC x.W])) (fun i => D.length - i) (0) ?st2 ?rd2
     case st2 =>
      refine ⟨lp, lp, lp, lp⟩
     case rd2 =>
      rintro i ρ2 σ1 hF2 ⟨h1, h5, h6, hσ⟩; obtain rfl := hσ.symm
      have f2 := keepL hF2
      (try simp [KeepL, F] at f2); replace F := aF h5 F; replace F := aF h6 F; (try replace F := aF f2 F); refine sq fun K26 hK26 => ?_; refine sr fun _ hJ28 => ?_; refine hJ28 _ _ ?_; refine cs (fun c44 => ?_) (fun c44 => ?_)
      · (try exact nope c44); all_goals have c44p := c44; try simp [F] at c44p
        all_goals
         replace F := aF c44 F; try replace F := aF c44p F
         have hlt : i < D.length := by have h := c44; simp [hD2] at h; omega
         obtain ⟨R, hR⟩ := dlsC_at (l := D) (i := i) hlt
         obtain ⟨v, hv⟩ : ∃ v, v = D[i] := ⟨_, rfl⟩
         rw [← hv] at hR
         have hR3 : List.take 7 (List.drop (i * 7) (dlsC D)) = dlC v := by rw [hR]; rfl
         have f0 : ∀ h2 : i * 7 < (dlsC D).length, (dlsC D)[i * 7]'h2 = .v (.int .u8 (v.o.toNat : Nat)) := fun h2 => by have := get_drop (l := dlsC D) (i := i * 7) (j := 0) (x := .v (.int .u8 (v.o.toNat : Nat))) (by rw [hR]; rfl); exact this h2
         have d0 : i * 7 < D.length * 7 := by omega
         have d3 : i * 7 + 7 ≤ D.length * 7 := by omega
         have hi1 : i + 1 ≤ D.length := hlt
         have hwi : IntKind.i64.wrap ((i : Int) + 1) = (i : Int) + 1 := wrap_i64 _ (by omega) (by omega)
         have hsn := filt_snoc p (D.take i) v
         rw [hv, List.take_append_getElem hlt, ← hv] at hsn
         have hfa := filt_at p hlt
         rw [← hv] at hfa
         have hfl : ((D.take i).filter p).length ≤ i := Nat.le_trans (List.length_filter_le _ _) (by rw [List.length_take]; omega)
         obtain ⟨k, hk⟩ : ∃ k, k = ((D.take i).filter p).length := ⟨_, rfl⟩
         simp only [← hk] at hsn h6 hfa hfl
         have hk2 := hk.symm
         have hwk : IntKind.i64.wrap ((k : Int) + 1) = (k : Int) + 1 := wrap_i64 _ (by omega) (by omega)
         have hs1 := fun τ => ralikeD_ok (σ := τ) (hDr v (by rw [hv]; exact List.getElem_mem _))
         have hec : (dlC v).length = 7 := rfl
         have hcl : (∀ x, x ∈ dlC v → x.isCell = true) = True := eq_true (cellD _)
         have hyt : List.take 7 (dlC v) = dlC v := rfl
         obtain ⟨Q, hQ⟩ : ∃ Q, Q = dlC v := ⟨_, rfl⟩
         rw [← hQ] at hR3 hec hcl hyt
         simp only [← hQ] at hs1
         simp only [AV.isCell] at hcl
         replace F := aF hlt (And.intro hR3 (And.intro f0 (And.intro d0 (And.intro d3 (And.intro hi1 (And.intro hwi (And.intro hwk (And.intro hk2 (And.intro h6 (And.intro hec (And.intro hcl (And.intro hyt F)))))))))))); refine run_skip ?_; refine hK26 _ _ ?_; refine sq fun K29 hK29 => ?_; refine run_block_k ?_; refine sq fun K30 hK30 => ?_; refine sr fun _ hJ32 => ?_; refine hJ32 _ _ ?_; refine cs (fun c56 => ?_) (fun c56 => ?_)
         · (try exact nope c56); all_goals have c56p := c56; try simp [F] at c56p
           all_goals
            replace F := aF c56 F; try replace F := aF c56p F
            have hpf : p v = false := by rw [hp, decide_eq_false_iff_not]; intro q; have h := c56; simp [q] at h
            rw [hpf] at hsn
            simp only [Bool.false_eq_true, if_false, Nat.add_zero] at hsn
            replace F := aF hsn F; refine run_exit ?_; refine hK29 _ _ ?_; refine rg' (h := fun J33 hJ33 => ?_); refine hJ33 _ _ ?_; refine ⟨(i + 1), ⟨kp, lp, lp, lp, lp⟩, lp⟩
         (try exact nope c56); all_goals have c56p := c56; try simp [F] at c56p
         all_goals
          replace F := aF c56 F; try replace F := aF c56p F
          have hpt : p v = true := by rw [hp, decide_eq_true_eq]; have h := c56; simp at h; exact UInt8.toNat_inj.1 (by omega)
          rw [hpt] at hsn
          simp only [if_true] at hsn
          obtain ⟨hk3, hk4⟩ := hfa hpt
          rw [← hE] at hk3
          have hk5 : E[k] = v := by simp only [hE]; exact hk4
          obtain ⟨R2, hR2⟩ := dlsC_at (l := E) (i := k) hk3
          rw [hk5] at hR2
          have hR4 : List.take 7 (List.drop (k * 7) (dlsC E)) = Q := by rw [hR2, hQ]; rfl
          have g3 : k * 7 + 7 ≤ E.length * 7 := by omega
          have g4 : k + 1 ≤ E.length := hk3
          have g5 : ¬ E.length ≤ k := by omega
          have g6 : decide (E.length ≤ k) = false := decide_eq_false g5
          replace F := aF hsn (And.intro hk3 (And.intro hR4 (And.intro g3 (And.intro g4 (And.intro g5 (And.intro g6 F)))))); refine run_skip ?_; refine hK30 _ _ ?_; refine sq fun K34 hK34 => ?_; refine sq fun K35 hK35 => ?_
          refine run_draw (by kernel_rfl) fun J36 hJ36 => ?_
          refine rp2 0 (k := ?_); refine rp2 1 (k := ?_); refine rp2 2 (k := ?_); refine rp2 3 (k := ?_); refine rp2 4 (k := ?_); refine rp2 5 (k := ?_); refine rp2 6 (k := ?_); refine rp2 7 (k := ?_); refine rp2 8 (k := ?_); refine rp2 9 (k := ?_); refine rp2 10 (k := ?_); refine rp2 11 (k := ?_); refine rp2 12 (k := ?_); refine rp2 13 (k := ?_); refine rp2 14 (k := ?_); refine rp2 15 (k := ?_); refine dc 16 rfl (c := hs1 _) (k := ?_); rintro _ _ ⟨rfl, rfl⟩
          refine ⟨by first | exact fun _ _ h => h | (refine later_list [14, 13, 12, 11, 10, 9, 7, 6, 5, 3, 2, 1, 0] (by kernel_rfl) (List.forall_mem_cons.2 ⟨fun _ => fact2 rfl rfl ?_, List.forall_mem_cons.2 ⟨fun _ => fact2 rfl rfl ?_, List.forall_mem_cons.2 ⟨fun _ => fact2 rfl rfl ?_, List.forall_mem_cons.2 ⟨fun _ => fact2 rfl rfl ?_, List.forall_mem_cons.2 ⟨fun _ => fact2 rfl rfl ?_, List.forall_mem_cons.2 ⟨fun _ => fact2 rfl rfl ?_, List.forall_mem_cons.2 ⟨fun _ => fact2 rfl rfl ?_, List.forall_mem_cons.2 ⟨fun _ => fact2 rfl rfl ?_, List.forall_mem_cons.2 ⟨fun _ => fact2 rfl rfl ?_, List.forall_mem_cons.2 ⟨fun _ => fact2 rfl rfl ?_, List.forall_mem_cons.2 ⟨fun _ => fact2 rfl rfl ?_, List.forall_mem_cons.2 ⟨fun _ => fact2 rfl rfl ?_, List.forall_mem_cons.2 ⟨fun _ => fact2 rfl rfl ?_, fun _ h => absurd h List.not_mem_nil⟩⟩⟩⟩⟩⟩⟩⟩⟩⟩⟩⟩⟩) <;> constructor <;> first | rfl | (simp [F]; done)), ?_⟩
          (repeat (first | simp [F] | simp (disch := omega) only [wC, if_pos, if_neg])); refine rp2 17 (k := ?_); refine rp2 18 (k := ?_); refine dd ?_; refine hJ36 _ _ ?_; refine hK35 _ _ ?_; refine cf ?_; refine run_skip ?_; refine hK34 _ _ ?_; refine rg' (h := fun J37 hJ37 => ?_); refine hJ37 _ _ ?_; refine hK29 _ _ ?_; refine rg' (h := fun J38 hJ38 => ?_); refine hJ38 _ _ ?_; refine ⟨(i + 1), ⟨kp, lp, lp, lp, lp⟩, lp⟩
      (try exact nope c44); all_goals have c44p := c44; try simp [F] at c44p
      all_goals
       replace F := aF c44 F; try replace F := aF c44p F
       have hje : D.take i = D := List.take_of_length_le (by have h := c44; simp [hD2] at h; omega)
       rw [hje, ← hE] at h6
       replace F := aF h6 F; refine run_exit ?_; refine hK23 _ _ ?_; refine sr fun _ hJ40 => ?_; refine hJ40 _ _ ?_; refine ra ?_; simp only [Sp]
       exact gcr

end Go.Proofs.Ytmponlabfccjaaa

/-
  What right plans give by a time: the plain laws.
-/
namespace Go.Vm
set_option linter.unnecessarySimpa false
set_option linter.unusedSimpArgs false
set_option linter.unusedVariables false
open Go

def PerOk (x : Per) : Prop := 0 < x.l ∧ x.l ≤ 2 ^ 16 ∧ x.c ≠ [] ∧ Right x.c ∧ ∀ d, d < 8 → amt x.c d < 2 ^ 250
structure Fine (p : Pln) : Prop where
  ok : p.Ok
  tot : Right p.tot
  kinds : p.k = 0 ∨ p.k = 1 ∨ p.k = 2 ∨ p.k = 3 ∨ p.k = 4 ∨ p.k = 5
  zero : p.k = 0 → p = ⟨0, 0, 0, [], []⟩
  even : p.k = 1 → p.s < p.e
  late : p.k = 2 → p.s = 0
  small : p.s + lenS p.ps ≤ 2 ^ 40
  pers : ∀ x ∈ p.ps, PerOk x
  steps : p.k = 3 ∨ p.k = 5 → p.e = p.s + lenS p.ps ∧ p.tot = sumL p.ps [] ∧ p.ps ≠ [] ∧ p.ps.length ≤ 16

end Go.Vm

/-
  Messages: what they are, what a kind has, when they are right.
-/
namespace Go.Vm
set_option linter.unnecessarySimpa false
set_option linter.unusedSimpArgs false
open Go

structure Out where
  t : UInt8
  c : List Coin
deriving DecidableEq
structure Msg where
  k : UInt8
  f : UInt8
  s : Nat
  fee : List Coin
  t : UInt8
  v : UInt8
  o : UInt8
  n : Num
  c : List Coin
  outs : List Out
  p : Pln
  tm : Nat
  pt : Nat
  j : Bool
deriving DecidableEq

def outC (x : Out) : List AV := [.v (.int .u8 x.t.toNat), .sl 5 (coinsC x.c) x.c.length .shut]
def outsC (l : List Out) : List AV := l.flatMap outC
@[simp] theorem outsC_nil : outsC [] = [] := rfl
@[simp] theorem outsC_len (l : List Out) : (outsC l).length = l.length * 2 := flat_length outC 2 (fun _ => rfl) l
structure Msg.Ok (m : Msg) : Prop where
  s : m.s < 2 ^ 64
  fee : m.fee.length ≤ 9223372036854775807
  c : m.c.length ≤ 9223372036854775807
  outs : m.outs.length ≤ 9223372036854775807
  out : ∀ x ∈ m.outs, x.c.length ≤ 9223372036854775807
  p : m.p.Ok
  tm : m.tm < 2 ^ 64
  pt : m.pt < 2 ^ 16

def outA (b : Bool) (l : List Out) : AV := bif b then .sl 2 (outsC l) l.length .shut else .sl 0 [] 0 .full
@[simp] theorem outA_yes (l : List Out) : outA true l = .sl 2 (outsC l) l.length .shut := rfl
@[simp] theorem outA_no (l : List Out) : outA false l = .sl 0 [] 0 .full := rfl
def perA (b : Bool) (l : List Per) : AV := bif b then .sl 2 (persC l) l.length .shut else .sl 0 [] 0 .full
@[simp] theorem perA_yes (l : List Per) : perA true l = .sl 2 (persC l) l.length .shut := rfl
@[simp] theorem perA_no (l : List Per) : perA false l = .sl 0 [] 0 .full := rfl

end Go.Vm

/-
  Arguments: numbers, lists of coins, plans.
-/
namespace Go.Vm
set_option linter.unnecessarySimpa false
set_option linter.unusedVariables false
open Go

theorem leavesF_mono {go go' : TypeId → Option (List TypeId)} (h : ∀ t l, go t = some l → go' t = some l) : ∀ (fs : List Field) (acc ls : List TypeId), leavesF go fs acc = some ls → leavesF go' fs acc = some ls
  | [], acc, ls, e => e
  | f :: fs, acc, ls, e => by
    simp only [leavesF] at e ⊢
    split at e
    · rename_i hf
      rw [if_pos hf]
      cases hg : go f.type with
      | none => rw [hg] at e; cases e
      | some l =>
        rw [hg] at e
        rw [h _ _ hg]
        exact leavesF_mono h fs _ ls e
    · cases e

theorem leaves_succ {P : Program} : ∀ (n : Nat) (t : TypeId) (l : List TypeId), leaves P n t = some l → leaves P (n + 1) t = some l
  | 0, t, l, h => by simp [leaves] at h
  | n + 1, t, l, h => by
    have ih := leaves_succ (P := P) n
    rw [leaves] at h ⊢
    split at h
    · exact h
    · exact h
    · exact h
    · rename_i e hu
      cases hg : leaves P n e with
      | none => rw [hg] at h; cases h
      | some l' => rw [hg] at h; simp only [ih _ _ hg]; exact h
    · rename_i fs hu
      cases hg : leavesF (leaves P n) fs.toList [] with
      | none => rw [hg] at h; cases h
      | some l' => rw [hg] at h; simp only [leavesF_mono ih _ _ _ hg]; exact h
    · rename_i k e hu
      cases hg : leaves P n e with
      | none => rw [hg] at h; cases h
      | some l' => rw [hg] at h; simp only [ih _ _ hg]; exact h
    · cases h

theorem leaves_add {P : Program} {n : Nat} {t : TypeId} {l : List TypeId} (h : leaves P n t = some l) : ∀ k, leaves P (n + k) t = some l
  | 0 => h
  | k + 1 => leaves_succ _ _ _ (leaves_add h k)
theorem leaves_one {P : Program} {n m : Nat} {t : TypeId} {l l' : List TypeId} (h : leaves P n t = some l) (h' : leaves P m t = some l') : l = l' := by
  have h1 := leaves_add h m
  have h2 := leaves_add h' n
  rw [Nat.add_comm] at h2
  rw [h1] at h2
  exact Option.some.inj h2

theorem join4' {a b c d : Nat} (ha : a < 2 ^ 64) (hb : b < 2 ^ 64) (hc : c < 2 ^ 64) (hd : d < 2 ^ 64) : ∃ x, x < 2 ^ 256 ∧ limb x 0 = a ∧ limb x 1 = b ∧ limb x 2 = c ∧ limb x 3 = d := by
  refine ⟨a + 2 ^ 64 * (b + 2 ^ 64 * (c + 2 ^ 64 * d)), ?_, ?_, ?_, ?_, ?_⟩ <;> (try simp only [limb, Nat.reduceMul, Nat.reducePow]) <;> omega

theorem u64_of' {P : Program} {u : TypeId} {a : AV} (hu : P.underlying u = some (.int .u64)) (w : WC P u a) : ∃ n : Nat, n < 2 ^ 64 ∧ a = .v (.int .u64 n) := by
  cases w with
  | bool h => rw [hu] at h; cases h
  | string h _ => rw [hu] at h; cases h
  | slice h _ _ _ _ => rw [hu] at h; cases h
  | int h hw =>
    rename_i k n
    rw [hu] at h
    cases h
    have m1 : IntKind.u64.min = 0 := rfl
    have m2 : IntKind.u64.max = 18446744073709551615 := rfl
    simp [Lit.wf, m1, m2] at hw
    exact ⟨n.toNat, by omega, by congr 2; omega⟩
theorem u8_of {P : Program} {u : TypeId} {a : AV} (hu : P.underlying u = some (.int .u8)) (w : WC P u a) : ∃ b : UInt8, a = .v (.int .u8 b.toNat) := by
  cases w with
  | bool h => rw [hu] at h; cases h
  | string h _ => rw [hu] at h; cases h
  | slice h _ _ _ _ => rw [hu] at h; cases h
  | int h hw =>
    rename_i k n
    rw [hu] at h
    cases h
    have m1 : IntKind.u8.min = 0 := rfl
    have m2 : IntKind.u8.max = 255 := rfl
    simp [Lit.wf, m1, m2] at hw
    refine ⟨UInt8.ofNat n.toNat, ?_⟩
    have e : (UInt8.ofNat n.toNat).toNat = n.toNat := toNat_u8 (by omega)
    rw [e]
    congr 2; omega

theorem num_of {P : Program} {u : TypeId} {a b c d : AV} (hu : P.underlying u = some (.int .u64)) (ha : WC P u a) (hb : WC P u b) (hc : WC P u c) (hd : WC P u d) : ∃ x : Num, [a, b, c, d] = numA x.v := by
  obtain ⟨na, ga, rfl⟩ := u64_of' hu ha
  obtain ⟨nb, gb, rfl⟩ := u64_of' hu hb
  obtain ⟨nc, gc, rfl⟩ := u64_of' hu hc
  obtain ⟨nd, gd, rfl⟩ := u64_of' hu hd
  obtain ⟨x, hx, x0, x1, x2, x3⟩ := join4' ga gb gc gd
  exact ⟨⟨x, hx⟩, by simp [numA, x0, x1, x2, x3]⟩

theorem groups {P : Program} {α : Type} {f : α → List AV} {ls : List TypeId} (hl : 0 < ls.length) (hf : ∀ a, (f a).length = ls.length)
    (one : ∀ cs : List AV, cs.length = ls.length → (∀ (j : Nat) a u, cs[j]? = some a → ls[j]? = some u → WC P u a) → ∃ x, cs = f x) :
    ∀ (n : Nat) (cs : List AV), cs.length = n * ls.length → (∀ (j : Nat) a u, cs[j]? = some a → ls[j % ls.length]? = some u → WC P u a) → ∃ l : List α, l.length = n ∧ cs = l.flatMap f
  | 0, cs, h, _ => ⟨[], rfl, by simpa using h⟩
  | n + 1, cs, h, hc => by
    have hle : ls.length ≤ cs.length := by rw [h, Nat.add_mul]; omega
    obtain ⟨x, hx⟩ := one (cs.take ls.length) (by simp; omega) (fun j a u ha hu => by
      have hj : j < ls.length := (List.getElem?_eq_some_iff.1 hu).1
      rw [List.getElem?_take, if_pos hj] at ha
      exact hc j a u ha (by rw [Nat.mod_eq_of_lt hj]; exact hu))
    obtain ⟨l, hln, hl2⟩ := groups hl hf one n (cs.drop ls.length) (by rw [List.length_drop, h, Nat.add_mul]; omega) (fun j a u ha hu => by
      rw [List.getElem?_drop] at ha
      exact hc (ls.length + j) a u ha (by rw [Nat.add_mod_left]; exact hu))
    exact ⟨x :: l, by simp [hln], by rw [List.flatMap_cons, ← hx, ← hl2, List.take_append_drop]⟩

theorem coins_of {P : Program} {t e tb u : TypeId} {k : Nat} {a : AV} (ht : P.underlying t = some (.slice e)) (hle : leaves P k e = some [tb, u, u, u, u]) (hb : P.underlying tb = some (.int .u8)) (hu : P.underlying u = some (.int .u64)) (w : WC P t a) : ∃ L : List Coin, a = .sl 5 (coinsC L) L.length .shut := by
  cases w with
  | bool h => rw [ht] at h; cases h
  | string h _ => rw [ht] at h; cases h
  | int h _ => rw [ht] at h; cases h
  | slice h hls hl hn hc =>
    rw [ht] at h
    cases h
    rename_i fuel ls cs n
    obtain rfl := leaves_one hle hls
    obtain ⟨L, hL, rfl⟩ := groups (f := coinC) (ls := [tb, u, u, u, u]) (by simp) (fun _ => rfl) (fun cs h1 h2 => by
      obtain ⟨a0, a1, a2, a3, a4, rfl⟩ : ∃ a0 a1 a2 a3 a4, cs = [a0, a1, a2, a3, a4] := by
        match cs, h1 with
        | [a0, a1, a2, a3, a4], _ => exact ⟨a0, a1, a2, a3, a4, rfl⟩
      obtain ⟨b, hb⟩ := u8_of hb (h2 0 a0 tb rfl rfl)
      obtain ⟨x, hx⟩ := num_of hu (h2 1 a1 u rfl rfl) (h2 2 a2 u rfl rfl) (h2 3 a3 u rfl rfl) (h2 4 a4 u rfl rfl)
      exact ⟨⟨b, x⟩, by rw [hb, hx]; rfl⟩) n cs hl hc
    exact ⟨L, by rw [← hL]; rfl⟩

theorem wc_len {P : Program} {t : TypeId} {sz n : Nat} {cs : List AV} {tl : Tail} (w : WC P t (.sl sz cs n tl)) : n ≤ 9223372036854775807 := by
  generalize hx : AV.sl sz cs n tl = x at w
  cases w with
  | bool h => cases hx
  | string h _ => cases hx
  | int h _ => cases hx
  | slice h hls hl hn hc => cases hx; exact hn

theorem u16_of {P : Program} {u : TypeId} {a : AV} (hu : P.underlying u = some (.int .u16)) (w : WC P u a) : ∃ n : Nat, n < 2 ^ 16 ∧ a = .v (.int .u16 n) := by
  cases w with
  | bool h => rw [hu] at h; cases h
  | string h _ => rw [hu] at h; cases h
  | slice h _ _ _ _ => rw [hu] at h; cases h
  | int h hw =>
    rename_i k n
    rw [hu] at h
    cases h
    have m1 : IntKind.u16.min = 0 := rfl
    have m2 : IntKind.u16.max = 65535 := rfl
    simp [Lit.wf, m1, m2] at hw
    exact ⟨n.toNat, by omega, by congr 2; omega⟩
theorem bool_of {P : Program} {u : TypeId} {a : AV} (hu : P.underlying u = some .bool) (w : WC P u a) : ∃ b : Bool, a = .v (.bool b) := by
  cases w with
  | int h _ => rw [hu] at h; cases h
  | string h _ => rw [hu] at h; cases h
  | slice h _ _ _ _ => rw [hu] at h; cases h
  | bool h => exact ⟨_, rfl⟩
end Go.Vm

/-
  Arguments: validators, delegations, deeds of both.
-/
namespace Go.Proofs.Ytmponlabfccjaaa
set_option linter.unnecessarySimpa false
set_option maxRecDepth 100000
open Go Go.Vm
set_option linter.unusedSimpArgs false
set_option linter.unusedVariables false
attribute [local simp] evalL wantedA isCall opA evalA evalAll evalsA evalOpt ofValue ofCell plain binA_eql_pn binA_neq_pn binA_gtr binA_lss binA_geq binA_leq binA_add binA_sub binA_eql binA_neq binA_orI binA_shl binA_shr binA_mul binA_quo binA_rem binA_agg_eql binA_agg_neq convA_int unA_not fieldAddrA loadA partA pickA_true pickA_false pickA_bb lenA builtinA storeA splice AV.cells AV.isCell sliceA boundA intA callOf indexAddrA newObjA buildA fillA zeroA ofCells buildSliceA indexA fieldA set_appN get_appN take_appN List.getElem?_cons_zero List.getElem?_cons_succ get_sa0 get_sa1 get_sa2 get_sa3 set_sa0 set_sa1 set_sa2 set_sa3 sliceRowA binA_eqn binA_neqn drop_mr

theorem vl_cells {P : Program} {k2 : Nat} {u b s t c ec : TypeId} {a0 a1 a2 a3 a4 a5 a6 a7 a8 a9 a10 a11 a12 a13 : AV} (hu : P.underlying u = some (.int .u64)) (hb : P.underlying b = some (.int .u8)) (hs : P.underlying s = some (.int .u16)) (ht : P.underlying t = some .bool) (hc : P.underlying c = some (.slice ec)) (hlc : leaves P k2 ec = some [b, u, u, u, u]) (h0 : WC P b a0) (h1 : WC P b a1) (h2 : WC P s a2) (h3 : WC P t a3) (h4 : WC P u a4) (h5 : WC P u a5) (h6 : WC P u a6) (h7 : WC P u a7) (h8 : WC P u a8) (h9 : WC P u a9) (h10 : WC P u a10) (h11 : WC P u a11) (h12 : WC P c a12) (h13 : WC P c a13) : ∃ e : Vl, [a0, a1, a2, a3, a4, a5, a6, a7, a8, a9, a10, a11, a12, a13] = vlC e ∧ e.Ok := by
  obtain ⟨x0, rfl⟩ := u8_of hb h0
  obtain ⟨x1, rfl⟩ := u8_of hb h1
  obtain ⟨x2, q2, rfl⟩ := u16_of hs h2
  obtain ⟨x3, rfl⟩ := bool_of ht h3
  obtain ⟨f, hf⟩ := num_of hu h4 h5 h6 h7
  obtain ⟨g, hg⟩ := num_of hu h8 h9 h10 h11
  obtain ⟨L, hL⟩ := coins_of hc hlc hb hu h12
  obtain ⟨M, hM⟩ := coins_of hc hlc hb hu h13
  subst hL hM
  simp only [numA, List.cons.injEq, and_true] at hf hg
  obtain ⟨rfl, rfl, rfl, rfl⟩ := hf
  obtain ⟨rfl, rfl, rfl, rfl⟩ := hg
  exact ⟨⟨x0, x1, x2, x3, f, g, L, M⟩, rfl, by omega, wc_len h12, wc_len h13⟩

theorem dl_cells {P : Program} {k2 : Nat} {u b s t c ec : TypeId} {a0 a1 a2 a3 a4 a5 a6 : AV} (hu : P.underlying u = some (.int .u64)) (hb : P.underlying b = some (.int .u8)) (hs : P.underlying s = some (.int .u16)) (ht : P.underlying t = some .bool) (hc : P.underlying c = some (.slice ec)) (hlc : leaves P k2 ec = some [b, u, u, u, u]) (h0 : WC P b a0) (h1 : WC P b a1) (h2 : WC P u a2) (h3 : WC P u a3) (h4 : WC P u a4) (h5 : WC P u a5) (h6 : WC P c a6) : ∃ e : Dl, [a0, a1, a2, a3, a4, a5, a6] = dlC e ∧ e.Ok := by
  obtain ⟨x0, rfl⟩ := u8_of hb h0
  obtain ⟨x1, rfl⟩ := u8_of hb h1
  obtain ⟨f, hf⟩ := num_of hu h2 h3 h4 h5
  obtain ⟨L, hL⟩ := coins_of hc hlc hb hu h6
  subst hL
  simp only [numA, List.cons.injEq, and_true] at hf
  obtain ⟨rfl, rfl, rfl, rfl⟩ := hf
  exact ⟨⟨x0, x1, f, L⟩, rfl, wc_len h6⟩

theorem aps_of {P : Program} {k2 : Nat} {u b s t c ec : TypeId} {k : Nat} {ty e : TypeId} {a : AV} (hty : P.underlying ty = some (.slice e)) (hle : leaves P k e = some [b, b, b, s, t, u, u, u, u, u, u, u, u, c, c, b, b, u, u, u, u, c]) (hu : P.underlying u = some (.int .u64)) (hb : P.underlying b = some (.int .u8)) (hs : P.underlying s = some (.int .u16)) (ht : P.underlying t = some .bool) (hc : P.underlying c = some (.slice ec)) (hlc : leaves P k2 ec = some [b, u, u, u, u]) (w : WC P ty a) :
    ∃ L : List AP, a = .sl 22 (apsC L) L.length .shut ∧ L.length ≤ 9223372036854775807 ∧ ∀ x ∈ L, x.Ok := by
  cases w with
  | bool h => rw [hty] at h; cases h
  | string h _ => rw [hty] at h; cases h
  | int h _ => rw [hty] at h; cases h
  | slice h hls hl hn hcc =>
    rw [hty] at h
    cases h
    rename_i fuel ls cs n
    obtain rfl := leaves_one hle hls
    obtain ⟨L, hL, rfl⟩ := groups (α := { x : AP // x.Ok }) (f := fun x => apC x.1) (ls := [b, b, b, s, t, u, u, u, u, u, u, u, u, c, c, b, b, u, u, u, u, c]) (by simp) (fun _ => rfl) (fun cs h1 h2 => by
      match cs, h1, h2 with
      | [a0, a1, a2, a3, a4, a5, a6, a7, a8, a9, a10, a11, a12, a13, a14, a15, a16, a17, a18, a19, a20, a21], _, h2 =>
        obtain ⟨m, e0⟩ := u8_of hb (h2 0 a0 b rfl rfl)
        obtain ⟨e, e1, o1⟩ := vl_cells hu hb hs ht hc hlc (h2 1 a1 _ rfl rfl) (h2 2 a2 _ rfl rfl) (h2 3 a3 _ rfl rfl) (h2 4 a4 _ rfl rfl) (h2 5 a5 _ rfl rfl) (h2 6 a6 _ rfl rfl) (h2 7 a7 _ rfl rfl) (h2 8 a8 _ rfl rfl) (h2 9 a9 _ rfl rfl) (h2 10 a10 _ rfl rfl) (h2 11 a11 _ rfl rfl) (h2 12 a12 _ rfl rfl) (h2 13 a13 _ rfl rfl) (h2 14 a14 _ rfl rfl)
        obtain ⟨f, e2, o2⟩ := dl_cells hu hb hs ht hc hlc (h2 15 a15 _ rfl rfl) (h2 16 a16 _ rfl rfl) (h2 17 a17 _ rfl rfl) (h2 18 a18 _ rfl rfl) (h2 19 a19 _ rfl rfl) (h2 20 a20 _ rfl rfl) (h2 21 a21 _ rfl rfl)
        refine ⟨⟨⟨m, e, f⟩, o1, o2⟩, ?_⟩
        show _ = AV.v (.int .u8 m.toNat) :: (vlC e ++ dlC f)
        rw [← e1, ← e2, e0]; rfl) n cs hl hcc
    refine ⟨L.map Subtype.val, ?_, by rw [List.length_map, hL]; exact hn, fun x hx => ?_⟩
    · rw [List.length_map, hL]
      show AV.sl 22 _ n .shut = _
      congr 1
      simp [apsC, List.flatMap_map]
    · obtain ⟨y, _, rfl⟩ := List.mem_map.1 hx
      exact y.2
theorem aps_arg {P : Program} {k2 : Nat} {u b s t c ec : TypeId} {n k : Nat} {ty e : TypeId} {H : Type} {enc : TypeId × Value → H} {W : World} {spare : Nat → Bool} {ad : Option Addr} {m c9 : Nat} {d : DataW H} {ps : List MemPlace} (hl : leaves P n ty = some [ty]) (hty : P.underlying ty = some (.slice e)) (hle : leaves P k e = some [b, b, b, s, t, u, u, u, u, u, u, u, u, c, c, b, b, u, u, u, u, c]) (hu : P.underlying u = some (.int .u64)) (hb : P.underlying b = some (.int .u8)) (hs : P.underlying s = some (.int .u16)) (ht : P.underlying t = some .bool) (hc : P.underlying c = some (.slice ec)) (hlc : leaves P k2 ec = some [b, u, u, u, u])
    (h : DataW.Trod enc P W 0 spare true ty (.slice ad m c9) d ps) : ∃ L : List AP, L.length ≤ 9223372036854775807 ∧ (∀ x ∈ L, x.Ok) ∧ AVR (atFirst W) W (.slice ad m c9) (.sl 22 (apsC L) L.length .shut) := by
  obtain ⟨l, h1, h2, h3, h4⟩ := open_arg hl h
  have hc9 : Value.cells (.slice ad m c9) = #[.slice ad m c9] := rfl
  obtain ⟨a, rfl⟩ : ∃ a, l = [a] := by
    match l, h1 with
    | [a], _ => exact ⟨a, rfl⟩
  obtain ⟨L, rfl, e1, e2⟩ := aps_of hty hle hu hb hs ht hc hlc (h4 0 a ty rfl rfl)
  exact ⟨L, e1, e2, h3 0 _ _ (by rw [hc9]; rfl) rfl⟩

end Go.Proofs.Ytmponlabfccjaaa
