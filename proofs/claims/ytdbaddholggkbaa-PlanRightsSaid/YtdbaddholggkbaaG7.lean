import Derived.Test.YtdbaddholggkbaaVmU
import Derived.Test.YtdbaddholggkbaaG6
import Derived.Test.YtdbaddholggkbaaVmMS
/-
  Coins: amounts, sums, rests.
-/
namespace Go.Proofs.Ytdbaddholggkbaa
set_option linter.unnecessarySimpa false
set_option maxRecDepth 100000
open Go Go.Vm
set_option linter.unusedSimpArgs false
set_option linter.unusedVariables false

attribute [local simp] evalL wantedA isCall opA evalA evalAll evalsA evalOpt ofValue ofCell plain binA_eql_pn binA_neq_pn binA_gtr binA_lss binA_geq binA_leq binA_add binA_sub binA_eql binA_neq binA_orI binA_andI binA_shl binA_shr binA_mul binA_quo binA_rem binA_agg_eql binA_agg_neq convA_int unA_not fieldAddrA loadA partA pickA_true pickA_false pickA_bb lenA builtinA storeA splice AV.cells AV.isCell sliceA boundA intA callOf indexAddrA newObjA buildA fillA zeroA ofCells buildSliceA indexA fieldA numA_len4 numA_take4 numA_drop4 set_appN get_appN take_appN List.getElem?_cons_zero List.getElem?_cons_succ

set_option maxHeartbeats 1600000 in
attribute [local simp] undefA List.getElem?_cons_zero List.getElem?_cons_succ numA_zero4 coinC in
theorem amount_ok {σ : St} {l : List Coin} {d : UInt8} {tl : Tail} (hl : l.length ≤ 9223372036854775807) :
    CallsA Try.prog 144 [.sl 5 (coinsC l) l.length tl, .v (.int .u8 d.toNat)] σ (fun av σ' => av = .agg (numA (amt l d.toNat)) ∧ σ = σ') := by
  refine callsA_gcS ?_ rfl
  have F := True.intro
  refine callsA_body Try.func144 rfl rfl rfl ?_
  refine sq fun K1 hK1 => ?_
  refine rg' (h := fun J2 hJ2 => ?_)
  refine hJ2 _ _ ?_
  refine hK1 _ _ ?_
  refine sq fun K3 hK3 => ?_
  refine sq fun K4 hK4 => ?_
  refine rg' (h := fun J5 hJ5 => ?_)
  refine hJ5 _ _ ?_
  refine hK4 _ _ ?_
  refine run_block_k ?_
  refine run_loopG (X := Nat) [1, 4, 7, 8] (fun i ρ σ1 => (i ≤ l.length) ∧ (amt l d.toNat = amt (l.drop i) d.toNat) ∧ (ρ 9 = .v (.int .i64 i)) ∧ (σ1 = { σ with objs := σ.objs ++ [numA 0] })) (fun i => l.length - i) (0) ?st1 ?rd1
  case st1 =>
   refine ⟨lp, lp, lp, ?_⟩
   · rfl
  case rd1 =>
   rintro i ρ1 σ1 hF1 ⟨hi, hA, h9, hσ⟩
   obtain rfl := hσ.symm
   have f1 := keepL hF1
   try simp [KeepL, F] at f1
   replace F := And.intro h9 F
   try replace F := And.intro f1 F
   refine sq fun K6 hK6 => ?_
   refine rg' (h := fun J7 hJ7 => ?_)
   refine hJ7 _ _ ?_
   refine hK6 _ _ ?_
   refine sq fun K8 hK8 => ?_
   refine cs (fun c10 => ?_) (fun c10 => ?_)
   · try exact nope c10
     all_goals have c10p := c10
     all_goals try simp [F] at c10p
     all_goals
      replace F := And.intro c10 F
      try replace F := And.intro c10p F
      refine run_skip ?_
      refine hK8 _ _ ?_
      refine sq fun K9 hK9 => ?_
      refine run_block_k ?_
      refine sq fun K10 hK10 => ?_
      have hlt : i < l.length := by simp at c10; omega
      have hat := coinsC_at hlt
      simp only [coinC] at hat
      have hb1 : i * 5 + 5 ≤ l.length * 5 := by omega
      have hcons : l.drop i = l[i] :: l.drop (i + 1) := List.drop_eq_getElem_cons hlt
      replace F := And.intro hat F
      replace F := And.intro hb1 F
      refine rg' (h := fun J11 hJ11 => ?_)
      refine hJ11 _ _ ?_
      refine hK10 _ _ ?_
      refine sq fun K12 hK12 => ?_
      refine rg' (h := fun J13 hJ13 => ?_)
      refine hJ13 _ _ ?_
      refine hK12 _ _ ?_
      refine cs (fun c16 => ?_) (fun c16 => ?_)
      · try exact nope c16
        all_goals have c16p := c16
        all_goals try simp [F] at c16p
        all_goals
         replace F := And.intro c16 F
         try replace F := And.intro c16p F
         have hd : l[i].d.toNat = d.toNat := by have h := c16; simp at h; first | omega | (subst h; rfl) | (rw [h])
         have hA2 : amt l d.toNat = l[i].n.v := by rw [hA, hcons]; unfold amt; rw [if_pos hd]
         replace F := And.intro hA2 F
         refine sq fun K14 hK14 => ?_
         refine rg' (h := fun J15 hJ15 => ?_)
         refine hJ15 _ _ ?_
         refine hK14 _ _ ?_
         refine run_ret ?_
         try simp only [Then, InBlock, NoGoto]
         refine acell (h := ?_)
         exact gcr
      try exact nope c16
      all_goals have c16p := c16
      all_goals try simp [F] at c16p
      all_goals
       replace F := And.intro c16 F
       try replace F := And.intro c16p F
       have hd : ¬ l[i].d.toNat = d.toNat := by have h := c16; simp at h; first | omega | (intro e; exact h (UInt8.toNat_inj.1 e))
       refine run_skip ?_
       refine hK9 _ _ ?_
       refine rg' (h := fun J16 hJ16 => ?_)
       refine hJ16 _ _ ?_
       refine ⟨gk, (i + 1), ⟨kpG, lpG, ?_, lpG, lpG⟩, lpG⟩
       · rw [hA, hcons]
         exact if_neg hd
   try exact nope c10
   all_goals have c10p := c10
   all_goals try simp [F] at c10p
   all_goals
    replace F := And.intro c10 F
    try replace F := And.intro c10p F
    have hend : amt l d.toNat = 0 := by rw [hA, List.drop_of_length_le (by simp at c10; omega)]; rfl
    replace F := And.intro hend F
    refine run_exit ?_
    refine hK3 _ _ ?_
    refine sq fun K17 hK17 => ?_
    refine rg' (h := fun J18 hJ18 => ?_)
    refine hJ18 _ _ ?_
    refine hK17 _ _ ?_
    refine run_ret ?_
    try simp only [Then, InBlock, NoGoto]
    refine acell (h := ?_)
    exact gcr

set_option maxHeartbeats 1600000 in
attribute [local simp] undefA List.getElem?_cons_zero List.getElem?_cons_succ in
theorem one_ok {σ : St} {d : UInt8} {n : Num} :
    CallsA Try.prog 68 [.v (.int .u8 d.toNat), .agg (numA n.v)] σ (fun av σ' => av = .sl 5 (coinsC (oneL d n)) (oneL d n).length .shut ∧ σ = σ') := by
  refine callsA_gcS ?_ (by simp [AV.under])
  have hR : Right [⟨d, n⟩] ↔ d.toNat < 8 ∧ n.v ≠ 0 := by simp [Right]
  have hc : .v (.int .u8 (d.toNat : Int)) :: numA n.v = coinsC [⟨d, n⟩] := by simp [coinsC, coinC]
  have hdr : ∀ f : Nat → AV, List.drop 5 (List.map f (List.range 5)) = [] := fun _ => rfl
  have F := And.intro hc (And.intro hdr (True.intro))
  refine callsA_body Try.func68 rfl rfl rfl ?_
  refine sq fun K1 hK1 => ?_
  refine rg' (h := fun J2 hJ2 => ?_)
  refine hJ2 _ _ ?_
  refine hK1 _ _ ?_
  refine sq fun K3 hK3 => ?_
  refine sq fun K4 hK4 => ?_
  refine rg' (h := fun J5 hJ5 => ?_)
  refine hJ5 _ _ ?_
  refine hK4 _ _ ?_
  refine sq fun K6 hK6 => ?_
  refine rg' (h := fun J7 hJ7 => ?_)
  refine ca (c := right_ok (l := [⟨d, n⟩]) (by simp)) (k := ?_)
  rintro _ _ ⟨rfl, rfl⟩
  repeat (first | simp [F] | simp (disch := omega) only [wC, if_pos, if_neg])
  refine hJ7 _ _ ?_
  refine hK6 _ _ ?_
  refine cs (fun c11 => ?_) (fun c11 => ?_)
  · try exact nope c11
    all_goals have c11p := c11
    all_goals try simp [F] at c11p
    all_goals
     replace F := And.intro c11 F
     try replace F := And.intro c11p F
     have hr : oneL d n = [⟨d, n⟩] := if_pos (hR.1 (by simpa using c11))
     replace F := And.intro hr F
     refine sq fun K8 hK8 => ?_
     refine rg' (h := fun J9 hJ9 => ?_)
     refine hJ9 _ _ ?_
     refine hK8 _ _ ?_
     refine run_ret ?_
     try simp only [Then, InBlock, NoGoto]
     refine answer_tmp rfl (.inr rfl) ?_
     exact gcr
  try exact nope c11
  all_goals have c11p := c11
  all_goals try simp [F] at c11p
  all_goals
   replace F := And.intro c11 F
   try replace F := And.intro c11p F
   have hr : oneL d n = [] := if_neg (fun h => by have := hR.2 h; simp [this] at c11)
   replace F := And.intro hr F
   refine run_skip ?_
   refine hK3 _ _ ?_
   refine sq fun K10 hK10 => ?_
   refine rg' (h := fun J11 hJ11 => ?_)
   refine hJ11 _ _ ?_
   refine hK10 _ _ ?_
   refine run_ret ?_
   try simp only [Then, InBlock, NoGoto]
   refine answer_tmp rfl (.inr rfl) ?_
   exact gcr

/-- What a function of two numbers answers: a number, an error's number. -/
def FnA (fid : FuncId) (caps : List AV) (F : Nat → Nat → Nat × Nat) : Prop :=
  ∀ (σ : St) (x y : Nat), x < 2 ^ 256 → y < 2 ^ 256 → CallsA Try.prog fid ([.agg (numA x), .agg (numA y)] ++ caps) σ (fun av σ' => av = .tup [.agg (numA (F x y).1), .v (.int .i64 ((F x y).2 : Nat))] ∧ σ = σ')

set_option maxHeartbeats 1600000 in
attribute [local simp] undefA List.getElem?_cons_zero List.getElem?_cons_succ in
theorem each_ok {σ : St} {a b : List Coin} {ta tb : Tail} {fid : FuncId} {caps : List AV} {Fn : Nat → Nat → Nat × Nat} (ha : a.length ≤ 9223372036854775807) (hb : b.length ≤ 9223372036854775807) (hcb : callable Try.prog fid = true) (hF : FnA fid caps Fn) (hcp : ∀ n, noObjL n caps = true)
    (hFl : ∀ x y, x < 2 ^ 256 → y < 2 ^ 256 → (Fn x y).1 < 2 ^ 256) :
    CallsA Try.prog 123 [.sl 5 (coinsC a) a.length ta, .sl 5 (coinsC b) b.length tb, .fn fid caps] σ (fun av σ' => av = .tup [.sl 5 (coinsC (eachL Fn a b)) (eachL Fn a b).length .shut, .v (.int .i64 (eachE Fn a b 8 : Nat))] ∧ σ = σ') := by
  refine callsA_gcS ?_ (by simp [AV.under, underL])
  obtain ⟨fl, hfl⟩ : ∃ fl : Nat → Nat, fl = fun d => (Fn (amt a d) (amt b d)).1 := ⟨_, rfl⟩
  have F := And.intro hcp (And.intro hcb (True.intro))
  refine callsA_body Try.func123 rfl rfl rfl ?_
  refine sq fun K1 hK1 => ?_
  refine rg' (h := fun J2 hJ2 => ?_)
  refine hJ2 _ _ ?_
  refine hK1 _ _ ?_
  refine sq fun K3 hK3 => ?_
  refine rg' (h := fun J4 hJ4 => ?_)
  refine hJ4 _ _ ?_
  refine hK3 _ _ ?_
  refine sq fun K5 hK5 => ?_
  refine sq fun K6 hK6 => ?_
  refine rg' (h := fun J7 hJ7 => ?_)
  refine hJ7 _ _ ?_
  refine hK6 _ _ ?_
  refine run_block_k ?_
  refine run_loopG (X := Nat) [0, 1, 2] (fun d ρ σ1 => (d ≤ 8) ∧ (eachE Fn a b d = 0) ∧ (ρ 8 = grA σ.toks.length 5 (posB d) (coinsC (lstF fl d)) (lstF fl d).length) ∧ (ρ 12 = .v (.int .u8 d)) ∧ (σ1 = { σ with toks := σ.toks ++ grT (posB d) (lstF fl d).length })) (fun d => 8 - d) (0) ?st1 ?rd1
  case st1 =>
   refine ⟨lp, ?_, lp, lp, lp⟩
   · rfl
  case rd1 =>
   rintro d ρ1 σ1 hF1 ⟨hd, hE, h8, h12, hσ⟩
   obtain rfl := hσ.symm
   have f1 := keepL hF1
   try simp [KeepL, F] at f1
   replace F := And.intro h8 F
   replace F := And.intro h12 F
   try replace F := And.intro f1 F
   refine sq fun K8 hK8 => ?_
   refine rg' (h := fun J9 hJ9 => ?_)
   refine hJ9 _ _ ?_
   refine hK8 _ _ ?_
   refine sq fun K10 hK10 => ?_
   refine cs (fun c13 => ?_) (fun c13 => ?_)
   · try exact nope c13
     all_goals have c13p := c13
     all_goals try simp [F] at c13p
     all_goals
      replace F := And.intro c13 F
      try replace F := And.intro c13p F
      refine run_skip ?_
      refine hK10 _ _ ?_
      refine sq fun K11 hK11 => ?_
      refine run_block_k ?_
      refine sq fun K12 hK12 => ?_
      have hd8 : d < 8 := by simp at c13; omega
      obtain ⟨D, rfl⟩ : ∃ D : UInt8, d = D.toNat := ⟨UInt8.ofNat d, (toNat_u8 (by omega)).symm⟩
      have hfD : fl D.toNat < 2 ^ 256 := by rw [hfl]; exact hFl _ _ (amt_lt _ _) (amt_lt _ _)
      have hnum : (Fn (amt a D.toNat) (amt b D.toNat)).1 = (Num.of (fl D.toNat)).v := by rw [Num.of_v hfD, hfl]
      obtain ⟨L, hL⟩ : ∃ L, L = lstF fl D.toNat := ⟨_, rfl⟩
      obtain ⟨M, hM⟩ : ∃ M, M = oneL D (Num.of (fl D.toNat)) := ⟨_, rfl⟩
      have hnx : lstF fl (D.toNat + 1) = L ++ M := by rw [hL, hM]; exact lstF_one hd8 hfD
      have hLl : L.length ≤ 8 := by rw [hL]; exact Nat.le_trans (lstF_len _ _) hd
      have hMl : M.length ≤ 1 := by rw [hM]; unfold oneL; split <;> simp
      rw [← hL] at h8 F
      rw [← hL]
      have hb0 : posB D.toNat = false → coinsC L = [] ∧ L.length = 0 := fun h => by rw [hL, posB_no h]; simp [lstF]
      have happ : ∀ objs, appendA Try.prog 23 (grA σ.toks.length 5 (posB D.toNat) (coinsC L) L.length) (.sl 5 (coinsC M) M.length .shut) ⟨objs, σ.toks ++ grT (posB D.toNat) L.length, σ.gl, σ.rows⟩ = some (grA σ.toks.length 5 true (coinsC L ++ coinsC M) (L.length + M.length), ⟨objs, σ.toks ++ grT true (L.length + M.length), σ.gl, σ.rows⟩) := fun objs => append_gr elemT_23 ti_86 (by decide) rfl hb0 (.inl rfl) (by simp [roomA]; omega) (by simp [maxLen]; omega)
      replace F := And.intro hnum (And.intro happ F)
      refine rg' (h := fun J13 hJ13 => ?_)
      refine hJ13 _ _ ?_
      refine hK12 _ _ ?_
      refine sq fun K14 hK14 => ?_
      refine rg' (h := fun J15 hJ15 => ?_)
      refine ca (c := amount_ok (l := a) (d := D) ha) (k := ?_)
      rintro _ _ ⟨rfl, rfl⟩
      repeat (first | simp [F] | simp (disch := omega) only [wC, if_pos, if_neg])
      refine ca (c := amount_ok (l := b) (d := D) hb) (k := ?_)
      rintro _ _ ⟨rfl, rfl⟩
      repeat (first | simp [F] | simp (disch := omega) only [wC, if_pos, if_neg])
      refine ca (c := hF _ _ _ (amt_lt _ _) (amt_lt _ _)) (k := ?_)
      rintro _ _ ⟨rfl, rfl⟩
      repeat (first | simp [F] | simp (disch := omega) only [wC, if_pos, if_neg])
      refine hJ15 _ _ ?_
      refine hK14 _ _ ?_
      refine sq fun K16 hK16 => ?_
      refine sq fun K17 hK17 => ?_
      refine rg' (h := fun J18 hJ18 => ?_)
      refine hJ18 _ _ ?_
      refine hK17 _ _ ?_
      refine cs (fun c27 => ?_) (fun c27 => ?_)
      · try exact nope c27
        all_goals have c27p := c27
        all_goals try simp [F] at c27p
        all_goals
         replace F := And.intro c27 F
         try replace F := And.intro c27p F
         have he0 : ¬ (Fn (amt a D.toNat) (amt b D.toNat)).2 = 0 := by have h := c27; simp at h; omega
         have e1 : eachE Fn a b (D.toNat + 1) = (Fn (amt a D.toNat) (amt b D.toNat)).2 := by simp only [eachE, hE, ne_eq, not_true_eq_false, if_false]
         have e8 : eachE Fn a b 8 = (Fn (amt a D.toNat) (amt b D.toNat)).2 := by have := eachE_stop (F := Fn) (a := a) (b := b) (d := D.toNat + 1) (by rw [e1]; exact he0) (8 - (D.toNat + 1)); rw [show D.toNat + 1 + (8 - (D.toNat + 1)) = 8 by omega] at this; rw [this, e1]
         have eL : eachL Fn a b = [] := by unfold eachL; rw [if_neg (by rw [e8]; exact he0)]
         replace F := And.intro e8 (And.intro eL F)
         refine sq fun K19 hK19 => ?_
         refine rg' (h := fun J20 hJ20 => ?_)
         refine hJ20 _ _ ?_
         refine hK19 _ _ ?_
         refine run_ret ?_
         try simp only [Then, InBlock, NoGoto]
         refine answer_tmp2 rfl (.inr rfl) ?_
         rw [e8, eL]
         exact gcr (hA := WkL.tup (.cons (Wk.nil _ _ _) (.cons (Wk.refl _) .nil)))
      try exact nope c27
      all_goals have c27p := c27
      all_goals try simp [F] at c27p
      all_goals
       replace F := And.intro c27 F
       try replace F := And.intro c27p F
       have he0 : (Fn (amt a D.toNat) (amt b D.toNat)).2 = 0 := by have h := c27; simp at h; omega
       refine run_skip ?_
       refine hK16 _ _ ?_
       refine rg' (h := fun J21 hJ21 => ?_)
       refine ca (c := (hM ▸ one_ok (d := D) (n := Num.of (fl D.toNat)))) (k := ?_)
       rintro _ _ ⟨rfl, rfl⟩
       repeat (first | simp [F] | simp (disch := omega) only [wC, if_pos, if_neg])
       refine hJ21 _ _ ?_
       refine hK11 _ _ ?_
       refine rg' (h := fun J22 hJ22 => ?_)
       refine hJ22 _ _ ?_
       refine ⟨gk, (D.toNat + 1), ⟨kpG, lpG, ?_, ?_, lpG, ?_⟩, lpG⟩
       · simp only [eachE, hE, ne_eq, not_true_eq_false, if_false]
         exact he0
       · rw [hnx, ← coinsC_append]
         simp [F, AV.gcO, noObjL_append]
       · rw [hnx]
         simp [F, St.trimO]
   try exact nope c13
   all_goals have c13p := c13
   all_goals try simp [F] at c13p
   all_goals
    replace F := And.intro c13 F
    try replace F := And.intro c13p F
    obtain rfl : d = 8 := by simp at c13; omega
    have eL : eachL Fn a b = lstF fl 8 := by unfold eachL; rw [if_pos hE, hfl]
    replace F := And.intro hE (And.intro eL F)
    refine run_exit ?_
    refine hK5 _ _ ?_
    refine sq fun K23 hK23 => ?_
    refine rg' (h := fun J24 hJ24 => ?_)
    refine hJ24 _ _ ?_
    refine hK23 _ _ ?_
    refine run_ret ?_
    try simp only [Then, InBlock, NoGoto]
    refine answer_tmp2 rfl (.inr rfl) ?_
    rw [hE, eL]
    exact gcr (hA := WkL.tup (.cons (by simp only [putA_get]; simp [F]; first | exact Wk.shut _ _ _ _ | exact wk_grA (b := true) (fun h => absurd h (by decide))) (.cons (Wk.refl _) .nil)))

theorem addE_fn : FnA 118 [] (fun x y => (addN x y, addE x y)) := fun σ x y hx hy => nadd_ok hx hy

set_option maxHeartbeats 1600000 in
attribute [local simp] undefA List.getElem?_cons_zero List.getElem?_cons_succ in
theorem sure1_ok {σ : St} {x y : Nat} {fid : FuncId} {Fn : Nat → Nat → Nat} (hcb : callable Try.prog fid = true) (hf : ∀ (σ : St) (x y : Nat), x < 2 ^ 256 → y < 2 ^ 256 → CallsA Try.prog fid [.agg (numA x), .agg (numA y)] σ (fun av σ' => av = .agg (numA (Fn x y)) ∧ σ = σ')) (hx : x < 2 ^ 256) (hy : y < 2 ^ 256) :
    CallsA Try.prog 145 [.agg (numA x), .agg (numA y), .ep [.fn fid []]] σ (fun av σ' => av = .tup [.agg (numA (Fn x y)), .v (.int .i64 0)] ∧ σ = σ') := by
  refine callsA_gcS ?_ (by simp [AV.under, underL])
  have F := And.intro hcb (True.intro)
  refine callsA_body Try.func145 rfl rfl rfl ?_
  refine sq fun K1 hK1 => ?_
  refine rg' (h := fun J2 hJ2 => ?_)
  refine hJ2 _ _ ?_
  refine hK1 _ _ ?_
  refine sq fun K3 hK3 => ?_
  refine rg' (h := fun J4 hJ4 => ?_)
  refine ca (c := hf _ _ _ hx hy) (k := ?_)
  rintro _ _ ⟨rfl, rfl⟩
  repeat (first | simp [F] | simp (disch := omega) only [wC, if_pos, if_neg])
  refine hJ4 _ _ ?_
  refine hK3 _ _ ?_
  refine run_ret ?_
  try simp only [Then, InBlock, NoGoto]
  refine acell2 (h := ?_)
  exact gcr

set_option maxHeartbeats 1600000 in
attribute [local simp] undefA List.getElem?_cons_zero List.getElem?_cons_succ in
theorem sure_raw {σ : St} {fid : FuncId} :
    CallsA Try.prog 124 [.fn fid []] σ (fun av σ' => av = .fn 145 [.ptr σ.objs.length 0] ∧ σ' = { σ with objs := σ.objs ++ [[.fn fid []]] }) := by
  have F := True.intro
  refine callsA_body Try.func124 rfl rfl rfl ?_
  refine sq fun K1 hK1 => ?_
  refine rg' (h := fun J2 hJ2 => ?_)
  refine hJ2 _ _ ?_
  refine hK1 _ _ ?_
  refine sq fun K3 hK3 => ?_
  refine rg' (h := fun J4 hJ4 => ?_)
  refine hJ4 _ _ ?_
  refine hK3 _ _ ?_
  refine run_ret ?_
  try simp only [Then, InBlock, NoGoto]
  refine answer_tmp rfl (.inr rfl) ?_
  exact rt
theorem sure_ok {σ : St} {fid : FuncId} : CallsA Try.prog 124 [.fn fid []] σ (fun av σ' => av = .fn 145 [.ep [.fn fid []]] ∧ σ = σ') :=
  callsA_freeze sure_raw (by simp) rfl

theorem rest_fn : FnA 145 [.ep [.fn 125 []]] (fun x y => (x - y, 0)) := fun σ x y hx hy =>
  sure1_ok (Fn := fun x y => x - y) (by simp) (fun σ x y hx hy => nRest_ok hx hy) hx hy

set_option maxHeartbeats 1600000 in
attribute [local simp] undefA List.getElem?_cons_zero List.getElem?_cons_succ in
theorem cadd_ok {σ : St} {a b : List Coin} {ta tb : Tail} (ha : a.length ≤ 9223372036854775807) (hb : b.length ≤ 9223372036854775807) :
    CallsA Try.prog 114 [.sl 5 (coinsC a) a.length ta, .sl 5 (coinsC b) b.length tb] σ (fun av σ' => av = .tup [.sl 5 (coinsC (cAddL a b)) (cAddL a b).length .shut, .v (.int .i64 (cAddE a b : Nat))] ∧ σ = σ') := by
  have F := True.intro
  refine callsA_body Try.func114 rfl rfl rfl ?_
  refine sq fun K1 hK1 => ?_
  refine rg' (h := fun J2 hJ2 => ?_)
  refine hJ2 _ _ ?_
  refine hK1 _ _ ?_
  refine sq fun K3 hK3 => ?_
  refine rg' (h := fun J4 hJ4 => ?_)
  refine ca (c := each_ok ha hb (by simp) addE_fn (fun _ ↦ rfl) (fun x y _ _ ↦ addN_lt x y)) (k := ?_)
  rintro _ _ ⟨rfl, rfl⟩
  repeat (first | simp [F] | simp (disch := omega) only [wC, if_pos, if_neg])
  refine hJ4 _ _ ?_
  refine hK3 _ _ ?_
  refine run_ret ?_
  try simp only [Then, InBlock, NoGoto]
  refine answer_tmp2 rfl (.inr rfl) ?_
  exact ⟨rfl, rfl⟩

set_option maxHeartbeats 1600000 in
attribute [local simp] undefA List.getElem?_cons_zero List.getElem?_cons_succ in
theorem crest_ok {σ : St} {a b : List Coin} {ta tb : Tail} (ha : a.length ≤ 9223372036854775807) (hb : b.length ≤ 9223372036854775807) :
    CallsA Try.prog 74 [.sl 5 (coinsC a) a.length ta, .sl 5 (coinsC b) b.length tb] σ (fun av σ' => av = .sl 5 (coinsC (cRest a b)) (cRest a b).length .shut ∧ σ = σ') := by
  have F := True.intro
  refine callsA_body Try.func74 rfl rfl rfl ?_
  refine sq fun K1 hK1 => ?_
  refine rg' (h := fun J2 hJ2 => ?_)
  refine hJ2 _ _ ?_
  refine hK1 _ _ ?_
  refine sq fun K3 hK3 => ?_
  refine rg' (h := fun J4 hJ4 => ?_)
  refine ca (c := sure_ok) (k := ?_)
  rintro _ _ ⟨rfl, rfl⟩
  repeat (first | simp [F] | simp (disch := omega) only [wC, if_pos, if_neg])
  refine ca (c := each_ok ha hb (by simp) rest_fn (fun _ ↦ rfl) (fun x y hx _ ↦ Nat.lt_of_le_of_lt (Nat.sub_le _ _) hx)) (k := ?_)
  rintro _ _ ⟨rfl, rfl⟩
  repeat (first | simp [F] | simp (disch := omega) only [wC, if_pos, if_neg])
  refine hJ4 _ _ ?_
  refine hK3 _ _ ?_
  refine sq fun K5 hK5 => ?_
  refine rg' (h := fun J6 hJ6 => ?_)
  refine hJ6 _ _ ?_
  refine hK5 _ _ ?_
  refine run_ret ?_
  try simp only [Then, InBlock, NoGoto]
  refine answer_tmp rfl (.inr rfl) ?_
  exact ⟨rfl, rfl⟩

end Go.Proofs.Ytdbaddholggkbaa
