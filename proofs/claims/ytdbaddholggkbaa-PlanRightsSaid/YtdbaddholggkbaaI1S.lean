import Derived.Test.YtdbaddholggkbaaVmU
import Derived.Test.YtdbaddholggkbaaH6
import Derived.Test.YtdbaddholggkbaaVmMS
/-
  The document's coins.
-/
namespace Go.Proofs.Ytdbaddholggkbaa
set_option linter.unnecessarySimpa false
set_option maxRecDepth 100000
open Go Go.Vm
set_option linter.unusedSimpArgs false
set_option linter.unusedVariables false


attribute [local simp] evalL wantedA isCall opA evalA evalAll evalsA evalOpt ofValue ofCell plain binA_eql_pn binA_neq_pn binA_gtr binA_lss binA_geq binA_leq binA_add binA_sub binA_eql binA_neq binA_orI binA_andI binA_shl binA_shr binA_mul binA_quo binA_rem binA_agg_eql binA_agg_neq convA_int unA_not fieldAddrA loadA partA pickA_true pickA_false pickA_bb lenA builtinA storeA splice AV.cells AV.isCell sliceA boundA intA callOf indexAddrA newObjA buildA fillA zeroA ofCells buildSliceA indexA fieldA numA_len4 numA_take4 numA_drop4 set_appN get_appN take_appN List.getElem?_cons_zero List.getElem?_cons_succ makeA zeros64

set_option maxHeartbeats 1600000 in
attribute [local simp] undefA List.getElem?_cons_zero List.getElem?_cons_succ in
theorem rlist_ok {σ : St} {f : Nat → Nat} (hf : ∀ d, d < 8 → f d < 2 ^ 256) :
    CallsA Try.prog 71 [.agg (purA (purF f))] σ (fun av σ' => av = .sl 5 (coinsC (lstF f 8)) (lstF f 8).length .shut ∧ σ = σ') := by
  refine callsA_gcS ?_ (by simp [AV.under])
  have hpl : (purA (purF f)).length = 32 := by rw [purA_len]; simp
  have F := And.intro hpl (True.intro)
  refine callsA_body Try.func71 rfl rfl rfl ?_
  refine sq fun K1 hK1 => ?_
  refine rg' (h := fun J2 hJ2 => ?_)
  refine hJ2 _ _ ?_
  refine hK1 _ _ ?_
  refine sq fun K3 hK3 => ?_
  refine rg' (h := fun J4 hJ4 => ?_)
  refine hJ4 _ _ ?_
  refine hK3 _ _ ?_
  refine sq fun K5 hK5 => ?_
  refine sq fun K6 hK6 => ?_
  refine rg' (h := fun J7 hJ7 => ?_)
  refine hJ7 _ _ ?_
  refine hK6 _ _ ?_
  refine run_block_k ?_
  refine run_loopF (X := Nat) [1, 2] (fun d ρ σ1 => (d ≤ 8) ∧ (ρ 3 = grA σ.toks.length 5 (neB (lstF f d)) (coinsC (lstF f d)) (lstF f d).length) ∧ (ρ 4 = .v (.int .i64 d)) ∧ (σ1 = { σ with objs := σ.objs ++ [purA (purF f)], toks := σ.toks ++ grT (neB (lstF f d)) (lstF f d).length })) (fun d => 8 - d) (0) ?st1 ?rd1
  case st1 =>
   refine ⟨lp, ?_, lp, ?_⟩
   · rfl
   · simp [lstF]
  case rd1 =>
   rintro d ρ1 σ1 hF1 ⟨hj, h3, h4, hσ⟩
   obtain rfl := hσ.symm
   have f1 := keepL hF1
   try simp [KeepL, F] at f1
   replace F := And.intro h3 F
   replace F := And.intro h4 F
   try replace F := And.intro f1 F
   refine sq fun K8 hK8 => ?_
   refine sq fun K9 hK9 => ?_
   refine rg' (h := fun J10 hJ10 => ?_)
   refine hJ10 _ _ ?_
   refine hK9 _ _ ?_
   refine cs (fun c6 => ?_) (fun c6 => ?_)
   · try exact nope c6
     all_goals have c6p := c6
     all_goals try simp [F] at c6p
     all_goals
      replace F := And.intro c6 F
      try replace F := And.intro c6p F
      refine run_skip ?_
      refine hK8 _ _ ?_
      refine sq fun K11 hK11 => ?_
      refine run_block_k ?_
      refine sq fun K12 hK12 => ?_
      have hd8 : d < 8 := by simp at c6; omega
      have hat := purA_at (P := purF f) (d := d) (by simpa using hd8)
      rw [purF_get hd8] at hat
      have hb1 : d * 4 + 4 ≤ 32 := by omega
      have hd5 : (d : Int) < 8 := by omega
      have hw8 : IntKind.u8.wrap (d : Int) = (d : Int) := wrap_u8c ⟨by omega, by omega⟩
      obtain ⟨c, hc⟩ : ∃ c : Coin, c = ⟨UInt8.ofNat d, Num.of (f d)⟩ := ⟨_, rfl⟩
      have hcn : c.n.v = f d := by rw [hc]; exact Num.of_v (hf d hd8)
      have hcd : (c.d.toNat : Int) = (d : Int) := by rw [hc]; simp only [toNat_u8 (show d < 256 by omega)]
      have hcoin : AV.v (.int .u8 (d : Int)) :: numA (f d) = coinC c := by rw [coinC, hcd, hcn]
      obtain ⟨L, hL⟩ : ∃ L, L = lstF f d := ⟨_, rfl⟩
      have hLl : L.length ≤ 8 := by rw [hL]; exact Nat.le_trans (lstF_len _ _) hj
      rw [← hL] at h3 F
      rw [← hL]
      have hb0 : neB L = false → coinsC L = [] ∧ L.length = 0 := fun h => by rw [neB_no h]; simp
      have happ : ∀ objs, appendA Try.prog 23 (grA σ.toks.length 5 (neB L) (coinsC L) L.length) (.sl 5 (coinC c) 1 .full) ⟨objs, σ.toks ++ grT (neB L) L.length, σ.gl, σ.rows⟩ = some (grA σ.toks.length 5 true (coinsC L ++ coinC c) (L.length + 1), ⟨objs, σ.toks ++ grT true (L.length + 1), σ.gl, σ.rows⟩) := fun objs => append_gr elemT_23 ti_86 (by decide) rfl hb0 (.inl rfl) (by simp [roomA]; omega) (by simp [maxLen]; omega)
      have hcl : (coinC c).length = 5 := rfl
      have hca : (coinC c).all AV.isCell = true := rfl
      have hdr : ∀ f : Nat → AV, List.drop 5 (List.map f (List.range 5)) = [] := fun _ => rfl
      replace F := And.intro hcl F
      replace F := And.intro hca F
      replace F := And.intro hdr F
      replace F := And.intro hat F
      replace F := And.intro hb1 F
      replace F := And.intro hd5 F
      replace F := And.intro hd8 F
      replace F := And.intro hw8 F
      replace F := And.intro hcoin F
      replace F := And.intro happ F
      refine rg' (h := fun J13 hJ13 => ?_)
      refine ca (c := zero_ok (x := ⟨f d, hf d hd8⟩)) (k := ?_)
      rintro _ _ ⟨rfl, rfl⟩
      repeat (first | simp [F] | simp (disch := omega) only [wC, if_pos, if_neg])
      refine hJ13 _ _ ?_
      refine hK12 _ _ ?_
      refine cs (fun c13 => ?_) (fun c13 => ?_)
      · try exact nope c13
        all_goals have c13p := c13
        all_goals try simp [F] at c13p
        all_goals
         replace F := And.intro c13 F
         try replace F := And.intro c13p F
         have hnx : lstF f (d + 1) = L ++ [c] := by rw [hL, hc]; simp only [lstF]; rw [if_neg (by simpa using c13)]
         refine rg' (h := fun J14 hJ14 => ?_)
         refine hJ14 _ _ ?_
         refine hK11 _ _ ?_
         refine rg' (h := fun J15 hJ15 => ?_)
         refine hJ15 _ _ ?_
         refine ⟨(d + 1), ⟨kp, lp, ?_, lp, ?_⟩, lp⟩
         · rw [hnx, ← coinsC_snoc]
           simp [F]
         · rw [hnx]
           simp [F]
      try exact nope c13
      all_goals have c13p := c13
      all_goals try simp [F] at c13p
      all_goals
       replace F := And.intro c13 F
       try replace F := And.intro c13p F
       have hnx : lstF f (d + 1) = L := by rw [hL]; simp only [lstF]; rw [if_pos (by simpa using c13), List.append_nil]
       refine run_skip ?_
       refine hK11 _ _ ?_
       refine rg' (h := fun J16 hJ16 => ?_)
       refine hJ16 _ _ ?_
       refine ⟨(d + 1), ⟨kp, lp, ?_, lp, ?_⟩, lp⟩
       · rw [hnx]
         simp [F]
       · rw [hnx]
   try exact nope c6
   all_goals have c6p := c6
   all_goals try simp [F] at c6p
   all_goals
    replace F := And.intro c6 F
    try replace F := And.intro c6p F
    obtain rfl : d = 8 := by simp at c6; omega
    refine run_exit ?_
    refine hK5 _ _ ?_
    refine sq fun K17 hK17 => ?_
    refine rg' (h := fun J18 hJ18 => ?_)
    refine hJ18 _ _ ?_
    refine hK17 _ _ ?_
    refine run_ret ?_
    try simp only [Then, InBlock, NoGoto]
    refine answer_tmp rfl (.inr rfl) ?_
    refine gcr (hA := by simp only [putA_get]; simp [F]; exact wk_grA (fun h => by rw [neB_no h]; simp))

end Go.Proofs.Ytdbaddholggkbaa

/-
  The document's coins: sums, rests.
-/
namespace Go.Proofs.Ytdbaddholggkbaa
set_option linter.unnecessarySimpa false
set_option maxRecDepth 100000
open Go Go.Vm
set_option linter.unusedSimpArgs false
set_option linter.unusedVariables false

attribute [local simp] evalL wantedA isCall opA evalA evalAll evalsA evalOpt ofValue ofCell plain binA_eql_pn binA_neq_pn binA_gtr binA_lss binA_geq binA_leq binA_add binA_sub binA_eql binA_neq binA_orI binA_andI binA_shl binA_shr binA_mul binA_quo binA_rem binA_agg_eql binA_agg_neq convA_int unA_not fieldAddrA loadA partA pickA_true pickA_false pickA_bb lenA builtinA storeA splice AV.cells AV.isCell sliceA boundA intA callOf indexAddrA newObjA buildA fillA zeroA ofCells buildSliceA indexA fieldA numA_len4 numA_take4 numA_drop4 set_appN get_appN take_appN List.getElem?_cons_zero List.getElem?_cons_succ makeA zeros64

theorem pur_len (g : Nat → Nat) : (purA (purF g)).length = 32 := by rw [purA_len]; simp
theorem pur_take (g : Nat → Nat) : (purA (purF g)).take 32 = purA (purF g) := List.take_of_length_le (by rw [pur_len]; decide)
theorem pur_drop (g : Nat → Nat) : (purA (purF g)).drop 32 = [] := List.drop_of_length_le (by rw [pur_len]; decide)
theorem pur_cell (g : Nat → Nat) : ∀ x ∈ purA (purF g), x.isCell = true := by simpa using purA_isCell (purF g)

theorem pur_all (g : Nat → Nat) : (∀ x, x ∈ purA (purF g) → x.isCell = true) = True := eq_true (pur_cell g)

set_option maxHeartbeats 1600000 in
attribute [local simp] undefA List.getElem?_cons_zero List.getElem?_cons_succ in
theorem rpof_ok {σ : St} {l : List Coin} {tl : Tail} (hl : Right l) :
    CallsA Try.prog 76 [.sl 5 (coinsC l) l.length tl] σ (fun av σ' => av = .agg (purA (purF (amt l))) ∧ σ = σ') := by
  refine callsA_gcS ?_ (by simp [AV.under, purA_under])
  have hl8 := right_len hl
  have hPl := pur_len
  have hPt := pur_take
  have hPd := pur_drop
  have hPc := pur_cell
  simp only [AV.isCell] at hPc
  have F := And.intro hPl (And.intro hPt (And.intro hPd (And.intro hPc (True.intro))))
  refine callsA_body Try.func76 rfl rfl rfl ?_
  refine sq fun K1 hK1 => ?_
  refine rg' (h := fun J2 hJ2 => ?_)
  refine hJ2 _ _ ?_
  refine hK1 _ _ ?_
  refine sq fun K3 hK3 => ?_
  refine rg' (h := fun J4 hJ4 => ?_)
  refine hJ4 _ _ ?_
  refine hK3 _ _ ?_
  refine sq fun K5 hK5 => ?_
  refine sq fun K6 hK6 => ?_
  refine rg' (h := fun J7 hJ7 => ?_)
  refine hJ7 _ _ ?_
  refine hK6 _ _ ?_
  refine run_block_k ?_
  refine run_loopF (X := Nat) [0, 2, 3] (fun i ρ σ1 => (i ≤ l.length) ∧ (ρ 4 = .v (.int .i64 i)) ∧ (σ1 = { σ with objs := σ.objs ++ [purA (purF fun _ => 0), purA (purF (amt (l.take i)))] })) (fun i => l.length - i) (0) ?st1 ?rd1
  case st1 =>
   refine ⟨lp, lp, ?_⟩
   · simp only [List.take_zero, show amt [] = fun _ => 0 from rfl, purA_zero]
  case rd1 =>
   rintro i ρ1 σ1 hF1 ⟨hi, h4, hσ⟩
   obtain rfl := hσ.symm
   have f1 := keepL hF1
   try simp [KeepL, F] at f1
   replace F := And.intro h4 F
   try replace F := And.intro f1 F
   refine sq fun K8 hK8 => ?_
   refine sq fun K9 hK9 => ?_
   refine rg' (h := fun J10 hJ10 => ?_)
   refine hJ10 _ _ ?_
   refine hK9 _ _ ?_
   refine cs (fun c8 => ?_) (fun c8 => ?_)
   · try exact nope c8
     all_goals have c8p := c8
     all_goals try simp [F] at c8p
     all_goals
      replace F := And.intro c8 F
      try replace F := And.intro c8p F
      refine run_skip ?_
      refine hK8 _ _ ?_
      refine sq fun K11 hK11 => ?_
      refine run_block_k ?_
      have hlt : i < l.length := by simp at c8; omega
      have hat := coinsC_at hlt
      simp only [coinC] at hat
      have hb1 : i * 5 + 5 ≤ l.length * 5 := by omega
      obtain ⟨c, hc⟩ : ∃ c, c = l[i] := ⟨_, rfl⟩
      rw [← hc] at hat
      have htk : l.take (i + 1) = l.take i ++ [c] := by rw [hc]; exact (List.take_append_getElem hlt).symm
      have hR : Right (l.take i ++ [c]) := by rw [← htk]; exact right_take hl _
      have hd8 : c.d.toNat < 8 := (right_snoc.1 hR).2.1.1
      obtain ⟨d, hd⟩ : ∃ d, d = c.d.toNat := ⟨_, rfl⟩
      rw [← hd] at hat hd8
      have hd5 : (d : Int) < 8 := by omega
      have hb2 : d * 4 + 4 ≤ 32 := by omega
      obtain ⟨f, hf⟩ : ∃ f, f = amt (l.take i) := ⟨_, rfl⟩
      rw [← hf]
      have hset := purA_set (P := purF f) (d := d) (by simpa using hd8) c.n.v
      rw [purF_set] at hset
      have hnx : purF (fun j => if j = d then c.n.v else f j) = purF (amt (l.take (i + 1))) := purF_congr (fun j _ => by rw [htk, amt_snoc hR, ← hd, hf])
      rw [hnx] at hset
      replace F := And.intro hat F
      replace F := And.intro hb1 F
      replace F := And.intro hset F
      replace F := And.intro hd8 F
      replace F := And.intro hd5 F
      replace F := And.intro hb2 F
      refine run_draw (by kernel_rfl) fun J12 hJ12 => ?_
      refine rp2 0 (k := ?_)
      refine rp2 1 (k := ?_)
      refine rp2 2 (k := ?_)
      refine rp2 3 (k := ?_)
      refine rp2 4 (k := ?_)
      refine rp2 5 (k := ?_)
      refine rp2 6 (k := ?_)
      refine rp2 7 (k := ?_)
      refine rp2 8 (k := ?_)
      refine rp2 9 (k := ?_)
      refine rp2 10 (k := ?_)
      refine dop 11 rfl ?_
      repeat (first | simp [F] | simp (disch := omega) only [wC, if_pos, if_neg])
      refine ⟨ln, ?_⟩
      refine dd ?_
      refine hJ12 _ _ ?_
      refine hK11 _ _ ?_
      refine rg' (h := fun J13 hJ13 => ?_)
      refine hJ13 _ _ ?_
      refine ⟨(i + 1), ⟨kp, lp, lp, lp⟩, lp⟩
   try exact nope c8
   all_goals have c8p := c8
   all_goals try simp [F] at c8p
   all_goals
    replace F := And.intro c8 F
    try replace F := And.intro c8p F
    have hend : l.take i = l := List.take_of_length_le (by simp at c8; omega)
    rw [hend]
    refine run_exit ?_
    refine hK5 _ _ ?_
    refine sq fun K14 hK14 => ?_
    refine rg' (h := fun J15 hJ15 => ?_)
    refine hJ15 _ _ ?_
    refine hK14 _ _ ?_
    refine run_ret ?_
    try simp only [Then, InBlock, NoGoto]
    refine acell (h := ?_)
    exact gcr

theorem addF_next (fa fb : Nat → Nat) (d j : Nat) : (if j = d then fa d + fb d else if j < d then fa j + fb j else fa j) = if j < d + 1 then fa j + fb j else fa j := by
  by_cases h : j = d
  · subst h; simp
  · by_cases h2 : j < d
    · rw [if_neg h, if_pos h2, if_pos (by omega)]
    · rw [if_neg h, if_neg h2, if_neg (by omega)]

set_option maxHeartbeats 1600000 in
attribute [local simp] undefA List.getElem?_cons_zero List.getElem?_cons_succ in
theorem rpadd_ok {σ : St} {a b : List Coin} {ta tb : Tail} (ha : Right a) (hb : Right b) :
    CallsA Try.prog 27 [.sl 5 (coinsC a) a.length ta, .sl 5 (coinsC b) b.length tb] σ (fun av σ' => av = .tup [.sl 5 (coinsC (cAddL a b)) (cAddL a b).length .shut, .v (.bool (decide (cAddE a b = 0)))] ∧ σ = σ') := by
  refine callsA_gcS ?_ (by simp [AV.under, underL])
  have hPl := pur_len
  have hPt := pur_take
  have hPd := pur_drop
  have hPn : ∀ n g, noObjL n (purA (purF g)) = true := fun n g => purA_noObj n _
  have hPc := pur_all
  simp only [AV.isCell] at hPc
  obtain ⟨fa, hfa⟩ : ∃ fa, fa = amt a := ⟨_, rfl⟩
  obtain ⟨fb, hfb⟩ : ∃ fb, fb = amt b := ⟨_, rfl⟩
  obtain ⟨fs, hfs⟩ : ∃ fs : Nat → Nat → Nat, fs = fun d j => if j < d then fa j + fb j else fa j := ⟨_, rfl⟩
  have hfs0 : fs 0 = fa := by rw [hfs]; funext j; simp
  have hla : ∀ d, fa d < 2 ^ 256 := fun d => by rw [hfa]; exact amt_lt _ _
  have hlb : ∀ d, fb d < 2 ^ 256 := fun d => by rw [hfb]; exact amt_lt _ _
  have F := And.intro hPl (And.intro hPt (And.intro hPd (And.intro hPc (And.intro hPn (True.intro)))))
  refine callsA_body Try.func27 rfl rfl rfl ?_
  refine sq fun K1 hK1 => ?_
  refine rg' (h := fun J2 hJ2 => ?_)
  refine hJ2 _ _ ?_
  refine hK1 _ _ ?_
  refine sq fun K3 hK3 => ?_
  refine rg' (h := fun J4 hJ4 => ?_)
  refine ca (c := (hfa ▸ rpof_ok ha)) (k := ?_)
  rintro _ _ ⟨rfl, rfl⟩
  repeat (first | simp [F] | simp (disch := omega) only [wC, if_pos, if_neg])
  refine ca (c := (hfb ▸ rpof_ok hb)) (k := ?_)
  rintro _ _ ⟨rfl, rfl⟩
  repeat (first | simp [F] | simp (disch := omega) only [wC, if_pos, if_neg])
  refine hJ4 _ _ ?_
  refine hK3 _ _ ?_
  refine sq fun K5 hK5 => ?_
  refine sq fun K6 hK6 => ?_
  refine rg' (h := fun J7 hJ7 => ?_)
  refine hJ7 _ _ ?_
  refine hK6 _ _ ?_
  refine run_block_k ?_
  refine run_loopG (X := Nat) [6, 7] (fun d ρ σ1 => (d ≤ 8) ∧ (∀ j, j < d → fa j + fb j < 2 ^ 256) ∧ (ρ 8 = .v (.int .i64 d)) ∧ (σ1 = { σ with objs := σ.objs ++ [purA (purF (fs d)), purA (purF fb)] })) (fun d => 8 - d) (0) ?st1 ?rd1
  case st1 =>
   refine ⟨lp, ?_, lp, ?_⟩
   · intro j hj
     exact absurd hj (Nat.not_lt_zero j)
   · rw [hfs0]
  case rd1 =>
   rintro d ρ1 σ1 hF1 ⟨hd, hE, h8, hσ⟩
   obtain rfl := hσ.symm
   have f1 := keepL hF1
   try simp [KeepL, F] at f1
   replace F := And.intro h8 F
   try replace F := And.intro f1 F
   refine sq fun K8 hK8 => ?_
   refine sq fun K9 hK9 => ?_
   refine rg' (h := fun J10 hJ10 => ?_)
   refine hJ10 _ _ ?_
   refine hK9 _ _ ?_
   refine cs (fun c16 => ?_) (fun c16 => ?_)
   · try exact nope c16
     all_goals have c16p := c16
     all_goals try simp [F] at c16p
     all_goals
      replace F := And.intro c16 F
      try replace F := And.intro c16p F
      refine run_skip ?_
      refine hK8 _ _ ?_
      refine sq fun K11 hK11 => ?_
      refine run_block_k ?_
      refine sq fun K12 hK12 => ?_
      have hd8 : d < 8 := by simp at c16; omega
      have hd5 : (d : Int) < 8 := by omega
      have hb2 : d * 4 + 4 ≤ 32 := by omega
      have hata := purA_at (P := purF (fs d)) (d := d) (by simpa using hd8)
      rw [purF_get hd8] at hata
      have hatb := purA_at (P := purF fb) (d := d) (by simpa using hd8)
      rw [purF_get hd8] at hatb
      have hfd : fs d d = fa d := by rw [hfs]; simp
      rw [hfd] at hata
      have hset := purA_set (P := purF (fs d)) (d := d) (by simpa using hd8) (fa d + fb d)
      rw [purF_set] at hset
      have hnx : (fun j => if j = d then fa d + fb d else fs d j) = fs (d + 1) := by rw [hfs]; funext j; simp only; exact addF_next fa fb d j
      rw [hnx] at hset
      replace F := And.intro hata F
      replace F := And.intro hatb F
      replace F := And.intro hset F
      replace F := And.intro hd8 F
      replace F := And.intro hd5 F
      replace F := And.intro hb2 F
      refine run_draw (by kernel_rfl) fun J13 hJ13 => ?_
      refine rp2 0 (k := ?_)
      refine rp2 1 (k := ?_)
      refine rp2 2 (k := ?_)
      refine rp2 3 (k := ?_)
      refine rp2 4 (k := ?_)
      refine rp2 5 (k := ?_)
      refine d2 6 10 ?_ ?_
      · refine ac 6 rfl (c := radd_ok (hla d) (hlb d)) (k := ?_)
        rintro _ _ ⟨rfl, rfl⟩
        refine ⟨by first | exact fun _ _ h => h | (refine later_list [4, 3, 1, 0] (by kernel_rfl) (List.forall_mem_cons.2 ⟨fun _ => fact2 rfl rfl ?_, List.forall_mem_cons.2 ⟨fun _ => fact2 rfl rfl ?_, List.forall_mem_cons.2 ⟨fun _ => fact2 rfl rfl ?_, List.forall_mem_cons.2 ⟨fun _ => fact2 rfl rfl ?_, fun _ h => absurd h List.not_mem_nil⟩⟩⟩⟩) <;> constructor <;> first | rfl | (simp [F]; done)), ?_⟩
        repeat (first | simp [F] | simp (disch := omega) only [wC, if_pos, if_neg])
        refine rp2 7 (k := ?_)
        refine rp2 8 (k := ?_)
        refine rp2 9 (k := ?_)
        refine dop 10 rfl ?_
        repeat (first | simp [F] | simp (disch := omega) only [wC, if_pos, if_neg])
        refine ⟨by first | exact later_more _ (by kernel_rfl) | exact later_more2 (by kernel_rfl) rfl, ?_⟩
        refine dop 11 rfl ?_
        repeat (first | simp [F] | simp (disch := omega) only [wC, if_pos, if_neg])
        refine ⟨later_tmp (by kernel_rfl), ?_⟩
        refine rp2 12 (k := ?_)
        refine dd ?_
        refine hJ13 _ _ ?_
        refine hK12 _ _ ?_
        refine sq fun K14 hK14 => ?_
        refine sq fun K15 hK15 => ?_
        refine rg' (h := fun J16 hJ16 => ?_)
        refine hJ16 _ _ ?_
        refine hK15 _ _ ?_
        refine cs (fun c30 => ?_) (fun c30 => ?_)
        · try exact nope c30
          all_goals have c30p := c30
          all_goals try simp [F] at c30p
          all_goals
           replace F := And.intro c30 F
           try replace F := And.intro c30p F
           have hs : ¬ fa d + fb d < 2 ^ 256 := by simpa using c30
           have he : ¬ cAddE a b = 0 := fun h => hs (by have := cAddE_zero.1 h d hd8; rw [hfa, hfb]; exact this)
           have hL := cAddL_no he
           replace F := And.intro hL (And.intro he F)
           refine sq fun K17 hK17 => ?_
           refine rg' (h := fun J18 hJ18 => ?_)
           refine hJ18 _ _ ?_
           refine hK17 _ _ ?_
           refine run_ret ?_
           try simp only [Then, InBlock, NoGoto]
           refine answer_tmp2 rfl (.inr rfl) ?_
           rw [hL, decide_eq_false he]
           exact gcr (hA := WkL.tup (.cons (Wk.nil _ _ _) (.cons (Wk.refl _) .nil)))
        try exact nope c30
        all_goals have c30p := c30
        all_goals try simp [F] at c30p
        all_goals
         replace F := And.intro c30 F
         try replace F := And.intro c30p F
         have hs : fa d + fb d < 2 ^ 256 := by simpa using c30
         have hs2 : addN (fa d) (fb d) = fa d + fb d := if_pos hs
         replace F := And.intro hs2 F
         refine run_skip ?_
         refine hK14 _ _ ?_
         refine rg' (h := fun J19 hJ19 => ?_)
         refine hJ19 _ _ ?_
         refine hK11 _ _ ?_
         refine rg' (h := fun J20 hJ20 => ?_)
         refine hJ20 _ _ ?_
         refine ⟨gk, (d + 1), ⟨kpG, lpG, ?_, lpG, lpG⟩, lpG⟩
         · intro j hj
           rcases Nat.lt_or_ge j d with h | h
           · exact hE j h
           · obtain rfl : j = d := by omega
             exact hs
      · refine ao 10 rfl ?_
        repeat (first | simp [F] | simp (disch := omega) only [wC, if_pos, if_neg])
        refine ⟨by first | exact later_more _ (by kernel_rfl) | exact later_more2 (by kernel_rfl) rfl, ?_⟩
        refine dc 6 rfl (c := radd_ok (hla d) (hlb d)) (k := ?_)
        rintro _ _ ⟨rfl, rfl⟩
        refine ⟨by first | exact fun _ _ h => h | (refine later_list [4, 3, 1, 0] (by kernel_rfl) (List.forall_mem_cons.2 ⟨fun _ => fact2 rfl rfl ?_, List.forall_mem_cons.2 ⟨fun _ => fact2 rfl rfl ?_, List.forall_mem_cons.2 ⟨fun _ => fact2 rfl rfl ?_, List.forall_mem_cons.2 ⟨fun _ => fact2 rfl rfl ?_, fun _ h => absurd h List.not_mem_nil⟩⟩⟩⟩) <;> constructor <;> first | rfl | (simp [F]; done)), ?_⟩
        repeat (first | simp [F] | simp (disch := omega) only [wC, if_pos, if_neg])
        refine rp2 7 (k := ?_)
        refine rp2 8 (k := ?_)
        refine rp2 9 (k := ?_)
        refine dop 11 rfl ?_
        repeat (first | simp [F] | simp (disch := omega) only [wC, if_pos, if_neg])
        refine ⟨later_tmp (by kernel_rfl), ?_⟩
        refine rp2 12 (k := ?_)
        refine dd ?_
        refine hJ13 _ _ ?_
        refine hK12 _ _ ?_
        refine sq fun K21 hK21 => ?_
        refine sq fun K22 hK22 => ?_
        refine rg' (h := fun J23 hJ23 => ?_)
        refine hJ23 _ _ ?_
        refine hK22 _ _ ?_
        refine cs (fun c30 => ?_) (fun c30 => ?_)
        · try exact nope c30
          all_goals have c30p := c30
          all_goals try simp [F] at c30p
          all_goals
           replace F := And.intro c30 F
           try replace F := And.intro c30p F
           have hs : ¬ fa d + fb d < 2 ^ 256 := by simpa using c30
           have he : ¬ cAddE a b = 0 := fun h => hs (by have := cAddE_zero.1 h d hd8; rw [hfa, hfb]; exact this)
           have hL := cAddL_no he
           replace F := And.intro hL (And.intro he F)
           refine sq fun K24 hK24 => ?_
           refine rg' (h := fun J25 hJ25 => ?_)
           refine hJ25 _ _ ?_
           refine hK24 _ _ ?_
           refine run_ret ?_
           try simp only [Then, InBlock, NoGoto]
           refine answer_tmp2 rfl (.inr rfl) ?_
           rw [hL, decide_eq_false he]
           exact gcr (hA := WkL.tup (.cons (Wk.nil _ _ _) (.cons (Wk.refl _) .nil)))
        try exact nope c30
        all_goals have c30p := c30
        all_goals try simp [F] at c30p
        all_goals
         replace F := And.intro c30 F
         try replace F := And.intro c30p F
         have hs : fa d + fb d < 2 ^ 256 := by simpa using c30
         have hs2 : addN (fa d) (fb d) = fa d + fb d := if_pos hs
         replace F := And.intro hs2 F
         refine run_skip ?_
         refine hK21 _ _ ?_
         refine rg' (h := fun J26 hJ26 => ?_)
         refine hJ26 _ _ ?_
         refine hK11 _ _ ?_
         refine rg' (h := fun J27 hJ27 => ?_)
         refine hJ27 _ _ ?_
         refine ⟨gk, (d + 1), ⟨kpG, lpG, ?_, lpG, lpG⟩, lpG⟩
         · intro j hj
           rcases Nat.lt_or_ge j d with h | h
           · exact hE j h
           · obtain rfl : j = d := by omega
             exact hs
   try exact nope c16
   all_goals have c16p := c16
   all_goals try simp [F] at c16p
   all_goals
    replace F := And.intro c16 F
    try replace F := And.intro c16p F
    obtain rfl : d = 8 := by simp at c16; omega
    have he : cAddE a b = 0 := cAddE_zero.2 (fun d hd => by have := hE d hd; rw [hfa, hfb] at this; exact this)
    have hL : lstF (fs 8) 8 = cAddL a b := by rw [cAddL_yes he, hfs, hfa, hfb]; exact lstF_congr (fun i hi => by simp [hi])
    have hf8 : ∀ d, d < 8 → fs 8 d < 2 ^ 256 := fun d hd => by rw [hfs]; simp only [if_pos hd]; exact hE d hd
    replace F := And.intro he F
    refine run_exit ?_
    refine hK5 _ _ ?_
    refine sq fun K28 hK28 => ?_
    refine rg' (h := fun J29 hJ29 => ?_)
    refine ca (c := (hL ▸ rlist_ok hf8)) (k := ?_)
    rintro _ _ ⟨rfl, rfl⟩
    repeat (first | simp [F] | simp (disch := omega) only [wC, if_pos, if_neg])
    refine hJ29 _ _ ?_
    refine hK28 _ _ ?_
    refine run_ret ?_
    try simp only [Then, InBlock, NoGoto]
    refine answer_tmp2 rfl (.inr rfl) ?_
    exact gcr

end Go.Proofs.Ytdbaddholggkbaa

/-
  The document's coins: rests, comparisons.
-/
namespace Go.Proofs.Ytdbaddholggkbaa
set_option linter.unnecessarySimpa false
set_option maxRecDepth 100000
open Go Go.Vm
set_option linter.unusedSimpArgs false
set_option linter.unusedVariables false

attribute [local simp] evalL wantedA isCall opA evalA evalAll evalsA evalOpt ofValue ofCell plain binA_eql_pn binA_neq_pn binA_gtr binA_lss binA_geq binA_leq binA_add binA_sub binA_eql binA_neq binA_orI binA_andI binA_shl binA_shr binA_mul binA_quo binA_rem binA_agg_eql binA_agg_neq convA_int unA_not fieldAddrA loadA partA pickA_true pickA_false pickA_bb lenA builtinA storeA splice AV.cells AV.isCell sliceA boundA intA callOf indexAddrA newObjA buildA fillA zeroA ofCells buildSliceA indexA fieldA numA_len4 numA_take4 numA_drop4 set_appN get_appN take_appN List.getElem?_cons_zero List.getElem?_cons_succ makeA zeros64

theorem restF_next (fa fb : Nat → Nat) (d j : Nat) : (if j = d then fa d - fb d else if j < d then fa j - fb j else fa j) = if j < d + 1 then fa j - fb j else fa j := by
  by_cases h : j = d
  · subst h; simp
  · by_cases h2 : j < d
    · rw [if_neg h, if_pos h2, if_pos (by omega)]
    · rw [if_neg h, if_neg h2, if_neg (by omega)]

set_option maxHeartbeats 1600000 in
attribute [local simp] undefA List.getElem?_cons_zero List.getElem?_cons_succ in
theorem rprest_ok {σ : St} {a b : List Coin} {ta tb : Tail} (ha : Right a) (hb : Right b) :
    CallsA Try.prog 75 [.sl 5 (coinsC a) a.length ta, .sl 5 (coinsC b) b.length tb] σ (fun av σ' => av = .sl 5 (coinsC (cRest a b)) (cRest a b).length .shut ∧ σ = σ') := by
  refine callsA_gcS ?_ (by simp [AV.under, underL])
  have hPl := pur_len
  have hPt := pur_take
  have hPd := pur_drop
  have hPn : ∀ n g, noObjL n (purA (purF g)) = true := fun n g => purA_noObj n _
  have hPc := pur_all
  simp only [AV.isCell] at hPc
  obtain ⟨fa, hfa⟩ : ∃ fa, fa = amt a := ⟨_, rfl⟩
  obtain ⟨fb, hfb⟩ : ∃ fb, fb = amt b := ⟨_, rfl⟩
  have hla : ∀ d, fa d < 2 ^ 256 := fun d => by rw [hfa]; exact amt_lt _ _
  have hlb : ∀ d, fb d < 2 ^ 256 := fun d => by rw [hfb]; exact amt_lt _ _
  obtain ⟨fs, hfs⟩ : ∃ fs : Nat → Nat → Nat, fs = fun d j => if j < d then fa j - fb j else fa j := ⟨_, rfl⟩
  have hfs0 : fs 0 = fa := by rw [hfs]; funext j; simp
  have F := And.intro hPl (And.intro hPt (And.intro hPd (And.intro hPc (And.intro hPn (True.intro)))))
  refine callsA_body Try.func75 rfl rfl rfl ?_
  refine sq fun K1 hK1 => ?_
  refine rg' (h := fun J2 hJ2 => ?_)
  refine hJ2 _ _ ?_
  refine hK1 _ _ ?_
  refine sq fun K3 hK3 => ?_
  refine rg' (h := fun J4 hJ4 => ?_)
  refine ca (c := (hfa ▸ rpof_ok ha)) (k := ?_)
  rintro _ _ ⟨rfl, rfl⟩
  repeat (first | simp [F] | simp (disch := omega) only [wC, if_pos, if_neg])
  refine ca (c := (hfb ▸ rpof_ok hb)) (k := ?_)
  rintro _ _ ⟨rfl, rfl⟩
  repeat (first | simp [F] | simp (disch := omega) only [wC, if_pos, if_neg])
  refine hJ4 _ _ ?_
  refine hK3 _ _ ?_
  refine sq fun K5 hK5 => ?_
  refine sq fun K6 hK6 => ?_
  refine rg' (h := fun J7 hJ7 => ?_)
  refine hJ7 _ _ ?_
  refine hK6 _ _ ?_
  refine run_block_k ?_
  refine run_loopF (X := Nat) [4, 5, 6] (fun d ρ σ1 => (d ≤ 8) ∧ (ρ 7 = .v (.int .i64 d)) ∧ (σ1 = { σ with objs := σ.objs ++ [purA (purF (fs d)), purA (purF fb)] })) (fun d => 8 - d) (0) ?st1 ?rd1
  case st1 =>
   refine ⟨lp, lp, ?_⟩
   · rw [hfs0]
  case rd1 =>
   rintro d ρ1 σ1 hF1 ⟨hd, h8, hσ⟩
   obtain rfl := hσ.symm
   have f1 := keepL hF1
   try simp [KeepL, F] at f1
   replace F := And.intro h8 F
   try replace F := And.intro f1 F
   refine sq fun K8 hK8 => ?_
   refine sq fun K9 hK9 => ?_
   refine rg' (h := fun J10 hJ10 => ?_)
   refine hJ10 _ _ ?_
   refine hK9 _ _ ?_
   refine cs (fun c13 => ?_) (fun c13 => ?_)
   · try exact nope c13
     all_goals have c13p := c13
     all_goals try simp [F] at c13p
     all_goals
      replace F := And.intro c13 F
      try replace F := And.intro c13p F
      refine run_skip ?_
      refine hK8 _ _ ?_
      refine sq fun K11 hK11 => ?_
      refine run_block_k ?_
      have hd8 : d < 8 := by simp at c13; omega
      have hd5 : (d : Int) < 8 := by omega
      have hb2 : d * 4 + 4 ≤ 32 := by omega
      have hata := purA_at (P := purF (fs d)) (d := d) (by simpa using hd8)
      rw [purF_get hd8] at hata
      have hatb := purA_at (P := purF fb) (d := d) (by simpa using hd8)
      rw [purF_get hd8] at hatb
      have hfd : fs d d = fa d := by rw [hfs]; simp
      rw [hfd] at hata
      have hset := purA_set (P := purF (fs d)) (d := d) (by simpa using hd8) (fa d - fb d)
      rw [purF_set] at hset
      have hnx : (fun j => if j = d then fa d - fb d else fs d j) = fs (d + 1) := by rw [hfs]; funext j; simp only; exact restF_next fa fb d j
      rw [hnx] at hset
      replace F := And.intro hata F
      replace F := And.intro hatb F
      replace F := And.intro hset F
      replace F := And.intro hd8 F
      replace F := And.intro hd5 F
      replace F := And.intro hb2 F
      refine run_draw (by kernel_rfl) fun J12 hJ12 => ?_
      refine rp2 0 (k := ?_)
      refine rp2 1 (k := ?_)
      refine rp2 2 (k := ?_)
      refine rp2 3 (k := ?_)
      refine rp2 4 (k := ?_)
      refine rp2 5 (k := ?_)
      refine rp2 6 (k := ?_)
      refine dc 7 rfl (c := rrest_ok (hla d) (hlb d)) (k := ?_)
      rintro _ _ ⟨rfl, rfl⟩
      refine ⟨by first | exact fun _ _ h => h | (refine later_list [5, 4, 2, 1, 0] (by kernel_rfl) (List.forall_mem_cons.2 ⟨fun _ => fact2 rfl rfl ?_, List.forall_mem_cons.2 ⟨fun _ => fact2 rfl rfl ?_, List.forall_mem_cons.2 ⟨fun _ => fact2 rfl rfl ?_, List.forall_mem_cons.2 ⟨fun _ => fact2 rfl rfl ?_, List.forall_mem_cons.2 ⟨fun _ => fact2 rfl rfl ?_, fun _ h => absurd h List.not_mem_nil⟩⟩⟩⟩⟩) <;> constructor <;> first | rfl | (simp [F]; done)), ?_⟩
      repeat (first | simp [F] | simp (disch := omega) only [wC, if_pos, if_neg])
      refine rp2 8 (k := ?_)
      refine dop 9 rfl ?_
      repeat (first | simp [F] | simp (disch := omega) only [wC, if_pos, if_neg])
      refine ⟨ln, ?_⟩
      refine dd ?_
      refine hJ12 _ _ ?_
      refine hK11 _ _ ?_
      refine rg' (h := fun J13 hJ13 => ?_)
      refine hJ13 _ _ ?_
      refine ⟨(d + 1), ⟨kp, lp, lp, lp⟩, lp⟩
   try exact nope c13
   all_goals have c13p := c13
   all_goals try simp [F] at c13p
   all_goals
    replace F := And.intro c13 F
    try replace F := And.intro c13p F
    obtain rfl : d = 8 := by simp at c13; omega
    have hL : lstF (fs 8) 8 = cRest a b := by rw [cRest_eq, hfs, hfa, hfb]; exact lstF_congr (fun i hi => by simp [hi])
    have hf8 : ∀ d, d < 8 → fs 8 d < 2 ^ 256 := fun d hd => by rw [hfs]; simp only [if_pos hd]; exact Nat.lt_of_le_of_lt (Nat.sub_le _ _) (hla d)
    refine run_exit ?_
    refine hK5 _ _ ?_
    refine sq fun K14 hK14 => ?_
    refine rg' (h := fun J15 hJ15 => ?_)
    refine ca (c := (hL ▸ rlist_ok hf8)) (k := ?_)
    rintro _ _ ⟨rfl, rfl⟩
    repeat (first | simp [F] | simp (disch := omega) only [wC, if_pos, if_neg])
    refine hJ15 _ _ ?_
    refine hK14 _ _ ?_
    refine run_ret ?_
    try simp only [Then, InBlock, NoGoto]
    refine answer_tmp rfl (.inr rfl) ?_
    exact gcr

/-- Every amount of the one within the other. -/
def cWith (a b : List Coin) : Prop := ∀ d, d < 8 → amt a d ≤ amt b d
instance (a b : List Coin) : Decidable (cWith a b) := inferInstanceAs (Decidable (∀ d, d < 8 → amt a d ≤ amt b d))

set_option maxHeartbeats 1600000 in
attribute [local simp] undefA List.getElem?_cons_zero List.getElem?_cons_succ in
theorem rpwith_ok {σ : St} {a b : List Coin} {ta tb : Tail} (ha : Right a) (hb : Right b) :
    CallsA Try.prog 28 [.sl 5 (coinsC a) a.length ta, .sl 5 (coinsC b) b.length tb] σ (fun av σ' => av = .v (.bool (decide (cWith a b))) ∧ σ = σ') := by
  refine callsA_gcS ?_ rfl
  have hPl := pur_len
  have hPt := pur_take
  have hPd := pur_drop
  have hPn : ∀ n g, noObjL n (purA (purF g)) = true := fun n g => purA_noObj n _
  have hPc := pur_all
  simp only [AV.isCell] at hPc
  obtain ⟨fa, hfa⟩ : ∃ fa, fa = amt a := ⟨_, rfl⟩
  obtain ⟨fb, hfb⟩ : ∃ fb, fb = amt b := ⟨_, rfl⟩
  have hla : ∀ d, fa d < 2 ^ 256 := fun d => by rw [hfa]; exact amt_lt _ _
  have hlb : ∀ d, fb d < 2 ^ 256 := fun d => by rw [hfb]; exact amt_lt _ _
  have F := And.intro hPl (And.intro hPt (And.intro hPd (And.intro hPc (And.intro hPn (True.intro)))))
  refine callsA_body Try.func28 rfl rfl rfl ?_
  refine sq fun K1 hK1 => ?_
  refine rg' (h := fun J2 hJ2 => ?_)
  refine hJ2 _ _ ?_
  refine hK1 _ _ ?_
  refine sq fun K3 hK3 => ?_
  refine rg' (h := fun J4 hJ4 => ?_)
  refine ca (c := (hfa ▸ rpof_ok ha)) (k := ?_)
  rintro _ _ ⟨rfl, rfl⟩
  repeat (first | simp [F] | simp (disch := omega) only [wC, if_pos, if_neg])
  refine ca (c := (hfb ▸ rpof_ok hb)) (k := ?_)
  rintro _ _ ⟨rfl, rfl⟩
  repeat (first | simp [F] | simp (disch := omega) only [wC, if_pos, if_neg])
  refine hJ4 _ _ ?_
  refine hK3 _ _ ?_
  refine sq fun K5 hK5 => ?_
  refine sq fun K6 hK6 => ?_
  refine rg' (h := fun J7 hJ7 => ?_)
  refine hJ7 _ _ ?_
  refine hK6 _ _ ?_
  refine run_block_k ?_
  refine run_loopF (X := Nat) [5, 6] (fun d ρ σ1 => (d ≤ 8) ∧ (∀ j, j < d → fa j ≤ fb j) ∧ (ρ 7 = .v (.int .i64 d)) ∧ (σ1 = { σ with objs := σ.objs ++ [purA (purF fa), purA (purF fb)] })) (fun d => 8 - d) (0) ?st1 ?rd1
  case st1 =>
   refine ⟨lp, ?_, lp, ?_⟩
   · intro j hj
     exact absurd hj (Nat.not_lt_zero j)
   · rfl
  case rd1 =>
   rintro d ρ1 σ1 hF1 ⟨hd, hE, h8, hσ⟩
   obtain rfl := hσ.symm
   have f1 := keepL hF1
   try simp [KeepL, F] at f1
   replace F := And.intro h8 F
   try replace F := And.intro f1 F
   refine sq fun K8 hK8 => ?_
   refine sq fun K9 hK9 => ?_
   refine rg' (h := fun J10 hJ10 => ?_)
   refine hJ10 _ _ ?_
   refine hK9 _ _ ?_
   refine cs (fun c13 => ?_) (fun c13 => ?_)
   · try exact nope c13
     all_goals have c13p := c13
     all_goals try simp [F] at c13p
     all_goals
      replace F := And.intro c13 F
      try replace F := And.intro c13p F
      refine run_skip ?_
      refine hK8 _ _ ?_
      refine sq fun K11 hK11 => ?_
      refine run_block_k ?_
      refine sq fun K12 hK12 => ?_
      have hd8 : d < 8 := by simp at c13; omega
      have hd5 : (d : Int) < 8 := by omega
      have hb2 : d * 4 + 4 ≤ 32 := by omega
      have hata := purA_at (P := purF fa) (d := d) (by simpa using hd8)
      rw [purF_get hd8] at hata
      have hatb := purA_at (P := purF fb) (d := d) (by simpa using hd8)
      rw [purF_get hd8] at hatb
      replace F := And.intro hata F
      replace F := And.intro hatb F
      replace F := And.intro hd8 F
      replace F := And.intro hd5 F
      replace F := And.intro hb2 F
      refine run_draw (by kernel_rfl) fun J13 hJ13 => ?_
      refine rp2 0 (k := ?_)
      refine rp2 1 (k := ?_)
      refine rp2 2 (k := ?_)
      refine rp2 3 (k := ?_)
      refine rp2 4 (k := ?_)
      refine rp2 5 (k := ?_)
      refine dc 6 rfl (c := rcmp_ok (hla d) (hlb d)) (k := ?_)
      rintro _ _ ⟨rfl, rfl⟩
      refine ⟨by first | exact fun _ _ h => h | (refine later_list [4, 3, 1, 0] (by kernel_rfl) (List.forall_mem_cons.2 ⟨fun _ => fact2 rfl rfl ?_, List.forall_mem_cons.2 ⟨fun _ => fact2 rfl rfl ?_, List.forall_mem_cons.2 ⟨fun _ => fact2 rfl rfl ?_, List.forall_mem_cons.2 ⟨fun _ => fact2 rfl rfl ?_, fun _ h => absurd h List.not_mem_nil⟩⟩⟩⟩) <;> constructor <;> first | rfl | (simp [F]; done)), ?_⟩
      repeat (first | simp [F] | simp (disch := omega) only [wC, if_pos, if_neg])
      refine rp2 7 (k := ?_)
      refine dd ?_
      refine hJ13 _ _ ?_
      refine hK12 _ _ ?_
      refine cs (fun c23 => ?_) (fun c23 => ?_)
      · try exact nope c23
        all_goals have c23p := c23
        all_goals try simp [F] at c23p
        all_goals
         replace F := And.intro c23 F
         try replace F := And.intro c23p F
         have hs : ¬ fa d ≤ fb d := by have h := c23; simp [cmpI] at h; split at h <;> (try split at h) <;> first | omega | (simp at h)
         have he : ¬ cWith a b := fun h => hs (by have := h d hd8; rw [hfa, hfb]; exact this)
         replace F := And.intro he F
         refine sq fun K14 hK14 => ?_
         refine rg' (h := fun J15 hJ15 => ?_)
         refine hJ15 _ _ ?_
         refine hK14 _ _ ?_
         refine run_ret ?_
         try simp only [Then, InBlock, NoGoto]
         refine answer_tmp rfl (.inr rfl) ?_
         rw [decide_eq_false he]
         exact gcr
      try exact nope c23
      all_goals have c23p := c23
      all_goals try simp [F] at c23p
      all_goals
       replace F := And.intro c23 F
       try replace F := And.intro c23p F
       have hs : fa d ≤ fb d := by have h := c23; simp [cmpI] at h; split at h <;> (try split at h) <;> first | omega | (simp at h)
       refine run_skip ?_
       refine hK11 _ _ ?_
       refine rg' (h := fun J16 hJ16 => ?_)
       refine hJ16 _ _ ?_
       refine ⟨(d + 1), ⟨kp, lp, ?_, lp, lp⟩, lp⟩
       · intro j hj
         rcases Nat.lt_or_ge j d with h | h
         · exact hE j h
         · obtain rfl : j = d := by omega
           exact hs
   try exact nope c13
   all_goals have c13p := c13
   all_goals try simp [F] at c13p
   all_goals
    replace F := And.intro c13 F
    try replace F := And.intro c13p F
    obtain rfl : d = 8 := by simp at c13; omega
    have he : cWith a b := fun d hd => by have := hE d hd; rw [hfa, hfb] at this; exact this
    replace F := And.intro he F
    refine run_exit ?_
    refine hK5 _ _ ?_
    refine sq fun K17 hK17 => ?_
    refine rg' (h := fun J18 hJ18 => ?_)
    refine hJ18 _ _ ?_
    refine hK17 _ _ ?_
    refine run_ret ?_
    try simp only [Then, InBlock, NoGoto]
    refine answer_tmp rfl (.inr rfl) ?_
    exact gcr

end Go.Proofs.Ytdbaddholggkbaa

/-
  The same coins..
-/
namespace Go.Proofs.Ytdbaddholggkbaa
set_option linter.unnecessarySimpa false
set_option maxRecDepth 100000
open Go Go.Vm
set_option linter.unusedSimpArgs false
set_option linter.unusedVariables false

attribute [local simp] evalL wantedA isCall opA evalA evalAll evalsA evalOpt ofValue ofCell plain binA_eql_pn binA_neq_pn binA_gtr binA_lss binA_geq binA_leq binA_add binA_sub binA_eql binA_neq binA_orI binA_andI binA_shl binA_shr binA_mul binA_quo binA_rem binA_agg_eql binA_agg_neq convA_int unA_not fieldAddrA loadA partA pickA_true pickA_false pickA_bb lenA builtinA storeA splice AV.cells AV.isCell sliceA boundA intA callOf indexAddrA newObjA buildA fillA zeroA ofCells buildSliceA indexA fieldA numA_len4 numA_take4 numA_drop4 set_appN get_appN take_appN List.getElem?_cons_zero List.getElem?_cons_succ makeA zeros64

set_option maxHeartbeats 1600000 in
attribute [local simp] undefA List.getElem?_cons_zero List.getElem?_cons_succ in
theorem cequal_ok {σ : St} {a b : List Coin} {ta tb : Tail} (hla : a.length ≤ 9223372036854775807) (hlb : b.length ≤ 9223372036854775807) :
    CallsA Try.prog 131 [.sl 5 (coinsC a) a.length ta, .sl 5 (coinsC b) b.length tb] σ (fun av σ' => av = .v (.bool (decide (a = b))) ∧ σ = σ') := by
  have hcl : ∀ c, (coinC c).length = 5 := fun _ => rfl
  have hct : ∀ c R, List.take 5 (coinC c ++ R) = coinC c := fun _ _ => rfl
  have F := And.intro hcl (And.intro hct (True.intro))
  refine callsA_body Try.func131 rfl rfl rfl ?_
  refine sq fun K1 hK1 => ?_
  refine rg' (h := fun J2 hJ2 => ?_)
  refine hJ2 _ _ ?_
  refine hK1 _ _ ?_
  refine sq fun K3 hK3 => ?_
  refine sq fun K4 hK4 => ?_
  refine rg' (h := fun J5 hJ5 => ?_)
  refine hJ5 _ _ ?_
  refine hK4 _ _ ?_
  refine cs (fun c10 => ?_) (fun c10 => ?_)
  · try exact nope c10
    all_goals have c10p := c10
    all_goals try simp [F] at c10p
    all_goals
     replace F := And.intro c10 F
     try replace F := And.intro c10p F
     have hne : ¬ a = b := fun e => by subst e; simp at c10
     replace F := And.intro hne F
     refine sq fun K6 hK6 => ?_
     refine rg' (h := fun J7 hJ7 => ?_)
     refine hJ7 _ _ ?_
     refine hK6 _ _ ?_
     refine run_ret ?_
     try simp only [Then, InBlock, NoGoto]
     refine answer_tmp rfl (.inr rfl) ?_
     exact rt
  try exact nope c10
  all_goals have c10p := c10
  all_goals try simp [F] at c10p
  all_goals
   replace F := And.intro c10 F
   try replace F := And.intro c10p F
   refine run_skip ?_
   refine hK3 _ _ ?_
   refine sq fun K8 hK8 => ?_
   refine sq fun K9 hK9 => ?_
   have hlen : a.length = b.length := by have h := c10; simp at h; omega
   refine rg' (h := fun J10 hJ10 => ?_)
   refine hJ10 _ _ ?_
   refine hK9 _ _ ?_
   refine run_block_k ?_
   refine run_loopF (X := Nat) [0, 1, 12] (fun i ρ σ1 => (i ≤ a.length) ∧ (a.take i = b.take i) ∧ (ρ 13 = .v (.int .i64 i)) ∧ (σ1 = σ)) (fun i => a.length - i) (0) ?st1 ?rd1
   case st1 =>
    refine ⟨lp, ?_, lp, ?_⟩
    · rfl
    · rfl
   case rd1 =>
    rintro i ρ1 σ1 hF1 ⟨hi, hE, h13, hσ⟩
    obtain rfl := hσ.symm
    have f1 := keepL hF1
    try simp [KeepL, F] at f1
    replace F := And.intro h13 F
    try replace F := And.intro f1 F
    refine sq fun K11 hK11 => ?_
    refine rg' (h := fun J12 hJ12 => ?_)
    refine hJ12 _ _ ?_
    refine hK11 _ _ ?_
    refine sq fun K13 hK13 => ?_
    refine cs (fun c14 => ?_) (fun c14 => ?_)
    · try exact nope c14
      all_goals have c14p := c14
      all_goals try simp [F] at c14p
      all_goals
       replace F := And.intro c14 F
       try replace F := And.intro c14p F
       refine run_skip ?_
       refine hK13 _ _ ?_
       refine sq fun K14 hK14 => ?_
       refine run_block_k ?_
       refine sq fun K15 hK15 => ?_
       have hlt : i < a.length := by simp at c14; omega
       have hltb : i < b.length := by omega
       have hat := coinsC_at hlt
       have hatb := coinsC_at hltb
       have hb1 : i * 5 + 5 ≤ a.length * 5 := by omega
       have hb2 : i * 5 + 5 ≤ b.length * 5 := by omega
       obtain ⟨x, hx⟩ : ∃ x, x = a[i] := ⟨_, rfl⟩
       obtain ⟨y, hy⟩ : ∃ y, y = b[i] := ⟨_, rfl⟩
       rw [← hx] at hat
       rw [← hy] at hatb
       have hta : a.take (i + 1) = a.take i ++ [x] := by rw [hx]; exact (List.take_append_getElem hlt).symm
       have htb : b.take (i + 1) = b.take i ++ [y] := by rw [hy]; exact (List.take_append_getElem hltb).symm
       replace F := And.intro hlt F
       replace F := And.intro hltb F
       replace F := And.intro hat F
       replace F := And.intro hatb F
       replace F := And.intro hb1 F
       replace F := And.intro hb2 F
       refine rg' (h := fun J16 hJ16 => ?_)
       refine hJ16 _ _ ?_
       refine hK15 _ _ ?_
       refine sq fun K17 hK17 => ?_
       refine run_draw (by kernel_rfl) fun J18 hJ18 => ?_
       refine rp2 0 (k := ?_)
       refine rp2 1 (k := ?_)
       refine rp2 2 (k := ?_)
       refine rp2 3 (k := ?_)
       refine rp2 4 (k := ?_)
       refine rp2 5 (k := ?_)
       refine rp2 6 (k := ?_)
       refine rp2 7 (k := ?_)
       refine rp2 8 (k := ?_)
       refine dd ?_
       refine hJ18 _ _ ?_
       refine hK17 _ _ ?_
       refine cs (fun c24 => ?_) (fun c24 => ?_)
       · try exact nope c24
         all_goals have c24p := c24
         all_goals try simp [F] at c24p
         all_goals
          replace F := And.intro c24 F
          try replace F := And.intro c24p F
          have hne : ¬ a = b := fun e => by subst e; rw [← hx] at hy; subst hy; simp at c24
          replace F := And.intro hne F
          refine sq fun K19 hK19 => ?_
          refine rg' (h := fun J20 hJ20 => ?_)
          refine hJ20 _ _ ?_
          refine hK19 _ _ ?_
          refine run_ret ?_
          try simp only [Then, InBlock, NoGoto]
          refine answer_tmp rfl (.inr rfl) ?_
          exact rt
       try exact nope c24
       all_goals have c24p := c24
       all_goals try simp [F] at c24p
       all_goals
        replace F := And.intro c24 F
        try replace F := And.intro c24p F
        have hxy : x = y := by simpa using c24
        refine run_skip ?_
        refine hK14 _ _ ?_
        refine rg' (h := fun J21 hJ21 => ?_)
        refine hJ21 _ _ ?_
        refine ⟨(i + 1), ⟨kp, lp, ?_, lp, lp⟩, lp⟩
        · rw [hta, htb, hE, hxy]
    try exact nope c14
    all_goals have c14p := c14
    all_goals try simp [F] at c14p
    all_goals
     replace F := And.intro c14 F
     try replace F := And.intro c14p F
     have he : a = b := by have h := c14; simp at h; rw [List.take_of_length_le (by omega), List.take_of_length_le (by omega)] at hE; exact hE
     replace F := And.intro he F
     refine run_exit ?_
     refine hK8 _ _ ?_
     refine sq fun K22 hK22 => ?_
     refine rg' (h := fun J23 hJ23 => ?_)
     refine hJ23 _ _ ?_
     refine hK22 _ _ ?_
     refine run_ret ?_
     try simp only [Then, InBlock, NoGoto]
     refine answer_tmp rfl (.inr rfl) ?_
     exact rt

set_option maxHeartbeats 1600000 in
attribute [local simp] undefA List.getElem?_cons_zero List.getElem?_cons_succ in
theorem csame_ok {σ : St} {a b : List Coin} {ta tb : Tail} (hla : a.length ≤ 9223372036854775807) (hlb : b.length ≤ 9223372036854775807) :
    CallsA Try.prog 92 [.sl 5 (coinsC a) a.length ta, .sl 5 (coinsC b) b.length tb] σ (fun av σ' => av = .v (.bool (decide (a = b))) ∧ σ = σ') := by
  have F := True.intro
  refine callsA_body Try.func92 rfl rfl rfl ?_
  refine sq fun K1 hK1 => ?_
  refine rg' (h := fun J2 hJ2 => ?_)
  refine hJ2 _ _ ?_
  refine hK1 _ _ ?_
  refine sq fun K3 hK3 => ?_
  refine rg' (h := fun J4 hJ4 => ?_)
  refine ca (c := cequal_ok hla hlb) (k := ?_)
  rintro _ _ ⟨rfl, rfl⟩
  repeat (first | simp [F] | simp (disch := omega) only [wC, if_pos, if_neg])
  refine hJ4 _ _ ?_
  refine hK3 _ _ ?_
  refine run_ret ?_
  try simp only [Then, InBlock, NoGoto]
  refine answer_tmp rfl (.inr rfl) ?_
  exact rt

set_option maxHeartbeats 1600000 in
attribute [local simp] undefA List.getElem?_cons_zero List.getElem?_cons_succ in
theorem psome_ok {σ : St} {l : List Coin} {tl : Tail} (hl : l.length ≤ 9223372036854775807) :
    CallsA Try.prog 60 [.sl 5 (coinsC l) l.length tl] σ (fun av σ' => av = .v (.bool (decide (l ≠ [] ∧ Right l))) ∧ σ = σ') := by
  have h0 : 0 < l.length ↔ l ≠ [] := List.length_pos_iff
  have F := And.intro h0 (True.intro)
  refine callsA_body Try.func60 rfl rfl rfl ?_
  refine sq fun K1 hK1 => ?_
  refine rg' (h := fun J2 hJ2 => ?_)
  refine hJ2 _ _ ?_
  refine hK1 _ _ ?_
  refine sq fun K3 hK3 => ?_
  refine rg' (h := fun J4 hJ4 => ?_)
  refine gs 6 (fun g1_3 => ?_) (fun g1_3 => ?_)
  · try exact nope g1_3
    all_goals have g1_3p := g1_3
    all_goals try simp [F] at g1_3p
    all_goals
     replace F := And.intro g1_3 F
     try replace F := And.intro g1_3p F
     refine go2 (k := ?_)
     refine ca (c := right_ok hl) (k := ?_)
     rintro _ _ ⟨rfl, rfl⟩
     repeat (first | simp [F] | simp (disch := omega) only [wC, if_pos, if_neg])
     refine hJ4 _ _ ?_
     refine hK3 _ _ ?_
     refine run_ret ?_
     try simp only [Then, InBlock, NoGoto]
     refine answer_tmp rfl (.inr rfl) ?_
     exact rt
  try exact nope g1_3
  all_goals have g1_3p := g1_3
  all_goals try simp [F] at g1_3p
  all_goals
   replace F := And.intro g1_3 F
   try replace F := And.intro g1_3p F
   refine no2 (k := ?_)
   refine no2 (k := ?_)
   refine hJ4 _ _ ?_
   refine hK3 _ _ ?_
   refine run_ret ?_
   try simp only [Then, InBlock, NoGoto]
   refine answer_tmp rfl (.inr rfl) ?_
   exact rt

end Go.Proofs.Ytdbaddholggkbaa
