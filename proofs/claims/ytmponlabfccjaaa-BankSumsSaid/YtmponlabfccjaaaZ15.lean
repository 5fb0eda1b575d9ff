import Derived.Test.YtmponlabfccjaaaZ7
import Derived.Test.YtmponlabfccjaaaZ14
/-
  The document's coins: sums, rests.
-/
namespace Go.Proofs.Ytmponlabfccjaaa
set_option linter.unnecessarySimpa false
set_option maxRecDepth 100000
open Go Go.Vm
set_option linter.unusedSimpArgs false
set_option linter.unusedVariables false
attribute [local simp] evalL wantedA isCall opA evalA evalAll evalsA evalOpt ofValue ofCell plain binA_eql_pn binA_neq_pn binA_gtr binA_lss binA_geq binA_leq binA_add binA_sub binA_eql binA_neq binA_orI binA_andI binA_shl binA_shr binA_mul binA_quo binA_rem binA_agg_eql binA_agg_neq convA_int unA_not fieldAddrA loadA partA pickA_true pickA_false pickA_bb lenA builtinA storeA splice AV.cells AV.isCell sliceA boundA intA callOf indexAddrA newObjA buildA fillA zeroA ofCells buildSliceA indexA fieldA numA_len4 numA_take4 numA_drop4 set_appN get_appN take_appN List.getElem?_cons_zero List.getElem?_cons_succ makeA zeros64

theorem pur_len (g : Nat → Nat) : (purA (purF g)).length = 32 := by rw [purA_len]; simp
theorem pur_take (g : Nat → Nat) : (purA (purF g)).take 32 = purA (purF g) := List.take_of_length_le (by rw [pur_len]; decide)
theorem pur_drop (g : Nat → Nat) : (purA (purF g)).drop 32 = [] := List.drop_of_length_le (by rw [pur_len]; decide)
theorem pur_cell (g : Nat → Nat) : ∀ x ∈ purA (purF g), x.isCell = true := by simpa using purA_isCell (purF g)

theorem pur_all (g : Nat → Nat) : (∀ x, x ∈ purA (purF g) → x.isCell = true) = True := eq_true (pur_cell g)

set_option maxHeartbeats 1600000 in
attribute [local simp] undefA List.getElem?_cons_zero List.getElem?_cons_succ in
theorem rpof_ok {σ : St} {l : List Coin} {tl : Tail} (hl : Right l) :
    CallsA Try.prog 53 [.sl 5 (coinsC l) l.length tl] σ (fun av σ' => av = .agg (purA (purF (amt l))) ∧ σ = σ') := by
  refine callsA_gcS ?_ (by simp [AV.under, purA_under])
  have hl8 := right_len hl
  have hPl := pur_len
  have hPt := pur_take
  have hPd := pur_drop
  have hPc := pur_cell
  simp only [AV.isCell] at hPc
  have F := And.intro hPl (And.intro hPt (And.intro hPd (And.intro hPc (True.intro))))
  refine callsA_body Try.func53 rfl rfl rfl ?_; refine sr fun _ hJ2 => ?_; refine hJ2 _ _ ?_; refine sr fun _ hJ4 => ?_; refine hJ4 _ _ ?_; refine sq fun K5 hK5 => ?_; refine sr fun _ hJ7 => ?_; refine hJ7 _ _ ?_; refine run_block_k ?_; refine run_loopF (X := Nat) [0, 2, 3] (fun i ρ σ1 => (i ≤ l.length) ∧ (ρ 4 = .v (.int .i64 i)) ∧ (σ1 = { σ with objs := σ.objs ++ [purA (purF fun _ => 0), purA (purF (amt (l.take i)))] })) (fun i => l.length - i) (0) ?st1 ?rd1
  case st1 =>
   refine ⟨lp, lp, ?_⟩
   · simp only [List.take_zero, show amt [] = fun _ => 0 from rfl, purA_zero]
  case rd1 =>
   rintro i ρ1 σ1 hF1 ⟨hi, h4, hσ⟩; obtain rfl := hσ.symm
   have f1 := keepL hF1
   (try simp [KeepL, F] at f1); replace F := aF h4 F; (try replace F := aF f1 F); refine sq fun K8 hK8 => ?_; refine sr fun _ hJ10 => ?_; refine hJ10 _ _ ?_; refine cs (fun c8 => ?_) (fun c8 => ?_)
   · (try exact nope c8); all_goals have c8p := c8; try simp [F] at c8p
     all_goals
      replace F := aF c8 F; (try replace F := aF c8p F); refine run_skip ?_; refine hK8 _ _ ?_; refine sq fun K11 hK11 => ?_; refine run_block_k ?_
      have hlt : i < l.length := by simp at c8; omega
      have hat := coinsC_at hlt
      simp only [coinC] at hat
      have hb1 : i * 5 + 5 ≤ l.length * 5 := by omega
      obtain ⟨c, hc⟩ : ∃ c, c = l[i] := ⟨_, rfl⟩
      rw [← hc] at hat
      have htk : l.take (i + 1) = l.take i ++ [c] := by rw [hc]; exact (List.take_append_getElem hlt).symm
      have hR : Right (l.take i ++ [c]) := by rw [← htk]; exact right_take hl _
      have hd8 : c.d.toNat < 8 := (right_snoc.1 hR).2.1.1
      obtain ⟨d, hd⟩ : ∃ d, d = c.d.toNat := ⟨_, rfl⟩
      rw [← hd] at hat hd8
      have hd5 : (d : Int) < 8 := by omega
      have hb2 : d * 4 + 4 ≤ 32 := by omega
      obtain ⟨f, hf⟩ : ∃ f, f = amt (l.take i) := ⟨_, rfl⟩
      rw [← hf]
      have hset := purA_set (P := purF f) (d := d) (by simpa using hd8) c.n.v
      rw [purF_set] at hset
      have hnx : purF (fun j => if j = d then c.n.v else f j) = purF (amt (l.take (i + 1))) := purF_congr (fun j _ => by rw [htk, amt_snoc hR, ← hd, hf])
      rw [hnx] at hset
      replace F := aF hat F; replace F := aF hb1 F; replace F := aF hset F; replace F := aF hd8 F; replace F := aF hd5 F; replace F := aF hb2 F
      refine run_draw (by kernel_rfl) fun J12 hJ12 => ?_
      refine rp2 0 (k := ?_); refine rp2 1 (k := ?_); refine rp2 2 (k := ?_); refine rp2 3 (k := ?_); refine rp2 4 (k := ?_); refine rp2 5 (k := ?_); refine rp2 6 (k := ?_); refine rp2 7 (k := ?_); refine rp2 8 (k := ?_); refine rp2 9 (k := ?_); refine rp2 10 (k := ?_); refine dop 11 rfl ?_; (repeat (first | simp [F] | simp (disch := omega) only [wC, if_pos, if_neg])); refine ⟨ln, ?_⟩; refine dd ?_; refine hJ12 _ _ ?_; refine hK11 _ _ ?_; refine rg' (h := fun J13 hJ13 => ?_); refine hJ13 _ _ ?_; refine ⟨(i + 1), ⟨kp, lp, lp, lp⟩, lp⟩
   (try exact nope c8); all_goals have c8p := c8; try simp [F] at c8p
   all_goals
    replace F := aF c8 F; try replace F := aF c8p F
    have hend : l.take i = l := List.take_of_length_le (by simp at c8; omega)
    rw [hend]
    refine run_exit ?_; refine hK5 _ _ ?_; refine sr fun _ hJ15 => ?_; refine hJ15 _ _ ?_; refine run_ret ?_; (try simp only [Then, InBlock, NoGoto]); refine acell (h := ?_); exact gcr

theorem addF_next (fa fb : Nat → Nat) (d j : Nat) : (if j = d then fa d + fb d else if j < d then fa j + fb j else fa j) = if j < d + 1 then fa j + fb j else fa j := by
  by_cases h : j = d
  · subst h; simp
  · by_cases h2 : j < d
    · rw [if_neg h, if_pos h2, if_pos (by omega)]
    · rw [if_neg h, if_neg h2, if_neg (by omega)]

set_option maxHeartbeats 1600000 in
attribute [local simp] undefA List.getElem?_cons_zero List.getElem?_cons_succ in
theorem rpadd_ok {σ : St} {a b : List Coin} {ta tb : Tail} (ha : Right a) (hb : Right b) :
    CallsA Try.prog 30 [.sl 5 (coinsC a) a.length ta, .sl 5 (coinsC b) b.length tb] σ (fun av σ' => av = .tup [.sl 5 (coinsC (cAddL a b)) (cAddL a b).length .shut, .v (.bool (decide (cAddE a b = 0)))] ∧ σ = σ') := by
  refine callsA_gcS ?_ (by simp [AV.under, underL])
  have hPl := pur_len
  have hPt := pur_take
  have hPd := pur_drop
  have hPn : ∀ n g, noObjL n (purA (purF g)) = true := fun n g => purA_noObj n _
  have hPc := pur_all
  simp only [AV.isCell] at hPc
  obtain ⟨fa, hfa⟩ : ∃ fa, fa = amt a := ⟨_, rfl⟩
  obtain ⟨fb, hfb⟩ : ∃ fb, fb = amt b := ⟨_, rfl⟩
  obtain ⟨fs, hfs⟩ : ∃ fs : Nat → Nat → Nat, fs = fun d j => if j < d then fa j + fb j else fa j := ⟨_, rfl⟩
  have hfs0 : fs 0 = fa := by rw [hfs]; funext j; simp
  have hla : ∀ d, fa d < 2 ^ 256 := fun d => by rw [hfa]; exact amt_lt _ _
  have hlb : ∀ d, fb d < 2 ^ 256 := fun d => by rw [hfb]; exact amt_lt _ _
  have F := And.intro hPl (And.intro hPt (And.intro hPd (And.intro hPc (And.intro hPn (True.intro)))))
  refine callsA_body Try.func30 rfl rfl rfl ?_; refine sr fun _ hJ2 => ?_; refine hJ2 _ _ ?_; refine sr fun _ hJ4 => ?_; refine ca (c := (hfa ▸ rpof_ok ha)) (k := ?_); rintro _ _ ⟨rfl, rfl⟩; (repeat (first | simp [F] | simp (disch := omega) only [wC, if_pos, if_neg])); refine ca (c := (hfb ▸ rpof_ok hb)) (k := ?_); rintro _ _ ⟨rfl, rfl⟩; (repeat (first | simp [F] | simp (disch := omega) only [wC, if_pos, if_neg])); refine hJ4 _ _ ?_; refine sq fun K5 hK5 => ?_; refine sr fun _ hJ7 => ?_; refine hJ7 _ _ ?_; refine run_block_k ?_; refine run_loopG (X := Nat) [6, 7] (fun d ρ σ1 => (d ≤ 8) ∧ (∀ j, j < d → fa j + fb j < 2 ^ 256) ∧ (ρ 8 = .v (.int .i64 d)) ∧ (σ1 = { σ with objs := σ.objs ++ [purA (purF (fs d)), purA (purF fb)] })) (fun d => 8 - d) (0) ?st1 ?rd1
  case st1 =>
   refine ⟨lp, ?_, lp, ?_⟩
   · intro j hj
     exact absurd hj (Nat.not_lt_zero j)
   · rw [hfs0]
  case rd1 =>
   rintro d ρ1 σ1 hF1 ⟨hd, hE, h8, hσ⟩; obtain rfl := hσ.symm
   have f1 := keepL hF1
   (try simp [KeepL, F] at f1); replace F := aF h8 F; (try replace F := aF f1 F); refine sq fun K8 hK8 => ?_; refine sr fun _ hJ10 => ?_; refine hJ10 _ _ ?_; refine cs (fun c16 => ?_) (fun c16 => ?_)
   · (try exact nope c16); all_goals have c16p := c16; try simp [F] at c16p
     all_goals
      replace F := aF c16 F; (try replace F := aF c16p F); refine run_skip ?_; refine hK8 _ _ ?_; refine sq fun K11 hK11 => ?_; refine run_block_k ?_; refine sq fun K12 hK12 => ?_
      have hd8 : d < 8 := by simp at c16; omega
      have hd5 : (d : Int) < 8 := by omega
      have hb2 : d * 4 + 4 ≤ 32 := by omega
      have hata := purA_at (P := purF (fs d)) (d := d) (by simpa using hd8)
      rw [purF_get hd8] at hata
      have hatb := purA_at (P := purF fb) (d := d) (by simpa using hd8)
      rw [purF_get hd8] at hatb
      have hfd : fs d d = fa d := by rw [hfs]; simp
      rw [hfd] at hata
      have hset := purA_set (P := purF (fs d)) (d := d) (by simpa using hd8) (fa d + fb d)
      rw [purF_set] at hset
      have hnx : (fun j => if j = d then fa d + fb d else fs d j) = fs (d + 1) := by rw [hfs]; funext j; simp only; exact addF_next fa fb d j
      rw [hnx] at hset
      replace F := aF hata F; replace F := aF hatb F; replace F := aF hset F; replace F := aF hd8 F; replace F := aF hd5 F; replace F := aF hb2 F
      refine run_draw (by kernel_rfl) fun J13 hJ13 => ?_
      refine rp2 0 (k := ?_); refine rp2 1 (k := ?_); refine rp2 2 (k := ?_); refine rp2 3 (k := ?_); refine rp2 4 (k := ?_); refine rp2 5 (k := ?_); refine d2 6 10 ?_ ?_
      · refine ac 6 rfl (c := radd_ok (hla d) (hlb d)) (k := ?_); rintro _ _ ⟨rfl, rfl⟩
        refine ⟨by first | exact fun _ _ h => h | (refine later_list [4, 3, 1, 0] (by kernel_rfl) (List.forall_mem_cons.2 ⟨fun _ => fact2 rfl rfl ?_, List.forall_mem_cons.2 ⟨fun _ => fact2 rfl rfl ?_, List.forall_mem_cons.2 ⟨fun _ => fact2 rfl rfl ?_, List.forall_mem_cons.2 ⟨fun _ => fact2 rfl rfl ?_, fun _ h => absurd h List.not_mem_nil⟩⟩⟩⟩) <;> constructor <;> first | rfl | (simp [F]; done)), ?_⟩
        (repeat (first | simp [F] | simp (disch := omega) only [wC, if_pos, if_neg])); refine rp2 7 (k := ?_); refine rp2 8 (k := ?_); refine rp2 9 (k := ?_); refine dop 10 rfl ?_; repeat (first | simp [F] | simp (disch := omega) only [wC, if_pos, if_neg])
        refine ⟨by first | exact later_more _ (by kernel_rfl) | exact later_more2 (by kernel_rfl) rfl, ?_⟩
        refine dop 11 rfl ?_; repeat (first | simp [F] | simp (disch := omega) only [wC, if_pos, if_neg])
        refine ⟨later_tmp (by kernel_rfl), ?_⟩
        refine rp2 12 (k := ?_); refine dd ?_; refine hJ13 _ _ ?_; refine hK12 _ _ ?_; refine sq fun K14 hK14 => ?_; refine sr fun _ hJ16 => ?_; refine hJ16 _ _ ?_; refine cs (fun c30 => ?_) (fun c30 => ?_)
        · (try exact nope c30); all_goals have c30p := c30; try simp [F] at c30p
          all_goals
           replace F := aF c30 F; try replace F := aF c30p F
           have hs : ¬ fa d + fb d < 2 ^ 256 := by simpa using c30
           have he : ¬ cAddE a b = 0 := fun h => hs (by have := cAddE_zero.1 h d hd8; rw [hfa, hfb]; exact this)
           have hL := cAddL_no he
           replace F := aF hL (And.intro he F); refine sr fun _ hJ18 => ?_; refine hJ18 _ _ ?_; refine run_ret ?_; (try simp only [Then, InBlock, NoGoto]); refine answer_tmp2 rfl (.inr rfl) ?_
           rw [hL, decide_eq_false he]
           exact gcr (hA := WkL.tup (.cons (Wk.nil _ _ _) (.cons (Wk.refl _) .nil)))
        (try exact nope c30); all_goals have c30p := c30; try simp [F] at c30p
        all_goals
         replace F := aF c30 F; try replace F := aF c30p F
         have hs : fa d + fb d < 2 ^ 256 := by simpa using c30
         have hs2 : addN (fa d) (fb d) = fa d + fb d := if_pos hs
         replace F := aF hs2 F; refine run_skip ?_; refine hK14 _ _ ?_; refine rg' (h := fun J19 hJ19 => ?_); refine hJ19 _ _ ?_; refine hK11 _ _ ?_; refine rg' (h := fun J20 hJ20 => ?_); refine hJ20 _ _ ?_; refine ⟨gk, (d + 1), ⟨kpG, lpG, ?_, lpG, lpG⟩, lpG⟩
         · intro j hj
           rcases Nat.lt_or_ge j d with h | h
           · exact hE j h
           · obtain rfl : j = d := by omega
             exact hs
      · refine ao 10 rfl ?_; repeat (first | simp [F] | simp (disch := omega) only [wC, if_pos, if_neg])
        refine ⟨by first | exact later_more _ (by kernel_rfl) | exact later_more2 (by kernel_rfl) rfl, ?_⟩
        refine dc 6 rfl (c := radd_ok (hla d) (hlb d)) (k := ?_); rintro _ _ ⟨rfl, rfl⟩
        refine ⟨by first | exact fun _ _ h => h | (refine later_list [4, 3, 1, 0] (by kernel_rfl) (List.forall_mem_cons.2 ⟨fun _ => fact2 rfl rfl ?_, List.forall_mem_cons.2 ⟨fun _ => fact2 rfl rfl ?_, List.forall_mem_cons.2 ⟨fun _ => fact2 rfl rfl ?_, List.forall_mem_cons.2 ⟨fun _ => fact2 rfl rfl ?_, fun _ h => absurd h List.not_mem_nil⟩⟩⟩⟩) <;> constructor <;> first | rfl | (simp [F]; done)), ?_⟩
        (repeat (first | simp [F] | simp (disch := omega) only [wC, if_pos, if_neg])); refine rp2 7 (k := ?_); refine rp2 8 (k := ?_); refine rp2 9 (k := ?_); refine dop 11 rfl ?_; repeat (first | simp [F] | simp (disch := omega) only [wC, if_pos, if_neg])
        refine ⟨later_tmp (by kernel_rfl), ?_⟩
        refine rp2 12 (k := ?_); refine dd ?_; refine hJ13 _ _ ?_; refine hK12 _ _ ?_; refine sq fun K21 hK21 => ?_; refine sr fun _ hJ23 => ?_; refine hJ23 _ _ ?_; refine cs (fun c30 => ?_) (fun c30 => ?_)
        · (try exact nope c30); all_goals have c30p := c30; try simp [F] at c30p
          all_goals
           replace F := aF c30 F; try replace F := aF c30p F
           have hs : ¬ fa d + fb d < 2 ^ 256 := by simpa using c30
           have he : ¬ cAddE a b = 0 := fun h => hs (by have := cAddE_zero.1 h d hd8; rw [hfa, hfb]; exact this)
           have hL := cAddL_no he
           replace F := aF hL (And.intro he F); refine sr fun _ hJ25 => ?_; refine hJ25 _ _ ?_; refine run_ret ?_; (try simp only [Then, InBlock, NoGoto]); refine answer_tmp2 rfl (.inr rfl) ?_
           rw [hL, decide_eq_false he]
           exact gcr (hA := WkL.tup (.cons (Wk.nil _ _ _) (.cons (Wk.refl _) .nil)))
        (try exact nope c30); all_goals have c30p := c30; try simp [F] at c30p
        all_goals
         replace F := aF c30 F; try replace F := aF c30p F
         have hs : fa d + fb d < 2 ^ 256 := by simpa using c30
         have hs2 : addN (fa d) (fb d) = fa d + fb d := if_pos hs
         replace F := aF hs2 F; refine run_skip ?_; refine hK21 _ _ ?_; refine rg' (h := fun J26 hJ26 => ?_); refine hJ26 _ _ ?_; refine hK11 _ _ ?_; refine rg' (h := fun J27 hJ27 => ?_); refine hJ27 _ _ ?_; refine ⟨gk, (d + 1), ⟨kpG, lpG, ?_, lpG, lpG⟩, lpG⟩
         · intro j hj
           rcases Nat.lt_or_ge j d with h | h
           · exact hE j h
           · obtain rfl : j = d := by omega
             exact hs
   (try exact nope c16); all_goals have c16p := c16; try simp [F] at c16p
   all_goals
    replace F := aF c16 F; try replace F := aF c16p F
    obtain rfl : d = 8 := by simp at c16; omega
    have he : cAddE a b = 0 := cAddE_zero.2 (fun d hd => by have := hE d hd; rw [hfa, hfb] at this; exact this)
    have hL : lstF (fs 8) 8 = cAddL a b := by rw [cAddL_yes he, hfs, hfa, hfb]; exact lstF_congr (fun i hi => by simp [hi])
    have hf8 : ∀ d, d < 8 → fs 8 d < 2 ^ 256 := fun d hd => by rw [hfs]; simp only [if_pos hd]; exact hE d hd
    replace F := aF he F; refine run_exit ?_; refine hK5 _ _ ?_; refine sr fun _ hJ29 => ?_; refine ca (c := (hL ▸ rlist_ok hf8)) (k := ?_); rintro _ _ ⟨rfl, rfl⟩; (repeat (first | simp [F] | simp (disch := omega) only [wC, if_pos, if_neg])); refine hJ29 _ _ ?_; refine run_ret ?_; (try simp only [Then, InBlock, NoGoto]); refine answer_tmp2 rfl (.inr rfl) ?_; exact gcr

theorem restF_next (fa fb : Nat → Nat) (d j : Nat) : (if j = d then fa d - fb d else if j < d then fa j - fb j else fa j) = if j < d + 1 then fa j - fb j else fa j := by
  by_cases h : j = d
  · subst h; simp
  · by_cases h2 : j < d
    · rw [if_neg h, if_pos h2, if_pos (by omega)]
    · rw [if_neg h, if_neg h2, if_neg (by omega)]

set_option maxHeartbeats 1600000 in
attribute [local simp] undefA List.getElem?_cons_zero List.getElem?_cons_succ in
theorem rprest_ok {σ : St} {a b : List Coin} {ta tb : Tail} (ha : Right a) (hb : Right b) :
    CallsA Try.prog 85 [.sl 5 (coinsC a) a.length ta, .sl 5 (coinsC b) b.length tb] σ (fun av σ' => av = .sl 5 (coinsC (cRest a b)) (cRest a b).length .shut ∧ σ = σ') := by
  refine callsA_gcS ?_ (by simp [AV.under, underL])
  have hPl := pur_len
  have hPt := pur_take
  have hPd := pur_drop
  have hPn : ∀ n g, noObjL n (purA (purF g)) = true := fun n g => purA_noObj n _
  have hPc := pur_all
  simp only [AV.isCell] at hPc
  obtain ⟨fa, hfa⟩ : ∃ fa, fa = amt a := ⟨_, rfl⟩
  obtain ⟨fb, hfb⟩ : ∃ fb, fb = amt b := ⟨_, rfl⟩
  have hla : ∀ d, fa d < 2 ^ 256 := fun d => by rw [hfa]; exact amt_lt _ _
  have hlb : ∀ d, fb d < 2 ^ 256 := fun d => by rw [hfb]; exact amt_lt _ _
  obtain ⟨fs, hfs⟩ : ∃ fs : Nat → Nat → Nat, fs = fun d j => if j < d then fa j - fb j else fa j := ⟨_, rfl⟩
  have hfs0 : fs 0 = fa := by rw [hfs]; funext j; simp
  have F := And.intro hPl (And.intro hPt (And.intro hPd (And.intro hPc (And.intro hPn (True.intro)))))
  refine callsA_body Try.func85 rfl rfl rfl ?_; refine sr fun _ hJ2 => ?_; refine hJ2 _ _ ?_; refine sr fun _ hJ4 => ?_; refine ca (c := (hfa ▸ rpof_ok ha)) (k := ?_); rintro _ _ ⟨rfl, rfl⟩; (repeat (first | simp [F] | simp (disch := omega) only [wC, if_pos, if_neg])); refine ca (c := (hfb ▸ rpof_ok hb)) (k := ?_); rintro _ _ ⟨rfl, rfl⟩; (repeat (first | simp [F] | simp (disch := omega) only [wC, if_pos, if_neg])); refine hJ4 _ _ ?_; refine sq fun K5 hK5 => ?_; refine sr fun _ hJ7 => ?_; refine hJ7 _ _ ?_; refine run_block_k ?_; refine run_loopF (X := Nat) [4, 5, 6] (fun d ρ σ1 => (d ≤ 8) ∧ (ρ 7 = .v (.int .i64 d)) ∧ (σ1 = { σ with objs := σ.objs ++ [purA (purF (fs d)), purA (purF fb)] })) (fun d => 8 - d) (0) ?st1 ?rd1
  case st1 =>
   refine ⟨lp, lp, ?_⟩
   · rw [hfs0]
  case rd1 =>
   rintro d ρ1 σ1 hF1 ⟨hd, h8, hσ⟩; obtain rfl := hσ.symm
   have f1 := keepL hF1
   (try simp [KeepL, F] at f1); replace F := aF h8 F; (try replace F := aF f1 F); refine sq fun K8 hK8 => ?_; refine sr fun _ hJ10 => ?_; refine hJ10 _ _ ?_; refine cs (fun c13 => ?_) (fun c13 => ?_)
   · (try exact nope c13); all_goals have c13p := c13; try simp [F] at c13p
     all_goals
      replace F := aF c13 F; (try replace F := aF c13p F); refine run_skip ?_; refine hK8 _ _ ?_; refine sq fun K11 hK11 => ?_; refine run_block_k ?_
      have hd8 : d < 8 := by simp at c13; omega
      have hd5 : (d : Int) < 8 := by omega
      have hb2 : d * 4 + 4 ≤ 32 := by omega
      have hata := purA_at (P := purF (fs d)) (d := d) (by simpa using hd8)
      rw [purF_get hd8] at hata
      have hatb := purA_at (P := purF fb) (d := d) (by simpa using hd8)
      rw [purF_get hd8] at hatb
      have hfd : fs d d = fa d := by rw [hfs]; simp
      rw [hfd] at hata
      have hset := purA_set (P := purF (fs d)) (d := d) (by simpa using hd8) (fa d - fb d)
      rw [purF_set] at hset
      have hnx : (fun j => if j = d then fa d - fb d else fs d j) = fs (d + 1) := by rw [hfs]; funext j; simp only; exact restF_next fa fb d j
      rw [hnx] at hset
      replace F := aF hata F; replace F := aF hatb F; replace F := aF hset F; replace F := aF hd8 F; replace F := aF hd5 F; replace F := aF hb2 F
      refine run_draw (by kernel_rfl) fun J12 hJ12 => ?_
      refine rp2 0 (k := ?_); refine rp2 1 (k := ?_); refine rp2 2 (k := ?_); refine rp2 3 (k := ?_); refine rp2 4 (k := ?_); refine rp2 5 (k := ?_); refine rp2 6 (k := ?_); refine dc 7 rfl (c := rrest_ok (hla d) (hlb d)) (k := ?_); rintro _ _ ⟨rfl, rfl⟩
      refine ⟨by first | exact fun _ _ h => h | (refine later_list [5, 4, 2, 1, 0] (by kernel_rfl) (List.forall_mem_cons.2 ⟨fun _ => fact2 rfl rfl ?_, List.forall_mem_cons.2 ⟨fun _ => fact2 rfl rfl ?_, List.forall_mem_cons.2 ⟨fun _ => fact2 rfl rfl ?_, List.forall_mem_cons.2 ⟨fun _ => fact2 rfl rfl ?_, List.forall_mem_cons.2 ⟨fun _ => fact2 rfl rfl ?_, fun _ h => absurd h List.not_mem_nil⟩⟩⟩⟩⟩) <;> constructor <;> first | rfl | (simp [F]; done)), ?_⟩
      (repeat (first | simp [F] | simp (disch := omega) only [wC, if_pos, if_neg])); refine rp2 8 (k := ?_); refine dop 9 rfl ?_; (repeat (first | simp [F] | simp (disch := omega) only [wC, if_pos, if_neg])); refine ⟨ln, ?_⟩; refine dd ?_; refine hJ12 _ _ ?_; refine hK11 _ _ ?_; refine rg' (h := fun J13 hJ13 => ?_); refine hJ13 _ _ ?_; refine ⟨(d + 1), ⟨kp, lp, lp, lp⟩, lp⟩
   (try exact nope c13); all_goals have c13p := c13; try simp [F] at c13p
   all_goals
    replace F := aF c13 F; try replace F := aF c13p F
    obtain rfl : d = 8 := by simp at c13; omega
    have hL : lstF (fs 8) 8 = cRest a b := by rw [cRest_eq, hfs, hfa, hfb]; exact lstF_congr (fun i hi => by simp [hi])
    have hf8 : ∀ d, d < 8 → fs 8 d < 2 ^ 256 := fun d hd => by rw [hfs]; simp only [if_pos hd]; exact Nat.lt_of_le_of_lt (Nat.sub_le _ _) (hla d)
    refine run_exit ?_; refine hK5 _ _ ?_; refine sr fun _ hJ15 => ?_; refine ca (c := (hL ▸ rlist_ok hf8)) (k := ?_); rintro _ _ ⟨rfl, rfl⟩; (repeat (first | simp [F] | simp (disch := omega) only [wC, if_pos, if_neg])); refine hJ15 _ _ ?_; refine ra ?_; exact gcr

def cWith (a b : List Coin) : Prop := ∀ d, d < 8 → amt a d ≤ amt b d
instance (a b : List Coin) : Decidable (cWith a b) := inferInstanceAs (Decidable (∀ d, d < 8 → amt a d ≤ amt b d))

set_option maxHeartbeats 1600000 in
attribute [local simp] undefA List.getElem?_cons_zero List.getElem?_cons_succ in
theorem rpwith_ok {σ : St} {a b : List Coin} {ta tb : Tail} (ha : Right a) (hb : Right b) :
    CallsA Try.prog 83 [.sl 5 (coinsC a) a.length ta, .sl 5 (coinsC b) b.length tb] σ (fun av σ' => av = .v (.bool (decide (cWith a b))) ∧ σ = σ') := by
  refine callsA_gcS ?_ rfl
  have hPl := pur_len
  have hPt := pur_take
  have hPd := pur_drop
  have hPn : ∀ n g, noObjL n (purA (purF g)) = true := fun n g => purA_noObj n _
  have hPc := pur_all
  simp only [AV.isCell] at hPc
  obtain ⟨fa, hfa⟩ : ∃ fa, fa = amt a := ⟨_, rfl⟩
  obtain ⟨fb, hfb⟩ : ∃ fb, fb = amt b := ⟨_, rfl⟩
  have hla : ∀ d, fa d < 2 ^ 256 := fun d => by rw [hfa]; exact amt_lt _ _
  have hlb : ∀ d, fb d < 2 ^ 256 := fun d => by rw [hfb]; exact amt_lt _ _
  have F := And.intro hPl (And.intro hPt (And.intro hPd (And.intro hPc (And.intro hPn (True.intro)))))
  refine callsA_body Try.func83 rfl rfl rfl ?_; refine sr fun _ hJ2 => ?_; refine hJ2 _ _ ?_; refine sr fun _ hJ4 => ?_; refine ca (c := (hfa ▸ rpof_ok ha)) (k := ?_); rintro _ _ ⟨rfl, rfl⟩; (repeat (first | simp [F] | simp (disch := omega) only [wC, if_pos, if_neg])); refine ca (c := (hfb ▸ rpof_ok hb)) (k := ?_); rintro _ _ ⟨rfl, rfl⟩; (repeat (first | simp [F] | simp (disch := omega) only [wC, if_pos, if_neg])); refine hJ4 _ _ ?_; refine sq fun K5 hK5 => ?_; refine sr fun _ hJ7 => ?_; refine hJ7 _ _ ?_; refine run_block_k ?_; refine run_loopF (X := Nat) [5, 6] (fun d ρ σ1 => (d ≤ 8) ∧ (∀ j, j < d → fa j ≤ fb j) ∧ (ρ 7 = .v (.int .i64 d)) ∧ (σ1 = { σ with objs := σ.objs ++ [purA (purF fa), purA (purF fb)] })) (fun d => 8 - d) (0) ?st1 ?rd1
  case st1 =>
   refine ⟨lp, ?_, lp, ?_⟩
   · intro j hj
     exact absurd hj (Nat.not_lt_zero j)
   · rfl
  case rd1 =>
   rintro d ρ1 σ1 hF1 ⟨hd, hE, h8, hσ⟩; obtain rfl := hσ.symm
   have f1 := keepL hF1
   (try simp [KeepL, F] at f1); replace F := aF h8 F; (try replace F := aF f1 F); refine sq fun K8 hK8 => ?_; refine sr fun _ hJ10 => ?_; refine hJ10 _ _ ?_; refine cs (fun c13 => ?_) (fun c13 => ?_)
   · (try exact nope c13); all_goals have c13p := c13; try simp [F] at c13p
     all_goals
      replace F := aF c13 F; (try replace F := aF c13p F); refine run_skip ?_; refine hK8 _ _ ?_; refine sq fun K11 hK11 => ?_; refine run_block_k ?_; refine sq fun K12 hK12 => ?_
      have hd8 : d < 8 := by simp at c13; omega
      have hd5 : (d : Int) < 8 := by omega
      have hb2 : d * 4 + 4 ≤ 32 := by omega
      have hata := purA_at (P := purF fa) (d := d) (by simpa using hd8)
      rw [purF_get hd8] at hata
      have hatb := purA_at (P := purF fb) (d := d) (by simpa using hd8)
      rw [purF_get hd8] at hatb
      replace F := aF hata F; replace F := aF hatb F; replace F := aF hd8 F; replace F := aF hd5 F; replace F := aF hb2 F
      refine run_draw (by kernel_rfl) fun J13 hJ13 => ?_
      refine rp2 0 (k := ?_); refine rp2 1 (k := ?_); refine rp2 2 (k := ?_); refine rp2 3 (k := ?_); refine rp2 4 (k := ?_); refine rp2 5 (k := ?_); refine dc 6 rfl (c := rcmp_ok (hla d) (hlb d)) (k := ?_); rintro _ _ ⟨rfl, rfl⟩
      refine ⟨by first | exact fun _ _ h => h | (refine later_list [4, 3, 1, 0] (by kernel_rfl) (List.forall_mem_cons.2 ⟨fun _ => fact2 rfl rfl ?_, List.forall_mem_cons.2 ⟨fun _ => fact2 rfl rfl ?_, List.forall_mem_cons.2 ⟨fun _ => fact2 rfl rfl ?_, List.forall_mem_cons.2 ⟨fun _ => fact2 rfl rfl ?_, fun _ h => absurd h List.not_mem_nil⟩⟩⟩⟩) <;> constructor <;> first | rfl | (simp [F]; done)), ?_⟩
      (repeat (first | simp [F] | simp (disch := omega) only [wC, if_pos, if_neg])); refine rp2 7 (k := ?_); refine dd ?_; refine hJ13 _ _ ?_; refine hK12 _ _ ?_; refine cs (fun c23 => ?_) (fun c23 => ?_)
      · (try exact nope c23); all_goals have c23p := c23; try simp [F] at c23p
        all_goals
         replace F := aF c23 F; try replace F := aF c23p F
         have hs : ¬ fa d ≤ fb d := by have h := c23; simp [cmpI] at h; split at h <;> (try split at h) <;> first | omega | (simp at h)
         have he : ¬ cWith a b := fun h => hs (by have := h d hd8; rw [hfa, hfb]; exact this)
         replace F := aF he F; refine sr fun _ hJ15 => ?_; refine hJ15 _ _ ?_; refine ra ?_
         rw [decide_eq_false he]
         exact gcr
      (try exact nope c23); all_goals have c23p := c23; try simp [F] at c23p
      all_goals
       replace F := aF c23 F; try replace F := aF c23p F
       have hs : fa d ≤ fb d := by have h := c23; simp [cmpI] at h; split at h <;> (try split at h) <;> first | omega | (simp at h)
       refine run_skip ?_; refine hK11 _ _ ?_; refine rg' (h := fun J16 hJ16 => ?_); refine hJ16 _ _ ?_; refine ⟨(d + 1), ⟨kp, lp, ?_, lp, lp⟩, lp⟩
       · intro j hj
         rcases Nat.lt_or_ge j d with h | h
         · exact hE j h
         · obtain rfl : j = d := by omega
           exact hs
   (try exact nope c13); all_goals have c13p := c13; try simp [F] at c13p
   all_goals
    replace F := aF c13 F; try replace F := aF c13p F
    obtain rfl : d = 8 := by simp at c13; omega
    have he : cWith a b := fun d hd => by have := hE d hd; rw [hfa, hfb] at this; exact this
    replace F := aF he F; refine run_exit ?_; refine hK5 _ _ ?_; refine sr fun _ hJ18 => ?_; refine hJ18 _ _ ?_; refine ra ?_; exact gcr
end Go.Proofs.Ytmponlabfccjaaa
