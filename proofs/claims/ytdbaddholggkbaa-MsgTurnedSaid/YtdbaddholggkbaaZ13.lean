import Derived.Test.YtdbaddholggkbaaZ7
import Derived.Test.YtdbaddholggkbaaZ12
import Derived.Test.YtdbaddholggkbaaZ10
/-
  What a kind has; are two messages alike..
-/
namespace Go.Proofs.Ytdbaddholggkbaa
set_option linter.unnecessarySimpa false
set_option maxRecDepth 100000
open Go Go.Vm
set_option linter.unusedSimpArgs false
set_option linter.unusedVariables false
attribute [local simp] evalL wantedA isCall opA evalA evalAll evalsA evalOpt ofValue ofCell plain binA_eql_pn binA_neq_pn binA_gtr binA_lss binA_geq binA_leq binA_add binA_sub binA_eql binA_neq binA_orI binA_andI binA_shl binA_shr binA_mul binA_quo binA_rem binA_agg_eql binA_agg_neq convA_int unA_not fieldAddrA loadA partA pickA_true pickA_false pickA_bb lenA builtinA storeA splice AV.cells AV.isCell sliceA boundA intA callOf indexAddrA newObjA buildA fillA zeroA ofCells buildSliceA indexA fieldA numA_len4 numA_take4 numA_drop4 set_appN get_appN take_appN List.getElem?_cons_zero List.getElem?_cons_succ makeA zeros64

set_option maxHeartbeats 1600000 in
attribute [local simp] undefA List.getElem?_cons_zero List.getElem?_cons_succ in
theorem has_ok {σ : St} {k : UInt8} :
    CallsA Try.prog 95 [.v (.int .u8 k.toNat)] σ (fun av σ' => av = .tup [.v (.int .i64 (hasN k : Nat)), .v (.bool (hasK k))] ∧ σ = σ') := by
  obtain ⟨h, hh⟩ : ∃ h, h = hasN k := ⟨_, rfl⟩
  have hK : hasK k = decide (h ≠ 0) := by rw [hh]; rfl
  rw [← hh, hK]
  have hkn : ∀ n : UInt8, k = n ↔ (k.toNat : Int) = (n.toNat : Int) := fun n => ⟨fun e => by rw [e], fun e => UInt8.toNat_inj.1 (Int.ofNat_inj.1 e)⟩
  obtain ⟨B9, hB9⟩ : ∃ b, b = (decide (k = 3) || decide (k = 4)) := ⟨_, rfl⟩
  obtain ⟨B14, hB14⟩ : ∃ b, b = (decide (k = 6) || decide (k = 7) || decide (k = 11)) := ⟨_, rfl⟩
  obtain ⟨B18, hB18⟩ : ∃ b, b = (decide (k = 8) || decide (k = 10)) := ⟨_, rfl⟩
  have F := True.intro
  refine callsA_body Try.func95 rfl rfl rfl ?_; refine sr fun _ hJ2 => ?_; refine hJ2 _ _ ?_; refine sq fun K3 hK3 => ?_; refine sr fun _ hJ5 => ?_; refine hJ5 _ _ ?_; refine run_block_k ?_; refine sr fun _ hJ7 => ?_; refine hJ7 _ _ ?_; refine cs (fun c5 => ?_) (fun c5 => ?_)
  · try exact nope c5
    all_goals
     replace F := wf F c5; refine sr fun _ hJ9 => ?_; refine hJ9 _ _ ?_; refine run_ret ?_; (try simp only [Then, InBlock, NoGoto]); refine answer_tmp2 rfl (.inr rfl) ?_
     have hk : k = 1 := (hkn 1).2 (by simpa using c5)
     have hv : h = 17 := by rw [hh]; rw [hk]; decide
     subst hv
     exact ⟨by simp [F], rfl⟩
  try exact nope c5
  all_goals
   replace F := wf F c5; refine sr fun _ hJ11 => ?_; refine hJ11 _ _ ?_; refine cs (fun c7 => ?_) (fun c7 => ?_)
   · try exact nope c7
     all_goals
      replace F := wf F c7; refine sr fun _ hJ13 => ?_; refine hJ13 _ _ ?_; refine run_ret ?_; (try simp only [Then, InBlock, NoGoto]); refine answer_tmp2 rfl (.inr rfl) ?_
      have hk : k = 2 := (hkn 2).2 (by simpa using c7)
      have hv : h = 32 := by rw [hh]; rw [hk]; decide
      subst hv
      exact ⟨by simp [F], rfl⟩
   try exact nope c7
   all_goals
    replace F := wf F c7; refine sqc (X := Unit) [2, 3, 4] (fun z ρ σ1 => (ρ 9 = .v (.bool B9)) ∧ (σ1 = σ)) ?cy14 ?cx14
    case cy14 =>
     rintro z ρCc9 σ1 hFCc9 ⟨h9, hσ⟩; obtain rfl := hσ.symm
     have fCc9 := keepL hFCc9
     (try simp [KeepL, F] at fCc9); replace F := aF h9 F; (try replace F := aF fCc9 F); refine cs (t := B9) (fun c9 => ?_) (fun c9 => ?_)
     · try exact nope c9
       all_goals
        replace F := wf F c9; refine sr fun _ hJ16 => ?_; refine hJ16 _ _ ?_; refine run_ret ?_; (try simp only [Then, InBlock, NoGoto]); refine answer_tmp2 rfl (.inr rfl) ?_
        have hk : k = 3 ∨ k = 4 := by rw [hB9] at c9; simpa using c9
        have hv : h = 10 := by rw [hh]; rcases hk with e | e <;> (rw [e]; decide)
        subst hv
        exact ⟨by simp [F], rfl⟩
     try exact nope c9
     all_goals
      replace F := wf F c9; refine sr fun _ hJ18 => ?_; refine hJ18 _ _ ?_; refine cs (fun c12 => ?_) (fun c12 => ?_)
      · try exact nope c12
        all_goals
         replace F := wf F c12; refine sr fun _ hJ20 => ?_; refine hJ20 _ _ ?_; refine run_ret ?_; (try simp only [Then, InBlock, NoGoto]); refine answer_tmp2 rfl (.inr rfl) ?_
         have hk : k = 5 := (hkn 5).2 (by simpa using c12)
         have hv : h = 14 := by rw [hh]; rw [hk]; decide
         subst hv
         exact ⟨by simp [F], rfl⟩
      try exact nope c12
      all_goals
       replace F := wf F c12; refine sqc (X := Unit) [2, 3, 4] (fun z ρ σ1 => (ρ 14 = .v (.bool B14)) ∧ (σ1 = σ)) ?cy21 ?cx21
       case cy21 =>
        rintro z ρCc14 σ1 hFCc14 ⟨h14, hσ⟩; obtain rfl := hσ.symm
        have fCc14 := keepL hFCc14
        (try simp [KeepL, F] at fCc14); replace F := aF h14 F; (try replace F := aF fCc14 F); refine cs (t := B14) (fun c14 => ?_) (fun c14 => ?_)
        · try exact nope c14
          all_goals
           replace F := wf F c14; refine sr fun _ hJ23 => ?_; refine hJ23 _ _ ?_; refine run_ret ?_; (try simp only [Then, InBlock, NoGoto]); refine answer_tmp2 rfl (.inr rfl) ?_
           have hk : (k = 6 ∨ k = 7) ∨ k = 11 := by rw [hB14] at c14; simpa using c14
           have hv : h = 2 := by rw [hh]; rcases hk with (e | e) | e <;> (rw [e]; decide)
           subst hv
           exact ⟨by simp [F], rfl⟩
        try exact nope c14
        all_goals
         replace F := wf F c14; refine sqc (X := Unit) [2, 3, 4] (fun z ρ σ1 => (ρ 18 = .v (.bool B18)) ∧ (σ1 = σ)) ?cy24 ?cx24
         case cy24 =>
          rintro z ρCc18 σ1 hFCc18 ⟨h18, hσ⟩; obtain rfl := hσ.symm
          have fCc18 := keepL hFCc18
          (try simp [KeepL, F] at fCc18); replace F := aF h18 F; (try replace F := aF fCc18 F); refine cs (t := B18) (fun c18 => ?_) (fun c18 => ?_)
          · try exact nope c18
            all_goals
             replace F := wf F c18; refine sr fun _ hJ26 => ?_; refine hJ26 _ _ ?_; refine run_ret ?_; (try simp only [Then, InBlock, NoGoto]); refine answer_tmp2 rfl (.inr rfl) ?_
             have hk : k = 8 ∨ k = 10 := by rw [hB18] at c18; simpa using c18
             have hv : h = 1 := by rw [hh]; rcases hk with e | e <;> (rw [e]; decide)
             subst hv
             exact ⟨by simp [F], rfl⟩
          try exact nope c18
          all_goals
           replace F := wf F c18; refine sr fun _ hJ28 => ?_; refine hJ28 _ _ ?_; refine cs (fun c21 => ?_) (fun c21 => ?_)
           · try exact nope c21
             all_goals
              replace F := wf F c21; refine sr fun _ hJ30 => ?_; refine hJ30 _ _ ?_; refine run_ret ?_; (try simp only [Then, InBlock, NoGoto]); refine answer_tmp2 rfl (.inr rfl) ?_
              have hk : k = 9 := (hkn 9).2 (by simpa using c21)
              have hv : h = 65 := by rw [hh]; rw [hk]; decide
              subst hv
              exact ⟨by simp [F], rfl⟩
           try exact nope c21
           all_goals
            replace F := wf F c21; refine sr fun _ hJ32 => ?_; refine hJ32 _ _ ?_; refine cs (fun c23 => ?_) (fun c23 => ?_)
            · try exact nope c23
              all_goals
               replace F := wf F c23; refine sr fun _ hJ34 => ?_; refine hJ34 _ _ ?_; refine run_ret ?_; (try simp only [Then, InBlock, NoGoto]); refine answer_tmp2 rfl (.inr rfl) ?_
               have hk : k = 32 := (hkn 32).2 (by simpa using c23)
               have hv : h = 1152 := by rw [hh]; rw [hk]; decide
               subst hv
               exact ⟨by simp [F], rfl⟩
            try exact nope c23
            all_goals
             replace F := wf F c23; refine sr fun _ hJ36 => ?_; refine hJ36 _ _ ?_; refine cs (fun c25 => ?_) (fun c25 => ?_)
             · try exact nope c25
               all_goals
                replace F := wf F c25; refine sr fun _ hJ38 => ?_; refine hJ38 _ _ ?_; refine run_ret ?_; (try simp only [Then, InBlock, NoGoto]); refine answer_tmp2 rfl (.inr rfl) ?_
                have hk : k = 33 := (hkn 33).2 (by simpa using c25)
                have hv : h = 1922 := by rw [hh]; rw [hk]; decide
                subst hv
                exact ⟨by simp [F], rfl⟩
             try exact nope c25
             all_goals
              replace F := wf F c25; refine sr fun _ hJ40 => ?_; refine hJ40 _ _ ?_; refine cs (fun c27 => ?_) (fun c27 => ?_)
              · try exact nope c27
                all_goals
                 replace F := wf F c27; refine sr fun _ hJ42 => ?_; refine hJ42 _ _ ?_; refine run_ret ?_; (try simp only [Then, InBlock, NoGoto]); refine answer_tmp2 rfl (.inr rfl) ?_
                 have hk : k = 34 := (hkn 34).2 (by simpa using c27)
                 have hv : h = 1042 := by rw [hh]; rw [hk]; decide
                 subst hv
                 exact ⟨by simp [F], rfl⟩
              try exact nope c27
              all_goals
               replace F := wf F c27; refine sr fun _ hJ44 => ?_; refine hJ44 _ _ ?_; refine cs (fun c29 => ?_) (fun c29 => ?_)
               · try exact nope c29
                 all_goals
                  replace F := wf F c29; refine sr fun _ hJ46 => ?_; refine hJ46 _ _ ?_; refine run_ret ?_; (try simp only [Then, InBlock, NoGoto]); refine answer_tmp2 rfl (.inr rfl) ?_
                  have hk : k = 35 := (hkn 35).2 (by simpa using c29)
                  have hv : h = 1026 := by rw [hh]; rw [hk]; decide
                  subst hv
                  exact ⟨by simp [F], rfl⟩
               try exact nope c29
               all_goals
                replace F := wf F c29; refine sr fun _ hJ48 => ?_; refine hJ48 _ _ ?_; refine cs (fun c31 => ?_) (fun c31 => ?_)
                · try exact nope c31
                  all_goals
                   replace F := wf F c31; refine sr fun _ hJ50 => ?_; refine hJ50 _ _ ?_; refine run_ret ?_; (try simp only [Then, InBlock, NoGoto]); refine answer_tmp2 rfl (.inr rfl) ?_
                   have hk : k = 36 := (hkn 36).2 (by simpa using c31)
                   have hv : h = 1024 := by rw [hh]; rw [hk]; decide
                   subst hv
                   exact ⟨by simp [F], rfl⟩
                try exact nope c31
                all_goals
                 replace F := wf F c31; refine run_skip ?_; refine hK3 _ _ ?_; refine sr fun _ hJ52 => ?_; refine hJ52 _ _ ?_; refine run_ret ?_; (try simp only [Then, InBlock, NoGoto]); refine answer_tmp2 rfl (.inr rfl) ?_
                 have hv : h = 0 := by
                   rw [hB9] at c9; simp at c9
                   rw [hB14] at c14; simp at c14
                   rw [hB18] at c18; simp at c18
                   rw [hh]; unfold hasN; rw [if_neg (by simpa [hkn] using c5)]; rw [if_neg (by simpa [hkn] using c7)]; rw [if_neg (by simp [c9])]; rw [if_neg (by simpa [hkn] using c12)]; rw [if_neg (by simp [c14])]; rw [if_neg (by simp [c18])]; rw [if_neg (by simpa [hkn] using c21)]; rw [if_neg (by simpa [hkn] using c23)]; rw [if_neg (by simpa [hkn] using c25)]; rw [if_neg (by simpa [hkn] using c27)]; rw [if_neg (by simpa [hkn] using c29)]; rw [if_neg (by simpa [hkn] using c31)]
                 subst hv
                 exact ⟨by simp [F], rfl⟩
         case cx24 =>
          intro K24 hK24
          refine sr fun _ hJ54 => ?_; refine hJ54 _ _ ?_; refine cs (fun c18 => ?_) (fun c18 => ?_)
          · try exact nope c18
            all_goals
             replace F := wf F c18; refine run_skip ?_; refine hK24 (()) _ _ ⟨kp, ?_, lp⟩
             · rw [hB18]
               simp [hkn, F]
               try rfl
          try exact nope c18
          all_goals
           replace F := wf F c18; refine rg' (h := fun J55 hJ55 => ?_); refine hJ55 _ _ ?_; refine hK24 (()) _ _ ⟨kp, ?_, lp⟩
           · rw [hB18]
             simp [hkn, F]
             try rfl
       case cx21 =>
        intro K21 hK21
        refine sr fun _ hJ57 => ?_; refine hJ57 _ _ ?_; refine cs (fun c14 => ?_) (fun c14 => ?_)
        · try exact nope c14
          all_goals
           replace F := wf F c14; refine run_skip ?_; refine hK21 (()) _ _ ⟨kp, ?_, lp⟩
           · rw [hB14]
             simp [hkn, F]
             try rfl
        try exact nope c14
        all_goals
         replace F := wf F c14; refine sr fun _ hJ59 => ?_; refine hJ59 _ _ ?_; refine cs (fun c14 => ?_) (fun c14 => ?_)
         · try exact nope c14
           all_goals
            replace F := wf F c14; refine run_skip ?_; refine hK21 (()) _ _ ⟨kp, ?_, lp⟩
            · rw [hB14]
              simp [hkn, F]
              try rfl
         try exact nope c14
         all_goals
          replace F := wf F c14; refine rg' (h := fun J60 hJ60 => ?_); refine hJ60 _ _ ?_; refine hK21 (()) _ _ ⟨kp, ?_, lp⟩
          · rw [hB14]
            simp [hkn, F]
            try rfl
    case cx14 =>
     intro K14 hK14
     refine sr fun _ hJ62 => ?_; refine hJ62 _ _ ?_; refine cs (fun c9 => ?_) (fun c9 => ?_)
     · try exact nope c9
       all_goals
        replace F := wf F c9; refine run_skip ?_; refine hK14 (()) _ _ ⟨kp, ?_, lp⟩
        · rw [hB9]
          simp [hkn, F]
          try rfl
     try exact nope c9
     all_goals
      replace F := wf F c9; refine rg' (h := fun J63 hJ63 => ?_); refine hJ63 _ _ ?_; refine hK14 (()) _ _ ⟨kp, ?_, lp⟩
      · rw [hB9]
        simp [hkn, F]
        try rfl

set_option maxHeartbeats 1600000 in
attribute [local simp] undefA List.getElem?_cons_zero List.getElem?_cons_succ in
theorem osame1_ok {σ : St} {x y : Out} (hx : x.c.length ≤ 9223372036854775807) (hy : y.c.length ≤ 9223372036854775807) :
    CallsA Try.prog 110 [.agg (outC x), .agg (outC y)] σ (fun av σ' => av = .v (.bool (decide (x = y))) ∧ σ = σ') := by
  refine callsA_gcS ?_ rfl
  obtain ⟨l, c⟩ := x
  obtain ⟨l2, c2⟩ := y
  simp only [Out.mk.injEq, outC, Bool.decide_and]
  have F := True.intro
  refine callsA_body Try.func110 rfl rfl rfl ?_; refine sr fun _ hJ2 => ?_; refine hJ2 _ _ ?_; refine sr fun _ hJ4 => ?_; refine gs 10 (fun g1_5 => ?_) (fun g1_5 => ?_)
  · try exact nope g1_5
    all_goals
     replace F := wf F g1_5
     have hl : l = l2 := by have h := g1_5; simp at h; exact UInt8.toNat_inj.1 (by omega)
     replace F := aF hl F; (iterate 4 refine go2 (k := ?_)); refine cb (c := csame_ok hx hy) (k := ?_); refine hJ4 _ _ ?_; refine ra ?_; exact gcr
  try exact nope g1_5
  all_goals
   replace F := wf F g1_5
   have hl : ¬ l = l2 := by have h := g1_5; simp at h; intro e; subst e; exact h rfl
   replace F := aF hl F; (iterate 5 refine no2 (k := ?_)); refine hJ4 _ _ ?_; refine ra ?_; exact gcr

set_option maxHeartbeats 1600000 in
attribute [local simp] undefA List.getElem?_cons_zero List.getElem?_cons_succ outC outsC_noObj in
theorem oequal_ok {σ : St} {a b : List Out} {ta tb : Tail} (hla : a.length ≤ 9223372036854775807) (hlb : b.length ≤ 9223372036854775807) (ha : ∀ x ∈ a, x.c.length ≤ 9223372036854775807) (hb : ∀ x ∈ b, x.c.length ≤ 9223372036854775807) :
    CallsA Try.prog 109 [.sl 2 (outsC a) a.length ta, .sl 2 (outsC b) b.length tb, .fn 110 []] σ (fun av σ' => av = .v (.bool (decide (a = b))) ∧ σ = σ') := by
  refine callsA_gcS ?_ rfl
  have F := True.intro
  refine callsA_body Try.func109 rfl rfl rfl ?_; refine sr fun _ hJ2 => ?_; refine hJ2 _ _ ?_; refine sq fun K3 hK3 => ?_; refine sr fun _ hJ5 => ?_; refine hJ5 _ _ ?_; refine cs (fun c14 => ?_) (fun c14 => ?_)
  · try exact nope c14
    all_goals
     replace F := wf F c14
     have hne : ¬ a = b := fun e => by subst e; simp at c14
     replace F := aF hne F; refine sr fun _ hJ7 => ?_; refine hJ7 _ _ ?_; refine ra ?_; exact gcr
  try exact nope c14
  all_goals
   replace F := wf F c14; refine run_skip ?_; refine hK3 _ _ ?_; refine sq fun K8 hK8 => ?_; refine sq fun K9 hK9 => ?_
   have hlen : a.length = b.length := by have h := c14; simp at h; omega
   refine rg' (h := fun J10 hJ10 => ?_); refine hJ10 _ _ ?_; refine hK9 _ _ ?_; refine run_block_k ?_; refine run_loopG (X := Nat) [1, 2, 15, 16] (fun i ρ σ1 => (i ≤ a.length) ∧ (a.take i = b.take i) ∧ (ρ 17 = .v (.int .i64 i)) ∧ (σ1 = σ)) (fun i => a.length - i) (0) ?st1 ?rd1
   case st1 =>
    refine ⟨lp, ?_, lp, ?_⟩
    · rfl
    · rfl
   case rd1 =>
    rintro i ρ1 σ1 hF1 ⟨hi, hE, h13, hσ⟩; obtain rfl := hσ.symm
    have f1 := keepL hF1
    (try simp [KeepL, F] at f1); replace F := aF h13 F; (try replace F := aF f1 F); refine sr fun _ hJ12 => ?_; refine hJ12 _ _ ?_; refine sq fun K13 hK13 => ?_; refine cs (fun c18 => ?_) (fun c18 => ?_)
    · try exact nope c18
      all_goals
       replace F := wf F c18; refine run_skip ?_; refine hK13 _ _ ?_; refine sq fun K14 hK14 => ?_; refine run_block_k ?_; refine sq fun K15 hK15 => ?_
       have hlt : i < a.length := by simp at c18; omega
       have hltb : i < b.length := by omega
       have hat := outsC_at hlt
       have hatb := outsC_at hltb
       have hb1 : i * 2 + 2 ≤ a.length * 2 := by omega
       have hb2 : i * 2 + 2 ≤ b.length * 2 := by omega
       obtain ⟨x, hx⟩ : ∃ x, x = a[i] := ⟨_, rfl⟩
       obtain ⟨y, hy⟩ : ∃ y, y = b[i] := ⟨_, rfl⟩
       rw [← hx] at hat
       rw [← hy] at hatb
       have hta : a.take (i + 1) = a.take i ++ [x] := by rw [hx]; exact (List.take_append_getElem hlt).symm
       have htb : b.take (i + 1) = b.take i ++ [y] := by rw [hy]; exact (List.take_append_getElem hltb).symm
       have hxl := ha x (by rw [hx]; exact List.getElem_mem _)
       have hyl := hb y (by rw [hy]; exact List.getElem_mem _)
       replace F := aF hlt F; replace F := aF hltb F; replace F := aF hat F; replace F := aF hatb F; replace F := aF hb1 F; replace F := aF hb2 F; refine rg' (h := fun J16 hJ16 => ?_); refine hJ16 _ _ ?_; refine hK15 _ _ ?_; refine sr fun _ hJ18 => ?_; refine hJ18 _ _ ?_; refine sr fun _ hJ20 => ?_; refine cb (c := (osame1_ok (x := x) (y := y) hxl hyl)) (k := ?_); refine hJ20 _ _ ?_; refine cs (fun c30 => ?_) (fun c30 => ?_)
       · try exact nope c30
         all_goals
          replace F := wf F c30
          have hne : ¬ a = b := fun e => by subst e; rw [← hx] at hy; subst hy; simp at c30
          replace F := aF hne F; refine sr fun _ hJ22 => ?_; refine hJ22 _ _ ?_; refine ra ?_; exact gcr
       try exact nope c30
       all_goals
        replace F := wf F c30
        have hxy : x = y := by simpa using c30
        refine run_skip ?_; refine hK14 _ _ ?_; refine rg' (h := fun J23 hJ23 => ?_); refine hJ23 _ _ ?_; refine ⟨gk, (i + 1), ⟨kpG, lpG, ?_, lpG, lpG⟩, lpG⟩
        · rw [hta, htb, hE, hxy]
    try exact nope c18
    all_goals
     replace F := wf F c18
     have he : a = b := by have h := c18; simp at h; rw [List.take_of_length_le (by omega), List.take_of_length_le (by omega)] at hE; exact hE
     replace F := aF he F; refine run_exit ?_; refine hK8 _ _ ?_; refine sr fun _ hJ25 => ?_; refine hJ25 _ _ ?_; refine ra ?_; exact gcr

theorem cellsEq_numN (x y : Num) : cellsEqA (numA x.v) (numA y.v) = decide (x = y) := by
  exact cellsEq_num x y

set_option maxHeartbeats 1600000 in
attribute [local simp] undefA List.getElem?_cons_zero List.getElem?_cons_succ msgC outsC_noObj persC_noObj in
theorem msame_ok {σ : St} {a b : Msg} (ha : a.Ok) (hb : b.Ok) :
    CallsA Try.prog 58 [.agg (msgC a), .agg (msgC b)] σ (fun av σ' => av = .v (.bool (decide (a = b))) ∧ σ = σ') := by
  refine callsA_gcS ?_ rfl
  have hsp := fun σ => plsame_ok (σ := σ) ha.p hb.p
  obtain ⟨ha1, ha2, ha3, ha4, ha5, -, ha7, ha8⟩ := ha
  obtain ⟨hb1, hb2, hb3, hb4, hb5, -, hb7, hb8⟩ := hb
  obtain ⟨x1, x2, x3, x4, x5, x6, x7, x8, x9, x10, x11, x12, x13, x14⟩ := a
  obtain ⟨y1, y2, y3, y4, y5, y6, y7, y8, y9, y10, y11, y12, y13, y14⟩ := b
  simp only [Msg.mk.injEq] at *
  obtain ⟨D, hD⟩ : ∃ D, D = decide (x11 = y11) := ⟨_, rfl⟩
  simp only [Bool.decide_and]
  rw [← hD]
  simp only [← hD] at hsp
  clear hD
  have hbb : ∀ (o : BinOp) (xo yo : Operand) (a b : Bool), binA Try.prog .eql 4 xo yo (.v (.bool a)) (.v (.bool b)) = some (.v (.bool (a == b))) := by intro o xo yo a b; cases a <;> cases b <;> rfl
  have hbn : ∀ (o : BinOp) (xo yo : Operand) (a b : Bool), binA Try.prog .neq 4 xo yo (.v (.bool a)) (.v (.bool b)) = some (.v (.bool (a != b))) := by intro o xo yo a b; cases a <;> cases b <;> rfl
  have hnn : cellsEqA [.v (.int .u64 (limb x8.v 0)), .v (.int .u64 (limb x8.v 1)), .v (.int .u64 (limb x8.v 2)), .v (.int .u64 (limb x8.v 3))] [.v (.int .u64 (limb y8.v 0)), .v (.int .u64 (limb y8.v 1)), .v (.int .u64 (limb y8.v 2)), .v (.int .u64 (limb y8.v 3))] = decide (x8 = y8) := by
    have h := cellsEq_numN x8 y8
    simp only [numA] at h
    exact h
  obtain ⟨xpk, xps, xpe, xpt, xpq⟩ := x11
  obtain ⟨ypk, yps, ype, ypt, ypq⟩ := y11
  simp only [plnC] at hsp
  have F := And.intro hbb (And.intro hnn (True.intro))
  refine callsA_body Try.func58 rfl rfl rfl ?_; refine sr fun _ hJ2 => ?_; refine hJ2 _ _ ?_; refine sr fun _ hJ4 => ?_; refine gs 10 (fun g1_5 => ?_) (fun g1_5 => ?_)
  · try exact nope g1_5
    all_goals
     replace F := wf F g1_5
     have hl1 : x1 = y1 := by have h := g1_5; simp at h; exact UInt8.toNat_inj.1 (by omega)
     replace F := aF hl1 F; (iterate 5 refine go2 (k := ?_)); refine gs 17 (fun g1_12 => ?_) (fun g1_12 => ?_)
     · try exact nope g1_12
       all_goals
        replace F := wf F g1_12
        have hl2 : x2 = y2 := by have h := g1_12; simp at h; exact UInt8.toNat_inj.1 (by omega)
        replace F := aF hl2 F; (iterate 5 refine go2 (k := ?_)); refine gs 24 (fun g1_19 => ?_) (fun g1_19 => ?_)
        · try exact nope g1_19
          all_goals
           replace F := wf F g1_19
           have hl3 : x3 = y3 := by have h := g1_19; simp at h; omega
           replace F := aF hl3 F; (iterate 5 refine go2 (k := ?_)); refine gs 31 (fun g1_26 => ?_) (fun g1_26 => ?_)
           · try exact nope g1_26
             all_goals
              replace F := wf F g1_26
              have hl5 : x5 = y5 := by have h := g1_26; simp at h; exact UInt8.toNat_inj.1 (by omega)
              replace F := aF hl5 F; (iterate 5 refine go2 (k := ?_)); refine gs 38 (fun g1_33 => ?_) (fun g1_33 => ?_)
              · try exact nope g1_33
                all_goals
                 replace F := wf F g1_33
                 have hl6 : x6 = y6 := by have h := g1_33; simp at h; exact UInt8.toNat_inj.1 (by omega)
                 replace F := aF hl6 F; (iterate 5 refine go2 (k := ?_)); refine gs 45 (fun g1_40 => ?_) (fun g1_40 => ?_)
                 · try exact nope g1_40
                   all_goals
                    replace F := wf F g1_40
                    have hl7 : x7 = y7 := by have h := g1_40; simp at h; exact UInt8.toNat_inj.1 (by omega)
                    replace F := aF hl7 F; (iterate 5 refine go2 (k := ?_)); refine gs 52 (fun g1_47 => ?_) (fun g1_47 => ?_)
                    · try exact nope g1_47
                      all_goals
                       replace F := wf F g1_47
                       have hl8 : x8 = y8 := by simpa using g1_47
                       replace F := aF hl8 F; (iterate 5 refine go2 (k := ?_)); refine gs 59 (fun g1_54 => ?_) (fun g1_54 => ?_)
                       · try exact nope g1_54
                         all_goals
                          replace F := wf F g1_54
                          have hl12 : x12 = y12 := by have h := g1_54; simp at h; omega
                          replace F := aF hl12 F; (iterate 5 refine go2 (k := ?_)); refine gs 66 (fun g1_61 => ?_) (fun g1_61 => ?_)
                          · try exact nope g1_61
                            all_goals
                             replace F := wf F g1_61
                             have hl13 : x13 = y13 := by have h := g1_61; simp at h; omega
                             replace F := aF hl13 F; (iterate 5 refine go2 (k := ?_)); refine gs 73 (fun g1_68 => ?_) (fun g1_68 => ?_)
                             · try exact nope g1_68
                               all_goals
                                replace F := wf F g1_68
                                have hl14 : x14 = y14 := by have h := g1_68; simp at h; exact h
                                replace F := aF hl14 F; (iterate 4 refine go2 (k := ?_)); refine cb (c := csame_ok ha2 hb2) (k := ?_); refine gs 80 (fun g1_75 => ?_) (fun g1_75 => ?_)
                                · try exact nope g1_75
                                  all_goals
                                   replace F := wf F g1_75
                                   have hl4 : x4 = y4 := by simpa using g1_75
                                   replace F := aF hl4 F; (iterate 4 refine go2 (k := ?_)); refine cb (c := csame_ok ha3 hb3) (k := ?_); refine gs 87 (fun g1_82 => ?_) (fun g1_82 => ?_)
                                   · try exact nope g1_82
                                     all_goals
                                      replace F := wf F g1_82
                                      have hl9 : x9 = y9 := by simpa using g1_82
                                      replace F := aF hl9 F; (iterate 4 refine go2 (k := ?_)); refine cb (c := hsp _) (k := ?_); refine gs 94 (fun g1_89 => ?_) (fun g1_89 => ?_)
                                      · try exact nope g1_89
                                        all_goals
                                         replace F := wf F g1_89; (iterate 4 refine go2 (k := ?_)); refine cb (c := oequal_ok ha4 hb4 ha5 hb5) (k := ?_); refine hJ4 _ _ ?_; refine ra ?_; exact gcr
                                      try exact nope g1_89
                                      all_goals
                                       replace F := wf F g1_89; (iterate 5 refine no2 (k := ?_)); refine hJ4 _ _ ?_; refine ra ?_; exact gcr
                                   try exact nope g1_82
                                   all_goals
                                    replace F := wf F g1_82
                                    have hl9 : ¬ x9 = y9 := by simpa using g1_82
                                    replace F := aF hl9 F; (iterate 10 refine no2 (k := ?_)); refine hJ4 _ _ ?_; refine ra ?_; exact gcr
                                try exact nope g1_75
                                all_goals
                                 replace F := wf F g1_75
                                 have hl4 : ¬ x4 = y4 := by simpa using g1_75
                                 replace F := aF hl4 F; (iterate 15 refine no2 (k := ?_)); refine hJ4 _ _ ?_; refine ra ?_; exact gcr
                             try exact nope g1_68
                             all_goals
                              replace F := wf F g1_68
                              have hl14 : ¬ x14 = y14 := by have h := g1_68; intro e; subst e; simp at h
                              replace F := aF hl14 F; (iterate 20 refine no2 (k := ?_)); refine hJ4 _ _ ?_; refine ra ?_; exact gcr
                          try exact nope g1_61
                          all_goals
                           replace F := wf F g1_61
                           have hl13 : ¬ x13 = y13 := by have h := g1_61; simp at h; omega
                           replace F := aF hl13 F; (iterate 25 refine no2 (k := ?_)); refine hJ4 _ _ ?_; refine ra ?_; exact gcr
                       try exact nope g1_54
                       all_goals
                        replace F := wf F g1_54
                        have hl12 : ¬ x12 = y12 := by have h := g1_54; simp at h; omega
                        replace F := aF hl12 F; (iterate 30 refine no2 (k := ?_)); refine hJ4 _ _ ?_; refine ra ?_; exact gcr
                    try exact nope g1_47
                    all_goals
                     replace F := wf F g1_47
                     have hl8 : ¬ x8 = y8 := by simpa using g1_47
                     replace F := aF hl8 F; (iterate 35 refine no2 (k := ?_)); refine hJ4 _ _ ?_; refine ra ?_; exact gcr
                 try exact nope g1_40
                 all_goals
                  replace F := wf F g1_40
                  have hl7 : ¬ x7 = y7 := by have h := g1_40; simp at h; intro e; subst e; exact h rfl
                  replace F := aF hl7 F; (iterate 40 refine no2 (k := ?_)); refine hJ4 _ _ ?_; refine ra ?_; exact gcr
              try exact nope g1_33
              all_goals
               replace F := wf F g1_33
               have hl6 : ¬ x6 = y6 := by have h := g1_33; simp at h; intro e; subst e; exact h rfl
               replace F := aF hl6 F; (iterate 45 refine no2 (k := ?_)); refine hJ4 _ _ ?_; refine ra ?_; exact gcr
           try exact nope g1_26
           all_goals
            replace F := wf F g1_26
            have hl5 : ¬ x5 = y5 := by have h := g1_26; simp at h; intro e; subst e; exact h rfl
            replace F := aF hl5 F; (iterate 50 refine no2 (k := ?_)); refine hJ4 _ _ ?_; refine ra ?_; exact gcr
        try exact nope g1_19
        all_goals
         replace F := wf F g1_19
         have hl3 : ¬ x3 = y3 := by have h := g1_19; simp at h; omega
         replace F := aF hl3 F; (iterate 55 refine no2 (k := ?_)); refine hJ4 _ _ ?_; refine ra ?_; exact gcr
     try exact nope g1_12
     all_goals
      replace F := wf F g1_12
      have hl2 : ¬ x2 = y2 := by have h := g1_12; simp at h; intro e; subst e; exact h rfl
      replace F := aF hl2 F; (iterate 60 refine no2 (k := ?_)); refine hJ4 _ _ ?_; refine ra ?_; exact gcr
  try exact nope g1_5
  all_goals
   replace F := wf F g1_5
   have hl1 : ¬ x1 = y1 := by have h := g1_5; simp at h; intro e; subst e; exact h rfl
   replace F := aF hl1 F; (iterate 65 refine no2 (k := ?_)); refine hJ4 _ _ ?_; refine ra ?_; exact gcr
set_option maxHeartbeats 1600000 in
attribute [local simp] undefA List.getElem?_cons_zero List.getElem?_cons_succ msgC outsC_noObj persC_noObj outC in
theorem rmsame_ok {σ : St} {a b : Msg} (ha : a.Ok) (hb : b.Ok) :
    CallsA Try.prog 57 [.agg (msgC a), .agg (msgC b)] σ (fun av σ' => av = .v (.bool (decide (a = b))) ∧ σ = σ') := by
  obtain ⟨D0, hD0⟩ : ∃ D, D = decide (a = b) := ⟨_, rfl⟩
  rw [← hD0]
  refine callsA_gcS ?_ rfl
  have hsp := fun σ => rplsame_ok (σ := σ) ha.p hb.p
  obtain ⟨ha1, ha2, ha3, ha4, ha5, -, ha7, ha8⟩ := ha
  obtain ⟨hb1, hb2, hb3, hb4, hb5, -, hb7, hb8⟩ := hb
  obtain ⟨x1, x2, x3, x4, x5, x6, x7, x8, x9, x10, x11, x12, x13, x14⟩ := a
  obtain ⟨y1, y2, y3, y4, y5, y6, y7, y8, y9, y10, y11, y12, y13, y14⟩ := b
  simp only [Msg.mk.injEq] at *
  obtain ⟨D, hD⟩ : ∃ D, D = decide (x11 = y11) := ⟨_, rfl⟩
  have hno : ¬ (x1 = y1 ∧ x2 = y2 ∧ x3 = y3 ∧ x4 = y4 ∧ x5 = y5 ∧ x6 = y6 ∧ x7 = y7 ∧ x8 = y8 ∧ x9 = y9 ∧ x10 = y10 ∧ x11 = y11 ∧ x12 = y12 ∧ x13 = y13 ∧ x14 = y14) → D0 = false := fun h => by rw [hD0]; exact decide_eq_false h
  have hyes : (x1 = y1 ∧ x2 = y2 ∧ x3 = y3 ∧ x4 = y4 ∧ x5 = y5 ∧ x6 = y6 ∧ x7 = y7 ∧ x8 = y8 ∧ x9 = y9 ∧ x10 = y10 ∧ x11 = y11 ∧ x12 = y12 ∧ x13 = y13 ∧ x14 = y14) → D0 = true := fun h => by rw [hD0]; exact decide_eq_true h
  have hDe : D = true → x11 = y11 := fun h => by rw [hD] at h; exact of_decide_eq_true h
  have hDy : x11 = y11 → D = true := fun h => by rw [hD]; exact decide_eq_true h
  have hDn : D = false → ¬ x11 = y11 := fun h => by rw [hD] at h; exact of_decide_eq_false h
  simp only [← hD] at hsp
  clear hD hD0
  have hbb : ∀ (o : BinOp) (xo yo : Operand) (a b : Bool), binA Try.prog .eql 4 xo yo (.v (.bool a)) (.v (.bool b)) = some (.v (.bool (a == b))) := by intro o xo yo a b; cases a <;> cases b <;> rfl
  have hbn : ∀ (o : BinOp) (xo yo : Operand) (a b : Bool), binA Try.prog .neq 4 xo yo (.v (.bool a)) (.v (.bool b)) = some (.v (.bool (a != b))) := by intro o xo yo a b; cases a <;> cases b <;> rfl
  have hnn : cellsEqA [.v (.int .u64 (limb x8.v 0)), .v (.int .u64 (limb x8.v 1)), .v (.int .u64 (limb x8.v 2)), .v (.int .u64 (limb x8.v 3))] [.v (.int .u64 (limb y8.v 0)), .v (.int .u64 (limb y8.v 1)), .v (.int .u64 (limb y8.v 2)), .v (.int .u64 (limb y8.v 3))] = decide (x8 = y8) := by
    have h := cellsEq_numN x8 y8
    simp only [numA] at h
    exact h
  obtain ⟨xpk, xps, xpe, xpt, xpq⟩ := x11
  obtain ⟨ypk, yps, ype, ypt, ypq⟩ := y11
  simp only [plnC] at hsp
  obtain ⟨B1, hB1⟩ : ∃ B, B = !(decide (x1 = y1) && decide (x2 = y2) && decide (x3 = y3) && decide (x5 = y5) && decide (x6 = y6) && decide (x7 = y7) && decide (x8 = y8)) := ⟨_, rfl⟩
  obtain ⟨B2, hB2⟩ : ∃ B, B = !(decide (x12 = y12) && decide (x13 = y13) && decide (x14 = y14) && decide (x4 = y4) && decide (x9 = y9) && D && decide (x10.length = y10.length)) := ⟨_, rfl⟩
  have F := And.intro hbn (And.intro hnn (True.intro))
  refine callsA_body Try.func57 rfl rfl rfl ?_; refine sr fun _ hJ2 => ?_; refine hJ2 _ _ ?_; refine sq fun K3 hK3 => ?_; refine sqc (X := Unit) [2, 3, 4] (fun z ρ σ1 => (ρ 52 = .v (.bool B1)) ∧ (σ1 = { σ with objs := σ.objs ++ [msgC ⟨x1, x2, x3, x4, x5, x6, x7, x8, x9, x10, ⟨xpk, xps, xpe, xpt, xpq⟩, x12, x13, x14⟩, [.v (.int .u8 y1.toNat), .v (.int .u8 y2.toNat), .v (.int .u64 y3), .sl 5 (coinsC y4) y4.length .shut, .v (.int .u8 y5.toNat), .v (.int .u8 y6.toNat), .v (.int .u8 y7.toNat), .v (.int .u64 (limb y8.v 0)), .v (.int .u64 (limb y8.v 1)), .v (.int .u64 (limb y8.v 2)), .v (.int .u64 (limb y8.v 3)), .sl 5 (coinsC y9) y9.length .shut, .sl 2 (outsC y10) y10.length .shut, .v (.int .u8 ypk.toNat), .v (.int .u64 yps), .v (.int .u64 ype), .sl 5 (coinsC ypt) ypt.length .shut, .sl 2 (persC ypq) ypq.length .shut, .v (.int .u64 y12), .v (.int .u16 y13), .v (.bool y14)]] })) ?cy4 ?cx4
  case cy4 =>
   rintro z ρCr1 σ1 hFCr1 ⟨h52, hσ⟩; obtain rfl := hσ.symm
   have fCr1 := keepL hFCr1
   (try simp [KeepL, F] at fCr1); replace F := aF h52 F; (try replace F := aF fCr1 F); refine cs (t := B1) (fun c52 => ?_) (fun c52 => ?_)
   · try exact nope c52
     all_goals
      replace F := wf F c52
      have h0 : D0 = false := hno (fun e => by rw [hB1] at c52; simp [e] at c52)
      replace F := aF h0 F; refine sr fun _ hJ6 => ?_; refine hJ6 _ _ ?_; refine ra ?_; exact gcr
   try exact nope c52
   all_goals
    replace F := wf F c52
    have e1 : x1 = y1 ∧ x2 = y2 ∧ x3 = y3 ∧ x5 = y5 ∧ x6 = y6 ∧ x7 = y7 ∧ x8 = y8 := by rw [hB1] at c52; simp at c52; simp [c52]
    refine run_skip ?_; refine hK3 _ _ ?_; refine sq fun K7 hK7 => ?_; refine sqc (X := Unit) [2, 3, 4] (fun z ρ σ1 => (ρ 104 = .v (.bool B2)) ∧ (σ1 = { σ with objs := σ.objs ++ [msgC ⟨x1, x2, x3, x4, x5, x6, x7, x8, x9, x10, ⟨xpk, xps, xpe, xpt, xpq⟩, x12, x13, x14⟩, [.v (.int .u8 y1.toNat), .v (.int .u8 y2.toNat), .v (.int .u64 y3), .sl 5 (coinsC y4) y4.length .shut, .v (.int .u8 y5.toNat), .v (.int .u8 y6.toNat), .v (.int .u8 y7.toNat), .v (.int .u64 (limb y8.v 0)), .v (.int .u64 (limb y8.v 1)), .v (.int .u64 (limb y8.v 2)), .v (.int .u64 (limb y8.v 3)), .sl 5 (coinsC y9) y9.length .shut, .sl 2 (outsC y10) y10.length .shut, .v (.int .u8 ypk.toNat), .v (.int .u64 yps), .v (.int .u64 ype), .sl 5 (coinsC ypt) ypt.length .shut, .sl 2 (persC ypq) ypq.length .shut, .v (.int .u64 y12), .v (.int .u16 y13), .v (.bool y14)]] })) ?cy8 ?cx8
    case cy8 =>
     rintro z ρCr3 σ1 hFCr3 ⟨h104, hσ⟩; obtain rfl := hσ.symm
     have fCr3 := keepL hFCr3
     (try simp [KeepL, F] at fCr3); replace F := aF h104 F; (try replace F := aF fCr3 F); refine cs (t := B2) (fun c104 => ?_) (fun c104 => ?_)
     · try exact nope c104
       all_goals
        replace F := wf F c104
        have h0 : D0 = false := hno (fun e => by have hd := hDy e.2.2.2.2.2.2.2.2.2.2.1; rw [hB2] at c104; simp [e, hd] at c104)
        replace F := aF h0 F; refine sr fun _ hJ10 => ?_; refine hJ10 _ _ ?_; refine ra ?_; exact gcr
     try exact nope c104
     all_goals
      replace F := wf F c104
      have e2 : x12 = y12 ∧ x13 = y13 ∧ x14 = y14 ∧ x4 = y4 ∧ x9 = y9 ∧ D = true ∧ x10.length = y10.length := by rw [hB2] at c104; simp at c104; simp [c104]
      have e3 := e2.2.2.2.2.2.2
      refine run_skip ?_; refine hK7 _ _ ?_; refine sq fun K11 hK11 => ?_; refine sr fun _ hJ13 => ?_; refine hJ13 _ _ ?_; refine run_block_k ?_; refine run_loopF (X := Nat) [2, 3] (fun i ρ σ1 => (i ≤ x10.length) ∧ (x10.take i = y10.take i) ∧ (ρ 5 = .v (.int .i64 i)) ∧ (σ1 = { σ with objs := σ.objs ++ [msgC ⟨x1, x2, x3, x4, x5, x6, x7, x8, x9, x10, ⟨xpk, xps, xpe, xpt, xpq⟩, x12, x13, x14⟩, [.v (.int .u8 y1.toNat), .v (.int .u8 y2.toNat), .v (.int .u64 y3), .sl 5 (coinsC y4) y4.length .shut, .v (.int .u8 y5.toNat), .v (.int .u8 y6.toNat), .v (.int .u8 y7.toNat), .v (.int .u64 (limb y8.v 0)), .v (.int .u64 (limb y8.v 1)), .v (.int .u64 (limb y8.v 2)), .v (.int .u64 (limb y8.v 3)), .sl 5 (coinsC y9) y9.length .shut, .sl 2 (outsC y10) y10.length .shut, .v (.int .u8 ypk.toNat), .v (.int .u64 yps), .v (.int .u64 ype), .sl 5 (coinsC ypt) ypt.length .shut, .sl 2 (persC ypq) ypq.length .shut, .v (.int .u64 y12), .v (.int .u16 y13), .v (.bool y14)]] })) (fun i => x10.length - i) (0) ?st1 ?rd1
      case st1 =>
       refine ⟨lp, ?_, lp, ?_⟩
       · rfl
       · rfl
      case rd1 =>
       rintro i ρ1 σ1 hF1 ⟨hi, hE, h5, hσ⟩; obtain rfl := hσ.symm
       have f1 := keepL hF1
       (try simp [KeepL, F] at f1); replace F := aF h5 F; (try replace F := aF f1 F); refine sq fun K14 hK14 => ?_; refine sr fun _ hJ16 => ?_; refine hJ16 _ _ ?_; refine cs (fun c109 => ?_) (fun c109 => ?_)
       · try exact nope c109
         all_goals
          replace F := wf F c109; refine run_skip ?_; refine hK14 _ _ ?_; refine sq fun K17 hK17 => ?_; refine run_block_k ?_; refine sq fun K18 hK18 => ?_
          have hlt : i < x10.length := by have h := c109; simp at h; omega
          have hlt2 : i < y10.length := by omega
          have hat := outsC_at hlt
          have hat2 := outsC_at hlt2
          have hq1 : i * 2 + 2 ≤ x10.length * 2 := by omega
          have hq2 : i * 2 + 2 ≤ y10.length * 2 := by omega
          have hx5 := ha5 _ (List.getElem_mem hlt)
          have hy5 := hb5 _ (List.getElem_mem hlt2)
          have htx : x10.take (i + 1) = x10.take i ++ [x10[i]] := (List.take_append_getElem hlt).symm
          have hty : y10.take (i + 1) = y10.take i ++ [y10[i]] := (List.take_append_getElem hlt2).symm
          have hxy : x10 = y10 → x10[i] = y10[i] := fun e => by subst e; rfl
          obtain ⟨x, hx⟩ : ∃ x, x = x10[i] := ⟨_, rfl⟩
          obtain ⟨y, hy⟩ : ∃ y, y = y10[i] := ⟨_, rfl⟩
          rw [← hx] at hat hx5 htx hxy
          rw [← hy] at hat2 hy5 hty hxy
          obtain ⟨xl, xc⟩ := x
          obtain ⟨yl, yc⟩ := y
          simp only [Out.mk.injEq] at hx5 hy5 hxy
          replace F := aF hlt F; replace F := aF hlt2 F; replace F := aF hat F; replace F := aF hat2 F; replace F := aF hq1 F; replace F := aF hq2 F
          refine run_draw (by kernel_rfl) fun J19 hJ19 => ?_
          refine rp2 0 (k := ?_); refine rp2 1 (k := ?_); refine rp2 2 (k := ?_); refine rp2 3 (k := ?_); refine rp2 4 (k := ?_); refine rp2 5 (k := ?_); refine rp2 6 (k := ?_); refine rp2 7 (k := ?_); refine rp2 8 (k := ?_); refine rp2 9 (k := ?_); refine rp2 10 (k := ?_); refine rp2 11 (k := ?_); refine rp2 12 (k := ?_); refine rp2 13 (k := ?_); refine gd 125 (fun g8_13 => ?_) (fun g8_13 => ?_)
          · try exact nope g8_13
            all_goals
             replace F := wf F g8_13
             have hm : ¬ xl = yl := by have h := g8_13; simp at h; intro e; subst e; exact h rfl
             have h0 : D0 = false := hno (fun e => hm (hxy e.2.2.2.2.2.2.2.2.2.1).1)
             replace F := aF h0 F; refine rp2 14 (k := ?_); refine rp2 15 (k := ?_); refine rp2 16 (k := ?_); refine rp2 17 (k := ?_); refine rp2 18 (k := ?_); refine rp2 19 (k := ?_); refine rp2 20 (k := ?_); refine rp2 21 (k := ?_); refine rp2 22 (k := ?_); refine rp2 23 (k := ?_); refine rp2 24 (k := ?_); refine rp2 25 (k := ?_); refine dop 26 rfl ?_; (repeat (first | simp [F] | simp (disch := omega) only [wC, if_pos, if_neg])); refine rp2 27 (k := ?_); refine rp2 28 (k := ?_); refine dd ?_; refine hJ19 _ _ ?_; refine hK18 _ _ ?_; refine ct ?_; refine sr fun _ hJ21 => ?_; refine hJ21 _ _ ?_; refine ra ?_; exact gcr
          try exact nope g8_13
          all_goals
           replace F := wf F g8_13
           have hm : xl = yl := by have h := g8_13; simp at h; exact UInt8.toNat_inj.1 (by omega)
           refine rp2 14 (k := ?_); refine rp2 15 (k := ?_); refine rp2 16 (k := ?_); refine rp2 17 (k := ?_); refine rp2 18 (k := ?_); refine rp2 19 (k := ?_); refine rp2 20 (k := ?_); refine rp2 21 (k := ?_); refine rp2 22 (k := ?_); refine rp2 23 (k := ?_); refine rp2 24 (k := ?_); refine rp2 25 (k := ?_); refine dc 26 rfl (c := rsame_ok hx5 hy5) (k := ?_); rintro _ _ ⟨rfl, rfl⟩
           refine ⟨by first | exact fun _ _ h => h | (refine later_list [24, 23, 22, 21, 20, 18, 17, 16, 15, 14, 12, 11, 10, 9, 8, 7, 6, 5, 4, 3, 2, 1, 0] (by kernel_rfl) (fc2 ?_ <| fc2 ?_ <| fc2 ?_ <| fc2 ?_ <| fc2 ?_ <| fc2 ?_ <| fc2 ?_ <| fc2 ?_ <| fc2 ?_ <| fc2 ?_ <| fc2 ?_ <| fc2 ?_ <| fc2 ?_ <| fc2 ?_ <| fc2 ?_ <| fc2 ?_ <| fc2 ?_ <| fc2 ?_ <| fc2 ?_ <| fc2 ?_ <| fc2 ?_ <| fc2 ?_ <| fc2 ?_ <| fn0) <;> constructor <;> first | rfl | (simp [F]; done)), ?_⟩
           (repeat (first | simp [F] | simp (disch := omega) only [wC, if_pos, if_neg])); refine rp2 27 (k := ?_); refine rp2 28 (k := ?_); refine dd ?_; refine hJ19 _ _ ?_; refine hK18 _ _ ?_; refine cs (fun c140 => ?_) (fun c140 => ?_)
           · try exact nope c140
             all_goals
              replace F := wf F c140
              have h0 : D0 = false := hno (fun e => by have h := c140; simp at h; exact h (hxy e.2.2.2.2.2.2.2.2.2.1).2)
              replace F := aF h0 F; refine sr fun _ hJ23 => ?_; refine hJ23 _ _ ?_; refine ra ?_; exact gcr
           try exact nope c140
           all_goals
            replace F := wf F c140
            have hc : xc = yc := by have h := c140; simp at h; exact h
            refine run_skip ?_; refine hK17 _ _ ?_; refine rg' (h := fun J24 hJ24 => ?_); refine hJ24 _ _ ?_; refine ⟨(i + 1), ⟨kp, lp, ?_, lp, lp⟩, lp⟩
            · rw [htx, hty, hE, hm, hc]
       try exact nope c109
       all_goals
        replace F := wf F c109
        have h0 : D0 = true := hyes ⟨e1.1, e1.2.1, e1.2.2.1, e2.2.2.2.1, e1.2.2.2.1, e1.2.2.2.2.1, e1.2.2.2.2.2.1, e1.2.2.2.2.2.2, e2.2.2.2.2.1, by rw [List.take_of_length_le (by have h := c109; simp at h; omega), List.take_of_length_le (by have h := c109; simp at h; omega)] at hE; exact hE, hDe e2.2.2.2.2.2.1, e2.1, e2.2.1, e2.2.2.1⟩
        replace F := aF h0 F; refine run_exit ?_; refine hK11 _ _ ?_; refine sr fun _ hJ26 => ?_; refine hJ26 _ _ ?_; refine ra ?_; exact gcr
    case cx8 =>
     intro K8 hK8
     refine rg' (h := fun J27 hJ27 => ?_); refine gs 58 (fun g3_5 => ?_) (fun g3_5 => ?_)
     · try exact nope g3_5
       all_goals
        replace F := wf F g3_5
        have hl12 : ¬ x12 = y12 := by have h := g3_5; simp at h; omega
        replace F := aF hl12 F; (iterate 35 refine no2 (k := ?_)); refine hJ27 _ _ ?_; refine hK8 (()) _ _ ⟨kp, ?_, lp⟩
        · rw [hB2]
          simp [F]
          try (rw [Bool.eq_iff_iff]; simp; omega)
     try exact nope g3_5
     all_goals
      replace F := wf F g3_5
      have hl12 : x12 = y12 := by have h := g3_5; simp at h; omega
      replace F := aF hl12 F; (iterate 5 refine go2 (k := ?_)); refine gs 65 (fun g3_12 => ?_) (fun g3_12 => ?_)
      · try exact nope g3_12
        all_goals
         replace F := wf F g3_12
         have hl13 : ¬ x13 = y13 := by have h := g3_12; simp at h; omega
         replace F := aF hl13 F; (iterate 30 refine no2 (k := ?_)); refine hJ27 _ _ ?_; refine hK8 (()) _ _ ⟨kp, ?_, lp⟩
         · rw [hB2]
           simp [F]
           try (rw [Bool.eq_iff_iff]; simp; omega)
      try exact nope g3_12
      all_goals
       replace F := wf F g3_12
       have hl13 : x13 = y13 := by have h := g3_12; simp at h; omega
       replace F := aF hl13 F; (iterate 5 refine go2 (k := ?_)); refine gs 72 (fun g3_19 => ?_) (fun g3_19 => ?_)
       · try exact nope g3_19
         all_goals
          replace F := wf F g3_19
          have hl14 : ¬ x14 = y14 := by have h := g3_19; intro e; subst e; simp at h
          replace F := aF hl14 F; (iterate 25 refine no2 (k := ?_)); refine hJ27 _ _ ?_; refine hK8 (()) _ _ ⟨kp, ?_, lp⟩
          · rw [hB2]
            simp [F]
            try (rw [Bool.eq_iff_iff]; simp; omega)
       try exact nope g3_19
       all_goals
        replace F := wf F g3_19
        have hl14 : x14 = y14 := by have h := g3_19; simp at h; exact h
        replace F := aF hl14 F; (iterate 4 refine go2 (k := ?_)); refine cb (c := rsame_ok ha2 hb2) (k := ?_); refine go2 (k := ?_); refine gs 80 (fun g3_27 => ?_) (fun g3_27 => ?_)
        · try exact nope g3_27
          all_goals
           replace F := wf F g3_27
           have hl4 : ¬ x4 = y4 := by simpa using g3_27
           replace F := aF hl4 F; (iterate 19 refine no2 (k := ?_)); refine hJ27 _ _ ?_; refine hK8 (()) _ _ ⟨kp, ?_, lp⟩
           · rw [hB2]
             simp [F]
             try (rw [Bool.eq_iff_iff]; simp; omega)
        try exact nope g3_27
        all_goals
         replace F := wf F g3_27
         have hl4 : x4 = y4 := by simpa using g3_27
         replace F := aF hl4 F; (iterate 4 refine go2 (k := ?_)); refine cb (c := rsame_ok ha3 hb3) (k := ?_); refine go2 (k := ?_); refine gs 88 (fun g3_35 => ?_) (fun g3_35 => ?_)
         · try exact nope g3_35
           all_goals
            replace F := wf F g3_35
            have hl9 : ¬ x9 = y9 := by simpa using g3_35
            replace F := aF hl9 F; (iterate 13 refine no2 (k := ?_)); refine hJ27 _ _ ?_; refine hK8 (()) _ _ ⟨kp, ?_, lp⟩
            · rw [hB2]
              simp [F]
              try (rw [Bool.eq_iff_iff]; simp; omega)
         try exact nope g3_35
         all_goals
          replace F := wf F g3_35
          have hl9 : x9 = y9 := by simpa using g3_35
          replace F := aF hl9 F; (iterate 4 refine go2 (k := ?_)); refine cb (c := hsp _) (k := ?_); refine go2 (k := ?_); refine gs 96 (fun g3_43 => ?_) (fun g3_43 => ?_)
          · try exact nope g3_43
            all_goals
             replace F := wf F g3_43
             have hDt : D = false := by simpa using g3_43
             replace F := aF hDt F; (iterate 7 refine no2 (k := ?_)); refine hJ27 _ _ ?_; refine hK8 (()) _ _ ⟨kp, ?_, lp⟩
             · rw [hB2]
               simp [F]
               try (rw [Bool.eq_iff_iff]; simp; omega)
          try exact nope g3_43
          all_goals
           replace F := wf F g3_43
           have hDt : D = true := by simpa using g3_43
           replace F := aF hDt F; (iterate 7 refine go2 (k := ?_)); refine hJ27 _ _ ?_; refine hK8 (()) _ _ ⟨kp, ?_, lp⟩
           · rw [hB2]
             simp [F]
             try (rw [Bool.eq_iff_iff]; simp; omega)
  case cx4 =>
   intro K4 hK4
   refine rg' (h := fun J28 hJ28 => ?_); refine gs 11 (fun g1_5 => ?_) (fun g1_5 => ?_)
   · try exact nope g1_5
     all_goals
      replace F := wf F g1_5
      have hl1 : ¬ x1 = y1 := by have h := g1_5; simp at h; intro e; subst e; exact h rfl
      replace F := aF hl1 F; (iterate 30 refine no2 (k := ?_)); refine hJ28 _ _ ?_; refine hK4 (()) _ _ ⟨kp, ?_, lp⟩
      · rw [hB1]
        simp [F]
        try rfl
   try exact nope g1_5
   all_goals
    replace F := wf F g1_5
    have hl1 : x1 = y1 := by have h := g1_5; simp at h; exact UInt8.toNat_inj.1 (by omega)
    replace F := aF hl1 F; (iterate 5 refine go2 (k := ?_)); refine gs 18 (fun g1_12 => ?_) (fun g1_12 => ?_)
    · try exact nope g1_12
      all_goals
       replace F := wf F g1_12
       have hl2 : ¬ x2 = y2 := by have h := g1_12; simp at h; intro e; subst e; exact h rfl
       replace F := aF hl2 F; (iterate 25 refine no2 (k := ?_)); refine hJ28 _ _ ?_; refine hK4 (()) _ _ ⟨kp, ?_, lp⟩
       · rw [hB1]
         simp [F]
         try rfl
    try exact nope g1_12
    all_goals
     replace F := wf F g1_12
     have hl2 : x2 = y2 := by have h := g1_12; simp at h; exact UInt8.toNat_inj.1 (by omega)
     replace F := aF hl2 F; (iterate 5 refine go2 (k := ?_)); refine gs 25 (fun g1_19 => ?_) (fun g1_19 => ?_)
     · try exact nope g1_19
       all_goals
        replace F := wf F g1_19
        have hl3 : ¬ x3 = y3 := by have h := g1_19; simp at h; omega
        replace F := aF hl3 F; (iterate 20 refine no2 (k := ?_)); refine hJ28 _ _ ?_; refine hK4 (()) _ _ ⟨kp, ?_, lp⟩
        · rw [hB1]
          simp [F]
          try rfl
     try exact nope g1_19
     all_goals
      replace F := wf F g1_19
      have hl3 : x3 = y3 := by have h := g1_19; simp at h; omega
      replace F := aF hl3 F; (iterate 5 refine go2 (k := ?_)); refine gs 32 (fun g1_26 => ?_) (fun g1_26 => ?_)
      · try exact nope g1_26
        all_goals
         replace F := wf F g1_26
         have hl5 : ¬ x5 = y5 := by have h := g1_26; simp at h; intro e; subst e; exact h rfl
         replace F := aF hl5 F; (iterate 15 refine no2 (k := ?_)); refine hJ28 _ _ ?_; refine hK4 (()) _ _ ⟨kp, ?_, lp⟩
         · rw [hB1]
           simp [F]
           try rfl
      try exact nope g1_26
      all_goals
       replace F := wf F g1_26
       have hl5 : x5 = y5 := by have h := g1_26; simp at h; exact UInt8.toNat_inj.1 (by omega)
       replace F := aF hl5 F; (iterate 5 refine go2 (k := ?_)); refine gs 39 (fun g1_33 => ?_) (fun g1_33 => ?_)
       · try exact nope g1_33
         all_goals
          replace F := wf F g1_33
          have hl6 : ¬ x6 = y6 := by have h := g1_33; simp at h; intro e; subst e; exact h rfl
          replace F := aF hl6 F; (iterate 10 refine no2 (k := ?_)); refine hJ28 _ _ ?_; refine hK4 (()) _ _ ⟨kp, ?_, lp⟩
          · rw [hB1]
            simp [F]
            try rfl
       try exact nope g1_33
       all_goals
        replace F := wf F g1_33
        have hl6 : x6 = y6 := by have h := g1_33; simp at h; exact UInt8.toNat_inj.1 (by omega)
        replace F := aF hl6 F; (iterate 5 refine go2 (k := ?_)); refine gs 46 (fun g1_40 => ?_) (fun g1_40 => ?_)
        · try exact nope g1_40
          all_goals
           replace F := wf F g1_40
           have hl7 : ¬ x7 = y7 := by have h := g1_40; simp at h; intro e; subst e; exact h rfl
           replace F := aF hl7 F; (iterate 5 refine no2 (k := ?_)); refine hJ28 _ _ ?_; refine hK4 (()) _ _ ⟨kp, ?_, lp⟩
           · rw [hB1]
             simp [F]
             try rfl
        try exact nope g1_40
        all_goals
         replace F := wf F g1_40
         have hl7 : x7 = y7 := by have h := g1_40; simp at h; exact UInt8.toNat_inj.1 (by omega)
         replace F := aF hl7 F; (iterate 5 refine go2 (k := ?_)); refine hJ28 _ _ ?_; refine hK4 (()) _ _ ⟨kp, ?_, lp⟩
         · rw [hB1]
           simp [F]
           try rfl
end Go.Proofs.Ytdbaddholggkbaa

/-
  A message without what its kind has not, by the program..
-/
namespace Go.Proofs.Ytdbaddholggkbaa
set_option linter.unnecessarySimpa false
set_option maxRecDepth 100000
open Go Go.Vm
set_option linter.unusedSimpArgs false
set_option linter.unusedVariables false
attribute [local simp] evalL wantedA isCall opA evalA evalAll evalsA evalOpt ofValue ofCell plain binA_eql_pn binA_neq_pn binA_gtr binA_lss binA_geq binA_leq binA_add binA_sub binA_eql binA_neq binA_orI binA_shl binA_shr binA_mul binA_quo binA_rem binA_agg_eql binA_agg_neq convA_int unA_not fieldAddrA loadA partA pickA_true pickA_false pickA_bb lenA builtinA storeA splice AV.cells AV.isCell sliceA boundA intA callOf indexAddrA newObjA buildA fillA zeroA ofCells buildSliceA indexA fieldA numA_len4 numA_take4 numA_drop4 set_appN get_appN take_appN List.getElem?_cons_zero List.getElem?_cons_succ makeA zeros64

theorem bitNe {e : Nat} : (((e : Nat) : Int) != 0) = decide (e ≠ 0) := by
  rw [Bool.eq_iff_iff]; simp
theorem wk_all {b : Bool} {l m : List Coin} (h : m = bif b then l else []) : Wk (allA b l) (.sl 5 (coinsC m) m.length .shut) := by
  subst h; cases b
  · exact Wk.nil _ _ _
  · exact Wk.refl _
theorem wk_out {b : Bool} {l m : List Out} (h : m = bif b then l else []) : Wk (outA b l) (.sl 2 (outsC m) m.length .shut) := by
  subst h; cases b
  · exact Wk.nil _ _ _
  · exact Wk.refl _
theorem wk_per {b : Bool} {l m : List Per} (h : m = bif b then l else []) : Wk (perA b l) (.sl 2 (persC m) m.length .shut) := by
  subst h; cases b
  · exact Wk.nil _ _ _
  · exact Wk.refl _
theorem wk_eq {a b : AV} (h : a = b) : Wk a b := h ▸ Wk.refl _

set_option maxHeartbeats 1600000 in
attribute [local simp] undefA List.getElem?_cons_zero List.getElem?_cons_succ msgC outsC_noObj persC_noObj in
theorem monly_ok {σ : St} {m : Msg} :
    CallsA Try.prog 96 [.agg (msgC m)] σ (fun av σ' => av = .agg (msgC (onlyM m)) ∧ σ = σ') := by
  refine callsA_gcS ?_ (by simp [AV.under, underL, msgC, persC_under, outsC_under])
  obtain ⟨A, hA⟩ : ∃ A, A = onlyM m := ⟨_, rfl⟩
  rw [← hA]
  obtain ⟨x1, x2, x3, x4, x5, x6, x7, x8, x9, x10, x11, x12, x13, x14⟩ := m
  obtain ⟨xpk, xps, xpe, xpt, xpq⟩ := x11
  have hhas := fun σ => has_ok (σ := σ) (k := x1)
  obtain ⟨h, hh⟩ : ∃ h, h = hasN x1 := ⟨_, rfl⟩
  have hlt : h < 4096 := by rw [hh]; exact hasN_lt _
  rw [← hh] at hhas
  obtain ⟨eE, heE⟩ : ∃ e, e = h &&& 1024 := ⟨_, rfl⟩
  have handE : ∀ xo yo, binA Try.prog .and 3 xo yo (.v (.int .i64 (h : Nat))) (.v (.int .i64 1024)) = some (.v (.int .i64 (eE : Nat))) := fun xo yo => by rw [heE]; exact binA_andN _ xo yo hlt (by decide)
  obtain ⟨bE, hbE⟩ : ∃ b, b = hB x1 1024 := ⟨_, rfl⟩
  have hneE : (((eE : Nat) : Int) != 0) = bE := by rw [hbE, hB, ← hh, ← heE]; simp [bne, Int.natCast_eq_zero]; rw [Bool.eq_iff_iff]; simp
  obtain ⟨eT, heT⟩ : ∃ e, e = h &&& 1 := ⟨_, rfl⟩
  have handT : ∀ xo yo, binA Try.prog .and 3 xo yo (.v (.int .i64 (h : Nat))) (.v (.int .i64 1)) = some (.v (.int .i64 (eT : Nat))) := fun xo yo => by rw [heT]; exact binA_andN _ xo yo hlt (by decide)
  obtain ⟨bT, hbT⟩ : ∃ b, b = hB x1 1 := ⟨_, rfl⟩
  have hneT : (((eT : Nat) : Int) != 0) = bT := by rw [hbT, hB, ← hh, ← heT]; simp [bne, Int.natCast_eq_zero]; rw [Bool.eq_iff_iff]; simp
  obtain ⟨eV, heV⟩ : ∃ e, e = h &&& 2 := ⟨_, rfl⟩
  have handV : ∀ xo yo, binA Try.prog .and 3 xo yo (.v (.int .i64 (h : Nat))) (.v (.int .i64 2)) = some (.v (.int .i64 (eV : Nat))) := fun xo yo => by rw [heV]; exact binA_andN _ xo yo hlt (by decide)
  obtain ⟨bV, hbV⟩ : ∃ b, b = hB x1 2 := ⟨_, rfl⟩
  have hneV : (((eV : Nat) : Int) != 0) = bV := by rw [hbV, hB, ← hh, ← heV]; simp [bne, Int.natCast_eq_zero]; rw [Bool.eq_iff_iff]; simp
  obtain ⟨eO, heO⟩ : ∃ e, e = h &&& 4 := ⟨_, rfl⟩
  have handO : ∀ xo yo, binA Try.prog .and 3 xo yo (.v (.int .i64 (h : Nat))) (.v (.int .i64 4)) = some (.v (.int .i64 (eO : Nat))) := fun xo yo => by rw [heO]; exact binA_andN _ xo yo hlt (by decide)
  obtain ⟨bO, hbO⟩ : ∃ b, b = hB x1 4 := ⟨_, rfl⟩
  have hneO : (((eO : Nat) : Int) != 0) = bO := by rw [hbO, hB, ← hh, ← heO]; simp [bne, Int.natCast_eq_zero]; rw [Bool.eq_iff_iff]; simp
  obtain ⟨eN, heN⟩ : ∃ e, e = h &&& 8 := ⟨_, rfl⟩
  have handN : ∀ xo yo, binA Try.prog .and 3 xo yo (.v (.int .i64 (h : Nat))) (.v (.int .i64 8)) = some (.v (.int .i64 (eN : Nat))) := fun xo yo => by rw [heN]; exact binA_andN _ xo yo hlt (by decide)
  obtain ⟨bN, hbN⟩ : ∃ b, b = hB x1 8 := ⟨_, rfl⟩
  have hneN : (((eN : Nat) : Int) != 0) = bN := by rw [hbN, hB, ← hh, ← heN]; simp [bne, Int.natCast_eq_zero]; rw [Bool.eq_iff_iff]; simp
  obtain ⟨eC, heC⟩ : ∃ e, e = h &&& 16 := ⟨_, rfl⟩
  have handC : ∀ xo yo, binA Try.prog .and 3 xo yo (.v (.int .i64 (h : Nat))) (.v (.int .i64 16)) = some (.v (.int .i64 (eC : Nat))) := fun xo yo => by rw [heC]; exact binA_andN _ xo yo hlt (by decide)
  obtain ⟨bC, hbC⟩ : ∃ b, b = hB x1 16 := ⟨_, rfl⟩
  have hneC : (((eC : Nat) : Int) != 0) = bC := by rw [hbC, hB, ← hh, ← heC]; simp [bne, Int.natCast_eq_zero]; rw [Bool.eq_iff_iff]; simp
  obtain ⟨eU, heU⟩ : ∃ e, e = h &&& 32 := ⟨_, rfl⟩
  have handU : ∀ xo yo, binA Try.prog .and 3 xo yo (.v (.int .i64 (h : Nat))) (.v (.int .i64 32)) = some (.v (.int .i64 (eU : Nat))) := fun xo yo => by rw [heU]; exact binA_andN _ xo yo hlt (by decide)
  obtain ⟨bU, hbU⟩ : ∃ b, b = hB x1 32 := ⟨_, rfl⟩
  have hneU : (((eU : Nat) : Int) != 0) = bU := by rw [hbU, hB, ← hh, ← heU]; simp [bne, Int.natCast_eq_zero]; rw [Bool.eq_iff_iff]; simp
  obtain ⟨eP, heP⟩ : ∃ e, e = h &&& 64 := ⟨_, rfl⟩
  have handP : ∀ xo yo, binA Try.prog .and 3 xo yo (.v (.int .i64 (h : Nat))) (.v (.int .i64 64)) = some (.v (.int .i64 (eP : Nat))) := fun xo yo => by rw [heP]; exact binA_andN _ xo yo hlt (by decide)
  obtain ⟨bP, hbP⟩ : ∃ b, b = hB x1 64 := ⟨_, rfl⟩
  have hneP : (((eP : Nat) : Int) != 0) = bP := by rw [hbP, hB, ← hh, ← heP]; simp [bne, Int.natCast_eq_zero]; rw [Bool.eq_iff_iff]; simp
  obtain ⟨eM, heM⟩ : ∃ e, e = h &&& 128 := ⟨_, rfl⟩
  have handM : ∀ xo yo, binA Try.prog .and 3 xo yo (.v (.int .i64 (h : Nat))) (.v (.int .i64 128)) = some (.v (.int .i64 (eM : Nat))) := fun xo yo => by rw [heM]; exact binA_andN _ xo yo hlt (by decide)
  obtain ⟨bM, hbM⟩ : ∃ b, b = hB x1 128 := ⟨_, rfl⟩
  have hneM : (((eM : Nat) : Int) != 0) = bM := by rw [hbM, hB, ← hh, ← heM]; simp [bne, Int.natCast_eq_zero]; rw [Bool.eq_iff_iff]; simp
  obtain ⟨eQ, heQ⟩ : ∃ e, e = h &&& 256 := ⟨_, rfl⟩
  have handQ : ∀ xo yo, binA Try.prog .and 3 xo yo (.v (.int .i64 (h : Nat))) (.v (.int .i64 256)) = some (.v (.int .i64 (eQ : Nat))) := fun xo yo => by rw [heQ]; exact binA_andN _ xo yo hlt (by decide)
  obtain ⟨bQ, hbQ⟩ : ∃ b, b = hB x1 256 := ⟨_, rfl⟩
  have hneQ : (((eQ : Nat) : Int) != 0) = bQ := by rw [hbQ, hB, ← hh, ← heQ]; simp [bne, Int.natCast_eq_zero]; rw [Bool.eq_iff_iff]; simp
  obtain ⟨eJ, heJ⟩ : ∃ e, e = h &&& 512 := ⟨_, rfl⟩
  have handJ : ∀ xo yo, binA Try.prog .and 3 xo yo (.v (.int .i64 (h : Nat))) (.v (.int .i64 512)) = some (.v (.int .i64 (eJ : Nat))) := fun xo yo => by rw [heJ]; exact binA_andN _ xo yo hlt (by decide)
  obtain ⟨bJ, hbJ⟩ : ∃ b, b = hB x1 512 := ⟨_, rfl⟩
  have hneJ : (((eJ : Nat) : Int) != 0) = bJ := by rw [hbJ, hB, ← hh, ← heJ]; simp [bne, Int.natCast_eq_zero]; rw [Bool.eq_iff_iff]; simp
  have heqE : (((eE : Nat) : Int) == 0) = !bE := by rw [← hneE]; simp [bne]
  have hW : ∀ j, (bJ && x14) = j → WkL [.v (.int .u8 x1.toNat), .v (.int .u8 (bif bE then 0 else x2 : UInt8).toNat), .v (.int .u64 (bif bE then 0 else x3 : Nat)), allA (!bE) x4, .v (.int .u8 (bif bT then x5 else 0 : UInt8).toNat), .v (.int .u8 (bif bV then x6 else 0 : UInt8).toNat), .v (.int .u8 (bif bO then x7 else 0 : UInt8).toNat), .v (.int .u64 (limb (bif bN then x8.v else 0 : Nat) 0)), .v (.int .u64 (limb (bif bN then x8.v else 0 : Nat) 1)), .v (.int .u64 (limb (bif bN then x8.v else 0 : Nat) 2)), .v (.int .u64 (limb (bif bN then x8.v else 0 : Nat) 3)), allA bC x9, outA bU x10, .v (.int .u8 (bif bP then xpk else 0 : UInt8).toNat), .v (.int .u64 (bif bP then xps else 0 : Nat)), .v (.int .u64 (bif bP then xpe else 0 : Nat)), allA bP xpt, perA bP xpq, .v (.int .u64 (bif bM then x12 else 0 : Nat)), .v (.int .u16 (bif bQ then x13 else 0 : Nat)), .v (.bool j)] (msgC A) := by
    intro j hj
    rw [hA]
    simp only [msgC, onlyM, ← hbE, ← hbT, ← hbV, ← hbO, ← hbN, ← hbC, ← hbU, ← hbP, ← hbM, ← hbQ, ← hbJ]
    refine .cons (Wk.refl _) (.cons (Wk.refl _) (.cons (wk_eq ?_) (.cons (wk_all ?_) (.cons (Wk.refl _) (.cons (Wk.refl _) (.cons (Wk.refl _) (.cons (wk_eq ?_) (.cons (wk_eq ?_) (.cons (wk_eq ?_) (.cons (wk_eq ?_) (.cons (wk_all ?_) (.cons (wk_out ?_) (.cons (wk_eq ?_) (.cons (wk_eq ?_) (.cons (wk_eq ?_) (.cons (wk_all ?_) (.cons (wk_per ?_) (.cons (Wk.refl _) (.cons (Wk.refl _) (.cons (wk_eq ?_) .nil))))))))))))))))))))
    all_goals first | rfl | (cases bE <;> rfl) | (cases bN <;> rfl) | (cases bP <;> rfl) | (rw [hj])
  clear hA hh hbE hbT hbV hbO hbN hbC hbU hbP hbM hbQ hbJ heE heT heV heO heN heC heU heP heM heQ heJ
  have hd21 : ∀ f : Nat → AV, List.drop 21 (List.map f (List.range 21)) = [] := fun _ => rfl
  have hl0 : ∀ i, limb 0 i = 0 := by intro i; simp [limb]
  have ic1 : ∀ (b : Bool) (l : List Coin), (allA b l).isCell = true := fun b l => by cases b <;> rfl
  have ic2 : ∀ (b : Bool) (l : List Out), (outA b l).isCell = true := fun b l => by cases b <;> rfl
  have ic3 : ∀ (b : Bool) (l : List Per), (perA b l).isCell = true := fun b l => by cases b <;> rfl
  simp only [AV.isCell] at ic1 ic2 ic3
  have F := And.intro hd21 (And.intro hl0 (And.intro ic1 (And.intro ic2 (And.intro ic3 (And.intro handE (And.intro handT (And.intro handV (And.intro handO (And.intro handN (And.intro handC (And.intro handU (And.intro handP (And.intro handM (And.intro handQ (And.intro handJ (And.intro hneE (And.intro hneT (And.intro hneV (And.intro hneO (And.intro hneN (And.intro hneC (And.intro hneU (And.intro hneP (And.intro hneM (And.intro hneQ (And.intro hneJ (And.intro heqE (True.intro))))))))))))))))))))))))))))
  refine callsA_body Try.func96 rfl rfl rfl ?_; refine sr fun _ hJ2 => ?_; refine hJ2 _ _ ?_; refine sr fun _ hJ4 => ?_; refine cb (c := hhas _) (k := ?_); refine hJ4 _ _ ?_; refine sr fun _ hJ6 => ?_; refine hJ6 _ _ ?_; refine sqc (X := Unit) [1, 2, 3, 5] (fun z ρ σ1 => (σ1 = { σ with objs := σ.objs ++ [msgC ⟨x1, x2, x3, x4, x5, x6, x7, x8, x9, x10, ⟨xpk, xps, xpe, xpt, xpq⟩, x12, x13, x14⟩, [.v (.int .u8 0), .v (.int .u8 0), .v (.int .u64 0), .sl 0 [] 0 .full, .v (.int .u8 0), .v (.int .u8 0), .v (.int .u8 0), .v (.int .u64 0), .v (.int .u64 0), .v (.int .u64 0), .v (.int .u64 0), .sl 0 [] 0 .full, .sl 0 [] 0 .full, .v (.int .u8 0), .v (.int .u64 0), .v (.int .u64 0), .sl 0 [] 0 .full, .sl 0 [] 0 .full, .v (.int .u64 0), .v (.int .u16 0), .v (.bool false)], [.v (.int .u8 x1.toNat), .v (.int .u8 (bif bE then 0 else x2 : UInt8).toNat), .v (.int .u64 (bif bE then 0 else x3 : Nat)), allA (!bE) x4, .v (.int .u8 0), .v (.int .u8 0), .v (.int .u8 0), .v (.int .u64 0), .v (.int .u64 0), .v (.int .u64 0), .v (.int .u64 0), .sl 0 [] 0 .full, .sl 0 [] 0 .full, .v (.int .u8 0), .v (.int .u64 0), .v (.int .u64 0), .sl 0 [] 0 .full, .sl 0 [] 0 .full, .v (.int .u64 0), .v (.int .u16 0), .v (.bool false)]] })) ?cy7 ?cx7
  case cy7 =>
   rintro z ρCc17 σ1 hFCc17 hσ; obtain rfl := hσ.symm
   have fCc17 := keepL hFCc17
   (try simp [KeepL, F] at fCc17); (try replace F := aF fCc17 F); refine sqc (X := Unit) [1, 2, 3, 5] (fun z ρ σ1 => (σ1 = { σ with objs := σ.objs ++ [msgC ⟨x1, x2, x3, x4, x5, x6, x7, x8, x9, x10, ⟨xpk, xps, xpe, xpt, xpq⟩, x12, x13, x14⟩, [.v (.int .u8 0), .v (.int .u8 0), .v (.int .u64 0), .sl 0 [] 0 .full, .v (.int .u8 0), .v (.int .u8 0), .v (.int .u8 0), .v (.int .u64 0), .v (.int .u64 0), .v (.int .u64 0), .v (.int .u64 0), .sl 0 [] 0 .full, .sl 0 [] 0 .full, .v (.int .u8 0), .v (.int .u64 0), .v (.int .u64 0), .sl 0 [] 0 .full, .sl 0 [] 0 .full, .v (.int .u64 0), .v (.int .u16 0), .v (.bool false)], [.v (.int .u8 x1.toNat), .v (.int .u8 (bif bE then 0 else x2 : UInt8).toNat), .v (.int .u64 (bif bE then 0 else x3 : Nat)), allA (!bE) x4, .v (.int .u8 (bif bT then x5 else 0 : UInt8).toNat), .v (.int .u8 0), .v (.int .u8 0), .v (.int .u64 0), .v (.int .u64 0), .v (.int .u64 0), .v (.int .u64 0), .sl 0 [] 0 .full, .sl 0 [] 0 .full, .v (.int .u8 0), .v (.int .u64 0), .v (.int .u64 0), .sl 0 [] 0 .full, .sl 0 [] 0 .full, .v (.int .u64 0), .v (.int .u16 0), .v (.bool false)]] })) ?cy8 ?cx8
   case cy8 =>
    rintro z ρCc29 σ1 hFCc29 hσ; obtain rfl := hσ.symm
    have fCc29 := keepL hFCc29
    (try simp [KeepL, F] at fCc29); (try replace F := aF fCc29 F); refine sqc (X := Unit) [1, 2, 3, 5] (fun z ρ σ1 => (σ1 = { σ with objs := σ.objs ++ [msgC ⟨x1, x2, x3, x4, x5, x6, x7, x8, x9, x10, ⟨xpk, xps, xpe, xpt, xpq⟩, x12, x13, x14⟩, [.v (.int .u8 0), .v (.int .u8 0), .v (.int .u64 0), .sl 0 [] 0 .full, .v (.int .u8 0), .v (.int .u8 0), .v (.int .u8 0), .v (.int .u64 0), .v (.int .u64 0), .v (.int .u64 0), .v (.int .u64 0), .sl 0 [] 0 .full, .sl 0 [] 0 .full, .v (.int .u8 0), .v (.int .u64 0), .v (.int .u64 0), .sl 0 [] 0 .full, .sl 0 [] 0 .full, .v (.int .u64 0), .v (.int .u16 0), .v (.bool false)], [.v (.int .u8 x1.toNat), .v (.int .u8 (bif bE then 0 else x2 : UInt8).toNat), .v (.int .u64 (bif bE then 0 else x3 : Nat)), allA (!bE) x4, .v (.int .u8 (bif bT then x5 else 0 : UInt8).toNat), .v (.int .u8 (bif bV then x6 else 0 : UInt8).toNat), .v (.int .u8 0), .v (.int .u64 0), .v (.int .u64 0), .v (.int .u64 0), .v (.int .u64 0), .sl 0 [] 0 .full, .sl 0 [] 0 .full, .v (.int .u8 0), .v (.int .u64 0), .v (.int .u64 0), .sl 0 [] 0 .full, .sl 0 [] 0 .full, .v (.int .u64 0), .v (.int .u16 0), .v (.bool false)]] })) ?cy9 ?cx9
    case cy9 =>
     rintro z ρCc35 σ1 hFCc35 hσ; obtain rfl := hσ.symm
     have fCc35 := keepL hFCc35
     (try simp [KeepL, F] at fCc35); (try replace F := aF fCc35 F); refine sqc (X := Unit) [1, 2, 3, 5] (fun z ρ σ1 => (σ1 = { σ with objs := σ.objs ++ [msgC ⟨x1, x2, x3, x4, x5, x6, x7, x8, x9, x10, ⟨xpk, xps, xpe, xpt, xpq⟩, x12, x13, x14⟩, [.v (.int .u8 0), .v (.int .u8 0), .v (.int .u64 0), .sl 0 [] 0 .full, .v (.int .u8 0), .v (.int .u8 0), .v (.int .u8 0), .v (.int .u64 0), .v (.int .u64 0), .v (.int .u64 0), .v (.int .u64 0), .sl 0 [] 0 .full, .sl 0 [] 0 .full, .v (.int .u8 0), .v (.int .u64 0), .v (.int .u64 0), .sl 0 [] 0 .full, .sl 0 [] 0 .full, .v (.int .u64 0), .v (.int .u16 0), .v (.bool false)], [.v (.int .u8 x1.toNat), .v (.int .u8 (bif bE then 0 else x2 : UInt8).toNat), .v (.int .u64 (bif bE then 0 else x3 : Nat)), allA (!bE) x4, .v (.int .u8 (bif bT then x5 else 0 : UInt8).toNat), .v (.int .u8 (bif bV then x6 else 0 : UInt8).toNat), .v (.int .u8 (bif bO then x7 else 0 : UInt8).toNat), .v (.int .u64 0), .v (.int .u64 0), .v (.int .u64 0), .v (.int .u64 0), .sl 0 [] 0 .full, .sl 0 [] 0 .full, .v (.int .u8 0), .v (.int .u64 0), .v (.int .u64 0), .sl 0 [] 0 .full, .sl 0 [] 0 .full, .v (.int .u64 0), .v (.int .u16 0), .v (.bool false)]] })) ?cy10 ?cx10
     case cy10 =>
      rintro z ρCc41 σ1 hFCc41 hσ; obtain rfl := hσ.symm
      have fCc41 := keepL hFCc41
      (try simp [KeepL, F] at fCc41); (try replace F := aF fCc41 F); refine sqc (X := Unit) [1, 2, 3, 5] (fun z ρ σ1 => (σ1 = { σ with objs := σ.objs ++ [msgC ⟨x1, x2, x3, x4, x5, x6, x7, x8, x9, x10, ⟨xpk, xps, xpe, xpt, xpq⟩, x12, x13, x14⟩, [.v (.int .u8 0), .v (.int .u8 0), .v (.int .u64 0), .sl 0 [] 0 .full, .v (.int .u8 0), .v (.int .u8 0), .v (.int .u8 0), .v (.int .u64 0), .v (.int .u64 0), .v (.int .u64 0), .v (.int .u64 0), .sl 0 [] 0 .full, .sl 0 [] 0 .full, .v (.int .u8 0), .v (.int .u64 0), .v (.int .u64 0), .sl 0 [] 0 .full, .sl 0 [] 0 .full, .v (.int .u64 0), .v (.int .u16 0), .v (.bool false)], [.v (.int .u8 x1.toNat), .v (.int .u8 (bif bE then 0 else x2 : UInt8).toNat), .v (.int .u64 (bif bE then 0 else x3 : Nat)), allA (!bE) x4, .v (.int .u8 (bif bT then x5 else 0 : UInt8).toNat), .v (.int .u8 (bif bV then x6 else 0 : UInt8).toNat), .v (.int .u8 (bif bO then x7 else 0 : UInt8).toNat), .v (.int .u64 (limb (bif bN then x8.v else 0 : Nat) 0)), .v (.int .u64 (limb (bif bN then x8.v else 0 : Nat) 1)), .v (.int .u64 (limb (bif bN then x8.v else 0 : Nat) 2)), .v (.int .u64 (limb (bif bN then x8.v else 0 : Nat) 3)), .sl 0 [] 0 .full, .sl 0 [] 0 .full, .v (.int .u8 0), .v (.int .u64 0), .v (.int .u64 0), .sl 0 [] 0 .full, .sl 0 [] 0 .full, .v (.int .u64 0), .v (.int .u16 0), .v (.bool false)]] })) ?cy11 ?cx11
      case cy11 =>
       rintro z ρCc47 σ1 hFCc47 hσ; obtain rfl := hσ.symm
       have fCc47 := keepL hFCc47
       (try simp [KeepL, F] at fCc47); (try replace F := aF fCc47 F); refine sqc (X := Unit) [1, 2, 3, 5] (fun z ρ σ1 => (σ1 = { σ with objs := σ.objs ++ [msgC ⟨x1, x2, x3, x4, x5, x6, x7, x8, x9, x10, ⟨xpk, xps, xpe, xpt, xpq⟩, x12, x13, x14⟩, [.v (.int .u8 0), .v (.int .u8 0), .v (.int .u64 0), .sl 0 [] 0 .full, .v (.int .u8 0), .v (.int .u8 0), .v (.int .u8 0), .v (.int .u64 0), .v (.int .u64 0), .v (.int .u64 0), .v (.int .u64 0), .sl 0 [] 0 .full, .sl 0 [] 0 .full, .v (.int .u8 0), .v (.int .u64 0), .v (.int .u64 0), .sl 0 [] 0 .full, .sl 0 [] 0 .full, .v (.int .u64 0), .v (.int .u16 0), .v (.bool false)], [.v (.int .u8 x1.toNat), .v (.int .u8 (bif bE then 0 else x2 : UInt8).toNat), .v (.int .u64 (bif bE then 0 else x3 : Nat)), allA (!bE) x4, .v (.int .u8 (bif bT then x5 else 0 : UInt8).toNat), .v (.int .u8 (bif bV then x6 else 0 : UInt8).toNat), .v (.int .u8 (bif bO then x7 else 0 : UInt8).toNat), .v (.int .u64 (limb (bif bN then x8.v else 0 : Nat) 0)), .v (.int .u64 (limb (bif bN then x8.v else 0 : Nat) 1)), .v (.int .u64 (limb (bif bN then x8.v else 0 : Nat) 2)), .v (.int .u64 (limb (bif bN then x8.v else 0 : Nat) 3)), allA bC x9, .sl 0 [] 0 .full, .v (.int .u8 0), .v (.int .u64 0), .v (.int .u64 0), .sl 0 [] 0 .full, .sl 0 [] 0 .full, .v (.int .u64 0), .v (.int .u16 0), .v (.bool false)]] })) ?cy12 ?cx12
       case cy12 =>
        rintro z ρCc53 σ1 hFCc53 hσ; obtain rfl := hσ.symm
        have fCc53 := keepL hFCc53
        (try simp [KeepL, F] at fCc53); (try replace F := aF fCc53 F); refine sqc (X := Unit) [1, 2, 3, 5] (fun z ρ σ1 => (σ1 = { σ with objs := σ.objs ++ [msgC ⟨x1, x2, x3, x4, x5, x6, x7, x8, x9, x10, ⟨xpk, xps, xpe, xpt, xpq⟩, x12, x13, x14⟩, [.v (.int .u8 0), .v (.int .u8 0), .v (.int .u64 0), .sl 0 [] 0 .full, .v (.int .u8 0), .v (.int .u8 0), .v (.int .u8 0), .v (.int .u64 0), .v (.int .u64 0), .v (.int .u64 0), .v (.int .u64 0), .sl 0 [] 0 .full, .sl 0 [] 0 .full, .v (.int .u8 0), .v (.int .u64 0), .v (.int .u64 0), .sl 0 [] 0 .full, .sl 0 [] 0 .full, .v (.int .u64 0), .v (.int .u16 0), .v (.bool false)], [.v (.int .u8 x1.toNat), .v (.int .u8 (bif bE then 0 else x2 : UInt8).toNat), .v (.int .u64 (bif bE then 0 else x3 : Nat)), allA (!bE) x4, .v (.int .u8 (bif bT then x5 else 0 : UInt8).toNat), .v (.int .u8 (bif bV then x6 else 0 : UInt8).toNat), .v (.int .u8 (bif bO then x7 else 0 : UInt8).toNat), .v (.int .u64 (limb (bif bN then x8.v else 0 : Nat) 0)), .v (.int .u64 (limb (bif bN then x8.v else 0 : Nat) 1)), .v (.int .u64 (limb (bif bN then x8.v else 0 : Nat) 2)), .v (.int .u64 (limb (bif bN then x8.v else 0 : Nat) 3)), allA bC x9, outA bU x10, .v (.int .u8 0), .v (.int .u64 0), .v (.int .u64 0), .sl 0 [] 0 .full, .sl 0 [] 0 .full, .v (.int .u64 0), .v (.int .u16 0), .v (.bool false)]] })) ?cy13 ?cx13
        case cy13 =>
         rintro z ρCc59 σ1 hFCc59 hσ; obtain rfl := hσ.symm
         have fCc59 := keepL hFCc59
         (try simp [KeepL, F] at fCc59); (try replace F := aF fCc59 F); refine sqc (X := Unit) [1, 2, 3, 5] (fun z ρ σ1 => (σ1 = { σ with objs := σ.objs ++ [msgC ⟨x1, x2, x3, x4, x5, x6, x7, x8, x9, x10, ⟨xpk, xps, xpe, xpt, xpq⟩, x12, x13, x14⟩, [.v (.int .u8 0), .v (.int .u8 0), .v (.int .u64 0), .sl 0 [] 0 .full, .v (.int .u8 0), .v (.int .u8 0), .v (.int .u8 0), .v (.int .u64 0), .v (.int .u64 0), .v (.int .u64 0), .v (.int .u64 0), .sl 0 [] 0 .full, .sl 0 [] 0 .full, .v (.int .u8 0), .v (.int .u64 0), .v (.int .u64 0), .sl 0 [] 0 .full, .sl 0 [] 0 .full, .v (.int .u64 0), .v (.int .u16 0), .v (.bool false)], [.v (.int .u8 x1.toNat), .v (.int .u8 (bif bE then 0 else x2 : UInt8).toNat), .v (.int .u64 (bif bE then 0 else x3 : Nat)), allA (!bE) x4, .v (.int .u8 (bif bT then x5 else 0 : UInt8).toNat), .v (.int .u8 (bif bV then x6 else 0 : UInt8).toNat), .v (.int .u8 (bif bO then x7 else 0 : UInt8).toNat), .v (.int .u64 (limb (bif bN then x8.v else 0 : Nat) 0)), .v (.int .u64 (limb (bif bN then x8.v else 0 : Nat) 1)), .v (.int .u64 (limb (bif bN then x8.v else 0 : Nat) 2)), .v (.int .u64 (limb (bif bN then x8.v else 0 : Nat) 3)), allA bC x9, outA bU x10, .v (.int .u8 (bif bP then xpk else 0 : UInt8).toNat), .v (.int .u64 (bif bP then xps else 0 : Nat)), .v (.int .u64 (bif bP then xpe else 0 : Nat)), allA bP xpt, perA bP xpq, .v (.int .u64 0), .v (.int .u16 0), .v (.bool false)]] })) ?cy14 ?cx14
         case cy14 =>
          rintro z ρCc65 σ1 hFCc65 hσ; obtain rfl := hσ.symm
          have fCc65 := keepL hFCc65
          (try simp [KeepL, F] at fCc65); (try replace F := aF fCc65 F); refine sqc (X := Unit) [1, 2, 3, 5] (fun z ρ σ1 => (σ1 = { σ with objs := σ.objs ++ [msgC ⟨x1, x2, x3, x4, x5, x6, x7, x8, x9, x10, ⟨xpk, xps, xpe, xpt, xpq⟩, x12, x13, x14⟩, [.v (.int .u8 0), .v (.int .u8 0), .v (.int .u64 0), .sl 0 [] 0 .full, .v (.int .u8 0), .v (.int .u8 0), .v (.int .u8 0), .v (.int .u64 0), .v (.int .u64 0), .v (.int .u64 0), .v (.int .u64 0), .sl 0 [] 0 .full, .sl 0 [] 0 .full, .v (.int .u8 0), .v (.int .u64 0), .v (.int .u64 0), .sl 0 [] 0 .full, .sl 0 [] 0 .full, .v (.int .u64 0), .v (.int .u16 0), .v (.bool false)], [.v (.int .u8 x1.toNat), .v (.int .u8 (bif bE then 0 else x2 : UInt8).toNat), .v (.int .u64 (bif bE then 0 else x3 : Nat)), allA (!bE) x4, .v (.int .u8 (bif bT then x5 else 0 : UInt8).toNat), .v (.int .u8 (bif bV then x6 else 0 : UInt8).toNat), .v (.int .u8 (bif bO then x7 else 0 : UInt8).toNat), .v (.int .u64 (limb (bif bN then x8.v else 0 : Nat) 0)), .v (.int .u64 (limb (bif bN then x8.v else 0 : Nat) 1)), .v (.int .u64 (limb (bif bN then x8.v else 0 : Nat) 2)), .v (.int .u64 (limb (bif bN then x8.v else 0 : Nat) 3)), allA bC x9, outA bU x10, .v (.int .u8 (bif bP then xpk else 0 : UInt8).toNat), .v (.int .u64 (bif bP then xps else 0 : Nat)), .v (.int .u64 (bif bP then xpe else 0 : Nat)), allA bP xpt, perA bP xpq, .v (.int .u64 (bif bM then x12 else 0 : Nat)), .v (.int .u16 0), .v (.bool false)]] })) ?cy15 ?cx15
          case cy15 =>
           rintro z ρCc71 σ1 hFCc71 hσ; obtain rfl := hσ.symm
           have fCc71 := keepL hFCc71
           (try simp [KeepL, F] at fCc71); (try replace F := aF fCc71 F); refine sqc (X := Unit) [1, 2, 3, 5] (fun z ρ σ1 => (σ1 = { σ with objs := σ.objs ++ [msgC ⟨x1, x2, x3, x4, x5, x6, x7, x8, x9, x10, ⟨xpk, xps, xpe, xpt, xpq⟩, x12, x13, x14⟩, [.v (.int .u8 0), .v (.int .u8 0), .v (.int .u64 0), .sl 0 [] 0 .full, .v (.int .u8 0), .v (.int .u8 0), .v (.int .u8 0), .v (.int .u64 0), .v (.int .u64 0), .v (.int .u64 0), .v (.int .u64 0), .sl 0 [] 0 .full, .sl 0 [] 0 .full, .v (.int .u8 0), .v (.int .u64 0), .v (.int .u64 0), .sl 0 [] 0 .full, .sl 0 [] 0 .full, .v (.int .u64 0), .v (.int .u16 0), .v (.bool false)], [.v (.int .u8 x1.toNat), .v (.int .u8 (bif bE then 0 else x2 : UInt8).toNat), .v (.int .u64 (bif bE then 0 else x3 : Nat)), allA (!bE) x4, .v (.int .u8 (bif bT then x5 else 0 : UInt8).toNat), .v (.int .u8 (bif bV then x6 else 0 : UInt8).toNat), .v (.int .u8 (bif bO then x7 else 0 : UInt8).toNat), .v (.int .u64 (limb (bif bN then x8.v else 0 : Nat) 0)), .v (.int .u64 (limb (bif bN then x8.v else 0 : Nat) 1)), .v (.int .u64 (limb (bif bN then x8.v else 0 : Nat) 2)), .v (.int .u64 (limb (bif bN then x8.v else 0 : Nat) 3)), allA bC x9, outA bU x10, .v (.int .u8 (bif bP then xpk else 0 : UInt8).toNat), .v (.int .u64 (bif bP then xps else 0 : Nat)), .v (.int .u64 (bif bP then xpe else 0 : Nat)), allA bP xpt, perA bP xpq, .v (.int .u64 (bif bM then x12 else 0 : Nat)), .v (.int .u16 (bif bQ then x13 else 0 : Nat)), .v (.bool false)]] })) ?cy16 ?cx16
           case cy16 =>
            rintro z ρCc77 σ1 hFCc77 hσ; obtain rfl := hσ.symm
            have fCc77 := keepL hFCc77
            (try simp [KeepL, F] at fCc77); (try replace F := aF fCc77 F); refine sr fun _ hJ18 => ?_; refine gs 84 (fun g23_3 => ?_) (fun g23_3 => ?_)
            · try exact nope g23_3
              all_goals
               replace F := wf F g23_3; (iterate 2 refine go2 (k := ?_)); refine hJ18 _ _ ?_; refine sr fun _ hJ20 => ?_; refine hJ20 _ _ ?_; refine run_ret ?_; (try simp only [Then, InBlock, NoGoto]); refine acell (h := ?_)
               show Wk _ _ ∧ _
               refine gcr (hA := ?_); exact WkL.agg (hW _ (by simp [F]))
            try exact nope g23_3
            all_goals
             replace F := wf F g23_3; (iterate 2 refine no2 (k := ?_)); refine hJ18 _ _ ?_; refine sr fun _ hJ22 => ?_; refine hJ22 _ _ ?_; refine run_ret ?_; (try simp only [Then, InBlock, NoGoto]); refine acell (h := ?_)
             show Wk _ _ ∧ _
             refine gcr (hA := ?_); exact WkL.agg (hW _ (by simp [F]))
           case cx16 =>
            intro K16 hK16
            refine sr fun _ hJ24 => ?_; refine hJ24 _ _ ?_; refine cs (t := bQ) (fun c77 => ?_) (fun c77 => ?_)
            · try exact nope c77
              all_goals
               replace F := wf F c77; refine rg' (h := fun J25 hJ25 => ?_); refine hJ25 _ _ ?_; refine hK16 (()) _ _ ⟨kp, ?_⟩
               · simp [F]
            try exact nope c77
            all_goals
             replace F := wf F c77; refine run_skip ?_; refine hK16 (()) _ _ ⟨kp, ?_⟩
             · simp [F]
          case cx15 =>
           intro K15 hK15
           refine sr fun _ hJ27 => ?_; refine hJ27 _ _ ?_; refine cs (t := bM) (fun c71 => ?_) (fun c71 => ?_)
           · try exact nope c71
             all_goals
              replace F := wf F c71; refine rg' (h := fun J28 hJ28 => ?_); refine hJ28 _ _ ?_; refine hK15 (()) _ _ ⟨kp, ?_⟩
              · simp [F]
           try exact nope c71
           all_goals
            replace F := wf F c71; refine run_skip ?_; refine hK15 (()) _ _ ⟨kp, ?_⟩
            · simp [F]
         case cx14 =>
          intro K14 hK14
          refine sr fun _ hJ30 => ?_; refine hJ30 _ _ ?_; refine cs (t := bP) (fun c65 => ?_) (fun c65 => ?_)
          · try exact nope c65
            all_goals
             replace F := wf F c65; refine rg' (h := fun J31 hJ31 => ?_); refine hJ31 _ _ ?_; refine hK14 (()) _ _ ⟨kp, ?_⟩
             · simp [F]
          try exact nope c65
          all_goals
           replace F := wf F c65; refine run_skip ?_; refine hK14 (()) _ _ ⟨kp, ?_⟩
           · simp [F]
        case cx13 =>
         intro K13 hK13
         refine sr fun _ hJ33 => ?_; refine hJ33 _ _ ?_; refine cs (t := bU) (fun c59 => ?_) (fun c59 => ?_)
         · try exact nope c59
           all_goals
            replace F := wf F c59; refine rg' (h := fun J34 hJ34 => ?_); refine hJ34 _ _ ?_; refine hK13 (()) _ _ ⟨kp, ?_⟩
            · simp [F]
         try exact nope c59
         all_goals
          replace F := wf F c59; refine run_skip ?_; refine hK13 (()) _ _ ⟨kp, ?_⟩
          · simp [F]
       case cx12 =>
        intro K12 hK12
        refine sr fun _ hJ36 => ?_; refine hJ36 _ _ ?_; refine cs (t := bC) (fun c53 => ?_) (fun c53 => ?_)
        · try exact nope c53
          all_goals
           replace F := wf F c53; refine rg' (h := fun J37 hJ37 => ?_); refine hJ37 _ _ ?_; refine hK12 (()) _ _ ⟨kp, ?_⟩
           · simp [F]
        try exact nope c53
        all_goals
         replace F := wf F c53; refine run_skip ?_; refine hK12 (()) _ _ ⟨kp, ?_⟩
         · simp [F]
      case cx11 =>
       intro K11 hK11
       refine sr fun _ hJ39 => ?_; refine hJ39 _ _ ?_; refine cs (t := bN) (fun c47 => ?_) (fun c47 => ?_)
       · try exact nope c47
         all_goals
          replace F := wf F c47; refine rg' (h := fun J40 hJ40 => ?_); refine hJ40 _ _ ?_; refine hK11 (()) _ _ ⟨kp, ?_⟩
          · simp [F]
       try exact nope c47
       all_goals
        replace F := wf F c47; refine run_skip ?_; refine hK11 (()) _ _ ⟨kp, ?_⟩
        · simp [F]
     case cx10 =>
      intro K10 hK10
      refine sr fun _ hJ42 => ?_; refine hJ42 _ _ ?_; refine cs (t := bO) (fun c41 => ?_) (fun c41 => ?_)
      · try exact nope c41
        all_goals
         replace F := wf F c41; refine rg' (h := fun J43 hJ43 => ?_); refine hJ43 _ _ ?_; refine hK10 (()) _ _ ⟨kp, ?_⟩
         · simp [F]
      try exact nope c41
      all_goals
       replace F := wf F c41; refine run_skip ?_; refine hK10 (()) _ _ ⟨kp, ?_⟩
       · simp [F]
    case cx9 =>
     intro K9 hK9
     refine sr fun _ hJ45 => ?_; refine hJ45 _ _ ?_; refine cs (t := bV) (fun c35 => ?_) (fun c35 => ?_)
     · try exact nope c35
       all_goals
        replace F := wf F c35; refine rg' (h := fun J46 hJ46 => ?_); refine hJ46 _ _ ?_; refine hK9 (()) _ _ ⟨kp, ?_⟩
        · simp [F]
     try exact nope c35
     all_goals
      replace F := wf F c35; refine run_skip ?_; refine hK9 (()) _ _ ⟨kp, ?_⟩
      · simp [F]
   case cx8 =>
    intro K8 hK8
    refine sr fun _ hJ48 => ?_; refine hJ48 _ _ ?_; refine cs (t := bT) (fun c29 => ?_) (fun c29 => ?_)
    · try exact nope c29
      all_goals
       replace F := wf F c29; refine rg' (h := fun J49 hJ49 => ?_); refine hJ49 _ _ ?_; refine hK8 (()) _ _ ⟨kp, ?_⟩
       · simp [F]
    try exact nope c29
    all_goals
     replace F := wf F c29; refine run_skip ?_; refine hK8 (()) _ _ ⟨kp, ?_⟩
     · simp [F]
  case cx7 =>
   intro K7 hK7
   refine sr fun _ hJ51 => ?_; refine hJ51 _ _ ?_; refine cs (t := !bE) (fun c17 => ?_) (fun c17 => ?_)
   · try exact nope c17
     all_goals
      replace F := wf F c17
      refine run_draw (by kernel_rfl) fun J52 hJ52 => ?_
      refine rp2 0 (k := ?_); refine rp2 1 (k := ?_); refine rp2 2 (k := ?_); refine rp2 3 (k := ?_); refine rp2 4 (k := ?_); refine rp2 5 (k := ?_); refine rp2 6 (k := ?_); refine dop 7 rfl ?_; repeat (first | simp [F] | simp (disch := omega) only [wC, if_pos, if_neg])
      refine ⟨by first | exact fun _ _ h => h | (refine later_list [5, 4, 3, 2] (by kernel_rfl) (fc2 ?_ <| fc2 ?_ <| fc2 ?_ <| fc2 ?_ <| fn0) <;> constructor <;> first | rfl | (simp [F]; done)), ?_⟩
      refine rp2 8 (k := ?_); refine dop 9 rfl ?_; repeat (first | simp [F] | simp (disch := omega) only [wC, if_pos, if_neg])
      refine ⟨by first | exact fun _ _ h => h | (refine later_list [5, 4] (by kernel_rfl) (fc2 ?_ <| fc2 ?_ <| fn0) <;> constructor <;> first | rfl | (simp [F]; done)), ?_⟩
      refine rp2 10 (k := ?_); refine dop 11 rfl ?_; (repeat (first | simp [F] | simp (disch := omega) only [wC, if_pos, if_neg])); refine ⟨ln, ?_⟩; refine dd ?_; refine hJ52 _ _ ?_; refine hK7 (()) _ _ ⟨kp, ?_⟩
      · simp [F]
   try exact nope c17
   all_goals
    replace F := wf F c17; refine run_skip ?_; refine hK7 (()) _ _ ⟨kp, ?_⟩
    · simp [F]

set_option maxHeartbeats 1600000 in
attribute [local simp] undefA List.getElem?_cons_zero List.getElem?_cons_succ msgC outsC_noObj persC_noObj in
theorem rmonly_ok {σ : St} {m : Msg} :
    CallsA Try.prog 101 [.agg (msgC m)] σ (fun av σ' => av = .agg (msgC (onlyM m)) ∧ σ = σ') := by
  refine callsA_gcS ?_ (by simp [AV.under, underL, msgC, persC_under, outsC_under])
  obtain ⟨x1, x2, x3, x4, x5, x6, x7, x8, x9, x10, x11, x12, x13, x14⟩ := m
  obtain ⟨xpk, xps, xpe, xpt, xpq⟩ := x11
  have hkn : ∀ n : UInt8, x1 = n ↔ (x1.toNat : Int) = (n.toNat : Int) := fun n => ⟨fun e => by rw [e], fun e => UInt8.toNat_inj.1 (Int.ofNat_inj.1 e)⟩
  have hd21 : ∀ f : Nat → AV, List.drop 21 (List.map f (List.range 21)) = [] := fun _ => rfl
  have hl0 : ∀ i, limb 0 i = 0 := by intro i; simp [limb]
  obtain ⟨B61, hB61⟩ : ∃ b, b = (decide (x1 = 3) || decide (x1 = 4)) := ⟨_, rfl⟩
  obtain ⟨B81, hB81⟩ : ∃ b, b = (decide (x1 = 6) || decide (x1 = 7) || decide (x1 = 11)) := ⟨_, rfl⟩
  obtain ⟨B88, hB88⟩ : ∃ b, b = (decide (x1 = 8) || decide (x1 = 10)) := ⟨_, rfl⟩
  have F := And.intro hd21 (True.intro)
  refine callsA_body Try.func101 rfl rfl rfl ?_; refine sr fun _ hJ2 => ?_; refine hJ2 _ _ ?_; refine sq fun K3 hK3 => ?_; refine sr fun _ hJ5 => ?_; refine hJ5 _ _ ?_; refine run_block_k ?_; refine sr fun _ hJ7 => ?_; refine hJ7 _ _ ?_; refine cs (fun c6 => ?_) (fun c6 => ?_)
  · try exact nope c6
    all_goals
     replace F := wf F c6; refine sr fun _ hJ9 => ?_; refine hJ9 _ _ ?_; refine run_ret ?_; (try simp only [Then, InBlock, NoGoto]); refine acell (h := ?_)
     have hk : x1 = 32 := (hkn 32).2 (by simpa using c6)
     have hv : hasN x1 = 1152 := by rw [hk]; decide
     try subst hk
     show Wk _ _ ∧ _
     refine gcr (hA := WkL.agg ?_); simp [msgC, onlyM, hB, hv, hl0]
     repeat (first | exact WkL.nil | exact WkL.cons (Wk.refl _) WkL.nil | refine WkL.cons (Wk.refl _) ?_ | refine WkL.cons (Wk.nil _ _ _) ?_)
  try exact nope c6
  all_goals
   replace F := wf F c6; refine sr fun _ hJ11 => ?_; refine hJ11 _ _ ?_; refine cs (fun c11 => ?_) (fun c11 => ?_)
   · try exact nope c11
     all_goals
      replace F := wf F c11; refine sr fun _ hJ13 => ?_; refine hJ13 _ _ ?_; refine run_ret ?_; (try simp only [Then, InBlock, NoGoto]); refine acell (h := ?_)
      have hk : x1 = 33 := (hkn 33).2 (by simpa using c11)
      have hv : hasN x1 = 1922 := by rw [hk]; decide
      try subst hk
      show Wk _ _ ∧ _
      refine gcr (hA := WkL.agg ?_); simp [msgC, onlyM, hB, hv, hl0]
      repeat (first | exact WkL.nil | exact WkL.cons (Wk.refl _) WkL.nil | refine WkL.cons (Wk.refl _) ?_ | refine WkL.cons (Wk.nil _ _ _) ?_)
   try exact nope c11
   all_goals
    replace F := wf F c11; refine sr fun _ hJ15 => ?_; refine hJ15 _ _ ?_; refine cs (fun c22 => ?_) (fun c22 => ?_)
    · try exact nope c22
      all_goals
       replace F := wf F c22; refine sr fun _ hJ17 => ?_; refine hJ17 _ _ ?_; refine run_ret ?_; (try simp only [Then, InBlock, NoGoto]); refine acell (h := ?_)
       have hk : x1 = 34 := (hkn 34).2 (by simpa using c22)
       have hv : hasN x1 = 1042 := by rw [hk]; decide
       try subst hk
       show Wk _ _ ∧ _
       refine gcr (hA := WkL.agg ?_); simp [msgC, onlyM, hB, hv, hl0]
       repeat (first | exact WkL.nil | exact WkL.cons (Wk.refl _) WkL.nil | refine WkL.cons (Wk.refl _) ?_ | refine WkL.cons (Wk.nil _ _ _) ?_)
    try exact nope c22
    all_goals
     replace F := wf F c22; refine sr fun _ hJ19 => ?_; refine hJ19 _ _ ?_; refine cs (fun c29 => ?_) (fun c29 => ?_)
     · try exact nope c29
       all_goals
        replace F := wf F c29; refine sr fun _ hJ21 => ?_; refine hJ21 _ _ ?_; refine run_ret ?_; (try simp only [Then, InBlock, NoGoto]); refine acell (h := ?_)
        have hk : x1 = 35 := (hkn 35).2 (by simpa using c29)
        have hv : hasN x1 = 1026 := by rw [hk]; decide
        try subst hk
        show Wk _ _ ∧ _
        refine gcr (hA := WkL.agg ?_); simp [msgC, onlyM, hB, hv, hl0]
        repeat (first | exact WkL.nil | exact WkL.cons (Wk.refl _) WkL.nil | refine WkL.cons (Wk.refl _) ?_ | refine WkL.cons (Wk.nil _ _ _) ?_)
     try exact nope c29
     all_goals
      replace F := wf F c29; refine sr fun _ hJ23 => ?_; refine hJ23 _ _ ?_; refine cs (fun c34 => ?_) (fun c34 => ?_)
      · try exact nope c34
        all_goals
         replace F := wf F c34; refine sr fun _ hJ25 => ?_; refine hJ25 _ _ ?_; refine run_ret ?_; (try simp only [Then, InBlock, NoGoto]); refine acell (h := ?_)
         have hk : x1 = 36 := (hkn 36).2 (by simpa using c34)
         have hv : hasN x1 = 1024 := by rw [hk]; decide
         try subst hk
         show Wk _ _ ∧ _
         refine gcr (hA := WkL.agg ?_); simp [msgC, onlyM, hB, hv, hl0]
         repeat (first | exact WkL.nil | exact WkL.cons (Wk.refl _) WkL.nil | refine WkL.cons (Wk.refl _) ?_ | refine WkL.cons (Wk.nil _ _ _) ?_)
      try exact nope c34
      all_goals
       replace F := wf F c34; refine run_skip ?_; refine hK3 _ _ ?_; refine sr fun _ hJ27 => ?_; refine hJ27 _ _ ?_; refine sq fun K28 hK28 => ?_; refine sr fun _ hJ30 => ?_; refine hJ30 _ _ ?_; refine run_block_k ?_; refine sr fun _ hJ32 => ?_; refine hJ32 _ _ ?_; refine cs (fun c48 => ?_) (fun c48 => ?_)
       · try exact nope c48
         all_goals
          replace F := wf F c48
          refine run_draw (by kernel_rfl) fun J33 hJ33 => ?_
          refine rp2 0 (k := ?_); refine rp2 1 (k := ?_); refine rp2 2 (k := ?_); refine rp2 3 (k := ?_); refine rp2 4 (k := ?_); refine dop 5 rfl ?_; repeat (first | simp [F] | simp (disch := omega) only [wC, if_pos, if_neg])
          refine ⟨by first | exact fun _ _ h => h | (refine later_list [3, 2] (by kernel_rfl) (fc2 ?_ <| fc2 ?_ <| fn0) <;> constructor <;> first | rfl | (simp [F]; done)), ?_⟩
          refine rp2 6 (k := ?_); refine dop 7 rfl ?_; (repeat (first | simp [F] | simp (disch := omega) only [wC, if_pos, if_neg])); refine ⟨ln, ?_⟩; refine dd ?_; refine hJ33 _ _ ?_; refine hK28 _ _ ?_; refine sr fun _ hJ35 => ?_; refine hJ35 _ _ ?_; refine run_ret ?_; (try simp only [Then, InBlock, NoGoto]); refine acell (h := ?_)
          have hk : x1 = 1 := (hkn 1).2 (by simpa using c48)
          have hv : hasN x1 = 17 := by rw [hk]; decide
          try subst hk
          show Wk _ _ ∧ _
          refine gcr (hA := WkL.agg ?_); simp [msgC, onlyM, hB, hv, hl0]
          repeat (first | exact WkL.nil | exact WkL.cons (Wk.refl _) WkL.nil | refine WkL.cons (Wk.refl _) ?_ | refine WkL.cons (Wk.nil _ _ _) ?_)
       try exact nope c48
       all_goals
        replace F := wf F c48; refine sr fun _ hJ37 => ?_; refine hJ37 _ _ ?_; refine cs (fun c56 => ?_) (fun c56 => ?_)
        · try exact nope c56
          all_goals
           replace F := wf F c56; refine rg' (h := fun J38 hJ38 => ?_); refine hJ38 _ _ ?_; refine hK28 _ _ ?_; refine sr fun _ hJ40 => ?_; refine hJ40 _ _ ?_; refine run_ret ?_; (try simp only [Then, InBlock, NoGoto]); refine acell (h := ?_)
           have hk : x1 = 2 := (hkn 2).2 (by simpa using c56)
           have hv : hasN x1 = 32 := by rw [hk]; decide
           try subst hk
           show Wk _ _ ∧ _
           refine gcr (hA := WkL.agg ?_); simp [msgC, onlyM, hB, hv, hl0]
           repeat (first | exact WkL.nil | exact WkL.cons (Wk.refl _) WkL.nil | refine WkL.cons (Wk.refl _) ?_ | refine WkL.cons (Wk.nil _ _ _) ?_)
        try exact nope c56
        all_goals
         replace F := wf F c56; refine sqc (X := Unit) [1, 2, 3, 47] (fun z ρ σ1 => (ρ 61 = .v (.bool B61)) ∧ (σ1 = { σ with objs := σ.objs ++ [msgC ⟨x1, x2, x3, x4, x5, x6, x7, x8, x9, x10, ⟨xpk, xps, xpe, xpt, xpq⟩, x12, x13, x14⟩, [.v (.int .u8 0), .v (.int .u8 0), .v (.int .u64 0), .sl 0 [] 0 .full, .v (.int .u8 0), .v (.int .u8 0), .v (.int .u8 0), .v (.int .u64 0), .v (.int .u64 0), .v (.int .u64 0), .v (.int .u64 0), .sl 0 [] 0 .full, .sl 0 [] 0 .full, .v (.int .u8 0), .v (.int .u64 0), .v (.int .u64 0), .sl 0 [] 0 .full, .sl 0 [] 0 .full, .v (.int .u64 0), .v (.int .u16 0), .v (.bool false)], [.v (.int .u8 x1.toNat), .v (.int .u8 x2.toNat), .v (.int .u64 x3), .sl 5 (coinsC x4) x4.length .shut, .v (.int .u8 0), .v (.int .u8 0), .v (.int .u8 0), .v (.int .u64 0), .v (.int .u64 0), .v (.int .u64 0), .v (.int .u64 0), .sl 0 [] 0 .full, .sl 0 [] 0 .full, .v (.int .u8 0), .v (.int .u64 0), .v (.int .u64 0), .sl 0 [] 0 .full, .sl 0 [] 0 .full, .v (.int .u64 0), .v (.int .u16 0), .v (.bool false)]] })) ?cy41 ?cx41
         case cy41 =>
          rintro z ρCc61 σ1 hFCc61 ⟨h61, hσ⟩; obtain rfl := hσ.symm
          have fCc61 := keepL hFCc61
          (try simp [KeepL, F] at fCc61); replace F := aF h61 F; (try replace F := aF fCc61 F); refine cs (t := B61) (fun c61 => ?_) (fun c61 => ?_)
          · try exact nope c61
            all_goals
             replace F := wf F c61
             refine run_draw (by kernel_rfl) fun J42 hJ42 => ?_
             refine rp2 0 (k := ?_); refine rp2 1 (k := ?_); refine rp2 2 (k := ?_); refine rp2 3 (k := ?_); refine rp2 4 (k := ?_); refine dop 5 rfl ?_; repeat (first | simp [F] | simp (disch := omega) only [wC, if_pos, if_neg])
             refine ⟨by first | exact fun _ _ h => h | (refine later_list [3, 2] (by kernel_rfl) (fc2 ?_ <| fc2 ?_ <| fn0) <;> constructor <;> first | rfl | (simp [F]; done)), ?_⟩
             refine rp2 6 (k := ?_); refine dop 7 rfl ?_; (repeat (first | simp [F] | simp (disch := omega) only [wC, if_pos, if_neg])); refine ⟨ln, ?_⟩; refine dd ?_; refine hJ42 _ _ ?_; refine hK28 _ _ ?_; refine sr fun _ hJ44 => ?_; refine hJ44 _ _ ?_; refine run_ret ?_; (try simp only [Then, InBlock, NoGoto]); refine acell (h := ?_)
             have hk : x1 = 3 ∨ x1 = 4 := by rw [hB61] at c61; simpa using c61
             have hv : hasN x1 = 10 := by rcases hk with e | e <;> (rw [e]; decide)
             show Wk _ _ ∧ _
             refine gcr (hA := WkL.agg ?_); simp [msgC, onlyM, hB, hv, hl0]
             repeat (first | exact WkL.nil | exact WkL.cons (Wk.refl _) WkL.nil | refine WkL.cons (Wk.refl _) ?_ | refine WkL.cons (Wk.nil _ _ _) ?_)
          try exact nope c61
          all_goals
           replace F := wf F c61; refine sr fun _ hJ46 => ?_; refine hJ46 _ _ ?_; refine cs (fun c70 => ?_) (fun c70 => ?_)
           · try exact nope c70
             all_goals
              replace F := wf F c70
              refine run_draw (by kernel_rfl) fun J47 hJ47 => ?_
              refine rp2 0 (k := ?_); refine rp2 1 (k := ?_); refine rp2 2 (k := ?_); refine rp2 3 (k := ?_); refine rp2 4 (k := ?_); refine rp2 5 (k := ?_); refine rp2 6 (k := ?_); refine dop 7 rfl ?_; repeat (first | simp [F] | simp (disch := omega) only [wC, if_pos, if_neg])
              refine ⟨by first | exact fun _ _ h => h | (refine later_list [5, 4, 3, 2] (by kernel_rfl) (fc2 ?_ <| fc2 ?_ <| fc2 ?_ <| fc2 ?_ <| fn0) <;> constructor <;> first | rfl | (simp [F]; done)), ?_⟩
              refine rp2 8 (k := ?_); refine dop 9 rfl ?_; repeat (first | simp [F] | simp (disch := omega) only [wC, if_pos, if_neg])
              refine ⟨by first | exact fun _ _ h => h | (refine later_list [5, 4] (by kernel_rfl) (fc2 ?_ <| fc2 ?_ <| fn0) <;> constructor <;> first | rfl | (simp [F]; done)), ?_⟩
              refine rp2 10 (k := ?_); refine dop 11 rfl ?_; (repeat (first | simp [F] | simp (disch := omega) only [wC, if_pos, if_neg])); refine ⟨ln, ?_⟩; refine dd ?_; refine hJ47 _ _ ?_; refine hK28 _ _ ?_; refine sr fun _ hJ49 => ?_; refine hJ49 _ _ ?_; refine run_ret ?_; (try simp only [Then, InBlock, NoGoto]); refine acell (h := ?_)
              have hk : x1 = 5 := (hkn 5).2 (by simpa using c70)
              have hv : hasN x1 = 14 := by rw [hk]; decide
              try subst hk
              show Wk _ _ ∧ _
              refine gcr (hA := WkL.agg ?_); simp [msgC, onlyM, hB, hv, hl0]
              repeat (first | exact WkL.nil | exact WkL.cons (Wk.refl _) WkL.nil | refine WkL.cons (Wk.refl _) ?_ | refine WkL.cons (Wk.nil _ _ _) ?_)
           try exact nope c70
           all_goals
            replace F := wf F c70; refine sqc (X := Unit) [1, 2, 3, 47] (fun z ρ σ1 => (ρ 81 = .v (.bool B81)) ∧ (σ1 = { σ with objs := σ.objs ++ [msgC ⟨x1, x2, x3, x4, x5, x6, x7, x8, x9, x10, ⟨xpk, xps, xpe, xpt, xpq⟩, x12, x13, x14⟩, [.v (.int .u8 0), .v (.int .u8 0), .v (.int .u64 0), .sl 0 [] 0 .full, .v (.int .u8 0), .v (.int .u8 0), .v (.int .u8 0), .v (.int .u64 0), .v (.int .u64 0), .v (.int .u64 0), .v (.int .u64 0), .sl 0 [] 0 .full, .sl 0 [] 0 .full, .v (.int .u8 0), .v (.int .u64 0), .v (.int .u64 0), .sl 0 [] 0 .full, .sl 0 [] 0 .full, .v (.int .u64 0), .v (.int .u16 0), .v (.bool false)], [.v (.int .u8 x1.toNat), .v (.int .u8 x2.toNat), .v (.int .u64 x3), .sl 5 (coinsC x4) x4.length .shut, .v (.int .u8 0), .v (.int .u8 0), .v (.int .u8 0), .v (.int .u64 0), .v (.int .u64 0), .v (.int .u64 0), .v (.int .u64 0), .sl 0 [] 0 .full, .sl 0 [] 0 .full, .v (.int .u8 0), .v (.int .u64 0), .v (.int .u64 0), .sl 0 [] 0 .full, .sl 0 [] 0 .full, .v (.int .u64 0), .v (.int .u16 0), .v (.bool false)]] })) ?cy50 ?cx50
            case cy50 =>
             rintro z ρCc81 σ1 hFCc81 ⟨h81, hσ⟩; obtain rfl := hσ.symm
             have fCc81 := keepL hFCc81
             (try simp [KeepL, F] at fCc81); replace F := aF h81 F; (try replace F := aF fCc81 F); refine cs (t := B81) (fun c81 => ?_) (fun c81 => ?_)
             · try exact nope c81
               all_goals
                replace F := wf F c81; refine rg' (h := fun J51 hJ51 => ?_); refine hJ51 _ _ ?_; refine hK28 _ _ ?_; refine sr fun _ hJ53 => ?_; refine hJ53 _ _ ?_; refine run_ret ?_; (try simp only [Then, InBlock, NoGoto]); refine acell (h := ?_)
                have hk : (x1 = 6 ∨ x1 = 7) ∨ x1 = 11 := by rw [hB81] at c81; simpa using c81
                have hv : hasN x1 = 2 := by rcases hk with (e | e) | e <;> (rw [e]; decide)
                show Wk _ _ ∧ _
                refine gcr (hA := WkL.agg ?_); simp [msgC, onlyM, hB, hv, hl0]
                repeat (first | exact WkL.nil | exact WkL.cons (Wk.refl _) WkL.nil | refine WkL.cons (Wk.refl _) ?_ | refine WkL.cons (Wk.nil _ _ _) ?_)
             try exact nope c81
             all_goals
              replace F := wf F c81; refine sqc (X := Unit) [1, 2, 3, 47] (fun z ρ σ1 => (ρ 88 = .v (.bool B88)) ∧ (σ1 = { σ with objs := σ.objs ++ [msgC ⟨x1, x2, x3, x4, x5, x6, x7, x8, x9, x10, ⟨xpk, xps, xpe, xpt, xpq⟩, x12, x13, x14⟩, [.v (.int .u8 0), .v (.int .u8 0), .v (.int .u64 0), .sl 0 [] 0 .full, .v (.int .u8 0), .v (.int .u8 0), .v (.int .u8 0), .v (.int .u64 0), .v (.int .u64 0), .v (.int .u64 0), .v (.int .u64 0), .sl 0 [] 0 .full, .sl 0 [] 0 .full, .v (.int .u8 0), .v (.int .u64 0), .v (.int .u64 0), .sl 0 [] 0 .full, .sl 0 [] 0 .full, .v (.int .u64 0), .v (.int .u16 0), .v (.bool false)], [.v (.int .u8 x1.toNat), .v (.int .u8 x2.toNat), .v (.int .u64 x3), .sl 5 (coinsC x4) x4.length .shut, .v (.int .u8 0), .v (.int .u8 0), .v (.int .u8 0), .v (.int .u64 0), .v (.int .u64 0), .v (.int .u64 0), .v (.int .u64 0), .sl 0 [] 0 .full, .sl 0 [] 0 .full, .v (.int .u8 0), .v (.int .u64 0), .v (.int .u64 0), .sl 0 [] 0 .full, .sl 0 [] 0 .full, .v (.int .u64 0), .v (.int .u16 0), .v (.bool false)]] })) ?cy54 ?cx54
              case cy54 =>
               rintro z ρCc88 σ1 hFCc88 ⟨h88, hσ⟩; obtain rfl := hσ.symm
               have fCc88 := keepL hFCc88
               (try simp [KeepL, F] at fCc88); replace F := aF h88 F; (try replace F := aF fCc88 F); refine cs (t := B88) (fun c88 => ?_) (fun c88 => ?_)
               · try exact nope c88
                 all_goals
                  replace F := wf F c88; refine rg' (h := fun J55 hJ55 => ?_); refine hJ55 _ _ ?_; refine hK28 _ _ ?_; refine sr fun _ hJ57 => ?_; refine hJ57 _ _ ?_; refine run_ret ?_; (try simp only [Then, InBlock, NoGoto]); refine acell (h := ?_)
                  have hk : x1 = 8 ∨ x1 = 10 := by rw [hB88] at c88; simpa using c88
                  have hv : hasN x1 = 1 := by rcases hk with e | e <;> (rw [e]; decide)
                  show Wk _ _ ∧ _
                  refine gcr (hA := WkL.agg ?_); simp [msgC, onlyM, hB, hv, hl0]
                  repeat (first | exact WkL.nil | exact WkL.cons (Wk.refl _) WkL.nil | refine WkL.cons (Wk.refl _) ?_ | refine WkL.cons (Wk.nil _ _ _) ?_)
               try exact nope c88
               all_goals
                replace F := wf F c88; refine sr fun _ hJ59 => ?_; refine hJ59 _ _ ?_; refine cs (fun c94 => ?_) (fun c94 => ?_)
                · try exact nope c94
                  all_goals
                   replace F := wf F c94
                   refine run_draw (by kernel_rfl) fun J60 hJ60 => ?_
                   refine rp2 0 (k := ?_); refine rp2 1 (k := ?_); refine rp2 2 (k := ?_); refine rp2 3 (k := ?_); refine rp2 4 (k := ?_); refine dop 5 rfl ?_; repeat (first | simp [F] | simp (disch := omega) only [wC, if_pos, if_neg])
                   refine ⟨by first | exact fun _ _ h => h | (refine later_list [3, 2] (by kernel_rfl) (fc2 ?_ <| fc2 ?_ <| fn0) <;> constructor <;> first | rfl | (simp [F]; done)), ?_⟩
                   refine rp2 6 (k := ?_); refine dop 7 rfl ?_; (repeat (first | simp [F] | simp (disch := omega) only [wC, if_pos, if_neg])); refine ⟨ln, ?_⟩; refine dd ?_; refine hJ60 _ _ ?_; refine hK28 _ _ ?_; refine sr fun _ hJ62 => ?_; refine hJ62 _ _ ?_; refine run_ret ?_; (try simp only [Then, InBlock, NoGoto]); refine acell (h := ?_)
                   have hk : x1 = 9 := (hkn 9).2 (by simpa using c94)
                   have hv : hasN x1 = 65 := by rw [hk]; decide
                   try subst hk
                   show Wk _ _ ∧ _
                   refine gcr (hA := WkL.agg ?_); simp [msgC, onlyM, hB, hv, hl0]
                   repeat (first | exact WkL.nil | exact WkL.cons (Wk.refl _) WkL.nil | refine WkL.cons (Wk.refl _) ?_ | refine WkL.cons (Wk.nil _ _ _) ?_)
                try exact nope c94
                all_goals
                 replace F := wf F c94; refine run_skip ?_; refine hK28 _ _ ?_; refine sr fun _ hJ64 => ?_; refine hJ64 _ _ ?_; refine run_ret ?_; (try simp only [Then, InBlock, NoGoto]); refine acell (h := ?_)
                 have hv : hasN x1 = 0 := by
                   rw [hB61] at c61; simp at c61
                   rw [hB81] at c81; simp at c81
                   rw [hB88] at c88; simp at c88
                   unfold hasN; rw [if_neg (by simpa [hkn] using c48)]; rw [if_neg (by simpa [hkn] using c56)]; rw [if_neg (by simp [c61])]; rw [if_neg (by simpa [hkn] using c70)]; rw [if_neg (by simp [c81])]; rw [if_neg (by simp [c88])]; rw [if_neg (by simpa [hkn] using c94)]; rw [if_neg (by simpa [hkn] using c6)]; rw [if_neg (by simpa [hkn] using c11)]; rw [if_neg (by simpa [hkn] using c22)]; rw [if_neg (by simpa [hkn] using c29)]; rw [if_neg (by simpa [hkn] using c34)]
                 show Wk _ _ ∧ _
                 refine gcr (hA := WkL.agg ?_); simp [msgC, onlyM, hB, hv, hl0]
                 repeat (first | exact WkL.nil | exact WkL.cons (Wk.refl _) WkL.nil | refine WkL.cons (Wk.refl _) ?_ | refine WkL.cons (Wk.nil _ _ _) ?_)
              case cx54 =>
               intro K54 hK54
               refine sr fun _ hJ66 => ?_; refine hJ66 _ _ ?_; refine cs (fun c88 => ?_) (fun c88 => ?_)
               · try exact nope c88
                 all_goals
                  replace F := wf F c88; refine run_skip ?_; refine hK54 (()) _ _ ⟨kp, ?_, lp⟩
                  · rw [hB88]
                    simp [hkn, F]
                    try rfl
               try exact nope c88
               all_goals
                replace F := wf F c88; refine rg' (h := fun J67 hJ67 => ?_); refine hJ67 _ _ ?_; refine hK54 (()) _ _ ⟨kp, ?_, lp⟩
                · rw [hB88]
                  simp [hkn, F]
                  try rfl
            case cx50 =>
             intro K50 hK50
             refine sr fun _ hJ69 => ?_; refine hJ69 _ _ ?_; refine cs (fun c81 => ?_) (fun c81 => ?_)
             · try exact nope c81
               all_goals
                replace F := wf F c81; refine run_skip ?_; refine hK50 (()) _ _ ⟨kp, ?_, lp⟩
                · rw [hB81]
                  simp [hkn, F]
                  try rfl
             try exact nope c81
             all_goals
              replace F := wf F c81; refine sr fun _ hJ71 => ?_; refine hJ71 _ _ ?_; refine cs (fun c81 => ?_) (fun c81 => ?_)
              · try exact nope c81
                all_goals
                 replace F := wf F c81; refine run_skip ?_; refine hK50 (()) _ _ ⟨kp, ?_, lp⟩
                 · rw [hB81]
                   simp [hkn, F]
                   try rfl
              try exact nope c81
              all_goals
               replace F := wf F c81; refine rg' (h := fun J72 hJ72 => ?_); refine hJ72 _ _ ?_; refine hK50 (()) _ _ ⟨kp, ?_, lp⟩
               · rw [hB81]
                 simp [hkn, F]
                 try rfl
         case cx41 =>
          intro K41 hK41
          refine sr fun _ hJ74 => ?_; refine hJ74 _ _ ?_; refine cs (fun c61 => ?_) (fun c61 => ?_)
          · try exact nope c61
            all_goals
             replace F := wf F c61; refine run_skip ?_; refine hK41 (()) _ _ ⟨kp, ?_, lp⟩
             · rw [hB61]
               simp [hkn, F]
               try rfl
          try exact nope c61
          all_goals
           replace F := wf F c61; refine rg' (h := fun J75 hJ75 => ?_); refine hJ75 _ _ ?_; refine hK41 (()) _ _ ⟨kp, ?_, lp⟩
           · rw [hB61]
             simp [hkn, F]
             try rfl
set_option maxHeartbeats 1600000 in
attribute [local simp] undefA List.getElem?_cons_zero List.getElem?_cons_succ outC in
theorem goes_ok {σ : St} {x : Out} (hx : x.c.length ≤ 9223372036854775807) :
    CallsA Try.prog 100 [.agg (outC x)] σ (fun av σ' => av = .v (.bool (outB x)) ∧ σ = σ') := by
  refine callsA_gcS ?_ rfl
  obtain ⟨l, c⟩ := x
  simp only [outB]
  have F := True.intro
  refine callsA_body Try.func100 rfl rfl rfl ?_; refine sr fun _ hJ2 => ?_; refine hJ2 _ _ ?_; refine sr fun _ hJ4 => ?_; refine gs 6 (fun g1_3 => ?_) (fun g1_3 => ?_)
  · try exact nope g1_3
    all_goals
     replace F := wf F g1_3
     have hl : l.toNat < 200 := by have h := g1_3; simp at h; omega
     replace F := aF hl F; (iterate 2 refine go2 (k := ?_)); refine cb (c := right_ok hx) (k := ?_); refine hJ4 _ _ ?_; refine ra ?_; exact gcr
  try exact nope g1_3
  all_goals
   replace F := wf F g1_3
   have hl : ¬ l.toNat < 200 := by have h := g1_3; simp at h; omega
   replace F := aF hl F; (iterate 3 refine no2 (k := ?_)); refine hJ4 _ _ ?_; refine ra ?_; exact gcr

set_option maxHeartbeats 1600000 in
attribute [local simp] undefA List.getElem?_cons_zero List.getElem?_cons_succ outC in
theorem right1_ok {σ : St} {x : Out} (hx : x.c.length ≤ 9223372036854775807) :
    CallsA Try.prog 99 [.agg (outC x)] σ (fun av σ' => av = .v (.bool (!outB x)) ∧ σ = σ') := by
  refine callsA_gcS ?_ rfl
  have hg := fun σ => goes_ok (σ := σ) hx
  obtain ⟨B, hB⟩ : ∃ B, B = outB x := ⟨_, rfl⟩
  rw [← hB] at hg ⊢
  clear hB
  obtain ⟨l, c⟩ := x
  have F := True.intro
  refine callsA_body Try.func99 rfl rfl rfl ?_; refine sr fun _ hJ2 => ?_; refine hJ2 _ _ ?_; refine sr fun _ hJ4 => ?_; refine cb (c := hg _) (k := ?_); refine hJ4 _ _ ?_; refine ra ?_; exact gcr

def ixO : List Out → Nat → Int
  | [], _ => -1
  | x :: l, i => if outB x then ixO l (i + 1) else i
theorem ixO_all : ∀ (l : List Out) (i : Nat), decide (0 ≤ ixO l i) = !(l.all outB)
  | [], _ => by simp [ixO]
  | x :: l, i => by
    have ih := ixO_all l (i + 1)
    unfold ixO
    cases hx : outB x
    · simp [hx]
    · simp [hx, ih]

set_option maxHeartbeats 1600000 in
attribute [local simp] undefA List.getElem?_cons_zero List.getElem?_cons_succ outC outsC_noObj in
theorem index_ok {σ : St} {l : List Out} {tl : Tail} (hl : l.length ≤ 9223372036854775807) (hx : ∀ x ∈ l, x.c.length ≤ 9223372036854775807) :
    CallsA Try.prog 132 [.sl 2 (outsC l) l.length tl, .fn 99 []] σ (fun av σ' => av = .v (.int .i64 (ixO l 0)) ∧ σ = σ') := by
  refine callsA_gcS ?_ rfl
  have F := True.intro
  refine callsA_body Try.func132 rfl rfl rfl ?_; refine sr fun _ hJ2 => ?_; refine hJ2 _ _ ?_; refine sq fun K3 hK3 => ?_; refine sr fun _ hJ5 => ?_; refine hJ5 _ _ ?_; refine run_block_k ?_; refine run_loopF (X := Nat) [0, 1, 7] (fun i ρ σ1 => (i ≤ l.length) ∧ (ixO l 0 = ixO (l.drop i) i) ∧ (ρ 8 = .v (.int .i64 i)) ∧ (σ1 = σ)) (fun i => l.length - i) (0) ?st1 ?rd1
  case st1 =>
   refine ⟨lp, ?_, lp, ?_⟩
   · rfl
   · rfl
  case rd1 =>
   rintro i ρ1 σ1 hF1 ⟨hi, hE, h8, hσ⟩; obtain rfl := hσ.symm
   have f1 := keepL hF1
   (try simp [KeepL, F] at f1); replace F := aF h8 F; (try replace F := aF f1 F); refine sr fun _ hJ7 => ?_; refine hJ7 _ _ ?_; refine sq fun K8 hK8 => ?_; refine cs (fun c9 => ?_) (fun c9 => ?_)
   · try exact nope c9
     all_goals
      replace F := wf F c9; refine run_skip ?_; refine hK8 _ _ ?_; refine sq fun K9 hK9 => ?_; refine run_block_k ?_; refine sr fun _ hJ11 => ?_; refine hJ11 _ _ ?_; refine sq fun K12 hK12 => ?_
      have hlt : i < l.length := by have h := c9; simp at h; omega
      have hat := outsC_at hlt
      have hb1 : i * 2 + 2 ≤ l.length * 2 := by omega
      have hx5 := hx _ (List.getElem_mem hlt)
      have hcons : l.drop i = l[i] :: l.drop (i + 1) := List.drop_eq_getElem_cons hlt
      obtain ⟨x, hxx⟩ : ∃ x, x = l[i] := ⟨_, rfl⟩
      rw [← hxx] at hat hx5 hcons
      rw [hcons] at hE
      simp only [ixO] at hE
      have hc1 := fun σ => right1_ok (σ := σ) hx5
      obtain ⟨B, hB⟩ : ∃ B, B = outB x := ⟨_, rfl⟩
      rw [← hB] at hE
      simp only [← hB] at hc1
      obtain ⟨xl, xc⟩ := x
      replace F := aF hlt F; replace F := aF hat F; replace F := aF hb1 F; refine rg' (h := fun J13 hJ13 => ?_); refine cb (c := hc1 _) (k := ?_); refine hJ13 _ _ ?_; refine hK12 _ _ ?_; refine cs (t := !B) (fun c16 => ?_) (fun c16 => ?_)
      · try exact nope c16
        all_goals
         replace F := wf F c16
         have hr : ixO l 0 = i := by have h := c16; simp at h; rw [hE, h]; rfl
         replace F := aF hr F; refine sr fun _ hJ15 => ?_; refine hJ15 _ _ ?_; refine ra ?_; exact gcr
      try exact nope c16
      all_goals
       replace F := wf F c16; refine run_skip ?_; refine hK9 _ _ ?_; refine rg' (h := fun J16 hJ16 => ?_); refine hJ16 _ _ ?_; refine ⟨(i + 1), ⟨kp, lp, ?_, lp, lp⟩, lp⟩
       · have h := c16
         simp at h
         rw [hE, h]
         rfl
   try exact nope c9
   all_goals
    replace F := wf F c9
    have hr : ixO l 0 = -1 := by rw [hE, List.drop_of_length_le (by have h := c9; simp at h; omega)]; rfl
    replace F := aF hr F; refine run_exit ?_; refine hK3 _ _ ?_; refine sr fun _ hJ18 => ?_; refine hJ18 _ _ ?_; refine ra ?_; exact gcr

set_option maxHeartbeats 1600000 in
attribute [local simp] undefA List.getElem?_cons_zero List.getElem?_cons_succ outsC_noObj in
theorem contains_ok {σ : St} {l : List Out} {tl : Tail} (hl : l.length ≤ 9223372036854775807) (hx : ∀ x ∈ l, x.c.length ≤ 9223372036854775807) :
    CallsA Try.prog 98 [.sl 2 (outsC l) l.length tl, .fn 99 []] σ (fun av σ' => av = .v (.bool (!(l.all outB))) ∧ σ = σ') := by
  refine callsA_gcS ?_ rfl
  have hi := ixO_all l 0
  obtain ⟨I, hI⟩ : ∃ I, I = ixO l 0 := ⟨_, rfl⟩
  have hc := fun σ => index_ok (σ := σ) (tl := tl) hl hx
  rw [← hI] at hi hc
  have F := And.intro hi (True.intro)
  refine callsA_body Try.func98 rfl rfl rfl ?_; refine sr fun _ hJ2 => ?_; refine hJ2 _ _ ?_; refine sr fun _ hJ4 => ?_; refine cb (c := hc _) (k := ?_); refine hJ4 _ _ ?_; refine ra ?_; exact gcr

set_option maxHeartbeats 1600000 in
attribute [local simp] undefA List.getElem?_cons_zero List.getElem?_cons_succ msgC outsC_noObj persC_noObj in
theorem mright_ok {σ : St} {m : Msg} (hm : m.Ok) :
    CallsA Try.prog 51 [.agg (msgC m)] σ (fun av σ' => av = .v (.bool (rightM m)) ∧ σ = σ') := by
  refine callsA_gcS ?_ rfl
  have hso := fun σ => msame_ok (σ := σ) hm (onlyM_ok hm)
  have hon := fun σ => monly_ok (σ := σ) (m := m)
  have hpr := fun σ => plright_ok (σ := σ) hm.p
  have hcf := fun σ => contains_ok (σ := σ) (tl := .shut) hm.outs hm.out
  have hfe := fun σ => right_ok (σ := σ) (tl := .shut) hm.fee
  have hco := fun σ => right_ok (σ := σ) (tl := .shut) hm.c
  obtain ⟨G, hG⟩ : ∃ G, G = rightM m := ⟨_, rfl⟩
  rw [← hG]
  unfold rightM at hG
  obtain ⟨Y, hY⟩ : ∃ Y, Y = onlyM m := ⟨_, rfl⟩
  obtain ⟨D, hD⟩ : ∃ D, D = decide (m = Y) := ⟨_, rfl⟩
  simp only [← hY] at hso hon hG
  simp only [← hD] at hso hG
  obtain ⟨R1, hR1⟩ : ∃ R, R = decide (Right m.fee) := ⟨_, rfl⟩
  obtain ⟨R2, hR2⟩ : ∃ R, R = decide (Right m.c) := ⟨_, rfl⟩
  obtain ⟨RP, hRP⟩ : ∃ R, R = rightB m.p := ⟨_, rfl⟩
  obtain ⟨A, hA⟩ : ∃ A, A = m.outs.all outB := ⟨_, rfl⟩
  simp only [Bool.decide_and, ← hR1, ← hR2, ← hRP, ← hA] at hG
  simp only [← hR1] at hfe
  simp only [← hR2] at hco
  simp only [← hRP] at hpr
  simp only [← hA] at hcf
  clear hY hD hR1 hR2 hRP hA hm
  obtain ⟨x1, x2, x3, x4, x5, x6, x7, x8, x9, x10, x11, x12, x13, x14⟩ := m
  obtain ⟨xpk, xps, xpe, xpt, xpq⟩ := x11
  simp only at hG hfe hco hcf
  have hhas := fun σ => has_ok (σ := σ) (k := x1)
  obtain ⟨K, hK⟩ : ∃ K, K = hasK x1 := ⟨_, rfl⟩
  rw [← hK] at hG hhas
  obtain ⟨h, hh⟩ : ∃ h, h = hasN x1 := ⟨_, rfl⟩
  have hlt : h < 4096 := by rw [hh]; exact hasN_lt _
  rw [← hh] at hhas
  obtain ⟨eU, heU⟩ : ∃ e, e = h &&& 32 := ⟨_, rfl⟩
  have handU : ∀ xo yo, binA Try.prog .and 3 xo yo (.v (.int .i64 (h : Nat))) (.v (.int .i64 32)) = some (.v (.int .i64 (eU : Nat))) := fun xo yo => by rw [heU]; exact binA_andN _ xo yo hlt (by decide)
  obtain ⟨bU, hbU⟩ : ∃ b, b = hB x1 32 := ⟨_, rfl⟩
  have hneU : (((eU : Nat) : Int) != 0) = bU := by rw [hbU, hB, ← hh, ← heU]; exact bitNe
  obtain ⟨eP, heP⟩ : ∃ e, e = h &&& 64 := ⟨_, rfl⟩
  have handP : ∀ xo yo, binA Try.prog .and 3 xo yo (.v (.int .i64 (h : Nat))) (.v (.int .i64 64)) = some (.v (.int .i64 (eP : Nat))) := fun xo yo => by rw [heP]; exact binA_andN _ xo yo hlt (by decide)
  obtain ⟨bP, hbP⟩ : ∃ b, b = hB x1 64 := ⟨_, rfl⟩
  have hneP : (((eP : Nat) : Int) != 0) = bP := by rw [hbP, hB, ← hh, ← heP]; exact bitNe
  rw [← hbU, ← hbP] at hG
  clear hh hbU hbP heU heP hK
  have hkn : ∀ n : UInt8, xpk = n ↔ (xpk.toNat : Int) = (n.toNat : Int) := fun n => ⟨fun e => by rw [e], fun e => UInt8.toNat_inj.1 (Int.ofNat_inj.1 e)⟩
  obtain ⟨B1, hB1⟩ : ∃ B, B = !(K && D) := ⟨_, rfl⟩
  obtain ⟨B2, hB2⟩ : ∃ B, B = !(decide (x2.toNat < 200) && decide (x5.toNat < 200) && decide (x6.toNat < 16) && decide (x7.toNat < 16)) := ⟨_, rfl⟩
  obtain ⟨B3, hB3⟩ : ∃ B, B = !(R1 && R2) := ⟨_, rfl⟩
  obtain ⟨B4, hB4⟩ : ∃ B, B = (bU && (decide (x10.length = 0) || decide (16 < x10.length))) := ⟨_, rfl⟩
  obtain ⟨B5, hB5⟩ : ∃ B, B = (bP && decide (xpk = 0)) := ⟨_, rfl⟩
  have hG2 : G = (!B1 && !B2 && !B3 && !B4 && !B5 && A && RP && decide (x12 ≤ 2 ^ 40) && decide (x13 ≤ 10000)) := by
    rw [hG, hB1, hB2, hB3, hB4, hB5]; simp [Bool.and_assoc]
  clear hG
  have f1 : B1 = true → G = false := fun e => by rw [hG2, e]; rfl
  have f2 : B2 = true → G = false := fun e => by rw [hG2, e]; simp
  have f3 : B3 = true → G = false := fun e => by rw [hG2, e]; simp
  have f4 : B4 = true → G = false := fun e => by rw [hG2, e]; simp
  have f5 : B5 = true → G = false := fun e => by rw [hG2, e]; simp
  have F := And.intro handU (And.intro handP (And.intro hneU (And.intro hneP (True.intro))))
  refine callsA_body Try.func51 rfl rfl rfl ?_; refine sr fun _ hJ2 => ?_; refine hJ2 _ _ ?_; refine sr fun _ hJ4 => ?_; refine cb (c := hhas _) (k := ?_); refine hJ4 _ _ ?_; refine sq fun K5 hK5 => ?_; refine run_block_k ?_; refine sqc (X := Unit) [1, 2, 3] (fun z ρ σ1 => (ρ 12 = .v (.bool B1)) ∧ (σ1 = { σ with objs := σ.objs ++ [msgC ⟨x1, x2, x3, x4, x5, x6, x7, x8, x9, x10, ⟨xpk, xps, xpe, xpt, xpq⟩, x12, x13, x14⟩] })) ?cy6 ?cx6
  case cy6 =>
   rintro z ρCr2 σ1 hFCr2 ⟨h12, hσ⟩; obtain rfl := hσ.symm
   have fCr2 := keepL hFCr2
   (try simp [KeepL, F] at fCr2); replace F := aF h12 F; (try replace F := aF fCr2 F); refine cs (t := B1) (fun c12 => ?_) (fun c12 => ?_)
   · try exact nope c12
     all_goals
      replace F := wf F c12
      have h0 : G = false := f1 c12
      replace F := aF h0 F; refine sr fun _ hJ8 => ?_; refine hJ8 _ _ ?_; refine ra ?_; exact gcr
   try exact nope c12
   all_goals
    replace F := wf F c12; refine sqc (X := Unit) [1, 2, 3] (fun z ρ σ1 => (ρ 22 = .v (.bool B2)) ∧ (σ1 = { σ with objs := σ.objs ++ [msgC ⟨x1, x2, x3, x4, x5, x6, x7, x8, x9, x10, ⟨xpk, xps, xpe, xpt, xpq⟩, x12, x13, x14⟩] })) ?cy9 ?cx9
    case cy9 =>
     rintro z ρCr4 σ1 hFCr4 ⟨h22, hσ⟩; obtain rfl := hσ.symm
     have fCr4 := keepL hFCr4
     (try simp [KeepL, F] at fCr4); replace F := aF h22 F; (try replace F := aF fCr4 F); refine cs (t := B2) (fun c22 => ?_) (fun c22 => ?_)
     · try exact nope c22
       all_goals
        replace F := wf F c22
        have h0 : G = false := f2 c22
        replace F := aF h0 F; refine sr fun _ hJ11 => ?_; refine hJ11 _ _ ?_; refine ra ?_; exact gcr
     try exact nope c22
     all_goals
      replace F := wf F c22; refine sqc (X := Unit) [1, 2, 3] (fun z ρ σ1 => (ρ 41 = .v (.bool B3)) ∧ (σ1 = { σ with objs := σ.objs ++ [msgC ⟨x1, x2, x3, x4, x5, x6, x7, x8, x9, x10, ⟨xpk, xps, xpe, xpt, xpq⟩, x12, x13, x14⟩] })) ?cy12 ?cx12
      case cy12 =>
       rintro z ρCr6 σ1 hFCr6 ⟨h41, hσ⟩; obtain rfl := hσ.symm
       have fCr6 := keepL hFCr6
       (try simp [KeepL, F] at fCr6); replace F := aF h41 F; (try replace F := aF fCr6 F); refine cs (t := B3) (fun c41 => ?_) (fun c41 => ?_)
       · try exact nope c41
         all_goals
          replace F := wf F c41
          have h0 : G = false := f3 c41
          replace F := aF h0 F; refine sr fun _ hJ14 => ?_; refine hJ14 _ _ ?_; refine ra ?_; exact gcr
       try exact nope c41
       all_goals
        replace F := wf F c41; refine sqc (X := Unit) [1, 2, 3] (fun z ρ σ1 => (ρ 52 = .v (.bool B4)) ∧ (σ1 = { σ with objs := σ.objs ++ [msgC ⟨x1, x2, x3, x4, x5, x6, x7, x8, x9, x10, ⟨xpk, xps, xpe, xpt, xpq⟩, x12, x13, x14⟩] })) ?cy15 ?cx15
        case cy15 =>
         rintro z ρCr8 σ1 hFCr8 ⟨h52, hσ⟩; obtain rfl := hσ.symm
         have fCr8 := keepL hFCr8
         (try simp [KeepL, F] at fCr8); replace F := aF h52 F; (try replace F := aF fCr8 F); refine cs (t := B4) (fun c52 => ?_) (fun c52 => ?_)
         · try exact nope c52
           all_goals
            replace F := wf F c52
            have h0 : G = false := f4 c52
            replace F := aF h0 F; refine sr fun _ hJ17 => ?_; refine hJ17 _ _ ?_; refine ra ?_; exact gcr
         try exact nope c52
         all_goals
          replace F := wf F c52; refine sqc (X := Unit) [1, 2] (fun z ρ σ1 => (ρ 68 = .v (.bool B5)) ∧ (σ1 = { σ with objs := σ.objs ++ [msgC ⟨x1, x2, x3, x4, x5, x6, x7, x8, x9, x10, ⟨xpk, xps, xpe, xpt, xpq⟩, x12, x13, x14⟩] })) ?cy18 ?cx18
          case cy18 =>
           rintro z ρCr10 σ1 hFCr10 ⟨h68, hσ⟩; obtain rfl := hσ.symm
           have fCr10 := keepL hFCr10
           (try simp [KeepL, F] at fCr10); replace F := aF h68 F; (try replace F := aF fCr10 F); refine cs (t := B5) (fun c68 => ?_) (fun c68 => ?_)
           · try exact nope c68
             all_goals
              replace F := wf F c68
              have h0 : G = false := f5 c68
              replace F := aF h0 F; refine sr fun _ hJ20 => ?_; refine hJ20 _ _ ?_; refine ra ?_; exact gcr
           try exact nope c68
           all_goals
            replace F := wf F c68; refine run_skip ?_; refine hK5 _ _ ?_; refine sr fun _ hJ22 => ?_; refine cb (c := hcf _) (k := ?_); refine hJ22 _ _ ?_; refine sr fun _ hJ24 => ?_; refine gs 83 (fun g13_2 => ?_) (fun g13_2 => ?_)
            · try exact nope g13_2
              all_goals
               replace F := wf F g13_2; (iterate 2 refine go2 (k := ?_)); refine cb (c := hpr _) (k := ?_); refine gs 88 (fun g13_7 => ?_) (fun g13_7 => ?_)
               · try exact nope g13_7
                 all_goals
                  replace F := wf F g13_7; (iterate 3 refine go2 (k := ?_)); refine gs 93 (fun g13_12 => ?_) (fun g13_12 => ?_)
                  · try exact nope g13_12
                    all_goals
                     replace F := wf F g13_12
                     have hq : x12 ≤ 1099511627776 := by have h := g13_12; simp at h; omega
                     replace F := aF hq F; (iterate 3 refine go2 (k := ?_)); refine hJ24 _ _ ?_; refine ra ?_
                     have hg : G = (A && RP && decide (x12 ≤ 1099511627776) && decide (x13 ≤ 10000)) := by rw [hG2, c12, c22, c41, c52, c68]; simp
                     rw [hg]
                     refine gcr (hA := wk_eq ?_); simp [F]
                     try omega
                  try exact nope g13_12
                  all_goals
                   replace F := wf F g13_12
                   have hq : ¬ x12 ≤ 1099511627776 := by have h := g13_12; simp at h; omega
                   replace F := aF hq F; (iterate 3 refine no2 (k := ?_)); refine hJ24 _ _ ?_; refine ra ?_
                   have hg : G = (A && RP && decide (x12 ≤ 1099511627776) && decide (x13 ≤ 10000)) := by rw [hG2, c12, c22, c41, c52, c68]; simp
                   rw [hg]
                   refine gcr (hA := wk_eq ?_); simp [F]
                   try omega
               try exact nope g13_7
               all_goals
                replace F := wf F g13_7; (iterate 6 refine no2 (k := ?_)); refine hJ24 _ _ ?_; refine ra ?_
                have hg : G = (A && RP && decide (x12 ≤ 1099511627776) && decide (x13 ≤ 10000)) := by rw [hG2, c12, c22, c41, c52, c68]; simp
                rw [hg]
                refine gcr (hA := wk_eq ?_); simp [F]
                try omega
            try exact nope g13_2
            all_goals
             replace F := wf F g13_2; (iterate 9 refine no2 (k := ?_)); refine hJ24 _ _ ?_; refine ra ?_
             have hg : G = (A && RP && decide (x12 ≤ 1099511627776) && decide (x13 ≤ 10000)) := by rw [hG2, c12, c22, c41, c52, c68]; simp
             rw [hg]
             refine gcr (hA := wk_eq ?_); simp [F]
             try omega
          case cx18 =>
           intro K18 hK18
           refine rg' (h := fun J25 hJ25 => ?_); refine gs 72 (fun g10_3 => ?_) (fun g10_3 => ?_)
           · try exact nope g10_3
             all_goals
              replace F := wf F g10_3; (iterate 4 refine go2 (k := ?_)); refine hJ25 _ _ ?_; refine hK18 (()) _ _ ⟨kp, ?_, lp⟩
              · rw [hB5]
                simp [F]
                (try (simp [hkn])); try (rw [Bool.eq_iff_iff]; simp)
           try exact nope g10_3
           all_goals
            replace F := wf F g10_3; (iterate 4 refine no2 (k := ?_)); refine hJ25 _ _ ?_; refine hK18 (()) _ _ ⟨kp, ?_, lp⟩
            · rw [hB5]
              simp [F]
              (try (simp [hkn])); try (rw [Bool.eq_iff_iff]; simp)
        case cx15 =>
         intro K15 hK15
         refine rg' (h := fun J26 hJ26 => ?_); refine gs 56 (fun g8_3 => ?_) (fun g8_3 => ?_)
         · try exact nope g8_3
           all_goals
            replace F := wf F g8_3; (iterate 5 refine go2 (k := ?_)); refine gs 61 (fun g8_8 => ?_) (fun g8_8 => ?_)
            · try exact nope g8_8
              all_goals
               replace F := wf F g8_8; (iterate 4 refine no2 (k := ?_)); refine go2 (k := ?_); refine hJ26 _ _ ?_; refine hK15 (()) _ _ ⟨kp, ?_, lp⟩
               · rw [hB4]
                 simp [F]
                 (try (rw [Bool.eq_iff_iff]; simp)); try omega
            try exact nope g8_8
            all_goals
             replace F := wf F g8_8; (iterate 5 refine go2 (k := ?_)); refine hJ26 _ _ ?_; refine hK15 (()) _ _ ⟨kp, ?_, lp⟩
             · rw [hB4]
               simp [F]
               (try (rw [Bool.eq_iff_iff]; simp)); try omega
         try exact nope g8_3
         all_goals
          replace F := wf F g8_3; (iterate 10 refine no2 (k := ?_)); refine hJ26 _ _ ?_; refine hK15 (()) _ _ ⟨kp, ?_, lp⟩
          · rw [hB4]
            simp [F]
            (try (rw [Bool.eq_iff_iff]; simp)); try omega
      case cx12 =>
       intro K12 hK12
       refine rg' (h := fun J27 hJ27 => ?_); refine cb (c := hfe _) (k := ?_); refine gs 46 (fun g6_4 => ?_) (fun g6_4 => ?_)
       · try exact nope g6_4
         all_goals
          replace F := wf F g6_4; (iterate 4 refine no2 (k := ?_)); refine hJ27 _ _ ?_; refine hK12 (()) _ _ ⟨kp, ?_, lp⟩
          · rw [hB3]
            simp [F]
            try rfl
       try exact nope g6_4
       all_goals
        replace F := wf F g6_4; (iterate 2 refine go2 (k := ?_)); refine cb (c := hco _) (k := ?_); refine go2 (k := ?_); refine hJ27 _ _ ?_; refine hK12 (()) _ _ ⟨kp, ?_, lp⟩
        · rw [hB3]
          simp [F]
          try rfl
    case cx9 =>
     intro K9 hK9
     refine rg' (h := fun J28 hJ28 => ?_); refine gs 26 (fun g4_3 => ?_) (fun g4_3 => ?_)
     · try exact nope g4_3
       all_goals
        replace F := wf F g4_3
        have hq3 : ¬ x2.toNat < 200 := by have h := g4_3; simp at h; omega
        replace F := aF hq3 F; (iterate 9 refine no2 (k := ?_)); refine hJ28 _ _ ?_; refine hK9 (()) _ _ ⟨kp, ?_, lp⟩
        · rw [hB2]
          simp [F]
          try (rw [Bool.eq_iff_iff]; simp; omega)
     try exact nope g4_3
     all_goals
      replace F := wf F g4_3
      have hq3 : x2.toNat < 200 := by have h := g4_3; simp at h; omega
      replace F := aF hq3 F; (iterate 3 refine go2 (k := ?_)); refine gs 31 (fun g4_8 => ?_) (fun g4_8 => ?_)
      · try exact nope g4_8
        all_goals
         replace F := wf F g4_8
         have hq8 : ¬ x5.toNat < 200 := by have h := g4_8; simp at h; omega
         replace F := aF hq8 F; (iterate 6 refine no2 (k := ?_)); refine hJ28 _ _ ?_; refine hK9 (()) _ _ ⟨kp, ?_, lp⟩
         · rw [hB2]
           simp [F]
           try (rw [Bool.eq_iff_iff]; simp; omega)
      try exact nope g4_8
      all_goals
       replace F := wf F g4_8
       have hq8 : x5.toNat < 200 := by have h := g4_8; simp at h; omega
       replace F := aF hq8 F; (iterate 3 refine go2 (k := ?_)); refine gs 36 (fun g4_13 => ?_) (fun g4_13 => ?_)
       · try exact nope g4_13
         all_goals
          replace F := wf F g4_13
          have hq13 : ¬ x6.toNat < 16 := by have h := g4_13; simp at h; omega
          replace F := aF hq13 F; (iterate 3 refine no2 (k := ?_)); refine hJ28 _ _ ?_; refine hK9 (()) _ _ ⟨kp, ?_, lp⟩
          · rw [hB2]
            simp [F]
            try (rw [Bool.eq_iff_iff]; simp; omega)
       try exact nope g4_13
       all_goals
        replace F := wf F g4_13
        have hq13 : x6.toNat < 16 := by have h := g4_13; simp at h; omega
        replace F := aF hq13 F; (iterate 3 refine go2 (k := ?_)); refine hJ28 _ _ ?_; refine hK9 (()) _ _ ⟨kp, ?_, lp⟩
        · rw [hB2]
          simp [F]
          try (rw [Bool.eq_iff_iff]; simp; omega)
  case cx6 =>
   intro K6 hK6
   refine run_draw (by kernel_rfl) fun J29 hJ29 => ?_
   refine rp2 0 (k := ?_); refine rp2 1 (k := ?_); refine rp2 2 (k := ?_); refine gd 15 (fun g2_2 => ?_) (fun g2_2 => ?_)
   · try exact nope g2_2
     all_goals
      replace F := wf F g2_2; refine rp2 3 (k := ?_); refine rp2 4 (k := ?_); refine dop 5 rfl ?_; (repeat (first | simp [F] | simp (disch := omega) only [wC, if_pos, if_neg])); refine dop 6 rfl ?_; (repeat (first | simp [F] | simp (disch := omega) only [wC, if_pos, if_neg])); refine rp2 7 (k := ?_); refine rp2 8 (k := ?_); refine rp2 9 (k := ?_); refine dd ?_; refine hJ29 _ _ ?_; refine hK6 (()) _ _ ⟨kp, ?_, lp⟩
      · rw [hB1]
        simp [F]
        try rfl
   try exact nope g2_2
   all_goals
    replace F := wf F g2_2; refine rp2 3 (k := ?_); refine rp2 4 (k := ?_); refine dc 5 rfl (c := hon _) (k := ?_); rintro _ _ ⟨rfl, rfl⟩
    refine ⟨by first | exact fun _ _ h => h | (refine later_list [3, 1, 0] (by kernel_rfl) (fc2 ?_ <| fc2 ?_ <| fc2 ?_ <| fn0) <;> constructor <;> first | rfl | (simp [F]; done)), ?_⟩
    (repeat (first | simp [F] | simp (disch := omega) only [wC, if_pos, if_neg])); refine dc 6 rfl (c := hso _) (k := ?_); rintro _ _ ⟨rfl, rfl⟩
    refine ⟨by first | exact fun _ _ h => h | (refine later_list [1, 0] (by kernel_rfl) (fc2 ?_ <| fc2 ?_ <| fn0) <;> constructor <;> first | rfl | (simp [F]; done)), ?_⟩
    (repeat (first | simp [F] | simp (disch := omega) only [wC, if_pos, if_neg])); refine rp2 7 (k := ?_); refine rp2 8 (k := ?_); refine rp2 9 (k := ?_); refine dd ?_; refine hJ29 _ _ ?_; refine hK6 (()) _ _ ⟨kp, ?_, lp⟩
    · rw [hB1]
      simp [F]
      try rfl
theorem u8_all {p : UInt8 → Prop} (h : ∀ n : Fin 256, p (UInt8.ofNat n.val)) (k : UInt8) : p k := by
  have := h ⟨k.toNat, k.toNat_lt⟩
  simpa using this
theorem hasK_iff (k : UInt8) : hasK k = decide (k.toNat ≠ 0 ∧ ¬ (11 < k.toNat ∧ k.toNat < 32) ∧ k.toNat ≤ 36) := u8_all (p := fun k => hasK k = decide (k.toNat ≠ 0 ∧ ¬ (11 < k.toNat ∧ k.toNat < 32) ∧ k.toNat ≤ 36)) (by decide +kernel) k
theorem hB_outs (k : UInt8) : hB k 32 = decide (k.toNat = 2) := u8_all (p := fun k => hB k 32 = decide (k.toNat = 2)) (by decide +kernel) k
theorem hB_plan (k : UInt8) : hB k 64 = decide (k.toNat = 9) := u8_all (p := fun k => hB k 64 = decide (k.toNat = 9)) (by decide +kernel) k

set_option maxHeartbeats 1600000 in
attribute [local simp] undefA List.getElem?_cons_zero List.getElem?_cons_succ msgC outsC_noObj persC_noObj outC in
theorem rmright_ok {σ : St} {m : Msg} (hm : m.Ok) :
    CallsA Try.prog 52 [.agg (msgC m)] σ (fun av σ' => av = .v (.bool (rightM m)) ∧ σ = σ') := by
  refine callsA_gcS ?_ rfl
  have hso := fun σ => rmsame_ok (σ := σ) hm (onlyM_ok hm)
  have hon := fun σ => rmonly_ok (σ := σ) (m := m)
  have hpr := fun σ => rpright_ok (σ := σ) hm.p
  have hou := hm.outs
  have hout := hm.out
  have hfe := fun σ => rright_ok (σ := σ) (tl := .shut) hm.fee
  have hco := fun σ => rright_ok (σ := σ) (tl := .shut) hm.c
  obtain ⟨G, hG⟩ : ∃ G, G = rightM m := ⟨_, rfl⟩
  rw [← hG]
  unfold rightM at hG
  obtain ⟨Y, hY⟩ : ∃ Y, Y = onlyM m := ⟨_, rfl⟩
  obtain ⟨D, hD⟩ : ∃ D, D = decide (m = Y) := ⟨_, rfl⟩
  simp only [← hY] at hso hon hG
  simp only [← hD] at hso hG
  obtain ⟨R1, hR1⟩ : ∃ R, R = decide (Right m.fee) := ⟨_, rfl⟩
  obtain ⟨R2, hR2⟩ : ∃ R, R = decide (Right m.c) := ⟨_, rfl⟩
  obtain ⟨RP, hRP⟩ : ∃ R, R = rightB m.p := ⟨_, rfl⟩
  simp only [Bool.decide_and, ← hR1, ← hR2, ← hRP] at hG
  simp only [← hR1] at hfe
  simp only [← hR2] at hco
  simp only [← hRP] at hpr
  rw [show (2 : Nat) ^ 40 = 1099511627776 from rfl] at hG
  clear hY hD hR1 hR2 hRP hm
  obtain ⟨x1, x2, x3, x4, x5, x6, x7, x8, x9, x10, x11, x12, x13, x14⟩ := m
  obtain ⟨xpk, xps, xpe, xpt, xpq⟩ := x11
  simp only at hG hfe hco hou hout
  obtain ⟨K, hK⟩ : ∃ K, K = hasK x1 := ⟨_, rfl⟩
  obtain ⟨bU, hbU⟩ : ∃ b, b = hB x1 32 := ⟨_, rfl⟩
  obtain ⟨bP, hbP⟩ : ∃ b, b = hB x1 64 := ⟨_, rfl⟩
  rw [← hK, ← hbU, ← hbP] at hG
  rw [hasK_iff] at hK
  rw [hB_outs] at hbU
  rw [hB_plan] at hbP
  have hkn : ∀ n : UInt8, xpk = n ↔ (xpk.toNat : Int) = (n.toNat : Int) := fun n => ⟨fun e => by rw [e], fun e => UInt8.toNat_inj.1 (Int.ofNat_inj.1 e)⟩
  obtain ⟨B1, hB1⟩ : ∃ B, B = !(K && D) := ⟨_, rfl⟩
  obtain ⟨B2, hB2⟩ : ∃ B, B = !(decide (x2.toNat < 200) && decide (x5.toNat < 200) && decide (x6.toNat < 16) && decide (x7.toNat < 16) && decide (x12 ≤ 1099511627776) && decide (x13 ≤ 10000)) := ⟨_, rfl⟩
  obtain ⟨B3, hB3⟩ : ∃ B, B = !(R1 && R2 && RP) := ⟨_, rfl⟩
  obtain ⟨B4, hB4⟩ : ∃ B, B = ((bU && (decide (x10.length = 0) || decide (16 < x10.length))) || (bP && decide (xpk = 0))) := ⟨_, rfl⟩
  have hG2 : G = (!B1 && !B2 && !B3 && !B4 && x10.all outB) := by
    rw [hG, hB1, hB2, hB3, hB4]
    simp only [Bool.not_not, Bool.not_or]; ac_rfl
  clear hG
  have f1 : B1 = true → G = false := fun e => by rw [hG2, e]; rfl
  have f2 : B2 = true → G = false := fun e => by rw [hG2, e]; simp
  have f3 : B3 = true → G = false := fun e => by rw [hG2, e]; simp
  have f4 : B4 = true → G = false := fun e => by rw [hG2, e]; simp
  have F := True.intro
  refine callsA_body Try.func52 rfl rfl rfl ?_; refine sr fun _ hJ2 => ?_; refine hJ2 _ _ ?_; refine sq fun K3 hK3 => ?_; refine sqc (X := Unit) [1, 2] (fun z ρ σ1 => (ρ 28 = .v (.bool B1)) ∧ (σ1 = { σ with objs := σ.objs ++ [msgC ⟨x1, x2, x3, x4, x5, x6, x7, x8, x9, x10, ⟨xpk, xps, xpe, xpt, xpq⟩, x12, x13, x14⟩] })) ?cy4 ?cx4
  case cy4 =>
   rintro z ρCr1 σ1 hFCr1 ⟨h28, hσ⟩; obtain rfl := hσ.symm
   have fCr1 := keepL hFCr1
   (try simp [KeepL, F] at fCr1); replace F := aF h28 F; (try replace F := aF fCr1 F); refine cs (t := B1) (fun c28 => ?_) (fun c28 => ?_)
   · try exact nope c28
     all_goals
      replace F := wf F c28
      have h0 : G = false := f1 c28
      replace F := aF h0 F; refine sr fun _ hJ6 => ?_; refine hJ6 _ _ ?_; refine ra ?_; exact gcr
   try exact nope c28
   all_goals
    replace F := wf F c28; refine run_skip ?_; refine hK3 _ _ ?_; refine sq fun K7 hK7 => ?_; refine sqc (X := Unit) [1, 2] (fun z ρ σ1 => (ρ 56 = .v (.bool B2)) ∧ (σ1 = { σ with objs := σ.objs ++ [msgC ⟨x1, x2, x3, x4, x5, x6, x7, x8, x9, x10, ⟨xpk, xps, xpe, xpt, xpq⟩, x12, x13, x14⟩] })) ?cy8 ?cx8
    case cy8 =>
     rintro z ρCr3 σ1 hFCr3 ⟨h56, hσ⟩; obtain rfl := hσ.symm
     have fCr3 := keepL hFCr3
     (try simp [KeepL, F] at fCr3); replace F := aF h56 F; (try replace F := aF fCr3 F); refine cs (t := B2) (fun c56 => ?_) (fun c56 => ?_)
     · try exact nope c56
       all_goals
        replace F := wf F c56
        have h0 : G = false := f2 c56
        replace F := aF h0 F; refine sr fun _ hJ10 => ?_; refine hJ10 _ _ ?_; refine ra ?_; exact gcr
     try exact nope c56
     all_goals
      replace F := wf F c56; refine run_skip ?_; refine hK7 _ _ ?_; refine sq fun K11 hK11 => ?_; refine sqc (X := Unit) [1, 2] (fun z ρ σ1 => (ρ 72 = .v (.bool B3)) ∧ (σ1 = { σ with objs := σ.objs ++ [msgC ⟨x1, x2, x3, x4, x5, x6, x7, x8, x9, x10, ⟨xpk, xps, xpe, xpt, xpq⟩, x12, x13, x14⟩] })) ?cy12 ?cx12
      case cy12 =>
       rintro z ρCr5 σ1 hFCr5 ⟨h72, hσ⟩; obtain rfl := hσ.symm
       have fCr5 := keepL hFCr5
       (try simp [KeepL, F] at fCr5); replace F := aF h72 F; (try replace F := aF fCr5 F); refine cs (t := B3) (fun c72 => ?_) (fun c72 => ?_)
       · try exact nope c72
         all_goals
          replace F := wf F c72
          have h0 : G = false := f3 c72
          replace F := aF h0 F; refine sr fun _ hJ14 => ?_; refine hJ14 _ _ ?_; refine ra ?_; exact gcr
       try exact nope c72
       all_goals
        replace F := wf F c72; refine run_skip ?_; refine hK11 _ _ ?_; refine sq fun K15 hK15 => ?_; refine sqc (X := Unit) [1, 2] (fun z ρ σ1 => (ρ 98 = .v (.bool B4)) ∧ (σ1 = { σ with objs := σ.objs ++ [msgC ⟨x1, x2, x3, x4, x5, x6, x7, x8, x9, x10, ⟨xpk, xps, xpe, xpt, xpq⟩, x12, x13, x14⟩] })) ?cy16 ?cx16
        case cy16 =>
         rintro z ρCr7 σ1 hFCr7 ⟨h98, hσ⟩; obtain rfl := hσ.symm
         have fCr7 := keepL hFCr7
         (try simp [KeepL, F] at fCr7); replace F := aF h98 F; (try replace F := aF fCr7 F); refine cs (t := B4) (fun c98 => ?_) (fun c98 => ?_)
         · try exact nope c98
           all_goals
            replace F := wf F c98
            have h0 : G = false := f4 c98
            replace F := aF h0 F; refine sr fun _ hJ18 => ?_; refine hJ18 _ _ ?_; refine ra ?_; exact gcr
         try exact nope c98
         all_goals
          replace F := wf F c98; refine run_skip ?_; refine hK15 _ _ ?_; refine sq fun K19 hK19 => ?_; refine sr fun _ hJ21 => ?_; refine hJ21 _ _ ?_; refine run_block_k ?_; refine run_loopF (X := Nat) [1] (fun i ρ σ1 => (i ≤ x10.length) ∧ (x10.all outB = (x10.drop i).all outB) ∧ (ρ 3 = .v (.int .i64 i)) ∧ (σ1 = { σ with objs := σ.objs ++ [msgC ⟨x1, x2, x3, x4, x5, x6, x7, x8, x9, x10, ⟨xpk, xps, xpe, xpt, xpq⟩, x12, x13, x14⟩] })) (fun i => x10.length - i) (0) ?st1 ?rd1
          case st1 =>
           refine ⟨lp, ?_, lp, ?_⟩
           · rfl
           · rfl
          case rd1 =>
           rintro i ρ1 σ1 hF1 ⟨hi, hE, h3, hσ⟩; obtain rfl := hσ.symm
           have f1 := keepL hF1
           (try simp [KeepL, F] at f1); replace F := aF h3 F; (try replace F := aF f1 F); refine sq fun K22 hK22 => ?_; refine sr fun _ hJ24 => ?_; refine hJ24 _ _ ?_; refine cs (fun c103 => ?_) (fun c103 => ?_)
           · try exact nope c103
             all_goals
              replace F := wf F c103; refine run_skip ?_; refine hK22 _ _ ?_; refine sq fun K25 hK25 => ?_; refine run_block_k ?_; refine sq fun K26 hK26 => ?_
              have hlt : i < x10.length := by have h := c103; simp at h; omega
              have hat := outsC_at hlt
              have hq1 : i * 2 + 2 ≤ x10.length * 2 := by omega
              have hx5 := hout _ (List.getElem_mem hlt)
              have hcons : x10.drop i = x10[i] :: x10.drop (i + 1) := List.drop_eq_getElem_cons hlt
              obtain ⟨x, hx⟩ : ∃ x, x = x10[i] := ⟨_, rfl⟩
              rw [← hx] at hat hx5 hcons
              rw [hcons] at hE
              obtain ⟨xl, xc⟩ := x
              simp only [List.all_cons, outB] at hE
              simp only at hx5
              have hrr := fun σ => rright_ok (σ := σ) (tl := .shut) hx5
              obtain ⟨R, hR⟩ : ∃ R, R = decide (Right xc) := ⟨_, rfl⟩
              rw [← hR] at hE
              simp only [← hR] at hrr
              have hE2 : (decide (xl.toNat < 200) && R) = false → x10.all outB = false := fun e => by rw [hE, e]; rfl
              replace F := aF hlt F; replace F := aF hat F; replace F := aF hq1 F; refine rg' (h := fun J27 hJ27 => ?_); refine gs 113 (fun g12_7 => ?_) (fun g12_7 => ?_)
              · try exact nope g12_7
                all_goals
                 replace F := wf F g12_7
                 have hz : G = false := by rw [hG2, hE2 (by have h := g12_7; simp at h; simp; omega)]; simp
                 replace F := aF hz F; (iterate 8 refine no2 (k := ?_)); refine hJ27 _ _ ?_; refine hK26 _ _ ?_; refine ct ?_; refine sr fun _ hJ29 => ?_; refine hJ29 _ _ ?_; refine ra ?_; exact gcr
              try exact nope g12_7
              all_goals
               replace F := wf F g12_7
               have hz7 : xl.toNat < 200 := by have h := g12_7; simp at h; omega
               (iterate 6 refine go2 (k := ?_)); refine cb (c := hrr _) (k := ?_); refine go2 (k := ?_); refine hJ27 _ _ ?_; refine hK26 _ _ ?_; refine cs (t := !R) (fun c122 => ?_) (fun c122 => ?_)
               · try exact nope c122
                 all_goals
                  replace F := wf F c122
                  have hz : G = false := by rw [hG2, hE2 (by have h := c122; simp at h; simp [h])]; simp
                  replace F := aF hz F; refine sr fun _ hJ31 => ?_; refine hJ31 _ _ ?_; refine ra ?_; exact gcr
               try exact nope c122
               all_goals
                replace F := wf F c122; refine run_skip ?_; refine hK25 _ _ ?_; refine rg' (h := fun J32 hJ32 => ?_); refine hJ32 _ _ ?_; refine ⟨(i + 1), ⟨kp, lp, ?_, lp, lp⟩, lp⟩
                · have h := c122
                  simp at h
                  rw [hE, h]
                  simp [hz7]
           try exact nope c103
           all_goals
            replace F := wf F c103
            have hz : G = true := by rw [hG2, c28, c56, c72, c98, hE, List.drop_of_length_le (by have h := c103; simp at h; omega)]; rfl
            replace F := aF hz F; refine run_exit ?_; refine hK19 _ _ ?_; refine sr fun _ hJ34 => ?_; refine hJ34 _ _ ?_; refine ra ?_; exact gcr
        case cx16 =>
         intro K16 hK16
         refine rg' (h := fun J35 hJ35 => ?_); refine gs 76 (fun g7_3 => ?_) (fun g7_3 => ?_)
         · try exact nope g7_3
           all_goals
            replace F := wf F g7_3
            have hu : bU = true := by have h := g7_3; rw [hbU]; simp at h; simp; omega
            replace F := aF hu F; (iterate 5 refine go2 (k := ?_)); refine gs 81 (fun g7_8 => ?_) (fun g7_8 => ?_)
            · try exact nope g7_8
              all_goals
               replace F := wf F g7_8; (iterate 4 refine no2 (k := ?_)); refine go2 (k := ?_); (iterate 9 refine no2 (k := ?_)); refine hJ35 _ _ ?_; refine hK16 (()) _ _ ⟨kp, ?_, lp⟩
               · rw [hB4]
                 simp [F]
                 (try (rw [Bool.eq_iff_iff]; simp)); all_goals try (first | omega | (rw [hkn]; simp; done))
            try exact nope g7_8
            all_goals
             replace F := wf F g7_8; (iterate 5 refine go2 (k := ?_)); refine gs 88 (fun g7_15 => ?_) (fun g7_15 => ?_)
             · try exact nope g7_15
               all_goals
                replace F := wf F g7_15; (iterate 9 refine no2 (k := ?_)); refine hJ35 _ _ ?_; refine hK16 (()) _ _ ⟨kp, ?_, lp⟩
                · rw [hB4]
                  simp [F]
                  (try (rw [Bool.eq_iff_iff]; simp)); all_goals try (first | omega | (rw [hkn]; simp; done))
             try exact nope g7_15
             all_goals
              replace F := wf F g7_15; (iterate 4 refine go2 (k := ?_)); refine gs 92 (fun g7_19 => ?_) (fun g7_19 => ?_)
              · try exact nope g7_19
                all_goals
                 replace F := wf F g7_19
                 have hp : bP = true := by have h := g7_19; rw [hbP]; simp at h; simp; omega
                 replace F := aF hp F; (iterate 5 refine go2 (k := ?_)); refine hJ35 _ _ ?_; refine hK16 (()) _ _ ⟨kp, ?_, lp⟩
                 · rw [hB4]
                   simp [F]
                   (try (rw [Bool.eq_iff_iff]; simp)); all_goals try (first | omega | (rw [hkn]; simp; done))
              try exact nope g7_19
              all_goals
               replace F := wf F g7_19
               have hp : bP = false := by have h := g7_19; rw [hbP]; simp at h; simp; omega
               replace F := aF hp F; (iterate 4 refine no2 (k := ?_)); refine go2 (k := ?_); refine hJ35 _ _ ?_; refine hK16 (()) _ _ ⟨kp, ?_, lp⟩
               · rw [hB4]
                 simp [F]
                 (try (rw [Bool.eq_iff_iff]; simp)); all_goals try (first | omega | (rw [hkn]; simp; done))
         try exact nope g7_3
         all_goals
          replace F := wf F g7_3
          have hu : bU = false := by have h := g7_3; rw [hbU]; simp at h; simp; omega
          replace F := aF hu F; (iterate 10 refine no2 (k := ?_)); (iterate 4 refine go2 (k := ?_)); refine gs 92 (fun g7_19 => ?_) (fun g7_19 => ?_)
          · try exact nope g7_19
            all_goals
             replace F := wf F g7_19
             have hp : bP = true := by have h := g7_19; rw [hbP]; simp at h; simp; omega
             replace F := aF hp F; (iterate 5 refine go2 (k := ?_)); refine hJ35 _ _ ?_; refine hK16 (()) _ _ ⟨kp, ?_, lp⟩
             · rw [hB4]
               simp [F]
               (try (rw [Bool.eq_iff_iff]; simp)); all_goals try (first | omega | (rw [hkn]; simp; done))
          try exact nope g7_19
          all_goals
           replace F := wf F g7_19
           have hp : bP = false := by have h := g7_19; rw [hbP]; simp at h; simp; omega
           replace F := aF hp F; (iterate 4 refine no2 (k := ?_)); refine go2 (k := ?_); refine hJ35 _ _ ?_; refine hK16 (()) _ _ ⟨kp, ?_, lp⟩
           · rw [hB4]
             simp [F]
             (try (rw [Bool.eq_iff_iff]; simp)); all_goals try (first | omega | (rw [hkn]; simp; done))
      case cx12 =>
       intro K12 hK12
       refine rg' (h := fun J36 hJ36 => ?_); refine cb (c := hfe _) (k := ?_); refine gs 61 (fun g5_4 => ?_) (fun g5_4 => ?_)
       · try exact nope g5_4
         all_goals
          replace F := wf F g5_4; (iterate 8 refine no2 (k := ?_)); refine hJ36 _ _ ?_; refine hK12 (()) _ _ ⟨kp, ?_, lp⟩
          · rw [hB3]
            simp [F]
            try rfl
       try exact nope g5_4
       all_goals
        replace F := wf F g5_4; (iterate 2 refine go2 (k := ?_)); refine cb (c := hco _) (k := ?_); refine go2 (k := ?_); refine gs 67 (fun g5_10 => ?_) (fun g5_10 => ?_)
        · try exact nope g5_10
          all_goals
           replace F := wf F g5_10; (iterate 4 refine no2 (k := ?_)); refine hJ36 _ _ ?_; refine hK12 (()) _ _ ⟨kp, ?_, lp⟩
           · rw [hB3]
             simp [F]
             try rfl
        try exact nope g5_10
        all_goals
         replace F := wf F g5_10; (iterate 2 refine go2 (k := ?_)); refine cb (c := hpr _) (k := ?_); refine go2 (k := ?_); refine hJ36 _ _ ?_; refine hK12 (()) _ _ ⟨kp, ?_, lp⟩
         · rw [hB3]
           simp [F]
           try rfl
    case cx8 =>
     intro K8 hK8
     refine rg' (h := fun J37 hJ37 => ?_); refine gs 32 (fun g3_3 => ?_) (fun g3_3 => ?_)
     · try exact nope g3_3
       all_goals
        replace F := wf F g3_3
        have hq3 : ¬ x2.toNat < 200 := by have h := g3_3; simp at h; omega
        replace F := aF hq3 F; (iterate 15 refine no2 (k := ?_)); refine hJ37 _ _ ?_; refine hK8 (()) _ _ ⟨kp, ?_, lp⟩
        · rw [hB2]
          simp [F]
          (try (rw [Bool.eq_iff_iff]; simp)); try omega
     try exact nope g3_3
     all_goals
      replace F := wf F g3_3
      have hq3 : x2.toNat < 200 := by have h := g3_3; simp at h; omega
      replace F := aF hq3 F; (iterate 3 refine go2 (k := ?_)); refine gs 37 (fun g3_8 => ?_) (fun g3_8 => ?_)
      · try exact nope g3_8
        all_goals
         replace F := wf F g3_8
         have hq8 : ¬ x5.toNat < 200 := by have h := g3_8; simp at h; omega
         replace F := aF hq8 F; (iterate 12 refine no2 (k := ?_)); refine hJ37 _ _ ?_; refine hK8 (()) _ _ ⟨kp, ?_, lp⟩
         · rw [hB2]
           simp [F]
           (try (rw [Bool.eq_iff_iff]; simp)); try omega
      try exact nope g3_8
      all_goals
       replace F := wf F g3_8
       have hq8 : x5.toNat < 200 := by have h := g3_8; simp at h; omega
       replace F := aF hq8 F; (iterate 3 refine go2 (k := ?_)); refine gs 42 (fun g3_13 => ?_) (fun g3_13 => ?_)
       · try exact nope g3_13
         all_goals
          replace F := wf F g3_13
          have hq13 : ¬ x6.toNat < 16 := by have h := g3_13; simp at h; omega
          replace F := aF hq13 F; (iterate 9 refine no2 (k := ?_)); refine hJ37 _ _ ?_; refine hK8 (()) _ _ ⟨kp, ?_, lp⟩
          · rw [hB2]
            simp [F]
            (try (rw [Bool.eq_iff_iff]; simp)); try omega
       try exact nope g3_13
       all_goals
        replace F := wf F g3_13
        have hq13 : x6.toNat < 16 := by have h := g3_13; simp at h; omega
        replace F := aF hq13 F; (iterate 3 refine go2 (k := ?_)); refine gs 47 (fun g3_18 => ?_) (fun g3_18 => ?_)
        · try exact nope g3_18
          all_goals
           replace F := wf F g3_18
           have hq18 : ¬ x7.toNat < 16 := by have h := g3_18; simp at h; omega
           replace F := aF hq18 F; (iterate 6 refine no2 (k := ?_)); refine hJ37 _ _ ?_; refine hK8 (()) _ _ ⟨kp, ?_, lp⟩
           · rw [hB2]
             simp [F]
             (try (rw [Bool.eq_iff_iff]; simp)); try omega
        try exact nope g3_18
        all_goals
         replace F := wf F g3_18
         have hq18 : x7.toNat < 16 := by have h := g3_18; simp at h; omega
         replace F := aF hq18 F; (iterate 3 refine go2 (k := ?_)); refine gs 52 (fun g3_23 => ?_) (fun g3_23 => ?_)
         · try exact nope g3_23
           all_goals
            replace F := wf F g3_23
            have hq23 : ¬ x12 ≤ 1099511627776 := by have h := g3_23; simp at h; omega
            replace F := aF hq23 F; (iterate 3 refine no2 (k := ?_)); refine hJ37 _ _ ?_; refine hK8 (()) _ _ ⟨kp, ?_, lp⟩
            · rw [hB2]
              simp [F]
              (try (rw [Bool.eq_iff_iff]; simp)); try omega
         try exact nope g3_23
         all_goals
          replace F := wf F g3_23
          have hq23 : x12 ≤ 1099511627776 := by have h := g3_23; simp at h; omega
          replace F := aF hq23 F; (iterate 3 refine go2 (k := ?_)); refine hJ37 _ _ ?_; refine hK8 (()) _ _ ⟨kp, ?_, lp⟩
          · rw [hB2]
            simp [F]
            (try (rw [Bool.eq_iff_iff]; simp)); try omega
  case cx4 =>
   intro K4 hK4
   refine run_draw (by kernel_rfl) fun J38 hJ38 => ?_
   refine rp2 0 (k := ?_); refine rp2 1 (k := ?_); refine rp2 2 (k := ?_); refine rp2 3 (k := ?_); refine gd 7 (fun g1_3 => ?_) (fun g1_3 => ?_)
   · try exact nope g1_3
     all_goals
      replace F := wf F g1_3
      have k0 : K = false := by have h := g1_3; rw [hK]; simp at h; simp; omega
      replace F := aF k0 F; refine rp2 4 (k := ?_); refine rp2 5 (k := ?_); refine rp2 6 (k := ?_); refine rp2 7 (k := ?_); refine rp2 8 (k := ?_); refine rp2 9 (k := ?_); refine rp2 10 (k := ?_); refine rp2 11 (k := ?_); refine rp2 12 (k := ?_); refine rp2 13 (k := ?_); refine rp2 14 (k := ?_); refine rp2 15 (k := ?_); refine rp2 16 (k := ?_); refine rp2 17 (k := ?_); refine rp2 18 (k := ?_); refine rp2 19 (k := ?_); refine rp2 20 (k := ?_); refine dop 21 rfl ?_; (repeat (first | simp [F] | simp (disch := omega) only [wC, if_pos, if_neg])); refine dop 22 rfl ?_; (repeat (first | simp [F] | simp (disch := omega) only [wC, if_pos, if_neg])); refine rp2 23 (k := ?_); refine rp2 24 (k := ?_); refine dd ?_; refine hJ38 _ _ ?_; refine hK4 (()) _ _ ⟨kp, ?_, lp⟩
      · rw [hB1]
        simp [F]
        try rfl
   try exact nope g1_3
   all_goals
    replace F := wf F g1_3
    have k1 : ¬ x1.toNat = 0 := by have h := g1_3; simp at h; omega
    refine rp2 4 (k := ?_); refine rp2 5 (k := ?_); refine rp2 6 (k := ?_); refine rp2 7 (k := ?_); refine gd 11 (fun g1_7 => ?_) (fun g1_7 => ?_)
    · try exact nope g1_7
      all_goals
       replace F := wf F g1_7
       have k2 : 11 < x1.toNat := by have h := g1_7; simp at h; omega
       refine rp2 8 (k := ?_); refine rp2 9 (k := ?_); refine rp2 10 (k := ?_); refine rp2 11 (k := ?_); refine rp2 12 (k := ?_); refine rp2 13 (k := ?_); refine gd 17 (fun g1_13 => ?_) (fun g1_13 => ?_)
       · try exact nope g1_13
         all_goals
          replace F := wf F g1_13
          have k0 : K = false := by have h := g1_13; rw [hK]; simp at h; simp; omega
          replace F := aF k0 F; refine rp2 14 (k := ?_); refine rp2 15 (k := ?_); refine rp2 16 (k := ?_); refine rp2 17 (k := ?_); refine rp2 18 (k := ?_); refine rp2 19 (k := ?_); refine rp2 20 (k := ?_); refine dop 21 rfl ?_; (repeat (first | simp [F] | simp (disch := omega) only [wC, if_pos, if_neg])); refine dop 22 rfl ?_; (repeat (first | simp [F] | simp (disch := omega) only [wC, if_pos, if_neg])); refine rp2 23 (k := ?_); refine rp2 24 (k := ?_); refine dd ?_; refine hJ38 _ _ ?_; refine hK4 (()) _ _ ⟨kp, ?_, lp⟩
          · rw [hB1]
            simp [F]
            try rfl
       try exact nope g1_13
       all_goals
        replace F := wf F g1_13
        have k3 : ¬ x1.toNat < 32 := by have h := g1_13; simp at h; omega
        refine rp2 14 (k := ?_); refine rp2 15 (k := ?_); refine rp2 16 (k := ?_); refine rp2 17 (k := ?_); refine rp2 18 (k := ?_); refine gd 22 (fun g1_18 => ?_) (fun g1_18 => ?_)
        · try exact nope g1_18
          all_goals
           replace F := wf F g1_18
           have k0 : K = false := by have h := g1_18; rw [hK]; simp at h; simp; omega
           replace F := aF k0 F; refine rp2 19 (k := ?_); refine rp2 20 (k := ?_); refine dop 21 rfl ?_; (repeat (first | simp [F] | simp (disch := omega) only [wC, if_pos, if_neg])); refine dop 22 rfl ?_; (repeat (first | simp [F] | simp (disch := omega) only [wC, if_pos, if_neg])); refine rp2 23 (k := ?_); refine rp2 24 (k := ?_); refine dd ?_; refine hJ38 _ _ ?_; refine hK4 (()) _ _ ⟨kp, ?_, lp⟩
           · rw [hB1]
             simp [F]
             try rfl
        try exact nope g1_18
        all_goals
         replace F := wf F g1_18
         have k0 : K = true := by have h := g1_18; rw [hK]; simp at h; simp; omega
         replace F := aF k0 F; refine rp2 19 (k := ?_); refine rp2 20 (k := ?_); refine dc 21 rfl (c := hon _) (k := ?_); rintro _ _ ⟨rfl, rfl⟩
         refine ⟨by first | exact fun _ _ h => h | (refine later_list [19, 17, 16, 15, 14, 13, 12, 11, 10, 9, 8, 7, 6, 5, 4, 3, 2, 1, 0] (by kernel_rfl) (fc2 ?_ <| fc2 ?_ <| fc2 ?_ <| fc2 ?_ <| fc2 ?_ <| fc2 ?_ <| fc2 ?_ <| fc2 ?_ <| fc2 ?_ <| fc2 ?_ <| fc2 ?_ <| fc2 ?_ <| fc2 ?_ <| fc2 ?_ <| fc2 ?_ <| fc2 ?_ <| fc2 ?_ <| fc2 ?_ <| fc2 ?_ <| fn0) <;> constructor <;> first | rfl | (simp [F]; done)), ?_⟩
         (repeat (first | simp [F] | simp (disch := omega) only [wC, if_pos, if_neg])); refine dc 22 rfl (c := hso _) (k := ?_); rintro _ _ ⟨rfl, rfl⟩
         refine ⟨by first | exact fun _ _ h => h | (refine later_list [17, 16, 15, 14, 13, 12, 11, 10, 9, 8, 7, 6, 5, 4, 3, 2, 1, 0] (by kernel_rfl) (fc2 ?_ <| fc2 ?_ <| fc2 ?_ <| fc2 ?_ <| fc2 ?_ <| fc2 ?_ <| fc2 ?_ <| fc2 ?_ <| fc2 ?_ <| fc2 ?_ <| fc2 ?_ <| fc2 ?_ <| fc2 ?_ <| fc2 ?_ <| fc2 ?_ <| fc2 ?_ <| fc2 ?_ <| fc2 ?_ <| fn0) <;> constructor <;> first | rfl | (simp [F]; done)), ?_⟩
         (repeat (first | simp [F] | simp (disch := omega) only [wC, if_pos, if_neg])); refine rp2 23 (k := ?_); refine rp2 24 (k := ?_); refine dd ?_; refine hJ38 _ _ ?_; refine hK4 (()) _ _ ⟨kp, ?_, lp⟩
         · rw [hB1]
           simp [F]
           try rfl
    try exact nope g1_7
    all_goals
     replace F := wf F g1_7
     have k2 : ¬ 11 < x1.toNat := by have h := g1_7; simp at h; omega
     refine rp2 8 (k := ?_); refine rp2 9 (k := ?_); refine rp2 10 (k := ?_); refine rp2 11 (k := ?_); refine rp2 12 (k := ?_); refine rp2 13 (k := ?_); refine rp2 14 (k := ?_); refine rp2 15 (k := ?_); refine rp2 16 (k := ?_); refine rp2 17 (k := ?_); refine rp2 18 (k := ?_); refine gd 22 (fun g1_18 => ?_) (fun g1_18 => ?_)
     · try exact nope g1_18
       all_goals
        replace F := wf F g1_18
        have k0 : K = false := by have h := g1_18; rw [hK]; simp at h; simp; omega
        replace F := aF k0 F; refine rp2 19 (k := ?_); refine rp2 20 (k := ?_); refine dop 21 rfl ?_; (repeat (first | simp [F] | simp (disch := omega) only [wC, if_pos, if_neg])); refine dop 22 rfl ?_; (repeat (first | simp [F] | simp (disch := omega) only [wC, if_pos, if_neg])); refine rp2 23 (k := ?_); refine rp2 24 (k := ?_); refine dd ?_; refine hJ38 _ _ ?_; refine hK4 (()) _ _ ⟨kp, ?_, lp⟩
        · rw [hB1]
          simp [F]
          try rfl
     try exact nope g1_18
     all_goals
      replace F := wf F g1_18
      have k0 : K = true := by have h := g1_18; rw [hK]; simp at h; simp; omega
      replace F := aF k0 F; refine rp2 19 (k := ?_); refine rp2 20 (k := ?_); refine dc 21 rfl (c := hon _) (k := ?_); rintro _ _ ⟨rfl, rfl⟩
      refine ⟨by first | exact fun _ _ h => h | (refine later_list [19, 17, 16, 15, 14, 13, 12, 11, 10, 9, 8, 7, 6, 5, 4, 3, 2, 1, 0] (by kernel_rfl) (fc2 ?_ <| fc2 ?_ <| fc2 ?_ <| fc2 ?_ <| fc2 ?_ <| fc2 ?_ <| fc2 ?_ <| fc2 ?_ <| fc2 ?_ <| fc2 ?_ <| fc2 ?_ <| fc2 ?_ <| fc2 ?_ <| fc2 ?_ <| fc2 ?_ <| fc2 ?_ <| fc2 ?_ <| fc2 ?_ <| fc2 ?_ <| fn0) <;> constructor <;> first | rfl | (simp [F]; done)), ?_⟩
      (repeat (first | simp [F] | simp (disch := omega) only [wC, if_pos, if_neg])); refine dc 22 rfl (c := hso _) (k := ?_); rintro _ _ ⟨rfl, rfl⟩
      refine ⟨by first | exact fun _ _ h => h | (refine later_list [17, 16, 15, 14, 13, 12, 11, 10, 9, 8, 7, 6, 5, 4, 3, 2, 1, 0] (by kernel_rfl) (fc2 ?_ <| fc2 ?_ <| fc2 ?_ <| fc2 ?_ <| fc2 ?_ <| fc2 ?_ <| fc2 ?_ <| fc2 ?_ <| fc2 ?_ <| fc2 ?_ <| fc2 ?_ <| fc2 ?_ <| fc2 ?_ <| fc2 ?_ <| fc2 ?_ <| fc2 ?_ <| fc2 ?_ <| fc2 ?_ <| fn0) <;> constructor <;> first | rfl | (simp [F]; done)), ?_⟩
      (repeat (first | simp [F] | simp (disch := omega) only [wC, if_pos, if_neg])); refine rp2 23 (k := ?_); refine rp2 24 (k := ?_); refine dd ?_; refine hJ38 _ _ ?_; refine hK4 (()) _ _ ⟨kp, ?_, lp⟩
      · rw [hB1]
        simp [F]
        try rfl
end Go.Proofs.Ytdbaddholggkbaa

/-
  The document's reader.
-/
namespace Go.Proofs.Ytdbaddholggkbaa
set_option linter.unnecessarySimpa false
set_option maxRecDepth 100000
open Go Go.Vm
set_option linter.unusedSimpArgs false
set_option linter.unusedVariables false
attribute [local simp] evalL wantedA isCall opA evalA evalAll evalsA evalOpt ofValue ofCell plain binA_eql_pn binA_neq_pn binA_gtr binA_lss binA_geq binA_leq binA_add binA_sub binA_eql binA_neq binA_or binA_shl binA_shr binA_mul binA_quo binA_rem convA_int unA_not fieldAddrA loadA partA pickA_true pickA_false pickA_bb lenA builtinA storeA splice AV.cells AV.isCell sliceA boundA intA callOf indexAddrA newObjA buildA fillA zeroA ofCells buildSliceA

def inC (p : List UInt8) (tl : Tail) (k : Nat) (bad : Bool) : List AV := [.sl 1 (bytesA p) p.length tl, .v (.int .i64 k), .v (.bool bad)]

theorem inByte_yes {σ : St} {id k : Nat} {p : List UInt8} {tl : Tail} (h : σ.objs[id]? = some (inC p tl k false)) (hp : p.length ≤ 1000000) (hk : k < p.length) :
    CallsA Try.prog 84 [.ptr id 0] σ (fun av σ' => av = .v (.int .u8 p[k].toNat) ∧ σ' = { σ with objs := σ.objs.set id (inC p tl (k + 1) false) }) := by
  have hs := set_self_of h
  have hki : ¬ (p.length : Int) ≤ k := by omega
  have hkl : ¬ p.length ≤ k := by omega
  have hw : IntKind.i64.wrap ((k : Int) + 1) = ((k + 1 : Nat) : Int) := wrap_i64 _ (by omega) (by omega)
  have hw2 : IntKind.i64.wrap (((k + 1 : Nat) : Int) - 1) = (k : Int) := by rw [wrap_i64 _ (by omega) (by omega)]; omega
  have hw3 : IntKind.i64.wrap (k : Int) = (k : Int) := wrap_i64 _ (by omega) (by omega)
  have hk2 : (k : Int) < p.length := by omega
  unfold inC at h hs
  refine callsA_body Try.func84 rfl rfl rfl ?_; refine run_seq_k fun K1 hK1 => ?_; refine run_region_k rfl fun J2 hJ2 => ?_; (try simp [h, hs, hki, hkl, hw, hw2, hw3, hk, hk2, inC]); refine hJ2 _ _ ?_; refine hK1 _ _ ?_; refine run_seq_k fun K3 hK3 => ?_; refine run_seq_k fun K4 hK4 => ?_
  refine run_draw (by kernel_rfl) fun J5 hJ5 => ?_
  refine rq 0 ?_; (try simp [h, hs, hki, hkl, hw, hw2, hw3, hk, hk2, inC]); refine rq 1 ?_; (try simp [h, hs, hki, hkl, hw, hw2, hw3, hk, hk2, inC]); refine rq 2 ?_; (try simp [h, hs, hki, hkl, hw, hw2, hw3, hk, hk2, inC]); refine rq 3 ?_; (try simp [h, hs, hki, hkl, hw, hw2, hw3, hk, hk2, inC]); refine rq 4 ?_; (try simp [h, hs, hki, hkl, hw, hw2, hw3, hk, hk2, inC]); refine rq 5 ?_; (try simp [h, hs, hki, hkl, hw, hw2, hw3, hk, hk2, inC]); refine rq 6 ?_; (try simp [h, hs, hki, hkl, hw, hw2, hw3, hk, hk2, inC]); refine rq 7 ?_; (try simp [h, hs, hki, hkl, hw, hw2, hw3, hk, hk2, inC]); refine rq 8 ?_; (try simp [h, hs, hki, hkl, hw, hw2, hw3, hk, hk2, inC]); refine rq 9 ?_; (try simp [h, hs, hki, hkl, hw, hw2, hw3, hk, hk2, inC]); refine rq 10 ?_; (try simp [h, hs, hki, hkl, hw, hw2, hw3, hk, hk2, inC]); refine rq 11 ?_; (try simp [h, hs, hki, hkl, hw, hw2, hw3, hk, hk2, inC]); refine rq 12 ?_; (try simp [h, hs, hki, hkl, hw, hw2, hw3, hk, hk2, inC]); refine rq 13 ?_; (try simp [h, hs, hki, hkl, hw, hw2, hw3, hk, hk2, inC]); refine rq 14 ?_; (try simp [h, hs, hki, hkl, hw, hw2, hw3, hk, hk2, inC]); refine rq 15 ?_; try simp [h, hs, hki, hkl, hw, hw2, hw3, hk, hk2, inC]
  refine runD_done (by kernel_rfl) (by kernel_rfl) (by kernel_rfl) ?_
  refine hJ5 _ _ ?_; refine hK4 _ _ ?_
  refine run_cond_false (by first | rfl | (simp [h, hs, hki, hkl, hw, hw2, hw3, hk, hk2, inC, evalA]; done)) ?_
  refine run_skip ?_; refine hK3 _ _ ?_; refine run_seq_k fun K6 hK6 => ?_; refine run_region_k rfl fun J7 hJ7 => ?_; (try simp [h, hs, hki, hkl, hw, hw2, hw3, hk, hk2, inC]); refine hJ7 _ _ ?_; refine hK6 _ _ ?_; refine run_seq_k fun K8 hK8 => ?_
  refine run_draw (by kernel_rfl) fun J9 hJ9 => ?_
  refine rq 0 ?_; (try simp [h, hs, hki, hkl, hw, hw2, hw3, hk, hk2, inC]); refine rq 1 ?_; (try simp [h, hs, hki, hkl, hw, hw2, hw3, hk, hk2, inC]); refine rq 2 ?_; (try simp [h, hs, hki, hkl, hw, hw2, hw3, hk, hk2, inC]); refine rq 3 ?_; (try simp [h, hs, hki, hkl, hw, hw2, hw3, hk, hk2, inC]); refine rq 4 ?_; (try simp [h, hs, hki, hkl, hw, hw2, hw3, hk, hk2, inC]); refine rq 5 ?_; (try simp [h, hs, hki, hkl, hw, hw2, hw3, hk, hk2, inC]); refine rq 6 ?_; (try simp [h, hs, hki, hkl, hw, hw2, hw3, hk, hk2, inC]); refine rq 7 ?_; (try simp [h, hs, hki, hkl, hw, hw2, hw3, hk, hk2, inC]); refine rq 8 ?_; (try simp [h, hs, hki, hkl, hw, hw2, hw3, hk, hk2, inC]); refine rq 9 ?_; (try simp [h, hs, hki, hkl, hw, hw2, hw3, hk, hk2, inC]); refine rq 10 ?_; (try simp [h, hs, hki, hkl, hw, hw2, hw3, hk, hk2, inC]); refine rq 11 ?_; try simp [h, hs, hki, hkl, hw, hw2, hw3, hk, hk2, inC]
  refine runD_done (by kernel_rfl) (by kernel_rfl) (by kernel_rfl) ?_
  refine hJ9 _ _ ?_; refine hK8 _ _ ?_; refine ra ?_; simp [h, hs, hki, hkl, hw, hw2, hw3, hk, hk2, inC]

theorem inByte_end {σ : St} {id k : Nat} {p : List UInt8} {tl : Tail} (h : σ.objs[id]? = some (inC p tl k false)) (hk : p.length ≤ k) :
    CallsA Try.prog 84 [.ptr id 0] σ (fun av σ' => av = .v (.int .u8 0) ∧ σ' = { σ with objs := σ.objs.set id (inC p tl k true) }) := by
  have hs := set_self_of h
  have hki : (p.length : Int) ≤ k := by omega
  unfold inC at h hs
  refine callsA_body Try.func84 rfl rfl rfl ?_; refine run_seq_k fun K1 hK1 => ?_; refine run_region_k rfl fun J2 hJ2 => ?_; (try simp [h, hs, hki, hk, inC]); refine hJ2 _ _ ?_; refine hK1 _ _ ?_; refine run_seq_k fun K3 hK3 => ?_; refine run_seq_k fun K4 hK4 => ?_
  refine run_draw (by kernel_rfl) fun J5 hJ5 => ?_
  refine rq 0 ?_; (try simp [h, hs, hki, hk, inC]); refine rq 1 ?_; (try simp [h, hs, hki, hk, inC]); refine rq 2 ?_; (try simp [h, hs, hki, hk, inC]); refine rq 3 ?_; (try simp [h, hs, hki, hk, inC]); refine rq 4 ?_; (try simp [h, hs, hki, hk, inC]); refine rq 5 ?_; (try simp [h, hs, hki, hk, inC]); refine rq 6 ?_; (try simp [h, hs, hki, hk, inC]); refine rq 7 ?_; (try simp [h, hs, hki, hk, inC]); refine rq 8 ?_; (try simp [h, hs, hki, hk, inC]); refine rq 9 ?_; (try simp [h, hs, hki, hk, inC]); refine rq 10 ?_; (try simp [h, hs, hki, hk, inC]); refine rq 11 ?_; (try simp [h, hs, hki, hk, inC]); refine rq 12 ?_; (try simp [h, hs, hki, hk, inC]); refine rq 13 ?_; (try simp [h, hs, hki, hk, inC]); refine rq 14 ?_; (try simp [h, hs, hki, hk, inC]); refine rq 15 ?_; try simp [h, hs, hki, hk, inC]
  refine runD_done (by kernel_rfl) (by kernel_rfl) (by kernel_rfl) ?_
  refine hJ5 _ _ ?_; refine hK4 _ _ ?_
  refine run_cond_true (by first | rfl | (simp [h, hs, hki, hk, inC, evalA]; done)) ?_
  refine run_seq_k fun K6 hK6 => ?_; refine run_region_k rfl fun J7 hJ7 => ?_; (try simp [h, hs, hki, hk, inC]); refine hJ7 _ _ ?_; refine hK6 _ _ ?_; refine run_seq_k fun K8 hK8 => ?_; refine run_region_k rfl fun J9 hJ9 => ?_; (try simp [h, hs, hki, hk, inC]); refine hJ9 _ _ ?_; refine hK8 _ _ ?_; refine ra ?_; simp [h, hs, hki, hk, inC]

def At (p : List UInt8) (k : Nat) (s : Option (List UInt8)) : Prop := k ≤ p.length ∧ (s = none ∨ s = some (p.drop k))

theorem inByte_ok {σ : St} {id k : Nat} {p : List UInt8} {tl : Tail} {s : Option (List UInt8)} (h : σ.objs[id]? = some (inC p tl k s.isNone)) (hp : p.length ≤ 1000000) (hs : At p k s) :
    CallsA Try.prog 84 [.ptr id 0] σ (fun av σ' => av = .v (.int .u8 (be (takeB 1 s) : Nat)) ∧ ∃ k', At p k' (takeS 1 s) ∧ σ' = { σ with objs := σ.objs.set id (inC p tl k' (takeS 1 s).isNone) }) := by
  obtain ⟨hk, rfl | rfl⟩ := hs
  · refine callsA_mono (inByte_bad (x := .sl 1 (bytesA p) p.length tl) (y := .v (.int .i64 k)) h) (fun av σ' ⟨h1, h2⟩ => ⟨h1, k, ⟨hk, .inl rfl⟩, ?_⟩)
    rw [← h2]
    exact (St.set_same h).symm
  · by_cases hlt : k < p.length
    · have hl1 : 1 ≤ (p.drop k).length := by simp; omega
      have e1 : takeB 1 (some (p.drop k)) = [p[k]] := by
        show (if 1 ≤ (p.drop k).length then (p.drop k).take 1 else []) = _
        rw [if_pos hl1, List.drop_eq_getElem_cons hlt]; rfl
      have e2 : takeS 1 (some (p.drop k)) = some (p.drop (k + 1)) := by
        show (if 1 ≤ (p.drop k).length then some ((p.drop k).drop 1) else none) = _
        rw [if_pos hl1, List.drop_drop]
      refine callsA_mono (inByte_yes h hp hlt) (fun av σ' ⟨h1, h2⟩ => ⟨?_, k + 1, ⟨by omega, .inr e2⟩, ?_⟩)
      · rw [h1, e1]; simp [be]
      · rw [h2, e2]; rfl
    · have e0 : p.drop k = [] := List.drop_of_length_le (by omega)
      refine callsA_mono (inByte_end h (by omega)) (fun av σ' ⟨h1, h2⟩ => ⟨?_, k, ⟨hk, .inl ?_⟩, ?_⟩)
      · rw [h1, e0]; rfl
      · rw [e0]; rfl
      · rw [h2, e0]; rfl

theorem inEnd_some {σ : St} {id k : Nat} {p : List UInt8} {tl : Tail} (h : σ.objs[id]? = some (inC p tl k false)) :
    CallsA Try.prog 113 [.ptr id 0] σ (fun av σ' => av = .v (.bool ((k : Int) == (p.length : Int))) ∧ σ = σ') := by
  unfold inC at h
  refine callsA_body Try.func113 rfl rfl rfl ?_; refine run_seq_k fun K1 hK1 => ?_; refine run_region_k rfl fun J2 hJ2 => ?_; (try simp [h]); refine hJ2 _ _ ?_; refine hK1 _ _ ?_; refine run_seq_k fun K3 hK3 => ?_
  refine run_draw (by kernel_rfl) fun J4 hJ4 => ?_
  refine rq 0 ?_; (try simp [h]); refine rq 1 ?_; (try simp [h]); refine rq 2 ?_; (try simp [h]); refine rq 3 ?_; (try simp [h]); refine rq 4 ?_; (try simp [h]); refine rq 5 ?_; (try simp [h]); refine rq 6 ?_; (try simp [h]); refine rq 7 ?_; (try simp [h]); refine rq 8 ?_; (try simp [h]); refine rq 9 ?_; (try simp [h]); refine rq 10 ?_; (try simp [h]); refine rq 11 ?_; (try simp [h]); refine rq 12 ?_; (try simp [h]); refine rq 13 ?_; (try simp [h]); refine rq 14 ?_; (try simp [h]); refine rq 15 ?_; (try simp [h]); refine rq 16 ?_; (try simp [h]); refine rq 17 ?_; try simp [h]
  refine runD_done (by kernel_rfl) (by kernel_rfl) (by kernel_rfl) ?_
  refine hJ4 _ _ ?_; refine hK3 _ _ ?_; refine ra ?_; simp [h]

theorem inEnd_ok {σ : St} {id k : Nat} {p : List UInt8} {tl : Tail} {s : Option (List UInt8)} (h : σ.objs[id]? = some (inC p tl k s.isNone)) (hs : At p k s) :
    CallsA Try.prog 113 [.ptr id 0] σ (fun av σ' => av = .v (.bool (endB s)) ∧ σ = σ') := by
  obtain ⟨hk, rfl | rfl⟩ := hs
  · exact inEnd_bad (x := .sl 1 (bytesA p) p.length tl) (y := .v (.int .i64 k)) h
  · have e : endB (some (p.drop k)) = ((k : Int) == (p.length : Int)) := by
      have h1 : endB (some (p.drop k)) = true ↔ k = p.length := by simp [endB]; omega
      rw [Bool.eq_iff_iff, h1]; simp; omega
    rw [e]; exact inEnd_some h

theorem takeS_none_be {s : Option (List UInt8)} (h : takeS 1 s = none) : be (takeB 1 s) = 0 := by
  cases s with
  | none => rfl
  | some p =>
    cases p with
    | nil => rfl
    | cons b l => simp [takeS] at h

end Go.Proofs.Ytdbaddholggkbaa

/-
  The document's reader: truths, long numbers.
-/
namespace Go.Proofs.Ytdbaddholggkbaa
set_option linter.unnecessarySimpa false
open Go Go.Vm
set_option linter.unusedSimpArgs false
set_option linter.unusedVariables false
set_option maxRecDepth 100000
attribute [local simp] evalL wantedA isCall opA evalA evalAll evalsA evalOpt ofValue ofCell plain binA_eql_pn binA_neq_pn binA_gtr binA_lss binA_geq binA_leq binA_add binA_sub binA_eql binA_neq binA_or binA_shl binA_shr binA_mul binA_quo binA_rem binA_agg_eql binA_agg_neq convA_int unA_not fieldAddrA loadA partA pickA_true pickA_false pickA_bb lenA builtinA storeA splice AV.cells AV.isCell sliceA boundA intA callOf indexAddrA newObjA buildA fillA zeroA ofCells buildSliceA indexA fieldA coinsC_at coinC inC

set_option maxHeartbeats 1600000 in
attribute [local simp] undefA List.getElem?_cons_zero List.getElem?_cons_succ in
theorem inFlag_ok {σ : St} {id k : Nat} {p : List UInt8} {tl : Tail} {s : Option (List UInt8)} (h : σ.objs[id]? = some (inC p tl k s.isNone)) (hp : p.length ≤ 1000000) (hk : At p k s) :
    CallsA Try.prog 112 [.ptr id 0] σ (fun av σ' => av = .v (.bool (be (takeB 1 s) == 1)) ∧ ∃ k', At p k' (flagS s) ∧ σ' = { σ with objs := σ.objs.set id (inC p tl k' (flagS s).isNone) }) := by
  have hs := set_self_of h
  have F := And.intro hs (True.intro)
  refine callsA_body Try.func112 rfl rfl rfl ?_; refine sr fun _ hJ2 => ?_; refine hJ2 _ _ ?_; refine sr fun _ hJ4 => ?_; refine ca (c := inByte_ok (st) (st) (st)) (k := ?_); rintro _ _ ⟨rfl, k1, hk1, rfl⟩; (repeat (first | simp [F] | simp (disch := omega) only [wC, if_pos, if_neg])); refine hJ4 _ _ ?_; refine sr fun _ hJ6 => ?_; refine gs 11 (fun g2_5 => ?_) (fun g2_5 => ?_)
  · (try exact nope g2_5); all_goals have g2_5p := g2_5; try simp [F] at g2_5p
    all_goals
     replace F := aF g2_5 F; (try replace F := aF g2_5p F); (iterate 2 refine no2 (k := ?_)); refine hJ6 _ _ ?_; refine sr fun _ hJ8 => ?_; refine gs 22 (fun g3_5 => ?_) (fun g3_5 => ?_)
     · try exact nope g3_5
       all_goals
        replace F := wf F g3_5; (iterate 2 refine go2 (k := ?_)); refine hJ8 _ _ ?_; refine ra ?_; exact rt
     try exact nope g3_5
     all_goals
      replace F := wf F g3_5; (iterate 2 refine no2 (k := ?_)); refine hJ8 _ _ ?_; refine ra ?_
      have hb0 := takeS_none_be g2_5p
      have hf : flagS s = none := (by simp [flagS, hb0, g2_5p])
      refine ⟨by simp [hb0], k1, ⟨hk1.1, .inl hf⟩, by simp [hf, g2_5p]⟩
  (try exact nope g2_5); all_goals have g2_5p := g2_5; try simp [F] at g2_5p
  all_goals
   replace F := aF g2_5 F; (try replace F := aF g2_5p F); (iterate 2 refine go2 (k := ?_)); refine hJ6 _ _ ?_; refine sr fun _ hJ10 => ?_; refine gs 22 (fun g3_5 => ?_) (fun g3_5 => ?_)
   · try exact nope g3_5
     all_goals
      replace F := wf F g3_5; (iterate 2 refine go2 (k := ?_)); refine hJ10 _ _ ?_; refine ra ?_
      have hf : flagS s = takeS 1 s := if_neg (by omega)
      rw [hf]
      have hd : decide ((1 : Int) < (be (takeB 1 s) : Nat)) = false := (by simp; omega)
      refine ⟨?_, k1, hk1, by simp [hd, F]⟩
      simp
      rw [Bool.eq_iff_iff]
      simp
      omega
   try exact nope g3_5
   all_goals
    replace F := wf F g3_5; (iterate 2 refine no2 (k := ?_)); refine hJ10 _ _ ?_; refine ra ?_
    have hf : flagS s = none := if_pos (by omega)
    refine ⟨?_, k1, ⟨hk1.1, .inl hf⟩, by simp [hf, F]⟩
    simp
    omega

theorem takeB_succ {p : List UInt8} {k i : Nat} (h : k + i < p.length) : be (takeB (i + 1) (some (p.drop k))) = be (takeB i (some (p.drop k))) * 256 + p[k + i].toNat := by
  have h1 : i + 1 ≤ (p.drop k).length := by simp; omega
  have h2 : i ≤ (p.drop k).length := by omega
  simp only [takeB, h1, h2, if_true]
  have h4 : i < (p.drop k).length := by omega
  rw [take_snoc h4, be_snoc, List.getElem_drop]

theorem takeS_some {p : List UInt8} {k n : Nat} (h : k + n ≤ p.length) : takeS n (some (p.drop k)) = some (p.drop (k + n)) := by
  have h1 : n ≤ (p.drop k).length := by simp; omega
  show (if n ≤ (p.drop k).length then some ((p.drop k).drop n) else none) = _
  rw [if_pos h1, List.drop_drop]
theorem takeS_no {p : List UInt8} {k n : Nat} (hk : k ≤ p.length) (h : p.length < k + n) : takeS n (some (p.drop k)) = none := by
  show (if n ≤ (p.drop k).length then some ((p.drop k).drop n) else none) = _
  rw [if_neg (by simp; omega)]
theorem takeB_no {p : List UInt8} {k n : Nat} (hk : k ≤ p.length) (h : p.length < k + n) : takeB n (some (p.drop k)) = [] := by
  show (if n ≤ (p.drop k).length then (p.drop k).take n else []) = _
  rw [if_neg (by simp; omega)]

set_option maxHeartbeats 1600000 in
attribute [local simp] undefA List.getElem?_cons_zero List.getElem?_cons_succ in
theorem inLong_some {σ : St} {id k n : Nat} {p : List UInt8} {tl : Tail} (h : σ.objs[id]? = some (inC p tl k false)) (hp : p.length ≤ 1000000) (hk : k ≤ p.length) (hn : n ≤ 8) :
    CallsA Try.prog 85 [.ptr id 0, .v (.int .i64 n)] σ (fun av σ' => av = .v (.int .u64 (be (takeB n (some (p.drop k))) : Nat)) ∧ ∃ k', At p k' (takeS n (some (p.drop k))) ∧ σ' = { σ with objs := σ.objs.set id (inC p tl k' (takeS n (some (p.drop k))).isNone) }) := by
  have hs := set_self_of h
  have hs0 := St.set_same h
  have F := And.intro h (And.intro hs (True.intro))
  refine callsA_body Try.func85 rfl rfl rfl ?_; refine sr fun _ hJ2 => ?_; refine hJ2 _ _ ?_; refine sq fun K3 hK3 => ?_; refine sq fun K4 hK4 => ?_
  refine run_draw (by kernel_rfl) fun J5 hJ5 => ?_
  refine rp2 0 (k := ?_); refine rp2 1 (k := ?_); refine rp2 2 (k := ?_); refine rp2 3 (k := ?_); refine rp2 4 (k := ?_); refine gd 11 (fun g1_4 => ?_) (fun g1_4 => ?_)
  · try exact nope g1_4
    all_goals
     replace F := wf F g1_4; refine rp2 5 (k := ?_); refine rp2 6 (k := ?_); refine rp2 7 (k := ?_); refine rp2 8 (k := ?_); refine rp2 9 (k := ?_); refine rp2 10 (k := ?_); refine rp2 11 (k := ?_); refine rp2 12 (k := ?_); refine rp2 13 (k := ?_); refine rp2 14 (k := ?_); refine rp2 15 (k := ?_); refine rp2 16 (k := ?_); refine rp2 17 (k := ?_); refine dd ?_; refine hJ5 _ _ ?_; refine hK4 _ _ ?_; refine ct ?_; refine sr fun _ hJ7 => ?_; refine hJ7 _ _ ?_; refine sr fun _ hJ9 => ?_; refine hJ9 _ _ ?_; refine ra ?_; exact rt
  try exact nope g1_4
  all_goals
   replace F := wf F g1_4; refine rp2 5 (k := ?_); refine rp2 6 (k := ?_); refine rp2 7 (k := ?_); refine rp2 8 (k := ?_); refine rp2 9 (k := ?_); refine rp2 10 (k := ?_); refine rp2 11 (k := ?_); refine rp2 12 (k := ?_); refine rp2 13 (k := ?_); refine rp2 14 (k := ?_); refine rp2 15 (k := ?_); refine rp2 16 (k := ?_); refine rp2 17 (k := ?_); refine dd ?_; refine hJ5 _ _ ?_; refine hK4 _ _ ?_; refine cs (fun c24 => ?_) (fun c24 => ?_)
   · try exact nope c24
     all_goals
      replace F := wf F c24; refine sr fun _ hJ11 => ?_; refine hJ11 _ _ ?_; refine sr fun _ hJ13 => ?_; refine hJ13 _ _ ?_; refine ra ?_
      have h1 := takeS_no hk (show p.length < k + n by omega)
      have h2 := takeB_no hk (show p.length < k + n by omega)
      rw [h1, h2]
      exact ⟨by simp, k, ⟨hk, .inl rfl⟩, by simp [F]⟩
   try exact nope c24
   all_goals
    replace F := wf F c24; refine run_skip ?_; refine hK3 _ _ ?_; refine sr fun _ hJ15 => ?_; refine hJ15 _ _ ?_; refine sq fun K16 hK16 => ?_; refine sr fun _ hJ18 => ?_; refine hJ18 _ _ ?_; refine run_block_k ?_; refine run_loopF (X := Nat) [0, 1, 4] (fun i ρ σ1 => (i ≤ n) ∧ (ρ 5 = .v (.int .u64 (be (takeB i (some (p.drop k))) : Nat))) ∧ (ρ 6 = .v (.int .i64 i)) ∧ (σ1 = { σ with objs := σ.objs.set id (inC p tl (k + i) false) })) (fun i => n - i) (0) ?st1 ?rd1
    case st1 =>
     refine ⟨lp, ?_, lp, ?_⟩
     · simp [takeB]
     · exact hs0.symm
    case rd1 =>
     rintro i ρ1 σ1 hF1 ⟨hi, h5, h6, hσ⟩; obtain rfl := hσ.symm
     have f1 := keepL hF1
     (try simp [KeepL, F] at f1); replace F := aF h5 F; replace F := aF h6 F; (try replace F := aF f1 F); refine sq fun K19 hK19 => ?_; refine sr fun _ hJ21 => ?_; refine hJ21 _ _ ?_; refine cs (fun c30 => ?_) (fun c30 => ?_)
     · try exact nope c30
       all_goals
        replace F := wf F c30; refine run_skip ?_; refine hK19 _ _ ?_; refine sq fun K22 hK22 => ?_; refine run_block_k ?_; refine rg' (h := fun J23 hJ23 => ?_)
        have hl0 : k + i < p.length := by omega
        refine ca (c := inByte_yes (k := k + i) (p := p) (tl := tl) (st) hp hl0) (k := ?_)
        rintro _ _ ⟨rfl, rfl⟩; (repeat (first | simp [F] | simp (disch := omega) only [wC, if_pos, if_neg]))
        refine hJ23 _ _ ?_; refine hK22 _ _ ?_; refine rg' (h := fun J24 hJ24 => ?_); refine hJ24 _ _ ?_
        have hlt : k + i < p.length := by omega
        have hb := be_lt7 (takeB i (some (p.drop k))) (by have := takeB_len i (some (p.drop k)); omega)
        have he := takeB_succ hlt
        have hbb := p[k + i].toNat_lt
        generalize be (takeB i (some (p.drop k))) = y at *
        refine ⟨(i + 1), ⟨kp, lp, ?_, lp, ?_⟩, lp⟩
        · simp [he]
          simp (disch := omega) only [wC, if_pos, if_neg]
          omega
        · simp [Int.add_assoc]
     try exact nope c30
     all_goals
      replace F := wf F c30; refine run_exit ?_; refine hK16 _ _ ?_; refine sr fun _ hJ26 => ?_; refine hJ26 _ _ ?_; refine ra ?_
      have h1 := takeS_some (show k + n ≤ p.length by omega)
      rw [h1]
      obtain rfl : i = n := by omega
      exact ⟨by simp, k + i, ⟨by omega, .inr rfl⟩, by simp [F]⟩

theorem inLong_ok {σ : St} {id k n : Nat} {p : List UInt8} {tl : Tail} {s : Option (List UInt8)} (h : σ.objs[id]? = some (inC p tl k s.isNone)) (hp : p.length ≤ 1000000) (hk : At p k s) (hn : n ≤ 8) :
    CallsA Try.prog 85 [.ptr id 0, .v (.int .i64 n)] σ (fun av σ' => av = .v (.int .u64 (be (takeB n s) : Nat)) ∧ ∃ k', At p k' (takeS n s) ∧ σ' = { σ with objs := σ.objs.set id (inC p tl k' (takeS n s).isNone) }) := by
  obtain ⟨hk, rfl | rfl⟩ := hk
  · refine callsA_mono (inLong_bad (x := .sl 1 (bytesA p) p.length tl) (y := .v (.int .i64 k)) h) (fun av σ' ⟨h1, h2⟩ => ⟨h1, k, ⟨hk, .inl rfl⟩, ?_⟩)
    rw [← h2]
    exact (St.set_same h).symm
  · exact inLong_some h hp hk hn

end Go.Proofs.Ytdbaddholggkbaa
