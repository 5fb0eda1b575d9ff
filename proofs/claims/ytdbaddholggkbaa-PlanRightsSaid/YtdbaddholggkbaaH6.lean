import Derived.Test.YtdbaddholggkbaaVmU
import Derived.Test.YtdbaddholggkbaaH5
import Derived.Test.YtdbaddholggkbaaVmMS
/-
  The document's numbers: a product by a number.
-/
namespace Go.Proofs.Ytdbaddholggkbaa
set_option linter.unnecessarySimpa false
set_option maxRecDepth 100000
set_option exponentiation.threshold 600
open Go Go.Vm
set_option linter.unusedSimpArgs false
set_option linter.unusedVariables false


attribute [local simp] evalL wantedA isCall opA evalA evalAll evalsA evalOpt ofValue ofCell plain binA_eql_pn binA_neq_pn binA_gtr binA_lss binA_geq binA_leq binA_add binA_sub binA_eql binA_neq binA_orI binA_andI binA_shl binA_shr binA_mul binA_quo binA_rem binA_agg_eql binA_agg_neq convA_int unA_not fieldAddrA loadA partA pickA_true pickA_false pickA_bb lenA builtinA makeA zeros64 storeA splice readA rowAppA zc64 appendA roomA maxLen AV.cells AV.isCell sliceA boundA intA callOf indexAddrA newObjA buildA fillA zeroA ofCells buildSliceA indexA fieldA numA_len4 numA_take4 numA_drop4 set_appN get_appN take_appN List.getElem?_cons_zero List.getElem?_cons_succ

theorem valD_inc {Q : Nat} (hQ : Q < 2 ^ 512) : valD 65536 ((digs 65536 32 Q).set 0 (Q % 65536 + 1)) = Q + 1 := by
  have h8 : (65536 : Nat) ^ 32 = 2 ^ 512 := by rw [show (65536 : Nat) = 2 ^ 16 from rfl, ← Nat.pow_mul]
  have e := valD_set (b := 65536) (l := digs 65536 32 Q) (i := 0) (by simp) (Q % 65536 + 1)
  rw [digs_get (by omega), valD_digs, h8, Nat.mod_eq_of_lt hQ] at e
  simp at e
  omega

theorem set_le {n Q i m : Nat} (hm : m ≤ 65536) : ∀ d ∈ (digs 65536 n Q).set i m, d ≤ 4611686018427387904 := by
  intro d hd
  rcases List.mem_or_eq_of_mem_set hd with h | h
  · have := digs_lt (b := 65536) (by decide) d h; omega
  · omega

set_option maxHeartbeats 1600000 in
attribute [local simp] undefA List.getElem?_cons_zero List.getElem?_cons_succ numA_zero4 in
theorem rmuldiv_ok {σ : St} {a b c : Nat} {up : Bool} (ha : a < 2 ^ 256) (hb : b < 2 ^ 256) (hc : c < 2 ^ 256) :
    CallsA Try.prog 69 [.agg (numA a), .agg (numA b), .agg (numA c), .v (.bool up)] σ (fun av σ' => av = .tup [.agg (numA (mdN a b c up)), .v (.int .i64 (mdE a b c up : Nat))] ∧ σ = σ') := by
  refine callsA_gcS ?_ (by simp [AV.under, underL, numA])
  have hP := prod_lt ha hb
  obtain ⟨Q, hQ⟩ : ∃ Q, Q = a * b / c := ⟨_, rfl⟩
  have hQl : Q < 2 ^ 512 := by rw [hQ]; exact Nat.lt_of_le_of_lt (Nat.div_le_self _ _) hP
  obtain ⟨V, hV⟩ : ∃ V, V = mdQ a b c up := ⟨_, rfl⟩
  have F := True.intro
  refine callsA_body Try.func69 rfl rfl rfl ?_
  refine sq fun K1 hK1 => ?_
  refine rg' (h := fun J2 hJ2 => ?_)
  refine hJ2 _ _ ?_
  refine hK1 _ _ ?_
  refine sq fun K3 hK3 => ?_
  refine sq fun K4 hK4 => ?_
  refine rg' (h := fun J5 hJ5 => ?_)
  refine ca (c := zero_ok (x := ⟨c, hc⟩)) (k := ?_)
  rintro _ _ ⟨rfl, rfl⟩
  repeat (first | simp [F] | simp (disch := omega) only [wC, if_pos, if_neg])
  refine hJ5 _ _ ?_
  refine hK4 _ _ ?_
  refine cs (fun c15 => ?_) (fun c15 => ?_)
  · try exact nope c15
    all_goals have c15p := c15
    all_goals try simp [F] at c15p
    all_goals
     replace F := And.intro c15 F
     try replace F := And.intro c15p F
     have h0 : c = 0 := by simpa using c15
     subst h0
     have e1 : mdN a b 0 up = 0 := by simp [mdN]
     have e2 : mdE a b 0 up = 1 := by simp [mdE]
     replace F := And.intro e1 (And.intro e2 F)
     refine sq fun K6 hK6 => ?_
     refine rg' (h := fun J7 hJ7 => ?_)
     refine hJ7 _ _ ?_
     refine hK6 _ _ ?_
     refine run_ret ?_
     try simp only [Then, InBlock, NoGoto]
     refine acell2 (h := ?_)
     exact gcr
  try exact nope c15
  all_goals have c15p := c15
  all_goals try simp [F] at c15p
  all_goals
   replace F := And.intro c15 F
   try replace F := And.intro c15p F
   have h0 : ¬ c = 0 := by simpa using c15
   have e1 : mdN a b c up = if V < 2 ^ 256 then V else 0 := by rw [hV]; exact if_neg h0
   have e2 : mdE a b c up = if V < 2 ^ 256 then 0 else 2 := by rw [hV]; exact if_neg h0
   replace F := And.intro e1 (And.intro e2 F)
   refine run_skip ?_
   refine hK3 _ _ ?_
   refine sq fun K8 hK8 => ?_
   refine run_draw (by kernel_rfl) fun J9 hJ9 => ?_
   refine rp2 0 (k := ?_)
   refine rp2 1 (k := ?_)
   refine rp2 3 (k := ?_)
   refine dc 2 rfl (c := wide_ok ha hb) (k := ?_)
   rintro _ _ ⟨rfl, rfl⟩
   refine ⟨by first | exact fun _ _ h => h | (refine later_list [3] (by kernel_rfl) (List.forall_mem_cons.2 ⟨fun _ => fact2 rfl rfl ?_, fun _ h => absurd h List.not_mem_nil⟩) <;> constructor <;> first | rfl | (simp [F]; done)), ?_⟩
   repeat (first | simp [F] | simp (disch := omega) only [wC, if_pos, if_neg])
   refine dc 4 rfl (c := by_raw hP hc (by omega)) (k := ?_)
   rintro _ _ ⟨rfl, rfl⟩
   refine ⟨ln, ?_⟩
   repeat (first | simp [F] | simp (disch := omega) only [wC, if_pos, if_neg])
   refine rp2 5 (k := ?_)
   refine rp2 6 (k := ?_)
   refine rp2 7 (k := ?_)
   refine rp2 8 (k := ?_)
   refine rp2 9 (k := ?_)
   refine dd ?_
   refine hJ9 _ _ ?_
   refine hK8 _ _ ?_
   refine sq fun K10 hK10 => ?_
   refine sq fun K11 hK11 => ?_
   rw [← hQ]
   refine run_forget σ.rows.length (k := ?_)
   have hgQ : (u64s (digs 65536 32 Q))[0]? = some (.v (.int .u64 (Q % 65536 : Nat))) := by have := digU_get (b := 65536) (x := Q) (show 0 < 32 by omega); simpa using this
   obtain ⟨M, hM⟩ : ∃ M, M = Q % 65536 := ⟨_, rfl⟩
   rw [← hM] at hgQ
   obtain ⟨_, hgQ2⟩ := List.getElem?_eq_some_iff.1 hgQ
   have hset := u64s_set (digs 65536 32 Q) 0 (M + 1) (by simp)
   obtain ⟨L, hL⟩ : ∃ L, L = (digs 65536 32 Q).set 0 (M + 1) := ⟨_, rfl⟩
   rw [← hL] at hset
   have hLl : L.length = 32 := by rw [hL]; simp
   have hLv : valD 65536 L = Q + 1 := by rw [hL, hM]; exact valD_inc hQl
   have hLm : ∀ d ∈ L, d ≤ 4611686018427387904 := by rw [hL]; exact set_le (by omega)
   have hMw : IntKind.u64.wrap ((M : Int) + 1) = ((M + 1 : Nat) : Int) := by rw [wrap_u64c (by omega)]; rfl
   obtain ⟨M1, hM1⟩ : ∃ M1, M1 = M + 1 := ⟨_, rfl⟩
   rw [← hM1] at hset hMw
   simp only [List.take_zero, List.nil_append, Nat.zero_add, List.drop_one] at hset
   replace F := And.intro hset F
   replace F := And.intro hgQ F
   replace F := And.intro hgQ2 F
   replace F := And.intro hMw F
   replace F := And.intro hLl F
   refine rg' (h := fun J12 hJ12 => ?_)
   refine gs 26 (fun g4_1 => ?_) (fun g4_1 => ?_)
   · try exact nope g4_1
     all_goals have g4_1p := g4_1
     all_goals try simp [F] at g4_1p
     all_goals
      replace F := And.intro g4_1 F
      try replace F := And.intro g4_1p F
      refine go2 (k := ?_)
      refine hJ12 _ _ ?_
      refine hK11 _ _ ?_
      refine cs (fun c28 => ?_) (fun c28 => ?_)
      · try exact nope c28
        all_goals have c28p := c28
        all_goals try simp [F] at c28p
        all_goals
         replace F := And.intro c28 F
         try replace F := And.intro c28p F
         have hr : up = true ∧ ¬ a * b % c = 0 := ⟨by first | exact c28 | simpa using c28, by simpa using g4_1⟩
         have hVq : V = Q + 1 := by rw [hV, hQ]; unfold mdQ; rw [if_pos ⟨hr.1, hr.2⟩]
         obtain ⟨hu, _⟩ := hr
         subst hu
         refine sq fun K13 hK13 => ?_
         refine rg' (h := fun J14 hJ14 => ?_)
         refine hJ14 _ _ ?_
         refine hK13 _ _ ?_
         refine rg' (h := fun J15 hJ15 => ?_)
         refine ca (c := carry_ok (k := σ.rows.length) (g := 0) (n := 32) (L := L) (by simp) hLl (by omega) hLm) (k := ?_)
         rintro _ _ ⟨rfl, rfl⟩
         rw [hLv, ← hVq]
         repeat (first | simp [F] | simp (disch := omega) only [wC, if_pos, if_neg])
         refine hJ15 _ _ ?_
         refine hK10 _ _ ?_
         refine sq fun K16 hK16 => ?_
         refine run_fz 10 1 (k := ?_)
         refine rg' (h := fun J17 hJ17 => ?_)
         refine ca (c := rof_ok (L := digs 65536 32 V ++ [V / 65536 ^ 32]) (n := 33) (by simp) (by omega) (by omega) (by rw [List.take_append_of_le_length (by simp)]; intro d hd; exact digs_lt (by decide) d (List.mem_of_mem_take hd))) (k := ?_)
         rintro _ _ ⟨rfl, rfl⟩
         try rw [valD_whole]
         try rw [valD_digs, show (65536 : Nat) ^ 32 = 2 ^ 512 by rw [show (65536 : Nat) = 2 ^ 16 from rfl, ← Nat.pow_mul], Nat.mod_eq_of_lt hQl, ← hVq]
         repeat (first | simp [F] | simp (disch := omega) only [wC, if_pos, if_neg])
         refine hJ17 _ _ ?_
         refine hK16 _ _ ?_
         refine sq fun K18 hK18 => ?_
         refine sq fun K19 hK19 => ?_
         refine rg' (h := fun J20 hJ20 => ?_)
         refine hJ20 _ _ ?_
         refine hK19 _ _ ?_
         refine cs (fun c42 => ?_) (fun c42 => ?_)
         · try exact nope c42
           all_goals have c42p := c42
           all_goals try simp [F] at c42p
           all_goals
            replace F := And.intro c42 F
            try replace F := And.intro c42p F
            have hbig : ¬ V < 2 ^ 256 := by have h := c42; simp at h; omega
            simp only [Nat.reducePow] at hbig
            replace F := And.intro hbig F
            refine sq fun K21 hK21 => ?_
            refine rg' (h := fun J22 hJ22 => ?_)
            refine hJ22 _ _ ?_
            refine hK21 _ _ ?_
            refine run_ret ?_
            try simp only [Then, InBlock, NoGoto]
            refine acell2 (h := ?_)
            exact gcr
         try exact nope c42
         all_goals have c42p := c42
         all_goals try simp [F] at c42p
         all_goals
          replace F := And.intro c42 F
          try replace F := And.intro c42p F
          have hfit : V < 2 ^ 256 := by have h := c42; simp at h; omega
          simp only [Nat.reducePow] at hfit
          replace F := And.intro hfit F
          refine run_skip ?_
          refine hK18 _ _ ?_
          refine sq fun K23 hK23 => ?_
          refine rg' (h := fun J24 hJ24 => ?_)
          refine hJ24 _ _ ?_
          refine hK23 _ _ ?_
          refine run_ret ?_
          try simp only [Then, InBlock, NoGoto]
          refine acell2 (h := ?_)
          exact gcr
      try exact nope c28
      all_goals have c28p := c28
      all_goals try simp [F] at c28p
      all_goals
       replace F := And.intro c28 F
       try replace F := And.intro c28p F
       have hVq : V = Q := by rw [hV, hQ]; unfold mdQ; rw [if_neg]; omega; rintro ⟨h1, h2⟩; simp_all
       have hu : up = false := by first | exact c28 | simpa using c28
       subst hu
       refine run_skip ?_
       refine hK10 _ _ ?_
       refine sq fun K25 hK25 => ?_
       refine run_fz 10 1 (k := ?_)
       refine rg' (h := fun J26 hJ26 => ?_)
       refine ca (c := rof_ok (L := digs 65536 32 Q) (n := 32) (by simp) (by omega) (by omega) (by intro d hd; exact digs_lt (by decide) d (List.mem_of_mem_take hd))) (k := ?_)
       rintro _ _ ⟨rfl, rfl⟩
       try rw [valD_whole]
       try rw [valD_digs, show (65536 : Nat) ^ 32 = 2 ^ 512 by rw [show (65536 : Nat) = 2 ^ 16 from rfl, ← Nat.pow_mul], Nat.mod_eq_of_lt hQl, ← hVq]
       repeat (first | simp [F] | simp (disch := omega) only [wC, if_pos, if_neg])
       refine hJ26 _ _ ?_
       refine hK25 _ _ ?_
       refine sq fun K27 hK27 => ?_
       refine sq fun K28 hK28 => ?_
       refine rg' (h := fun J29 hJ29 => ?_)
       refine hJ29 _ _ ?_
       refine hK28 _ _ ?_
       refine cs (fun c42 => ?_) (fun c42 => ?_)
       · try exact nope c42
         all_goals have c42p := c42
         all_goals try simp [F] at c42p
         all_goals
          replace F := And.intro c42 F
          try replace F := And.intro c42p F
          have hbig : ¬ V < 2 ^ 256 := by have h := c42; simp at h; omega
          simp only [Nat.reducePow] at hbig
          replace F := And.intro hbig F
          refine sq fun K30 hK30 => ?_
          refine rg' (h := fun J31 hJ31 => ?_)
          refine hJ31 _ _ ?_
          refine hK30 _ _ ?_
          refine run_ret ?_
          try simp only [Then, InBlock, NoGoto]
          refine acell2 (h := ?_)
          exact gcr
       try exact nope c42
       all_goals have c42p := c42
       all_goals try simp [F] at c42p
       all_goals
        replace F := And.intro c42 F
        try replace F := And.intro c42p F
        have hfit : V < 2 ^ 256 := by have h := c42; simp at h; omega
        simp only [Nat.reducePow] at hfit
        replace F := And.intro hfit F
        refine run_skip ?_
        refine hK27 _ _ ?_
        refine sq fun K32 hK32 => ?_
        refine rg' (h := fun J33 hJ33 => ?_)
        refine hJ33 _ _ ?_
        refine hK32 _ _ ?_
        refine run_ret ?_
        try simp only [Then, InBlock, NoGoto]
        refine acell2 (h := ?_)
        exact gcr
   try exact nope g4_1
   all_goals have g4_1p := g4_1
   all_goals try simp [F] at g4_1p
   all_goals
    replace F := And.intro g4_1 F
    try replace F := And.intro g4_1p F
    have hVq : V = Q := by have h := g4_1; simp at h; rw [hV, hQ]; unfold mdQ; rw [if_neg (fun h2 => h2.2 h)]; rfl
    refine no2 (k := ?_)
    refine hJ12 _ _ ?_
    refine hK11 _ _ ?_
    refine cf ?_
    refine run_skip ?_
    refine hK10 _ _ ?_
    refine sq fun K34 hK34 => ?_
    refine run_fz 10 1 (k := ?_)
    refine rg' (h := fun J35 hJ35 => ?_)
    refine ca (c := rof_ok (L := digs 65536 32 Q) (n := 32) (by simp) (by omega) (by omega) (by intro d hd; exact digs_lt (by decide) d (List.mem_of_mem_take hd))) (k := ?_)
    rintro _ _ ⟨rfl, rfl⟩
    try rw [valD_whole]
    try rw [valD_digs, show (65536 : Nat) ^ 32 = 2 ^ 512 by rw [show (65536 : Nat) = 2 ^ 16 from rfl, ← Nat.pow_mul], Nat.mod_eq_of_lt hQl, ← hVq]
    repeat (first | simp [F] | simp (disch := omega) only [wC, if_pos, if_neg])
    refine hJ35 _ _ ?_
    refine hK34 _ _ ?_
    refine sq fun K36 hK36 => ?_
    refine sq fun K37 hK37 => ?_
    refine rg' (h := fun J38 hJ38 => ?_)
    refine hJ38 _ _ ?_
    refine hK37 _ _ ?_
    refine cs (fun c42 => ?_) (fun c42 => ?_)
    · try exact nope c42
      all_goals have c42p := c42
      all_goals try simp [F] at c42p
      all_goals
       replace F := And.intro c42 F
       try replace F := And.intro c42p F
       have hbig : ¬ V < 2 ^ 256 := by have h := c42; simp at h; omega
       simp only [Nat.reducePow] at hbig
       replace F := And.intro hbig F
       refine sq fun K39 hK39 => ?_
       refine rg' (h := fun J40 hJ40 => ?_)
       refine hJ40 _ _ ?_
       refine hK39 _ _ ?_
       refine run_ret ?_
       try simp only [Then, InBlock, NoGoto]
       refine acell2 (h := ?_)
       exact gcr
    try exact nope c42
    all_goals have c42p := c42
    all_goals try simp [F] at c42p
    all_goals
     replace F := And.intro c42 F
     try replace F := And.intro c42p F
     have hfit : V < 2 ^ 256 := by have h := c42; simp at h; omega
     simp only [Nat.reducePow] at hfit
     replace F := And.intro hfit F
     refine run_skip ?_
     refine hK36 _ _ ?_
     refine sq fun K41 hK41 => ?_
     refine rg' (h := fun J42 hJ42 => ?_)
     refine hJ42 _ _ ?_
     refine hK41 _ _ ?_
     refine run_ret ?_
     try simp only [Then, InBlock, NoGoto]
     refine acell2 (h := ?_)
     exact gcr

end Go.Proofs.Ytdbaddholggkbaa
