import Derived.Test.YtdbaddholggkbaaZ7
import Derived.Test.YtdbaddholggkbaaZ13
import Derived.Test.YtdbaddholggkbaaZ14
import Derived.Test.YtdbaddholggkbaaZ12
/-
  Plans that are made of numbers..
-/
namespace Go.Proofs.Ytdbaddholggkbaa
set_option linter.unnecessarySimpa false
set_option maxRecDepth 100000
open Go Go.Vm
set_option linter.unusedSimpArgs false
set_option linter.unusedVariables false

attribute [local simp] evalL wantedA isCall opA evalA evalAll evalsA evalOpt ofValue ofCell plain binA_eql_pn binA_neq_pn binA_gtr binA_lss binA_geq binA_leq binA_add binA_sub binA_eql binA_neq binA_orI binA_andI binA_shl binA_shr binA_mul binA_quo binA_rem binA_agg_eql binA_agg_neq convA_int unA_not fieldAddrA loadA partA pickA_true pickA_false pickA_bb lenA builtinA storeA splice AV.cells AV.isCell sliceA boundA intA callOf indexAddrA newObjA buildA fillA zeroA ofCells buildSliceA indexA fieldA numA_len4 numA_take4 numA_drop4 set_appN get_appN take_appN List.getElem?_cons_zero List.getElem?_cons_succ makeA zeros64

/-- Coins that are none as yet, or some. -/
def allA (b : Bool) (l : List Coin) : AV := bif b then .sl 5 (coinsC l) l.length .shut else .sl 0 [] 0 .full
@[simp] theorem allA_yes (l : List Coin) : allA true l = .sl 5 (coinsC l) l.length .shut := rfl
@[simp] theorem allA_no (l : List Coin) : allA false l = .sl 0 [] 0 .full := rfl
theorem wk_allA {b : Bool} {l : List Coin} (h : b = false → l = []) : Wk (allA b l) (.sl 5 (coinsC l) l.length .shut) := by
  cases b with
  | true => exact Wk.refl _
  | false => rw [h rfl]; exact Wk.nil _ _ _
theorem ofNil_ok {σ : St} : CallsA Try.prog 62 [.sl 0 [] 0 .full] σ (fun av σ' => av = .sl 5 (coinsC (ofL [])) (ofL []).length .shut ∧ σ = σ') :=
  callsA_wk (.cons (Wk.nil _ _ _) .nil) (of_ok (l := []) (tl := .shut) (by simp))

set_option maxHeartbeats 1600000 in
attribute [local simp] undefA List.getElem?_cons_zero List.getElem?_cons_succ madC pcC pcsC_noObj perC persC_noObj in
theorem plans_ok {σ : St} {m : Mad} (hm : m.Ok) (hf : fewP m) :
    CallsA Try.prog 21 [.agg (madC m)] σ (fun av σ' => av = .agg (plnC (plansL m)) ∧ σ = σ') := by
  refine callsA_gcS ?_ (by simp [AV.under, underL, plnC, persC_under])
  obtain ⟨K, hK⟩ : ∃ K, K = kindM m := ⟨_, rfl⟩
  obtain ⟨T, hT⟩ : ∃ T, T = persL m := ⟨_, rfl⟩
  have hTl := persL_len m
  rw [← hT] at hTl
  have hTS := lenS_persL hm
  rw [← hT] at hTS
  have hTm := persL_mem hm
  rw [← hT] at hTm
  have hK6 : K.toNat < 6 := by rw [hK]; unfold kindM; exact UInt8.mod_lt _ (by decide)
  have hkn : ∀ n : UInt8, K = n ↔ (K.toNat : Int) = (n.toNat : Int) := fun n => ⟨fun e => by rw [e], fun e => UInt8.toNat_inj.1 (Int.ofNat_inj.1 e)⟩
  obtain ⟨O, hO⟩ : ∃ O, O = ofL [] := ⟨_, rfl⟩
  obtain ⟨Q, hQ⟩ : ∃ Q, Q = ofL m.c := ⟨_, rfl⟩
  have hPl : plansL m = if K = 0 then ⟨0, 0, 0, [], []⟩
    else if K = 1 then ⟨1, m.s, m.s + (m.n + 1), Q, []⟩
    else if K = 2 then ⟨2, 0, m.s, Q, []⟩
    else if K = 3 ∨ K = 5 then ⟨K, m.s, m.s + lenS T, sumL T [], T⟩
    else ⟨K, 0, 0, Q, []⟩ := by rw [hK, hT, hQ]; rfl
  rw [hPl]
  have hTc : T.length = max 1 (min m.ps.length 16) := by
    rw [hT]; unfold persL; split
    · rename_i h; rw [h]; rfl
    · rename_i h; have : m.ps.length ≠ 0 := fun e => h (List.length_eq_zero_iff.1 e); simp; omega
  have hTat : ∀ i (h : i < T.length), T[i] = if h : i < m.ps.length then ⟨m.ps[i].l + 1, ofL m.ps[i].c⟩ else ⟨m.n + 1, O⟩ := by
    intro i h
    rw [hO]
    subst hT
    by_cases hp : m.ps = []
    · have : i = 0 := by rw [hTc, hp] at h; simp at h; omega
      subst this
      simp [persL, hp]
    · have h2 : i < m.ps.length := by have : m.ps.length ≠ 0 := fun e => hp (List.length_eq_zero_iff.1 e); omega
      rw [dif_pos h2]
      simp [persL, hp]
  have hQl : m.c.length ≤ 1000000 := by have := hf.1; omega
  have hof : ∀ σ, CallsA Try.prog 62 [.sl 5 (coinsC m.c) m.c.length .shut] σ (fun av σ' => av = .sl 5 (coinsC Q) Q.length .shut ∧ σ = σ') := fun σ => by rw [hQ]; exact of_ok hQl
  have hno : ∀ σ, CallsA Try.prog 62 [.sl 0 [] 0 .full] σ (fun av σ' => av = .sl 5 (coinsC O) O.length .shut ∧ σ = σ') := fun σ => by rw [hO]; exact ofNil_ok
  obtain ⟨mk, ms, mn, mc, mp⟩ := m
  obtain ⟨k1, k2, k3⟩ := hm
  obtain ⟨f1, f2, f3⟩ := hf
  simp only at k1 k2 k3 f1 f2 f3 hTc hTat hof
  have hk1 : (mk.toNat : Int) % 6 = (K.toNat : Int) := by rw [hK]; unfold kindM; simp [UInt8.toNat_mod]
  have hk2 : (mk.toNat : Int).tmod 6 = (K.toNat : Int) := by rw [Int.tmod_eq_emod_of_nonneg (by omega)]; exact hk1
  have hw1 : IntKind.u64.wrap (ms : Int) = (ms : Int) := wrap_u64c (by omega)
  have hw2 : IntKind.u64.wrap (mn : Int) = (mn : Int) := wrap_u64c (by omega)
  obtain ⟨L1, hL1⟩ : ∃ L1, L1 = mn + 1 := ⟨_, rfl⟩
  have hw3 : IntKind.u64.wrap ((mn : Int) + 1) = (L1 : Int) := by rw [wrap_u64c (by omega)]; omega
  have hw4 : IntKind.u64.wrap ((ms : Int) + (L1 : Int)) = ((ms + L1 : Nat) : Int) := by rw [wrap_u64c (by omega)]; omega
  simp only [← hL1] at hTat
  obtain ⟨B, hB⟩ : ∃ B, B = decide ((K.toNat : Int) = 3 ∨ (K.toNat : Int) = 5) := ⟨_, rfl⟩
  have hdr : ∀ f : Nat → AV, List.drop 2 (List.map f (List.range 2)) = [] := fun _ => rfl
  have F := And.intro hdr (True.intro)
  refine callsA_body Try.func21 rfl rfl rfl ?_
  refine sq fun K1 hK1 => ?_
  refine rg' (h := fun J2 hJ2 => ?_)
  refine hJ2 _ _ ?_
  refine hK1 _ _ ?_
  refine sq fun K3 hK3 => ?_
  replace F := And.intro hk1 F
  replace F := And.intro hk2 F
  refine rg' (h := fun J4 hJ4 => ?_)
  refine hJ4 _ _ ?_
  refine hK3 _ _ ?_
  refine sq fun K5 hK5 => ?_
  replace F := And.intro hw1 F
  replace F := And.intro hw2 F
  replace F := And.intro hw3 F
  refine run_draw (by kernel_rfl) fun J6 hJ6 => ?_
  refine rp2 0 (k := ?_)
  refine rp2 1 (k := ?_)
  refine rp2 2 (k := ?_)
  refine rp2 3 (k := ?_)
  refine rp2 4 (k := ?_)
  refine rp2 5 (k := ?_)
  refine rp2 6 (k := ?_)
  refine rp2 7 (k := ?_)
  refine rp2 8 (k := ?_)
  refine dd ?_
  refine hJ6 _ _ ?_
  refine hK5 _ _ ?_
  refine sq fun K7 hK7 => ?_
  refine sq fun K8 hK8 => ?_
  refine rg' (h := fun J9 hJ9 => ?_)
  refine hJ9 _ _ ?_
  refine hK8 _ _ ?_
  refine run_block_k ?_
  refine sq fun K10 hK10 => ?_
  refine rg' (h := fun J11 hJ11 => ?_)
  refine hJ11 _ _ ?_
  refine hK10 _ _ ?_
  refine cs (fun c21 => ?_) (fun c21 => ?_)
  · try exact nope c21
    all_goals have c21p := c21
    all_goals try simp [F] at c21p
    all_goals
     replace F := And.intro c21 F
     try replace F := And.intro c21p F
     refine sq fun K12 hK12 => ?_
     refine rg' (h := fun J13 hJ13 => ?_)
     refine hJ13 _ _ ?_
     refine hK12 _ _ ?_
     refine run_ret ?_
     try simp only [Then, InBlock, NoGoto]
     refine acell (h := ?_)
     rw [if_pos (by simpa [hkn] using c21)]
     show Wk _ _ ∧ _
     refine gcr (hA := ?_)
     exact WkL.agg (.cons (Wk.refl _) (.cons (Wk.refl _) (.cons (Wk.refl _) (.cons (Wk.nil _ _ _) (.cons (Wk.nil _ _ _) .nil)))))
  try exact nope c21
  all_goals have c21p := c21
  all_goals try simp [F] at c21p
  all_goals
   replace F := And.intro c21 F
   try replace F := And.intro c21p F
   refine sq fun K14 hK14 => ?_
   refine rg' (h := fun J15 hJ15 => ?_)
   refine hJ15 _ _ ?_
   refine hK14 _ _ ?_
   refine cs (fun c24 => ?_) (fun c24 => ?_)
   · try exact nope c24
     all_goals have c24p := c24
     all_goals try simp [F] at c24p
     all_goals
      replace F := And.intro c24 F
      try replace F := And.intro c24p F
      replace F := And.intro hw4 F
      refine rg' (h := fun J16 hJ16 => ?_)
      refine hJ16 _ _ ?_
      refine hK7 _ _ ?_
      refine sq fun K17 hK17 => ?_
      refine rg' (h := fun J18 hJ18 => ?_)
      refine ca (c := hof _) (k := ?_)
      rintro _ _ ⟨rfl, rfl⟩
      repeat (first | simp [F] | simp (disch := omega) only [wC, if_pos, if_neg])
      refine hJ18 _ _ ?_
      refine hK17 _ _ ?_
      refine sq fun K19 hK19 => ?_
      refine rg' (h := fun J20 hJ20 => ?_)
      refine hJ20 _ _ ?_
      refine hK19 _ _ ?_
      refine run_ret ?_
      try simp only [Then, InBlock, NoGoto]
      refine acell (h := ?_)
      show Wk _ _ ∧ _
      refine gcr (hA := ?_)
      simp [hkn, F, plnC, hL1]
      exact WkL.agg (.cons (Wk.refl _) (.cons (Wk.refl _) (.cons (Wk.refl _) (.cons (Wk.refl _) (.cons (Wk.nil _ _ _) .nil)))))
   try exact nope c24
   all_goals have c24p := c24
   all_goals try simp [F] at c24p
   all_goals
    replace F := And.intro c24 F
    try replace F := And.intro c24p F
    refine sq fun K21 hK21 => ?_
    refine rg' (h := fun J22 hJ22 => ?_)
    refine hJ22 _ _ ?_
    refine hK21 _ _ ?_
    refine cs (fun c32 => ?_) (fun c32 => ?_)
    · try exact nope c32
      all_goals have c32p := c32
      all_goals try simp [F] at c32p
      all_goals
       replace F := And.intro c32 F
       try replace F := And.intro c32p F
       refine rg' (h := fun J23 hJ23 => ?_)
       refine hJ23 _ _ ?_
       refine hK7 _ _ ?_
       refine sq fun K24 hK24 => ?_
       refine rg' (h := fun J25 hJ25 => ?_)
       refine ca (c := hof _) (k := ?_)
       rintro _ _ ⟨rfl, rfl⟩
       repeat (first | simp [F] | simp (disch := omega) only [wC, if_pos, if_neg])
       refine hJ25 _ _ ?_
       refine hK24 _ _ ?_
       refine sq fun K26 hK26 => ?_
       refine rg' (h := fun J27 hJ27 => ?_)
       refine hJ27 _ _ ?_
       refine hK26 _ _ ?_
       refine run_ret ?_
       try simp only [Then, InBlock, NoGoto]
       refine acell (h := ?_)
       show Wk _ _ ∧ _
       refine gcr (hA := ?_)
       simp [hkn, F, plnC, hL1]
       exact WkL.agg (.cons (Wk.refl _) (.cons (Wk.refl _) (.cons (Wk.refl _) (.cons (Wk.refl _) (.cons (Wk.nil _ _ _) .nil)))))
    try exact nope c32
    all_goals have c32p := c32
    all_goals try simp [F] at c32p
    all_goals
     replace F := And.intro c32 F
     try replace F := And.intro c32p F
     refine sqc (X := Unit) [1, 2, 3, 4, 5] (fun k ρ σ1 => (ρ 36 = .v (.bool B)) ∧ (σ1 = { σ with objs := σ.objs ++ [[.v (.int .u8 mk.toNat), .v (.int .u32 ms), .v (.int .u16 mn), .sl 5 (coinsC mc) mc.length .shut, .sl 2 (pcsC mp) mp.length .shut], [.v (.int .u8 0), .v (.int .u64 0), .v (.int .u64 0), .sl 0 [] 0 .full, .sl 0 [] 0 .full], [.v (.int .u8 K.toNat), .v (.int .u64 0), .v (.int .u64 0), .sl 0 [] 0 .full, .sl 0 [] 0 .full]] })) ?cy28 ?cx28
     case cy28 =>
      rintro k ρCc36 σ1 hFCc36 ⟨h36, hσ⟩
      obtain rfl := hσ.symm
      have fCc36 := keepL hFCc36
      try simp [KeepL, F] at fCc36
      replace F := And.intro h36 F
      try replace F := And.intro fCc36 F
      refine cs (t := B) (fun c36 => ?_) (fun c36 => ?_)
      · try exact nope c36
        all_goals have c36p := c36
        all_goals try simp [F] at c36p
        all_goals
         replace F := And.intro c36 F
         try replace F := And.intro c36p F
         refine sq fun K29 hK29 => ?_
         have h35 : (K.toNat : Int) = 3 ∨ (K.toNat : Int) = 5 := by rw [hB] at c36; simpa using c36
         refine rg' (h := fun J30 hJ30 => ?_)
         refine hJ30 _ _ ?_
         refine hK29 _ _ ?_
         refine sq fun K31 hK31 => ?_
         refine sq fun K32 hK32 => ?_
         refine rg' (h := fun J33 hJ33 => ?_)
         refine hJ33 _ _ ?_
         refine hK32 _ _ ?_
         refine run_block_k ?_
         refine run_loopG (X := PerQ) [1, 2, 3, 5] (fun q ρ σ1 => (q.i ≤ T.length) ∧ (ms + lenS T = q.e + lenS (T.drop q.i)) ∧ (sumL T [] = sumL (T.drop q.i) q.a) ∧ (Right q.a) ∧ (posB q.i = false → q.a = []) ∧ (ρ 6 = .v (.int .i64 q.i)) ∧ (σ1 = { σ with objs := σ.objs ++ [[.v (.int .u8 mk.toNat), .v (.int .u32 ms), .v (.int .u16 mn), .sl 5 (coinsC mc) mc.length .shut, .sl 2 (pcsC mp) mp.length .shut], [.v (.int .u8 0), .v (.int .u64 0), .v (.int .u64 0), .sl 0 [] 0 .full, .sl 0 [] 0 .full], [.v (.int .u8 K.toNat), .v (.int .u64 ms), .v (.int .u64 q.e), allA (posB q.i) q.a, grA σ.toks.length 2 (posB q.i) (persC (T.take q.i)) q.i]], toks := σ.toks ++ grT (posB q.i) q.i })) (fun q => T.length - q.i) (⟨0, ms, []⟩) ?st1 ?rd1
         case st1 =>
          refine ⟨lp, ?_, ?_, ?_, ?_, lp, ?_⟩
          · rfl
          · rfl
          · exact Go.Vm.right_nil
          · intro _; rfl
          · simp [F]
         case rd1 =>
          rintro q ρ1 σ1 hF1 ⟨hi, hE, hA, hqr, ha0, h6, hσ⟩
          obtain rfl := hσ.symm
          have f1 := keepL hF1
          try simp [KeepL, F] at f1
          replace F := And.intro h6 F
          try replace F := And.intro f1 F
          refine sq fun K34 hK34 => ?_
          refine sqc (X := Unit) [1, 2, 3, 5, 6] (fun k ρ σ1 => (ρ 55 = .v (.bool (decide (q.i < T.length)))) ∧ (σ1 = { σ with objs := σ.objs ++ [[.v (.int .u8 mk.toNat), .v (.int .u32 ms), .v (.int .u16 mn), .sl 5 (coinsC mc) mc.length .shut, .sl 2 (pcsC mp) mp.length .shut], [.v (.int .u8 0), .v (.int .u64 0), .v (.int .u64 0), .sl 0 [] 0 .full, .sl 0 [] 0 .full], [.v (.int .u8 K.toNat), .v (.int .u64 ms), .v (.int .u64 q.e), allA (posB q.i) q.a, grA σ.toks.length 2 (posB q.i) (persC (T.take q.i)) q.i]], toks := σ.toks ++ grT (posB q.i) q.i })) ?cy35 ?cx35
          case cy35 =>
           rintro k ρCr14 σ1 hFCr14 ⟨h55, hσ⟩
           obtain rfl := hσ.symm
           have fCr14 := keepL hFCr14
           try simp [KeepL, F] at fCr14
           replace F := And.intro h55 F
           try replace F := And.intro fCr14 F
           refine cs (t := (decide (q.i < T.length))) (fun c55 => ?_) (fun c55 => ?_)
           · try exact nope c55
             all_goals have c55p := c55
             all_goals try simp [F] at c55p
             all_goals
              replace F := And.intro c55 F
              try replace F := And.intro c55p F
              refine run_skip ?_
              refine hK34 _ _ ?_
              refine sq fun K36 hK36 => ?_
              refine run_block_k ?_
              refine sq fun K37 hK37 => ?_
              obtain ⟨i, E, S⟩ := q
              simp only at hi hE hA hqr ha0 h6
              have hlt : i < T.length := by simpa using c55
              have hTi := hTat i hlt
              have hcons : T.drop i = T[i] :: T.drop (i + 1) := List.drop_eq_getElem_cons hlt
              have htk : T.take (i + 1) = T.take i ++ [T[i]] := (List.take_append_getElem hlt).symm
              have hym := hTm _ (List.getElem_mem hlt)
              obtain ⟨y, hy⟩ : ∃ y, y = T[i] := ⟨_, rfl⟩
              rw [← hy] at hTi hcons htk hym
              rw [hcons] at hE hA
              obtain ⟨yl, yc⟩ := y
              simp only [sumL, lenS] at hE hA hym
              obtain ⟨S2, hS2⟩ : ∃ S2, S2 = cAddL S yc := ⟨_, rfl⟩
              have hS2r : Right S2 := by rw [hS2]; exact right_cAdd _ _
              rw [← hS2] at hA
              have hadd : ∀ σ, ∃ b, CallsA Try.prog 27 [allA (posB i) S, .sl 5 (coinsC yc) yc.length .shut] σ (fun av σ' => av = .tup [.sl 5 (coinsC S2) S2.length .shut, .v (.bool b)] ∧ σ = σ') := fun σ => ⟨_, hS2 ▸ callsA_wk (.cons (wk_allA ha0) (.cons (Wk.refl _) .nil)) (rpadd_ok hqr hym.2.2.2.1)⟩
              have hwe : IntKind.u64.wrap ((E : Int) + yl) = ((E + yl : Nat) : Int) := by rw [wrap_u64c (by omega)]; omega
              have hP : persC (T.take (i + 1)) = persC (T.take i) ++ [.v (.int .u64 yl), .sl 5 (coinsC yc) yc.length .shut] := by rw [htk, ← persC_append]; rfl
              replace F := And.intro hP.symm F
              have hb0 : posB i = false → persC (T.take i) = [] ∧ i = 0 := fun h => by have h0 := posB_no h; subst h0; simp
              have happ : ∀ objs, appendA Try.prog 24 (grA σ.toks.length 2 (posB i) (persC (T.take i)) i) (.sl 2 [.v (.int .u64 yl), .sl 5 (coinsC yc) yc.length .shut] 1 .full) ⟨objs, σ.toks ++ grT (posB i) i, σ.gl, σ.rows⟩ = some (grA σ.toks.length 2 true (persC (T.take i) ++ [.v (.int .u64 yl), .sl 5 (coinsC yc) yc.length .shut]) (i + 1), ⟨objs, σ.toks ++ grT true (i + 1), σ.gl, σ.rows⟩) := fun objs => append_gr elemT_24 ti_88 (by decide) rfl hb0 (.inl rfl) (by simp [roomA]; omega) (by simp [maxLen]; omega)
              refine rg' (h := fun J38 hJ38 => ?_)
              refine ca (c := hno _) (k := ?_)
              rintro _ _ ⟨rfl, rfl⟩
              repeat (first | simp [F] | simp (disch := omega) only [wC, if_pos, if_neg])
              refine hJ38 _ _ ?_
              refine hK37 _ _ ?_
              refine sqc (X := Unit) [1, 2, 3, 5, 6, 7, 43, 44, 45, 46, 47, 48, 49, 50, 51, 52, 53, 54, 55, 58, 59, 60] (fun k ρ σ1 => (σ1 = { σ with objs := σ.objs ++ [[.v (.int .u8 mk.toNat), .v (.int .u32 ms), .v (.int .u16 mn), .sl 5 (coinsC mc) mc.length .shut, .sl 2 (pcsC mp) mp.length .shut], [.v (.int .u8 0), .v (.int .u64 0), .v (.int .u64 0), .sl 0 [] 0 .full, .sl 0 [] 0 .full], [.v (.int .u8 K.toNat), .v (.int .u64 ms), .v (.int .u64 E), allA (posB i) S, grA σ.toks.length 2 (posB i) (persC (T.take i)) i], [.v (.int .u64 yl), .sl 5 (coinsC yc) yc.length .shut]], toks := σ.toks ++ grT (posB i) i })) ?cy39 ?cx39
              case cy39 =>
               rintro k ρCc65 σ1 hFCc65 hσ
               obtain rfl := hσ.symm
               have fCc65 := keepL hFCc65
               try simp [KeepL, F] at fCc65
               try replace F := And.intro fCc65 F
               refine sq fun K40 hK40 => ?_
               replace F := And.intro happ F
               refine rg' (h := fun J41 hJ41 => ?_)
               refine hJ41 _ _ ?_
               refine hK40 _ _ ?_
               refine sq fun K42 hK42 => ?_
               replace F := And.intro hwe F
               refine rg' (h := fun J43 hJ43 => ?_)
               refine hJ43 _ _ ?_
               refine hK42 _ _ ?_
               refine rg' (h := fun J44 hJ44 => ?_)
               refine ca (c := (hadd _).choose_spec) (k := ?_)
               rintro _ _ ⟨rfl, rfl⟩
               repeat (first | simp [F] | simp (disch := omega) only [wC, if_pos, if_neg])
               refine hJ44 _ _ ?_
               refine hK36 _ _ ?_
               refine rg' (h := fun J45 hJ45 => ?_)
               refine hJ45 _ _ ?_
               refine ⟨gk, (⟨i + 1, E + yl, S2⟩), ⟨kpG, lpG, lpG, lpG, lpG, lpG, lpG, lpG⟩, lpG⟩
              case cx39 =>
               intro K39 hK39
               refine sq fun K46 hK46 => ?_
               refine rg' (h := fun J47 hJ47 => ?_)
               refine hJ47 _ _ ?_
               refine hK46 _ _ ?_
               refine cs (fun c65 => ?_) (fun c65 => ?_)
               · try exact nope c65
                 all_goals have c65p := c65
                 all_goals try simp [F] at c65p
                 all_goals
                  replace F := And.intro c65 F
                  try replace F := And.intro c65p F
                  have hip : i < mp.length := by simp at c65; omega
                  have hat := pcsC_at hip
                  have hb1 : i * 2 + 2 ≤ mp.length * 2 := by omega
                  have hxf := f3 _ (List.getElem_mem hip)
                  have hxk := k3 _ (List.getElem_mem hip)
                  rw [dif_pos hip] at hTi
                  obtain ⟨x, hx⟩ : ∃ x, x = mp[i] := ⟨_, rfl⟩
                  rw [← hx] at hat hTi hxf hxk
                  obtain ⟨xl, xc⟩ := x
                  simp only at hTi hxf hxk
                  have hyl : yl = xl + 1 := congrArg Per.l hTi
                  have hyc : yc = ofL xc := congrArg Per.c hTi
                  have hwx : IntKind.u64.wrap (xl : Int) = (xl : Int) := wrap_u64c (by omega)
                  have hwx1 : IntKind.u64.wrap ((xl : Int) + 1) = (yl : Int) := by rw [wrap_u64c (by omega)]; omega
                  replace F := And.intro hip F
                  replace F := And.intro hat F
                  replace F := And.intro hb1 F
                  replace F := And.intro hwx F
                  replace F := And.intro hwx1 F
                  refine run_draw (by kernel_rfl) fun J48 hJ48 => ?_
                  refine rp2 0 (k := ?_)
                  refine rp2 1 (k := ?_)
                  refine rp2 2 (k := ?_)
                  refine rp2 3 (k := ?_)
                  refine rp2 4 (k := ?_)
                  refine rp2 5 (k := ?_)
                  refine rp2 6 (k := ?_)
                  refine rp2 7 (k := ?_)
                  refine rp2 8 (k := ?_)
                  refine rp2 9 (k := ?_)
                  refine rp2 10 (k := ?_)
                  refine rp2 11 (k := ?_)
                  refine rp2 12 (k := ?_)
                  refine rp2 13 (k := ?_)
                  refine dc 14 rfl (c := (hyc ▸ of_ok (l := xc) (by omega))) (k := ?_)
                  rintro _ _ ⟨rfl, rfl⟩
                  refine ⟨by first | exact fun _ _ h => h | (refine later_list [12, 11, 10, 9, 8, 7, 6, 5, 4, 3, 2, 1, 0] (by kernel_rfl) (List.forall_mem_cons.2 ⟨fun _ => fact2 rfl rfl ?_, List.forall_mem_cons.2 ⟨fun _ => fact2 rfl rfl ?_, List.forall_mem_cons.2 ⟨fun _ => fact2 rfl rfl ?_, List.forall_mem_cons.2 ⟨fun _ => fact2 rfl rfl ?_, List.forall_mem_cons.2 ⟨fun _ => fact2 rfl rfl ?_, List.forall_mem_cons.2 ⟨fun _ => fact2 rfl rfl ?_, List.forall_mem_cons.2 ⟨fun _ => fact2 rfl rfl ?_, List.forall_mem_cons.2 ⟨fun _ => fact2 rfl rfl ?_, List.forall_mem_cons.2 ⟨fun _ => fact2 rfl rfl ?_, List.forall_mem_cons.2 ⟨fun _ => fact2 rfl rfl ?_, List.forall_mem_cons.2 ⟨fun _ => fact2 rfl rfl ?_, List.forall_mem_cons.2 ⟨fun _ => fact2 rfl rfl ?_, List.forall_mem_cons.2 ⟨fun _ => fact2 rfl rfl ?_, fun _ h => absurd h List.not_mem_nil⟩⟩⟩⟩⟩⟩⟩⟩⟩⟩⟩⟩⟩) <;> constructor <;> first | rfl | (simp [F]; done)), ?_⟩
                  repeat (first | simp [F] | simp (disch := omega) only [wC, if_pos, if_neg])
                  refine rp2 15 (k := ?_)
                  refine dop 16 rfl ?_
                  repeat (first | simp [F] | simp (disch := omega) only [wC, if_pos, if_neg])
                  refine ⟨ln, ?_⟩
                  refine dd ?_
                  refine hJ48 _ _ ?_
                  refine hK39 (()) _ _ ⟨kp, lp⟩
               try exact nope c65
               all_goals have c65p := c65
               all_goals try simp [F] at c65p
               all_goals
                replace F := And.intro c65 F
                try replace F := And.intro c65p F
                rw [dif_neg (by simp at c65; omega)] at hTi
                have hyl : yl = L1 := congrArg Per.l hTi
                have hyc : yc = O := congrArg Per.c hTi
                subst hyl hyc
                refine run_skip ?_
                refine hK39 (()) _ _ ⟨kp, lp⟩
           try exact nope c55
           all_goals have c55p := c55
           all_goals try simp [F] at c55p
           all_goals
            replace F := And.intro c55 F
            try replace F := And.intro c55p F
            have hii : q.i = T.length := by simp at c55; omega
            have hTE : T.drop q.i = [] := List.drop_of_length_le (by omega)
            rw [hTE] at hE hA
            simp only [lenS, sumL, Nat.add_zero] at hE hA
            have hTT : T.take q.i = T := List.take_of_length_le (by omega)
            have hpb : posB q.i = true := by simp [posB]; omega
            replace F := And.intro hTT (And.intro hpb F)
            refine run_exit ?_
            refine hK31 _ _ ?_
            refine sq fun K49 hK49 => ?_
            refine rg' (h := fun J50 hJ50 => ?_)
            refine hJ50 _ _ ?_
            refine hK49 _ _ ?_
            refine run_ret ?_
            try simp only [Then, InBlock, NoGoto]
            refine acell (h := ?_)
            show Wk _ _ ∧ _
            refine gcr (hA := ?_)
            rw [hE, hA, hii]
            rcases h35 with h | h
            all_goals simp [hkn, h, plnC]
            all_goals exact WkL.agg (.cons (Wk.refl _) (.cons (Wk.refl _) (.cons (Wk.refl _) (.cons (Wk.refl _) (.cons (Wk.shut _ _ _ _) .nil)))))
          case cx35 =>
           intro K35 hK35
           refine rg' (h := fun J51 hJ51 => ?_)
           refine gs 48 (fun g14_5 => ?_) (fun g14_5 => ?_)
           · try exact nope g14_5
             all_goals have g14_5p := g14_5
             all_goals try simp [F] at g14_5p
             all_goals
              replace F := And.intro g14_5 F
              try replace F := And.intro g14_5p F
              refine go2 (k := ?_)
              refine go2 (k := ?_)
              refine gs 52 (fun g14_9 => ?_) (fun g14_9 => ?_)
              · try exact nope g14_9
                all_goals have g14_9p := g14_9
                all_goals try simp [F] at g14_9p
                all_goals
                 replace F := And.intro g14_9 F
                 try replace F := And.intro g14_9p F
                 refine no2 (k := ?_)
                 refine no2 (k := ?_)
                 refine hJ51 _ _ ?_
                 refine hK35 (()) _ _ ⟨kp, ?_, lp⟩
                 · simp [hTc]
                   try rw [Bool.eq_iff_iff]
                   try simp
                   try simp at g14_5
                   try simp at g14_9
                   try omega
              try exact nope g14_9
              all_goals have g14_9p := g14_9
              all_goals try simp [F] at g14_9p
              all_goals
               replace F := And.intro g14_9 F
               try replace F := And.intro g14_9p F
               refine go2 (k := ?_)
               refine go2 (k := ?_)
               refine hJ51 _ _ ?_
               refine hK35 (()) _ _ ⟨kp, ?_, lp⟩
               · simp [hTc]
                 try rw [Bool.eq_iff_iff]
                 try simp
                 try simp at g14_5
                 try simp at g14_9
                 try omega
           try exact nope g14_5
           all_goals have g14_5p := g14_5
           all_goals try simp [F] at g14_5p
           all_goals
            replace F := And.intro g14_5 F
            try replace F := And.intro g14_5p F
            refine no2 (k := ?_)
            refine no2 (k := ?_)
            refine go2 (k := ?_)
            refine go2 (k := ?_)
            refine hJ51 _ _ ?_
            refine hK35 (()) _ _ ⟨kp, ?_, lp⟩
            · simp [hTc]
              try rw [Bool.eq_iff_iff]
              try simp
              try simp at g14_5
              try simp at g14_9
              try omega
      try exact nope c36
      all_goals have c36p := c36
      all_goals try simp [F] at c36p
      all_goals
       replace F := And.intro c36 F
       try replace F := And.intro c36p F
       refine run_skip ?_
       refine hK7 _ _ ?_
       refine sq fun K52 hK52 => ?_
       refine rg' (h := fun J53 hJ53 => ?_)
       refine ca (c := hof _) (k := ?_)
       rintro _ _ ⟨rfl, rfl⟩
       repeat (first | simp [F] | simp (disch := omega) only [wC, if_pos, if_neg])
       refine hJ53 _ _ ?_
       refine hK52 _ _ ?_
       refine sq fun K54 hK54 => ?_
       refine rg' (h := fun J55 hJ55 => ?_)
       refine hJ55 _ _ ?_
       refine hK54 _ _ ?_
       refine run_ret ?_
       try simp only [Then, InBlock, NoGoto]
       refine acell (h := ?_)
       have h35 := of_decide_eq_false (hB ▸ c36)
       show Wk _ _ ∧ _
       refine gcr (hA := ?_)
       simp [hkn, F, plnC, h35]
       exact WkL.agg (.cons (Wk.refl _) (.cons (Wk.refl _) (.cons (Wk.refl _) (.cons (Wk.refl _) (.cons (Wk.nil _ _ _) .nil)))))
     case cx28 =>
      intro K28 hK28
      refine sq fun K56 hK56 => ?_
      refine rg' (h := fun J57 hJ57 => ?_)
      refine hJ57 _ _ ?_
      refine hK56 _ _ ?_
      refine cs (fun c36 => ?_) (fun c36 => ?_)
      · try exact nope c36
        all_goals have c36p := c36
        all_goals try simp [F] at c36p
        all_goals
         replace F := And.intro c36 F
         try replace F := And.intro c36p F
         refine run_skip ?_
         refine hK28 (()) _ _ ⟨kp, ?_, lp⟩
         · rw [hB]
           have h := c36
           simp at h
           simp [h]
           try rfl
      try exact nope c36
      all_goals have c36p := c36
      all_goals try simp [F] at c36p
      all_goals
       replace F := And.intro c36 F
       try replace F := And.intro c36p F
       refine rg' (h := fun J58 hJ58 => ?_)
       refine hJ58 _ _ ?_
       refine hK28 (()) _ _ ⟨kp, ?_, lp⟩
       · rw [hB]
         have h := c36
         simp at h
         simp [h]
         try rfl

end Go.Proofs.Ytdbaddholggkbaa

/-
  What right plans give by a time: the plain laws.
-/
namespace Go.Vm
set_option linter.unnecessarySimpa false
set_option linter.unusedSimpArgs false
set_option linter.unusedVariables false
open Go

/-- Lists of what a plan is made of are within their bound. -/
def Mad.Len (m : Mad) : Prop := m.c.length ≤ 9223372036854775807 ∧ m.ps.length ≤ 9223372036854775807 ∧ ∀ x ∈ m.ps, x.c.length ≤ 9223372036854775807
/-- Parts of a plan, as they may be. -/
def PerOk (x : Per) : Prop := 0 < x.l ∧ x.l ≤ 2 ^ 16 ∧ x.c ≠ [] ∧ Right x.c ∧ ∀ d, d < 8 → amt x.c d < 2 ^ 250
/-- What holds of plans that are made. -/
structure Fine (p : Pln) : Prop where
  ok : p.Ok
  tot : Right p.tot
  kinds : p.k = 0 ∨ p.k = 1 ∨ p.k = 2 ∨ p.k = 3 ∨ p.k = 4 ∨ p.k = 5
  zero : p.k = 0 → p = ⟨0, 0, 0, [], []⟩
  even : p.k = 1 → p.s < p.e
  late : p.k = 2 → p.s = 0
  small : p.s + lenS p.ps ≤ 2 ^ 40
  pers : ∀ x ∈ p.ps, PerOk x
  steps : p.k = 3 ∨ p.k = 5 → p.e = p.s + lenS p.ps ∧ p.tot = sumL p.ps [] ∧ p.ps ≠ [] ∧ p.ps.length ≤ 16

theorem Fine.rights {p : Pln} (g : Fine p) : ∀ x ∈ p.ps, Right x.c := fun x hx => (g.pers x hx).2.2.2.1
theorem kindM_cases (m : Mad) : kindM m = 0 ∨ kindM m = 1 ∨ kindM m = 2 ∨ kindM m = 3 ∨ kindM m = 4 ∨ kindM m = 5 := by
  have h : (kindM m).toNat < 6 := by unfold kindM; exact UInt8.mod_lt _ (by decide)
  have a0 : ∀ n : UInt8, kindM m = n ↔ (kindM m).toNat = n.toNat := fun n => ⟨fun e => by rw [e], fun e => UInt8.toNat_inj.1 e⟩
  simp only [a0]
  simp
  omega

theorem plansL_good {m : Mad} (hm : m.Ok) : Fine (plansL m) := by
  have h3 := lenS_persL hm
  have h5 := persL_len m
  have hp := persL_mem hm
  have hs := hm.1
  have hn := hm.2.1
  have hq := right_ofL m.c
  have hql := right_len hq
  have hsum : Right (sumL (persL m) []) := right_sumL _ _ right_nil
  have hsl := right_len hsum
  have hk := kindM_cases m
  have hne := persL_ne m
  have hx : ∀ x ∈ persL m, x.l < 2 ^ 64 ∧ x.c.length ≤ 9223372036854775807 := fun x hx => by
    obtain ⟨a1, a2, a3, a4, a5⟩ := hp x hx
    have := right_len a4
    exact ⟨by omega, by omega⟩
  generalize hT : persL m = T at *
  generalize hQ : ofL m.c = Q at *
  generalize hS : sumL T [] = S at *
  generalize hK : kindM m = K at *
  unfold plansL
  rw [hT, hQ, hS, hK]
  rcases hk with h | h | h | h | h | h <;> subst h <;> simp only [show ¬ ((1 : UInt8) = 0) by decide, show ¬ ((2 : UInt8) = 0) by decide, show ¬ ((2 : UInt8) = 1) by decide, show ¬ ((3 : UInt8) = 0) by decide, show ¬ ((3 : UInt8) = 1) by decide, show ¬ ((3 : UInt8) = 2) by decide, show ¬ ((4 : UInt8) = 0) by decide, show ¬ ((4 : UInt8) = 1) by decide, show ¬ ((4 : UInt8) = 2) by decide, show ¬ ((4 : UInt8) = 3) by decide, show ¬ ((4 : UInt8) = 5) by decide, show ¬ ((5 : UInt8) = 0) by decide, show ¬ ((5 : UInt8) = 1) by decide, show ¬ ((5 : UInt8) = 2) by decide, show ¬ ((5 : UInt8) = 3) by decide, if_true, if_false, or_true, true_or, or_false, false_or]
  · exact ⟨by simp [Pln.Ok], right_nil, by simp, by simp, by simp, by simp, by simp [lenS], by simp, by simp⟩
  · exact ⟨⟨by simp only; omega, by simp only; omega, by simp only; omega, by simp, by simp⟩, hq, by simp, by simp, fun _ => by simp only; omega, by simp, by simp only [lenS]; omega, by simp, by simp⟩
  · exact ⟨⟨by simp, by simp only; omega, by simp only; omega, by simp, by simp⟩, hq, by simp, by simp, by simp, by simp, by simp only [lenS]; omega, by simp, by simp⟩
  · exact ⟨⟨by simp only; omega, by simp only; omega, by simp only; omega, by simp only; omega, hx⟩, hsum, by simp, by simp, by simp, by simp, by simp only; omega, hp, fun _ => ⟨rfl, hS.symm, hne, h5⟩⟩
  · exact ⟨⟨by simp, by simp, by simp only; omega, by simp, by simp⟩, hq, by simp, by simp, by simp, by simp, by simp only [lenS]; omega, by simp, by simp⟩
  · exact ⟨⟨by simp only; omega, by simp only; omega, by simp only; omega, by simp only; omega, hx⟩, hsum, by simp, by simp, by simp, by simp, by simp only; omega, hp, fun _ => ⟨rfl, hS.symm, hne, h5⟩⟩

end Go.Vm

/-
  Are two plans alike, by the document..
-/
namespace Go.Proofs.Ytdbaddholggkbaa
set_option linter.unnecessarySimpa false
set_option maxRecDepth 100000
open Go Go.Vm
set_option linter.unusedSimpArgs false
set_option linter.unusedVariables false

attribute [local simp] evalL wantedA isCall opA evalA evalAll evalsA evalOpt ofValue ofCell plain binA_eql_pn binA_neq_pn binA_gtr binA_lss binA_geq binA_leq binA_add binA_sub binA_eql binA_neq binA_orI binA_andI binA_shl binA_shr binA_mul binA_quo binA_rem binA_agg_eql binA_agg_neq convA_int unA_not fieldAddrA loadA partA pickA_true pickA_false pickA_bb lenA builtinA storeA splice AV.cells AV.isCell sliceA boundA intA callOf indexAddrA newObjA buildA fillA zeroA ofCells buildSliceA indexA fieldA numA_len4 numA_take4 numA_drop4 set_appN get_appN take_appN List.getElem?_cons_zero List.getElem?_cons_succ makeA zeros64

set_option maxHeartbeats 1600000 in
attribute [local simp] undefA List.getElem?_cons_zero List.getElem?_cons_succ plnC perC persC_noObj in
theorem rplsame_ok {σ : St} {a b : Pln} (ha : a.Ok) (hb : b.Ok) :
    CallsA Try.prog 31 [.agg (plnC a), .agg (plnC b)] σ (fun av σ' => av = .v (.bool (decide (a = b))) ∧ σ = σ') := by
  refine callsA_gcS ?_ rfl
  obtain ⟨D, hD⟩ : ∃ D, D = decide (a = b) := ⟨_, rfl⟩
  rw [← hD]
  obtain ⟨ak, a1, a2, a3, a4⟩ := a
  obtain ⟨bk, b1, b2, b3, b4⟩ := b
  obtain ⟨ha1, ha2, ha3, ha4, ha5⟩ := ha
  obtain ⟨hb1, hb2, hb3, hb4, hb5⟩ := hb
  simp only [Pln.mk.injEq] at *
  have hno : ¬ (ak = bk ∧ a1 = b1 ∧ a2 = b2 ∧ a3 = b3 ∧ a4 = b4) → D = false := fun h => by rw [hD]; exact decide_eq_false h
  have hyes : ak = bk → a1 = b1 → a2 = b2 → a3 = b3 → a4 = b4 → D = true := fun h1 h2 h3 h4 h5 => by rw [hD]; exact decide_eq_true ⟨h1, h2, h3, h4, h5⟩
  clear hD
  obtain ⟨B, hB⟩ : ∃ B, B = !(decide (ak = bk) && decide (a1 = b1) && decide (a2 = b2) && decide (a3 = b3) && decide (a4.length = b4.length)) := ⟨_, rfl⟩
  have F := True.intro
  refine callsA_body Try.func31 rfl rfl rfl ?_
  refine sq fun K1 hK1 => ?_
  refine rg' (h := fun J2 hJ2 => ?_)
  refine hJ2 _ _ ?_
  refine hK1 _ _ ?_
  refine sq fun K3 hK3 => ?_
  refine sqc (X := Unit) [2, 3, 4] (fun k ρ σ1 => (ρ 41 = .v (.bool B)) ∧ (σ1 = { σ with objs := σ.objs ++ [[.v (.int .u8 ak.toNat), .v (.int .u64 a1), .v (.int .u64 a2), .sl 5 (coinsC a3) a3.length .shut, .sl 2 (persC a4) a4.length .shut], [.v (.int .u8 bk.toNat), .v (.int .u64 b1), .v (.int .u64 b2), .sl 5 (coinsC b3) b3.length .shut, .sl 2 (persC b4) b4.length .shut]] })) ?cy4 ?cx4
  case cy4 =>
   rintro k ρCr1 σ1 hFCr1 ⟨h41, hσ⟩
   obtain rfl := hσ.symm
   have fCr1 := keepL hFCr1
   try simp [KeepL, F] at fCr1
   replace F := And.intro h41 F
   try replace F := And.intro fCr1 F
   refine cs (t := B) (fun c41 => ?_) (fun c41 => ?_)
   · try exact nope c41
     all_goals have c41p := c41
     all_goals try simp [F] at c41p
     all_goals
      replace F := And.intro c41 F
      try replace F := And.intro c41p F
      have h0 : D = false := hno (fun ⟨e1, e2, e3, e4, e5⟩ => by rw [hB, e1, e2, e3, e4, e5] at c41; simp at c41)
      replace F := And.intro h0 F
      refine sq fun K5 hK5 => ?_
      refine rg' (h := fun J6 hJ6 => ?_)
      refine hJ6 _ _ ?_
      refine hK5 _ _ ?_
      refine run_ret ?_
      try simp only [Then, InBlock, NoGoto]
      refine answer_tmp rfl (.inr rfl) ?_
      exact gcr
   try exact nope c41
   all_goals have c41p := c41
   all_goals try simp [F] at c41p
   all_goals
    replace F := And.intro c41 F
    try replace F := And.intro c41p F
    obtain ⟨e1, e2, e3, e4, e5⟩ : ak = bk ∧ a1 = b1 ∧ a2 = b2 ∧ a3 = b3 ∧ a4.length = b4.length := by rw [hB] at c41; simp at c41; obtain ⟨⟨⟨⟨h1, h2⟩, h3⟩, h4⟩, h5⟩ := c41; exact ⟨h1, h2, h3, h4, h5⟩
    refine run_skip ?_
    refine hK3 _ _ ?_
    refine sq fun K7 hK7 => ?_
    refine sq fun K8 hK8 => ?_
    refine rg' (h := fun J9 hJ9 => ?_)
    refine hJ9 _ _ ?_
    refine hK8 _ _ ?_
    refine run_block_k ?_
    refine run_loopF (X := Nat) [2, 3] (fun i ρ σ1 => (i ≤ a4.length) ∧ (a4.take i = b4.take i) ∧ (ρ 5 = .v (.int .i64 i)) ∧ (σ1 = { σ with objs := σ.objs ++ [[.v (.int .u8 ak.toNat), .v (.int .u64 a1), .v (.int .u64 a2), .sl 5 (coinsC a3) a3.length .shut, .sl 2 (persC a4) a4.length .shut], [.v (.int .u8 bk.toNat), .v (.int .u64 b1), .v (.int .u64 b2), .sl 5 (coinsC b3) b3.length .shut, .sl 2 (persC b4) b4.length .shut]] })) (fun i => a4.length - i) (0) ?st1 ?rd1
    case st1 =>
     refine ⟨lp, ?_, lp, ?_⟩
     · rfl
     · rfl
    case rd1 =>
     rintro i ρ1 σ1 hF1 ⟨hi, hE, h5, hσ⟩
     obtain rfl := hσ.symm
     have f1 := keepL hF1
     try simp [KeepL, F] at f1
     replace F := And.intro h5 F
     try replace F := And.intro f1 F
     refine sq fun K10 hK10 => ?_
     refine sq fun K11 hK11 => ?_
     refine rg' (h := fun J12 hJ12 => ?_)
     refine hJ12 _ _ ?_
     refine hK11 _ _ ?_
     refine cs (fun c46 => ?_) (fun c46 => ?_)
     · try exact nope c46
       all_goals have c46p := c46
       all_goals try simp [F] at c46p
       all_goals
        replace F := And.intro c46 F
        try replace F := And.intro c46p F
        refine run_skip ?_
        refine hK10 _ _ ?_
        refine sq fun K13 hK13 => ?_
        refine run_block_k ?_
        refine sq fun K14 hK14 => ?_
        have hlt : i < a4.length := by have h := c46; simp at h; omega
        have hlt2 : i < b4.length := by omega
        have hat := persC_at hlt
        have hat2 := persC_at hlt2
        have hb1 : i * 2 + 2 ≤ a4.length * 2 := by omega
        have hb2 : i * 2 + 2 ≤ b4.length * 2 := by omega
        have hx5 := ha5 _ (List.getElem_mem hlt)
        have hy5 := hb5 _ (List.getElem_mem hlt2)
        have htx : a4.take (i + 1) = a4.take i ++ [a4[i]] := (List.take_append_getElem hlt).symm
        have hty : b4.take (i + 1) = b4.take i ++ [b4[i]] := (List.take_append_getElem hlt2).symm
        have hxy : a4 = b4 → a4[i] = b4[i] := fun e => by subst e; rfl
        obtain ⟨x, hx⟩ : ∃ x, x = a4[i] := ⟨_, rfl⟩
        obtain ⟨y, hy⟩ : ∃ y, y = b4[i] := ⟨_, rfl⟩
        rw [← hx] at hat hx5 htx hxy
        rw [← hy] at hat2 hy5 hty hxy
        obtain ⟨xl, xc⟩ := x
        obtain ⟨yl, yc⟩ := y
        simp only [Per.mk.injEq] at hx5 hy5 hxy
        replace F := And.intro hlt F
        replace F := And.intro hlt2 F
        replace F := And.intro hat F
        replace F := And.intro hat2 F
        replace F := And.intro hb1 F
        replace F := And.intro hb2 F
        refine run_draw (by kernel_rfl) fun J15 hJ15 => ?_
        refine rp2 0 (k := ?_)
        refine rp2 1 (k := ?_)
        refine rp2 2 (k := ?_)
        refine rp2 3 (k := ?_)
        refine rp2 4 (k := ?_)
        refine rp2 5 (k := ?_)
        refine rp2 6 (k := ?_)
        refine rp2 7 (k := ?_)
        refine rp2 8 (k := ?_)
        refine rp2 9 (k := ?_)
        refine rp2 10 (k := ?_)
        refine rp2 11 (k := ?_)
        refine rp2 12 (k := ?_)
        refine rp2 13 (k := ?_)
        refine gd 62 (fun g6_13 => ?_) (fun g6_13 => ?_)
        · try exact nope g6_13
          all_goals have g6_13p := g6_13
          all_goals try simp [F] at g6_13p
          all_goals
           replace F := And.intro g6_13 F
           try replace F := And.intro g6_13p F
           have hm : ¬ xl = yl := by have h := g6_13; simp at h; omega
           have h0 : D = false := hno (fun e => hm (hxy e.2.2.2.2).1)
           replace F := And.intro h0 F
           refine rp2 14 (k := ?_)
           refine rp2 15 (k := ?_)
           refine rp2 16 (k := ?_)
           refine rp2 17 (k := ?_)
           refine rp2 18 (k := ?_)
           refine rp2 19 (k := ?_)
           refine rp2 20 (k := ?_)
           refine rp2 21 (k := ?_)
           refine rp2 22 (k := ?_)
           refine rp2 23 (k := ?_)
           refine rp2 24 (k := ?_)
           refine rp2 25 (k := ?_)
           refine dop 26 rfl ?_
           repeat (first | simp [F] | simp (disch := omega) only [wC, if_pos, if_neg])
           refine rp2 27 (k := ?_)
           refine rp2 28 (k := ?_)
           refine dd ?_
           refine hJ15 _ _ ?_
           refine hK14 _ _ ?_
           refine ct ?_
           refine sq fun K16 hK16 => ?_
           refine rg' (h := fun J17 hJ17 => ?_)
           refine hJ17 _ _ ?_
           refine hK16 _ _ ?_
           refine run_ret ?_
           try simp only [Then, InBlock, NoGoto]
           refine answer_tmp rfl (.inr rfl) ?_
           exact gcr
        try exact nope g6_13
        all_goals have g6_13p := g6_13
        all_goals try simp [F] at g6_13p
        all_goals
         replace F := And.intro g6_13 F
         try replace F := And.intro g6_13p F
         have hm : xl = yl := by have h := g6_13; simp at h; omega
         refine rp2 14 (k := ?_)
         refine rp2 15 (k := ?_)
         refine rp2 16 (k := ?_)
         refine rp2 17 (k := ?_)
         refine rp2 18 (k := ?_)
         refine rp2 19 (k := ?_)
         refine rp2 20 (k := ?_)
         refine rp2 21 (k := ?_)
         refine rp2 22 (k := ?_)
         refine rp2 23 (k := ?_)
         refine rp2 24 (k := ?_)
         refine rp2 25 (k := ?_)
         refine dc 26 rfl (c := rsame_ok hx5.2 hy5.2) (k := ?_)
         rintro _ _ ⟨rfl, rfl⟩
         refine ⟨by first | exact fun _ _ h => h | (refine later_list [24, 23, 22, 21, 20, 18, 17, 16, 15, 14, 12, 11, 10, 9, 8, 7, 6, 5, 4, 3, 2, 1, 0] (by kernel_rfl) (List.forall_mem_cons.2 ⟨fun _ => fact2 rfl rfl ?_, List.forall_mem_cons.2 ⟨fun _ => fact2 rfl rfl ?_, List.forall_mem_cons.2 ⟨fun _ => fact2 rfl rfl ?_, List.forall_mem_cons.2 ⟨fun _ => fact2 rfl rfl ?_, List.forall_mem_cons.2 ⟨fun _ => fact2 rfl rfl ?_, List.forall_mem_cons.2 ⟨fun _ => fact2 rfl rfl ?_, List.forall_mem_cons.2 ⟨fun _ => fact2 rfl rfl ?_, List.forall_mem_cons.2 ⟨fun _ => fact2 rfl rfl ?_, List.forall_mem_cons.2 ⟨fun _ => fact2 rfl rfl ?_, List.forall_mem_cons.2 ⟨fun _ => fact2 rfl rfl ?_, List.forall_mem_cons.2 ⟨fun _ => fact2 rfl rfl ?_, List.forall_mem_cons.2 ⟨fun _ => fact2 rfl rfl ?_, List.forall_mem_cons.2 ⟨fun _ => fact2 rfl rfl ?_, List.forall_mem_cons.2 ⟨fun _ => fact2 rfl rfl ?_, List.forall_mem_cons.2 ⟨fun _ => fact2 rfl rfl ?_, List.forall_mem_cons.2 ⟨fun _ => fact2 rfl rfl ?_, List.forall_mem_cons.2 ⟨fun _ => fact2 rfl rfl ?_, List.forall_mem_cons.2 ⟨fun _ => fact2 rfl rfl ?_, List.forall_mem_cons.2 ⟨fun _ => fact2 rfl rfl ?_, List.forall_mem_cons.2 ⟨fun _ => fact2 rfl rfl ?_, List.forall_mem_cons.2 ⟨fun _ => fact2 rfl rfl ?_, List.forall_mem_cons.2 ⟨fun _ => fact2 rfl rfl ?_, List.forall_mem_cons.2 ⟨fun _ => fact2 rfl rfl ?_, fun _ h => absurd h List.not_mem_nil⟩⟩⟩⟩⟩⟩⟩⟩⟩⟩⟩⟩⟩⟩⟩⟩⟩⟩⟩⟩⟩⟩⟩) <;> constructor <;> first | rfl | (simp [F]; done)), ?_⟩
         repeat (first | simp [F] | simp (disch := omega) only [wC, if_pos, if_neg])
         refine rp2 27 (k := ?_)
         refine rp2 28 (k := ?_)
         refine dd ?_
         refine hJ15 _ _ ?_
         refine hK14 _ _ ?_
         refine cs (fun c77 => ?_) (fun c77 => ?_)
         · try exact nope c77
           all_goals have c77p := c77
           all_goals try simp [F] at c77p
           all_goals
            replace F := And.intro c77 F
            try replace F := And.intro c77p F
            have h0 : D = false := hno (fun e => by have h := c77; simp at h; exact h (hxy e.2.2.2.2).2)
            replace F := And.intro h0 F
            refine sq fun K18 hK18 => ?_
            refine rg' (h := fun J19 hJ19 => ?_)
            refine hJ19 _ _ ?_
            refine hK18 _ _ ?_
            refine run_ret ?_
            try simp only [Then, InBlock, NoGoto]
            refine answer_tmp rfl (.inr rfl) ?_
            exact gcr
         try exact nope c77
         all_goals have c77p := c77
         all_goals try simp [F] at c77p
         all_goals
          replace F := And.intro c77 F
          try replace F := And.intro c77p F
          have hc : xc = yc := by have h := c77; simp at h; exact h
          refine run_skip ?_
          refine hK13 _ _ ?_
          refine rg' (h := fun J20 hJ20 => ?_)
          refine hJ20 _ _ ?_
          refine ⟨(i + 1), ⟨kp, lp, ?_, lp, lp⟩, lp⟩
          · rw [htx, hty, hE, hm, hc]
     try exact nope c46
     all_goals have c46p := c46
     all_goals try simp [F] at c46p
     all_goals
      replace F := And.intro c46 F
      try replace F := And.intro c46p F
      have h0 : D = true := hyes e1 e2 e3 e4 (by rw [List.take_of_length_le (by have h := c46; simp at h; omega), List.take_of_length_le (by have h := c46; simp at h; omega)] at hE; exact hE)
      replace F := And.intro h0 F
      refine run_exit ?_
      refine hK7 _ _ ?_
      refine sq fun K21 hK21 => ?_
      refine rg' (h := fun J22 hJ22 => ?_)
      refine hJ22 _ _ ?_
      refine hK21 _ _ ?_
      refine run_ret ?_
      try simp only [Then, InBlock, NoGoto]
      refine answer_tmp rfl (.inr rfl) ?_
      exact gcr
  case cx4 =>
   intro K4 hK4
   refine rg' (h := fun J23 hJ23 => ?_)
   refine gs 11 (fun g1_5 => ?_) (fun g1_5 => ?_)
   · try exact nope g1_5
     all_goals have g1_5p := g1_5
     all_goals try simp [F] at g1_5p
     all_goals
      replace F := And.intro g1_5 F
      try replace F := And.intro g1_5p F
      have hl1 : ¬ ak = bk := by have h := g1_5; simp at h; intro e; subst e; exact h rfl
      replace F := And.intro hl1 F
      refine no2 (k := ?_)
      refine no2 (k := ?_)
      refine no2 (k := ?_)
      refine no2 (k := ?_)
      refine no2 (k := ?_)
      refine no2 (k := ?_)
      refine no2 (k := ?_)
      refine no2 (k := ?_)
      refine no2 (k := ?_)
      refine no2 (k := ?_)
      refine no2 (k := ?_)
      refine no2 (k := ?_)
      refine no2 (k := ?_)
      refine no2 (k := ?_)
      refine no2 (k := ?_)
      refine no2 (k := ?_)
      refine no2 (k := ?_)
      refine no2 (k := ?_)
      refine no2 (k := ?_)
      refine no2 (k := ?_)
      refine no2 (k := ?_)
      refine no2 (k := ?_)
      refine no2 (k := ?_)
      refine hJ23 _ _ ?_
      refine hK4 (()) _ _ ⟨kp, ?_, lp⟩
      · rw [hB]
        simp [F]
        try (rw [Bool.eq_iff_iff]; simp; omega)
   try exact nope g1_5
   all_goals have g1_5p := g1_5
   all_goals try simp [F] at g1_5p
   all_goals
    replace F := And.intro g1_5 F
    try replace F := And.intro g1_5p F
    have hl1 : ak = bk := by have h := g1_5; simp at h; exact UInt8.toNat_inj.1 (by omega)
    replace F := And.intro hl1 F
    refine go2 (k := ?_)
    refine go2 (k := ?_)
    refine go2 (k := ?_)
    refine go2 (k := ?_)
    refine go2 (k := ?_)
    refine gs 18 (fun g1_12 => ?_) (fun g1_12 => ?_)
    · try exact nope g1_12
      all_goals have g1_12p := g1_12
      all_goals try simp [F] at g1_12p
      all_goals
       replace F := And.intro g1_12 F
       try replace F := And.intro g1_12p F
       have hl2 : ¬ a1 = b1 := by have h := g1_12; simp at h; omega
       replace F := And.intro hl2 F
       refine no2 (k := ?_)
       refine no2 (k := ?_)
       refine no2 (k := ?_)
       refine no2 (k := ?_)
       refine no2 (k := ?_)
       refine no2 (k := ?_)
       refine no2 (k := ?_)
       refine no2 (k := ?_)
       refine no2 (k := ?_)
       refine no2 (k := ?_)
       refine no2 (k := ?_)
       refine no2 (k := ?_)
       refine no2 (k := ?_)
       refine no2 (k := ?_)
       refine no2 (k := ?_)
       refine no2 (k := ?_)
       refine no2 (k := ?_)
       refine no2 (k := ?_)
       refine hJ23 _ _ ?_
       refine hK4 (()) _ _ ⟨kp, ?_, lp⟩
       · rw [hB]
         simp [F]
         try (rw [Bool.eq_iff_iff]; simp; omega)
    try exact nope g1_12
    all_goals have g1_12p := g1_12
    all_goals try simp [F] at g1_12p
    all_goals
     replace F := And.intro g1_12 F
     try replace F := And.intro g1_12p F
     have hl2 : a1 = b1 := by have h := g1_12; simp at h; omega
     replace F := And.intro hl2 F
     refine go2 (k := ?_)
     refine go2 (k := ?_)
     refine go2 (k := ?_)
     refine go2 (k := ?_)
     refine go2 (k := ?_)
     refine gs 25 (fun g1_19 => ?_) (fun g1_19 => ?_)
     · try exact nope g1_19
       all_goals have g1_19p := g1_19
       all_goals try simp [F] at g1_19p
       all_goals
        replace F := And.intro g1_19 F
        try replace F := And.intro g1_19p F
        have hl3 : ¬ a2 = b2 := by have h := g1_19; simp at h; omega
        replace F := And.intro hl3 F
        refine no2 (k := ?_)
        refine no2 (k := ?_)
        refine no2 (k := ?_)
        refine no2 (k := ?_)
        refine no2 (k := ?_)
        refine no2 (k := ?_)
        refine no2 (k := ?_)
        refine no2 (k := ?_)
        refine no2 (k := ?_)
        refine no2 (k := ?_)
        refine no2 (k := ?_)
        refine no2 (k := ?_)
        refine no2 (k := ?_)
        refine hJ23 _ _ ?_
        refine hK4 (()) _ _ ⟨kp, ?_, lp⟩
        · rw [hB]
          simp [F]
          try (rw [Bool.eq_iff_iff]; simp; omega)
     try exact nope g1_19
     all_goals have g1_19p := g1_19
     all_goals try simp [F] at g1_19p
     all_goals
      replace F := And.intro g1_19 F
      try replace F := And.intro g1_19p F
      have hl3 : a2 = b2 := by have h := g1_19; simp at h; omega
      replace F := And.intro hl3 F
      refine go2 (k := ?_)
      refine go2 (k := ?_)
      refine go2 (k := ?_)
      refine go2 (k := ?_)
      refine ca (c := rsame_ok ha3 hb3) (k := ?_)
      rintro _ _ ⟨rfl, rfl⟩
      repeat (first | simp [F] | simp (disch := omega) only [wC, if_pos, if_neg])
      refine go2 (k := ?_)
      refine gs 33 (fun g1_27 => ?_) (fun g1_27 => ?_)
      · try exact nope g1_27
        all_goals have g1_27p := g1_27
        all_goals try simp [F] at g1_27p
        all_goals
         replace F := And.intro g1_27 F
         try replace F := And.intro g1_27p F
         refine no2 (k := ?_)
         refine no2 (k := ?_)
         refine no2 (k := ?_)
         refine no2 (k := ?_)
         refine no2 (k := ?_)
         refine no2 (k := ?_)
         refine no2 (k := ?_)
         refine hJ23 _ _ ?_
         refine hK4 (()) _ _ ⟨kp, ?_, lp⟩
         · rw [hB]
           simp [F]
           try (rw [Bool.eq_iff_iff]; simp; omega)
      try exact nope g1_27
      all_goals have g1_27p := g1_27
      all_goals try simp [F] at g1_27p
      all_goals
       replace F := And.intro g1_27 F
       try replace F := And.intro g1_27p F
       refine go2 (k := ?_)
       refine go2 (k := ?_)
       refine go2 (k := ?_)
       refine go2 (k := ?_)
       refine go2 (k := ?_)
       refine go2 (k := ?_)
       refine go2 (k := ?_)
       refine hJ23 _ _ ?_
       refine hK4 (()) _ _ ⟨kp, ?_, lp⟩
       · rw [hB]
         simp [F]
         try (rw [Bool.eq_iff_iff]; simp; omega)

end Go.Proofs.Ytdbaddholggkbaa

/-
  A plan without what is locked..
-/
namespace Go.Proofs.Ytdbaddholggkbaa
set_option linter.unnecessarySimpa false
set_option maxRecDepth 100000
open Go Go.Vm
set_option linter.unusedSimpArgs false
set_option linter.unusedVariables false

attribute [local simp] evalL wantedA isCall opA evalA evalAll evalsA evalOpt ofValue ofCell plain binA_eql_pn binA_neq_pn binA_gtr binA_lss binA_geq binA_leq binA_add binA_sub binA_eql binA_neq binA_orI binA_andI binA_shl binA_shr binA_mul binA_quo binA_rem binA_agg_eql binA_agg_neq convA_int unA_not fieldAddrA loadA partA pickA_true pickA_false pickA_bb lenA builtinA storeA splice AV.cells AV.isCell sliceA boundA intA callOf indexAddrA newObjA buildA fillA zeroA ofCells buildSliceA indexA fieldA numA_len4 numA_take4 numA_drop4 set_appN get_appN take_appN List.getElem?_cons_zero List.getElem?_cons_succ makeA zeros64

theorem cut_nil {k : UInt8} (h : k = 0) : WkL [.v (.int .u8 k.toNat), .v (.int .u64 0), .v (.int .u64 0), .sl 0 [] 0 .full, .sl 0 [] 0 .full] (plnC ⟨0, 0, 0, [], []⟩) := by
  subst h
  exact .cons (Wk.refl _) (.cons (Wk.refl _) (.cons (Wk.refl _) (.cons (Wk.nil _ _ _) (.cons (Wk.nil _ _ _) .nil))))

end Go.Proofs.Ytdbaddholggkbaa

/-
  Lists of coins: what both readers make of a list's bytes.
-/
namespace Go.Proofs.Ytdbaddholggkbaa
set_option linter.unnecessarySimpa false
open Go Go.Vm
set_option linter.unusedSimpArgs false
set_option linter.unusedVariables false
set_option maxRecDepth 100000

attribute [local simp] evalL wantedA isCall opA evalA evalAll evalsA evalOpt ofValue ofCell plain binA_eql_pn binA_neq_pn binA_gtr binA_lss binA_geq binA_leq binA_add binA_sub binA_eql binA_neq binA_or binA_shl binA_shr binA_mul binA_quo binA_rem binA_agg_eql binA_agg_neq convA_int unA_not fieldAddrA loadA partA pickA_true pickA_false pickA_bb lenA builtinA storeA splice AV.cells AV.isCell sliceA boundA intA callOf indexAddrA newObjA buildA fillA zeroA ofCells indexA fieldA coinsC_at

structure CSk where
  m : Nat
  s : Option (List UInt8)
  l : List Coin
  k : Nat

end Go.Proofs.Ytdbaddholggkbaa

/-
  A plan, read of any bytes..
-/
namespace Go.Proofs.Ytdbaddholggkbaa
set_option linter.unnecessarySimpa false
set_option maxRecDepth 100000
open Go Go.Vm
set_option linter.unusedSimpArgs false
set_option linter.unusedVariables false

attribute [local simp] evalL wantedA isCall opA evalA evalAll evalsA evalOpt ofValue ofCell plain binA_eql_pn binA_neq_pn binA_gtr binA_lss binA_geq binA_leq binA_add binA_sub binA_eql binA_neq binA_orI binA_andI binA_shl binA_shr binA_mul binA_quo binA_rem binA_agg_eql binA_agg_neq convA_int unA_not fieldAddrA loadA partA pickA_true pickA_false pickA_bb lenA builtinA storeA splice AV.cells AV.isCell sliceA boundA intA callOf indexAddrA newObjA buildA fillA zeroA ofCells buildSliceA indexA fieldA numA_len4 numA_take4 numA_drop4 set_appN get_appN take_appN List.getElem?_cons_zero List.getElem?_cons_succ makeA zeros64

/-- A part of a plan, as it is read. -/
def perS (s : Option (List UInt8)) : Per := ⟨be (takeB 8 s), coinsL (takeS 8 s)⟩
def perT (s : Option (List UInt8)) : Option (List UInt8) := coinsS (takeS 8 s)
/-- What is read of m parts more, where l have been read. -/
def persGo : Nat → Option (List UInt8) → List Per → List Per × Option (List UInt8)
  | 0, s, l => (l, s)
  | _ + 1, none, l => (l, none)
  | m + 1, some p, l => persGo m (perT (some p)) (l ++ [perS (some p)])
theorem persGo_more {m : Nat} {s : Option (List UInt8)} {l : List Per} (hm : 0 < m) (hs : ¬ s = none) : persGo m s l = persGo (m - 1) (perT s) (l ++ [perS s]) := by
  match m, s, hm, hs with
  | m + 1, some p, _, _ => rfl
theorem persGo_stop {m : Nat} {s : Option (List UInt8)} {l : List Per} (h : m = 0 ∨ s = none) : persGo m s l = (l, s) := by
  match m, s, h with
  | 0, _, _ => rfl
  | m + 1, none, _ => rfl
def s4S (s : Option (List UInt8)) : Option (List UInt8) := coinsS (takeS 8 (takeS 8 (takeS 1 s)))
/-- What is read of a plan, before it is judged. -/
def planR (s : Option (List UInt8)) : List Per × Option (List UInt8) := persGo (be (takeB 1 (s4S s))) (takeS 1 (s4S s)) []
def planP (s : Option (List UInt8)) (L : List Per) : Pln := ⟨byteS s, be (takeB 8 (takeS 1 s)), be (takeB 8 (takeS 8 (takeS 1 s))), coinsL (takeS 8 (takeS 8 (takeS 1 s))), L⟩
def takeT (s : Option (List UInt8)) : Option (List UInt8) := if rightB (planP s (planR s).1) = true then (planR s).2 else none
def takeP (s : Option (List UInt8)) : Pln := if takeT s = none then ⟨0, 0, 0, [], []⟩ else planP s (planR s).1
theorem take_none {s S : Option (List UInt8)} {L : List Per} (h : planR s = (L, S)) (h2 : rightB (planP s L) = false ∨ S = none) : takeP s = ⟨0, 0, 0, [], []⟩ ∧ takeT s = none := by
  have e : takeT s = none := by
    unfold takeT
    rw [h]
    rcases h2 with h2 | h2
    · simp [h2]
    · simp [h2]
  exact ⟨by simp [takeP, e], e⟩
theorem take_some {s S : Option (List UInt8)} {L : List Per} (h : planR s = (L, S)) (h1 : rightB (planP s L) = true) (h2 : ¬ S = none) : takeP s = planP s L ∧ takeT s = S := by
  have e : takeT s = S := by
    unfold takeT
    rw [h, if_pos h1]
  exact ⟨by rw [takeP, e, if_neg h2, h], e⟩
theorem planP_ok {s : Option (List UInt8)} {L : List Per} (hl : L.length ≤ 255) (hx : ∀ x ∈ L, x.l < 2 ^ 64 ∧ x.c.length ≤ 255) : (planP s L).Ok := by
  refine ⟨be_lt8 _ (takeB_len 8 _), be_lt8 _ (takeB_len 8 _), ?_, ?_, fun x h => ⟨(hx x h).1, ?_⟩⟩
  · have := coinsL_le (takeS 8 (takeS 8 (takeS 1 s))); simp only [planP]; omega
  · simp only [planP]; omega
  · have := (hx x h).2; omega
theorem perS_ok (s : Option (List UInt8)) : (perS s).l < 2 ^ 64 ∧ (perS s).c.length ≤ 255 := ⟨be_lt8 _ (takeB_len 8 _), coinsL_le _⟩

structure TSt where
  m : Nat
  s : Option (List UInt8)
  l : List Per

theorem nil0 {L : List Per} (h : posB L.length = false) : persC L = [] ∧ L.length = 0 := by
  have h0 := posB_no h
  have : L = [] := List.length_eq_zero_iff.1 h0
  subst this
  exact ⟨rfl, rfl⟩
theorem take_wk {s : Option (List UInt8)} {L : List Per} {k : Nat} : WkL [.v (.int .u8 (be (takeB 1 s))), .v (.int .u64 (be (takeB 8 (takeS 1 s)))), .v (.int .u64 (be (takeB 8 (takeS 8 (takeS 1 s))))), .sl 5 (coinsC (coinsL (takeS 8 (takeS 8 (takeS 1 s))))) (coinsL (takeS 8 (takeS 8 (takeS 1 s)))).length .shut, grA k 2 (posB L.length) (persC L) L.length] (plnC (planP s L)) :=
  .cons (by rw [be_byteS]; exact Wk.refl _) (.cons (Wk.refl _) (.cons (Wk.refl _) (.cons (Wk.refl _) (.cons (wk_grA nil0) .nil))))

set_option maxHeartbeats 1600000 in
attribute [local simp] undefA List.getElem?_cons_zero List.getElem?_cons_succ perC persC_noObj in
theorem ptake_ok {σ : St} {id : Nat} {s : Option (List UInt8)} (h : σ.objs[id]? = some (rd s)) :
    CallsA Try.prog 34 [.ptr id 0] σ (fun av σ' => av = .agg (plnC (takeP s)) ∧ σ' = { σ with objs := σ.objs.set id (rd (takeT s)) }) := by
  refine callsA_gc_obj (Q := fun av σ' => Wk av (.agg (plnC (takeP s))) ∧ ∃ l m r, σ' = { σ with objs := σ.objs.set id (rd (takeT s)) ++ l, toks := σ.toks ++ m, rows := σ.rows ++ r }) ?_ (fun av σ' h => h) (by simp [AV.under, underL, plnC, persC_under]) (rd_under _ _)
  have hs := set_self_of h
  have hlt := lt_of_get h
  have ho1 : ∀ r, (σ.objs ++ r)[id]? = some (rd s) := fun r => by rw [List.getElem?_append_left hlt]; exact h
  have ho2 : ∀ x r, (σ.objs.set id x ++ r)[id]? = some x := fun x r => by rw [List.getElem?_append_left (by simpa using hlt)]; exact hs x
  have ho3 : ∀ x r, (σ.objs ++ r).set id x = σ.objs.set id x ++ r := fun x r => List.set_append_left _ _ hlt
  have ho4 : ∀ x y r, (σ.objs.set id y ++ r).set id x = σ.objs.set id x ++ r := fun x y r => by rw [List.set_append_left _ _ (by simpa using hlt), List.set_set]
  have hm := be_lt1 (takeB_len 1 (s4S s))
  have hgc : ∀ (k : Nat) (b : Bool) (cs : List AV) (n : Nat), (grA k 2 b cs n).isCell = true := fun k b cs n => by cases b <;> rfl
  simp only [AV.isCell] at hgc
  have hdr : ∀ f : Nat → AV, List.drop 2 (List.map f (List.range 2)) = [] := fun _ => rfl
  have hdr5 : ∀ f : Nat → AV, List.drop 5 (List.map f (List.range 5)) = [] := fun _ => rfl
  have hR : ∀ (L : List Per) (k : Nat) (τ : St), L.length ≤ 255 → (∀ x ∈ L, x.l < 2 ^ 64 ∧ x.c.length ≤ 255) → CallsA Try.prog 18 [.agg [.v (.int .u8 (be (takeB 1 s))), .v (.int .u64 (be (takeB 8 (takeS 1 s)))), .v (.int .u64 (be (takeB 8 (takeS 8 (takeS 1 s))))), .sl 5 (coinsC (coinsL (takeS 8 (takeS 8 (takeS 1 s))))) (coinsL (takeS 8 (takeS 8 (takeS 1 s)))).length .shut, grA k 2 (posB L.length) (persC L) L.length]] τ (fun av σ' => av = .v (.bool (rightB (planP s L))) ∧ τ = σ') :=
    fun L k τ hl hx => callsA_wk (.cons (WkL.agg take_wk) .nil) (plright_ok (planP_ok hl hx))
  have F := And.intro ho1 (And.intro ho2 (And.intro ho3 (And.intro ho4 (And.intro hlt (And.intro hdr (And.intro hdr5 (And.intro hgc (True.intro))))))))
  refine callsA_body Try.func34 rfl rfl rfl ?_
  refine sq fun K1 hK1 => ?_
  refine rg' (h := fun J2 hJ2 => ?_)
  refine hJ2 _ _ ?_
  refine hK1 _ _ ?_
  refine sq fun K3 hK3 => ?_
  refine rg' (h := fun J4 hJ4 => ?_)
  refine ca (c := byte_ok (ho1 _)) (k := ?_)
  rintro _ _ ⟨rfl, rfl⟩
  repeat (first | simp [F] | simp (disch := omega) only [wC, if_pos, if_neg])
  refine ca (c := long_ok (ho2 _ _)) (k := ?_)
  rintro _ _ ⟨rfl, rfl⟩
  repeat (first | simp [F] | simp (disch := omega) only [wC, if_pos, if_neg])
  refine ca (c := long_ok (ho2 _ _)) (k := ?_)
  rintro _ _ ⟨rfl, rfl⟩
  repeat (first | simp [F] | simp (disch := omega) only [wC, if_pos, if_neg])
  refine ca (c := rcoins_raw (ho2 _ _)) (k := ?_)
  rintro _ _ ⟨rfl, rfl⟩
  repeat (first | simp [F] | simp (disch := omega) only [wC, if_pos, if_neg])
  refine hJ4 _ _ ?_
  refine hK3 _ _ ?_
  refine sq fun K5 hK5 => ?_
  refine sq fun K6 hK6 => ?_
  refine rg' (h := fun J7 hJ7 => ?_)
  refine ca (c := byte_ok (ho2 _ _)) (k := ?_)
  rintro _ _ ⟨rfl, rfl⟩
  repeat (first | simp [F] | simp (disch := omega) only [wC, if_pos, if_neg])
  refine hJ7 _ _ ?_
  refine hK6 _ _ ?_
  refine run_block_k ?_
  refine run_loopF (X := TSt) [0, 2, 3] (fun q ρ σ1 => (q.m + q.l.length ≤ 255) ∧ (∀ x ∈ q.l, x.l < 2 ^ 64 ∧ x.c.length ≤ 255) ∧ (persGo q.m q.s q.l = planR s) ∧ (ρ 4 = .v (.int .u8 q.m)) ∧ (σ1 = { σ with objs := σ.objs.set id (rd q.s) ++ [[.v (.int .u8 0), .v (.int .u64 0), .v (.int .u64 0), .sl 0 [] 0 .full, .sl 0 [] 0 .full], [.v (.int .u8 (be (takeB 1 s))), .v (.int .u64 (be (takeB 8 (takeS 1 s)))), .v (.int .u64 (be (takeB 8 (takeS 8 (takeS 1 s))))), .sl 5 (coinsC (coinsL (takeS 8 (takeS 8 (takeS 1 s))))) (coinsL (takeS 8 (takeS 8 (takeS 1 s)))).length .shut, grA σ.toks.length 2 (posB q.l.length) (persC q.l) q.l.length]], toks := σ.toks ++ grT (posB q.l.length) q.l.length })) (fun q => q.m) (⟨be (takeB 1 (s4S s)), takeS 1 (s4S s), []⟩) ?st1 ?rd1
  case st1 =>
   refine ⟨?_, ?_, ?_, lp, ?_⟩
   · simp
     omega
   · simp
   · rfl
   · simp [F, s4S]
  case rd1 =>
   rintro q ρ1 σ1 hF1 ⟨hm, hx, hg, h4, hσ⟩
   obtain rfl := hσ.symm
   have f1 := keepL hF1
   try simp [KeepL, F] at f1
   replace F := And.intro h4 F
   try replace F := And.intro f1 F
   refine sq fun K8 hK8 => ?_
   refine sqc (X := Unit) [0, 2, 3, 4] (fun k ρ σ1 => (ρ 22 = .v (.bool (decide (0 < q.m) && !q.s.isNone))) ∧ (σ1 = { σ with objs := σ.objs.set id (rd q.s) ++ [[.v (.int .u8 0), .v (.int .u64 0), .v (.int .u64 0), .sl 0 [] 0 .full, .sl 0 [] 0 .full], [.v (.int .u8 (be (takeB 1 s))), .v (.int .u64 (be (takeB 8 (takeS 1 s)))), .v (.int .u64 (be (takeB 8 (takeS 8 (takeS 1 s))))), .sl 5 (coinsC (coinsL (takeS 8 (takeS 8 (takeS 1 s))))) (coinsL (takeS 8 (takeS 8 (takeS 1 s)))).length .shut, grA σ.toks.length 2 (posB q.l.length) (persC q.l) q.l.length]], toks := σ.toks ++ grT (posB q.l.length) q.l.length })) ?cy9 ?cx9
   case cy9 =>
    rintro k ρCr3 σ1 hFCr3 ⟨h22, hσ⟩
    obtain rfl := hσ.symm
    have fCr3 := keepL hFCr3
    try simp [KeepL, F] at fCr3
    replace F := And.intro h22 F
    try replace F := And.intro fCr3 F
    refine cs (t := (decide (0 < q.m) && !q.s.isNone)) (fun c22 => ?_) (fun c22 => ?_)
    · try exact nope c22
      all_goals have c22p := c22
      all_goals try simp [F] at c22p
      all_goals
       replace F := And.intro c22 F
       try replace F := And.intro c22p F
       refine run_skip ?_
       refine hK8 _ _ ?_
       refine sq fun K10 hK10 => ?_
       refine run_block_k ?_
       obtain ⟨m, S, L⟩ := q
       simp only at hm hx hg h4
       have hmS : 0 < m ∧ ¬ S = none := by have h := c22; simp at h; exact ⟨h.1, by intro e; rw [e] at h; simp at h⟩
       have hnx := persGo_more (l := L) hmS.1 hmS.2
       have hP : persC (L ++ [perS S]) = persC L ++ [.v (.int .u64 (be (takeB 8 S))), .sl 5 (coinsC (coinsL (takeS 8 S))) (coinsL (takeS 8 S)).length .shut] := by rw [← persC_append]; rfl
       have hLl : L.length ≤ 254 := by omega
       have happ : ∀ objs, appendA Try.prog 24 (grA σ.toks.length 2 (posB L.length) (persC L) L.length) (.sl 2 [.v (.int .u64 (be (takeB 8 S))), .sl 5 (coinsC (coinsL (takeS 8 S))) (coinsL (takeS 8 S)).length .shut] 1 .full) ⟨objs, σ.toks ++ grT (posB L.length) L.length, σ.gl, σ.rows⟩ = some (grA σ.toks.length 2 true (persC L ++ [.v (.int .u64 (be (takeB 8 S))), .sl 5 (coinsC (coinsL (takeS 8 S))) (coinsL (takeS 8 S)).length .shut]) (L.length + 1), ⟨objs, σ.toks ++ grT true (L.length + 1), σ.gl, σ.rows⟩) := fun objs => append_gr elemT_24 ti_88 (by decide) rfl nil0 (.inl rfl) (by simp [roomA]; omega) (by simp [maxLen]; omega)
       have hwm : IntKind.u8.wrap ((m : Int) - 1) = ((m - 1 : Nat) : Int) := by rw [wrap_u8c (by omega)]; omega
       replace F := And.intro happ F
       refine run_draw (by kernel_rfl) fun J11 hJ11 => ?_
       refine rp2 0 (k := ?_)
       refine rp2 1 (k := ?_)
       refine rp2 2 (k := ?_)
       refine rp2 4 (k := ?_)
       refine dc 3 rfl (c := long_ok (ho2 _ _)) (k := ?_)
       rintro _ _ ⟨rfl, rfl⟩
       refine ⟨by first | exact fun _ _ h => h | (refine later_list [4, 1, 0] (by kernel_rfl) (List.forall_mem_cons.2 ⟨fun _ => fact2 rfl rfl ?_, List.forall_mem_cons.2 ⟨fun _ => fact2 rfl rfl ?_, List.forall_mem_cons.2 ⟨fun _ => fact2 rfl rfl ?_, fun _ h => absurd h List.not_mem_nil⟩⟩⟩) <;> constructor <;> first | rfl | (simp [F]; done)), ?_⟩
       repeat (first | simp [F] | simp (disch := omega) only [wC, if_pos, if_neg])
       refine dc 5 rfl (c := rcoins_raw (ho2 _ _)) (k := ?_)
       rintro _ _ ⟨rfl, rfl⟩
       refine ⟨by first | exact fun _ _ h => h | (refine later_list [1, 0] (by kernel_rfl) (List.forall_mem_cons.2 ⟨fun _ => fact2 rfl rfl ?_, List.forall_mem_cons.2 ⟨fun _ => fact2 rfl rfl ?_, fun _ h => absurd h List.not_mem_nil⟩⟩) <;> constructor <;> first | rfl | (simp [F]; done)), ?_⟩
       repeat (first | simp [F] | simp (disch := omega) only [wC, if_pos, if_neg])
       refine rp2 6 (k := ?_)
       refine rp2 7 (k := ?_)
       refine dop 8 rfl ?_
       repeat (first | simp [F] | simp (disch := omega) only [wC, if_pos, if_neg])
       refine ⟨by first | exact fun _ _ h => h | (refine later_list [6, 0] (by kernel_rfl) (List.forall_mem_cons.2 ⟨fun _ => fact2 rfl rfl ?_, List.forall_mem_cons.2 ⟨fun _ => fact2 rfl rfl ?_, fun _ h => absurd h List.not_mem_nil⟩⟩) <;> constructor <;> first | rfl | (simp [F]; done)), ?_⟩
       refine rp2 9 (k := ?_)
       refine dop 10 rfl ?_
       repeat (first | simp [F] | simp (disch := omega) only [wC, if_pos, if_neg])
       refine ⟨ln, ?_⟩
       refine dd ?_
       refine hJ11 _ _ ?_
       refine hK10 _ _ ?_
       replace F := And.intro hwm F
       refine rg' (h := fun J12 hJ12 => ?_)
       refine hJ12 _ _ ?_
       refine ⟨(⟨m - 1, perT S, L ++ [perS S]⟩), ⟨kp, ?_, ?_, ?_, lp, ?_⟩, ?_⟩
       · simp
         omega
       · intro x hxm
         rcases List.mem_append.1 hxm with h | h
         · exact hx x h
         · simp at h; subst h; exact perS_ok S
       · rw [← hg]
         exact hnx.symm
       · simp [F, hP, perT]
       · simp
         omega
    try exact nope c22
    all_goals have c22p := c22
    all_goals try simp [F] at c22p
    all_goals
     replace F := And.intro c22 F
     try replace F := And.intro c22p F
     have he : planR s = (q.l, q.s) := by rw [← hg]; exact persGo_stop (by have h := c22; simp at h; by_cases h0 : q.m = 0; exact .inl h0; exact .inr (h (by omega)))
     have hql : q.l.length ≤ 255 := by omega
     refine run_exit ?_
     refine hK5 _ _ ?_
     refine sq fun K13 hK13 => ?_
     refine sq fun K14 hK14 => ?_
     refine rg' (h := fun J15 hJ15 => ?_)
     refine ca (c := hR q.l _ _ hql hx) (k := ?_)
     rintro _ _ ⟨rfl, rfl⟩
     repeat (first | simp [F] | simp (disch := omega) only [wC, if_pos, if_neg])
     refine hJ15 _ _ ?_
     refine hK14 _ _ ?_
     refine cs (fun c37 => ?_) (fun c37 => ?_)
     · try exact nope c37
       all_goals have c37p := c37
       all_goals try simp [F] at c37p
       all_goals
        replace F := And.intro c37 F
        try replace F := And.intro c37p F
        refine rg' (h := fun J16 hJ16 => ?_)
        refine ca (c := fail_ok (ho2 _ _)) (k := ?_)
        rintro _ _ ⟨rfl, rfl⟩
        repeat (first | simp [F] | simp (disch := omega) only [wC, if_pos, if_neg])
        refine hJ16 _ _ ?_
        refine hK13 _ _ ?_
        refine sq fun K17 hK17 => ?_
        refine sq fun K18 hK18 => ?_
        refine rg' (h := fun J19 hJ19 => ?_)
        refine ca (c := bad_ok (ho2 _ _)) (k := ?_)
        rintro _ _ ⟨rfl, rfl⟩
        repeat (first | simp [F] | simp (disch := omega) only [wC, if_pos, if_neg])
        refine hJ19 _ _ ?_
        refine hK18 _ _ ?_
        refine cs (fun c41 => ?_) (fun c41 => ?_)
        · try exact nope c41
          all_goals have c41p := c41
          all_goals try simp [F] at c41p
          all_goals
           replace F := And.intro c41 F
           try replace F := And.intro c41p F
           refine sq fun K20 hK20 => ?_
           refine rg' (h := fun J21 hJ21 => ?_)
           refine hJ21 _ _ ?_
           refine hK20 _ _ ?_
           refine run_ret ?_
           try simp only [Then, InBlock, NoGoto]
           refine acell (h := ?_)
           obtain ⟨e1, e2⟩ := take_none he (.inl (by simpa using c37))
           rw [e1, e2]
           refine gcr (τ := { σ with objs := σ.objs.set id (rd none) }) (hA := ?_)
           exact WkL.agg (cut_nil rfl)
        try exact nope c41
        all_goals have c41p := c41
        all_goals try simp [F] at c41p
        all_goals
         replace F := And.intro c41 F
         try replace F := And.intro c41p F
         refine run_skip ?_
         refine hK17 _ _ ?_
         refine sq fun K22 hK22 => ?_
         refine rg' (h := fun J23 hJ23 => ?_)
         refine hJ23 _ _ ?_
         refine hK22 _ _ ?_
         refine run_ret ?_
         try simp only [Then, InBlock, NoGoto]
         refine acell (h := ?_)
         obtain ⟨e1, e2⟩ := take_none he (.inl (by simpa using c37))
         rw [e1, e2]
         refine gcr (τ := { σ with objs := σ.objs.set id (rd none) }) (hA := ?_)
         exact WkL.agg (cut_nil rfl)
     try exact nope c37
     all_goals have c37p := c37
     all_goals try simp [F] at c37p
     all_goals
      replace F := And.intro c37 F
      try replace F := And.intro c37p F
      refine run_skip ?_
      refine hK13 _ _ ?_
      refine sq fun K24 hK24 => ?_
      refine sq fun K25 hK25 => ?_
      refine rg' (h := fun J26 hJ26 => ?_)
      refine ca (c := bad_ok (ho2 _ _)) (k := ?_)
      rintro _ _ ⟨rfl, rfl⟩
      repeat (first | simp [F] | simp (disch := omega) only [wC, if_pos, if_neg])
      refine hJ26 _ _ ?_
      refine hK25 _ _ ?_
      refine cs (fun c41 => ?_) (fun c41 => ?_)
      · try exact nope c41
        all_goals have c41p := c41
        all_goals try simp [F] at c41p
        all_goals
         replace F := And.intro c41 F
         try replace F := And.intro c41p F
         refine sq fun K27 hK27 => ?_
         refine rg' (h := fun J28 hJ28 => ?_)
         refine hJ28 _ _ ?_
         refine hK27 _ _ ?_
         refine run_ret ?_
         try simp only [Then, InBlock, NoGoto]
         refine acell (h := ?_)
         obtain ⟨e1, e2⟩ := take_none he (.inr (by simpa using c41))
         rw [e1, e2]
         refine gcr (τ := { σ with objs := σ.objs.set id (rd none) }) (hA := ?_)
         exact WkL.agg (cut_nil rfl)
      try exact nope c41
      all_goals have c41p := c41
      all_goals try simp [F] at c41p
      all_goals
       replace F := And.intro c41 F
       try replace F := And.intro c41p F
       refine run_skip ?_
       refine hK24 _ _ ?_
       refine sq fun K29 hK29 => ?_
       refine rg' (h := fun J30 hJ30 => ?_)
       refine hJ30 _ _ ?_
       refine hK29 _ _ ?_
       refine run_ret ?_
       try simp only [Then, InBlock, NoGoto]
       refine acell (h := ?_)
       obtain ⟨e1, e2⟩ := take_some he (by simpa using c37) (by intro e; rw [e] at c41; simp at c41)
       rw [e1, e2]
       refine gcr (τ := { σ with objs := σ.objs.set id (rd q.s) }) (hA := ?_)
       exact WkL.agg take_wk
   case cx9 =>
    intro K9 hK9
    refine rg' (h := fun J31 hJ31 => ?_)
    refine gs 18 (fun g3_2 => ?_) (fun g3_2 => ?_)
    · try exact nope g3_2
      all_goals have g3_2p := g3_2
      all_goals try simp [F] at g3_2p
      all_goals
       replace F := And.intro g3_2 F
       try replace F := And.intro g3_2p F
       refine go2 (k := ?_)
       refine ca (c := bad_ok (ho2 _ _)) (k := ?_)
       rintro _ _ ⟨rfl, rfl⟩
       repeat (first | simp [F] | simp (disch := omega) only [wC, if_pos, if_neg])
       refine go2 (k := ?_)
       refine hJ31 _ _ ?_
       refine hK9 (()) _ _ ⟨kp, ?_, lp⟩
       · have h := g3_2
         simp at h
         simp [F, h]
    try exact nope g3_2
    all_goals have g3_2p := g3_2
    all_goals try simp [F] at g3_2p
    all_goals
     replace F := And.intro g3_2 F
     try replace F := And.intro g3_2p F
     refine no2 (k := ?_)
     refine no2 (k := ?_)
     refine no2 (k := ?_)
     refine hJ31 _ _ ?_
     refine hK9 (()) _ _ ⟨kp, ?_, lp⟩
     · have h := g3_2
       simp at h
       simp [F, h]

end Go.Proofs.Ytdbaddholggkbaa

/-
  What was laid of a plan reads back: the plain law.
-/
namespace Go.Proofs.Ytdbaddholggkbaa
set_option linter.unnecessarySimpa false
set_option maxRecDepth 100000
set_option linter.unusedSimpArgs false
open Go Go.Vm
set_option linter.unusedVariables false

theorem takeS_app {E q : List UInt8} {n : Nat} (h : E.length = n) : takeS n (some (E ++ q)) = some q ∧ takeB n (some (E ++ q)) = E := by
  subst h
  simp [takeS, takeB]
theorem byte_app (b : UInt8) (q : List UInt8) : takeS 1 (some (b :: q)) = some q ∧ takeB 1 (some (b :: q)) = [b] := takeS_app (E := [b]) rfl

theorem be_natBytes (x : Nat) : be (natBytes x) = x := by
  induction x using Nat.strongRecOn with
  | _ x ih =>
    by_cases h : x = 0
    · subst h; simp [natBytes_zero, be]
    · rw [natBytes_pos (by omega), be_snoc, ih (x / 256) (by omega), toNat_ofNat (by omega)]
      omega

theorem natBytes_head (x : Nat) : (natBytes x).headD 1 ≠ 0 := by
  induction x using Nat.strongRecOn with
  | _ x ih =>
    by_cases h : x = 0
    · subst h; simp [natBytes_zero]
    · rw [natBytes_pos (by omega)]
      by_cases h2 : x / 256 = 0
      · rw [h2, natBytes_zero]
        simp only [List.nil_append, List.headD_cons]
        intro e
        have := congrArg UInt8.toNat e
        rw [toNat_ofNat (by omega)] at this
        simp at this; omega
      · have h3 := ih (x / 256) (by omega)
        cases h4 : natBytes (x / 256) with
        | nil => exact absurd (natBytes_nil.1 h4) h2
        | cons b l => rw [h4] at h3; simpa using h3

theorem natBytes_le {x : Nat} (hx : x < 2 ^ 256) : (natBytes x).length ≤ 32 := natBytes_len x 32 (by simpa using hx)

theorem natBytes_ok {x : Nat} (hx : x < 2 ^ 256) : numOk (natBytes x) = true := by
  have h1 := natBytes_le hx
  have h2 := natBytes_head x
  simp only [numOk, Bool.and_eq_true, decide_eq_true_eq, bne_iff_ne]
  exact ⟨h1, h2⟩

theorem num_app {x : Nat} (hx : x < 2 ^ 256) (q : List UInt8) : numS (some (encN x ++ q)) = some q ∧ numOf (numB (some (encN x ++ q))) = x := by
  have hle := natBytes_le hx
  obtain ⟨h1, h2⟩ := byte_app (UInt8.ofNat (natBytes x).length) (natBytes x ++ q)
  have h3 : be [UInt8.ofNat (natBytes x).length] = (natBytes x).length := by
    have : (UInt8.ofNat (natBytes x).length).toNat = (natBytes x).length := toNat_ofNat (by omega)
    simp only [be, List.foldl_cons, List.foldl_nil]
    omega
  obtain ⟨h4, h5⟩ := takeS_app (E := natBytes x) (q := q) rfl
  have hb : numB (some (encN x ++ q)) = natBytes x := by
    show takeB (be (takeB 1 (some (UInt8.ofNat (natBytes x).length :: (natBytes x ++ q))))) (takeS 1 (some (UInt8.ofNat (natBytes x).length :: (natBytes x ++ q)))) = _
    rw [h1, h2, h3, h5]
  have hok := natBytes_ok hx
  refine ⟨?_, by rw [hb, numOf, hok]; simpa using be_natBytes x⟩
  unfold numS
  rw [hb, hok]
  show (if true = true then takeS (be (takeB 1 (some (UInt8.ofNat (natBytes x).length :: (natBytes x ++ q))))) (takeS 1 (some (UInt8.ofNat (natBytes x).length :: (natBytes x ++ q)))) else none) = _
  rw [h1, h2, h3, h4]
  rfl

theorem coin_app (c : Coin) (q : List UInt8) : numS (takeS 1 (some (encC c ++ q))) = some q ∧ coinS (some (encC c ++ q)) = c := by
  obtain ⟨h1, h2⟩ := byte_app c.d (encN c.n.v ++ q)
  obtain ⟨h3, h4⟩ := num_app c.n.h q
  have e : encC c ++ q = c.d :: (encN c.n.v ++ q) := by simp [encC]
  rw [e, h1]
  refine ⟨h3, ?_⟩
  unfold coinS
  rw [h1]
  refine Coin.ext ?_ (Num.ext h4)
  show byteS (some (c.d :: (encN c.n.v ++ q))) = c.d
  unfold byteS
  rw [h2]; rfl

theorem coinsGo_app : ∀ (L : List Coin) (q : List UInt8) (l : List Coin), coinsGo L.length (some (encCs L ++ q)) l = (l ++ L, some q)
  | [], q, l => by simp [coinsGo, encCs]
  | c :: L, q, l => by
    have e : encCs (c :: L) ++ q = encC c ++ (encCs L ++ q) := by simp [encCs]
    obtain ⟨h1, h2⟩ := coin_app c (encCs L ++ q)
    rw [e]
    simp only [List.length_cons, coinsGo]
    rw [h1, h2, coinsGo_app L q]
    simp

theorem len_byte {L : List Coin} (hL : L.length ≤ 255) : be [UInt8.ofNat L.length] = L.length := by
  have : (UInt8.ofNat L.length).toNat = L.length := toNat_ofNat (by omega)
  simp only [be, List.foldl_cons, List.foldl_nil]
  omega

theorem coins_app {L : List Coin} (hL : L.length ≤ 255) (hR : Right L) (q : List UInt8) : coinsS (some (encL L ++ q)) = some q := by
  obtain ⟨h1, h2⟩ := byte_app (UInt8.ofNat L.length) (encCs L ++ q)
  have e : coinsR (some (encL L ++ q)) = (L, some q) := by
    show coinsGo (be (takeB 1 (some (UInt8.ofNat L.length :: (encCs L ++ q))))) (takeS 1 (some (UInt8.ofNat L.length :: (encCs L ++ q)))) [] = _
    rw [h1, h2, len_byte hL, coinsGo_app]; simp
  unfold coinsS
  rw [e, if_pos hR]

theorem coinsL_app {L : List Coin} (hL : L.length ≤ 255) (hR : Right L) (q : List UInt8) : coinsL (some (encL L ++ q)) = L := by
  obtain ⟨h1, h2⟩ := byte_app (UInt8.ofNat L.length) (encCs L ++ q)
  have e : coinsR (some (encL L ++ q)) = (L, some q) := by
    unfold coinsR
    rw [show encL L ++ q = UInt8.ofNat L.length :: (encCs L ++ q) from rfl, h1, h2, len_byte hL, coinsGo_app]
    simp
  unfold coinsL
  rw [coins_app hL hR q, e]
  simp

theorem be_nBytes8 {n : Nat} (h : n < 2 ^ 64) : be (nBytes 8 n) = n := by
  have e : nBytes 8 n = [UInt8.ofNat (n / 2 ^ 56 % 256), UInt8.ofNat (n / 2 ^ 48 % 256), UInt8.ofNat (n / 2 ^ 40 % 256), UInt8.ofNat (n / 2 ^ 32 % 256), UInt8.ofNat (n / 2 ^ 24 % 256), UInt8.ofNat (n / 2 ^ 16 % 256), UInt8.ofNat (n / 2 ^ 8 % 256), UInt8.ofNat (n / 2 ^ 0 % 256)] := rfl
  rw [e]
  have hb : ∀ x, (UInt8.ofNat (x % 256)).toNat = x % 256 := fun x => by rw [toNat_ofNat (by omega)]
  simp only [be, List.foldl_cons, List.foldl_nil, hb]
  omega

/-- A part's bytes, and a plan's. -/
def encPer (x : Per) : List UInt8 := nBytes 8 x.l ++ encL x.c
def encPers (l : List Per) : List UInt8 := l.flatMap encPer
def encPl (p : Pln) : List UInt8 := p.k :: (nBytes 8 p.s ++ (nBytes 8 p.e ++ (encL p.tot ++ (UInt8.ofNat p.ps.length :: encPers p.ps))))
theorem encPers_snoc (l : List Per) (x : Per) : encPers (l ++ [x]) = encPers l ++ encPer x := by simp [encPers]
theorem encL_len {l : List Coin} (h : l.length ≤ 8) : (encL l).length ≤ 273 := by
  have := encCs_len l
  simp only [encL, List.length_cons]; omega
theorem encPers_len : ∀ l : List Per, (∀ x ∈ l, x.c.length ≤ 8) → (encPers l).length ≤ 281 * l.length
  | [], _ => by simp [encPers]
  | x :: l, h => by
    have h1 := encPers_len l (fun y hy => h y (by simp [hy]))
    have h2 := encL_len (h x (by simp))
    have e : encPers (x :: l) = encPer x ++ encPers l := rfl
    rw [e]
    simp only [encPer, List.length_append, nBytes_len, List.length_cons]
    omega

theorem persGo_app : ∀ (L : List Per) (q : List UInt8) (l : List Per), (∀ x ∈ L, x.l < 2 ^ 64 ∧ Right x.c) → persGo L.length (some (encPers L ++ q)) l = (l ++ L, some q)
  | [], q, l, _ => by simp [persGo, encPers]
  | x :: L, q, l, h => by
    obtain ⟨h1, h2⟩ := h x (by simp)
    have hl := right_len h2
    obtain ⟨t1, t2⟩ := takeS_app (E := nBytes 8 x.l) (q := encL x.c ++ (encPers L ++ q)) (n := 8) (nBytes_len _ _)
    have e : encPers (x :: L) ++ q = nBytes 8 x.l ++ (encL x.c ++ (encPers L ++ q)) := by simp [encPers, encPer]
    rw [e, List.length_cons, persGo, perT, perS, t1, t2, be_nBytes8 h1, coinsL_app (by omega) h2, coins_app (by omega) h2]
    rw [persGo_app L q _ (fun y hy => h y (by simp [hy]))]
    simp

theorem take_app {p : Pln} (h1 : p.s < 2 ^ 64) (h2 : p.e < 2 ^ 64) (h3 : Right p.tot) (h4 : p.ps.length ≤ 255) (h5 : ∀ x ∈ p.ps, x.l < 2 ^ 64 ∧ Right x.c) (hr : rightB p = true) (q : List UInt8) :
    takeP (some (encPl p ++ q)) = p ∧ takeT (some (encPl p ++ q)) = some q := by
  obtain ⟨k, s, e, t, ps⟩ := p
  simp only at h1 h2 h3 h4 h5
  have hl := right_len h3
  obtain ⟨a1, a2⟩ := byte_app k (nBytes 8 s ++ (nBytes 8 e ++ (encL t ++ (UInt8.ofNat ps.length :: (encPers ps ++ q)))))
  obtain ⟨b1, b2⟩ := takeS_app (E := nBytes 8 s) (q := nBytes 8 e ++ (encL t ++ (UInt8.ofNat ps.length :: (encPers ps ++ q)))) (n := 8) (nBytes_len _ _)
  obtain ⟨c1, c2⟩ := takeS_app (E := nBytes 8 e) (q := encL t ++ (UInt8.ofNat ps.length :: (encPers ps ++ q))) (n := 8) (nBytes_len _ _)
  have d1 := coins_app (by omega : t.length ≤ 255) h3 (UInt8.ofNat ps.length :: (encPers ps ++ q))
  have d2 := coinsL_app (by omega : t.length ≤ 255) h3 (UInt8.ofNat ps.length :: (encPers ps ++ q))
  obtain ⟨e1, e2⟩ := byte_app (UInt8.ofNat ps.length) (encPers ps ++ q)
  have hcnt : be [UInt8.ofNat ps.length] = ps.length := by
    have : (UInt8.ofNat ps.length).toNat = ps.length := toNat_ofNat (by omega)
    simp [be, this]
  have hE : encPl ⟨k, s, e, t, ps⟩ ++ q = k :: (nBytes 8 s ++ (nBytes 8 e ++ (encL t ++ (UInt8.ofNat ps.length :: (encPers ps ++ q))))) := by simp [encPl]
  rw [hE]
  have hR : planR (some (k :: (nBytes 8 s ++ (nBytes 8 e ++ (encL t ++ (UInt8.ofNat ps.length :: (encPers ps ++ q))))))) = (ps, some q) := by
    unfold planR s4S
    rw [a1, b1, c1, d1, e1, e2, hcnt, persGo_app ps q [] h5]
    rfl
  have hP : planP (some (k :: (nBytes 8 s ++ (nBytes 8 e ++ (encL t ++ (UInt8.ofNat ps.length :: (encPers ps ++ q))))))) ps = ⟨k, s, e, t, ps⟩ := by
    unfold planP byteS
    rw [a1, a2, b1, b2, c1, c2, d2, be_nBytes8 h1, be_nBytes8 h2]
    rfl
  have := take_some hR (by rw [hP]; exact hr) (by simp)
  rw [hP] at this
  exact this

end Go.Proofs.Ytdbaddholggkbaa

/-
  A plan is laid..
-/
namespace Go.Proofs.Ytdbaddholggkbaa
set_option linter.unnecessarySimpa false
set_option maxRecDepth 100000
open Go Go.Vm
set_option linter.unusedSimpArgs false
set_option linter.unusedVariables false

attribute [local simp] evalL wantedA isCall opA evalA evalAll evalsA evalOpt ofValue ofCell plain binA_eql_pn binA_neq_pn binA_gtr binA_lss binA_geq binA_leq binA_add binA_sub binA_eql binA_neq binA_orI binA_andI binA_shl binA_shr binA_mul binA_quo binA_rem binA_agg_eql binA_agg_neq convA_int unA_not fieldAddrA loadA partA pickA_true pickA_false pickA_bb lenA builtinA storeA splice AV.cells AV.isCell sliceA boundA intA callOf indexAddrA newObjA buildA fillA zeroA ofCells buildSliceA indexA fieldA numA_len4 numA_take4 numA_drop4 set_appN get_appN take_appN List.getElem?_cons_zero List.getElem?_cons_succ makeA zeros64

/-- What a writer holds behind a call: told by its whole bytes. -/
def WQ (id : Nat) (σ : St) (k : Nat) (l A : List UInt8) : AV → St → Prop := fun av σ' => av = .ptr id 0 ∧ ∃ k' tk', Wr σ.toks k l tk' k' A ∧ σ' = { σ with objs := σ.objs.set id [wrA k' A], toks := tk' }
theorem wbyteA {σ : St} {id k : Nat} {l A : List UInt8} {b : UInt8} (hA : A = l ++ [b]) (h : σ.objs[id]? = some [wrA k l]) (ht : Tk σ.toks k l) (hl : l.length ≤ 300000) :
    CallsA Try.prog 88 [.ptr id 0, .v (.int .u8 b.toNat)] σ (WQ id σ k l A) := by
  subst hA; exact wbyte_ok h ht (by omega)
theorem wlongA {σ : St} {id k n : Nat} {l A : List UInt8} (hA : A = l ++ nBytes 8 n) (h : σ.objs[id]? = some [wrA k l]) (ht : Tk σ.toks k l) (hn : n < 2 ^ 64) (hl : l.length ≤ 300000) :
    CallsA Try.prog 39 [.ptr id 0, .v (.int .u64 n)] σ (WQ id σ k l A) := by
  subst hA; exact wlong_ok h ht hn (by omega)
theorem wcoinsA {σ : St} {id k : Nat} {l A : List UInt8} {L : List Coin} {tL : Tail} (hA : A = l ++ encL L) (h : σ.objs[id]? = some [wrA k l]) (ht : Tk σ.toks k l) (hL : L.length ≤ 255) (hl : l.length ≤ 300000) :
    CallsA Try.prog 89 [.ptr id 0, .sl 5 (coinsC L) L.length tL] σ (WQ id σ k l A) := by
  subst hA; exact wcoins_ok h ht hL (by omega)

structure LSt where
  i : Nat
  k : Nat
  tk : List Nat

set_option maxHeartbeats 1600000 in
attribute [local simp] undefA List.getElem?_cons_zero List.getElem?_cons_succ plnC perC persC_noObj noObj_wrA noObj_wrA' in
theorem play_ok {σ : St} {id k : Nat} {l A : List UInt8} {p : Pln} (hA : A = l ++ encPl p) (h : σ.objs[id]? = some [wrA k l]) (ht : Tk σ.toks k l) (hl : l.length ≤ 100000)
    (p1 : p.s < 2 ^ 64) (p2 : p.e < 2 ^ 64) (p3 : p.tot.length ≤ 8) (p4 : p.ps.length ≤ 255) (p5 : ∀ x ∈ p.ps, x.l < 2 ^ 64 ∧ x.c.length ≤ 8) :
    CallsA Try.prog 40 [.ptr id 0, .agg (plnC p)] σ (fun av σ' => av = .tup [] ∧ ∃ k' tk', Wr σ.toks k l tk' k' A ∧ σ' = { σ with objs := σ.objs.set id [wrA k' A], toks := tk' }) := by
  have hlt := lt_of_get h
  refine callsA_mono (callsA_gcOI (A := .tup []) (Pi := fun i : Nat × List Nat => Wr σ.toks k l i.2 i.1 A) (τ := fun i => { σ with objs := σ.objs.set id [wrA i.1 A], toks := i.2 }) ?_ (by simp [AV.gcO, gcOL]) (fun _ => by simp) (fun _ => rfl) (fun _ => kp_set (kp_refl _) (noObj_wrA _ _ _)) (fun _ => kpr_refl _)) (fun av σ' ⟨h1, i, h2, h3⟩ => ⟨h1, i.1, i.2, h2, h3⟩)
  have hs := set_self_of h
  obtain ⟨pk, ps, pe, pt, pp⟩ := p
  simp only at p1 p2 p3 p4 p5
  obtain ⟨c, hc⟩ : ∃ c, c = UInt8.ofNat pp.length := ⟨_, rfl⟩
  have hcn : c.toNat = pp.length := by rw [hc]; exact toNat_ofNat (by omega)
  have hw : IntKind.u8.wrap (pp.length : Int) = (c.toNat : Int) := by rw [wrap_u8, hcn, Nat.mod_eq_of_lt (by omega)]
  obtain ⟨A1, hA1⟩ : ∃ A1, A1 = l ++ [pk] := ⟨_, rfl⟩
  obtain ⟨A2, hA2⟩ : ∃ A2, A2 = A1 ++ nBytes 8 ps := ⟨_, rfl⟩
  obtain ⟨A3, hA3⟩ : ∃ A3, A3 = A2 ++ nBytes 8 pe := ⟨_, rfl⟩
  obtain ⟨A4, hA4⟩ : ∃ A4, A4 = A3 ++ encL pt := ⟨_, rfl⟩
  obtain ⟨A5, hA5⟩ : ∃ A5, A5 = A4 ++ [c] := ⟨_, rfl⟩
  have n1 : A1.length = l.length + 1 := by rw [hA1]; simp
  have n2 : A2.length = l.length + 9 := by rw [hA2, List.length_append, nBytes_len, n1]
  have n3 : A3.length = l.length + 17 := by rw [hA3, List.length_append, nBytes_len, n2]
  have n4 : A4.length ≤ l.length + 290 := by have := encL_len p3; rw [hA4, List.length_append, n3]; omega
  have n5 : A5.length ≤ l.length + 291 := by rw [hA5, List.length_append]; simp; omega
  obtain ⟨Bf, hBf⟩ : ∃ Bf : Nat → List UInt8, Bf = fun i => A5 ++ encPers (pp.take i) := ⟨_, rfl⟩
  have hB0 : A5 = Bf 0 := by rw [hBf]; simp [encPers]
  have hBl : ∀ i, i ≤ pp.length → (Bf i).length ≤ 200000 := fun i hi => by
    have := encPers_len (pp.take i) (fun x hx => (p5 x (List.mem_of_mem_take hx)).2)
    have e : (pp.take i).length = i := by simp; omega
    rw [hBf]; simp only [List.length_append]; rw [e] at this; omega
  have hBs : ∀ i (hi : i < pp.length), Bf (i + 1) = Bf i ++ nBytes 8 pp[i].l ++ encL pp[i].c := fun i hi => by
    rw [hBf]; simp only; rw [← List.take_append_getElem hi, encPers_snoc]; simp [encPer]
  have hBA : Bf pp.length = A := by
    rw [hA, hBf]; simp only; rw [List.take_length, hA5, hA4, hA3, hA2, hA1, hc]; simp [encPl]
  clear hBf hA
  have ho1 : ∀ r, (σ.objs ++ r)[id]? = some [wrA k l] := fun r => by rw [List.getElem?_append_left hlt]; exact h
  have ho2 : ∀ x r, (σ.objs.set id x ++ r)[id]? = some x := fun x r => by rw [List.getElem?_append_left (by simpa using hlt)]; exact hs x
  have ho3 : ∀ x r, (σ.objs ++ r).set id x = σ.objs.set id x ++ r := fun x r => List.set_append_left _ _ hlt
  have ho4 : ∀ x y r, (σ.objs.set id y ++ r).set id x = σ.objs.set id x ++ r := fun x y r => by rw [List.set_append_left _ _ (by simpa using hlt), List.set_set]
  have hlt1 : id < σ.objs.length + 1 := by omega
  have htk : ∀ (x a b : List AV), List.take (σ.objs.length + 1) (σ.objs.set id x ++ [a, b]) = σ.objs.set id x ++ [a] := fun x a b => by
    have := List.take_length_add_append (l₁ := σ.objs.set id x) (l₂ := [a, b]) 1
    rw [List.length_set] at this
    exact this
  have F := And.intro hw (And.intro ho1 (And.intro ho2 (And.intro ho3 (And.intro ho4 (And.intro hlt (And.intro hlt1 (And.intro htk (True.intro))))))))
  refine callsA_body Try.func40 rfl rfl rfl ?_
  refine sq fun K1 hK1 => ?_
  refine rg' (h := fun J2 hJ2 => ?_)
  refine hJ2 _ _ ?_
  refine hK1 _ _ ?_
  refine sq fun K3 hK3 => ?_
  refine run_draw (by kernel_rfl) fun J4 hJ4 => ?_
  refine rp2 0 (k := ?_)
  refine rp2 1 (k := ?_)
  refine rp2 2 (k := ?_)
  refine rp2 4 (k := ?_)
  refine rp2 5 (k := ?_)
  refine rp2 7 (k := ?_)
  refine rp2 8 (k := ?_)
  refine rp2 10 (k := ?_)
  refine rp2 11 (k := ?_)
  refine rp2 13 (k := ?_)
  refine rp2 14 (k := ?_)
  refine rp2 15 (k := ?_)
  refine rp2 16 (k := ?_)
  refine dc 3 rfl (c := wbyteA hA1 (ho1 _) ht (by omega)) (k := ?_)
  rintro _ _ ⟨rfl, k1, tk1, hw1, rfl⟩
  refine ⟨by first | exact fun _ _ h => h | (refine later_list [16, 15, 14, 13, 11, 10, 8, 7, 5, 4, 1] (by kernel_rfl) (List.forall_mem_cons.2 ⟨fun _ => fact2 rfl rfl ?_, List.forall_mem_cons.2 ⟨fun _ => fact2 rfl rfl ?_, List.forall_mem_cons.2 ⟨fun _ => fact2 rfl rfl ?_, List.forall_mem_cons.2 ⟨fun _ => fact2 rfl rfl ?_, List.forall_mem_cons.2 ⟨fun _ => fact2 rfl rfl ?_, List.forall_mem_cons.2 ⟨fun _ => fact2 rfl rfl ?_, List.forall_mem_cons.2 ⟨fun _ => fact2 rfl rfl ?_, List.forall_mem_cons.2 ⟨fun _ => fact2 rfl rfl ?_, List.forall_mem_cons.2 ⟨fun _ => fact2 rfl rfl ?_, List.forall_mem_cons.2 ⟨fun _ => fact2 rfl rfl ?_, List.forall_mem_cons.2 ⟨fun _ => fact2 rfl rfl ?_, fun _ h => absurd h List.not_mem_nil⟩⟩⟩⟩⟩⟩⟩⟩⟩⟩⟩) <;> constructor <;> first | rfl | (simp [F]; done)), ?_⟩
  repeat (first | simp [F] | simp (disch := omega) only [wC, if_pos, if_neg])
  refine dc 6 rfl (c := wlongA hA2 (ho2 _ _) hw1.tok p1 (by omega)) (k := ?_)
  rintro _ _ ⟨rfl, k2, tk2, hw2, rfl⟩
  refine ⟨by first | exact fun _ _ h => h | (refine later_list [16, 15, 14, 13, 11, 10, 8, 7, 4, 1] (by kernel_rfl) (List.forall_mem_cons.2 ⟨fun _ => fact2 rfl rfl ?_, List.forall_mem_cons.2 ⟨fun _ => fact2 rfl rfl ?_, List.forall_mem_cons.2 ⟨fun _ => fact2 rfl rfl ?_, List.forall_mem_cons.2 ⟨fun _ => fact2 rfl rfl ?_, List.forall_mem_cons.2 ⟨fun _ => fact2 rfl rfl ?_, List.forall_mem_cons.2 ⟨fun _ => fact2 rfl rfl ?_, List.forall_mem_cons.2 ⟨fun _ => fact2 rfl rfl ?_, List.forall_mem_cons.2 ⟨fun _ => fact2 rfl rfl ?_, List.forall_mem_cons.2 ⟨fun _ => fact2 rfl rfl ?_, List.forall_mem_cons.2 ⟨fun _ => fact2 rfl rfl ?_, fun _ h => absurd h List.not_mem_nil⟩⟩⟩⟩⟩⟩⟩⟩⟩⟩) <;> constructor <;> first | rfl | (simp [F]; done)), ?_⟩
  repeat (first | simp [F] | simp (disch := omega) only [wC, if_pos, if_neg])
  refine dc 9 rfl (c := wlongA hA3 (ho2 _ _) hw2.tok p2 (by omega)) (k := ?_)
  rintro _ _ ⟨rfl, k3, tk3, hw3, rfl⟩
  refine ⟨by first | exact fun _ _ h => h | (refine later_list [16, 15, 14, 13, 11, 10, 7, 4, 1] (by kernel_rfl) (List.forall_mem_cons.2 ⟨fun _ => fact2 rfl rfl ?_, List.forall_mem_cons.2 ⟨fun _ => fact2 rfl rfl ?_, List.forall_mem_cons.2 ⟨fun _ => fact2 rfl rfl ?_, List.forall_mem_cons.2 ⟨fun _ => fact2 rfl rfl ?_, List.forall_mem_cons.2 ⟨fun _ => fact2 rfl rfl ?_, List.forall_mem_cons.2 ⟨fun _ => fact2 rfl rfl ?_, List.forall_mem_cons.2 ⟨fun _ => fact2 rfl rfl ?_, List.forall_mem_cons.2 ⟨fun _ => fact2 rfl rfl ?_, List.forall_mem_cons.2 ⟨fun _ => fact2 rfl rfl ?_, fun _ h => absurd h List.not_mem_nil⟩⟩⟩⟩⟩⟩⟩⟩⟩) <;> constructor <;> first | rfl | (simp [F]; done)), ?_⟩
  repeat (first | simp [F] | simp (disch := omega) only [wC, if_pos, if_neg])
  refine dc 12 rfl (c := wcoinsA hA4 (ho2 _ _) hw3.tok (by omega) (by omega)) (k := ?_)
  rintro _ _ ⟨rfl, k4, tk4, hw4, rfl⟩
  refine ⟨by first | exact fun _ _ h => h | (refine later_list [16, 15, 14, 13, 10, 7, 4, 1] (by kernel_rfl) (List.forall_mem_cons.2 ⟨fun _ => fact2 rfl rfl ?_, List.forall_mem_cons.2 ⟨fun _ => fact2 rfl rfl ?_, List.forall_mem_cons.2 ⟨fun _ => fact2 rfl rfl ?_, List.forall_mem_cons.2 ⟨fun _ => fact2 rfl rfl ?_, List.forall_mem_cons.2 ⟨fun _ => fact2 rfl rfl ?_, List.forall_mem_cons.2 ⟨fun _ => fact2 rfl rfl ?_, List.forall_mem_cons.2 ⟨fun _ => fact2 rfl rfl ?_, List.forall_mem_cons.2 ⟨fun _ => fact2 rfl rfl ?_, fun _ h => absurd h List.not_mem_nil⟩⟩⟩⟩⟩⟩⟩⟩) <;> constructor <;> first | rfl | (simp [F]; done)), ?_⟩
  repeat (first | simp [F] | simp (disch := omega) only [wC, if_pos, if_neg])
  refine dc 17 rfl (c := wbyteA hA5 (ho2 _ _) hw4.tok (by omega)) (k := ?_)
  rintro _ _ ⟨rfl, k5, tk5, hw5, rfl⟩
  refine ⟨by first | exact fun _ _ h => h | (refine later_list [15, 14, 13, 10, 7, 4, 1] (by kernel_rfl) (List.forall_mem_cons.2 ⟨fun _ => fact2 rfl rfl ?_, List.forall_mem_cons.2 ⟨fun _ => fact2 rfl rfl ?_, List.forall_mem_cons.2 ⟨fun _ => fact2 rfl rfl ?_, List.forall_mem_cons.2 ⟨fun _ => fact2 rfl rfl ?_, List.forall_mem_cons.2 ⟨fun _ => fact2 rfl rfl ?_, List.forall_mem_cons.2 ⟨fun _ => fact2 rfl rfl ?_, List.forall_mem_cons.2 ⟨fun _ => fact2 rfl rfl ?_, fun _ h => absurd h List.not_mem_nil⟩⟩⟩⟩⟩⟩⟩) <;> constructor <;> first | rfl | (simp [F]; done)), ?_⟩
  repeat (first | simp [F] | simp (disch := omega) only [wC, if_pos, if_neg])
  refine dd ?_
  refine hJ4 _ _ ?_
  refine hK3 _ _ ?_
  refine sq fun K5 hK5 => ?_
  refine rg' (h := fun J6 hJ6 => ?_)
  refine hJ6 _ _ ?_
  refine hK5 _ _ ?_
  refine run_block_k ?_
  refine run_loopG (X := LSt) [0, 25, 26] (fun q ρ σ1 => (q.i ≤ pp.length) ∧ (Wr σ.toks k l q.tk q.k (Bf q.i)) ∧ (ρ 27 = .v (.int .i64 q.i)) ∧ (σ1 = { σ with objs := σ.objs.set id [wrA q.k (Bf q.i)] ++ [[.v (.int .u8 pk.toNat), .v (.int .u64 ps), .v (.int .u64 pe), .sl 5 (coinsC pt) pt.length .shut, .sl 2 (persC pp) pp.length .shut]], toks := q.tk })) (fun q => pp.length - q.i) (⟨0, k5, tk5⟩) ?st1 ?rd1
  case st1 =>
   refine ⟨lp, ?_, lp, ?_⟩
   · rw [← hB0]
     exact (((hw1.trans hw2).trans hw3).trans hw4).trans hw5
   · simp only [← hB0]
  case rd1 =>
   rintro q ρ1 σ1 hF1 ⟨hj, hq, h27, hσ⟩
   obtain rfl := hσ.symm
   have f1 := keepL hF1
   try simp [KeepL, F] at f1
   replace F := And.intro h27 F
   try replace F := And.intro f1 F
   refine sq fun K7 hK7 => ?_
   refine rg' (h := fun J8 hJ8 => ?_)
   refine hJ8 _ _ ?_
   refine hK7 _ _ ?_
   refine sq fun K9 hK9 => ?_
   refine cs (fun c28 => ?_) (fun c28 => ?_)
   · try exact nope c28
     all_goals have c28p := c28
     all_goals try simp [F] at c28p
     all_goals
      replace F := And.intro c28 F
      try replace F := And.intro c28p F
      refine run_skip ?_
      refine hK9 _ _ ?_
      refine sq fun K10 hK10 => ?_
      refine run_block_k ?_
      refine sq fun K11 hK11 => ?_
      have hlt2 : q.i < pp.length := by have h := c28; simp at h; omega
      have hat := persC_at hlt2
      have hb1 : q.i * 2 + 2 ≤ pp.length * 2 := by omega
      have hx5 := p5 _ (List.getElem_mem hlt2)
      have hBs1 := hBs _ hlt2
      have hBl1 := hBl q.i hj
      obtain ⟨x, hx⟩ : ∃ x, x = pp[q.i] := ⟨_, rfl⟩
      rw [← hx] at hat hx5 hBs1
      obtain ⟨xl, xc⟩ := x
      simp only at hx5 hBs1
      obtain ⟨C1, hC1⟩ : ∃ C1, C1 = Bf q.i ++ nBytes 8 xl := ⟨_, rfl⟩
      rw [← hC1] at hBs1
      have nC : C1.length = (Bf q.i).length + 8 := by rw [hC1, List.length_append, nBytes_len]
      replace F := And.intro hlt2 F
      replace F := And.intro hat F
      replace F := And.intro hb1 F
      refine rg' (h := fun J12 hJ12 => ?_)
      refine hJ12 _ _ ?_
      refine hK11 _ _ ?_
      refine run_draw (by kernel_rfl) fun J13 hJ13 => ?_
      refine rp2 0 (k := ?_)
      refine rp2 1 (k := ?_)
      refine rp2 2 (k := ?_)
      refine rp2 4 (k := ?_)
      refine rp2 5 (k := ?_)
      refine dc 3 rfl (c := wlongA hC1 (ho2 _ _) hq.tok hx5.1 (by omega)) (k := ?_)
      rintro _ _ ⟨rfl, k6, tk6, hw6, rfl⟩
      refine ⟨by first | exact fun _ _ h => h | (refine later_list [5, 4, 1] (by kernel_rfl) (List.forall_mem_cons.2 ⟨fun _ => fact2 rfl rfl ?_, List.forall_mem_cons.2 ⟨fun _ => fact2 rfl rfl ?_, List.forall_mem_cons.2 ⟨fun _ => fact2 rfl rfl ?_, fun _ h => absurd h List.not_mem_nil⟩⟩⟩) <;> constructor <;> first | rfl | (simp [F]; done)), ?_⟩
      repeat (first | simp [F] | simp (disch := omega) only [wC, if_pos, if_neg])
      refine dc 6 rfl (c := wcoinsA hBs1 (ho2 _ _) hw6.tok (by omega) (by omega)) (k := ?_)
      rintro _ _ ⟨rfl, k7, tk7, hw7, rfl⟩
      refine ⟨by first | exact fun _ _ h => h | (refine later_list [4, 1] (by kernel_rfl) (List.forall_mem_cons.2 ⟨fun _ => fact2 rfl rfl ?_, List.forall_mem_cons.2 ⟨fun _ => fact2 rfl rfl ?_, fun _ h => absurd h List.not_mem_nil⟩⟩) <;> constructor <;> first | rfl | (simp [F]; done)), ?_⟩
      repeat (first | simp [F] | simp (disch := omega) only [wC, if_pos, if_neg])
      refine dd ?_
      refine hJ13 _ _ ?_
      refine hK10 _ _ ?_
      refine rg' (h := fun J14 hJ14 => ?_)
      refine hJ14 _ _ ?_
      refine ⟨gk, (⟨q.i + 1, k7, tk7⟩), ⟨kpG, lpG, ?_, lpG, ?_⟩, lpG⟩
      · exact (hq.trans hw6).trans hw7
      · simp [St.trimO, F]
   try exact nope c28
   all_goals have c28p := c28
   all_goals try simp [F] at c28p
   all_goals
    replace F := And.intro c28 F
    try replace F := And.intro c28p F
    refine run_exit ?_
    try simp only [Then, InBlock, NoGoto, if_true]
    refine answer_none rfl (.inl rfl) ?_
    have hii : q.i = pp.length := by have h := c28; simp at h; omega
    rw [hii, hBA] at hq
    rw [hii, hBA]
    exact ⟨(q.k, q.tk), hq, rfl, _, rfl⟩

end Go.Proofs.Ytdbaddholggkbaa

/-
  A plan's bytes, by the document..
-/
namespace Go.Proofs.Ytdbaddholggkbaa
set_option linter.unnecessarySimpa false
set_option maxRecDepth 100000
open Go Go.Vm
set_option linter.unusedSimpArgs false
set_option linter.unusedVariables false

attribute [local simp] evalL wantedA isCall opA evalA evalAll evalsA evalOpt ofValue ofCell plain binA_eql_pn binA_neq_pn binA_gtr binA_lss binA_geq binA_leq binA_add binA_sub binA_eql binA_neq binA_orI binA_andI binA_shl binA_shr binA_mul binA_quo binA_rem binA_agg_eql binA_agg_neq convA_int unA_not fieldAddrA loadA partA pickA_true pickA_false pickA_bb lenA builtinA storeA splice AV.cells AV.isCell sliceA boundA intA callOf indexAddrA newObjA buildA fillA zeroA ofCells buildSliceA indexA fieldA numA_len4 numA_take4 numA_drop4 set_appN get_appN take_appN List.getElem?_cons_zero List.getElem?_cons_succ makeA zeros64

theorem ap0 {q A : List UInt8} {b : UInt8} {m : Nat} {tq : Tail} {objs : List (List AV)} {tk : List Nat} {gl : Nat → Option (List AV)} {rows : List RowSt} (hA : A = b :: q) (hm : q.length = m) (hq : m ≤ 100000) :
    appendA Try.prog 47 (.sl 1 [.v (.int .u8 b.toNat)] 1 .full) (.sl 1 (bytesA q) m tq) ⟨objs, tk, gl, rows⟩ = some (.sl 1 (bytesA A) A.length (.own tk.length), ⟨objs, tk ++ [A.length], gl, rows⟩) := by
  subst hA hm
  have : SmallB [b] := ⟨by simp⟩
  have h := append_wrF (l := [b]) (q := q) (tq := tq) (first := true) (objs := objs) (tk := tk) (gl := gl) (rows := rows) hq
  simpa [wrF, tkF, bytesA] using h
theorem apO {l q A : List UInt8} {m : Nat} {tq : Tail} {objs : List (List AV)} {tk : List Nat} {gl : Nat → Option (List AV)} {rows : List RowSt} (hA : A = l ++ q) (hm : q.length = m) (hl : l.length ≤ 400000) (hq : m ≤ 100000) :
    appendA Try.prog 47 (.sl 1 (bytesA l) l.length (.own tk.length)) (.sl 1 (bytesA q) m tq) ⟨objs, tk ++ [l.length], gl, rows⟩ = some (.sl 1 (bytesA A) A.length (.own tk.length), ⟨objs, tk ++ [A.length], gl, rows⟩) := by
  subst hA hm
  have : SmallB l := ⟨by omega⟩
  have h := append_wrF (l := l) (q := q) (tq := tq) (first := false) (objs := objs) (tk := tk) (gl := gl) (rows := rows) hq
  simpa [wrF, tkF] using h

set_option maxHeartbeats 1600000 in
attribute [local simp] undefA List.getElem?_cons_zero List.getElem?_cons_succ plnC perC persC_noObj in
theorem rbytesP_ok {σ : St} {p : Pln} (p1 : p.s < 2 ^ 64) (p2 : p.e < 2 ^ 64) (p3 : p.tot.length ≤ 8) (p4 : p.ps.length ≤ 255) (p5 : ∀ x ∈ p.ps, x.l < 2 ^ 64 ∧ x.c.length ≤ 8) :
    CallsA Try.prog 45 [.agg (plnC p)] σ (fun av σ' => av = .sl 1 (bytesA (encPl p)) (encPl p).length .shut ∧ σ = σ') := by
  refine callsA_gcS ?_ (by simp [AV.under])
  obtain ⟨A, hA⟩ : ∃ A, A = encPl p := ⟨_, rfl⟩
  rw [← hA]
  obtain ⟨pk, ps, pe, pt, pp⟩ := p
  simp only at p1 p2 p3 p4 p5
  obtain ⟨c, hc⟩ : ∃ c, c = UInt8.ofNat pp.length := ⟨_, rfl⟩
  have hcn : c.toNat = pp.length := by rw [hc]; exact toNat_ofNat (by omega)
  have hw : IntKind.u8.wrap (pp.length : Int) = (c.toNat : Int) := by rw [wrap_u8, hcn, Nat.mod_eq_of_lt (by omega)]
  obtain ⟨A2, hA2⟩ : ∃ A2, A2 = pk :: nBytes 8 ps := ⟨_, rfl⟩
  obtain ⟨A3, hA3⟩ : ∃ A3, A3 = A2 ++ nBytes 8 pe := ⟨_, rfl⟩
  obtain ⟨A4, hA4⟩ : ∃ A4, A4 = A3 ++ encL pt := ⟨_, rfl⟩
  obtain ⟨A5, hA5⟩ : ∃ A5, A5 = A4 ++ [c] := ⟨_, rfl⟩
  have n2 : A2.length = 9 := by rw [hA2, List.length_cons, nBytes_len]
  have n3 : A3.length = 17 := by rw [hA3, List.length_append, nBytes_len, n2]
  have ne := encL_len p3
  have n4 : A4.length ≤ 290 := by rw [hA4, List.length_append, n3]; omega
  have n5 : A5.length ≤ 291 := by rw [hA5, List.length_append]; simp; omega
  obtain ⟨Bf, hBf⟩ : ∃ Bf : Nat → List UInt8, Bf = fun i => A5 ++ encPers (pp.take i) := ⟨_, rfl⟩
  have hB0 : Bf 0 = A5 := by rw [hBf]; simp [encPers]
  have hBl : ∀ i, i ≤ pp.length → (Bf i).length ≤ 200000 := fun i hi => by
    have := encPers_len (pp.take i) (fun x hx => (p5 x (List.mem_of_mem_take hx)).2)
    have e : (pp.take i).length = i := by simp; omega
    rw [hBf]; simp only [List.length_append]; rw [e] at this; omega
  have hBs : ∀ i (hi : i < pp.length), Bf (i + 1) = Bf i ++ nBytes 8 pp[i].l ++ encL pp[i].c := fun i hi => by
    rw [hBf]; simp only; rw [← List.take_append_getElem hi, encPers_snoc]; simp [encPer]
  have hBA : Bf pp.length = A := by
    rw [hA, hBf]; simp only; rw [List.take_length, hA5, hA4, hA3, hA2, hc]; simp [encPl]
  have q2 := fun objs => ap0 (tq := .shut) (objs := objs) (tk := σ.toks) (gl := σ.gl) (rows := σ.rows) hA2 (nBytes_len 8 ps) (by omega)
  have q3 := fun objs => apO (tq := .shut) (objs := objs) (tk := σ.toks) (gl := σ.gl) (rows := σ.rows) hA3 (nBytes_len 8 pe) (by omega) (by omega)
  have q4 := fun objs => apO (tq := .shut) (objs := objs) (tk := σ.toks) (gl := σ.gl) (rows := σ.rows) hA4 rfl (by omega) (by omega)
  have q5 := fun objs => apO (m := 1) (tq := .full) (objs := objs) (tk := σ.toks) (gl := σ.gl) (rows := σ.rows) hA5 rfl (by omega) (by omega)
  have hbc : bytesA [c] = [.v (.int .u8 c.toNat)] := rfl
  simp only [hbc] at q5
  clear hBf hA
  have F := And.intro hw (True.intro)
  refine callsA_body Try.func45 rfl rfl rfl ?_
  refine sq fun K1 hK1 => ?_
  refine rg' (h := fun J2 hJ2 => ?_)
  refine hJ2 _ _ ?_
  refine hK1 _ _ ?_
  refine sq fun K3 hK3 => ?_
  refine rg' (h := fun J4 hJ4 => ?_)
  refine hJ4 _ _ ?_
  refine hK3 _ _ ?_
  refine sq fun K5 hK5 => ?_
  replace F := And.intro q2 F
  refine rg' (h := fun J6 hJ6 => ?_)
  refine ca (c := rlong_ok (size := 8) p1 (by omega)) (k := ?_)
  rintro _ _ ⟨rfl, rfl⟩
  repeat (first | simp [F] | simp (disch := omega) only [wC, if_pos, if_neg])
  refine hJ6 _ _ ?_
  refine hK5 _ _ ?_
  refine sq fun K7 hK7 => ?_
  replace F := And.intro q3 F
  refine rg' (h := fun J8 hJ8 => ?_)
  refine ca (c := rlong_ok (size := 8) p2 (by omega)) (k := ?_)
  rintro _ _ ⟨rfl, rfl⟩
  repeat (first | simp [F] | simp (disch := omega) only [wC, if_pos, if_neg])
  refine hJ8 _ _ ?_
  refine hK7 _ _ ?_
  refine sq fun K9 hK9 => ?_
  replace F := And.intro q4 F
  refine rg' (h := fun J10 hJ10 => ?_)
  refine ca (c := rcoinsW_ok (L := pt) (by omega)) (k := ?_)
  rintro _ _ ⟨rfl, rfl⟩
  repeat (first | simp [F] | simp (disch := omega) only [wC, if_pos, if_neg])
  refine hJ10 _ _ ?_
  refine hK9 _ _ ?_
  refine sq fun K11 hK11 => ?_
  replace F := And.intro q5 F
  refine rg' (h := fun J12 hJ12 => ?_)
  refine hJ12 _ _ ?_
  refine hK11 _ _ ?_
  refine sq fun K13 hK13 => ?_
  refine sq fun K14 hK14 => ?_
  refine rg' (h := fun J15 hJ15 => ?_)
  refine hJ15 _ _ ?_
  refine hK14 _ _ ?_
  refine run_block_k ?_
  refine run_loopF (X := Nat) [1, 2] (fun i ρ σ1 => (i ≤ pp.length) ∧ (ρ 3 = .sl 1 (bytesA (Bf i)) (Bf i).length (.own σ.toks.length)) ∧ (ρ 4 = .v (.int .i64 i)) ∧ (σ1 = { σ with objs := σ.objs ++ [[.v (.int .u8 pk.toNat), .v (.int .u64 ps), .v (.int .u64 pe), .sl 5 (coinsC pt) pt.length .shut, .sl 2 (persC pp) pp.length .shut]], toks := σ.toks ++ [(Bf i).length] })) (fun i => pp.length - i) (0) ?st1 ?rd1
  case st1 =>
   refine ⟨lp, ?_, lp, ?_⟩
   · simp [hB0]
   · simp [hB0]
  case rd1 =>
   rintro i ρ1 σ1 hF1 ⟨hj, h3, h4, hσ⟩
   obtain rfl := hσ.symm
   have f1 := keepL hF1
   try simp [KeepL, F] at f1
   replace F := And.intro h3 F
   replace F := And.intro h4 F
   try replace F := And.intro f1 F
   refine sq fun K16 hK16 => ?_
   refine sq fun K17 hK17 => ?_
   refine rg' (h := fun J18 hJ18 => ?_)
   refine hJ18 _ _ ?_
   refine hK17 _ _ ?_
   refine cs (fun c34 => ?_) (fun c34 => ?_)
   · try exact nope c34
     all_goals have c34p := c34
     all_goals try simp [F] at c34p
     all_goals
      replace F := And.intro c34 F
      try replace F := And.intro c34p F
      refine run_skip ?_
      refine hK16 _ _ ?_
      refine sq fun K19 hK19 => ?_
      refine run_block_k ?_
      refine sq fun K20 hK20 => ?_
      have hlt2 : i < pp.length := by have h := c34; simp at h; omega
      have hat := persC_at hlt2
      have hb1 : i * 2 + 2 ≤ pp.length * 2 := by omega
      have hx5 := p5 _ (List.getElem_mem hlt2)
      have hBs1 := hBs _ hlt2
      have hBl1 := hBl i hj
      obtain ⟨x, hx⟩ : ∃ x, x = pp[i] := ⟨_, rfl⟩
      rw [← hx] at hat hx5 hBs1
      obtain ⟨xl, xc⟩ := x
      simp only at hx5 hBs1
      obtain ⟨C1, hC1⟩ : ∃ C1, C1 = Bf i ++ nBytes 8 xl := ⟨_, rfl⟩
      rw [← hC1] at hBs1
      have nC : C1.length = (Bf i).length + 8 := by rw [hC1, List.length_append, nBytes_len]
      have nE := encL_len hx5.2
      have q6 := fun objs => apO (tq := .shut) (objs := objs) (tk := σ.toks) (gl := σ.gl) (rows := σ.rows) hC1 (nBytes_len 8 xl) (by omega) (by omega)
      have q7 := fun objs => apO (tq := .shut) (objs := objs) (tk := σ.toks) (gl := σ.gl) (rows := σ.rows) hBs1 rfl (by omega) (by omega)
      replace F := And.intro hlt2 F
      replace F := And.intro hat F
      replace F := And.intro hb1 F
      replace F := And.intro q6 F
      refine rg' (h := fun J21 hJ21 => ?_)
      refine ca (c := rlong_ok (size := 8) hx5.1 (by omega)) (k := ?_)
      rintro _ _ ⟨rfl, rfl⟩
      repeat (first | simp [F] | simp (disch := omega) only [wC, if_pos, if_neg])
      refine hJ21 _ _ ?_
      refine hK20 _ _ ?_
      replace F := And.intro hlt2 F
      replace F := And.intro hat F
      replace F := And.intro hb1 F
      replace F := And.intro q7 F
      refine rg' (h := fun J22 hJ22 => ?_)
      refine ca (c := rcoinsW_ok (L := xc) (by omega)) (k := ?_)
      rintro _ _ ⟨rfl, rfl⟩
      repeat (first | simp [F] | simp (disch := omega) only [wC, if_pos, if_neg])
      refine hJ22 _ _ ?_
      refine hK19 _ _ ?_
      refine rg' (h := fun J23 hJ23 => ?_)
      refine hJ23 _ _ ?_
      refine ⟨(i + 1), ⟨kp, lp, lp, lp, lp⟩, lp⟩
   try exact nope c34
   all_goals have c34p := c34
   all_goals try simp [F] at c34p
   all_goals
    replace F := And.intro c34 F
    try replace F := And.intro c34p F
    refine run_exit ?_
    refine hK13 _ _ ?_
    refine sq fun K24 hK24 => ?_
    refine rg' (h := fun J25 hJ25 => ?_)
    refine hJ25 _ _ ?_
    refine hK24 _ _ ?_
    refine run_ret ?_
    try simp only [Then, InBlock, NoGoto]
    refine answer_tmp rfl (.inr rfl) ?_
    have hii : i = pp.length := by have h := c34; simp at h; omega
    rw [hii, hBA] at h3 ⊢
    exact gcr (hA := by simp [F, h3]; exact Wk.shut _ _ _ _)

end Go.Proofs.Ytdbaddholggkbaa

/-
  PlanBytes..
-/
namespace Go.Proofs.Ytdbaddholggkbaa
set_option linter.unnecessarySimpa false
set_option maxRecDepth 100000
open Go Go.Vm
set_option linter.unusedSimpArgs false
set_option linter.unusedVariables false

attribute [local simp] evalL wantedA isCall opA evalA evalAll evalsA evalOpt ofValue ofCell plain binA_eql_pn binA_neq_pn binA_gtr binA_lss binA_geq binA_leq binA_add binA_sub binA_eql binA_neq binA_orI binA_andI binA_shl binA_shr binA_mul binA_quo binA_rem binA_agg_eql binA_agg_neq convA_int unA_not fieldAddrA loadA partA pickA_true pickA_false pickA_bb lenA builtinA storeA splice AV.cells AV.isCell sliceA boundA intA callOf indexAddrA newObjA buildA fillA zeroA ofCells buildSliceA indexA fieldA numA_len4 numA_take4 numA_drop4 set_appN get_appN take_appN List.getElem?_cons_zero List.getElem?_cons_succ makeA zeros64

set_option maxHeartbeats 1600000 in
attribute [local simp] undefA List.getElem?_cons_zero List.getElem?_cons_succ in
theorem join_ok {σ : St} {a b A : List UInt8} {m n : Nat} {ta tb : Tail} (hA : A = a ++ b) (hm : a.length = m) (hn : b.length = n) (ha : a ≠ []) (h1 : m ≤ 100000) (h2 : n ≤ 100000) :
    CallsA Try.prog 43 [.sl 1 (bytesA a) m ta, .sl 1 (bytesA b) n tb] σ (fun av σ' => av = .sl 1 (bytesA A) A.length .shut ∧ σ = σ') := by
  refine callsA_gcS ?_ (by simp [AV.under])
  have q1 : ∀ objs, appendA Try.prog 47 (.sl 0 [] 0 .full) (.sl 1 (bytesA a) m ta) ⟨objs, σ.toks, σ.gl, σ.rows⟩ = some (.sl 1 (bytesA a) a.length (.own σ.toks.length), ⟨objs, σ.toks ++ [a.length], σ.gl, σ.rows⟩) := fun objs => by
    have : SmallB [] := ⟨by simp⟩
    have h := append_wrA (l := []) (q := a) (tq := ta) (objs := objs) (tk := σ.toks) (gl := σ.gl) (rows := σ.rows) ha (by omega)
    rw [hm] at h
    simpa [wrA, tkB, ha, hm] using h
  have q2 := fun objs => apO (tq := tb) (objs := objs) (tk := σ.toks) (gl := σ.gl) (rows := σ.rows) hA hn (by omega) h2
  have F := And.intro q1 (And.intro q2 (True.intro))
  refine callsA_body Try.func43 rfl rfl rfl ?_
  refine sq fun K1 hK1 => ?_
  refine rg' (h := fun J2 hJ2 => ?_)
  refine hJ2 _ _ ?_
  refine hK1 _ _ ?_
  refine sq fun K3 hK3 => ?_
  refine rg' (h := fun J4 hJ4 => ?_)
  refine hJ4 _ _ ?_
  refine hK3 _ _ ?_
  refine sq fun K5 hK5 => ?_
  refine rg' (h := fun J6 hJ6 => ?_)
  refine hJ6 _ _ ?_
  refine hK5 _ _ ?_
  refine sq fun K7 hK7 => ?_
  refine rg' (h := fun J8 hJ8 => ?_)
  refine hJ8 _ _ ?_
  refine hK7 _ _ ?_
  refine run_ret ?_
  try simp only [Then, InBlock, NoGoto]
  refine answer_tmp rfl (.inr rfl) ?_
  exact gcr

theorem wdoneA {σ : St} {id k : Nat} {l : List UInt8} (h : σ.objs[id]? = some [wrA k l]) (hne : l ≠ []) (hl : l.length ≤ 1000000) :
    CallsA Try.prog 41 [.ptr id 0] σ (fun av σ' => av = .sl 1 (bytesA l) l.length .shut ∧ σ = σ') := done_ok (tl := .own k) (by simpa [wrA, hne] using h) hl

set_option maxHeartbeats 1600000 in
attribute [local simp] undefA List.getElem?_cons_zero List.getElem?_cons_succ madC plnC persC_noObj pcsC_noObj noObj_wrA noObj_wrA' in
theorem planBytes_ok {σ : St} {m : Mad} (hm : m.Ok) (hl : m.Len) {n : Nat} (hn : n < 2 ^ 64) :
    CallsA Try.prog 10 [.agg (madC m), .v (.int .u64 n)] σ (fun av σ' => av = .v (.bool true) ∧ σ = σ') := by
  refine callsA_gcS ?_ rfl
  obtain ⟨l1, l2, l3⟩ := hl
  obtain ⟨p, hpp⟩ : ∃ p, p = plansL m := ⟨_, rfl⟩
  have g : Fine p := hpp ▸ plansL_good hm
  have hcf : ∀ σ, CallsA Try.prog 20 [.agg (madC m)] σ (fun av σ' => av = .v (.bool (decide (fewP m))) ∧ σ = σ') := fun σ => few_ok l1 l2 l3
  have cp : ∀ σ, fewP m → CallsA Try.prog 21 [.agg (madC m)] σ (fun av σ' => av = .agg (plnC p) ∧ σ = σ') := fun σ hf => hpp ▸ plans_ok hm hf
  have hpr := right_plansL hm
  rw [← hpp] at hpr
  have hps : p.ps.length ≤ 16 := by
    by_cases h35 : p.k = 3 ∨ p.k = 5
    · exact (g.steps h35).2.2.2
    · have : p.ps = [] := by
        rw [hpp] at h35 ⊢
        unfold plansL at h35 ⊢
        split
        · rfl
        · split
          · rfl
          · split
            · rfl
            · split
              · rename_i h0 h1 h2 h3; rw [if_neg h0, if_neg h1, if_neg h2, if_pos h3] at h35; exact absurd h3 h35
              · rfl
      rw [this]; simp
  have o := g.ok
  have p5 : ∀ x ∈ p.ps, x.l < 2 ^ 64 ∧ x.c.length ≤ 8 := fun x hx => ⟨(o.2.2.2.2 x hx).1, right_len (g.rights x hx)⟩
  have hto := right_len g.tot
  have hP := fun q => take_app o.1 o.2.1 g.tot (by omega) (fun x hx => ⟨(p5 x hx).1, g.rights x hx⟩) hpr q
  obtain ⟨P, hPd⟩ : ∃ P, P = encPl p := ⟨_, rfl⟩
  have nP : P.length ≤ 10000 := by
    have h1 := encPers_len p.ps (fun x hx => (p5 x hx).2)
    have h2 := encL_len hto
    rw [hPd]; simp only [encPl, List.length_cons, List.length_append, nBytes_len]; omega
  obtain ⟨A1, hA1⟩ : ∃ A1, A1 = nBytes 8 n := ⟨_, rfl⟩
  have n1 : A1.length = 8 := by rw [hA1]; exact nBytes_len _ _
  have e1 : A1 ≠ [] := fun e => by rw [e] at n1; simp at n1
  obtain ⟨A2, hA2⟩ : ∃ A2, A2 = A1 ++ P := ⟨_, rfl⟩
  obtain ⟨A3, hA3⟩ : ∃ A3, A3 = A2 ++ A1 := ⟨_, rfl⟩
  have n2 : A2.length ≤ 10008 := by rw [hA2, List.length_append]; omega
  have n3 : A3.length ≤ 10016 := by rw [hA3, List.length_append]; omega
  have e2 : A2 ≠ [] := fun e => by rw [hA2] at e; simp at e; exact e1 e.1
  have e3 : A3 ≠ [] := fun e => by rw [hA3] at e; simp at e; exact e2 e.1
  obtain ⟨Q, hQ⟩ : ∃ Q, Q = P ++ A1 := ⟨_, rfl⟩
  have hA3Q : A3 = nBytes 8 n ++ Q := by rw [hA3, hA2, hQ, List.append_assoc, hA1]
  obtain ⟨tk1, tk2⟩ := takeS_app (E := nBytes 8 n) (q := Q) (n := 8) (nBytes_len _ _)
  obtain ⟨tk3, tk4⟩ := takeS_app (E := nBytes 8 n) (q := []) (n := 8) (nBytes_len _ _)
  have c1 : ∀ {τ : St} {id : Nat}, τ.objs[id]? = some (rd (some A3)) → CallsA Try.prog 46 [.ptr id 0] τ (fun av σ' => av = .v (.int .u64 n) ∧ σ' = { τ with objs := τ.objs.set id (rd (some Q)) }) := fun h => by
    have := long_ok h
    rw [hA3Q, tk1, tk2, be_nBytes8 hn] at this
    exact this
  have c2 : ∀ {τ : St} {id : Nat}, τ.objs[id]? = some (rd (some Q)) → CallsA Try.prog 34 [.ptr id 0] τ (fun av σ' => av = .agg (plnC p) ∧ σ' = { τ with objs := τ.objs.set id (rd (some A1)) }) := fun h => by
    have := ptake_ok h
    rw [hQ, hPd, (hP A1).1, (hP A1).2] at this
    exact this
  have c3 : ∀ {τ : St} {id : Nat}, τ.objs[id]? = some (rd (some A1)) → CallsA Try.prog 46 [.ptr id 0] τ (fun av σ' => av = .v (.int .u64 n) ∧ σ' = { τ with objs := τ.objs.set id (rd (some [])) }) := fun h => by
    have := long_ok h
    rw [List.append_nil] at tk3 tk4
    rw [hA1, tk3, tk4, be_nBytes8 hn] at this
    exact this
  have c4 : ∀ {τ : St} {id : Nat}, τ.objs[id]? = some (rd (some [])) → CallsA Try.prog 48 [.ptr id 0] τ (fun av σ' => av = .v (.bool true) ∧ τ = σ') := fun h => end_ok h
  have cby := fun σ => rbytesP_ok (σ := σ) o.1 o.2.1 hto (by omega) p5
  rw [← hPd] at cby
  have clo := fun σ => rlong_ok (σ := σ) (n := n) (size := 8) hn (by omega)
  rw [← hA1] at clo
  have cj1 := fun σ => join_ok (σ := σ) (ta := .shut) (tb := .shut) hA2 n1 rfl e1 (by omega) (by omega)
  have cj2 := fun σ => join_ok (σ := σ) (ta := .shut) (tb := .shut) hA3 rfl n1 e2 (by omega) (by omega)
  have csa := fun σ => same_ok (σ := σ) (p := A3) (q := A3) (t1 := .shut) (t2 := .shut) (by omega)
  have ch1 := fun σ => plsame_ok (σ := σ) o o
  have ch2 := fun σ => rplsame_ok (σ := σ) o o
  simp only [decide_true] at ch1 ch2 csa
  have cla : ∀ {τ : St} {id k : Nat}, τ.objs[id]? = some [wrA k A1] → Tk τ.toks k A1 → CallsA Try.prog 40 [.ptr id 0, .agg (plnC p)] τ (fun av σ' => av = .tup [] ∧ ∃ k' tk', Wr τ.toks k A1 tk' k' A2 ∧ σ' = { τ with objs := τ.objs.set id [wrA k' A2], toks := tk' }) := fun h ht => play_ok (by rw [hA2, hPd]) h ht (by omega) o.1 o.2.1 hto (by omega) p5
  have hA10 : A1 = [] ++ nBytes 8 n := by rw [hA1]; rfl
  have hA30 : A3 = A2 ++ nBytes 8 n := by rw [hA3, hA1]
  have hw0 : [AV.sl 0 [] 0 Tail.full] = [wrA 0 []] := rfl
  clear hpp hm g hP hPd hpr hps o p5 hto
  obtain ⟨mk, ms, mn, mc, mp⟩ := m
  obtain ⟨pk, ps, pe, pt, pp⟩ := p
  have F := True.intro
  refine callsA_body Try.func10 rfl rfl rfl ?_
  refine sq fun K1 hK1 => ?_
  refine rg' (h := fun J2 hJ2 => ?_)
  refine hJ2 _ _ ?_
  refine hK1 _ _ ?_
  refine sq fun K3 hK3 => ?_
  refine sq fun K4 hK4 => ?_
  refine rg' (h := fun J5 hJ5 => ?_)
  refine ca (c := even_ok) (k := ?_)
  rintro _ _ ⟨rfl, rfl⟩
  repeat (first | simp [F] | simp (disch := omega) only [wC, if_pos, if_neg])
  refine gs 12 (fun g1_2 => ?_) (fun g1_2 => ?_)
  · try exact nope g1_2
    all_goals have g1_2p := g1_2
    all_goals try simp [F] at g1_2p
    all_goals
     replace F := And.intro g1_2 F
     try replace F := And.intro g1_2p F
     refine no2 (k := ?_)
     refine no2 (k := ?_)
     refine no2 (k := ?_)
     refine hJ5 _ _ ?_
     refine hK4 _ _ ?_
     refine ct ?_
     refine sq fun K6 hK6 => ?_
     refine rg' (h := fun J7 hJ7 => ?_)
     refine ca (c := even_ok) (k := ?_)
     rintro _ _ ⟨rfl, rfl⟩
     repeat (first | simp [F] | simp (disch := omega) only [wC, if_pos, if_neg])
     refine hJ7 _ _ ?_
     refine hK6 _ _ ?_
     refine run_ret ?_
     try simp only [Then, InBlock, NoGoto]
     refine answer_tmp rfl (.inr rfl) ?_
     exact gcr
  try exact nope g1_2
  all_goals have g1_2p := g1_2
  all_goals try simp [F] at g1_2p
  all_goals
   replace F := And.intro g1_2 F
   try replace F := And.intro g1_2p F
   refine go2 (k := ?_)
   refine ca (c := hcf _) (k := ?_)
   rintro _ _ ⟨rfl, rfl⟩
   repeat (first | simp [F] | simp (disch := omega) only [wC, if_pos, if_neg])
   refine go2 (k := ?_)
   refine hJ5 _ _ ?_
   refine hK4 _ _ ?_
   refine cs (fun c16 => ?_) (fun c16 => ?_)
   · try exact nope c16
     all_goals have c16p := c16
     all_goals try simp [F] at c16p
     all_goals
      replace F := And.intro c16 F
      try replace F := And.intro c16p F
      refine sq fun K8 hK8 => ?_
      refine rg' (h := fun J9 hJ9 => ?_)
      refine ca (c := even_ok) (k := ?_)
      rintro _ _ ⟨rfl, rfl⟩
      repeat (first | simp [F] | simp (disch := omega) only [wC, if_pos, if_neg])
      refine hJ9 _ _ ?_
      refine hK8 _ _ ?_
      refine run_ret ?_
      try simp only [Then, InBlock, NoGoto]
      refine answer_tmp rfl (.inr rfl) ?_
      exact gcr
   try exact nope c16
   all_goals have c16p := c16
   all_goals try simp [F] at c16p
   all_goals
    replace F := And.intro c16 F
    try replace F := And.intro c16p F
    refine run_skip ?_
    refine hK3 _ _ ?_
    refine sq fun K10 hK10 => ?_
    refine rg' (h := fun J11 hJ11 => ?_)
    refine ca (c := cp _ (by simpa using c16)) (k := ?_)
    rintro _ _ ⟨rfl, rfl⟩
    repeat (first | simp [F] | simp (disch := omega) only [wC, if_pos, if_neg])
    refine hJ11 _ _ ?_
    refine hK10 _ _ ?_
    refine sq fun K12 hK12 => ?_
    replace F := And.intro hw0 F
    refine rg' (h := fun J13 hJ13 => ?_)
    refine hJ13 _ _ ?_
    refine hK12 _ _ ?_
    refine sq fun K14 hK14 => ?_
    refine rg' (h := fun J15 hJ15 => ?_)
    refine ca (c := wlongA (k := 0) (l := []) hA10 (by simp [F, hw0]) (.inl rfl) hn (by simp)) (k := ?_)
    rintro _ _ ⟨rfl, k1, tk1, hw1, rfl⟩
    repeat (first | simp [F] | simp (disch := omega) only [wC, if_pos, if_neg])
    refine hJ15 _ _ ?_
    refine hK14 _ _ ?_
    refine sq fun K16 hK16 => ?_
    refine rg' (h := fun J17 hJ17 => ?_)
    refine ca (c := cla (by simp [F]) hw1.tok) (k := ?_)
    rintro _ _ ⟨rfl, k2, tk2, hw2, rfl⟩
    repeat (first | simp [F] | simp (disch := omega) only [wC, if_pos, if_neg])
    refine hJ17 _ _ ?_
    refine hK16 _ _ ?_
    refine sq fun K18 hK18 => ?_
    refine rg' (h := fun J19 hJ19 => ?_)
    refine ca (c := wlongA hA30 (by simp [F]) hw2.tok hn (by omega)) (k := ?_)
    rintro _ _ ⟨rfl, k3, tk3, hw3, rfl⟩
    repeat (first | simp [F] | simp (disch := omega) only [wC, if_pos, if_neg])
    refine hJ19 _ _ ?_
    refine hK18 _ _ ?_
    refine sq fun K20 hK20 => ?_
    obtain ⟨tm, htm⟩ := ((hw1.trans hw2).trans hw3).pre
    subst htm
    refine rg' (h := fun J21 hJ21 => ?_)
    refine ca (c := wdoneA (l := A3) (k := k3) (by simp [F]) e3 (by omega)) (k := ?_)
    rintro _ _ ⟨rfl, rfl⟩
    repeat (first | simp [F] | simp (disch := omega) only [wC, if_pos, if_neg])
    refine hJ21 _ _ ?_
    refine hK20 _ _ ?_
    refine sq fun K22 hK22 => ?_
    refine rg' (h := fun J23 hJ23 => ?_)
    refine ca (c := new_ok (p := A3) (by omega)) (k := ?_)
    rintro _ _ ⟨rfl, rfl⟩
    repeat (first | simp [F] | simp (disch := omega) only [wC, if_pos, if_neg])
    refine hJ23 _ _ ?_
    refine hK22 _ _ ?_
    refine sq fun K24 hK24 => ?_
    refine sq fun K25 hK25 => ?_
    refine run_draw (by kernel_rfl) fun J26 hJ26 => ?_
    refine rp2 0 (k := ?_)
    refine rp2 1 (k := ?_)
    refine rp2 3 (k := ?_)
    refine rp2 6 (k := ?_)
    refine dc 2 rfl (c := clo _) (k := ?_)
    rintro _ _ ⟨rfl, rfl⟩
    refine ⟨by first | exact fun _ _ h => h | (refine later_list [6, 3, 0] (by kernel_rfl) (List.forall_mem_cons.2 ⟨fun _ => fact2 rfl rfl ?_, List.forall_mem_cons.2 ⟨fun _ => fact2 rfl rfl ?_, List.forall_mem_cons.2 ⟨fun _ => fact2 rfl rfl ?_, fun _ h => absurd h List.not_mem_nil⟩⟩⟩) <;> constructor <;> first | rfl | (simp [F]; done)), ?_⟩
    repeat (first | simp [F] | simp (disch := omega) only [wC, if_pos, if_neg])
    refine dc 4 rfl (c := cby _) (k := ?_)
    rintro _ _ ⟨rfl, rfl⟩
    refine ⟨later_tmp (by kernel_rfl), ?_⟩
    repeat (first | simp [F] | simp (disch := omega) only [wC, if_pos, if_neg])
    refine dc 5 rfl (c := cj1 _) (k := ?_)
    rintro _ _ ⟨rfl, rfl⟩
    refine ⟨later_tmp (by kernel_rfl), ?_⟩
    repeat (first | simp [F] | simp (disch := omega) only [wC, if_pos, if_neg])
    refine dc 7 rfl (c := clo _) (k := ?_)
    rintro _ _ ⟨rfl, rfl⟩
    refine ⟨later_tmp (by kernel_rfl), ?_⟩
    repeat (first | simp [F] | simp (disch := omega) only [wC, if_pos, if_neg])
    refine dc 8 rfl (c := cj2 _) (k := ?_)
    rintro _ _ ⟨rfl, rfl⟩
    refine ⟨later_tmp (by kernel_rfl), ?_⟩
    repeat (first | simp [F] | simp (disch := omega) only [wC, if_pos, if_neg])
    refine dc 9 rfl (c := csa _) (k := ?_)
    rintro _ _ ⟨rfl, rfl⟩
    refine ⟨ln, ?_⟩
    repeat (first | simp [F] | simp (disch := omega) only [wC, if_pos, if_neg])
    refine rp2 10 (k := ?_)
    refine rp2 11 (k := ?_)
    refine gd 46 (fun g10_11 => ?_) (fun g10_11 => ?_)
    · try exact nope g10_11
      all_goals have g10_11p := g10_11
      all_goals try simp [F] at g10_11p
      all_goals
       replace F := And.intro g10_11 F
       try replace F := And.intro g10_11p F
       refine rp2 12 (k := ?_)
       refine rp2 14 (k := ?_)
       refine dop 13 rfl ?_
       repeat (first | simp [F] | simp (disch := omega) only [wC, if_pos, if_neg])
       refine rp2 15 (k := ?_)
       refine rp2 16 (k := ?_)
       refine dd ?_
       refine hJ26 _ _ ?_
       refine hK25 _ _ ?_
       refine ct ?_
       refine sq fun K27 hK27 => ?_
       refine rg' (h := fun J28 hJ28 => ?_)
       refine hJ28 _ _ ?_
       refine hK27 _ _ ?_
       refine run_ret ?_
       try simp only [Then, InBlock, NoGoto]
       refine answer_tmp rfl (.inr rfl) ?_
       exact gcr
    try exact nope g10_11
    all_goals have g10_11p := g10_11
    all_goals try simp [F] at g10_11p
    all_goals
     replace F := And.intro g10_11 F
     try replace F := And.intro g10_11p F
     refine rp2 12 (k := ?_)
     refine rp2 14 (k := ?_)
     refine dc 13 rfl (c := c1 (by simp [F])) (k := ?_)
     rintro _ _ ⟨rfl, rfl⟩
     refine ⟨by first | exact fun _ _ h => h | (refine later_list [14, 10] (by kernel_rfl) (List.forall_mem_cons.2 ⟨fun _ => fact2 rfl rfl ?_, List.forall_mem_cons.2 ⟨fun _ => fact2 rfl rfl ?_, fun _ h => absurd h List.not_mem_nil⟩⟩) <;> constructor <;> first | rfl | (simp [F]; done)), ?_⟩
     repeat (first | simp [F] | simp (disch := omega) only [wC, if_pos, if_neg])
     refine rp2 15 (k := ?_)
     refine rp2 16 (k := ?_)
     refine dd ?_
     refine hJ26 _ _ ?_
     refine hK25 _ _ ?_
     refine cs (fun c51 => ?_) (fun c51 => ?_)
     · try exact nope c51
       all_goals have c51p := c51
       all_goals try simp [F] at c51p
       all_goals
        replace F := And.intro c51 F
        try replace F := And.intro c51p F
        refine sq fun K29 hK29 => ?_
        refine rg' (h := fun J30 hJ30 => ?_)
        refine hJ30 _ _ ?_
        refine hK29 _ _ ?_
        refine run_ret ?_
        try simp only [Then, InBlock, NoGoto]
        refine answer_tmp rfl (.inr rfl) ?_
        exact gcr
     try exact nope c51
     all_goals have c51p := c51
     all_goals try simp [F] at c51p
     all_goals
      replace F := And.intro c51 F
      try replace F := And.intro c51p F
      refine run_skip ?_
      refine hK24 _ _ ?_
      refine sq fun K31 hK31 => ?_
      refine rg' (h := fun J32 hJ32 => ?_)
      refine ca (c := c2 (by simp [F])) (k := ?_)
      rintro _ _ ⟨rfl, rfl⟩
      repeat (first | simp [F] | simp (disch := omega) only [wC, if_pos, if_neg])
      refine hJ32 _ _ ?_
      refine hK31 _ _ ?_
      refine sq fun K33 hK33 => ?_
      refine rg' (h := fun J34 hJ34 => ?_)
      refine ca (c := ch1 _) (k := ?_)
      rintro _ _ ⟨rfl, rfl⟩
      repeat (first | simp [F] | simp (disch := omega) only [wC, if_pos, if_neg])
      refine gs 57 (fun g13_3 => ?_) (fun g13_3 => ?_)
      · try exact nope g13_3
        all_goals have g13_3p := g13_3
        all_goals try simp [F] at g13_3p
        all_goals
         replace F := And.intro g13_3 F
         try replace F := And.intro g13_3p F
         refine go2 (k := ?_)
         refine go2 (k := ?_)
         refine ca (c := ch2 _) (k := ?_)
         rintro _ _ ⟨rfl, rfl⟩
         repeat (first | simp [F] | simp (disch := omega) only [wC, if_pos, if_neg])
         refine gs 62 (fun g13_8 => ?_) (fun g13_8 => ?_)
         · try exact nope g13_8
           all_goals have g13_8p := g13_8
           all_goals try simp [F] at g13_8p
           all_goals
            replace F := And.intro g13_8 F
            try replace F := And.intro g13_8p F
            refine go2 (k := ?_)
            refine ca (c := c3 (by simp [F])) (k := ?_)
            rintro _ _ ⟨rfl, rfl⟩
            repeat (first | simp [F] | simp (disch := omega) only [wC, if_pos, if_neg])
            refine go2 (k := ?_)
            refine go2 (k := ?_)
            refine gs 68 (fun g13_14 => ?_) (fun g13_14 => ?_)
            · try exact nope g13_14
              all_goals have g13_14p := g13_14
              all_goals try simp [F] at g13_14p
              all_goals
               replace F := And.intro g13_14 F
               try replace F := And.intro g13_14p F
               refine go2 (k := ?_)
               refine ca (c := c4 (by simp [F])) (k := ?_)
               rintro _ _ ⟨rfl, rfl⟩
               repeat (first | simp [F] | simp (disch := omega) only [wC, if_pos, if_neg])
               refine hJ34 _ _ ?_
               refine hK33 _ _ ?_
               refine run_ret ?_
               try simp only [Then, InBlock, NoGoto]
               refine answer_tmp rfl (.inr rfl) ?_
               exact gcr
            try exact nope g13_14
            all_goals have g13_14p := g13_14
            all_goals try simp [F] at g13_14p
            all_goals
             replace F := And.intro g13_14 F
             try replace F := And.intro g13_14p F
             refine no2 (k := ?_)
             refine no2 (k := ?_)
             refine hJ34 _ _ ?_
             refine hK33 _ _ ?_
             refine run_ret ?_
             try simp only [Then, InBlock, NoGoto]
             refine answer_tmp rfl (.inr rfl) ?_
             exact gcr
         try exact nope g13_8
         all_goals have g13_8p := g13_8
         all_goals try simp [F] at g13_8p
         all_goals
          replace F := And.intro g13_8 F
          try replace F := And.intro g13_8p F
          refine no2 (k := ?_)
          refine no2 (k := ?_)
          refine no2 (k := ?_)
          refine no2 (k := ?_)
          refine no2 (k := ?_)
          refine no2 (k := ?_)
          refine hJ34 _ _ ?_
          refine hK33 _ _ ?_
          refine run_ret ?_
          try simp only [Then, InBlock, NoGoto]
          refine answer_tmp rfl (.inr rfl) ?_
          exact gcr
      try exact nope g13_3
      all_goals have g13_3p := g13_3
      all_goals try simp [F] at g13_3p
      all_goals
       replace F := And.intro g13_3 F
       try replace F := And.intro g13_3p F
       refine no2 (k := ?_)
       refine no2 (k := ?_)
       refine no2 (k := ?_)
       refine no2 (k := ?_)
       refine no2 (k := ?_)
       refine no2 (k := ?_)
       refine no2 (k := ?_)
       refine no2 (k := ?_)
       refine no2 (k := ?_)
       refine hJ34 _ _ ?_
       refine hK33 _ _ ?_
       refine run_ret ?_
       try simp only [Then, InBlock, NoGoto]
       refine answer_tmp rfl (.inr rfl) ?_
       exact gcr

end Go.Proofs.Ytdbaddholggkbaa

/-
  Arguments: numbers, lists of coins, plans.
-/
namespace Go.Vm
set_option linter.unnecessarySimpa false
set_option linter.unusedVariables false
open Go

theorem leavesF_mono {go go' : TypeId → Option (List TypeId)} (h : ∀ t l, go t = some l → go' t = some l) : ∀ (fs : List Field) (acc ls : List TypeId), leavesF go fs acc = some ls → leavesF go' fs acc = some ls
  | [], acc, ls, e => e
  | f :: fs, acc, ls, e => by
    simp only [leavesF] at e ⊢
    split at e
    · rename_i hf
      rw [if_pos hf]
      cases hg : go f.type with
      | none => rw [hg] at e; cases e
      | some l =>
        rw [hg] at e
        rw [h _ _ hg]
        exact leavesF_mono h fs _ ls e
    · cases e

theorem leaves_succ {P : Program} : ∀ (n : Nat) (t : TypeId) (l : List TypeId), leaves P n t = some l → leaves P (n + 1) t = some l
  | 0, t, l, h => by simp [leaves] at h
  | n + 1, t, l, h => by
    have ih := leaves_succ (P := P) n
    rw [leaves] at h ⊢
    split at h
    · exact h
    · exact h
    · exact h
    · rename_i e hu
      cases hg : leaves P n e with
      | none => rw [hg] at h; cases h
      | some l' => rw [hg] at h; simp only [ih _ _ hg]; exact h
    · rename_i fs hu
      cases hg : leavesF (leaves P n) fs.toList [] with
      | none => rw [hg] at h; cases h
      | some l' => rw [hg] at h; simp only [leavesF_mono ih _ _ _ hg]; exact h
    · rename_i k e hu
      cases hg : leaves P n e with
      | none => rw [hg] at h; cases h
      | some l' => rw [hg] at h; simp only [ih _ _ hg]; exact h
    · cases h

theorem leaves_add {P : Program} {n : Nat} {t : TypeId} {l : List TypeId} (h : leaves P n t = some l) : ∀ k, leaves P (n + k) t = some l
  | 0 => h
  | k + 1 => leaves_succ _ _ _ (leaves_add h k)
theorem leaves_one {P : Program} {n m : Nat} {t : TypeId} {l l' : List TypeId} (h : leaves P n t = some l) (h' : leaves P m t = some l') : l = l' := by
  have h1 := leaves_add h m
  have h2 := leaves_add h' n
  rw [Nat.add_comm] at h2
  rw [h1] at h2
  exact Option.some.inj h2

theorem join4' {a b c d : Nat} (ha : a < 2 ^ 64) (hb : b < 2 ^ 64) (hc : c < 2 ^ 64) (hd : d < 2 ^ 64) : ∃ x, x < 2 ^ 256 ∧ limb x 0 = a ∧ limb x 1 = b ∧ limb x 2 = c ∧ limb x 3 = d := by
  refine ⟨a + 2 ^ 64 * (b + 2 ^ 64 * (c + 2 ^ 64 * d)), ?_, ?_, ?_, ?_, ?_⟩ <;> (try simp only [limb, Nat.reduceMul, Nat.reducePow]) <;> omega

theorem u64_of' {P : Program} {u : TypeId} {a : AV} (hu : P.underlying u = some (.int .u64)) (w : WC P u a) : ∃ n : Nat, n < 2 ^ 64 ∧ a = .v (.int .u64 n) := by
  cases w with
  | bool h => rw [hu] at h; cases h
  | string h _ => rw [hu] at h; cases h
  | slice h _ _ _ _ => rw [hu] at h; cases h
  | int h hw =>
    rename_i k n
    rw [hu] at h
    cases h
    have m1 : IntKind.u64.min = 0 := rfl
    have m2 : IntKind.u64.max = 18446744073709551615 := rfl
    simp [Lit.wf, m1, m2] at hw
    exact ⟨n.toNat, by omega, by congr 2; omega⟩
theorem u8_of {P : Program} {u : TypeId} {a : AV} (hu : P.underlying u = some (.int .u8)) (w : WC P u a) : ∃ b : UInt8, a = .v (.int .u8 b.toNat) := by
  cases w with
  | bool h => rw [hu] at h; cases h
  | string h _ => rw [hu] at h; cases h
  | slice h _ _ _ _ => rw [hu] at h; cases h
  | int h hw =>
    rename_i k n
    rw [hu] at h
    cases h
    have m1 : IntKind.u8.min = 0 := rfl
    have m2 : IntKind.u8.max = 255 := rfl
    simp [Lit.wf, m1, m2] at hw
    refine ⟨UInt8.ofNat n.toNat, ?_⟩
    have e : (UInt8.ofNat n.toNat).toNat = n.toNat := toNat_u8 (by omega)
    rw [e]
    congr 2; omega

theorem num_of {P : Program} {u : TypeId} {a b c d : AV} (hu : P.underlying u = some (.int .u64)) (ha : WC P u a) (hb : WC P u b) (hc : WC P u c) (hd : WC P u d) : ∃ x : Num, [a, b, c, d] = numA x.v := by
  obtain ⟨na, ga, rfl⟩ := u64_of' hu ha
  obtain ⟨nb, gb, rfl⟩ := u64_of' hu hb
  obtain ⟨nc, gc, rfl⟩ := u64_of' hu hc
  obtain ⟨nd, gd, rfl⟩ := u64_of' hu hd
  obtain ⟨x, hx, x0, x1, x2, x3⟩ := join4' ga gb gc gd
  exact ⟨⟨x, hx⟩, by simp [numA, x0, x1, x2, x3]⟩

/-- Cells that come in groups of one kind. -/
theorem groups {P : Program} {α : Type} {f : α → List AV} {ls : List TypeId} (hl : 0 < ls.length) (hf : ∀ a, (f a).length = ls.length)
    (one : ∀ cs : List AV, cs.length = ls.length → (∀ (j : Nat) a u, cs[j]? = some a → ls[j]? = some u → WC P u a) → ∃ x, cs = f x) :
    ∀ (n : Nat) (cs : List AV), cs.length = n * ls.length → (∀ (j : Nat) a u, cs[j]? = some a → ls[j % ls.length]? = some u → WC P u a) → ∃ l : List α, l.length = n ∧ cs = l.flatMap f
  | 0, cs, h, _ => ⟨[], rfl, by simpa using h⟩
  | n + 1, cs, h, hc => by
    have hle : ls.length ≤ cs.length := by rw [h, Nat.add_mul]; omega
    obtain ⟨x, hx⟩ := one (cs.take ls.length) (by simp; omega) (fun j a u ha hu => by
      have hj : j < ls.length := (List.getElem?_eq_some_iff.1 hu).1
      rw [List.getElem?_take, if_pos hj] at ha
      exact hc j a u ha (by rw [Nat.mod_eq_of_lt hj]; exact hu))
    obtain ⟨l, hln, hl2⟩ := groups hl hf one n (cs.drop ls.length) (by rw [List.length_drop, h, Nat.add_mul]; omega) (fun j a u ha hu => by
      rw [List.getElem?_drop] at ha
      exact hc (ls.length + j) a u ha (by rw [Nat.add_mod_left]; exact hu))
    exact ⟨x :: l, by simp [hln], by rw [List.flatMap_cons, ← hx, ← hl2, List.take_append_drop]⟩

theorem coins_of {P : Program} {t e tb u : TypeId} {k : Nat} {a : AV} (ht : P.underlying t = some (.slice e)) (hle : leaves P k e = some [tb, u, u, u, u]) (hb : P.underlying tb = some (.int .u8)) (hu : P.underlying u = some (.int .u64)) (w : WC P t a) : ∃ L : List Coin, a = .sl 5 (coinsC L) L.length .shut := by
  cases w with
  | bool h => rw [ht] at h; cases h
  | string h _ => rw [ht] at h; cases h
  | int h _ => rw [ht] at h; cases h
  | slice h hls hl hn hc =>
    rw [ht] at h
    cases h
    rename_i fuel ls cs n
    obtain rfl := leaves_one hle hls
    obtain ⟨L, hL, rfl⟩ := groups (f := coinC) (ls := [tb, u, u, u, u]) (by simp) (fun _ => rfl) (fun cs h1 h2 => by
      obtain ⟨a0, a1, a2, a3, a4, rfl⟩ : ∃ a0 a1 a2 a3 a4, cs = [a0, a1, a2, a3, a4] := by
        match cs, h1 with
        | [a0, a1, a2, a3, a4], _ => exact ⟨a0, a1, a2, a3, a4, rfl⟩
      obtain ⟨b, hb⟩ := u8_of hb (h2 0 a0 tb rfl rfl)
      obtain ⟨x, hx⟩ := num_of hu (h2 1 a1 u rfl rfl) (h2 2 a2 u rfl rfl) (h2 3 a3 u rfl rfl) (h2 4 a4 u rfl rfl)
      exact ⟨⟨b, x⟩, by rw [hb, hx]; rfl⟩) n cs hl hc
    exact ⟨L, by rw [← hL]; rfl⟩

theorem wc_len {P : Program} {t : TypeId} {sz n : Nat} {cs : List AV} {tl : Tail} (w : WC P t (.sl sz cs n tl)) : n ≤ 9223372036854775807 := by
  generalize hx : AV.sl sz cs n tl = x at w
  cases w with
  | bool h => cases hx
  | string h _ => cases hx
  | int h _ => cases hx
  | slice h hls hl hn hc => cases hx; exact hn

end Go.Vm

/-
  Arguments: what a plan is made of.
-/
namespace Go.Vm
set_option linter.unnecessarySimpa false
set_option linter.unusedVariables false
open Go

theorem u32_of {P : Program} {u : TypeId} {a : AV} (hu : P.underlying u = some (.int .u32)) (w : WC P u a) : ∃ n : Nat, n < 2 ^ 32 ∧ a = .v (.int .u32 n) := by
  cases w with
  | bool h => rw [hu] at h; cases h
  | string h _ => rw [hu] at h; cases h
  | slice h _ _ _ _ => rw [hu] at h; cases h
  | int h hw =>
    rename_i k n
    rw [hu] at h
    cases h
    have m1 : IntKind.u32.min = 0 := rfl
    have m2 : IntKind.u32.max = 4294967295 := rfl
    simp [Lit.wf, m1, m2] at hw
    exact ⟨n.toNat, by omega, by congr 2; omega⟩
theorem u16_of {P : Program} {u : TypeId} {a : AV} (hu : P.underlying u = some (.int .u16)) (w : WC P u a) : ∃ n : Nat, n < 2 ^ 16 ∧ a = .v (.int .u16 n) := by
  cases w with
  | bool h => rw [hu] at h; cases h
  | string h _ => rw [hu] at h; cases h
  | slice h _ _ _ _ => rw [hu] at h; cases h
  | int h hw =>
    rename_i k n
    rw [hu] at h
    cases h
    have m1 : IntKind.u16.min = 0 := rfl
    have m2 : IntKind.u16.max = 65535 := rfl
    simp [Lit.wf, m1, m2] at hw
    exact ⟨n.toNat, by omega, by congr 2; omega⟩
theorem pcs_of {P : Program} {t e u tc ec tb : TypeId} {k k2 : Nat} {a : AV} (ht : P.underlying t = some (.slice e)) (hle : leaves P k e = some [u, tc]) (hu : P.underlying u = some (.int .u16)) (hb : P.underlying tb = some (.int .u8)) {un : TypeId} (hun : P.underlying un = some (.int .u64))
    (htc : P.underlying tc = some (.slice ec)) (hlc : leaves P k2 ec = some [tb, un, un, un, un]) (w : WC P t a) : ∃ L : List Pc, a = .sl 2 (pcsC L) L.length .shut ∧ L.length ≤ 9223372036854775807 ∧ ∀ x ∈ L, x.l < 2 ^ 16 ∧ x.c.length ≤ 9223372036854775807 := by
  have w0 := w
  cases w with
  | bool h => rw [ht] at h; cases h
  | string h _ => rw [ht] at h; cases h
  | int h _ => rw [ht] at h; cases h
  | slice h hls hl hn hc =>
    rw [ht] at h
    cases h
    rename_i fuel ls cs n
    obtain rfl := leaves_one hle hls
    obtain ⟨L, hL, rfl⟩ := groups (α := { x : Pc // x.l < 2 ^ 16 ∧ x.c.length ≤ 9223372036854775807 }) (f := fun x => pcC x.1) (ls := [u, tc]) (by simp) (fun _ => rfl) (fun cs h1 h2 => by
      obtain ⟨a0, a1, rfl⟩ : ∃ a0 a1, cs = [a0, a1] := by
        match cs, h1 with
        | [a0, a1], _ => exact ⟨a0, a1, rfl⟩
      obtain ⟨m, hm, e0⟩ := u16_of hu (h2 0 a0 u rfl rfl)
      have w1 := h2 1 a1 tc rfl rfl
      obtain ⟨M, hM⟩ := coins_of htc hlc hb hun w1
      subst hM
      exact ⟨⟨⟨m, M⟩, hm, wc_len w1⟩, by rw [e0]; rfl⟩) n cs hl hc
    refine ⟨L.map Subtype.val, ?_, by rw [List.length_map, hL]; exact hn, fun x hx => ?_⟩
    · rw [List.length_map, hL]
      show AV.sl 2 _ n .shut = _
      congr 1
      simp [pcsC]
    · obtain ⟨y, _, rfl⟩ := List.mem_map.1 hx
      exact y.2

theorem mad_of {P : Program} {tk u32 u16 tc tp e ec tb un : TypeId} {k k2 : Nat} {l : List AV} (h1 : l.length = [tk, u32, u16, tc, tp].length) (h2 : ∀ (j : Nat) a v, l[j]? = some a → [tk, u32, u16, tc, tp][j]? = some v → WC P v a) (hk : P.underlying tk = some (.int .u8)) (h32 : P.underlying u32 = some (.int .u32)) (h16 : P.underlying u16 = some (.int .u16)) (hb : P.underlying tb = some (.int .u8)) (hun : P.underlying un = some (.int .u64))
    (htc : P.underlying tc = some (.slice ec)) (hlc : leaves P k2 ec = some [tb, un, un, un, un]) (htp : P.underlying tp = some (.slice e)) (hle : leaves P k e = some [u16, tc]) : ∃ m : Mad, l = madC m ∧ m.Ok ∧ m.Len := by
  obtain ⟨a0, a1, a2, a3, a4, rfl⟩ : ∃ a0 a1 a2 a3 a4, l = [a0, a1, a2, a3, a4] := by
    match l, h1 with
    | [a0, a1, a2, a3, a4], _ => exact ⟨a0, a1, a2, a3, a4, rfl⟩
  obtain ⟨b, e0⟩ := u8_of hk (h2 0 a0 _ rfl rfl)
  obtain ⟨s, hs, e1⟩ := u32_of h32 (h2 1 a1 _ rfl rfl)
  obtain ⟨n, hn, e2⟩ := u16_of h16 (h2 2 a2 _ rfl rfl)
  have w3 := h2 3 a3 _ rfl rfl
  obtain ⟨M, e3⟩ := coins_of htc hlc hb hun w3
  subst e3
  obtain ⟨L, e4, hL, h5⟩ := pcs_of htp hle h16 hb hun htc hlc (h2 4 a4 _ rfl rfl)
  exact ⟨⟨b, s, n, M, L⟩, by rw [e0, e1, e2, e4]; rfl, ⟨hs, hn, fun x hx => (h5 x hx).1⟩, wc_len w3, hL, fun x hx => (h5 x hx).2⟩

theorem mad_arg {n k k2 : Nat} {P : Program} {t tk u32 u16 tc tp e ec tb un : TypeId} {H : Type} {enc : TypeId × Value → H} {W : World} {spare : Nat → Bool} {cs : Array Value} {d : DataW H} {ps : List MemPlace} (hl : leaves P n t = some [tk, u32, u16, tc, tp]) (hk : P.underlying tk = some (.int .u8)) (h32 : P.underlying u32 = some (.int .u32)) (h16 : P.underlying u16 = some (.int .u16)) (hb : P.underlying tb = some (.int .u8)) (hun : P.underlying un = some (.int .u64))
    (htc : P.underlying tc = some (.slice ec)) (hlc : leaves P k2 ec = some [tb, un, un, un, un]) (htp : P.underlying tp = some (.slice e)) (hle : leaves P k e = some [u16, tc])
    (h : DataW.Trod enc P W 0 spare true t (.agg cs) d ps) : ∃ m : Mad, m.Ok ∧ m.Len ∧ AVR (atFirst W) W (.agg cs) (.agg (madC m)) := by
  obtain ⟨l, h1, h2, h3, h4⟩ := open_arg hl h
  have hc : Value.cells (.agg cs) = cs := rfl
  rw [hc] at h2 h3
  obtain ⟨m, rfl, hm⟩ := mad_of h1 h4 hk h32 h16 hb hun htc hlc htp hle
  exact ⟨m, hm.1, hm.2, .agg h2 h3⟩

end Go.Vm
