import Derived.Test.YtdbaddholggkbaaZ7
import Derived.Test.YtdbaddholggkbaaZ13
import Derived.Test.YtdbaddholggkbaaZ10
import Derived.Test.YtdbaddholggkbaaZ12
/-
  Plans that are made of numbers..
-/
namespace Go.Proofs.Ytdbaddholggkbaa
set_option linter.unnecessarySimpa false
set_option maxRecDepth 100000
open Go Go.Vm
set_option linter.unusedSimpArgs false
set_option linter.unusedVariables false

attribute [local simp] evalL wantedA isCall opA evalA evalAll evalsA evalOpt ofValue ofCell plain binA_eql_pn binA_neq_pn binA_gtr binA_lss binA_geq binA_leq binA_add binA_sub binA_eql binA_neq binA_orI binA_andI binA_shl binA_shr binA_mul binA_quo binA_rem binA_agg_eql binA_agg_neq convA_int unA_not fieldAddrA loadA partA pickA_true pickA_false pickA_bb lenA builtinA storeA splice AV.cells AV.isCell sliceA boundA intA callOf indexAddrA newObjA buildA fillA zeroA ofCells buildSliceA indexA fieldA numA_len4 numA_take4 numA_drop4 set_appN get_appN take_appN List.getElem?_cons_zero List.getElem?_cons_succ makeA zeros64

/-- Coins that are none as yet, or some. -/
def allA (b : Bool) (l : List Coin) : AV := bif b then .sl 5 (coinsC l) l.length .shut else .sl 0 [] 0 .full
@[simp] theorem allA_yes (l : List Coin) : allA true l = .sl 5 (coinsC l) l.length .shut := rfl
@[simp] theorem allA_no (l : List Coin) : allA false l = .sl 0 [] 0 .full := rfl
theorem wk_allA {b : Bool} {l : List Coin} (h : b = false → l = []) : Wk (allA b l) (.sl 5 (coinsC l) l.length .shut) := by
  cases b with
  | true => exact Wk.refl _
  | false => rw [h rfl]; exact Wk.nil _ _ _
theorem ofNil_ok {σ : St} : CallsA Try.prog 62 [.sl 0 [] 0 .full] σ (fun av σ' => av = .sl 5 (coinsC (ofL [])) (ofL []).length .shut ∧ σ = σ') :=
  callsA_wk (.cons (Wk.nil _ _ _) .nil) (of_ok (l := []) (tl := .shut) (by simp))

set_option maxHeartbeats 1600000 in
attribute [local simp] undefA List.getElem?_cons_zero List.getElem?_cons_succ madC pcC pcsC_noObj perC persC_noObj in
theorem plans_ok {σ : St} {m : Mad} (hm : m.Ok) (hf : fewP m) :
    CallsA Try.prog 21 [.agg (madC m)] σ (fun av σ' => av = .agg (plnC (plansL m)) ∧ σ = σ') := by
  refine callsA_gcS ?_ (by simp [AV.under, underL, plnC, persC_under])
  obtain ⟨K, hK⟩ : ∃ K, K = kindM m := ⟨_, rfl⟩
  obtain ⟨T, hT⟩ : ∃ T, T = persL m := ⟨_, rfl⟩
  have hTl := persL_len m
  rw [← hT] at hTl
  have hTS := lenS_persL hm
  rw [← hT] at hTS
  have hTm := persL_mem hm
  rw [← hT] at hTm
  have hK6 : K.toNat < 6 := by rw [hK]; unfold kindM; exact UInt8.mod_lt _ (by decide)
  have hkn : ∀ n : UInt8, K = n ↔ (K.toNat : Int) = (n.toNat : Int) := fun n => ⟨fun e => by rw [e], fun e => UInt8.toNat_inj.1 (Int.ofNat_inj.1 e)⟩
  obtain ⟨O, hO⟩ : ∃ O, O = ofL [] := ⟨_, rfl⟩
  obtain ⟨Q, hQ⟩ : ∃ Q, Q = ofL m.c := ⟨_, rfl⟩
  have hPl : plansL m = if K = 0 then ⟨0, 0, 0, [], []⟩
    else if K = 1 then ⟨1, m.s, m.s + (m.n + 1), Q, []⟩
    else if K = 2 then ⟨2, 0, m.s, Q, []⟩
    else if K = 3 ∨ K = 5 then ⟨K, m.s, m.s + lenS T, sumL T [], T⟩
    else ⟨K, 0, 0, Q, []⟩ := by rw [hK, hT, hQ]; rfl
  rw [hPl]
  have hTc : T.length = max 1 (min m.ps.length 16) := by
    rw [hT]; unfold persL; split
    · rename_i h; rw [h]; rfl
    · rename_i h; have : m.ps.length ≠ 0 := fun e => h (List.length_eq_zero_iff.1 e); simp; omega
  have hTat : ∀ i (h : i < T.length), T[i] = if h : i < m.ps.length then ⟨m.ps[i].l + 1, ofL m.ps[i].c⟩ else ⟨m.n + 1, O⟩ := by
    intro i h
    rw [hO]
    subst hT
    by_cases hp : m.ps = []
    · have : i = 0 := by rw [hTc, hp] at h; simp at h; omega
      subst this
      simp [persL, hp]
    · have h2 : i < m.ps.length := by have : m.ps.length ≠ 0 := fun e => hp (List.length_eq_zero_iff.1 e); omega
      rw [dif_pos h2]
      simp [persL, hp]
  have hQl : m.c.length ≤ 1000000 := by have := hf.1; omega
  have hof : ∀ σ, CallsA Try.prog 62 [.sl 5 (coinsC m.c) m.c.length .shut] σ (fun av σ' => av = .sl 5 (coinsC Q) Q.length .shut ∧ σ = σ') := fun σ => by rw [hQ]; exact of_ok hQl
  have hno : ∀ σ, CallsA Try.prog 62 [.sl 0 [] 0 .full] σ (fun av σ' => av = .sl 5 (coinsC O) O.length .shut ∧ σ = σ') := fun σ => by rw [hO]; exact ofNil_ok
  obtain ⟨mk, ms, mn, mc, mp⟩ := m
  obtain ⟨k1, k2, k3⟩ := hm
  obtain ⟨f1, f2, f3⟩ := hf
  simp only at k1 k2 k3 f1 f2 f3 hTc hTat hof
  have hk1 : (mk.toNat : Int) % 6 = (K.toNat : Int) := by rw [hK]; unfold kindM; simp [UInt8.toNat_mod]
  have hk2 : (mk.toNat : Int).tmod 6 = (K.toNat : Int) := by rw [Int.tmod_eq_emod_of_nonneg (by omega)]; exact hk1
  have hw1 : IntKind.u64.wrap (ms : Int) = (ms : Int) := wrap_u64c (by omega)
  have hw2 : IntKind.u64.wrap (mn : Int) = (mn : Int) := wrap_u64c (by omega)
  obtain ⟨L1, hL1⟩ : ∃ L1, L1 = mn + 1 := ⟨_, rfl⟩
  have hw3 : IntKind.u64.wrap ((mn : Int) + 1) = (L1 : Int) := by rw [wrap_u64c (by omega)]; omega
  have hw4 : IntKind.u64.wrap ((ms : Int) + (L1 : Int)) = ((ms + L1 : Nat) : Int) := by rw [wrap_u64c (by omega)]; omega
  simp only [← hL1] at hTat
  obtain ⟨B, hB⟩ : ∃ B, B = decide ((K.toNat : Int) = 3 ∨ (K.toNat : Int) = 5) := ⟨_, rfl⟩
  have hdr : ∀ f : Nat → AV, List.drop 2 (List.map f (List.range 2)) = [] := fun _ => rfl
  have F := And.intro hdr (True.intro)
  refine callsA_body Try.func21 rfl rfl rfl ?_
  refine sq fun K1 hK1 => ?_
  refine rg' (h := fun J2 hJ2 => ?_)
  refine hJ2 _ _ ?_
  refine hK1 _ _ ?_
  refine sq fun K3 hK3 => ?_
  replace F := And.intro hk1 F
  replace F := And.intro hk2 F
  refine rg' (h := fun J4 hJ4 => ?_)
  refine hJ4 _ _ ?_
  refine hK3 _ _ ?_
  refine sq fun K5 hK5 => ?_
  replace F := And.intro hw1 F
  replace F := And.intro hw2 F
  replace F := And.intro hw3 F
  refine run_draw (by kernel_rfl) fun J6 hJ6 => ?_
  refine rp2 0 (k := ?_)
  refine rp2 1 (k := ?_)
  refine rp2 2 (k := ?_)
  refine rp2 3 (k := ?_)
  refine rp2 4 (k := ?_)
  refine rp2 5 (k := ?_)
  refine rp2 6 (k := ?_)
  refine rp2 7 (k := ?_)
  refine rp2 8 (k := ?_)
  refine dd ?_
  refine hJ6 _ _ ?_
  refine hK5 _ _ ?_
  refine sq fun K7 hK7 => ?_
  refine sq fun K8 hK8 => ?_
  refine rg' (h := fun J9 hJ9 => ?_)
  refine hJ9 _ _ ?_
  refine hK8 _ _ ?_
  refine run_block_k ?_
  refine sq fun K10 hK10 => ?_
  refine rg' (h := fun J11 hJ11 => ?_)
  refine hJ11 _ _ ?_
  refine hK10 _ _ ?_
  refine cs (fun c21 => ?_) (fun c21 => ?_)
  · try exact nope c21
    all_goals have c21p := c21
    all_goals try simp [F] at c21p
    all_goals
     replace F := And.intro c21 F
     try replace F := And.intro c21p F
     refine sq fun K12 hK12 => ?_
     refine rg' (h := fun J13 hJ13 => ?_)
     refine hJ13 _ _ ?_
     refine hK12 _ _ ?_
     refine run_ret ?_
     try simp only [Then, InBlock, NoGoto]
     refine acell (h := ?_)
     rw [if_pos (by simpa [hkn] using c21)]
     show Wk _ _ ∧ _
     refine gcr (hA := ?_)
     exact WkL.agg (.cons (Wk.refl _) (.cons (Wk.refl _) (.cons (Wk.refl _) (.cons (Wk.nil _ _ _) (.cons (Wk.nil _ _ _) .nil)))))
  try exact nope c21
  all_goals have c21p := c21
  all_goals try simp [F] at c21p
  all_goals
   replace F := And.intro c21 F
   try replace F := And.intro c21p F
   refine sq fun K14 hK14 => ?_
   refine rg' (h := fun J15 hJ15 => ?_)
   refine hJ15 _ _ ?_
   refine hK14 _ _ ?_
   refine cs (fun c24 => ?_) (fun c24 => ?_)
   · try exact nope c24
     all_goals have c24p := c24
     all_goals try simp [F] at c24p
     all_goals
      replace F := And.intro c24 F
      try replace F := And.intro c24p F
      replace F := And.intro hw4 F
      refine rg' (h := fun J16 hJ16 => ?_)
      refine hJ16 _ _ ?_
      refine hK7 _ _ ?_
      refine sq fun K17 hK17 => ?_
      refine rg' (h := fun J18 hJ18 => ?_)
      refine ca (c := hof _) (k := ?_)
      rintro _ _ ⟨rfl, rfl⟩
      repeat (first | simp [F] | simp (disch := omega) only [wC, if_pos, if_neg])
      refine hJ18 _ _ ?_
      refine hK17 _ _ ?_
      refine sq fun K19 hK19 => ?_
      refine rg' (h := fun J20 hJ20 => ?_)
      refine hJ20 _ _ ?_
      refine hK19 _ _ ?_
      refine run_ret ?_
      try simp only [Then, InBlock, NoGoto]
      refine acell (h := ?_)
      show Wk _ _ ∧ _
      refine gcr (hA := ?_)
      simp [hkn, F, plnC, hL1]
      exact WkL.agg (.cons (Wk.refl _) (.cons (Wk.refl _) (.cons (Wk.refl _) (.cons (Wk.refl _) (.cons (Wk.nil _ _ _) .nil)))))
   try exact nope c24
   all_goals have c24p := c24
   all_goals try simp [F] at c24p
   all_goals
    replace F := And.intro c24 F
    try replace F := And.intro c24p F
    refine sq fun K21 hK21 => ?_
    refine rg' (h := fun J22 hJ22 => ?_)
    refine hJ22 _ _ ?_
    refine hK21 _ _ ?_
    refine cs (fun c32 => ?_) (fun c32 => ?_)
    · try exact nope c32
      all_goals have c32p := c32
      all_goals try simp [F] at c32p
      all_goals
       replace F := And.intro c32 F
       try replace F := And.intro c32p F
       refine rg' (h := fun J23 hJ23 => ?_)
       refine hJ23 _ _ ?_
       refine hK7 _ _ ?_
       refine sq fun K24 hK24 => ?_
       refine rg' (h := fun J25 hJ25 => ?_)
       refine ca (c := hof _) (k := ?_)
       rintro _ _ ⟨rfl, rfl⟩
       repeat (first | simp [F] | simp (disch := omega) only [wC, if_pos, if_neg])
       refine hJ25 _ _ ?_
       refine hK24 _ _ ?_
       refine sq fun K26 hK26 => ?_
       refine rg' (h := fun J27 hJ27 => ?_)
       refine hJ27 _ _ ?_
       refine hK26 _ _ ?_
       refine run_ret ?_
       try simp only [Then, InBlock, NoGoto]
       refine acell (h := ?_)
       show Wk _ _ ∧ _
       refine gcr (hA := ?_)
       simp [hkn, F, plnC, hL1]
       exact WkL.agg (.cons (Wk.refl _) (.cons (Wk.refl _) (.cons (Wk.refl _) (.cons (Wk.refl _) (.cons (Wk.nil _ _ _) .nil)))))
    try exact nope c32
    all_goals have c32p := c32
    all_goals try simp [F] at c32p
    all_goals
     replace F := And.intro c32 F
     try replace F := And.intro c32p F
     refine sqc (X := Unit) [1, 2, 3, 4, 5] (fun k ρ σ1 => (ρ 36 = .v (.bool B)) ∧ (σ1 = { σ with objs := σ.objs ++ [[.v (.int .u8 mk.toNat), .v (.int .u32 ms), .v (.int .u16 mn), .sl 5 (coinsC mc) mc.length .shut, .sl 2 (pcsC mp) mp.length .shut], [.v (.int .u8 0), .v (.int .u64 0), .v (.int .u64 0), .sl 0 [] 0 .full, .sl 0 [] 0 .full], [.v (.int .u8 K.toNat), .v (.int .u64 0), .v (.int .u64 0), .sl 0 [] 0 .full, .sl 0 [] 0 .full]] })) ?cy28 ?cx28
     case cy28 =>
      rintro k ρCc36 σ1 hFCc36 ⟨h36, hσ⟩
      obtain rfl := hσ.symm
      have fCc36 := keepL hFCc36
      try simp [KeepL, F] at fCc36
      replace F := And.intro h36 F
      try replace F := And.intro fCc36 F
      refine cs (t := B) (fun c36 => ?_) (fun c36 => ?_)
      · try exact nope c36
        all_goals have c36p := c36
        all_goals try simp [F] at c36p
        all_goals
         replace F := And.intro c36 F
         try replace F := And.intro c36p F
         refine sq fun K29 hK29 => ?_
         have h35 : (K.toNat : Int) = 3 ∨ (K.toNat : Int) = 5 := by rw [hB] at c36; simpa using c36
         refine rg' (h := fun J30 hJ30 => ?_)
         refine hJ30 _ _ ?_
         refine hK29 _ _ ?_
         refine sq fun K31 hK31 => ?_
         refine sq fun K32 hK32 => ?_
         refine rg' (h := fun J33 hJ33 => ?_)
         refine hJ33 _ _ ?_
         refine hK32 _ _ ?_
         refine run_block_k ?_
         refine run_loopG (X := PerQ) [1, 2, 3, 5] (fun q ρ σ1 => (q.i ≤ T.length) ∧ (ms + lenS T = q.e + lenS (T.drop q.i)) ∧ (sumL T [] = sumL (T.drop q.i) q.a) ∧ (Right q.a) ∧ (posB q.i = false → q.a = []) ∧ (ρ 6 = .v (.int .i64 q.i)) ∧ (σ1 = { σ with objs := σ.objs ++ [[.v (.int .u8 mk.toNat), .v (.int .u32 ms), .v (.int .u16 mn), .sl 5 (coinsC mc) mc.length .shut, .sl 2 (pcsC mp) mp.length .shut], [.v (.int .u8 0), .v (.int .u64 0), .v (.int .u64 0), .sl 0 [] 0 .full, .sl 0 [] 0 .full], [.v (.int .u8 K.toNat), .v (.int .u64 ms), .v (.int .u64 q.e), allA (posB q.i) q.a, grA σ.toks.length 2 (posB q.i) (persC (T.take q.i)) q.i]], toks := σ.toks ++ grT (posB q.i) q.i })) (fun q => T.length - q.i) (⟨0, ms, []⟩) ?st1 ?rd1
         case st1 =>
          refine ⟨lp, ?_, ?_, ?_, ?_, lp, ?_⟩
          · rfl
          · rfl
          · exact Go.Vm.right_nil
          · intro _; rfl
          · simp [F]
         case rd1 =>
          rintro q ρ1 σ1 hF1 ⟨hi, hE, hA, hqr, ha0, h6, hσ⟩
          obtain rfl := hσ.symm
          have f1 := keepL hF1
          try simp [KeepL, F] at f1
          replace F := And.intro h6 F
          try replace F := And.intro f1 F
          refine sq fun K34 hK34 => ?_
          refine sqc (X := Unit) [1, 2, 3, 5, 6] (fun k ρ σ1 => (ρ 55 = .v (.bool (decide (q.i < T.length)))) ∧ (σ1 = { σ with objs := σ.objs ++ [[.v (.int .u8 mk.toNat), .v (.int .u32 ms), .v (.int .u16 mn), .sl 5 (coinsC mc) mc.length .shut, .sl 2 (pcsC mp) mp.length .shut], [.v (.int .u8 0), .v (.int .u64 0), .v (.int .u64 0), .sl 0 [] 0 .full, .sl 0 [] 0 .full], [.v (.int .u8 K.toNat), .v (.int .u64 ms), .v (.int .u64 q.e), allA (posB q.i) q.a, grA σ.toks.length 2 (posB q.i) (persC (T.take q.i)) q.i]], toks := σ.toks ++ grT (posB q.i) q.i })) ?cy35 ?cx35
          case cy35 =>
           rintro k ρCr14 σ1 hFCr14 ⟨h55, hσ⟩
           obtain rfl := hσ.symm
           have fCr14 := keepL hFCr14
           try simp [KeepL, F] at fCr14
           replace F := And.intro h55 F
           try replace F := And.intro fCr14 F
           refine cs (t := (decide (q.i < T.length))) (fun c55 => ?_) (fun c55 => ?_)
           · try exact nope c55
             all_goals have c55p := c55
             all_goals try simp [F] at c55p
             all_goals
              replace F := And.intro c55 F
              try replace F := And.intro c55p F
              refine run_skip ?_
              refine hK34 _ _ ?_
              refine sq fun K36 hK36 => ?_
              refine run_block_k ?_
              refine sq fun K37 hK37 => ?_
              obtain ⟨i, E, S⟩ := q
              simp only at hi hE hA hqr ha0 h6
              have hlt : i < T.length := by simpa using c55
              have hTi := hTat i hlt
              have hcons : T.drop i = T[i] :: T.drop (i + 1) := List.drop_eq_getElem_cons hlt
              have htk : T.take (i + 1) = T.take i ++ [T[i]] := (List.take_append_getElem hlt).symm
              have hym := hTm _ (List.getElem_mem hlt)
              obtain ⟨y, hy⟩ : ∃ y, y = T[i] := ⟨_, rfl⟩
              rw [← hy] at hTi hcons htk hym
              rw [hcons] at hE hA
              obtain ⟨yl, yc⟩ := y
              simp only [sumL, lenS] at hE hA hym
              obtain ⟨S2, hS2⟩ : ∃ S2, S2 = cAddL S yc := ⟨_, rfl⟩
              have hS2r : Right S2 := by rw [hS2]; exact right_cAdd _ _
              rw [← hS2] at hA
              have hadd : ∀ σ, ∃ b, CallsA Try.prog 27 [allA (posB i) S, .sl 5 (coinsC yc) yc.length .shut] σ (fun av σ' => av = .tup [.sl 5 (coinsC S2) S2.length .shut, .v (.bool b)] ∧ σ = σ') := fun σ => ⟨_, hS2 ▸ callsA_wk (.cons (wk_allA ha0) (.cons (Wk.refl _) .nil)) (rpadd_ok hqr hym.2.2.2.1)⟩
              have hwe : IntKind.u64.wrap ((E : Int) + yl) = ((E + yl : Nat) : Int) := by rw [wrap_u64c (by omega)]; omega
              have hP : persC (T.take (i + 1)) = persC (T.take i) ++ [.v (.int .u64 yl), .sl 5 (coinsC yc) yc.length .shut] := by rw [htk, ← persC_append]; rfl
              replace F := And.intro hP.symm F
              have hb0 : posB i = false → persC (T.take i) = [] ∧ i = 0 := fun h => by have h0 := posB_no h; subst h0; simp
              have happ : ∀ objs, appendA Try.prog 24 (grA σ.toks.length 2 (posB i) (persC (T.take i)) i) (.sl 2 [.v (.int .u64 yl), .sl 5 (coinsC yc) yc.length .shut] 1 .full) ⟨objs, σ.toks ++ grT (posB i) i, σ.gl, σ.rows⟩ = some (grA σ.toks.length 2 true (persC (T.take i) ++ [.v (.int .u64 yl), .sl 5 (coinsC yc) yc.length .shut]) (i + 1), ⟨objs, σ.toks ++ grT true (i + 1), σ.gl, σ.rows⟩) := fun objs => append_gr elemT_24 ti_88 (by decide) rfl hb0 (.inl rfl) (by simp [roomA]; omega) (by simp [maxLen]; omega)
              refine rg' (h := fun J38 hJ38 => ?_)
              refine ca (c := hno _) (k := ?_)
              rintro _ _ ⟨rfl, rfl⟩
              repeat (first | simp [F] | simp (disch := omega) only [wC, if_pos, if_neg])
              refine hJ38 _ _ ?_
              refine hK37 _ _ ?_
              refine sqc (X := Unit) [1, 2, 3, 5, 6, 7, 43, 44, 45, 46, 47, 48, 49, 50, 51, 52, 53, 54, 55, 58, 59, 60] (fun k ρ σ1 => (σ1 = { σ with objs := σ.objs ++ [[.v (.int .u8 mk.toNat), .v (.int .u32 ms), .v (.int .u16 mn), .sl 5 (coinsC mc) mc.length .shut, .sl 2 (pcsC mp) mp.length .shut], [.v (.int .u8 0), .v (.int .u64 0), .v (.int .u64 0), .sl 0 [] 0 .full, .sl 0 [] 0 .full], [.v (.int .u8 K.toNat), .v (.int .u64 ms), .v (.int .u64 E), allA (posB i) S, grA σ.toks.length 2 (posB i) (persC (T.take i)) i], [.v (.int .u64 yl), .sl 5 (coinsC yc) yc.length .shut]], toks := σ.toks ++ grT (posB i) i })) ?cy39 ?cx39
              case cy39 =>
               rintro k ρCc65 σ1 hFCc65 hσ
               obtain rfl := hσ.symm
               have fCc65 := keepL hFCc65
               try simp [KeepL, F] at fCc65
               try replace F := And.intro fCc65 F
               refine sq fun K40 hK40 => ?_
               replace F := And.intro happ F
               refine rg' (h := fun J41 hJ41 => ?_)
               refine hJ41 _ _ ?_
               refine hK40 _ _ ?_
               refine sq fun K42 hK42 => ?_
               replace F := And.intro hwe F
               refine rg' (h := fun J43 hJ43 => ?_)
               refine hJ43 _ _ ?_
               refine hK42 _ _ ?_
               refine rg' (h := fun J44 hJ44 => ?_)
               refine ca (c := (hadd _).choose_spec) (k := ?_)
               rintro _ _ ⟨rfl, rfl⟩
               repeat (first | simp [F] | simp (disch := omega) only [wC, if_pos, if_neg])
               refine hJ44 _ _ ?_
               refine hK36 _ _ ?_
               refine rg' (h := fun J45 hJ45 => ?_)
               refine hJ45 _ _ ?_
               refine ⟨gk, (⟨i + 1, E + yl, S2⟩), ⟨kpG, lpG, lpG, lpG, lpG, lpG, lpG, lpG⟩, lpG⟩
              case cx39 =>
               intro K39 hK39
               refine sq fun K46 hK46 => ?_
               refine rg' (h := fun J47 hJ47 => ?_)
               refine hJ47 _ _ ?_
               refine hK46 _ _ ?_
               refine cs (fun c65 => ?_) (fun c65 => ?_)
               · try exact nope c65
                 all_goals have c65p := c65
                 all_goals try simp [F] at c65p
                 all_goals
                  replace F := And.intro c65 F
                  try replace F := And.intro c65p F
                  have hip : i < mp.length := by simp at c65; omega
                  have hat := pcsC_at hip
                  have hb1 : i * 2 + 2 ≤ mp.length * 2 := by omega
                  have hxf := f3 _ (List.getElem_mem hip)
                  have hxk := k3 _ (List.getElem_mem hip)
                  rw [dif_pos hip] at hTi
                  obtain ⟨x, hx⟩ : ∃ x, x = mp[i] := ⟨_, rfl⟩
                  rw [← hx] at hat hTi hxf hxk
                  obtain ⟨xl, xc⟩ := x
                  simp only at hTi hxf hxk
                  have hyl : yl = xl + 1 := congrArg Per.l hTi
                  have hyc : yc = ofL xc := congrArg Per.c hTi
                  have hwx : IntKind.u64.wrap (xl : Int) = (xl : Int) := wrap_u64c (by omega)
                  have hwx1 : IntKind.u64.wrap ((xl : Int) + 1) = (yl : Int) := by rw [wrap_u64c (by omega)]; omega
                  replace F := And.intro hip F
                  replace F := And.intro hat F
                  replace F := And.intro hb1 F
                  replace F := And.intro hwx F
                  replace F := And.intro hwx1 F
                  refine run_draw (by kernel_rfl) fun J48 hJ48 => ?_
                  refine rp2 0 (k := ?_)
                  refine rp2 1 (k := ?_)
                  refine rp2 2 (k := ?_)
                  refine rp2 3 (k := ?_)
                  refine rp2 4 (k := ?_)
                  refine rp2 5 (k := ?_)
                  refine rp2 6 (k := ?_)
                  refine rp2 7 (k := ?_)
                  refine rp2 8 (k := ?_)
                  refine rp2 9 (k := ?_)
                  refine rp2 10 (k := ?_)
                  refine rp2 11 (k := ?_)
                  refine rp2 12 (k := ?_)
                  refine rp2 13 (k := ?_)
                  refine dc 14 rfl (c := (hyc ▸ of_ok (l := xc) (by omega))) (k := ?_)
                  rintro _ _ ⟨rfl, rfl⟩
                  refine ⟨by first | exact fun _ _ h => h | (refine later_list [12, 11, 10, 9, 8, 7, 6, 5, 4, 3, 2, 1, 0] (by kernel_rfl) (List.forall_mem_cons.2 ⟨fun _ => fact2 rfl rfl ?_, List.forall_mem_cons.2 ⟨fun _ => fact2 rfl rfl ?_, List.forall_mem_cons.2 ⟨fun _ => fact2 rfl rfl ?_, List.forall_mem_cons.2 ⟨fun _ => fact2 rfl rfl ?_, List.forall_mem_cons.2 ⟨fun _ => fact2 rfl rfl ?_, List.forall_mem_cons.2 ⟨fun _ => fact2 rfl rfl ?_, List.forall_mem_cons.2 ⟨fun _ => fact2 rfl rfl ?_, List.forall_mem_cons.2 ⟨fun _ => fact2 rfl rfl ?_, List.forall_mem_cons.2 ⟨fun _ => fact2 rfl rfl ?_, List.forall_mem_cons.2 ⟨fun _ => fact2 rfl rfl ?_, List.forall_mem_cons.2 ⟨fun _ => fact2 rfl rfl ?_, List.forall_mem_cons.2 ⟨fun _ => fact2 rfl rfl ?_, List.forall_mem_cons.2 ⟨fun _ => fact2 rfl rfl ?_, fun _ h => absurd h List.not_mem_nil⟩⟩⟩⟩⟩⟩⟩⟩⟩⟩⟩⟩⟩) <;> constructor <;> first | rfl | (simp [F]; done)), ?_⟩
                  repeat (first | simp [F] | simp (disch := omega) only [wC, if_pos, if_neg])
                  refine rp2 15 (k := ?_)
                  refine dop 16 rfl ?_
                  repeat (first | simp [F] | simp (disch := omega) only [wC, if_pos, if_neg])
                  refine ⟨ln, ?_⟩
                  refine dd ?_
                  refine hJ48 _ _ ?_
                  refine hK39 (()) _ _ ⟨kp, lp⟩
               try exact nope c65
               all_goals have c65p := c65
               all_goals try simp [F] at c65p
               all_goals
                replace F := And.intro c65 F
                try replace F := And.intro c65p F
                rw [dif_neg (by simp at c65; omega)] at hTi
                have hyl : yl = L1 := congrArg Per.l hTi
                have hyc : yc = O := congrArg Per.c hTi
                subst hyl hyc
                refine run_skip ?_
                refine hK39 (()) _ _ ⟨kp, lp⟩
           try exact nope c55
           all_goals have c55p := c55
           all_goals try simp [F] at c55p
           all_goals
            replace F := And.intro c55 F
            try replace F := And.intro c55p F
            have hii : q.i = T.length := by simp at c55; omega
            have hTE : T.drop q.i = [] := List.drop_of_length_le (by omega)
            rw [hTE] at hE hA
            simp only [lenS, sumL, Nat.add_zero] at hE hA
            have hTT : T.take q.i = T := List.take_of_length_le (by omega)
            have hpb : posB q.i = true := by simp [posB]; omega
            replace F := And.intro hTT (And.intro hpb F)
            refine run_exit ?_
            refine hK31 _ _ ?_
            refine sq fun K49 hK49 => ?_
            refine rg' (h := fun J50 hJ50 => ?_)
            refine hJ50 _ _ ?_
            refine hK49 _ _ ?_
            refine run_ret ?_
            try simp only [Then, InBlock, NoGoto]
            refine acell (h := ?_)
            show Wk _ _ ∧ _
            refine gcr (hA := ?_)
            rw [hE, hA, hii]
            rcases h35 with h | h
            all_goals simp [hkn, h, plnC]
            all_goals exact WkL.agg (.cons (Wk.refl _) (.cons (Wk.refl _) (.cons (Wk.refl _) (.cons (Wk.refl _) (.cons (Wk.shut _ _ _ _) .nil)))))
          case cx35 =>
           intro K35 hK35
           refine rg' (h := fun J51 hJ51 => ?_)
           refine gs 48 (fun g14_5 => ?_) (fun g14_5 => ?_)
           · try exact nope g14_5
             all_goals have g14_5p := g14_5
             all_goals try simp [F] at g14_5p
             all_goals
              replace F := And.intro g14_5 F
              try replace F := And.intro g14_5p F
              refine go2 (k := ?_)
              refine go2 (k := ?_)
              refine gs 52 (fun g14_9 => ?_) (fun g14_9 => ?_)
              · try exact nope g14_9
                all_goals have g14_9p := g14_9
                all_goals try simp [F] at g14_9p
                all_goals
                 replace F := And.intro g14_9 F
                 try replace F := And.intro g14_9p F
                 refine no2 (k := ?_)
                 refine no2 (k := ?_)
                 refine hJ51 _ _ ?_
                 refine hK35 (()) _ _ ⟨kp, ?_, lp⟩
                 · simp [hTc]
                   try rw [Bool.eq_iff_iff]
                   try simp
                   try simp at g14_5
                   try simp at g14_9
                   try omega
              try exact nope g14_9
              all_goals have g14_9p := g14_9
              all_goals try simp [F] at g14_9p
              all_goals
               replace F := And.intro g14_9 F
               try replace F := And.intro g14_9p F
               refine go2 (k := ?_)
               refine go2 (k := ?_)
               refine hJ51 _ _ ?_
               refine hK35 (()) _ _ ⟨kp, ?_, lp⟩
               · simp [hTc]
                 try rw [Bool.eq_iff_iff]
                 try simp
                 try simp at g14_5
                 try simp at g14_9
                 try omega
           try exact nope g14_5
           all_goals have g14_5p := g14_5
           all_goals try simp [F] at g14_5p
           all_goals
            replace F := And.intro g14_5 F
            try replace F := And.intro g14_5p F
            refine no2 (k := ?_)
            refine no2 (k := ?_)
            refine go2 (k := ?_)
            refine go2 (k := ?_)
            refine hJ51 _ _ ?_
            refine hK35 (()) _ _ ⟨kp, ?_, lp⟩
            · simp [hTc]
              try rw [Bool.eq_iff_iff]
              try simp
              try simp at g14_5
              try simp at g14_9
              try omega
      try exact nope c36
      all_goals have c36p := c36
      all_goals try simp [F] at c36p
      all_goals
       replace F := And.intro c36 F
       try replace F := And.intro c36p F
       refine run_skip ?_
       refine hK7 _ _ ?_
       refine sq fun K52 hK52 => ?_
       refine rg' (h := fun J53 hJ53 => ?_)
       refine ca (c := hof _) (k := ?_)
       rintro _ _ ⟨rfl, rfl⟩
       repeat (first | simp [F] | simp (disch := omega) only [wC, if_pos, if_neg])
       refine hJ53 _ _ ?_
       refine hK52 _ _ ?_
       refine sq fun K54 hK54 => ?_
       refine rg' (h := fun J55 hJ55 => ?_)
       refine hJ55 _ _ ?_
       refine hK54 _ _ ?_
       refine run_ret ?_
       try simp only [Then, InBlock, NoGoto]
       refine acell (h := ?_)
       have h35 := of_decide_eq_false (hB ▸ c36)
       show Wk _ _ ∧ _
       refine gcr (hA := ?_)
       simp [hkn, F, plnC, h35]
       exact WkL.agg (.cons (Wk.refl _) (.cons (Wk.refl _) (.cons (Wk.refl _) (.cons (Wk.refl _) (.cons (Wk.nil _ _ _) .nil)))))
     case cx28 =>
      intro K28 hK28
      refine sq fun K56 hK56 => ?_
      refine rg' (h := fun J57 hJ57 => ?_)
      refine hJ57 _ _ ?_
      refine hK56 _ _ ?_
      refine cs (fun c36 => ?_) (fun c36 => ?_)
      · try exact nope c36
        all_goals have c36p := c36
        all_goals try simp [F] at c36p
        all_goals
         replace F := And.intro c36 F
         try replace F := And.intro c36p F
         refine run_skip ?_
         refine hK28 (()) _ _ ⟨kp, ?_, lp⟩
         · rw [hB]
           have h := c36
           simp at h
           simp [h]
           try rfl
      try exact nope c36
      all_goals have c36p := c36
      all_goals try simp [F] at c36p
      all_goals
       replace F := And.intro c36 F
       try replace F := And.intro c36p F
       refine rg' (h := fun J58 hJ58 => ?_)
       refine hJ58 _ _ ?_
       refine hK28 (()) _ _ ⟨kp, ?_, lp⟩
       · rw [hB]
         have h := c36
         simp at h
         simp [h]
         try rfl

end Go.Proofs.Ytdbaddholggkbaa

/-
  What right plans give by a time: the plain laws.
-/
namespace Go.Vm
set_option linter.unnecessarySimpa false
set_option linter.unusedSimpArgs false
set_option linter.unusedVariables false
open Go

/-- Lists of what a plan is made of are within their bound. -/
def Mad.Len (m : Mad) : Prop := m.c.length ≤ 9223372036854775807 ∧ m.ps.length ≤ 9223372036854775807 ∧ ∀ x ∈ m.ps, x.c.length ≤ 9223372036854775807
/-- Parts of a plan, as they may be. -/
def PerOk (x : Per) : Prop := 0 < x.l ∧ x.l ≤ 2 ^ 16 ∧ x.c ≠ [] ∧ Right x.c ∧ ∀ d, d < 8 → amt x.c d < 2 ^ 250
/-- How much of one kind parts have. -/
def sumN : List Per → Nat → Nat
  | [], _ => 0
  | x :: l, d => amt x.c d + sumN l d
theorem amt_sumL : ∀ (l : List Per) (n : Nat) (a : List Coin), (∀ x ∈ l, PerOk x) → n + l.length ≤ 32 → (∀ d, d < 8 → amt a d ≤ n * 2 ^ 250) → ∀ d, d < 8 → amt (sumL l a) d = amt a d + sumN l d
  | [], _, _, _, _, _, _, _ => rfl
  | x :: l, n, a, hx, hn, ha, d, hd => by
    obtain ⟨h1, h2, h3, h4, h5⟩ := hx x (by simp)
    simp only [List.length_cons] at hn
    have hz : cAddE a x.c = 0 := cAddE_zero.2 (fun d hd => by
      have := ha d hd; have := h5 d hd
      have : n * 2 ^ 250 ≤ 31 * 2 ^ 250 := Nat.mul_le_mul_right _ (by omega)
      omega)
    have := amt_sumL l (n + 1) (cAddL a x.c) (fun y hy => hx y (by simp [hy])) (by omega) (fun d hd => by
      rw [amt_cAdd hz hd]
      have := ha d hd; have := h5 d hd
      rw [Nat.add_mul]; omega) d hd
    rw [amt_cAdd hz hd] at this
    simp only [sumL, sumN]; omega
theorem amt_sum0 {l : List Per} (hx : ∀ x ∈ l, PerOk x) (hn : l.length ≤ 16) {d : Nat} (hd : d < 8) : amt (sumL l []) d = sumN l d := by
  rw [amt_sumL l 0 [] hx (by omega) (fun d _ => by simp [amt]) d hd]
  simp [amt]
theorem sum0_ne {l : List Per} (hx : ∀ x ∈ l, PerOk x) (hn : l.length ≤ 16) (hl : l ≠ []) : sumL l [] ≠ [] := by
  intro h0
  cases l with
  | nil => exact hl rfl
  | cons x l =>
    obtain ⟨h1, h2, h3, h4, h5⟩ := hx x (by simp)
    obtain ⟨d, hd, hz⟩ := amt_ne h4 h3
    have h := amt_sum0 hx hn hd
    rw [h0] at h
    simp only [sumN, amt] at h
    omega

theorem overN_all : ∀ (l : List Per) (E t : Nat), E + lenS l ≤ t → overN l E t = l.length
  | [], _, _, _ => rfl
  | x :: l, E, t, h => by
    simp only [lenS] at h
    unfold overN
    rw [if_neg (by omega), overN_all l (E + x.l) t (by omega)]
    rfl
theorem lenS_over : ∀ (l : List Per) (E t : Nat), E ≤ t ∨ overN l E t ≠ 0 → E + lenS (l.take (overN l E t)) ≤ t
  | [], E, t, h => by rcases h with h | h; simpa [overN, lenS] using h; exact absurd rfl h
  | x :: l, E, t, h => by
    unfold overN at h ⊢
    split
    · rename_i h1; rcases h with h | h
      · simpa [lenS] using h
      · exact absurd (if_pos h1) h
    · rename_i h1
      have := lenS_over l (E + x.l) t (.inl (by omega))
      simp only [List.take_succ_cons, lenS]; omega

/-- What holds of plans that are made. -/
structure Fine (p : Pln) : Prop where
  ok : p.Ok
  tot : Right p.tot
  kinds : p.k = 0 ∨ p.k = 1 ∨ p.k = 2 ∨ p.k = 3 ∨ p.k = 4 ∨ p.k = 5
  zero : p.k = 0 → p = ⟨0, 0, 0, [], []⟩
  even : p.k = 1 → p.s < p.e
  late : p.k = 2 → p.s = 0
  small : p.s + lenS p.ps ≤ 2 ^ 40
  pers : ∀ x ∈ p.ps, PerOk x
  steps : p.k = 3 ∨ p.k = 5 → p.e = p.s + lenS p.ps ∧ p.tot = sumL p.ps [] ∧ p.ps ≠ [] ∧ p.ps.length ≤ 16

theorem Fine.rights {p : Pln} (g : Fine p) : ∀ x ∈ p.ps, Right x.c := fun x hx => (g.pers x hx).2.2.2.1
theorem Fine.len {p : Pln} (g : Fine p) : p.tot.length ≤ 1000000 := by have := right_len g.tot; omega
theorem Fine.fit {p : Pln} (g : Fine p) : p.s + lenS p.ps < 2 ^ 64 := Nat.lt_of_le_of_lt g.small (by decide)

theorem kindM_cases (m : Mad) : kindM m = 0 ∨ kindM m = 1 ∨ kindM m = 2 ∨ kindM m = 3 ∨ kindM m = 4 ∨ kindM m = 5 := by
  have h : (kindM m).toNat < 6 := by unfold kindM; exact UInt8.mod_lt _ (by decide)
  have a0 : ∀ n : UInt8, kindM m = n ↔ (kindM m).toNat = n.toNat := fun n => ⟨fun e => by rw [e], fun e => UInt8.toNat_inj.1 e⟩
  simp only [a0]
  simp
  omega

theorem plansL_good {m : Mad} (hm : m.Ok) : Fine (plansL m) := by
  have h3 := lenS_persL hm
  have h5 := persL_len m
  have hp := persL_mem hm
  have hs := hm.1
  have hn := hm.2.1
  have hq := right_ofL m.c
  have hql := right_len hq
  have hsum : Right (sumL (persL m) []) := right_sumL _ _ right_nil
  have hsl := right_len hsum
  have hk := kindM_cases m
  have hne := persL_ne m
  have hx : ∀ x ∈ persL m, x.l < 2 ^ 64 ∧ x.c.length ≤ 9223372036854775807 := fun x hx => by
    obtain ⟨a1, a2, a3, a4, a5⟩ := hp x hx
    have := right_len a4
    exact ⟨by omega, by omega⟩
  generalize hT : persL m = T at *
  generalize hQ : ofL m.c = Q at *
  generalize hS : sumL T [] = S at *
  generalize hK : kindM m = K at *
  unfold plansL
  rw [hT, hQ, hS, hK]
  rcases hk with h | h | h | h | h | h <;> subst h <;> simp only [show ¬ ((1 : UInt8) = 0) by decide, show ¬ ((2 : UInt8) = 0) by decide, show ¬ ((2 : UInt8) = 1) by decide, show ¬ ((3 : UInt8) = 0) by decide, show ¬ ((3 : UInt8) = 1) by decide, show ¬ ((3 : UInt8) = 2) by decide, show ¬ ((4 : UInt8) = 0) by decide, show ¬ ((4 : UInt8) = 1) by decide, show ¬ ((4 : UInt8) = 2) by decide, show ¬ ((4 : UInt8) = 3) by decide, show ¬ ((4 : UInt8) = 5) by decide, show ¬ ((5 : UInt8) = 0) by decide, show ¬ ((5 : UInt8) = 1) by decide, show ¬ ((5 : UInt8) = 2) by decide, show ¬ ((5 : UInt8) = 3) by decide, if_true, if_false, or_true, true_or, or_false, false_or]
  · exact ⟨by simp [Pln.Ok], right_nil, by simp, by simp, by simp, by simp, by simp [lenS], by simp, by simp⟩
  · exact ⟨⟨by simp only; omega, by simp only; omega, by simp only; omega, by simp, by simp⟩, hq, by simp, by simp, fun _ => by simp only; omega, by simp, by simp only [lenS]; omega, by simp, by simp⟩
  · exact ⟨⟨by simp, by simp only; omega, by simp only; omega, by simp, by simp⟩, hq, by simp, by simp, by simp, by simp, by simp only [lenS]; omega, by simp, by simp⟩
  · exact ⟨⟨by simp only; omega, by simp only; omega, by simp only; omega, by simp only; omega, hx⟩, hsum, by simp, by simp, by simp, by simp, by simp only; omega, hp, fun _ => ⟨rfl, hS.symm, hne, h5⟩⟩
  · exact ⟨⟨by simp, by simp, by simp only; omega, by simp, by simp⟩, hq, by simp, by simp, by simp, by simp, by simp only [lenS]; omega, by simp, by simp⟩
  · exact ⟨⟨by simp only; omega, by simp only; omega, by simp only; omega, by simp only; omega, hx⟩, hsum, by simp, by simp, by simp, by simp, by simp only; omega, hp, fun _ => ⟨rfl, hS.symm, hne, h5⟩⟩

theorem mem_take {p : Pln} (g : Fine p) (n : Nat) : ∀ x ∈ p.ps.take n, PerOk x := fun x hx => g.pers x (List.mem_of_mem_take hx)

/-- From its end on all is free. -/
theorem vest_end {p : Pln} (g : Fine p) (h4 : p.k ≠ 4) {t : Nat} (ht : p.e ≤ t) : vestL p t = p.tot := by
  unfold vestL
  by_cases h : p.k = 3 ∨ p.k = 5
  · obtain ⟨e1, e2, e3, e4⟩ := g.steps h
    rw [if_pos h, e2, overN_all _ _ _ (by omega), List.take_length]
  · rw [if_neg h]
    by_cases h0 : p.k = 0
    · rw [g.zero h0]; rfl
    · have h12 : p.k = 1 ∨ p.k = 2 := by rcases g.kinds with h' | h' | h' | h' | h' | h' <;> simp_all
      rw [if_neg, if_pos ht]
      rintro (h2 | h2)
      · rcases h12 with h' | h'
        · exact h2.1 h'
        · exact h2.2 h'
      · have := g.even h2.1; omega
theorem rest_self (l : List Coin) : cRest l l = [] := by
  rw [cRest_eq]
  simp [lstF]
/-- The plan without what is locked. -/
def cutL (p : Pln) (t : Nat) : Pln :=
  if (p.k = 3 ∨ p.k = 5) ∧ overN p.ps p.s t ≠ 0 then ⟨p.k, p.s, p.s + lenS (p.ps.take (overN p.ps p.s t)), sumL (p.ps.take (overN p.ps p.s t)) [], p.ps.take (overN p.ps p.s t)⟩ else ⟨0, 0, 0, [], []⟩

theorem lenS_append : ∀ (l m : List Per), lenS (l ++ m) = lenS l + lenS m
  | [], m => by simp [lenS]
  | x :: l, m => by simp only [List.cons_append, lenS, lenS_append l m]; omega
theorem lenS_take (l : List Per) (n : Nat) : lenS (l.take n) ≤ lenS l := by
  have h := lenS_append (l.take n) (l.drop n)
  rw [List.take_append_drop] at h
  omega

theorem cut_good {p : Pln} (g : Fine p) (t : Nat) : Fine (cutL p t) := by
  unfold cutL
  split
  · rename_i h
    obtain ⟨e1, e2, e3, e4⟩ := g.steps h.1
    obtain ⟨o1, o2, o3, o4, o5⟩ := g.ok
    have hr : Right (sumL (p.ps.take (overN p.ps p.s t)) []) := right_sumL _ _ right_nil
    have hrl := right_len hr
    have hl := lenS_take p.ps (overN p.ps p.s t)
    have hs := g.small
    refine ⟨⟨o1, by simp only; omega, by simp only; omega, by simp; omega, fun x hx => o5 x (List.mem_of_mem_take hx)⟩, hr, g.kinds, fun h0 => ?_, fun h0 => ?_, fun h0 => ?_, by simp only; omega, mem_take g _, fun _ => ⟨rfl, rfl, ?_, by simp; omega⟩⟩
    · simp only at h0; rw [h0] at h; exact absurd h.1 (by decide)
    · simp only at h0; rw [h0] at h; exact absurd h.1 (by decide)
    · simp only at h0; rw [h0] at h; exact absurd h.1 (by decide)
    · simp [e3, h.2]
  · exact ⟨by simp [Pln.Ok], right_nil, by simp, by simp, by simp, by simp, by simp [lenS], by simp, by simp⟩

theorem good_steps {p : Pln} (g : Fine p) (h : p.k = 3 ∨ p.k = 5) : rightB p = true := by
  obtain ⟨e1, e2, e3, e4⟩ := g.steps h
  have hs := g.small
  have hne : p.tot ≠ [] := by rw [e2]; exact sum0_ne g.pers e4 e3
  have h4 := perOk_ok p.ps p.s 0 [] (by omega) g.pers (by omega) (fun d _ => by simp [amt])
  unfold rightB
  rw [if_neg (by rcases h with h | h <;> rw [h] <;> decide), if_neg (by rintro (h | h); exact h ⟨hne, g.tot⟩; omega), if_neg (by rcases h with h | h <;> rw [h] <;> decide), if_neg (by rcases h with h | h <;> rw [h] <;> decide), if_neg (by rcases h with h | h <;> rw [h] <;> decide), if_pos h]
  simp [perB, h4, e4, e1, ← e2]
theorem cut_right {p : Pln} (g : Fine p) (t : Nat) : rightB (cutL p t) = true := by
  by_cases h : (p.k = 3 ∨ p.k = 5) ∧ overN p.ps p.s t ≠ 0
  · refine good_steps (cut_good g t) ?_
    unfold cutL
    rw [if_pos h]
    exact h.1
  · unfold cutL
    rw [if_neg h]
    decide
theorem cut_free {p : Pln} (g : Fine p) (t : Nat) (h : p.k = 3 ∨ p.k = 5) : (cutL p t).tot = vestL p t := by
  unfold cutL vestL
  rw [if_pos h]
  by_cases h0 : overN p.ps p.s t = 0
  · rw [if_neg (by rintro ⟨_, h1⟩; exact h1 h0), h0]; rfl
  · rw [if_pos ⟨h, h0⟩]
theorem cut_locked {p : Pln} (g : Fine p) {t u : Nat} (ht : t ≤ u) : cRest (cutL p t).tot (vestL (cutL p t) u) = [] := by
  have hg := cut_good g t
  rw [vest_end hg ?_ ?_, rest_self]
  · unfold cutL
    split
    · rename_i h; rcases h.1 with h | h <;> simp only [h] <;> decide
    · decide
  · unfold cutL
    split
    · rename_i h
      have := lenS_over p.ps p.s t (.inr h.2)
      simp only; omega
    · simp

end Go.Vm

/-
  Are two plans alike, by the document..
-/
namespace Go.Proofs.Ytdbaddholggkbaa
set_option linter.unnecessarySimpa false
set_option maxRecDepth 100000
open Go Go.Vm
set_option linter.unusedSimpArgs false
set_option linter.unusedVariables false

attribute [local simp] evalL wantedA isCall opA evalA evalAll evalsA evalOpt ofValue ofCell plain binA_eql_pn binA_neq_pn binA_gtr binA_lss binA_geq binA_leq binA_add binA_sub binA_eql binA_neq binA_orI binA_andI binA_shl binA_shr binA_mul binA_quo binA_rem binA_agg_eql binA_agg_neq convA_int unA_not fieldAddrA loadA partA pickA_true pickA_false pickA_bb lenA builtinA storeA splice AV.cells AV.isCell sliceA boundA intA callOf indexAddrA newObjA buildA fillA zeroA ofCells buildSliceA indexA fieldA numA_len4 numA_take4 numA_drop4 set_appN get_appN take_appN List.getElem?_cons_zero List.getElem?_cons_succ makeA zeros64

set_option maxHeartbeats 1600000 in
attribute [local simp] undefA List.getElem?_cons_zero List.getElem?_cons_succ plnC perC persC_noObj in
theorem rplsame_ok {σ : St} {a b : Pln} (ha : a.Ok) (hb : b.Ok) :
    CallsA Try.prog 31 [.agg (plnC a), .agg (plnC b)] σ (fun av σ' => av = .v (.bool (decide (a = b))) ∧ σ = σ') := by
  refine callsA_gcS ?_ rfl
  obtain ⟨D, hD⟩ : ∃ D, D = decide (a = b) := ⟨_, rfl⟩
  rw [← hD]
  obtain ⟨ak, a1, a2, a3, a4⟩ := a
  obtain ⟨bk, b1, b2, b3, b4⟩ := b
  obtain ⟨ha1, ha2, ha3, ha4, ha5⟩ := ha
  obtain ⟨hb1, hb2, hb3, hb4, hb5⟩ := hb
  simp only [Pln.mk.injEq] at *
  have hno : ¬ (ak = bk ∧ a1 = b1 ∧ a2 = b2 ∧ a3 = b3 ∧ a4 = b4) → D = false := fun h => by rw [hD]; exact decide_eq_false h
  have hyes : ak = bk → a1 = b1 → a2 = b2 → a3 = b3 → a4 = b4 → D = true := fun h1 h2 h3 h4 h5 => by rw [hD]; exact decide_eq_true ⟨h1, h2, h3, h4, h5⟩
  clear hD
  obtain ⟨B, hB⟩ : ∃ B, B = !(decide (ak = bk) && decide (a1 = b1) && decide (a2 = b2) && decide (a3 = b3) && decide (a4.length = b4.length)) := ⟨_, rfl⟩
  have F := True.intro
  refine callsA_body Try.func31 rfl rfl rfl ?_
  refine sq fun K1 hK1 => ?_
  refine rg' (h := fun J2 hJ2 => ?_)
  refine hJ2 _ _ ?_
  refine hK1 _ _ ?_
  refine sq fun K3 hK3 => ?_
  refine sqc (X := Unit) [2, 3, 4] (fun k ρ σ1 => (ρ 41 = .v (.bool B)) ∧ (σ1 = { σ with objs := σ.objs ++ [[.v (.int .u8 ak.toNat), .v (.int .u64 a1), .v (.int .u64 a2), .sl 5 (coinsC a3) a3.length .shut, .sl 2 (persC a4) a4.length .shut], [.v (.int .u8 bk.toNat), .v (.int .u64 b1), .v (.int .u64 b2), .sl 5 (coinsC b3) b3.length .shut, .sl 2 (persC b4) b4.length .shut]] })) ?cy4 ?cx4
  case cy4 =>
   rintro k ρCr1 σ1 hFCr1 ⟨h41, hσ⟩
   obtain rfl := hσ.symm
   have fCr1 := keepL hFCr1
   try simp [KeepL, F] at fCr1
   replace F := And.intro h41 F
   try replace F := And.intro fCr1 F
   refine cs (t := B) (fun c41 => ?_) (fun c41 => ?_)
   · try exact nope c41
     all_goals have c41p := c41
     all_goals try simp [F] at c41p
     all_goals
      replace F := And.intro c41 F
      try replace F := And.intro c41p F
      have h0 : D = false := hno (fun ⟨e1, e2, e3, e4, e5⟩ => by rw [hB, e1, e2, e3, e4, e5] at c41; simp at c41)
      replace F := And.intro h0 F
      refine sq fun K5 hK5 => ?_
      refine rg' (h := fun J6 hJ6 => ?_)
      refine hJ6 _ _ ?_
      refine hK5 _ _ ?_
      refine run_ret ?_
      try simp only [Then, InBlock, NoGoto]
      refine answer_tmp rfl (.inr rfl) ?_
      exact gcr
   try exact nope c41
   all_goals have c41p := c41
   all_goals try simp [F] at c41p
   all_goals
    replace F := And.intro c41 F
    try replace F := And.intro c41p F
    obtain ⟨e1, e2, e3, e4, e5⟩ : ak = bk ∧ a1 = b1 ∧ a2 = b2 ∧ a3 = b3 ∧ a4.length = b4.length := by rw [hB] at c41; simp at c41; obtain ⟨⟨⟨⟨h1, h2⟩, h3⟩, h4⟩, h5⟩ := c41; exact ⟨h1, h2, h3, h4, h5⟩
    refine run_skip ?_
    refine hK3 _ _ ?_
    refine sq fun K7 hK7 => ?_
    refine sq fun K8 hK8 => ?_
    refine rg' (h := fun J9 hJ9 => ?_)
    refine hJ9 _ _ ?_
    refine hK8 _ _ ?_
    refine run_block_k ?_
    refine run_loopF (X := Nat) [2, 3] (fun i ρ σ1 => (i ≤ a4.length) ∧ (a4.take i = b4.take i) ∧ (ρ 5 = .v (.int .i64 i)) ∧ (σ1 = { σ with objs := σ.objs ++ [[.v (.int .u8 ak.toNat), .v (.int .u64 a1), .v (.int .u64 a2), .sl 5 (coinsC a3) a3.length .shut, .sl 2 (persC a4) a4.length .shut], [.v (.int .u8 bk.toNat), .v (.int .u64 b1), .v (.int .u64 b2), .sl 5 (coinsC b3) b3.length .shut, .sl 2 (persC b4) b4.length .shut]] })) (fun i => a4.length - i) (0) ?st1 ?rd1
    case st1 =>
     refine ⟨lp, ?_, lp, ?_⟩
     · rfl
     · rfl
    case rd1 =>
     rintro i ρ1 σ1 hF1 ⟨hi, hE, h5, hσ⟩
     obtain rfl := hσ.symm
     have f1 := keepL hF1
     try simp [KeepL, F] at f1
     replace F := And.intro h5 F
     try replace F := And.intro f1 F
     refine sq fun K10 hK10 => ?_
     refine sq fun K11 hK11 => ?_
     refine rg' (h := fun J12 hJ12 => ?_)
     refine hJ12 _ _ ?_
     refine hK11 _ _ ?_
     refine cs (fun c46 => ?_) (fun c46 => ?_)
     · try exact nope c46
       all_goals have c46p := c46
       all_goals try simp [F] at c46p
       all_goals
        replace F := And.intro c46 F
        try replace F := And.intro c46p F
        refine run_skip ?_
        refine hK10 _ _ ?_
        refine sq fun K13 hK13 => ?_
        refine run_block_k ?_
        refine sq fun K14 hK14 => ?_
        have hlt : i < a4.length := by have h := c46; simp at h; omega
        have hlt2 : i < b4.length := by omega
        have hat := persC_at hlt
        have hat2 := persC_at hlt2
        have hb1 : i * 2 + 2 ≤ a4.length * 2 := by omega
        have hb2 : i * 2 + 2 ≤ b4.length * 2 := by omega
        have hx5 := ha5 _ (List.getElem_mem hlt)
        have hy5 := hb5 _ (List.getElem_mem hlt2)
        have htx : a4.take (i + 1) = a4.take i ++ [a4[i]] := (List.take_append_getElem hlt).symm
        have hty : b4.take (i + 1) = b4.take i ++ [b4[i]] := (List.take_append_getElem hlt2).symm
        have hxy : a4 = b4 → a4[i] = b4[i] := fun e => by subst e; rfl
        obtain ⟨x, hx⟩ : ∃ x, x = a4[i] := ⟨_, rfl⟩
        obtain ⟨y, hy⟩ : ∃ y, y = b4[i] := ⟨_, rfl⟩
        rw [← hx] at hat hx5 htx hxy
        rw [← hy] at hat2 hy5 hty hxy
        obtain ⟨xl, xc⟩ := x
        obtain ⟨yl, yc⟩ := y
        simp only [Per.mk.injEq] at hx5 hy5 hxy
        replace F := And.intro hlt F
        replace F := And.intro hlt2 F
        replace F := And.intro hat F
        replace F := And.intro hat2 F
        replace F := And.intro hb1 F
        replace F := And.intro hb2 F
        refine run_draw (by kernel_rfl) fun J15 hJ15 => ?_
        refine rp2 0 (k := ?_)
        refine rp2 1 (k := ?_)
        refine rp2 2 (k := ?_)
        refine rp2 3 (k := ?_)
        refine rp2 4 (k := ?_)
        refine rp2 5 (k := ?_)
        refine rp2 6 (k := ?_)
        refine rp2 7 (k := ?_)
        refine rp2 8 (k := ?_)
        refine rp2 9 (k := ?_)
        refine rp2 10 (k := ?_)
        refine rp2 11 (k := ?_)
        refine rp2 12 (k := ?_)
        refine rp2 13 (k := ?_)
        refine gd 62 (fun g6_13 => ?_) (fun g6_13 => ?_)
        · try exact nope g6_13
          all_goals have g6_13p := g6_13
          all_goals try simp [F] at g6_13p
          all_goals
           replace F := And.intro g6_13 F
           try replace F := And.intro g6_13p F
           have hm : ¬ xl = yl := by have h := g6_13; simp at h; omega
           have h0 : D = false := hno (fun e => hm (hxy e.2.2.2.2).1)
           replace F := And.intro h0 F
           refine rp2 14 (k := ?_)
           refine rp2 15 (k := ?_)
           refine rp2 16 (k := ?_)
           refine rp2 17 (k := ?_)
           refine rp2 18 (k := ?_)
           refine rp2 19 (k := ?_)
           refine rp2 20 (k := ?_)
           refine rp2 21 (k := ?_)
           refine rp2 22 (k := ?_)
           refine rp2 23 (k := ?_)
           refine rp2 24 (k := ?_)
           refine rp2 25 (k := ?_)
           refine dop 26 rfl ?_
           repeat (first | simp [F] | simp (disch := omega) only [wC, if_pos, if_neg])
           refine rp2 27 (k := ?_)
           refine rp2 28 (k := ?_)
           refine dd ?_
           refine hJ15 _ _ ?_
           refine hK14 _ _ ?_
           refine ct ?_
           refine sq fun K16 hK16 => ?_
           refine rg' (h := fun J17 hJ17 => ?_)
           refine hJ17 _ _ ?_
           refine hK16 _ _ ?_
           refine run_ret ?_
           try simp only [Then, InBlock, NoGoto]
           refine answer_tmp rfl (.inr rfl) ?_
           exact gcr
        try exact nope g6_13
        all_goals have g6_13p := g6_13
        all_goals try simp [F] at g6_13p
        all_goals
         replace F := And.intro g6_13 F
         try replace F := And.intro g6_13p F
         have hm : xl = yl := by have h := g6_13; simp at h; omega
         refine rp2 14 (k := ?_)
         refine rp2 15 (k := ?_)
         refine rp2 16 (k := ?_)
         refine rp2 17 (k := ?_)
         refine rp2 18 (k := ?_)
         refine rp2 19 (k := ?_)
         refine rp2 20 (k := ?_)
         refine rp2 21 (k := ?_)
         refine rp2 22 (k := ?_)
         refine rp2 23 (k := ?_)
         refine rp2 24 (k := ?_)
         refine rp2 25 (k := ?_)
         refine dc 26 rfl (c := rsame_ok hx5.2 hy5.2) (k := ?_)
         rintro _ _ ⟨rfl, rfl⟩
         refine ⟨by first | exact fun _ _ h => h | (refine later_list [24, 23, 22, 21, 20, 18, 17, 16, 15, 14, 12, 11, 10, 9, 8, 7, 6, 5, 4, 3, 2, 1, 0] (by kernel_rfl) (List.forall_mem_cons.2 ⟨fun _ => fact2 rfl rfl ?_, List.forall_mem_cons.2 ⟨fun _ => fact2 rfl rfl ?_, List.forall_mem_cons.2 ⟨fun _ => fact2 rfl rfl ?_, List.forall_mem_cons.2 ⟨fun _ => fact2 rfl rfl ?_, List.forall_mem_cons.2 ⟨fun _ => fact2 rfl rfl ?_, List.forall_mem_cons.2 ⟨fun _ => fact2 rfl rfl ?_, List.forall_mem_cons.2 ⟨fun _ => fact2 rfl rfl ?_, List.forall_mem_cons.2 ⟨fun _ => fact2 rfl rfl ?_, List.forall_mem_cons.2 ⟨fun _ => fact2 rfl rfl ?_, List.forall_mem_cons.2 ⟨fun _ => fact2 rfl rfl ?_, List.forall_mem_cons.2 ⟨fun _ => fact2 rfl rfl ?_, List.forall_mem_cons.2 ⟨fun _ => fact2 rfl rfl ?_, List.forall_mem_cons.2 ⟨fun _ => fact2 rfl rfl ?_, List.forall_mem_cons.2 ⟨fun _ => fact2 rfl rfl ?_, List.forall_mem_cons.2 ⟨fun _ => fact2 rfl rfl ?_, List.forall_mem_cons.2 ⟨fun _ => fact2 rfl rfl ?_, List.forall_mem_cons.2 ⟨fun _ => fact2 rfl rfl ?_, List.forall_mem_cons.2 ⟨fun _ => fact2 rfl rfl ?_, List.forall_mem_cons.2 ⟨fun _ => fact2 rfl rfl ?_, List.forall_mem_cons.2 ⟨fun _ => fact2 rfl rfl ?_, List.forall_mem_cons.2 ⟨fun _ => fact2 rfl rfl ?_, List.forall_mem_cons.2 ⟨fun _ => fact2 rfl rfl ?_, List.forall_mem_cons.2 ⟨fun _ => fact2 rfl rfl ?_, fun _ h => absurd h List.not_mem_nil⟩⟩⟩⟩⟩⟩⟩⟩⟩⟩⟩⟩⟩⟩⟩⟩⟩⟩⟩⟩⟩⟩⟩) <;> constructor <;> first | rfl | (simp [F]; done)), ?_⟩
         repeat (first | simp [F] | simp (disch := omega) only [wC, if_pos, if_neg])
         refine rp2 27 (k := ?_)
         refine rp2 28 (k := ?_)
         refine dd ?_
         refine hJ15 _ _ ?_
         refine hK14 _ _ ?_
         refine cs (fun c77 => ?_) (fun c77 => ?_)
         · try exact nope c77
           all_goals have c77p := c77
           all_goals try simp [F] at c77p
           all_goals
            replace F := And.intro c77 F
            try replace F := And.intro c77p F
            have h0 : D = false := hno (fun e => by have h := c77; simp at h; exact h (hxy e.2.2.2.2).2)
            replace F := And.intro h0 F
            refine sq fun K18 hK18 => ?_
            refine rg' (h := fun J19 hJ19 => ?_)
            refine hJ19 _ _ ?_
            refine hK18 _ _ ?_
            refine run_ret ?_
            try simp only [Then, InBlock, NoGoto]
            refine answer_tmp rfl (.inr rfl) ?_
            exact gcr
         try exact nope c77
         all_goals have c77p := c77
         all_goals try simp [F] at c77p
         all_goals
          replace F := And.intro c77 F
          try replace F := And.intro c77p F
          have hc : xc = yc := by have h := c77; simp at h; exact h
          refine run_skip ?_
          refine hK13 _ _ ?_
          refine rg' (h := fun J20 hJ20 => ?_)
          refine hJ20 _ _ ?_
          refine ⟨(i + 1), ⟨kp, lp, ?_, lp, lp⟩, lp⟩
          · rw [htx, hty, hE, hm, hc]
     try exact nope c46
     all_goals have c46p := c46
     all_goals try simp [F] at c46p
     all_goals
      replace F := And.intro c46 F
      try replace F := And.intro c46p F
      have h0 : D = true := hyes e1 e2 e3 e4 (by rw [List.take_of_length_le (by have h := c46; simp at h; omega), List.take_of_length_le (by have h := c46; simp at h; omega)] at hE; exact hE)
      replace F := And.intro h0 F
      refine run_exit ?_
      refine hK7 _ _ ?_
      refine sq fun K21 hK21 => ?_
      refine rg' (h := fun J22 hJ22 => ?_)
      refine hJ22 _ _ ?_
      refine hK21 _ _ ?_
      refine run_ret ?_
      try simp only [Then, InBlock, NoGoto]
      refine answer_tmp rfl (.inr rfl) ?_
      exact gcr
  case cx4 =>
   intro K4 hK4
   refine rg' (h := fun J23 hJ23 => ?_)
   refine gs 11 (fun g1_5 => ?_) (fun g1_5 => ?_)
   · try exact nope g1_5
     all_goals have g1_5p := g1_5
     all_goals try simp [F] at g1_5p
     all_goals
      replace F := And.intro g1_5 F
      try replace F := And.intro g1_5p F
      have hl1 : ¬ ak = bk := by have h := g1_5; simp at h; intro e; subst e; exact h rfl
      replace F := And.intro hl1 F
      refine no2 (k := ?_)
      refine no2 (k := ?_)
      refine no2 (k := ?_)
      refine no2 (k := ?_)
      refine no2 (k := ?_)
      refine no2 (k := ?_)
      refine no2 (k := ?_)
      refine no2 (k := ?_)
      refine no2 (k := ?_)
      refine no2 (k := ?_)
      refine no2 (k := ?_)
      refine no2 (k := ?_)
      refine no2 (k := ?_)
      refine no2 (k := ?_)
      refine no2 (k := ?_)
      refine no2 (k := ?_)
      refine no2 (k := ?_)
      refine no2 (k := ?_)
      refine no2 (k := ?_)
      refine no2 (k := ?_)
      refine no2 (k := ?_)
      refine no2 (k := ?_)
      refine no2 (k := ?_)
      refine hJ23 _ _ ?_
      refine hK4 (()) _ _ ⟨kp, ?_, lp⟩
      · rw [hB]
        simp [F]
        try (rw [Bool.eq_iff_iff]; simp; omega)
   try exact nope g1_5
   all_goals have g1_5p := g1_5
   all_goals try simp [F] at g1_5p
   all_goals
    replace F := And.intro g1_5 F
    try replace F := And.intro g1_5p F
    have hl1 : ak = bk := by have h := g1_5; simp at h; exact UInt8.toNat_inj.1 (by omega)
    replace F := And.intro hl1 F
    refine go2 (k := ?_)
    refine go2 (k := ?_)
    refine go2 (k := ?_)
    refine go2 (k := ?_)
    refine go2 (k := ?_)
    refine gs 18 (fun g1_12 => ?_) (fun g1_12 => ?_)
    · try exact nope g1_12
      all_goals have g1_12p := g1_12
      all_goals try simp [F] at g1_12p
      all_goals
       replace F := And.intro g1_12 F
       try replace F := And.intro g1_12p F
       have hl2 : ¬ a1 = b1 := by have h := g1_12; simp at h; omega
       replace F := And.intro hl2 F
       refine no2 (k := ?_)
       refine no2 (k := ?_)
       refine no2 (k := ?_)
       refine no2 (k := ?_)
       refine no2 (k := ?_)
       refine no2 (k := ?_)
       refine no2 (k := ?_)
       refine no2 (k := ?_)
       refine no2 (k := ?_)
       refine no2 (k := ?_)
       refine no2 (k := ?_)
       refine no2 (k := ?_)
       refine no2 (k := ?_)
       refine no2 (k := ?_)
       refine no2 (k := ?_)
       refine no2 (k := ?_)
       refine no2 (k := ?_)
       refine no2 (k := ?_)
       refine hJ23 _ _ ?_
       refine hK4 (()) _ _ ⟨kp, ?_, lp⟩
       · rw [hB]
         simp [F]
         try (rw [Bool.eq_iff_iff]; simp; omega)
    try exact nope g1_12
    all_goals have g1_12p := g1_12
    all_goals try simp [F] at g1_12p
    all_goals
     replace F := And.intro g1_12 F
     try replace F := And.intro g1_12p F
     have hl2 : a1 = b1 := by have h := g1_12; simp at h; omega
     replace F := And.intro hl2 F
     refine go2 (k := ?_)
     refine go2 (k := ?_)
     refine go2 (k := ?_)
     refine go2 (k := ?_)
     refine go2 (k := ?_)
     refine gs 25 (fun g1_19 => ?_) (fun g1_19 => ?_)
     · try exact nope g1_19
       all_goals have g1_19p := g1_19
       all_goals try simp [F] at g1_19p
       all_goals
        replace F := And.intro g1_19 F
        try replace F := And.intro g1_19p F
        have hl3 : ¬ a2 = b2 := by have h := g1_19; simp at h; omega
        replace F := And.intro hl3 F
        refine no2 (k := ?_)
        refine no2 (k := ?_)
        refine no2 (k := ?_)
        refine no2 (k := ?_)
        refine no2 (k := ?_)
        refine no2 (k := ?_)
        refine no2 (k := ?_)
        refine no2 (k := ?_)
        refine no2 (k := ?_)
        refine no2 (k := ?_)
        refine no2 (k := ?_)
        refine no2 (k := ?_)
        refine no2 (k := ?_)
        refine hJ23 _ _ ?_
        refine hK4 (()) _ _ ⟨kp, ?_, lp⟩
        · rw [hB]
          simp [F]
          try (rw [Bool.eq_iff_iff]; simp; omega)
     try exact nope g1_19
     all_goals have g1_19p := g1_19
     all_goals try simp [F] at g1_19p
     all_goals
      replace F := And.intro g1_19 F
      try replace F := And.intro g1_19p F
      have hl3 : a2 = b2 := by have h := g1_19; simp at h; omega
      replace F := And.intro hl3 F
      refine go2 (k := ?_)
      refine go2 (k := ?_)
      refine go2 (k := ?_)
      refine go2 (k := ?_)
      refine ca (c := rsame_ok ha3 hb3) (k := ?_)
      rintro _ _ ⟨rfl, rfl⟩
      repeat (first | simp [F] | simp (disch := omega) only [wC, if_pos, if_neg])
      refine go2 (k := ?_)
      refine gs 33 (fun g1_27 => ?_) (fun g1_27 => ?_)
      · try exact nope g1_27
        all_goals have g1_27p := g1_27
        all_goals try simp [F] at g1_27p
        all_goals
         replace F := And.intro g1_27 F
         try replace F := And.intro g1_27p F
         refine no2 (k := ?_)
         refine no2 (k := ?_)
         refine no2 (k := ?_)
         refine no2 (k := ?_)
         refine no2 (k := ?_)
         refine no2 (k := ?_)
         refine no2 (k := ?_)
         refine hJ23 _ _ ?_
         refine hK4 (()) _ _ ⟨kp, ?_, lp⟩
         · rw [hB]
           simp [F]
           try (rw [Bool.eq_iff_iff]; simp; omega)
      try exact nope g1_27
      all_goals have g1_27p := g1_27
      all_goals try simp [F] at g1_27p
      all_goals
       replace F := And.intro g1_27 F
       try replace F := And.intro g1_27p F
       refine go2 (k := ?_)
       refine go2 (k := ?_)
       refine go2 (k := ?_)
       refine go2 (k := ?_)
       refine go2 (k := ?_)
       refine go2 (k := ?_)
       refine go2 (k := ?_)
       refine hJ23 _ _ ?_
       refine hK4 (()) _ _ ⟨kp, ?_, lp⟩
       · rw [hB]
         simp [F]
         try (rw [Bool.eq_iff_iff]; simp; omega)

end Go.Proofs.Ytdbaddholggkbaa

/-
  A plan without what is locked..
-/
namespace Go.Proofs.Ytdbaddholggkbaa
set_option linter.unnecessarySimpa false
set_option maxRecDepth 100000
open Go Go.Vm
set_option linter.unusedSimpArgs false
set_option linter.unusedVariables false

attribute [local simp] evalL wantedA isCall opA evalA evalAll evalsA evalOpt ofValue ofCell plain binA_eql_pn binA_neq_pn binA_gtr binA_lss binA_geq binA_leq binA_add binA_sub binA_eql binA_neq binA_orI binA_andI binA_shl binA_shr binA_mul binA_quo binA_rem binA_agg_eql binA_agg_neq convA_int unA_not fieldAddrA loadA partA pickA_true pickA_false pickA_bb lenA builtinA storeA splice AV.cells AV.isCell sliceA boundA intA callOf indexAddrA newObjA buildA fillA zeroA ofCells buildSliceA indexA fieldA numA_len4 numA_take4 numA_drop4 set_appN get_appN take_appN List.getElem?_cons_zero List.getElem?_cons_succ makeA zeros64

theorem cut_nil {k : UInt8} (h : k = 0) : WkL [.v (.int .u8 k.toNat), .v (.int .u64 0), .v (.int .u64 0), .sl 0 [] 0 .full, .sl 0 [] 0 .full] (plnC ⟨0, 0, 0, [], []⟩) := by
  subst h
  exact .cons (Wk.refl _) (.cons (Wk.refl _) (.cons (Wk.refl _) (.cons (Wk.nil _ _ _) (.cons (Wk.nil _ _ _) .nil))))

set_option maxHeartbeats 1600000 in
attribute [local simp] undefA List.getElem?_cons_zero List.getElem?_cons_succ plnC perC persC_noObj in
theorem pcut_ok {σ : St} {p : Pln} {t : Nat} (g : Fine p) (ht : t < 2 ^ 64) :
    CallsA Try.prog 30 [.agg (plnC p), .v (.int .u64 t)] σ (fun av σ' => av = .agg (plnC (cutL p t)) ∧ σ = σ') := by
  refine callsA_gcS ?_ (by simp [AV.under, underL, plnC, persC_under])
  obtain ⟨C, hC⟩ : ∃ C, C = cutL p t := ⟨_, rfl⟩
  rw [← hC]
  have hov := fun σ => pover_ok (σ := σ) (t := t) g.ok g.fit
  have hrt := g.rights
  have hst := g.steps
  have hsm := g.small
  have hkd := g.kinds
  obtain ⟨k1, k2, k3, k4, h5⟩ := g.ok
  have hon := overN_le p.ps p.s t
  obtain ⟨n, hn⟩ : ∃ n, n = overN p.ps p.s t := ⟨_, rfl⟩
  have hC0 : ¬ ((p.k = 3 ∨ p.k = 5) ∧ n ≠ 0) → C = ⟨0, 0, 0, [], []⟩ := fun h => by rw [hC, cutL, if_neg (by rw [← hn]; exact h)]
  obtain ⟨T, hT⟩ : ∃ T, T = p.ps.take n := ⟨_, rfl⟩
  have hC1 : ((p.k = 3 ∨ p.k = 5) ∧ n ≠ 0) → C = ⟨p.k, p.s, p.s + lenS T, sumL T [], T⟩ := fun h => by rw [hC, cutL, if_pos (by rw [← hn]; exact h), ← hn, ← hT]
  rw [← hn] at hon
  simp only [← hn, ← hT] at hov
  have hTl : T.length = n := by rw [hT]; simp; omega
  have hTS : lenS T ≤ lenS p.ps := by rw [hT]; exact lenS_take _ _
  have hTm : ∀ x ∈ T, x.l < 2 ^ 64 ∧ x.c.length ≤ 8 := fun x hx => by rw [hT] at hx; exact ⟨(h5 x (List.mem_of_mem_take hx)).1, right_len (hrt x (List.mem_of_mem_take hx))⟩
  have hsum : ∀ σ, CallsA Try.prog 63 [.sl 2 (persC T) n .shut] σ (fun av σ' => av = .sl 5 (coinsC (sumL T [])) (sumL T []).length .shut ∧ σ = σ') := fun σ => by
    have h := psum_ok (σ := σ) (l := T) (tl := .shut) (by omega) (fun x hx => by have := (hTm x hx).2; omega)
    rw [hTl] at h; exact h
  obtain ⟨S, hS⟩ : ∃ S, S = sumL T [] := ⟨_, rfl⟩
  rw [← hS] at hsum hC1
  have hn16 : p.k = 3 ∨ p.k = 5 → n ≤ 16 := fun h => by have := (hst h).2.2.2; omega
  clear g hC hrt hst hn hT hS h5
  obtain ⟨pk, ps, pe, pt, pp⟩ := p
  simp only at hC0 hC1 hn16 hsm hkd k1 k2 k3 k4 hTS
  have hkn : ∀ n : UInt8, pk = n ↔ (pk.toNat : Int) = (n.toNat : Int) := fun n => ⟨fun e => by rw [e], fun e => UInt8.toNat_inj.1 (Int.ofNat_inj.1 e)⟩
  have hdr : ∀ f : Nat → AV, List.drop 2 (List.map f (List.range 2)) = [] := fun _ => rfl
  have hdr5 : ∀ f : Nat → AV, List.drop 5 (List.map f (List.range 5)) = [] := fun _ => rfl
  obtain ⟨B, hB⟩ : ∃ B, B = (decide (pk = 3) || decide (pk = 5)) := ⟨_, rfl⟩
  have F := And.intro hdr (And.intro hdr5 (True.intro))
  refine callsA_body Try.func30 rfl rfl rfl ?_
  refine sq fun K1 hK1 => ?_
  refine rg' (h := fun J2 hJ2 => ?_)
  refine hJ2 _ _ ?_
  refine hK1 _ _ ?_
  refine sq fun K3 hK3 => ?_
  refine rg' (h := fun J4 hJ4 => ?_)
  refine hJ4 _ _ ?_
  refine hK3 _ _ ?_
  refine sq fun K5 hK5 => ?_
  refine sqc (X := Unit) [1, 2, 4, 5] (fun k ρ σ1 => (ρ 16 = .v (.bool B)) ∧ (σ1 = { σ with objs := σ.objs ++ [[.v (.int .u8 pk.toNat), .v (.int .u64 ps), .v (.int .u64 pe), .sl 5 (coinsC pt) pt.length .shut, .sl 2 (persC pp) pp.length .shut], [.v (.int .u8 0), .v (.int .u64 0), .v (.int .u64 0), .sl 0 [] 0 .full, .sl 0 [] 0 .full]] })) ?cy6 ?cx6
  case cy6 =>
   rintro k ρCr2 σ1 hFCr2 ⟨h16, hσ⟩
   obtain rfl := hσ.symm
   have fCr2 := keepL hFCr2
   try simp [KeepL, F] at fCr2
   replace F := And.intro h16 F
   try replace F := And.intro fCr2 F
   refine cs (t := B) (fun c16 => ?_) (fun c16 => ?_)
   · try exact nope c16
     all_goals have c16p := c16
     all_goals try simp [F] at c16p
     all_goals
      replace F := And.intro c16 F
      try replace F := And.intro c16p F
      have h35 : pk = 3 ∨ pk = 5 := by rw [hB] at c16; simpa using c16
      replace hn16 := hn16 h35
      refine rg' (h := fun J7 hJ7 => ?_)
      refine ca (c := hov _) (k := ?_)
      rintro _ _ ⟨rfl, rfl⟩
      repeat (first | simp [F] | simp (disch := omega) only [wC, if_pos, if_neg])
      refine hJ7 _ _ ?_
      refine hK5 _ _ ?_
      refine sq fun K8 hK8 => ?_
      refine sq fun K9 hK9 => ?_
      refine rg' (h := fun J10 hJ10 => ?_)
      refine hJ10 _ _ ?_
      refine hK9 _ _ ?_
      refine cs (fun c22 => ?_) (fun c22 => ?_)
      · try exact nope c22
        all_goals have c22p := c22
        all_goals try simp [F] at c22p
        all_goals
         replace F := And.intro c22 F
         try replace F := And.intro c22p F
         refine sq fun K11 hK11 => ?_
         refine rg' (h := fun J12 hJ12 => ?_)
         refine hJ12 _ _ ?_
         refine hK11 _ _ ?_
         refine run_ret ?_
         try simp only [Then, InBlock, NoGoto]
         refine acell (h := ?_)
         first | rw [hz] | rw [hC0 (fun h => h.2 (by simpa using c22))]
         show Wk _ _ ∧ _
         refine gcr (hA := ?_)
         exact WkL.agg (cut_nil rfl)
      try exact nope c22
      all_goals have c22p := c22
      all_goals try simp [F] at c22p
      all_goals
       replace F := And.intro c22 F
       try replace F := And.intro c22p F
       refine run_skip ?_
       refine hK8 _ _ ?_
       refine sq fun K13 hK13 => ?_
       refine run_draw (by kernel_rfl) fun J14 hJ14 => ?_
       refine rp2 0 (k := ?_)
       refine rp2 1 (k := ?_)
       refine rp2 2 (k := ?_)
       refine rp2 3 (k := ?_)
       refine rp2 4 (k := ?_)
       refine rp2 5 (k := ?_)
       refine rp2 6 (k := ?_)
       refine d2 7 9 ?_ ?_
       · refine ac 7 rfl (c := hsum _) (k := ?_)
         rintro _ _ ⟨rfl, rfl⟩
         refine ⟨by first | exact fun _ _ h => h | (refine later_list [5, 4, 3, 2, 1, 0] (by kernel_rfl) (List.forall_mem_cons.2 ⟨fun _ => fact2 rfl rfl ?_, List.forall_mem_cons.2 ⟨fun _ => fact2 rfl rfl ?_, List.forall_mem_cons.2 ⟨fun _ => fact2 rfl rfl ?_, List.forall_mem_cons.2 ⟨fun _ => fact2 rfl rfl ?_, List.forall_mem_cons.2 ⟨fun _ => fact2 rfl rfl ?_, List.forall_mem_cons.2 ⟨fun _ => fact2 rfl rfl ?_, fun _ h => absurd h List.not_mem_nil⟩⟩⟩⟩⟩⟩) <;> constructor <;> first | rfl | (simp [F]; done)), ?_⟩
         repeat (first | simp [F] | simp (disch := omega) only [wC, if_pos, if_neg])
         refine rp2 8 (k := ?_)
         refine dop 9 rfl ?_
         repeat (first | simp [F] | simp (disch := omega) only [wC, if_pos, if_neg])
         refine ⟨by first | exact later_more _ (by kernel_rfl) | exact later_more2 (by kernel_rfl) rfl, ?_⟩
         refine dop 10 rfl ?_
         repeat (first | simp [F] | simp (disch := omega) only [wC, if_pos, if_neg])
         refine ⟨ln, ?_⟩
         refine dd ?_
         refine hJ14 _ _ ?_
         refine hK13 _ _ ?_
         refine sq fun K15 hK15 => ?_
         refine sq fun K16 hK16 => ?_
         refine rg' (h := fun J17 hJ17 => ?_)
         refine hJ17 _ _ ?_
         refine hK16 _ _ ?_
         refine run_block_k ?_
         refine run_loopG (X := Nat) [4, 6, 33, 34] (fun i ρ σ1 => (i ≤ n) ∧ (ρ 35 = .v (.int .i64 i)) ∧ (σ1 = { σ with objs := σ.objs ++ [[.v (.int .u8 pk.toNat), .v (.int .u64 ps), .v (.int .u64 pe), .sl 5 (coinsC pt) pt.length .shut, .sl 2 (persC pp) pp.length .shut], [.v (.int .u8 0), .v (.int .u64 0), .v (.int .u64 0), .sl 0 [] 0 .full, .sl 0 [] 0 .full], [.v (.int .u8 pk.toNat), .v (.int .u64 ps), .v (.int .u64 (ps + lenS (T.take i) : Nat)), .sl 5 (coinsC S) S.length .shut, grA σ.toks.length 2 (posB i) (persC (T.take i)) i]], toks := σ.toks ++ grT (posB i) i })) (fun i => n - i) (0) ?st1 ?rd1
         case st1 =>
          refine ⟨lp, lp, ?_⟩
          · simp [F, lenS]
         case rd1 =>
          rintro i ρ1 σ1 hF1 ⟨hi, h35i, hσ⟩
          obtain rfl := hσ.symm
          have f1 := keepL hF1
          try simp [KeepL, F] at f1
          replace F := And.intro h35i F
          try replace F := And.intro f1 F
          refine sq fun K18 hK18 => ?_
          refine rg' (h := fun J19 hJ19 => ?_)
          refine hJ19 _ _ ?_
          refine hK18 _ _ ?_
          refine sq fun K20 hK20 => ?_
          refine cs (fun c36 => ?_) (fun c36 => ?_)
          · try exact nope c36
            all_goals have c36p := c36
            all_goals try simp [F] at c36p
            all_goals
             replace F := And.intro c36 F
             try replace F := And.intro c36p F
             refine run_skip ?_
             refine hK20 _ _ ?_
             refine sq fun K21 hK21 => ?_
             refine run_block_k ?_
             refine sq fun K22 hK22 => ?_
             have hlt : i < n := by have h := c36; simp at h; omega
             have hltT : i < T.length := by omega
             have hat := persC_at hltT
             have hb1 : i * 2 + 2 ≤ T.length * 2 := by omega
             have hxm := hTm _ (List.getElem_mem hltT)
             have htk : T.take (i + 1) = T.take i ++ [T[i]] := (List.take_append_getElem hltT).symm
             obtain ⟨x, hx⟩ : ∃ x, x = T[i] := ⟨_, rfl⟩
             rw [← hx] at hat hxm htk
             obtain ⟨xl, xc⟩ := x
             simp only at hxm
             have hls := lenS_take T (i + 1)
             have hlt2 : lenS (T.take (i + 1)) = lenS (T.take i) + xl := by rw [htk, lenS_append]; simp [lenS]
             obtain ⟨E, hE⟩ : ∃ E, E = lenS (T.take i) := ⟨_, rfl⟩
             rw [← hE] at hlt2
             have hw : IntKind.u64.wrap (((ps + E : Nat) : Int) + xl) = ((ps + (E + xl) : Nat) : Int) := by rw [wrap_u64c (by omega)]; omega
             rw [← hE]
             have hP : persC (T.take (i + 1)) = persC (T.take i) ++ [.v (.int .u64 xl), .sl 5 (coinsC xc) xc.length .shut] := by rw [htk, ← persC_append]; rfl
             replace F := And.intro hP.symm (And.intro hlt2 F)
             have hb0 : posB i = false → persC (T.take i) = [] ∧ i = 0 := fun h => by have h0 := posB_no h; subst h0; simp
             have happ : ∀ objs, appendA Try.prog 24 (grA σ.toks.length 2 (posB i) (persC (T.take i)) i) (.sl 2 [.v (.int .u64 xl), .sl 5 (coinsC xc) xc.length .shut] 1 .full) ⟨objs, σ.toks ++ grT (posB i) i, σ.gl, σ.rows⟩ = some (grA σ.toks.length 2 true (persC (T.take i) ++ [.v (.int .u64 xl), .sl 5 (coinsC xc) xc.length .shut]) (i + 1), ⟨objs, σ.toks ++ grT true (i + 1), σ.gl, σ.rows⟩) := fun objs => append_gr elemT_24 ti_88 (by decide) rfl hb0 (.inl rfl) (by simp [roomA]; omega) (by simp [maxLen]; omega)
             replace F := And.intro hlt F
             replace F := And.intro hltT F
             replace F := And.intro hTl F
             replace F := And.intro hat F
             replace F := And.intro hb1 F
             refine rg' (h := fun J23 hJ23 => ?_)
             refine hJ23 _ _ ?_
             refine hK22 _ _ ?_
             refine sq fun K24 hK24 => ?_
             replace F := And.intro hw F
             refine rg' (h := fun J25 hJ25 => ?_)
             refine hJ25 _ _ ?_
             refine hK24 _ _ ?_
             replace F := And.intro happ F
             refine run_draw (by kernel_rfl) fun J26 hJ26 => ?_
             refine rp2 0 (k := ?_)
             refine rp2 1 (k := ?_)
             refine rp2 2 (k := ?_)
             refine rp2 3 (k := ?_)
             refine rp2 4 (k := ?_)
             refine rp2 5 (k := ?_)
             refine dc 6 rfl (c := cclone_ok (l := xc) (by omega)) (k := ?_)
             rintro _ _ ⟨rfl, rfl⟩
             refine ⟨by first | exact fun _ _ h => h | (refine later_list [4, 3, 2, 1, 0] (by kernel_rfl) (List.forall_mem_cons.2 ⟨fun _ => fact2 rfl rfl ?_, List.forall_mem_cons.2 ⟨fun _ => fact2 rfl rfl ?_, List.forall_mem_cons.2 ⟨fun _ => fact2 rfl rfl ?_, List.forall_mem_cons.2 ⟨fun _ => fact2 rfl rfl ?_, List.forall_mem_cons.2 ⟨fun _ => fact2 rfl rfl ?_, fun _ h => absurd h List.not_mem_nil⟩⟩⟩⟩⟩) <;> constructor <;> first | rfl | (simp [F]; done)), ?_⟩
             repeat (first | simp [F] | simp (disch := omega) only [wC, if_pos, if_neg])
             refine rp2 7 (k := ?_)
             refine rp2 8 (k := ?_)
             refine dop 9 rfl ?_
             repeat (first | simp [F] | simp (disch := omega) only [wC, if_pos, if_neg])
             refine ⟨by first | exact fun _ _ h => h | (refine later_list [7, 4, 3, 2, 0] (by kernel_rfl) (List.forall_mem_cons.2 ⟨fun _ => fact2 rfl rfl ?_, List.forall_mem_cons.2 ⟨fun _ => fact2 rfl rfl ?_, List.forall_mem_cons.2 ⟨fun _ => fact2 rfl rfl ?_, List.forall_mem_cons.2 ⟨fun _ => fact2 rfl rfl ?_, List.forall_mem_cons.2 ⟨fun _ => fact2 rfl rfl ?_, fun _ h => absurd h List.not_mem_nil⟩⟩⟩⟩⟩) <;> constructor <;> first | rfl | (simp [F]; done)), ?_⟩
             refine rp2 10 (k := ?_)
             refine dop 11 rfl ?_
             repeat (first | simp [F] | simp (disch := omega) only [wC, if_pos, if_neg])
             refine ⟨ln, ?_⟩
             refine dd ?_
             refine hJ26 _ _ ?_
             refine hK21 _ _ ?_
             refine rg' (h := fun J27 hJ27 => ?_)
             refine hJ27 _ _ ?_
             refine ⟨gk, (i + 1), ⟨kpG, lpG, lpG, lpG⟩, lpG⟩
          try exact nope c36
          all_goals have c36p := c36
          all_goals try simp [F] at c36p
          all_goals
           replace F := And.intro c36 F
           try replace F := And.intro c36p F
           have hii : i = n := by have h := c36; simp at h; omega
           have hTT : T.take i = T := List.take_of_length_le (by omega)
           have hn0 : n ≠ 0 := by have h := c22; simp at h; omega
           have hpb : posB i = true := by simp [posB]; omega
           replace F := And.intro hpb (And.intro hTT F)
           refine run_exit ?_
           refine hK15 _ _ ?_
           refine sq fun K28 hK28 => ?_
           refine rg' (h := fun J29 hJ29 => ?_)
           refine hJ29 _ _ ?_
           refine hK28 _ _ ?_
           refine run_ret ?_
           try simp only [Then, InBlock, NoGoto]
           refine acell (h := ?_)
           rw [hC1 ⟨h35, hn0⟩]
           show Wk _ _ ∧ _
           refine gcr (hA := ?_)
           simp [plnC, hTl, hii]
           exact WkL.agg (.cons (Wk.refl _) (.cons (Wk.refl _) (.cons (Wk.refl _) (.cons (Wk.refl _) (.cons (Wk.shut _ _ _ _) .nil)))))
       · refine ao 9 rfl ?_
         repeat (first | simp [F] | simp (disch := omega) only [wC, if_pos, if_neg])
         refine ⟨by first | exact later_more _ (by kernel_rfl) | exact later_more2 (by kernel_rfl) rfl, ?_⟩
         refine dc 7 rfl (c := hsum _) (k := ?_)
         rintro _ _ ⟨rfl, rfl⟩
         refine ⟨by first | exact fun _ _ h => h | (refine later_list [5, 4, 3, 2, 1, 0] (by kernel_rfl) (List.forall_mem_cons.2 ⟨fun _ => fact2 rfl rfl ?_, List.forall_mem_cons.2 ⟨fun _ => fact2 rfl rfl ?_, List.forall_mem_cons.2 ⟨fun _ => fact2 rfl rfl ?_, List.forall_mem_cons.2 ⟨fun _ => fact2 rfl rfl ?_, List.forall_mem_cons.2 ⟨fun _ => fact2 rfl rfl ?_, List.forall_mem_cons.2 ⟨fun _ => fact2 rfl rfl ?_, fun _ h => absurd h List.not_mem_nil⟩⟩⟩⟩⟩⟩) <;> constructor <;> first | rfl | (simp [F]; done)), ?_⟩
         repeat (first | simp [F] | simp (disch := omega) only [wC, if_pos, if_neg])
         refine rp2 8 (k := ?_)
         refine dop 10 rfl ?_
         repeat (first | simp [F] | simp (disch := omega) only [wC, if_pos, if_neg])
         refine ⟨ln, ?_⟩
         refine dd ?_
         refine hJ14 _ _ ?_
         refine hK13 _ _ ?_
         refine sq fun K30 hK30 => ?_
         refine sq fun K31 hK31 => ?_
         refine rg' (h := fun J32 hJ32 => ?_)
         refine hJ32 _ _ ?_
         refine hK31 _ _ ?_
         refine run_block_k ?_
         refine run_loopG (X := Nat) [4, 6, 33, 34] (fun i ρ σ1 => (i ≤ n) ∧ (ρ 35 = .v (.int .i64 i)) ∧ (σ1 = { σ with objs := σ.objs ++ [[.v (.int .u8 pk.toNat), .v (.int .u64 ps), .v (.int .u64 pe), .sl 5 (coinsC pt) pt.length .shut, .sl 2 (persC pp) pp.length .shut], [.v (.int .u8 0), .v (.int .u64 0), .v (.int .u64 0), .sl 0 [] 0 .full, .sl 0 [] 0 .full], [.v (.int .u8 pk.toNat), .v (.int .u64 ps), .v (.int .u64 (ps + lenS (T.take i) : Nat)), .sl 5 (coinsC S) S.length .shut, grA σ.toks.length 2 (posB i) (persC (T.take i)) i]], toks := σ.toks ++ grT (posB i) i })) (fun i => n - i) (0) ?st1 ?rd1
         case st1 =>
          refine ⟨lp, lp, ?_⟩
          · simp [F, lenS]
         case rd1 =>
          rintro i ρ1 σ1 hF1 ⟨hi, h35i, hσ⟩
          obtain rfl := hσ.symm
          have f1 := keepL hF1
          try simp [KeepL, F] at f1
          replace F := And.intro h35i F
          try replace F := And.intro f1 F
          refine sq fun K33 hK33 => ?_
          refine rg' (h := fun J34 hJ34 => ?_)
          refine hJ34 _ _ ?_
          refine hK33 _ _ ?_
          refine sq fun K35 hK35 => ?_
          refine cs (fun c36 => ?_) (fun c36 => ?_)
          · try exact nope c36
            all_goals have c36p := c36
            all_goals try simp [F] at c36p
            all_goals
             replace F := And.intro c36 F
             try replace F := And.intro c36p F
             refine run_skip ?_
             refine hK35 _ _ ?_
             refine sq fun K36 hK36 => ?_
             refine run_block_k ?_
             refine sq fun K37 hK37 => ?_
             have hlt : i < n := by have h := c36; simp at h; omega
             have hltT : i < T.length := by omega
             have hat := persC_at hltT
             have hb1 : i * 2 + 2 ≤ T.length * 2 := by omega
             have hxm := hTm _ (List.getElem_mem hltT)
             have htk : T.take (i + 1) = T.take i ++ [T[i]] := (List.take_append_getElem hltT).symm
             obtain ⟨x, hx⟩ : ∃ x, x = T[i] := ⟨_, rfl⟩
             rw [← hx] at hat hxm htk
             obtain ⟨xl, xc⟩ := x
             simp only at hxm
             have hls := lenS_take T (i + 1)
             have hlt2 : lenS (T.take (i + 1)) = lenS (T.take i) + xl := by rw [htk, lenS_append]; simp [lenS]
             obtain ⟨E, hE⟩ : ∃ E, E = lenS (T.take i) := ⟨_, rfl⟩
             rw [← hE] at hlt2
             have hw : IntKind.u64.wrap (((ps + E : Nat) : Int) + xl) = ((ps + (E + xl) : Nat) : Int) := by rw [wrap_u64c (by omega)]; omega
             rw [← hE]
             have hP : persC (T.take (i + 1)) = persC (T.take i) ++ [.v (.int .u64 xl), .sl 5 (coinsC xc) xc.length .shut] := by rw [htk, ← persC_append]; rfl
             replace F := And.intro hP.symm (And.intro hlt2 F)
             have hb0 : posB i = false → persC (T.take i) = [] ∧ i = 0 := fun h => by have h0 := posB_no h; subst h0; simp
             have happ : ∀ objs, appendA Try.prog 24 (grA σ.toks.length 2 (posB i) (persC (T.take i)) i) (.sl 2 [.v (.int .u64 xl), .sl 5 (coinsC xc) xc.length .shut] 1 .full) ⟨objs, σ.toks ++ grT (posB i) i, σ.gl, σ.rows⟩ = some (grA σ.toks.length 2 true (persC (T.take i) ++ [.v (.int .u64 xl), .sl 5 (coinsC xc) xc.length .shut]) (i + 1), ⟨objs, σ.toks ++ grT true (i + 1), σ.gl, σ.rows⟩) := fun objs => append_gr elemT_24 ti_88 (by decide) rfl hb0 (.inl rfl) (by simp [roomA]; omega) (by simp [maxLen]; omega)
             replace F := And.intro hlt F
             replace F := And.intro hltT F
             replace F := And.intro hTl F
             replace F := And.intro hat F
             replace F := And.intro hb1 F
             refine rg' (h := fun J38 hJ38 => ?_)
             refine hJ38 _ _ ?_
             refine hK37 _ _ ?_
             refine sq fun K39 hK39 => ?_
             replace F := And.intro hw F
             refine rg' (h := fun J40 hJ40 => ?_)
             refine hJ40 _ _ ?_
             refine hK39 _ _ ?_
             replace F := And.intro happ F
             refine run_draw (by kernel_rfl) fun J41 hJ41 => ?_
             refine rp2 0 (k := ?_)
             refine rp2 1 (k := ?_)
             refine rp2 2 (k := ?_)
             refine rp2 3 (k := ?_)
             refine rp2 4 (k := ?_)
             refine rp2 5 (k := ?_)
             refine dc 6 rfl (c := cclone_ok (l := xc) (by omega)) (k := ?_)
             rintro _ _ ⟨rfl, rfl⟩
             refine ⟨by first | exact fun _ _ h => h | (refine later_list [4, 3, 2, 1, 0] (by kernel_rfl) (List.forall_mem_cons.2 ⟨fun _ => fact2 rfl rfl ?_, List.forall_mem_cons.2 ⟨fun _ => fact2 rfl rfl ?_, List.forall_mem_cons.2 ⟨fun _ => fact2 rfl rfl ?_, List.forall_mem_cons.2 ⟨fun _ => fact2 rfl rfl ?_, List.forall_mem_cons.2 ⟨fun _ => fact2 rfl rfl ?_, fun _ h => absurd h List.not_mem_nil⟩⟩⟩⟩⟩) <;> constructor <;> first | rfl | (simp [F]; done)), ?_⟩
             repeat (first | simp [F] | simp (disch := omega) only [wC, if_pos, if_neg])
             refine rp2 7 (k := ?_)
             refine rp2 8 (k := ?_)
             refine dop 9 rfl ?_
             repeat (first | simp [F] | simp (disch := omega) only [wC, if_pos, if_neg])
             refine ⟨by first | exact fun _ _ h => h | (refine later_list [7, 4, 3, 2, 0] (by kernel_rfl) (List.forall_mem_cons.2 ⟨fun _ => fact2 rfl rfl ?_, List.forall_mem_cons.2 ⟨fun _ => fact2 rfl rfl ?_, List.forall_mem_cons.2 ⟨fun _ => fact2 rfl rfl ?_, List.forall_mem_cons.2 ⟨fun _ => fact2 rfl rfl ?_, List.forall_mem_cons.2 ⟨fun _ => fact2 rfl rfl ?_, fun _ h => absurd h List.not_mem_nil⟩⟩⟩⟩⟩) <;> constructor <;> first | rfl | (simp [F]; done)), ?_⟩
             refine rp2 10 (k := ?_)
             refine dop 11 rfl ?_
             repeat (first | simp [F] | simp (disch := omega) only [wC, if_pos, if_neg])
             refine ⟨ln, ?_⟩
             refine dd ?_
             refine hJ41 _ _ ?_
             refine hK36 _ _ ?_
             refine rg' (h := fun J42 hJ42 => ?_)
             refine hJ42 _ _ ?_
             refine ⟨gk, (i + 1), ⟨kpG, lpG, lpG, lpG⟩, lpG⟩
          try exact nope c36
          all_goals have c36p := c36
          all_goals try simp [F] at c36p
          all_goals
           replace F := And.intro c36 F
           try replace F := And.intro c36p F
           have hii : i = n := by have h := c36; simp at h; omega
           have hTT : T.take i = T := List.take_of_length_le (by omega)
           have hn0 : n ≠ 0 := by have h := c22; simp at h; omega
           have hpb : posB i = true := by simp [posB]; omega
           replace F := And.intro hpb (And.intro hTT F)
           refine run_exit ?_
           refine hK30 _ _ ?_
           refine sq fun K43 hK43 => ?_
           refine rg' (h := fun J44 hJ44 => ?_)
           refine hJ44 _ _ ?_
           refine hK43 _ _ ?_
           refine run_ret ?_
           try simp only [Then, InBlock, NoGoto]
           refine acell (h := ?_)
           rw [hC1 ⟨h35, hn0⟩]
           show Wk _ _ ∧ _
           refine gcr (hA := ?_)
           simp [plnC, hTl, hii]
           exact WkL.agg (.cons (Wk.refl _) (.cons (Wk.refl _) (.cons (Wk.refl _) (.cons (Wk.refl _) (.cons (Wk.shut _ _ _ _) .nil)))))
   try exact nope c16
   all_goals have c16p := c16
   all_goals try simp [F] at c16p
   all_goals
    replace F := And.intro c16 F
    try replace F := And.intro c16p F
    have hz : C = ⟨0, 0, 0, [], []⟩ := hC0 (fun h => by rw [hB] at c16; simp at c16; rcases h.1 with h | h; exact c16.1 h; exact c16.2 h)
    refine run_skip ?_
    refine hK5 _ _ ?_
    refine sq fun K45 hK45 => ?_
    refine sq fun K46 hK46 => ?_
    refine rg' (h := fun J47 hJ47 => ?_)
    refine hJ47 _ _ ?_
    refine hK46 _ _ ?_
    refine cs (fun c22 => ?_) (fun c22 => ?_)
    · try exact nope c22
      all_goals have c22p := c22
      all_goals try simp [F] at c22p
      all_goals
       replace F := And.intro c22 F
       try replace F := And.intro c22p F
       refine sq fun K48 hK48 => ?_
       refine rg' (h := fun J49 hJ49 => ?_)
       refine hJ49 _ _ ?_
       refine hK48 _ _ ?_
       refine run_ret ?_
       try simp only [Then, InBlock, NoGoto]
       refine acell (h := ?_)
       first | rw [hz] | rw [hC0 (fun h => h.2 (by simpa using c22))]
       show Wk _ _ ∧ _
       refine gcr (hA := ?_)
       exact WkL.agg (cut_nil rfl)
    try exact nope c22
    all_goals have c22p := c22
    all_goals try simp [F] at c22p
    all_goals
     replace F := And.intro c22 F
     try replace F := And.intro c22p F
     refine run_skip ?_
     refine hK45 _ _ ?_
     refine sq fun K50 hK50 => ?_
     refine run_draw (by kernel_rfl) fun J51 hJ51 => ?_
     refine rp2 0 (k := ?_)
     refine rp2 1 (k := ?_)
     refine rp2 2 (k := ?_)
     refine rp2 3 (k := ?_)
     refine rp2 4 (k := ?_)
     refine rp2 5 (k := ?_)
     refine rp2 6 (k := ?_)
     refine d2 7 9 ?_ ?_
     · refine ac 7 rfl (c := hsum _) (k := ?_)
       rintro _ _ ⟨rfl, rfl⟩
       refine ⟨by first | exact fun _ _ h => h | (refine later_list [5, 4, 3, 2, 1, 0] (by kernel_rfl) (List.forall_mem_cons.2 ⟨fun _ => fact2 rfl rfl ?_, List.forall_mem_cons.2 ⟨fun _ => fact2 rfl rfl ?_, List.forall_mem_cons.2 ⟨fun _ => fact2 rfl rfl ?_, List.forall_mem_cons.2 ⟨fun _ => fact2 rfl rfl ?_, List.forall_mem_cons.2 ⟨fun _ => fact2 rfl rfl ?_, List.forall_mem_cons.2 ⟨fun _ => fact2 rfl rfl ?_, fun _ h => absurd h List.not_mem_nil⟩⟩⟩⟩⟩⟩) <;> constructor <;> first | rfl | (simp [F]; done)), ?_⟩
       repeat (first | simp [F] | simp (disch := omega) only [wC, if_pos, if_neg])
       refine rp2 8 (k := ?_)
       refine dop 9 rfl ?_
       repeat (first | simp [F] | simp (disch := omega) only [wC, if_pos, if_neg])
       refine ⟨by first | exact later_more _ (by kernel_rfl) | exact later_more2 (by kernel_rfl) rfl, ?_⟩
       refine dop 10 rfl ?_
       repeat (first | simp [F] | simp (disch := omega) only [wC, if_pos, if_neg])
       refine ⟨ln, ?_⟩
       refine dd ?_
       refine hJ51 _ _ ?_
       refine hK50 _ _ ?_
       refine sq fun K52 hK52 => ?_
       refine sq fun K53 hK53 => ?_
       refine rg' (h := fun J54 hJ54 => ?_)
       refine hJ54 _ _ ?_
       refine hK53 _ _ ?_
       refine run_block_k ?_
       refine run_loopG (X := Nat) [4, 6, 33, 34] (fun i ρ σ1 => (i ≤ n) ∧ (ρ 35 = .v (.int .i64 i)) ∧ (σ1 = { σ with objs := σ.objs ++ [[.v (.int .u8 pk.toNat), .v (.int .u64 ps), .v (.int .u64 pe), .sl 5 (coinsC pt) pt.length .shut, .sl 2 (persC pp) pp.length .shut], [.v (.int .u8 0), .v (.int .u64 0), .v (.int .u64 0), .sl 0 [] 0 .full, .sl 0 [] 0 .full], [.v (.int .u8 pk.toNat), .v (.int .u64 ps), .v (.int .u64 (ps + lenS (T.take i) : Nat)), .sl 5 (coinsC S) S.length .shut, grA σ.toks.length 2 (posB i) (persC (T.take i)) i]], toks := σ.toks ++ grT (posB i) i })) (fun i => n - i) (0) ?st1 ?rd1
       case st1 =>
        refine ⟨lp, lp, ?_⟩
        · simp [F, lenS]
       case rd1 =>
        rintro i ρ1 σ1 hF1 ⟨hi, h35i, hσ⟩
        obtain rfl := hσ.symm
        have f1 := keepL hF1
        try simp [KeepL, F] at f1
        replace F := And.intro h35i F
        try replace F := And.intro f1 F
        refine sq fun K55 hK55 => ?_
        refine rg' (h := fun J56 hJ56 => ?_)
        refine hJ56 _ _ ?_
        refine hK55 _ _ ?_
        refine sq fun K57 hK57 => ?_
        refine cs (fun c36 => ?_) (fun c36 => ?_)
        · try exact nope c36
          all_goals have c36p := c36
          all_goals try simp [F] at c36p
          all_goals
           replace F := And.intro c36 F
           try replace F := And.intro c36p F
           refine run_skip ?_
           refine hK57 _ _ ?_
           refine sq fun K58 hK58 => ?_
           refine run_block_k ?_
           refine sq fun K59 hK59 => ?_
           have hlt : i < n := by have h := c36; simp at h; omega
           have hltT : i < T.length := by omega
           have hat := persC_at hltT
           have hb1 : i * 2 + 2 ≤ T.length * 2 := by omega
           have hxm := hTm _ (List.getElem_mem hltT)
           have htk : T.take (i + 1) = T.take i ++ [T[i]] := (List.take_append_getElem hltT).symm
           obtain ⟨x, hx⟩ : ∃ x, x = T[i] := ⟨_, rfl⟩
           rw [← hx] at hat hxm htk
           obtain ⟨xl, xc⟩ := x
           simp only at hxm
           have hls := lenS_take T (i + 1)
           have hlt2 : lenS (T.take (i + 1)) = lenS (T.take i) + xl := by rw [htk, lenS_append]; simp [lenS]
           obtain ⟨E, hE⟩ : ∃ E, E = lenS (T.take i) := ⟨_, rfl⟩
           rw [← hE] at hlt2
           have hw : IntKind.u64.wrap (((ps + E : Nat) : Int) + xl) = ((ps + (E + xl) : Nat) : Int) := by rw [wrap_u64c (by omega)]; omega
           rw [← hE]
           have hP : persC (T.take (i + 1)) = persC (T.take i) ++ [.v (.int .u64 xl), .sl 5 (coinsC xc) xc.length .shut] := by rw [htk, ← persC_append]; rfl
           replace F := And.intro hP.symm (And.intro hlt2 F)
           have hb0 : posB i = false → persC (T.take i) = [] ∧ i = 0 := fun h => by have h0 := posB_no h; subst h0; simp
           have happ : ∀ objs, appendA Try.prog 24 (grA σ.toks.length 2 (posB i) (persC (T.take i)) i) (.sl 2 [.v (.int .u64 xl), .sl 5 (coinsC xc) xc.length .shut] 1 .full) ⟨objs, σ.toks ++ grT (posB i) i, σ.gl, σ.rows⟩ = some (grA σ.toks.length 2 true (persC (T.take i) ++ [.v (.int .u64 xl), .sl 5 (coinsC xc) xc.length .shut]) (i + 1), ⟨objs, σ.toks ++ grT true (i + 1), σ.gl, σ.rows⟩) := fun objs => append_gr elemT_24 ti_88 (by decide) rfl hb0 (.inl rfl) (by simp [roomA]; omega) (by simp [maxLen]; omega)
           replace F := And.intro hlt F
           replace F := And.intro hltT F
           replace F := And.intro hTl F
           replace F := And.intro hat F
           replace F := And.intro hb1 F
           refine rg' (h := fun J60 hJ60 => ?_)
           refine hJ60 _ _ ?_
           refine hK59 _ _ ?_
           refine sq fun K61 hK61 => ?_
           replace F := And.intro hw F
           refine rg' (h := fun J62 hJ62 => ?_)
           refine hJ62 _ _ ?_
           refine hK61 _ _ ?_
           replace F := And.intro happ F
           refine run_draw (by kernel_rfl) fun J63 hJ63 => ?_
           refine rp2 0 (k := ?_)
           refine rp2 1 (k := ?_)
           refine rp2 2 (k := ?_)
           refine rp2 3 (k := ?_)
           refine rp2 4 (k := ?_)
           refine rp2 5 (k := ?_)
           refine dc 6 rfl (c := cclone_ok (l := xc) (by omega)) (k := ?_)
           rintro _ _ ⟨rfl, rfl⟩
           refine ⟨by first | exact fun _ _ h => h | (refine later_list [4, 3, 2, 1, 0] (by kernel_rfl) (List.forall_mem_cons.2 ⟨fun _ => fact2 rfl rfl ?_, List.forall_mem_cons.2 ⟨fun _ => fact2 rfl rfl ?_, List.forall_mem_cons.2 ⟨fun _ => fact2 rfl rfl ?_, List.forall_mem_cons.2 ⟨fun _ => fact2 rfl rfl ?_, List.forall_mem_cons.2 ⟨fun _ => fact2 rfl rfl ?_, fun _ h => absurd h List.not_mem_nil⟩⟩⟩⟩⟩) <;> constructor <;> first | rfl | (simp [F]; done)), ?_⟩
           repeat (first | simp [F] | simp (disch := omega) only [wC, if_pos, if_neg])
           refine rp2 7 (k := ?_)
           refine rp2 8 (k := ?_)
           refine dop 9 rfl ?_
           repeat (first | simp [F] | simp (disch := omega) only [wC, if_pos, if_neg])
           refine ⟨by first | exact fun _ _ h => h | (refine later_list [7, 4, 3, 2, 0] (by kernel_rfl) (List.forall_mem_cons.2 ⟨fun _ => fact2 rfl rfl ?_, List.forall_mem_cons.2 ⟨fun _ => fact2 rfl rfl ?_, List.forall_mem_cons.2 ⟨fun _ => fact2 rfl rfl ?_, List.forall_mem_cons.2 ⟨fun _ => fact2 rfl rfl ?_, List.forall_mem_cons.2 ⟨fun _ => fact2 rfl rfl ?_, fun _ h => absurd h List.not_mem_nil⟩⟩⟩⟩⟩) <;> constructor <;> first | rfl | (simp [F]; done)), ?_⟩
           refine rp2 10 (k := ?_)
           refine dop 11 rfl ?_
           repeat (first | simp [F] | simp (disch := omega) only [wC, if_pos, if_neg])
           refine ⟨ln, ?_⟩
           refine dd ?_
           refine hJ63 _ _ ?_
           refine hK58 _ _ ?_
           refine rg' (h := fun J64 hJ64 => ?_)
           refine hJ64 _ _ ?_
           refine ⟨gk, (i + 1), ⟨kpG, lpG, lpG, lpG⟩, lpG⟩
        try exact nope c36
        all_goals have c36p := c36
        all_goals try simp [F] at c36p
        all_goals
         replace F := And.intro c36 F
         try replace F := And.intro c36p F
         have hii : i = n := by have h := c36; simp at h; omega
         have hTT : T.take i = T := List.take_of_length_le (by omega)
         have hn0 : n ≠ 0 := by have h := c22; simp at h; omega
         have hpb : posB i = true := by simp [posB]; omega
         replace F := And.intro hpb (And.intro hTT F)
         refine run_exit ?_
         refine hK52 _ _ ?_
         refine sq fun K65 hK65 => ?_
         refine rg' (h := fun J66 hJ66 => ?_)
         refine hJ66 _ _ ?_
         refine hK65 _ _ ?_
         refine run_ret ?_
         try simp only [Then, InBlock, NoGoto]
         refine acell (h := ?_)
         rw [hz]
         show Wk _ _ ∧ _
         refine gcr (hA := ?_)
         exact WkL.agg (cut_nil rfl)
     · refine ao 9 rfl ?_
       repeat (first | simp [F] | simp (disch := omega) only [wC, if_pos, if_neg])
       refine ⟨by first | exact later_more _ (by kernel_rfl) | exact later_more2 (by kernel_rfl) rfl, ?_⟩
       refine dc 7 rfl (c := hsum _) (k := ?_)
       rintro _ _ ⟨rfl, rfl⟩
       refine ⟨by first | exact fun _ _ h => h | (refine later_list [5, 4, 3, 2, 1, 0] (by kernel_rfl) (List.forall_mem_cons.2 ⟨fun _ => fact2 rfl rfl ?_, List.forall_mem_cons.2 ⟨fun _ => fact2 rfl rfl ?_, List.forall_mem_cons.2 ⟨fun _ => fact2 rfl rfl ?_, List.forall_mem_cons.2 ⟨fun _ => fact2 rfl rfl ?_, List.forall_mem_cons.2 ⟨fun _ => fact2 rfl rfl ?_, List.forall_mem_cons.2 ⟨fun _ => fact2 rfl rfl ?_, fun _ h => absurd h List.not_mem_nil⟩⟩⟩⟩⟩⟩) <;> constructor <;> first | rfl | (simp [F]; done)), ?_⟩
       repeat (first | simp [F] | simp (disch := omega) only [wC, if_pos, if_neg])
       refine rp2 8 (k := ?_)
       refine dop 10 rfl ?_
       repeat (first | simp [F] | simp (disch := omega) only [wC, if_pos, if_neg])
       refine ⟨ln, ?_⟩
       refine dd ?_
       refine hJ51 _ _ ?_
       refine hK50 _ _ ?_
       refine sq fun K67 hK67 => ?_
       refine sq fun K68 hK68 => ?_
       refine rg' (h := fun J69 hJ69 => ?_)
       refine hJ69 _ _ ?_
       refine hK68 _ _ ?_
       refine run_block_k ?_
       refine run_loopG (X := Nat) [4, 6, 33, 34] (fun i ρ σ1 => (i ≤ n) ∧ (ρ 35 = .v (.int .i64 i)) ∧ (σ1 = { σ with objs := σ.objs ++ [[.v (.int .u8 pk.toNat), .v (.int .u64 ps), .v (.int .u64 pe), .sl 5 (coinsC pt) pt.length .shut, .sl 2 (persC pp) pp.length .shut], [.v (.int .u8 0), .v (.int .u64 0), .v (.int .u64 0), .sl 0 [] 0 .full, .sl 0 [] 0 .full], [.v (.int .u8 pk.toNat), .v (.int .u64 ps), .v (.int .u64 (ps + lenS (T.take i) : Nat)), .sl 5 (coinsC S) S.length .shut, grA σ.toks.length 2 (posB i) (persC (T.take i)) i]], toks := σ.toks ++ grT (posB i) i })) (fun i => n - i) (0) ?st1 ?rd1
       case st1 =>
        refine ⟨lp, lp, ?_⟩
        · simp [F, lenS]
       case rd1 =>
        rintro i ρ1 σ1 hF1 ⟨hi, h35i, hσ⟩
        obtain rfl := hσ.symm
        have f1 := keepL hF1
        try simp [KeepL, F] at f1
        replace F := And.intro h35i F
        try replace F := And.intro f1 F
        refine sq fun K70 hK70 => ?_
        refine rg' (h := fun J71 hJ71 => ?_)
        refine hJ71 _ _ ?_
        refine hK70 _ _ ?_
        refine sq fun K72 hK72 => ?_
        refine cs (fun c36 => ?_) (fun c36 => ?_)
        · try exact nope c36
          all_goals have c36p := c36
          all_goals try simp [F] at c36p
          all_goals
           replace F := And.intro c36 F
           try replace F := And.intro c36p F
           refine run_skip ?_
           refine hK72 _ _ ?_
           refine sq fun K73 hK73 => ?_
           refine run_block_k ?_
           refine sq fun K74 hK74 => ?_
           have hlt : i < n := by have h := c36; simp at h; omega
           have hltT : i < T.length := by omega
           have hat := persC_at hltT
           have hb1 : i * 2 + 2 ≤ T.length * 2 := by omega
           have hxm := hTm _ (List.getElem_mem hltT)
           have htk : T.take (i + 1) = T.take i ++ [T[i]] := (List.take_append_getElem hltT).symm
           obtain ⟨x, hx⟩ : ∃ x, x = T[i] := ⟨_, rfl⟩
           rw [← hx] at hat hxm htk
           obtain ⟨xl, xc⟩ := x
           simp only at hxm
           have hls := lenS_take T (i + 1)
           have hlt2 : lenS (T.take (i + 1)) = lenS (T.take i) + xl := by rw [htk, lenS_append]; simp [lenS]
           obtain ⟨E, hE⟩ : ∃ E, E = lenS (T.take i) := ⟨_, rfl⟩
           rw [← hE] at hlt2
           have hw : IntKind.u64.wrap (((ps + E : Nat) : Int) + xl) = ((ps + (E + xl) : Nat) : Int) := by rw [wrap_u64c (by omega)]; omega
           rw [← hE]
           have hP : persC (T.take (i + 1)) = persC (T.take i) ++ [.v (.int .u64 xl), .sl 5 (coinsC xc) xc.length .shut] := by rw [htk, ← persC_append]; rfl
           replace F := And.intro hP.symm (And.intro hlt2 F)
           have hb0 : posB i = false → persC (T.take i) = [] ∧ i = 0 := fun h => by have h0 := posB_no h; subst h0; simp
           have happ : ∀ objs, appendA Try.prog 24 (grA σ.toks.length 2 (posB i) (persC (T.take i)) i) (.sl 2 [.v (.int .u64 xl), .sl 5 (coinsC xc) xc.length .shut] 1 .full) ⟨objs, σ.toks ++ grT (posB i) i, σ.gl, σ.rows⟩ = some (grA σ.toks.length 2 true (persC (T.take i) ++ [.v (.int .u64 xl), .sl 5 (coinsC xc) xc.length .shut]) (i + 1), ⟨objs, σ.toks ++ grT true (i + 1), σ.gl, σ.rows⟩) := fun objs => append_gr elemT_24 ti_88 (by decide) rfl hb0 (.inl rfl) (by simp [roomA]; omega) (by simp [maxLen]; omega)
           replace F := And.intro hlt F
           replace F := And.intro hltT F
           replace F := And.intro hTl F
           replace F := And.intro hat F
           replace F := And.intro hb1 F
           refine rg' (h := fun J75 hJ75 => ?_)
           refine hJ75 _ _ ?_
           refine hK74 _ _ ?_
           refine sq fun K76 hK76 => ?_
           replace F := And.intro hw F
           refine rg' (h := fun J77 hJ77 => ?_)
           refine hJ77 _ _ ?_
           refine hK76 _ _ ?_
           replace F := And.intro happ F
           refine run_draw (by kernel_rfl) fun J78 hJ78 => ?_
           refine rp2 0 (k := ?_)
           refine rp2 1 (k := ?_)
           refine rp2 2 (k := ?_)
           refine rp2 3 (k := ?_)
           refine rp2 4 (k := ?_)
           refine rp2 5 (k := ?_)
           refine dc 6 rfl (c := cclone_ok (l := xc) (by omega)) (k := ?_)
           rintro _ _ ⟨rfl, rfl⟩
           refine ⟨by first | exact fun _ _ h => h | (refine later_list [4, 3, 2, 1, 0] (by kernel_rfl) (List.forall_mem_cons.2 ⟨fun _ => fact2 rfl rfl ?_, List.forall_mem_cons.2 ⟨fun _ => fact2 rfl rfl ?_, List.forall_mem_cons.2 ⟨fun _ => fact2 rfl rfl ?_, List.forall_mem_cons.2 ⟨fun _ => fact2 rfl rfl ?_, List.forall_mem_cons.2 ⟨fun _ => fact2 rfl rfl ?_, fun _ h => absurd h List.not_mem_nil⟩⟩⟩⟩⟩) <;> constructor <;> first | rfl | (simp [F]; done)), ?_⟩
           repeat (first | simp [F] | simp (disch := omega) only [wC, if_pos, if_neg])
           refine rp2 7 (k := ?_)
           refine rp2 8 (k := ?_)
           refine dop 9 rfl ?_
           repeat (first | simp [F] | simp (disch := omega) only [wC, if_pos, if_neg])
           refine ⟨by first | exact fun _ _ h => h | (refine later_list [7, 4, 3, 2, 0] (by kernel_rfl) (List.forall_mem_cons.2 ⟨fun _ => fact2 rfl rfl ?_, List.forall_mem_cons.2 ⟨fun _ => fact2 rfl rfl ?_, List.forall_mem_cons.2 ⟨fun _ => fact2 rfl rfl ?_, List.forall_mem_cons.2 ⟨fun _ => fact2 rfl rfl ?_, List.forall_mem_cons.2 ⟨fun _ => fact2 rfl rfl ?_, fun _ h => absurd h List.not_mem_nil⟩⟩⟩⟩⟩) <;> constructor <;> first | rfl | (simp [F]; done)), ?_⟩
           refine rp2 10 (k := ?_)
           refine dop 11 rfl ?_
           repeat (first | simp [F] | simp (disch := omega) only [wC, if_pos, if_neg])
           refine ⟨ln, ?_⟩
           refine dd ?_
           refine hJ78 _ _ ?_
           refine hK73 _ _ ?_
           refine rg' (h := fun J79 hJ79 => ?_)
           refine hJ79 _ _ ?_
           refine ⟨gk, (i + 1), ⟨kpG, lpG, lpG, lpG⟩, lpG⟩
        try exact nope c36
        all_goals have c36p := c36
        all_goals try simp [F] at c36p
        all_goals
         replace F := And.intro c36 F
         try replace F := And.intro c36p F
         have hii : i = n := by have h := c36; simp at h; omega
         have hTT : T.take i = T := List.take_of_length_le (by omega)
         have hn0 : n ≠ 0 := by have h := c22; simp at h; omega
         have hpb : posB i = true := by simp [posB]; omega
         replace F := And.intro hpb (And.intro hTT F)
         refine run_exit ?_
         refine hK67 _ _ ?_
         refine sq fun K80 hK80 => ?_
         refine rg' (h := fun J81 hJ81 => ?_)
         refine hJ81 _ _ ?_
         refine hK80 _ _ ?_
         refine run_ret ?_
         try simp only [Then, InBlock, NoGoto]
         refine acell (h := ?_)
         rw [hz]
         show Wk _ _ ∧ _
         refine gcr (hA := ?_)
         exact WkL.agg (cut_nil rfl)
  case cx6 =>
   intro K6 hK6
   refine rg' (h := fun J82 hJ82 => ?_)
   refine gs 12 (fun g2_3 => ?_) (fun g2_3 => ?_)
   · try exact nope g2_3
     all_goals have g2_3p := g2_3
     all_goals try simp [F] at g2_3p
     all_goals
      replace F := And.intro g2_3 F
      try replace F := And.intro g2_3p F
      refine no2 (k := ?_)
      refine no2 (k := ?_)
      refine no2 (k := ?_)
      refine hJ82 _ _ ?_
      refine hK6 (()) _ _ ⟨kp, ?_, lp⟩
      · rw [hB]
        simp [hkn, F]
        try rfl
   try exact nope g2_3
   all_goals have g2_3p := g2_3
   all_goals try simp [F] at g2_3p
   all_goals
    replace F := And.intro g2_3 F
    try replace F := And.intro g2_3p F
    refine go2 (k := ?_)
    refine go2 (k := ?_)
    refine go2 (k := ?_)
    refine hJ82 _ _ ?_
    refine hK6 (()) _ _ ⟨kp, ?_, lp⟩
    · rw [hB]
      simp [hkn, F]
      try rfl

end Go.Proofs.Ytdbaddholggkbaa

/-
  A plan without what is locked, by the document..
-/
namespace Go.Proofs.Ytdbaddholggkbaa
set_option linter.unnecessarySimpa false
set_option maxRecDepth 100000
open Go Go.Vm
set_option linter.unusedSimpArgs false
set_option linter.unusedVariables false

attribute [local simp] evalL wantedA isCall opA evalA evalAll evalsA evalOpt ofValue ofCell plain binA_eql_pn binA_neq_pn binA_gtr binA_lss binA_geq binA_leq binA_add binA_sub binA_eql binA_neq binA_orI binA_andI binA_shl binA_shr binA_mul binA_quo binA_rem binA_agg_eql binA_agg_neq convA_int unA_not fieldAddrA loadA partA pickA_true pickA_false pickA_bb lenA builtinA storeA splice AV.cells AV.isCell sliceA boundA intA callOf indexAddrA newObjA buildA fillA zeroA ofCells buildSliceA indexA fieldA numA_len4 numA_take4 numA_drop4 set_appN get_appN take_appN List.getElem?_cons_zero List.getElem?_cons_succ makeA zeros64

set_option maxHeartbeats 1600000 in
attribute [local simp] undefA List.getElem?_cons_zero List.getElem?_cons_succ plnC perC persC_noObj in
theorem rcut_ok {σ : St} {p : Pln} {t : Nat} (g : Fine p) (ht : t < 2 ^ 64) :
    CallsA Try.prog 32 [.agg (plnC p), .v (.int .u64 t)] σ (fun av σ' => av = .agg (plnC (cutL p t)) ∧ σ = σ') := by
  refine callsA_gcS ?_ (by simp [AV.under, underL, plnC, persC_under])
  obtain ⟨C, hC⟩ : ∃ C, C = cutL p t := ⟨_, rfl⟩
  rw [← hC]
  have hov := fun σ => rover_ok (σ := σ) g.ok ht
  have hrt := g.rights
  have hst := g.steps
  have hsm := g.small
  obtain ⟨k1, k2, k3, k4, h5⟩ := g.ok
  have hon := overN_le p.ps p.s t
  obtain ⟨n, hn⟩ : ∃ n, n = overN p.ps p.s t := ⟨_, rfl⟩
  rw [← hn] at hon
  have hfi := fun σ => rfirst_ok (σ := σ) g.ok hrt hon
  have hC0 : ¬ ((p.k = 3 ∨ p.k = 5) ∧ n ≠ 0) → C = ⟨0, 0, 0, [], []⟩ := fun h => by rw [hC, cutL, if_neg (by rw [← hn]; exact h)]
  have hC1 : ((p.k = 3 ∨ p.k = 5) ∧ n ≠ 0) → C = ⟨p.k, p.s, p.s + lenS (p.ps.take n), sumL (p.ps.take n) [], p.ps.take n⟩ := fun h => by rw [hC, cutL, if_pos (by rw [← hn]; exact h), ← hn]
  simp only [← hn] at hov
  obtain ⟨S, hS⟩ : ∃ S, S = sumL (p.ps.take n) [] := ⟨_, rfl⟩
  simp only [← hS] at hfi hC1
  have hn16 : p.k = 3 ∨ p.k = 5 → p.ps.length ≤ 16 := fun h => by have := (hst h).2.2.2; omega
  clear g hC hrt hst hn hS
  obtain ⟨pk, ps, pe, pt, pp⟩ := p
  simp only at hC0 hC1 hn16 hsm k1 k2 k3 k4 h5 hon
  have hkn : ∀ n : UInt8, pk = n ↔ (pk.toNat : Int) = (n.toNat : Int) := fun n => ⟨fun e => by rw [e], fun e => UInt8.toNat_inj.1 (Int.ofNat_inj.1 e)⟩
  have hdr : ∀ f : Nat → AV, List.drop 2 (List.map f (List.range 2)) = [] := fun _ => rfl
  have hdr5 : ∀ f : Nat → AV, List.drop 5 (List.map f (List.range 5)) = [] := fun _ => rfl
  obtain ⟨B, hB⟩ : ∃ B, B = !((decide (pk = 3) || decide (pk = 5)) && !decide (n = 0)) := ⟨_, rfl⟩
  have F := And.intro hdr (And.intro hdr5 (True.intro))
  refine callsA_body Try.func32 rfl rfl rfl ?_
  refine sq fun K1 hK1 => ?_
  refine rg' (h := fun J2 hJ2 => ?_)
  refine hJ2 _ _ ?_
  refine hK1 _ _ ?_
  refine sq fun K3 hK3 => ?_
  refine sqc (X := Unit) [1, 2, 4] (fun k ρ σ1 => (ρ 21 = .v (.bool B)) ∧ (σ1 = { σ with objs := σ.objs ++ [[.v (.int .u8 pk.toNat), .v (.int .u64 ps), .v (.int .u64 pe), .sl 5 (coinsC pt) pt.length .shut, .sl 2 (persC pp) pp.length .shut], [.v (.int .u8 0), .v (.int .u64 0), .v (.int .u64 0), .sl 0 [] 0 .full, .sl 0 [] 0 .full]] })) ?cy4 ?cx4
  case cy4 =>
   rintro k ρCr1 σ1 hFCr1 ⟨h21, hσ⟩
   obtain rfl := hσ.symm
   have fCr1 := keepL hFCr1
   try simp [KeepL, F] at fCr1
   replace F := And.intro h21 F
   try replace F := And.intro fCr1 F
   refine cs (t := B) (fun c21 => ?_) (fun c21 => ?_)
   · try exact nope c21
     all_goals have c21p := c21
     all_goals try simp [F] at c21p
     all_goals
      replace F := And.intro c21 F
      try replace F := And.intro c21p F
      have hz : C = ⟨0, 0, 0, [], []⟩ := hC0 (fun h => by rw [hB] at c21; rcases h with ⟨h | h, h2⟩ <;> simp [h, h2] at c21)
      refine sq fun K5 hK5 => ?_
      refine rg' (h := fun J6 hJ6 => ?_)
      refine hJ6 _ _ ?_
      refine hK5 _ _ ?_
      refine run_ret ?_
      try simp only [Then, InBlock, NoGoto]
      refine acell (h := ?_)
      rw [hz]
      show Wk _ _ ∧ _
      refine gcr (hA := ?_)
      exact WkL.agg (cut_nil rfl)
   try exact nope c21
   all_goals have c21p := c21
   all_goals try simp [F] at c21p
   all_goals
    replace F := And.intro c21 F
    try replace F := And.intro c21p F
    have h35 : (pk = 3 ∨ pk = 5) ∧ n ≠ 0 := by rw [hB] at c21; simp at c21; exact ⟨by by_cases h : pk = 3; exact .inl h; exact .inr (c21.1 h), c21.2⟩
    replace hn16 := hn16 h35.1
    refine run_skip ?_
    refine hK3 _ _ ?_
    refine sq fun K7 hK7 => ?_
    refine rg' (h := fun J8 hJ8 => ?_)
    refine ca (c := hov _) (k := ?_)
    rintro _ _ ⟨rfl, rfl⟩
    repeat (first | simp [F] | simp (disch := omega) only [wC, if_pos, if_neg])
    refine hJ8 _ _ ?_
    refine hK7 _ _ ?_
    refine sq fun K9 hK9 => ?_
    refine run_draw (by kernel_rfl) fun J10 hJ10 => ?_
    refine rp2 0 (k := ?_)
    refine rp2 1 (k := ?_)
    refine rp2 2 (k := ?_)
    refine rp2 3 (k := ?_)
    refine rp2 4 (k := ?_)
    refine rp2 5 (k := ?_)
    refine rp2 6 (k := ?_)
    refine rp2 7 (k := ?_)
    refine d2 8 10 ?_ ?_
    · refine ac 8 rfl (c := hfi _) (k := ?_)
      rintro _ _ ⟨rfl, rfl⟩
      refine ⟨by first | exact fun _ _ h => h | (refine later_list [5, 4, 3, 2, 1, 0] (by kernel_rfl) (List.forall_mem_cons.2 ⟨fun _ => fact2 rfl rfl ?_, List.forall_mem_cons.2 ⟨fun _ => fact2 rfl rfl ?_, List.forall_mem_cons.2 ⟨fun _ => fact2 rfl rfl ?_, List.forall_mem_cons.2 ⟨fun _ => fact2 rfl rfl ?_, List.forall_mem_cons.2 ⟨fun _ => fact2 rfl rfl ?_, List.forall_mem_cons.2 ⟨fun _ => fact2 rfl rfl ?_, fun _ h => absurd h List.not_mem_nil⟩⟩⟩⟩⟩⟩) <;> constructor <;> first | rfl | (simp [F]; done)), ?_⟩
      repeat (first | simp [F] | simp (disch := omega) only [wC, if_pos, if_neg])
      refine rp2 9 (k := ?_)
      refine dop 10 rfl ?_
      repeat (first | simp [F] | simp (disch := omega) only [wC, if_pos, if_neg])
      refine ⟨by first | exact later_more _ (by kernel_rfl) | exact later_more2 (by kernel_rfl) rfl, ?_⟩
      refine dop 11 rfl ?_
      repeat (first | simp [F] | simp (disch := omega) only [wC, if_pos, if_neg])
      refine ⟨ln, ?_⟩
      refine dd ?_
      refine hJ10 _ _ ?_
      refine hK9 _ _ ?_
      refine sq fun K11 hK11 => ?_
      refine sq fun K12 hK12 => ?_
      refine rg' (h := fun J13 hJ13 => ?_)
      refine hJ13 _ _ ?_
      refine hK12 _ _ ?_
      refine run_block_k ?_
      refine run_loopF (X := Nat) [2, 4, 5, 6] (fun i ρ σ1 => (i ≤ n) ∧ (ρ 7 = .v (.int .i64 i)) ∧ (σ1 = { σ with objs := σ.objs ++ [[.v (.int .u8 pk.toNat), .v (.int .u64 ps), .v (.int .u64 pe), .sl 5 (coinsC pt) pt.length .shut, .sl 2 (persC pp) pp.length .shut], [.v (.int .u8 0), .v (.int .u64 0), .v (.int .u64 0), .sl 0 [] 0 .full, .sl 0 [] 0 .full], [.v (.int .u8 pk.toNat), .v (.int .u64 ps), .v (.int .u64 (ps + lenS (pp.take i) : Nat)), .sl 5 (coinsC S) S.length .shut, grA σ.toks.length 2 (posB i) (persC (pp.take i)) i]], toks := σ.toks ++ grT (posB i) i })) (fun i => n - i) (0) ?st1 ?rd1
      case st1 =>
       refine ⟨lp, lp, ?_⟩
       · simp [F, lenS]
      case rd1 =>
       rintro i ρ1 σ1 hF1 ⟨hi, h7, hσ⟩
       obtain rfl := hσ.symm
       have f1 := keepL hF1
       try simp [KeepL, F] at f1
       replace F := And.intro h7 F
       try replace F := And.intro f1 F
       refine sq fun K14 hK14 => ?_
       refine sq fun K15 hK15 => ?_
       refine rg' (h := fun J16 hJ16 => ?_)
       refine hJ16 _ _ ?_
       refine hK15 _ _ ?_
       refine cs (fun c38 => ?_) (fun c38 => ?_)
       · try exact nope c38
         all_goals have c38p := c38
         all_goals try simp [F] at c38p
         all_goals
          replace F := And.intro c38 F
          try replace F := And.intro c38p F
          refine run_skip ?_
          refine hK14 _ _ ?_
          refine sq fun K17 hK17 => ?_
          refine run_block_k ?_
          refine sq fun K18 hK18 => ?_
          have hlt : i < n := by have h := c38; simp at h; omega
          have hltp : i < pp.length := by omega
          have hat := persC_at hltp
          have hb1 : i * 2 + 2 ≤ pp.length * 2 := by omega
          have hxm := h5 _ (List.getElem_mem hltp)
          have htk : pp.take (i + 1) = pp.take i ++ [pp[i]] := (List.take_append_getElem hltp).symm
          obtain ⟨x, hx⟩ : ∃ x, x = pp[i] := ⟨_, rfl⟩
          rw [← hx] at hat hxm htk
          obtain ⟨xl, xc⟩ := x
          simp only at hxm
          have hls := lenS_take pp (i + 1)
          have hlt2 : lenS (pp.take (i + 1)) = lenS (pp.take i) + xl := by rw [htk, lenS_append]; simp [lenS]
          obtain ⟨E, hE⟩ : ∃ E, E = lenS (pp.take i) := ⟨_, rfl⟩
          rw [← hE] at hlt2
          have hw : IntKind.u64.wrap (((ps + E : Nat) : Int) + xl) = ((ps + (E + xl) : Nat) : Int) := by rw [wrap_u64c (by omega)]; omega
          rw [← hE]
          have hP : persC (pp.take (i + 1)) = persC (pp.take i) ++ [.v (.int .u64 xl), .sl 5 (coinsC xc) xc.length .shut] := by rw [htk, ← persC_append]; rfl
          replace F := And.intro hP.symm (And.intro hlt2 F)
          have hb0 : posB i = false → persC (pp.take i) = [] ∧ i = 0 := fun h => by have h0 := posB_no h; subst h0; simp
          have happ : ∀ objs, appendA Try.prog 24 (grA σ.toks.length 2 (posB i) (persC (pp.take i)) i) (.sl 2 [.v (.int .u64 xl), .sl 5 (coinsC xc) xc.length .shut] 1 .full) ⟨objs, σ.toks ++ grT (posB i) i, σ.gl, σ.rows⟩ = some (grA σ.toks.length 2 true (persC (pp.take i) ++ [.v (.int .u64 xl), .sl 5 (coinsC xc) xc.length .shut]) (i + 1), ⟨objs, σ.toks ++ grT true (i + 1), σ.gl, σ.rows⟩) := fun objs => append_gr elemT_24 ti_88 (by decide) rfl hb0 (.inl rfl) (by simp [roomA]; omega) (by simp [maxLen]; omega)
          replace F := And.intro hltp F
          replace F := And.intro hat F
          replace F := And.intro hb1 F
          replace F := And.intro happ F
          refine run_draw (by kernel_rfl) fun J19 hJ19 => ?_
          refine rp2 0 (k := ?_)
          refine rp2 1 (k := ?_)
          refine rp2 2 (k := ?_)
          refine rp2 3 (k := ?_)
          refine rp2 4 (k := ?_)
          refine rp2 5 (k := ?_)
          refine rp2 6 (k := ?_)
          refine rp2 7 (k := ?_)
          refine dop 8 rfl ?_
          repeat (first | simp [F] | simp (disch := omega) only [wC, if_pos, if_neg])
          refine ⟨by first | exact fun _ _ h => h | (refine later_list [6, 5, 4, 3, 2, 0] (by kernel_rfl) (List.forall_mem_cons.2 ⟨fun _ => fact2 rfl rfl ?_, List.forall_mem_cons.2 ⟨fun _ => fact2 rfl rfl ?_, List.forall_mem_cons.2 ⟨fun _ => fact2 rfl rfl ?_, List.forall_mem_cons.2 ⟨fun _ => fact2 rfl rfl ?_, List.forall_mem_cons.2 ⟨fun _ => fact2 rfl rfl ?_, List.forall_mem_cons.2 ⟨fun _ => fact2 rfl rfl ?_, fun _ h => absurd h List.not_mem_nil⟩⟩⟩⟩⟩⟩) <;> constructor <;> first | rfl | (simp [F]; done)), ?_⟩
          refine rp2 9 (k := ?_)
          refine dop 10 rfl ?_
          repeat (first | simp [F] | simp (disch := omega) only [wC, if_pos, if_neg])
          refine ⟨ln, ?_⟩
          refine dd ?_
          refine hJ19 _ _ ?_
          refine hK18 _ _ ?_
          replace F := And.intro hltp F
          replace F := And.intro hat F
          replace F := And.intro hb1 F
          replace F := And.intro hw F
          refine run_draw (by kernel_rfl) fun J20 hJ20 => ?_
          refine rp2 0 (k := ?_)
          refine rp2 1 (k := ?_)
          refine rp2 2 (k := ?_)
          refine rp2 3 (k := ?_)
          refine rp2 4 (k := ?_)
          refine rp2 5 (k := ?_)
          refine rp2 6 (k := ?_)
          refine rp2 7 (k := ?_)
          refine rp2 8 (k := ?_)
          refine rp2 9 (k := ?_)
          refine dop 10 rfl ?_
          repeat (first | simp [F] | simp (disch := omega) only [wC, if_pos, if_neg])
          refine ⟨ln, ?_⟩
          refine dd ?_
          refine hJ20 _ _ ?_
          refine hK17 _ _ ?_
          refine rg' (h := fun J21 hJ21 => ?_)
          refine hJ21 _ _ ?_
          refine ⟨(i + 1), ⟨kp, lp, lp, lp⟩, lp⟩
       try exact nope c38
       all_goals have c38p := c38
       all_goals try simp [F] at c38p
       all_goals
        replace F := And.intro c38 F
        try replace F := And.intro c38p F
        have hii : i = n := by have h := c38; simp at h; omega
        have hn0 := h35.2
        have hpb : posB i = true := by simp [posB]; omega
        have hTl : (pp.take n).length = n := by simp; omega
        replace F := And.intro hpb F
        refine run_exit ?_
        refine hK11 _ _ ?_
        refine sq fun K22 hK22 => ?_
        refine rg' (h := fun J23 hJ23 => ?_)
        refine hJ23 _ _ ?_
        refine hK22 _ _ ?_
        refine run_ret ?_
        try simp only [Then, InBlock, NoGoto]
        refine acell (h := ?_)
        rw [hC1 h35]
        show Wk _ _ ∧ _
        refine gcr (hA := ?_)
        simp [plnC, hii]
        rw [Nat.min_eq_left hon]
        exact WkL.agg (.cons (Wk.refl _) (.cons (Wk.refl _) (.cons (Wk.refl _) (.cons (Wk.refl _) (.cons (Wk.shut _ _ _ _) .nil)))))
    · refine ao 10 rfl ?_
      repeat (first | simp [F] | simp (disch := omega) only [wC, if_pos, if_neg])
      refine ⟨by first | exact later_more _ (by kernel_rfl) | exact later_more2 (by kernel_rfl) rfl, ?_⟩
      refine dc 8 rfl (c := hfi _) (k := ?_)
      rintro _ _ ⟨rfl, rfl⟩
      refine ⟨by first | exact fun _ _ h => h | (refine later_list [5, 4, 3, 2, 1, 0] (by kernel_rfl) (List.forall_mem_cons.2 ⟨fun _ => fact2 rfl rfl ?_, List.forall_mem_cons.2 ⟨fun _ => fact2 rfl rfl ?_, List.forall_mem_cons.2 ⟨fun _ => fact2 rfl rfl ?_, List.forall_mem_cons.2 ⟨fun _ => fact2 rfl rfl ?_, List.forall_mem_cons.2 ⟨fun _ => fact2 rfl rfl ?_, List.forall_mem_cons.2 ⟨fun _ => fact2 rfl rfl ?_, fun _ h => absurd h List.not_mem_nil⟩⟩⟩⟩⟩⟩) <;> constructor <;> first | rfl | (simp [F]; done)), ?_⟩
      repeat (first | simp [F] | simp (disch := omega) only [wC, if_pos, if_neg])
      refine rp2 9 (k := ?_)
      refine dop 11 rfl ?_
      repeat (first | simp [F] | simp (disch := omega) only [wC, if_pos, if_neg])
      refine ⟨ln, ?_⟩
      refine dd ?_
      refine hJ10 _ _ ?_
      refine hK9 _ _ ?_
      refine sq fun K24 hK24 => ?_
      refine sq fun K25 hK25 => ?_
      refine rg' (h := fun J26 hJ26 => ?_)
      refine hJ26 _ _ ?_
      refine hK25 _ _ ?_
      refine run_block_k ?_
      refine run_loopF (X := Nat) [2, 4, 5, 6] (fun i ρ σ1 => (i ≤ n) ∧ (ρ 7 = .v (.int .i64 i)) ∧ (σ1 = { σ with objs := σ.objs ++ [[.v (.int .u8 pk.toNat), .v (.int .u64 ps), .v (.int .u64 pe), .sl 5 (coinsC pt) pt.length .shut, .sl 2 (persC pp) pp.length .shut], [.v (.int .u8 0), .v (.int .u64 0), .v (.int .u64 0), .sl 0 [] 0 .full, .sl 0 [] 0 .full], [.v (.int .u8 pk.toNat), .v (.int .u64 ps), .v (.int .u64 (ps + lenS (pp.take i) : Nat)), .sl 5 (coinsC S) S.length .shut, grA σ.toks.length 2 (posB i) (persC (pp.take i)) i]], toks := σ.toks ++ grT (posB i) i })) (fun i => n - i) (0) ?st1 ?rd1
      case st1 =>
       refine ⟨lp, lp, ?_⟩
       · simp [F, lenS]
      case rd1 =>
       rintro i ρ1 σ1 hF1 ⟨hi, h7, hσ⟩
       obtain rfl := hσ.symm
       have f1 := keepL hF1
       try simp [KeepL, F] at f1
       replace F := And.intro h7 F
       try replace F := And.intro f1 F
       refine sq fun K27 hK27 => ?_
       refine sq fun K28 hK28 => ?_
       refine rg' (h := fun J29 hJ29 => ?_)
       refine hJ29 _ _ ?_
       refine hK28 _ _ ?_
       refine cs (fun c38 => ?_) (fun c38 => ?_)
       · try exact nope c38
         all_goals have c38p := c38
         all_goals try simp [F] at c38p
         all_goals
          replace F := And.intro c38 F
          try replace F := And.intro c38p F
          refine run_skip ?_
          refine hK27 _ _ ?_
          refine sq fun K30 hK30 => ?_
          refine run_block_k ?_
          refine sq fun K31 hK31 => ?_
          have hlt : i < n := by have h := c38; simp at h; omega
          have hltp : i < pp.length := by omega
          have hat := persC_at hltp
          have hb1 : i * 2 + 2 ≤ pp.length * 2 := by omega
          have hxm := h5 _ (List.getElem_mem hltp)
          have htk : pp.take (i + 1) = pp.take i ++ [pp[i]] := (List.take_append_getElem hltp).symm
          obtain ⟨x, hx⟩ : ∃ x, x = pp[i] := ⟨_, rfl⟩
          rw [← hx] at hat hxm htk
          obtain ⟨xl, xc⟩ := x
          simp only at hxm
          have hls := lenS_take pp (i + 1)
          have hlt2 : lenS (pp.take (i + 1)) = lenS (pp.take i) + xl := by rw [htk, lenS_append]; simp [lenS]
          obtain ⟨E, hE⟩ : ∃ E, E = lenS (pp.take i) := ⟨_, rfl⟩
          rw [← hE] at hlt2
          have hw : IntKind.u64.wrap (((ps + E : Nat) : Int) + xl) = ((ps + (E + xl) : Nat) : Int) := by rw [wrap_u64c (by omega)]; omega
          rw [← hE]
          have hP : persC (pp.take (i + 1)) = persC (pp.take i) ++ [.v (.int .u64 xl), .sl 5 (coinsC xc) xc.length .shut] := by rw [htk, ← persC_append]; rfl
          replace F := And.intro hP.symm (And.intro hlt2 F)
          have hb0 : posB i = false → persC (pp.take i) = [] ∧ i = 0 := fun h => by have h0 := posB_no h; subst h0; simp
          have happ : ∀ objs, appendA Try.prog 24 (grA σ.toks.length 2 (posB i) (persC (pp.take i)) i) (.sl 2 [.v (.int .u64 xl), .sl 5 (coinsC xc) xc.length .shut] 1 .full) ⟨objs, σ.toks ++ grT (posB i) i, σ.gl, σ.rows⟩ = some (grA σ.toks.length 2 true (persC (pp.take i) ++ [.v (.int .u64 xl), .sl 5 (coinsC xc) xc.length .shut]) (i + 1), ⟨objs, σ.toks ++ grT true (i + 1), σ.gl, σ.rows⟩) := fun objs => append_gr elemT_24 ti_88 (by decide) rfl hb0 (.inl rfl) (by simp [roomA]; omega) (by simp [maxLen]; omega)
          replace F := And.intro hltp F
          replace F := And.intro hat F
          replace F := And.intro hb1 F
          replace F := And.intro happ F
          refine run_draw (by kernel_rfl) fun J32 hJ32 => ?_
          refine rp2 0 (k := ?_)
          refine rp2 1 (k := ?_)
          refine rp2 2 (k := ?_)
          refine rp2 3 (k := ?_)
          refine rp2 4 (k := ?_)
          refine rp2 5 (k := ?_)
          refine rp2 6 (k := ?_)
          refine rp2 7 (k := ?_)
          refine dop 8 rfl ?_
          repeat (first | simp [F] | simp (disch := omega) only [wC, if_pos, if_neg])
          refine ⟨by first | exact fun _ _ h => h | (refine later_list [6, 5, 4, 3, 2, 0] (by kernel_rfl) (List.forall_mem_cons.2 ⟨fun _ => fact2 rfl rfl ?_, List.forall_mem_cons.2 ⟨fun _ => fact2 rfl rfl ?_, List.forall_mem_cons.2 ⟨fun _ => fact2 rfl rfl ?_, List.forall_mem_cons.2 ⟨fun _ => fact2 rfl rfl ?_, List.forall_mem_cons.2 ⟨fun _ => fact2 rfl rfl ?_, List.forall_mem_cons.2 ⟨fun _ => fact2 rfl rfl ?_, fun _ h => absurd h List.not_mem_nil⟩⟩⟩⟩⟩⟩) <;> constructor <;> first | rfl | (simp [F]; done)), ?_⟩
          refine rp2 9 (k := ?_)
          refine dop 10 rfl ?_
          repeat (first | simp [F] | simp (disch := omega) only [wC, if_pos, if_neg])
          refine ⟨ln, ?_⟩
          refine dd ?_
          refine hJ32 _ _ ?_
          refine hK31 _ _ ?_
          replace F := And.intro hltp F
          replace F := And.intro hat F
          replace F := And.intro hb1 F
          replace F := And.intro hw F
          refine run_draw (by kernel_rfl) fun J33 hJ33 => ?_
          refine rp2 0 (k := ?_)
          refine rp2 1 (k := ?_)
          refine rp2 2 (k := ?_)
          refine rp2 3 (k := ?_)
          refine rp2 4 (k := ?_)
          refine rp2 5 (k := ?_)
          refine rp2 6 (k := ?_)
          refine rp2 7 (k := ?_)
          refine rp2 8 (k := ?_)
          refine rp2 9 (k := ?_)
          refine dop 10 rfl ?_
          repeat (first | simp [F] | simp (disch := omega) only [wC, if_pos, if_neg])
          refine ⟨ln, ?_⟩
          refine dd ?_
          refine hJ33 _ _ ?_
          refine hK30 _ _ ?_
          refine rg' (h := fun J34 hJ34 => ?_)
          refine hJ34 _ _ ?_
          refine ⟨(i + 1), ⟨kp, lp, lp, lp⟩, lp⟩
       try exact nope c38
       all_goals have c38p := c38
       all_goals try simp [F] at c38p
       all_goals
        replace F := And.intro c38 F
        try replace F := And.intro c38p F
        have hii : i = n := by have h := c38; simp at h; omega
        have hn0 := h35.2
        have hpb : posB i = true := by simp [posB]; omega
        have hTl : (pp.take n).length = n := by simp; omega
        replace F := And.intro hpb F
        refine run_exit ?_
        refine hK24 _ _ ?_
        refine sq fun K35 hK35 => ?_
        refine rg' (h := fun J36 hJ36 => ?_)
        refine hJ36 _ _ ?_
        refine hK35 _ _ ?_
        refine run_ret ?_
        try simp only [Then, InBlock, NoGoto]
        refine acell (h := ?_)
        rw [hC1 h35]
        show Wk _ _ ∧ _
        refine gcr (hA := ?_)
        simp [plnC, hii]
        rw [Nat.min_eq_left hon]
        exact WkL.agg (.cons (Wk.refl _) (.cons (Wk.refl _) (.cons (Wk.refl _) (.cons (Wk.refl _) (.cons (Wk.shut _ _ _ _) .nil)))))
  case cx4 =>
   intro K4 hK4
   refine rg' (h := fun J37 hJ37 => ?_)
   refine gs 11 (fun g1_3 => ?_) (fun g1_3 => ?_)
   · try exact nope g1_3
     all_goals have g1_3p := g1_3
     all_goals try simp [F] at g1_3p
     all_goals
      replace F := And.intro g1_3 F
      try replace F := And.intro g1_3p F
      refine go2 (k := ?_)
      refine go2 (k := ?_)
      refine go2 (k := ?_)
      refine gs 16 (fun g1_8 => ?_) (fun g1_8 => ?_)
      · try exact nope g1_8
        all_goals have g1_8p := g1_8
        all_goals try simp [F] at g1_8p
        all_goals
         replace F := And.intro g1_8 F
         try replace F := And.intro g1_8p F
         refine no2 (k := ?_)
         refine no2 (k := ?_)
         refine no2 (k := ?_)
         refine no2 (k := ?_)
         refine hJ37 _ _ ?_
         refine hK4 (()) _ _ ⟨kp, ?_, lp⟩
         · rw [hB]
           simp [hkn, F]
           try (rw [Bool.eq_iff_iff]; simp)
           try omega
      try exact nope g1_8
      all_goals have g1_8p := g1_8
      all_goals try simp [F] at g1_8p
      all_goals
       replace F := And.intro g1_8 F
       try replace F := And.intro g1_8p F
       refine go2 (k := ?_)
       refine go2 (k := ?_)
       refine ca (c := hov _) (k := ?_)
       rintro _ _ ⟨rfl, rfl⟩
       repeat (first | simp [F] | simp (disch := omega) only [wC, if_pos, if_neg])
       refine go2 (k := ?_)
       refine hJ37 _ _ ?_
       refine hK4 (()) _ _ ⟨kp, ?_, lp⟩
       · rw [hB]
         simp [hkn, F]
         try (rw [Bool.eq_iff_iff]; simp)
         try omega
   try exact nope g1_3
   all_goals have g1_3p := g1_3
   all_goals try simp [F] at g1_3p
   all_goals
    replace F := And.intro g1_3 F
    try replace F := And.intro g1_3p F
    refine no2 (k := ?_)
    refine no2 (k := ?_)
    refine no2 (k := ?_)
    refine go2 (k := ?_)
    refine go2 (k := ?_)
    refine ca (c := hov _) (k := ?_)
    rintro _ _ ⟨rfl, rfl⟩
    repeat (first | simp [F] | simp (disch := omega) only [wC, if_pos, if_neg])
    refine go2 (k := ?_)
    refine hJ37 _ _ ?_
    refine hK4 (()) _ _ ⟨kp, ?_, lp⟩
    · rw [hB]
      simp [hkn, F]
      try (rw [Bool.eq_iff_iff]; simp)
      try omega

end Go.Proofs.Ytdbaddholggkbaa

/-
  The law on plans that are made, and what they give..
-/
namespace Go.Proofs.Ytdbaddholggkbaa
set_option linter.unnecessarySimpa false
set_option maxRecDepth 100000
open Go Go.Vm
set_option linter.unusedSimpArgs false
set_option linter.unusedVariables false

attribute [local simp] evalL wantedA isCall opA evalA evalAll evalsA evalOpt ofValue ofCell plain binA_eql_pn binA_neq_pn binA_gtr binA_lss binA_geq binA_leq binA_add binA_sub binA_eql binA_neq binA_orI binA_andI binA_shl binA_shr binA_mul binA_quo binA_rem binA_agg_eql binA_agg_neq convA_int unA_not fieldAddrA loadA partA pickA_true pickA_false pickA_bb lenA builtinA storeA splice AV.cells AV.isCell sliceA boundA intA callOf indexAddrA newObjA buildA fillA zeroA ofCells buildSliceA indexA fieldA numA_len4 numA_take4 numA_drop4 set_appN get_appN take_appN List.getElem?_cons_zero List.getElem?_cons_succ makeA zeros64

/-- What the laws on plans share: the contracts at a plan that is made. -/
theorem pv_ok {p : Pln} (g : Fine p) {t : Nat} (ht : t < 2 ^ 64) (σ : St) : CallsA Try.prog 23 [.agg (plnC p), .v (.int .u64 t)] σ (fun av σ' => av = .sl 5 (coinsC (vestL p t)) (vestL p t).length .shut ∧ σ = σ') := pvested_ok g.ok g.len g.fit ht
theorem pl_ok {p : Pln} (g : Fine p) {t : Nat} (ht : t < 2 ^ 64) (σ : St) : CallsA Try.prog 25 [.agg (plnC p), .v (.int .u64 t)] σ (fun av σ' => av = .sl 5 (coinsC (cRest p.tot (vestL p t))) (cRest p.tot (vestL p t)).length .shut ∧ σ = σ') := plocked_ok g.ok g.len g.fit ht
end Go.Proofs.Ytdbaddholggkbaa

/-
  The law on plans that are cut..
-/
namespace Go.Proofs.Ytdbaddholggkbaa
set_option linter.unnecessarySimpa false
set_option maxRecDepth 100000
open Go Go.Vm
set_option linter.unusedSimpArgs false
set_option linter.unusedVariables false

attribute [local simp] evalL wantedA isCall opA evalA evalAll evalsA evalOpt ofValue ofCell plain binA_eql_pn binA_neq_pn binA_gtr binA_lss binA_geq binA_leq binA_add binA_sub binA_eql binA_neq binA_orI binA_andI binA_shl binA_shr binA_mul binA_quo binA_rem binA_agg_eql binA_agg_neq convA_int unA_not fieldAddrA loadA partA pickA_true pickA_false pickA_bb lenA builtinA storeA splice AV.cells AV.isCell sliceA boundA intA callOf indexAddrA newObjA buildA fillA zeroA ofCells buildSliceA indexA fieldA numA_len4 numA_take4 numA_drop4 set_appN get_appN take_appN List.getElem?_cons_zero List.getElem?_cons_succ makeA zeros64

set_option maxHeartbeats 1600000 in
attribute [local simp] undefA List.getElem?_cons_zero List.getElem?_cons_succ madC plnC persC_noObj pcsC_noObj in
theorem planCuts_ok {σ : St} {m : Mad} (hm : m.Ok) (hl : m.Len) {t u : Nat} (ht : t < 2 ^ 64) (hu : u < 2 ^ 64) :
    CallsA Try.prog 8 [.agg (madC m), .v (.int .u64 t), .v (.int .u64 u)] σ (fun av σ' => av = .v (.bool true) ∧ σ = σ') := by
  refine callsA_gcS ?_ rfl
  obtain ⟨l1, l2, l3⟩ := hl
  obtain ⟨p, hpp⟩ : ∃ p, p = plansL m := ⟨_, rfl⟩
  have g : Fine p := hpp ▸ plansL_good hm
  have hcf : ∀ σ, CallsA Try.prog 20 [.agg (madC m)] σ (fun av σ' => av = .v (.bool (decide (fewP m))) ∧ σ = σ') := fun σ => few_ok l1 l2 l3
  have cp : ∀ σ, fewP m → CallsA Try.prog 21 [.agg (madC m)] σ (fun av σ' => av = .agg (plnC p) ∧ σ = σ') := fun σ hf => hpp ▸ plans_ok hm hf
  have cv := pv_ok g ht
  have hc1 := fun σ => pcut_ok (σ := σ) g ht
  have hc2 := fun σ => rcut_ok (σ := σ) g ht
  have hfree := cut_free g t
  have hlock : t ≤ u → cRest (cutL p t).tot (vestL (cutL p t) u) = [] := fun h => cut_locked g h
  have hrq := cut_right g t
  have gq := cut_good g t
  have hkn : ∀ n : UInt8, p.k = n ↔ (p.k.toNat : Int) = (n.toNat : Int) := fun n => ⟨fun e => by rw [e], fun e => UInt8.toNat_inj.1 (Int.ofNat_inj.1 e)⟩
  obtain ⟨q, hq⟩ : ∃ q, q = cutL p t := ⟨_, rfl⟩
  simp only [← hq] at hc1 hc2 hfree hlock hrq gq
  have cl := fun σ => pl_ok gq hu σ
  have hsm := fun σ => rplsame_ok (σ := σ) gq.ok gq.ok
  simp only [decide_true] at hsm
  have hrg := fun σ => plright_ok (σ := σ) gq.ok
  rw [hrq] at hrg
  have hqt : q.tot.length ≤ 9223372036854775807 := by have := gq.len; omega
  have hS := fun σ => rsame_ok (σ := σ) (l := q.tot) (m := q.tot) (t1 := .shut) (t2 := .shut) hqt hqt
  simp only [decide_true] at hS
  obtain ⟨V, hV⟩ : ∃ V, V = vestL p t := ⟨_, rfl⟩
  simp only [← hV] at cv hfree
  obtain ⟨Z, hZ⟩ : ∃ Z, Z = cRest q.tot (vestL q u) := ⟨_, rfl⟩
  simp only [← hZ] at cl hlock
  clear hpp hm g gq hq hrq hqt hV hZ
  obtain ⟨mk, ms, mn, mc, mp⟩ := m
  obtain ⟨pk, ps, pe, pt, pp⟩ := p
  obtain ⟨qk, qs, qe, qt, qp⟩ := q
  simp only at hfree hkn hS
  have F := True.intro
  refine callsA_body Try.func8 rfl rfl rfl ?_
  refine sq fun K1 hK1 => ?_
  refine rg' (h := fun J2 hJ2 => ?_)
  refine hJ2 _ _ ?_
  refine hK1 _ _ ?_
  refine sq fun K3 hK3 => ?_
  refine sq fun K4 hK4 => ?_
  refine rg' (h := fun J5 hJ5 => ?_)
  refine ca (c := even_ok) (k := ?_)
  rintro _ _ ⟨rfl, rfl⟩
  repeat (first | simp [F] | simp (disch := omega) only [wC, if_pos, if_neg])
  refine gs 11 (fun g1_2 => ?_) (fun g1_2 => ?_)
  · try exact nope g1_2
    all_goals have g1_2p := g1_2
    all_goals try simp [F] at g1_2p
    all_goals
     replace F := And.intro g1_2 F
     try replace F := And.intro g1_2p F
     refine no2 (k := ?_)
     refine no2 (k := ?_)
     refine no2 (k := ?_)
     refine hJ5 _ _ ?_
     refine hK4 _ _ ?_
     refine ct ?_
     refine sq fun K6 hK6 => ?_
     refine rg' (h := fun J7 hJ7 => ?_)
     refine ca (c := even_ok) (k := ?_)
     rintro _ _ ⟨rfl, rfl⟩
     repeat (first | simp [F] | simp (disch := omega) only [wC, if_pos, if_neg])
     refine hJ7 _ _ ?_
     refine hK6 _ _ ?_
     refine run_ret ?_
     try simp only [Then, InBlock, NoGoto]
     refine answer_tmp rfl (.inr rfl) ?_
     exact gcr
  try exact nope g1_2
  all_goals have g1_2p := g1_2
  all_goals try simp [F] at g1_2p
  all_goals
   replace F := And.intro g1_2 F
   try replace F := And.intro g1_2p F
   refine go2 (k := ?_)
   refine ca (c := hcf _) (k := ?_)
   rintro _ _ ⟨rfl, rfl⟩
   repeat (first | simp [F] | simp (disch := omega) only [wC, if_pos, if_neg])
   refine go2 (k := ?_)
   refine hJ5 _ _ ?_
   refine hK4 _ _ ?_
   refine cs (fun c15 => ?_) (fun c15 => ?_)
   · try exact nope c15
     all_goals have c15p := c15
     all_goals try simp [F] at c15p
     all_goals
      replace F := And.intro c15 F
      try replace F := And.intro c15p F
      refine sq fun K8 hK8 => ?_
      refine rg' (h := fun J9 hJ9 => ?_)
      refine ca (c := even_ok) (k := ?_)
      rintro _ _ ⟨rfl, rfl⟩
      repeat (first | simp [F] | simp (disch := omega) only [wC, if_pos, if_neg])
      refine hJ9 _ _ ?_
      refine hK8 _ _ ?_
      refine run_ret ?_
      try simp only [Then, InBlock, NoGoto]
      refine answer_tmp rfl (.inr rfl) ?_
      exact gcr
   try exact nope c15
   all_goals have c15p := c15
   all_goals try simp [F] at c15p
   all_goals
    replace F := And.intro c15 F
    try replace F := And.intro c15p F
    refine run_skip ?_
    refine hK3 _ _ ?_
    refine sq fun K10 hK10 => ?_
    refine rg' (h := fun J11 hJ11 => ?_)
    refine ca (c := cp _ (by simpa using c15)) (k := ?_)
    rintro _ _ ⟨rfl, rfl⟩
    repeat (first | simp [F] | simp (disch := omega) only [wC, if_pos, if_neg])
    refine hJ11 _ _ ?_
    refine hK10 _ _ ?_
    refine sq fun K12 hK12 => ?_
    refine rg' (h := fun J13 hJ13 => ?_)
    refine ca (c := hc1 _) (k := ?_)
    rintro _ _ ⟨rfl, rfl⟩
    repeat (first | simp [F] | simp (disch := omega) only [wC, if_pos, if_neg])
    refine hJ13 _ _ ?_
    refine hK12 _ _ ?_
    refine sq fun K14 hK14 => ?_
    refine sq fun K15 hK15 => ?_
    refine run_draw (by kernel_rfl) fun J16 hJ16 => ?_
    refine rp2 0 (k := ?_)
    refine rp2 1 (k := ?_)
    refine rp2 2 (k := ?_)
    refine dc 3 rfl (c := hc2 _) (k := ?_)
    rintro _ _ ⟨rfl, rfl⟩
    refine ⟨by first | exact fun _ _ h => h | (refine later_list [0] (by kernel_rfl) (List.forall_mem_cons.2 ⟨fun _ => fact2 rfl rfl ?_, fun _ h => absurd h List.not_mem_nil⟩) <;> constructor <;> first | rfl | (simp [F]; done)), ?_⟩
    repeat (first | simp [F] | simp (disch := omega) only [wC, if_pos, if_neg])
    refine dc 4 rfl (c := hsm _) (k := ?_)
    rintro _ _ ⟨rfl, rfl⟩
    refine ⟨ln, ?_⟩
    repeat (first | simp [F] | simp (disch := omega) only [wC, if_pos, if_neg])
    refine rp2 5 (k := ?_)
    refine rp2 6 (k := ?_)
    refine gd 28 (fun g5_6 => ?_) (fun g5_6 => ?_)
    · try exact nope g5_6
      all_goals have g5_6p := g5_6
      all_goals try simp [F] at g5_6p
      all_goals
       replace F := And.intro g5_6 F
       try replace F := And.intro g5_6p F
       refine rp2 7 (k := ?_)
       refine dop 8 rfl ?_
       repeat (first | simp [F] | simp (disch := omega) only [wC, if_pos, if_neg])
       refine rp2 9 (k := ?_)
       refine rp2 10 (k := ?_)
       refine dd ?_
       refine hJ16 _ _ ?_
       refine hK15 _ _ ?_
       refine ct ?_
       refine sq fun K17 hK17 => ?_
       refine rg' (h := fun J18 hJ18 => ?_)
       refine hJ18 _ _ ?_
       refine hK17 _ _ ?_
       refine run_ret ?_
       try simp only [Then, InBlock, NoGoto]
       refine answer_tmp rfl (.inr rfl) ?_
       exact gcr
    try exact nope g5_6
    all_goals have g5_6p := g5_6
    all_goals try simp [F] at g5_6p
    all_goals
     replace F := And.intro g5_6 F
     try replace F := And.intro g5_6p F
     refine rp2 7 (k := ?_)
     refine dc 8 rfl (c := hrg _) (k := ?_)
     rintro _ _ ⟨rfl, rfl⟩
     refine ⟨by first | exact fun _ _ h => h | (refine later_list [5] (by kernel_rfl) (List.forall_mem_cons.2 ⟨fun _ => fact2 rfl rfl ?_, fun _ h => absurd h List.not_mem_nil⟩) <;> constructor <;> first | rfl | (simp [F]; done)), ?_⟩
     repeat (first | simp [F] | simp (disch := omega) only [wC, if_pos, if_neg])
     refine rp2 9 (k := ?_)
     refine rp2 10 (k := ?_)
     refine dd ?_
     refine hJ16 _ _ ?_
     refine hK15 _ _ ?_
     refine cs (fun c32 => ?_) (fun c32 => ?_)
     · try exact nope c32
       all_goals have c32p := c32
       all_goals try simp [F] at c32p
       all_goals
        replace F := And.intro c32 F
        try replace F := And.intro c32p F
        refine sq fun K19 hK19 => ?_
        refine rg' (h := fun J20 hJ20 => ?_)
        refine hJ20 _ _ ?_
        refine hK19 _ _ ?_
        refine run_ret ?_
        try simp only [Then, InBlock, NoGoto]
        refine answer_tmp rfl (.inr rfl) ?_
        exact gcr
     try exact nope c32
     all_goals have c32p := c32
     all_goals try simp [F] at c32p
     all_goals
      replace F := And.intro c32 F
      try replace F := And.intro c32p F
      refine run_skip ?_
      refine hK14 _ _ ?_
      refine sq fun K21 hK21 => ?_
      refine sq fun K22 hK22 => ?_
      refine rg' (h := fun J23 hJ23 => ?_)
      refine hJ23 _ _ ?_
      refine hK22 _ _ ?_
      refine cs (fun c35 => ?_) (fun c35 => ?_)
      · try exact nope c35
        all_goals have c35p := c35
        all_goals try simp [F] at c35p
        all_goals
         replace F := And.intro c35 F
         try replace F := And.intro c35p F
         refine sq fun K24 hK24 => ?_
         refine rg' (h := fun J25 hJ25 => ?_)
         refine hJ25 _ _ ?_
         refine hK24 _ _ ?_
         refine run_ret ?_
         try simp only [Then, InBlock, NoGoto]
         refine answer_tmp rfl (.inr rfl) ?_
         exact gcr
      try exact nope c35
      all_goals have c35p := c35
      all_goals try simp [F] at c35p
      all_goals
       replace F := And.intro c35 F
       try replace F := And.intro c35p F
       obtain rfl := hlock (by have h := c35; simp at h; omega)
       refine run_skip ?_
       refine hK21 _ _ ?_
       refine sq fun K26 hK26 => ?_
       refine sq fun K27 hK27 => ?_
       refine run_draw (by kernel_rfl) fun J28 hJ28 => ?_
       refine rp2 0 (k := ?_)
       refine rp2 1 (k := ?_)
       refine rp2 2 (k := ?_)
       refine rp2 3 (k := ?_)
       refine gd 39 (fun g9_3 => ?_) (fun g9_3 => ?_)
       · try exact nope g9_3
         all_goals have g9_3p := g9_3
         all_goals try simp [F] at g9_3p
         all_goals
          replace F := And.intro g9_3 F
          try replace F := And.intro g9_3p F
          obtain rfl := hfree (.inl ((hkn 3).2 (by simpa using g9_3)))
          refine rp2 4 (k := ?_)
          refine rp2 5 (k := ?_)
          refine rp2 6 (k := ?_)
          refine rp2 7 (k := ?_)
          refine rp2 8 (k := ?_)
          refine rp2 9 (k := ?_)
          refine rp2 10 (k := ?_)
          refine rp2 11 (k := ?_)
          refine rp2 12 (k := ?_)
          refine dc 13 rfl (c := cv _) (k := ?_)
          rintro _ _ ⟨rfl, rfl⟩
          refine ⟨by first | exact fun _ _ h => h | (refine later_list [10, 9, 7, 6, 5, 4, 3, 2, 1, 0] (by kernel_rfl) (List.forall_mem_cons.2 ⟨fun _ => fact2 rfl rfl ?_, List.forall_mem_cons.2 ⟨fun _ => fact2 rfl rfl ?_, List.forall_mem_cons.2 ⟨fun _ => fact2 rfl rfl ?_, List.forall_mem_cons.2 ⟨fun _ => fact2 rfl rfl ?_, List.forall_mem_cons.2 ⟨fun _ => fact2 rfl rfl ?_, List.forall_mem_cons.2 ⟨fun _ => fact2 rfl rfl ?_, List.forall_mem_cons.2 ⟨fun _ => fact2 rfl rfl ?_, List.forall_mem_cons.2 ⟨fun _ => fact2 rfl rfl ?_, List.forall_mem_cons.2 ⟨fun _ => fact2 rfl rfl ?_, List.forall_mem_cons.2 ⟨fun _ => fact2 rfl rfl ?_, fun _ h => absurd h List.not_mem_nil⟩⟩⟩⟩⟩⟩⟩⟩⟩⟩) <;> constructor <;> first | rfl | (simp [F]; done)), ?_⟩
          repeat (first | simp [F] | simp (disch := omega) only [wC, if_pos, if_neg])
          refine dc 14 rfl (c := hS _) (k := ?_)
          rintro _ _ ⟨rfl, rfl⟩
          refine ⟨by first | exact fun _ _ h => h | (refine later_list [9, 7, 6, 5, 4, 3, 2, 1, 0] (by kernel_rfl) (List.forall_mem_cons.2 ⟨fun _ => fact2 rfl rfl ?_, List.forall_mem_cons.2 ⟨fun _ => fact2 rfl rfl ?_, List.forall_mem_cons.2 ⟨fun _ => fact2 rfl rfl ?_, List.forall_mem_cons.2 ⟨fun _ => fact2 rfl rfl ?_, List.forall_mem_cons.2 ⟨fun _ => fact2 rfl rfl ?_, List.forall_mem_cons.2 ⟨fun _ => fact2 rfl rfl ?_, List.forall_mem_cons.2 ⟨fun _ => fact2 rfl rfl ?_, List.forall_mem_cons.2 ⟨fun _ => fact2 rfl rfl ?_, List.forall_mem_cons.2 ⟨fun _ => fact2 rfl rfl ?_, fun _ h => absurd h List.not_mem_nil⟩⟩⟩⟩⟩⟩⟩⟩⟩) <;> constructor <;> first | rfl | (simp [F]; done)), ?_⟩
          repeat (first | simp [F] | simp (disch := omega) only [wC, if_pos, if_neg])
          refine rp2 15 (k := ?_)
          refine rp2 16 (k := ?_)
          refine dd ?_
          refine hJ28 _ _ ?_
          refine hK27 _ _ ?_
          refine cs (fun c52 => ?_) (fun c52 => ?_)
          · try exact nope c52
            all_goals have c52p := c52
            all_goals try simp [F] at c52p
            all_goals
             replace F := And.intro c52 F
             try replace F := And.intro c52p F
             refine sq fun K29 hK29 => ?_
             refine rg' (h := fun J30 hJ30 => ?_)
             refine hJ30 _ _ ?_
             refine hK29 _ _ ?_
             refine run_ret ?_
             try simp only [Then, InBlock, NoGoto]
             refine answer_tmp rfl (.inr rfl) ?_
             exact gcr
          try exact nope c52
          all_goals have c52p := c52
          all_goals try simp [F] at c52p
          all_goals
           replace F := And.intro c52 F
           try replace F := And.intro c52p F
           refine run_skip ?_
           refine hK26 _ _ ?_
           refine sq fun K31 hK31 => ?_
           refine rg' (h := fun J32 hJ32 => ?_)
           refine ca (c := cl _) (k := ?_)
           rintro _ _ ⟨rfl, rfl⟩
           repeat (first | simp [F] | simp (disch := omega) only [wC, if_pos, if_neg])
           refine hJ32 _ _ ?_
           refine hK31 _ _ ?_
           refine run_ret ?_
           try simp only [Then, InBlock, NoGoto]
           refine answer_tmp rfl (.inr rfl) ?_
           exact gcr
       try exact nope g9_3
       all_goals have g9_3p := g9_3
       all_goals try simp [F] at g9_3p
       all_goals
        replace F := And.intro g9_3 F
        try replace F := And.intro g9_3p F
        refine rp2 4 (k := ?_)
        refine rp2 5 (k := ?_)
        refine rp2 6 (k := ?_)
        refine rp2 7 (k := ?_)
        refine rp2 8 (k := ?_)
        refine gd 44 (fun g9_8 => ?_) (fun g9_8 => ?_)
        · try exact nope g9_8
          all_goals have g9_8p := g9_8
          all_goals try simp [F] at g9_8p
          all_goals
           replace F := And.intro g9_8 F
           try replace F := And.intro g9_8p F
           obtain rfl := hfree (.inr ((hkn 5).2 (by simpa using g9_8)))
           refine rp2 9 (k := ?_)
           refine rp2 10 (k := ?_)
           refine rp2 11 (k := ?_)
           refine rp2 12 (k := ?_)
           refine dc 13 rfl (c := cv _) (k := ?_)
           rintro _ _ ⟨rfl, rfl⟩
           refine ⟨by first | exact fun _ _ h => h | (refine later_list [10, 9, 7, 6, 5, 4, 3, 2, 1, 0] (by kernel_rfl) (List.forall_mem_cons.2 ⟨fun _ => fact2 rfl rfl ?_, List.forall_mem_cons.2 ⟨fun _ => fact2 rfl rfl ?_, List.forall_mem_cons.2 ⟨fun _ => fact2 rfl rfl ?_, List.forall_mem_cons.2 ⟨fun _ => fact2 rfl rfl ?_, List.forall_mem_cons.2 ⟨fun _ => fact2 rfl rfl ?_, List.forall_mem_cons.2 ⟨fun _ => fact2 rfl rfl ?_, List.forall_mem_cons.2 ⟨fun _ => fact2 rfl rfl ?_, List.forall_mem_cons.2 ⟨fun _ => fact2 rfl rfl ?_, List.forall_mem_cons.2 ⟨fun _ => fact2 rfl rfl ?_, List.forall_mem_cons.2 ⟨fun _ => fact2 rfl rfl ?_, fun _ h => absurd h List.not_mem_nil⟩⟩⟩⟩⟩⟩⟩⟩⟩⟩) <;> constructor <;> first | rfl | (simp [F]; done)), ?_⟩
           repeat (first | simp [F] | simp (disch := omega) only [wC, if_pos, if_neg])
           refine dc 14 rfl (c := hS _) (k := ?_)
           rintro _ _ ⟨rfl, rfl⟩
           refine ⟨by first | exact fun _ _ h => h | (refine later_list [9, 7, 6, 5, 4, 3, 2, 1, 0] (by kernel_rfl) (List.forall_mem_cons.2 ⟨fun _ => fact2 rfl rfl ?_, List.forall_mem_cons.2 ⟨fun _ => fact2 rfl rfl ?_, List.forall_mem_cons.2 ⟨fun _ => fact2 rfl rfl ?_, List.forall_mem_cons.2 ⟨fun _ => fact2 rfl rfl ?_, List.forall_mem_cons.2 ⟨fun _ => fact2 rfl rfl ?_, List.forall_mem_cons.2 ⟨fun _ => fact2 rfl rfl ?_, List.forall_mem_cons.2 ⟨fun _ => fact2 rfl rfl ?_, List.forall_mem_cons.2 ⟨fun _ => fact2 rfl rfl ?_, List.forall_mem_cons.2 ⟨fun _ => fact2 rfl rfl ?_, fun _ h => absurd h List.not_mem_nil⟩⟩⟩⟩⟩⟩⟩⟩⟩) <;> constructor <;> first | rfl | (simp [F]; done)), ?_⟩
           repeat (first | simp [F] | simp (disch := omega) only [wC, if_pos, if_neg])
           refine rp2 15 (k := ?_)
           refine rp2 16 (k := ?_)
           refine dd ?_
           refine hJ28 _ _ ?_
           refine hK27 _ _ ?_
           refine cs (fun c52 => ?_) (fun c52 => ?_)
           · try exact nope c52
             all_goals have c52p := c52
             all_goals try simp [F] at c52p
             all_goals
              replace F := And.intro c52 F
              try replace F := And.intro c52p F
              refine sq fun K33 hK33 => ?_
              refine rg' (h := fun J34 hJ34 => ?_)
              refine hJ34 _ _ ?_
              refine hK33 _ _ ?_
              refine run_ret ?_
              try simp only [Then, InBlock, NoGoto]
              refine answer_tmp rfl (.inr rfl) ?_
              exact gcr
           try exact nope c52
           all_goals have c52p := c52
           all_goals try simp [F] at c52p
           all_goals
            replace F := And.intro c52 F
            try replace F := And.intro c52p F
            refine run_skip ?_
            refine hK26 _ _ ?_
            refine sq fun K35 hK35 => ?_
            refine rg' (h := fun J36 hJ36 => ?_)
            refine ca (c := cl _) (k := ?_)
            rintro _ _ ⟨rfl, rfl⟩
            repeat (first | simp [F] | simp (disch := omega) only [wC, if_pos, if_neg])
            refine hJ36 _ _ ?_
            refine hK35 _ _ ?_
            refine run_ret ?_
            try simp only [Then, InBlock, NoGoto]
            refine answer_tmp rfl (.inr rfl) ?_
            exact gcr
        try exact nope g9_8
        all_goals have g9_8p := g9_8
        all_goals try simp [F] at g9_8p
        all_goals
         replace F := And.intro g9_8 F
         try replace F := And.intro g9_8p F
         refine rp2 9 (k := ?_)
         refine rp2 10 (k := ?_)
         refine rp2 11 (k := ?_)
         refine rp2 12 (k := ?_)
         refine dop 13 rfl ?_
         repeat (first | simp [F] | simp (disch := omega) only [wC, if_pos, if_neg])
         refine dop 14 rfl ?_
         repeat (first | simp [F] | simp (disch := omega) only [wC, if_pos, if_neg])
         refine rp2 15 (k := ?_)
         refine rp2 16 (k := ?_)
         refine dd ?_
         refine hJ28 _ _ ?_
         refine hK27 _ _ ?_
         refine cf ?_
         refine run_skip ?_
         refine hK26 _ _ ?_
         refine sq fun K37 hK37 => ?_
         refine rg' (h := fun J38 hJ38 => ?_)
         refine ca (c := cl _) (k := ?_)
         rintro _ _ ⟨rfl, rfl⟩
         repeat (first | simp [F] | simp (disch := omega) only [wC, if_pos, if_neg])
         refine hJ38 _ _ ?_
         refine hK37 _ _ ?_
         refine run_ret ?_
         try simp only [Then, InBlock, NoGoto]
         refine answer_tmp rfl (.inr rfl) ?_
         exact gcr

end Go.Proofs.Ytdbaddholggkbaa

/-
  Lists of coins: what both readers make of a list's bytes.
-/
namespace Go.Proofs.Ytdbaddholggkbaa
set_option linter.unnecessarySimpa false
open Go Go.Vm
set_option linter.unusedSimpArgs false
set_option linter.unusedVariables false
set_option maxRecDepth 100000

attribute [local simp] evalL wantedA isCall opA evalA evalAll evalsA evalOpt ofValue ofCell plain binA_eql_pn binA_neq_pn binA_gtr binA_lss binA_geq binA_leq binA_add binA_sub binA_eql binA_neq binA_or binA_shl binA_shr binA_mul binA_quo binA_rem binA_agg_eql binA_agg_neq convA_int unA_not fieldAddrA loadA partA pickA_true pickA_false pickA_bb lenA builtinA storeA splice AV.cells AV.isCell sliceA boundA intA callOf indexAddrA newObjA buildA fillA zeroA ofCells indexA fieldA coinsC_at

/-- A list that is being made: the nil list, or one that may be appended to. -/
def slA (k : Nat) (l : List Coin) : AV := if l = [] then .sl 0 [] 0 .full else .sl 5 (coinsC l) l.length (.own k)
def tkA (l : List Coin) : List Nat := if l = [] then [] else [l.length]

@[simp] theorem slA_nil (k : Nat) : slA k [] = .sl 0 [] 0 .full := rfl
@[simp] theorem tkA_nil : tkA [] = [] := rfl

structure CSt where
  m : Nat
  s : Option (List UInt8)
  l : List Coin

end Go.Proofs.Ytdbaddholggkbaa

/-
  Arguments: numbers, lists of coins, plans.
-/
namespace Go.Vm
set_option linter.unnecessarySimpa false
set_option linter.unusedVariables false
open Go

theorem leavesF_mono {go go' : TypeId → Option (List TypeId)} (h : ∀ t l, go t = some l → go' t = some l) : ∀ (fs : List Field) (acc ls : List TypeId), leavesF go fs acc = some ls → leavesF go' fs acc = some ls
  | [], acc, ls, e => e
  | f :: fs, acc, ls, e => by
    simp only [leavesF] at e ⊢
    split at e
    · rename_i hf
      rw [if_pos hf]
      cases hg : go f.type with
      | none => rw [hg] at e; cases e
      | some l =>
        rw [hg] at e
        rw [h _ _ hg]
        exact leavesF_mono h fs _ ls e
    · cases e

theorem leaves_succ {P : Program} : ∀ (n : Nat) (t : TypeId) (l : List TypeId), leaves P n t = some l → leaves P (n + 1) t = some l
  | 0, t, l, h => by simp [leaves] at h
  | n + 1, t, l, h => by
    have ih := leaves_succ (P := P) n
    rw [leaves] at h ⊢
    split at h
    · exact h
    · exact h
    · exact h
    · rename_i e hu
      cases hg : leaves P n e with
      | none => rw [hg] at h; cases h
      | some l' => rw [hg] at h; simp only [ih _ _ hg]; exact h
    · rename_i fs hu
      cases hg : leavesF (leaves P n) fs.toList [] with
      | none => rw [hg] at h; cases h
      | some l' => rw [hg] at h; simp only [leavesF_mono ih _ _ _ hg]; exact h
    · rename_i k e hu
      cases hg : leaves P n e with
      | none => rw [hg] at h; cases h
      | some l' => rw [hg] at h; simp only [ih _ _ hg]; exact h
    · cases h

theorem leaves_add {P : Program} {n : Nat} {t : TypeId} {l : List TypeId} (h : leaves P n t = some l) : ∀ k, leaves P (n + k) t = some l
  | 0 => h
  | k + 1 => leaves_succ _ _ _ (leaves_add h k)
theorem leaves_one {P : Program} {n m : Nat} {t : TypeId} {l l' : List TypeId} (h : leaves P n t = some l) (h' : leaves P m t = some l') : l = l' := by
  have h1 := leaves_add h m
  have h2 := leaves_add h' n
  rw [Nat.add_comm] at h2
  rw [h1] at h2
  exact Option.some.inj h2

theorem join4' {a b c d : Nat} (ha : a < 2 ^ 64) (hb : b < 2 ^ 64) (hc : c < 2 ^ 64) (hd : d < 2 ^ 64) : ∃ x, x < 2 ^ 256 ∧ limb x 0 = a ∧ limb x 1 = b ∧ limb x 2 = c ∧ limb x 3 = d := by
  refine ⟨a + 2 ^ 64 * (b + 2 ^ 64 * (c + 2 ^ 64 * d)), ?_, ?_, ?_, ?_, ?_⟩ <;> (try simp only [limb, Nat.reduceMul, Nat.reducePow]) <;> omega

theorem u64_of' {P : Program} {u : TypeId} {a : AV} (hu : P.underlying u = some (.int .u64)) (w : WC P u a) : ∃ n : Nat, n < 2 ^ 64 ∧ a = .v (.int .u64 n) := by
  cases w with
  | bool h => rw [hu] at h; cases h
  | string h _ => rw [hu] at h; cases h
  | slice h _ _ _ _ => rw [hu] at h; cases h
  | int h hw =>
    rename_i k n
    rw [hu] at h
    cases h
    have m1 : IntKind.u64.min = 0 := rfl
    have m2 : IntKind.u64.max = 18446744073709551615 := rfl
    simp [Lit.wf, m1, m2] at hw
    exact ⟨n.toNat, by omega, by congr 2; omega⟩
theorem u8_of {P : Program} {u : TypeId} {a : AV} (hu : P.underlying u = some (.int .u8)) (w : WC P u a) : ∃ b : UInt8, a = .v (.int .u8 b.toNat) := by
  cases w with
  | bool h => rw [hu] at h; cases h
  | string h _ => rw [hu] at h; cases h
  | slice h _ _ _ _ => rw [hu] at h; cases h
  | int h hw =>
    rename_i k n
    rw [hu] at h
    cases h
    have m1 : IntKind.u8.min = 0 := rfl
    have m2 : IntKind.u8.max = 255 := rfl
    simp [Lit.wf, m1, m2] at hw
    refine ⟨UInt8.ofNat n.toNat, ?_⟩
    have e : (UInt8.ofNat n.toNat).toNat = n.toNat := toNat_u8 (by omega)
    rw [e]
    congr 2; omega

theorem num_of {P : Program} {u : TypeId} {a b c d : AV} (hu : P.underlying u = some (.int .u64)) (ha : WC P u a) (hb : WC P u b) (hc : WC P u c) (hd : WC P u d) : ∃ x : Num, [a, b, c, d] = numA x.v := by
  obtain ⟨na, ga, rfl⟩ := u64_of' hu ha
  obtain ⟨nb, gb, rfl⟩ := u64_of' hu hb
  obtain ⟨nc, gc, rfl⟩ := u64_of' hu hc
  obtain ⟨nd, gd, rfl⟩ := u64_of' hu hd
  obtain ⟨x, hx, x0, x1, x2, x3⟩ := join4' ga gb gc gd
  exact ⟨⟨x, hx⟩, by simp [numA, x0, x1, x2, x3]⟩

/-- Cells that come in groups of one kind. -/
theorem groups {P : Program} {α : Type} {f : α → List AV} {ls : List TypeId} (hl : 0 < ls.length) (hf : ∀ a, (f a).length = ls.length)
    (one : ∀ cs : List AV, cs.length = ls.length → (∀ (j : Nat) a u, cs[j]? = some a → ls[j]? = some u → WC P u a) → ∃ x, cs = f x) :
    ∀ (n : Nat) (cs : List AV), cs.length = n * ls.length → (∀ (j : Nat) a u, cs[j]? = some a → ls[j % ls.length]? = some u → WC P u a) → ∃ l : List α, l.length = n ∧ cs = l.flatMap f
  | 0, cs, h, _ => ⟨[], rfl, by simpa using h⟩
  | n + 1, cs, h, hc => by
    have hle : ls.length ≤ cs.length := by rw [h, Nat.add_mul]; omega
    obtain ⟨x, hx⟩ := one (cs.take ls.length) (by simp; omega) (fun j a u ha hu => by
      have hj : j < ls.length := (List.getElem?_eq_some_iff.1 hu).1
      rw [List.getElem?_take, if_pos hj] at ha
      exact hc j a u ha (by rw [Nat.mod_eq_of_lt hj]; exact hu))
    obtain ⟨l, hln, hl2⟩ := groups hl hf one n (cs.drop ls.length) (by rw [List.length_drop, h, Nat.add_mul]; omega) (fun j a u ha hu => by
      rw [List.getElem?_drop] at ha
      exact hc (ls.length + j) a u ha (by rw [Nat.add_mod_left]; exact hu))
    exact ⟨x :: l, by simp [hln], by rw [List.flatMap_cons, ← hx, ← hl2, List.take_append_drop]⟩

theorem coins_of {P : Program} {t e tb u : TypeId} {k : Nat} {a : AV} (ht : P.underlying t = some (.slice e)) (hle : leaves P k e = some [tb, u, u, u, u]) (hb : P.underlying tb = some (.int .u8)) (hu : P.underlying u = some (.int .u64)) (w : WC P t a) : ∃ L : List Coin, a = .sl 5 (coinsC L) L.length .shut := by
  cases w with
  | bool h => rw [ht] at h; cases h
  | string h _ => rw [ht] at h; cases h
  | int h _ => rw [ht] at h; cases h
  | slice h hls hl hn hc =>
    rw [ht] at h
    cases h
    rename_i fuel ls cs n
    obtain rfl := leaves_one hle hls
    obtain ⟨L, hL, rfl⟩ := groups (f := coinC) (ls := [tb, u, u, u, u]) (by simp) (fun _ => rfl) (fun cs h1 h2 => by
      obtain ⟨a0, a1, a2, a3, a4, rfl⟩ : ∃ a0 a1 a2 a3 a4, cs = [a0, a1, a2, a3, a4] := by
        match cs, h1 with
        | [a0, a1, a2, a3, a4], _ => exact ⟨a0, a1, a2, a3, a4, rfl⟩
      obtain ⟨b, hb⟩ := u8_of hb (h2 0 a0 tb rfl rfl)
      obtain ⟨x, hx⟩ := num_of hu (h2 1 a1 u rfl rfl) (h2 2 a2 u rfl rfl) (h2 3 a3 u rfl rfl) (h2 4 a4 u rfl rfl)
      exact ⟨⟨b, x⟩, by rw [hb, hx]; rfl⟩) n cs hl hc
    exact ⟨L, by rw [← hL]; rfl⟩

theorem wc_len {P : Program} {t : TypeId} {sz n : Nat} {cs : List AV} {tl : Tail} (w : WC P t (.sl sz cs n tl)) : n ≤ 9223372036854775807 := by
  generalize hx : AV.sl sz cs n tl = x at w
  cases w with
  | bool h => cases hx
  | string h _ => cases hx
  | int h _ => cases hx
  | slice h hls hl hn hc => cases hx; exact hn

end Go.Vm

/-
  Arguments: what a plan is made of.
-/
namespace Go.Vm
set_option linter.unnecessarySimpa false
set_option linter.unusedVariables false
open Go

theorem u32_of {P : Program} {u : TypeId} {a : AV} (hu : P.underlying u = some (.int .u32)) (w : WC P u a) : ∃ n : Nat, n < 2 ^ 32 ∧ a = .v (.int .u32 n) := by
  cases w with
  | bool h => rw [hu] at h; cases h
  | string h _ => rw [hu] at h; cases h
  | slice h _ _ _ _ => rw [hu] at h; cases h
  | int h hw =>
    rename_i k n
    rw [hu] at h
    cases h
    have m1 : IntKind.u32.min = 0 := rfl
    have m2 : IntKind.u32.max = 4294967295 := rfl
    simp [Lit.wf, m1, m2] at hw
    exact ⟨n.toNat, by omega, by congr 2; omega⟩
theorem u16_of {P : Program} {u : TypeId} {a : AV} (hu : P.underlying u = some (.int .u16)) (w : WC P u a) : ∃ n : Nat, n < 2 ^ 16 ∧ a = .v (.int .u16 n) := by
  cases w with
  | bool h => rw [hu] at h; cases h
  | string h _ => rw [hu] at h; cases h
  | slice h _ _ _ _ => rw [hu] at h; cases h
  | int h hw =>
    rename_i k n
    rw [hu] at h
    cases h
    have m1 : IntKind.u16.min = 0 := rfl
    have m2 : IntKind.u16.max = 65535 := rfl
    simp [Lit.wf, m1, m2] at hw
    exact ⟨n.toNat, by omega, by congr 2; omega⟩
theorem pcs_of {P : Program} {t e u tc ec tb : TypeId} {k k2 : Nat} {a : AV} (ht : P.underlying t = some (.slice e)) (hle : leaves P k e = some [u, tc]) (hu : P.underlying u = some (.int .u16)) (hb : P.underlying tb = some (.int .u8)) {un : TypeId} (hun : P.underlying un = some (.int .u64))
    (htc : P.underlying tc = some (.slice ec)) (hlc : leaves P k2 ec = some [tb, un, un, un, un]) (w : WC P t a) : ∃ L : List Pc, a = .sl 2 (pcsC L) L.length .shut ∧ L.length ≤ 9223372036854775807 ∧ ∀ x ∈ L, x.l < 2 ^ 16 ∧ x.c.length ≤ 9223372036854775807 := by
  have w0 := w
  cases w with
  | bool h => rw [ht] at h; cases h
  | string h _ => rw [ht] at h; cases h
  | int h _ => rw [ht] at h; cases h
  | slice h hls hl hn hc =>
    rw [ht] at h
    cases h
    rename_i fuel ls cs n
    obtain rfl := leaves_one hle hls
    obtain ⟨L, hL, rfl⟩ := groups (α := { x : Pc // x.l < 2 ^ 16 ∧ x.c.length ≤ 9223372036854775807 }) (f := fun x => pcC x.1) (ls := [u, tc]) (by simp) (fun _ => rfl) (fun cs h1 h2 => by
      obtain ⟨a0, a1, rfl⟩ : ∃ a0 a1, cs = [a0, a1] := by
        match cs, h1 with
        | [a0, a1], _ => exact ⟨a0, a1, rfl⟩
      obtain ⟨m, hm, e0⟩ := u16_of hu (h2 0 a0 u rfl rfl)
      have w1 := h2 1 a1 tc rfl rfl
      obtain ⟨M, hM⟩ := coins_of htc hlc hb hun w1
      subst hM
      exact ⟨⟨⟨m, M⟩, hm, wc_len w1⟩, by rw [e0]; rfl⟩) n cs hl hc
    refine ⟨L.map Subtype.val, ?_, by rw [List.length_map, hL]; exact hn, fun x hx => ?_⟩
    · rw [List.length_map, hL]
      show AV.sl 2 _ n .shut = _
      congr 1
      simp [pcsC]
    · obtain ⟨y, _, rfl⟩ := List.mem_map.1 hx
      exact y.2

theorem mad_of {P : Program} {tk u32 u16 tc tp e ec tb un : TypeId} {k k2 : Nat} {l : List AV} (h1 : l.length = [tk, u32, u16, tc, tp].length) (h2 : ∀ (j : Nat) a v, l[j]? = some a → [tk, u32, u16, tc, tp][j]? = some v → WC P v a) (hk : P.underlying tk = some (.int .u8)) (h32 : P.underlying u32 = some (.int .u32)) (h16 : P.underlying u16 = some (.int .u16)) (hb : P.underlying tb = some (.int .u8)) (hun : P.underlying un = some (.int .u64))
    (htc : P.underlying tc = some (.slice ec)) (hlc : leaves P k2 ec = some [tb, un, un, un, un]) (htp : P.underlying tp = some (.slice e)) (hle : leaves P k e = some [u16, tc]) : ∃ m : Mad, l = madC m ∧ m.Ok ∧ m.Len := by
  obtain ⟨a0, a1, a2, a3, a4, rfl⟩ : ∃ a0 a1 a2 a3 a4, l = [a0, a1, a2, a3, a4] := by
    match l, h1 with
    | [a0, a1, a2, a3, a4], _ => exact ⟨a0, a1, a2, a3, a4, rfl⟩
  obtain ⟨b, e0⟩ := u8_of hk (h2 0 a0 _ rfl rfl)
  obtain ⟨s, hs, e1⟩ := u32_of h32 (h2 1 a1 _ rfl rfl)
  obtain ⟨n, hn, e2⟩ := u16_of h16 (h2 2 a2 _ rfl rfl)
  have w3 := h2 3 a3 _ rfl rfl
  obtain ⟨M, e3⟩ := coins_of htc hlc hb hun w3
  subst e3
  obtain ⟨L, e4, hL, h5⟩ := pcs_of htp hle h16 hb hun htc hlc (h2 4 a4 _ rfl rfl)
  exact ⟨⟨b, s, n, M, L⟩, by rw [e0, e1, e2, e4]; rfl, ⟨hs, hn, fun x hx => (h5 x hx).1⟩, wc_len w3, hL, fun x hx => (h5 x hx).2⟩

theorem mad_arg {n k k2 : Nat} {P : Program} {t tk u32 u16 tc tp e ec tb un : TypeId} {H : Type} {enc : TypeId × Value → H} {W : World} {spare : Nat → Bool} {cs : Array Value} {d : DataW H} {ps : List MemPlace} (hl : leaves P n t = some [tk, u32, u16, tc, tp]) (hk : P.underlying tk = some (.int .u8)) (h32 : P.underlying u32 = some (.int .u32)) (h16 : P.underlying u16 = some (.int .u16)) (hb : P.underlying tb = some (.int .u8)) (hun : P.underlying un = some (.int .u64))
    (htc : P.underlying tc = some (.slice ec)) (hlc : leaves P k2 ec = some [tb, un, un, un, un]) (htp : P.underlying tp = some (.slice e)) (hle : leaves P k e = some [u16, tc])
    (h : DataW.Trod enc P W 0 spare true t (.agg cs) d ps) : ∃ m : Mad, m.Ok ∧ m.Len ∧ AVR (atFirst W) W (.agg cs) (.agg (madC m)) := by
  obtain ⟨l, h1, h2, h3, h4⟩ := open_arg hl h
  have hc : Value.cells (.agg cs) = cs := rfl
  rw [hc] at h2 h3
  obtain ⟨m, rfl, hm⟩ := mad_of h1 h4 hk h32 h16 hb hun htc hlc htp hle
  exact ⟨m, hm.1, hm.2, .agg h2 h3⟩

end Go.Vm
