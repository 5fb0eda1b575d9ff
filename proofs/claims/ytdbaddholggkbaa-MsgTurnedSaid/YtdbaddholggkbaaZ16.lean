import Derived.Test.YtdbaddholggkbaaZ7
import Derived.Test.YtdbaddholggkbaaZ15
import Derived.Test.YtdbaddholggkbaaZ12
import Derived.Test.YtdbaddholggkbaaZ14
/-
  A message is read of any bytes, by the document..
-/
namespace Go.Proofs.Ytdbaddholggkbaa
set_option linter.unnecessarySimpa false
set_option maxRecDepth 100000
open Go Go.Vm
set_option linter.unusedSimpArgs false
set_option linter.unusedVariables false
attribute [local simp] evalL wantedA isCall opA evalA evalAll evalsA evalOpt ofValue ofCell plain binA_eql_pn binA_neq_pn binA_gtr binA_lss binA_geq binA_leq binA_add binA_sub binA_eql binA_neq binA_orI binA_shl binA_shr binA_mul binA_quo binA_rem binA_agg_eql binA_agg_neq convA_int unA_not fieldAddrA loadA partA pickA_true pickA_false pickA_bb lenA builtinA storeA splice AV.cells AV.isCell sliceA boundA intA callOf indexAddrA newObjA buildA fillA zeroA ofCells buildSliceA indexA fieldA numA_len4 numA_take4 numA_drop4 set_appN get_appN take_appN List.getElem?_cons_zero List.getElem?_cons_succ makeA zeros64

def msgB (k : UInt8) (bE bT bV bO bN bC bU bP bM bQ bJ : Bool) (s SE ST SV SO SN SC SU SP SM SQ : Option (List UInt8)) : Msg := ⟨k, bif bE then 0 else byteS s, bif bE then 0 else be (takeB 8 (takeS 1 s)), bif bE then [] else coinsL (takeS 8 (takeS 1 s)),
  bif bT then byteS SE else 0, bif bV then byteS ST else 0, bif bO then byteS SV else 0, bif bN then numN SO else ⟨0, by decide⟩,
  bif bC then coinsL SN else [], bif bU then (outsR SC).1 else [], bif bP then takeP SU else ⟨0, 0, 0, [], []⟩,
  bif bM then be (takeB 8 SP) else 0, bif bQ then be (takeB 2 SM) else 0, bJ && (be (takeB 1 SQ) == 1)⟩
theorem msgB_ok (k : UInt8) (bE bT bV bO bN bC bU bP bM bQ bJ : Bool) (s SE ST SV SO SN SC SU SP SM SQ : Option (List UInt8)) : (msgB k bE bT bV bO bN bC bU bP bM bQ bJ s SE ST SV SO SN SC SU SP SM SQ).Ok := by
  have ho := outsGo_all (be (takeB 1 SC)) (takeS 1 SC) [] (by simp) (by have := be_lt1 (takeB_len 1 SC); simp; omega)
  have e1 : (outsR SC).1.length ≤ 255 := ho.1
  refine ⟨?_, ?_, ?_, ?_, fun x hx => ?_, ?_, ?_, ?_⟩
  · cases bE
    · exact be_lt8 _ (takeB_len 8 _)
    · show (0 : Nat) < _; decide
  · cases bE
    · have := coinsL_le (takeS 8 (takeS 1 s)); simp only [msgB, cond_false]; omega
    · simp [msgB]
  · cases bC
    · simp [msgB]
    · have := coinsL_le SN; simp only [msgB, cond_true]; omega
  · cases bU
    · simp [msgB]
    · simp only [msgB, cond_true]; omega
  · cases bU
    · simp [msgB] at hx
    · have := ho.2 x hx; omega
  · cases bP
    · simp [msgB, Pln.Ok]
    · exact takeP_ok _
  · cases bM
    · show (0 : Nat) < _; decide
    · exact be_lt8 _ (takeB_len 8 _)
  · cases bQ
    · show (0 : Nat) < _; decide
    · exact be_lt2 (takeB_len 2 _)
theorem hB_event (k : UInt8) (h : hasK k = true) : hB k 1024 = !decide (k.toNat < 32) := by
  have : ∀ k : UInt8, hasK k = true → hB k 1024 = !decide (k.toNat < 32) := fun k => u8_all (p := fun k => hasK k = true → hB k 1024 = !decide (k.toNat < 32)) (by decide +kernel) k
  exact this k h
theorem right_has {m : Msg} (h : hasK m.k = false) : rightM m = false := by simp [rightM, h]
theorem gcO_grO (n k : Nat) (b : Bool) (L : List Out) (m : Nat) : AV.gcO n (grA k 2 b (outsC L) m) = grA k 2 b (outsC L) m := by
  cases b <;> simp [AV.gcO, noObjL, outsC_noObj]
theorem noObj_grO (n k : Nat) (b : Bool) (L : List Out) (m : Nat) : AV.noObj n (grA k 2 b (outsC L) m) = true := by
  cases b <;> simp [AV.noObj, noObjL, outsC_noObj]

structure RSk where
  m : Nat
  s : Option (List UInt8)
  l : List Out
  k : Nat

set_option maxHeartbeats 1600000 in
attribute [local simp] undefA List.getElem?_cons_zero List.getElem?_cons_succ outsC_noObj persC_noObj plnC noObjL_inC allA_noObj gcO_grO noObj_grO in
set_option maxHeartbeats 1000000 in
theorem rmread_ok {σ : St} {p : List UInt8} (hp : p.length ≤ 1000000) :
    CallsA Try.prog 59 [.sl 1 (bytesA p) p.length .shut] σ (fun av σ' => av = .tup [.agg (msgC (decM p)), .v (.bool (decB p))] ∧ σ = σ') := by
  refine callsA_gcS ?_ (by simp [AV.under, underL, msgC, persC_under, outsC_under])
  have hMd : decM p = bif decB p then msgR (byteS (some p)) (takeS 1 (some p)) else zeroM := rfl
  obtain ⟨A, hA⟩ : ∃ A, A = decM p := ⟨_, rfl⟩
  obtain ⟨D, hD⟩ : ∃ D, D = decB p := ⟨_, rfl⟩
  rw [← hA, ← hD] at hMd ⊢
  unfold decB at hD
  have hby : ∀ {τ : St} {id : Nat}, τ.objs[id]? = some (inC p .shut 0 false) → CallsA Try.prog 84 [.ptr id 0] τ (fun av σ' => av = .v (.int .u8 ((byteS (some p)).toNat : Nat)) ∧ ∃ k', At p k' (takeS 1 (some p)) ∧ σ' = { τ with objs := τ.objs.set id (inC p .shut k' (takeS 1 (some p)).isNone) }) := fun h => by
    have := inByte_ok (s := some p) h hp ⟨Nat.zero_le _, .inr (by simp)⟩
    rw [be_byteS] at this
    exact this
  obtain ⟨x1, hx1⟩ : ∃ K, K = byteS (some p) := ⟨_, rfl⟩
  obtain ⟨s, hs⟩ : ∃ s, s = takeS 1 (some p) := ⟨_, rfl⟩
  simp only [← hx1, ← hs] at hby hD hMd
  clear hx1 hs hA
  have hkn : ∀ n : UInt8, x1 = n ↔ (x1.toNat : Int) = (n.toNat : Int) := fun n => ⟨fun e => by rw [e], fun e => UInt8.toNat_inj.1 (Int.ofNat_inj.1 e)⟩
  obtain ⟨b32, hb32⟩ : ∃ b, b = decide ((x1.toNat : Int) < 32) := ⟨_, rfl⟩
  obtain ⟨bE, hbE⟩ : ∃ b, b = !b32 := ⟨_, rfl⟩
  have hbE2 : b32 = !bE := by rw [hbE]; simp
  obtain ⟨bT, hbT⟩ : ∃ b, b = hB x1 1 := ⟨_, rfl⟩
  obtain ⟨bV, hbV⟩ : ∃ b, b = hB x1 2 := ⟨_, rfl⟩
  obtain ⟨bO, hbO⟩ : ∃ b, b = hB x1 4 := ⟨_, rfl⟩
  obtain ⟨bN, hbN⟩ : ∃ b, b = hB x1 8 := ⟨_, rfl⟩
  obtain ⟨bC, hbC⟩ : ∃ b, b = hB x1 16 := ⟨_, rfl⟩
  obtain ⟨bU, hbU⟩ : ∃ b, b = hB x1 32 := ⟨_, rfl⟩
  obtain ⟨bP, hbP⟩ : ∃ b, b = hB x1 64 := ⟨_, rfl⟩
  obtain ⟨bM, hbM⟩ : ∃ b, b = hB x1 128 := ⟨_, rfl⟩
  obtain ⟨bQ, hbQ⟩ : ∃ b, b = hB x1 256 := ⟨_, rfl⟩
  obtain ⟨bJ, hbJ⟩ : ∃ b, b = hB x1 512 := ⟨_, rfl⟩
  obtain ⟨SE, hSE⟩ : ∃ S, S = bif bE then s else coinsS (takeS 8 (takeS 1 s)) := ⟨_, rfl⟩
  obtain ⟨ST, hST⟩ : ∃ S, S = bif bT then takeS 1 SE else SE := ⟨_, rfl⟩
  obtain ⟨SV, hSV⟩ : ∃ S, S = bif bV then takeS 1 ST else ST := ⟨_, rfl⟩
  obtain ⟨SO, hSO⟩ : ∃ S, S = bif bO then takeS 1 SV else SV := ⟨_, rfl⟩
  obtain ⟨SN, hSN⟩ : ∃ S, S = bif bN then numS SO else SO := ⟨_, rfl⟩
  obtain ⟨SC, hSC⟩ : ∃ S, S = bif bC then coinsS SN else SN := ⟨_, rfl⟩
  obtain ⟨SU, hSU⟩ : ∃ S, S = bif bU then (outsR SC).2 else SC := ⟨_, rfl⟩
  obtain ⟨SP, hSP⟩ : ∃ S, S = bif bP then takeT SU else SU := ⟨_, rfl⟩
  obtain ⟨SM, hSM⟩ : ∃ S, S = bif bM then takeS 8 SP else SP := ⟨_, rfl⟩
  obtain ⟨SQ, hSQ⟩ : ∃ S, S = bif bQ then takeS 2 SM else SM := ⟨_, rfl⟩
  obtain ⟨SJ, hSJ⟩ : ∃ S, S = bif bJ then flagS SQ else SQ := ⟨_, rfl⟩
  obtain ⟨LU, hLU⟩ : ∃ L, L = bif bU then (outsR SC).1 else [] := ⟨_, rfl⟩
  obtain ⟨P, hP⟩ : ∃ P, P = takeP SU := ⟨_, rfl⟩
  have hptk : ∀ {τ : St} {id k : Nat}, τ.objs[id]? = some (inC p .shut k SU.isNone) → At p k SU → CallsA Try.prog 35 [.ptr id 0] τ (fun av σ' => av = .agg (plnC P) ∧ ∃ k', At p k' (takeT SU) ∧ σ' = { τ with objs := τ.objs.set id (inC p .shut k' (takeT SU).isNone) }) := fun h ha => by rw [hP]; exact rtake_ok h hp ha
  obtain ⟨M, hM⟩ : ∃ M, M = msgB x1 bE bT bV bO bN bC bU bP bM bQ bJ s SE ST SV SO SN SC SU SP SM SQ := ⟨_, rfl⟩
  have hMo : M.Ok := by rw [hM]; exact msgB_ok _ _ _ _ _ _ _ _ _ _ _ _ _ _ _ _ _ _ _ _ _ _ _
  have hMk : M.k = x1 := by rw [hM]; rfl
  have hMR : hasK x1 = true → M = msgR x1 s ∧ SJ = stJ x1 s := fun hk => by
    have h0 := hB_event x1 hk
    have h1 : hB x1 1024 = bE := by rw [h0, hbE, hb32]; congr 1; rw [Bool.eq_iff_iff]; simp; omega
    have eE : stE x1 s = SE := by rw [hSE]; simp only [stE, h1]
    have eT : stT x1 s = ST := by rw [hST]; simp only [stT, eE, ← hbT]
    have eV : stV x1 s = SV := by rw [hSV]; simp only [stV, eT, ← hbV]
    have eO : stO x1 s = SO := by rw [hSO]; simp only [stO, eV, ← hbO]
    have eN : stN x1 s = SN := by rw [hSN]; simp only [stN, eO, ← hbN]
    have eC : stC x1 s = SC := by rw [hSC]; simp only [stC, eN, ← hbC]
    have eU : stU x1 s = SU := by rw [hSU]; simp only [stU, eC, ← hbU]
    have eP : stP x1 s = SP := by rw [hSP]; simp only [stP, eU, ← hbP]
    have eM : stM x1 s = SM := by rw [hSM]; simp only [stM, eP, ← hbM]
    have eQ : stQ x1 s = SQ := by rw [hSQ]; simp only [stQ, eM, ← hbQ]
    refine ⟨?_, ?_⟩
    · rw [hM]; simp only [msgB, msgR, eE, eT, eV, eO, eN, eC, eU, eP, eM, eQ, h1, ← hbT, ← hbV, ← hbO, ← hbN, ← hbC, ← hbU, ← hbP, ← hbM, ← hbQ, ← hbJ]
    · rw [hSJ]; simp only [stJ, eQ, ← hbJ]
  obtain ⟨Pk, Ps, Pe, Pt, Pq⟩ := P
  have hW : WkL [.v (.int .u8 x1.toNat), .v (.int .u8 (bif bE then 0 else be (takeB 1 s) : Nat)), .v (.int .u64 (bif bE then 0 else be (takeB 8 (takeS 1 s)) : Nat)), allA (!bE) (coinsL (takeS 8 (takeS 1 s))), .v (.int .u8 (bif bT then be (takeB 1 SE) else 0 : Nat)), .v (.int .u8 (bif bV then be (takeB 1 ST) else 0 : Nat)), .v (.int .u8 (bif bO then be (takeB 1 SV) else 0 : Nat)), .v (.int .u64 (limb (bif bN then numOf (numB SO) else 0 : Nat) 0)), .v (.int .u64 (limb (bif bN then numOf (numB SO) else 0 : Nat) 1)), .v (.int .u64 (limb (bif bN then numOf (numB SO) else 0 : Nat) 2)), .v (.int .u64 (limb (bif bN then numOf (numB SO) else 0 : Nat) 3)), allA bC (coinsL SN), grA σ.toks.length 2 (posB LU.length) (outsC LU) LU.length, .v (.int .u8 (bif bP then Pk else 0 : UInt8).toNat), .v (.int .u64 (bif bP then Ps else 0 : Nat)), .v (.int .u64 (bif bP then Pe else 0 : Nat)), allA bP Pt, perA bP Pq, .v (.int .u64 (bif bM then be (takeB 8 SP) else 0 : Nat)), .v (.int .u16 (bif bQ then be (takeB 2 SM) else 0 : Nat)), .v (.bool (bJ && (be (takeB 1 SQ) == 1)))] (msgC M) := by
    rw [hM]
    simp only [msgC, msgB, ← hLU, ← hP]
    refine .cons (Wk.refl _) (.cons (wk_eq ?_) (.cons (wk_eq ?_) (.cons (wk_all ?_) (.cons (wk_eq ?_) (.cons (wk_eq ?_) (.cons (wk_eq ?_) (.cons (wk_eq ?_) (.cons (wk_eq ?_) (.cons (wk_eq ?_) (.cons (wk_eq ?_) (.cons (wk_all ?_) (.cons (wk_grA onil0) (.cons (wk_eq ?_) (.cons (wk_eq ?_) (.cons (wk_eq ?_) (.cons (wk_all ?_) (.cons (wk_per ?_) (.cons (wk_eq ?_) (.cons (wk_eq ?_) (.cons (wk_eq ?_) .nil))))))))))))))))))))
    all_goals first | rfl | (cases bE <;> simp [be_byteS]; done) | (cases bE <;> rfl) | (cases bT <;> simp [be_byteS]; done) | (cases bV <;> simp [be_byteS]; done) | (cases bO <;> simp [be_byteS]; done) | (cases bN <;> rfl) | (cases bP <;> rfl) | (cases bM <;> rfl) | (cases bQ <;> rfl)
  have hmr : ∀ τ, CallsA Try.prog 52 [.agg [.v (.int .u8 x1.toNat), .v (.int .u8 (bif bE then 0 else be (takeB 1 s) : Nat)), .v (.int .u64 (bif bE then 0 else be (takeB 8 (takeS 1 s)) : Nat)), allA (!bE) (coinsL (takeS 8 (takeS 1 s))), .v (.int .u8 (bif bT then be (takeB 1 SE) else 0 : Nat)), .v (.int .u8 (bif bV then be (takeB 1 ST) else 0 : Nat)), .v (.int .u8 (bif bO then be (takeB 1 SV) else 0 : Nat)), .v (.int .u64 (limb (bif bN then numOf (numB SO) else 0 : Nat) 0)), .v (.int .u64 (limb (bif bN then numOf (numB SO) else 0 : Nat) 1)), .v (.int .u64 (limb (bif bN then numOf (numB SO) else 0 : Nat) 2)), .v (.int .u64 (limb (bif bN then numOf (numB SO) else 0 : Nat) 3)), allA bC (coinsL SN), grA σ.toks.length 2 (posB LU.length) (outsC LU) LU.length, .v (.int .u8 (bif bP then Pk else 0 : UInt8).toNat), .v (.int .u64 (bif bP then Ps else 0 : Nat)), .v (.int .u64 (bif bP then Pe else 0 : Nat)), allA bP Pt, perA bP Pq, .v (.int .u64 (bif bM then be (takeB 8 SP) else 0 : Nat)), .v (.int .u16 (bif bQ then be (takeB 2 SM) else 0 : Nat)), .v (.bool (bJ && (be (takeB 1 SQ) == 1)))]] τ (fun av σ' => av = .v (.bool (rightM M)) ∧ τ = σ') := fun τ => callsA_wk (.cons (WkL.agg hW) .nil) (rmright_ok hMo)
  have hD2 : D = (endB SJ && rightM M) := by
    rw [hD]
    cases hk : hasK x1 with
    | true => rw [(hMR hk).1, (hMR hk).2]; rfl
    | false => rw [right_has (m := M) (by rw [hMk]; exact hk)]; simp
  have hMA : D = true → A = M := fun hd => by
    cases hk : hasK x1 with
    | true => rw [hMd, hd, (hMR hk).1]; rfl
    | false => rw [hD, hk] at hd; simp at hd
  have hMZ : D = false → A = zeroM := fun hd => by rw [hMd, hd]; rfl
  obtain ⟨R, hR⟩ : ∃ R, R = rightM M := ⟨_, rfl⟩
  rw [← hR] at hmr hD2
  clear hR hMR hMo hMk hM hP hD hMd
  have ic1 : ∀ (b : Bool) (l : List Coin), (allA b l).isCell = true := fun b l => by cases b <;> rfl
  have ic3 : ∀ (b : Bool) (l : List Per), (perA b l).isCell = true := fun b l => by cases b <;> rfl
  have ic4 : ∀ (k : Nat) (b : Bool) (cs : List AV) (n : Nat), (grA k 2 b cs n).isCell = true := fun k b cs n => by cases b <;> rfl
  simp only [AV.isCell] at ic1 ic3 ic4
  have hl0 : ∀ i, limb 0 i = 0 := by intro i; simp [limb]
  have hdr : ∀ f : Nat → AV, List.drop 2 (List.map f (List.range 2)) = [] := fun _ => rfl
  have hd21 : ∀ f : Nat → AV, List.drop 21 (List.map f (List.range 21)) = [] := fun _ => rfl
  have hd3 : ∀ f : Nat → AV, List.drop 3 (List.map f (List.range 3)) = [] := fun _ => rfl
  have hnA : ∀ x, numA x = [.v (.int .u64 (limb x 0)), .v (.int .u64 (limb x 1)), .v (.int .u64 (limb x 2)), .v (.int .u64 (limb x 3))] := fun _ => rfl
  have hw16 : ∀ S, IntKind.u16.wrap (be (takeB 2 S) : Nat) = (be (takeB 2 S) : Nat) := fun S => by rw [wrap_u16, Nat.mod_eq_of_lt (be_lt2 (takeB_len 2 S))]
  have hi2 : ∀ k b, (inC p .shut k b)[2]? = some (.v (.bool b)) := fun _ _ => rfl
  have hin0 : [AV.sl 1 (bytesA p) p.length .shut, .v (.int .i64 0), .v (.bool false)] = inC p .shut 0 false := rfl
  obtain ⟨B66, hB66⟩ : ∃ b, b = (decide (x1 = 3) || decide (x1 = 4)) := ⟨_, rfl⟩
  obtain ⟨B86, hB86⟩ : ∃ b, b = (decide (x1 = 6) || decide (x1 = 7) || decide (x1 = 11) || decide (x1 = 35)) := ⟨_, rfl⟩
  obtain ⟨B94, hB94⟩ : ∃ b, b = (decide (x1 = 8) || decide (x1 = 10)) := ⟨_, rfl⟩
  have F := And.intro hl0 (And.intro ic1 (And.intro ic3 (And.intro ic4 (And.intro hdr (And.intro hd21 (And.intro hd3 (And.intro hi2 (And.intro hin0 (And.intro hw16 (True.intro))))))))))
  refine callsA_body Try.func59 rfl rfl rfl ?_; refine sr fun _ hJ2 => ?_; refine hJ2 _ _ ?_; refine sr fun _ hJ4 => ?_; refine hJ4 _ _ ?_; refine sr fun _ hJ6 => ?_; refine hJ6 _ _ ?_; refine sr fun _ hJ8 => ?_
  refine ca (c := hby (by simp [F])) (k := ?_)
  rintro _ _ ⟨rfl, k0, hk0, rfl⟩; (repeat (first | simp [F] | simp (disch := omega) only [wC, if_pos, if_neg])); refine hJ8 _ _ ?_; refine sqc (X := Nat) [2, 3, 4, 5] (fun q1 ρ σ1 => (At p q1 SE) ∧ (σ1 = { σ with objs := σ.objs ++ [[.v (.int .u8 0), .v (.int .u8 0), .v (.int .u64 0), .sl 0 [] 0 .full, .v (.int .u8 0), .v (.int .u8 0), .v (.int .u8 0), .v (.int .u64 0), .v (.int .u64 0), .v (.int .u64 0), .v (.int .u64 0), .sl 0 [] 0 .full, .sl 0 [] 0 .full, .v (.int .u8 0), .v (.int .u64 0), .v (.int .u64 0), .sl 0 [] 0 .full, .sl 0 [] 0 .full, .v (.int .u64 0), .v (.int .u16 0), .v (.bool false)], inC p .shut q1 (SE).isNone, [.v (.int .u8 x1.toNat), .v (.int .u8 (bif bE then 0 else be (takeB 1 s) : Nat)), .v (.int .u64 (bif bE then 0 else be (takeB 8 (takeS 1 s)) : Nat)), allA (!bE) (coinsL (takeS 8 (takeS 1 s))), .v (.int .u8 0), .v (.int .u8 0), .v (.int .u8 0), .v (.int .u64 0), .v (.int .u64 0), .v (.int .u64 0), .v (.int .u64 0), .sl 0 [] 0 .full, .sl 0 [] 0 .full, .v (.int .u8 0), .v (.int .u64 0), .v (.int .u64 0), .sl 0 [] 0 .full, .sl 0 [] 0 .full, .v (.int .u64 0), .v (.int .u16 0), .v (.bool false)]], toks := σ.toks })) ?cy9 ?cx9
  case cy9 =>
   rintro q1 ρCc17 σ1 hFCc17 ⟨hq1, hσ⟩; obtain rfl := hσ.symm
   have fCc17 := keepL hFCc17
   (try simp [KeepL, F] at fCc17); (try replace F := aF fCc17 F); refine sqc (X := Nat) [2, 3, 4, 5] (fun q9 ρ σ1 => (At p q9 SJ) ∧ (σ1 = { σ with objs := σ.objs ++ [[.v (.int .u8 0), .v (.int .u8 0), .v (.int .u64 0), .sl 0 [] 0 .full, .v (.int .u8 0), .v (.int .u8 0), .v (.int .u8 0), .v (.int .u64 0), .v (.int .u64 0), .v (.int .u64 0), .v (.int .u64 0), .sl 0 [] 0 .full, .sl 0 [] 0 .full, .v (.int .u8 0), .v (.int .u64 0), .v (.int .u64 0), .sl 0 [] 0 .full, .sl 0 [] 0 .full, .v (.int .u64 0), .v (.int .u16 0), .v (.bool false)], inC p .shut q9 (SJ).isNone, [.v (.int .u8 x1.toNat), .v (.int .u8 (bif bE then 0 else be (takeB 1 s) : Nat)), .v (.int .u64 (bif bE then 0 else be (takeB 8 (takeS 1 s)) : Nat)), allA (!bE) (coinsL (takeS 8 (takeS 1 s))), .v (.int .u8 (bif bT then be (takeB 1 SE) else 0 : Nat)), .v (.int .u8 (bif bV then be (takeB 1 ST) else 0 : Nat)), .v (.int .u8 (bif bO then be (takeB 1 SV) else 0 : Nat)), .v (.int .u64 (limb (bif bN then numOf (numB SO) else 0 : Nat) 0)), .v (.int .u64 (limb (bif bN then numOf (numB SO) else 0 : Nat) 1)), .v (.int .u64 (limb (bif bN then numOf (numB SO) else 0 : Nat) 2)), .v (.int .u64 (limb (bif bN then numOf (numB SO) else 0 : Nat) 3)), allA bC (coinsL SN), grA σ.toks.length 2 (posB LU.length) (outsC LU) LU.length, .v (.int .u8 (bif bP then Pk else 0 : UInt8).toNat), .v (.int .u64 (bif bP then Ps else 0 : Nat)), .v (.int .u64 (bif bP then Pe else 0 : Nat)), allA bP Pt, perA bP Pq, .v (.int .u64 (bif bM then be (takeB 8 SP) else 0 : Nat)), .v (.int .u16 (bif bQ then be (takeB 2 SM) else 0 : Nat)), .v (.bool (bJ && (be (takeB 1 SQ) == 1)))]], toks := σ.toks ++ grT (posB LU.length) LU.length })) ?cy10 ?cx10
   case cy10 =>
    rintro q9 ρCb0 σ1 hFCb0 ⟨hq9, hσ⟩; obtain rfl := hσ.symm
    have fCb0 := keepL hFCb0
    (try simp [KeepL, F] at fCb0); (try replace F := aF fCb0 F); refine sq fun K11 hK11 => ?_; refine sr fun _ hJ13 => ?_
    refine cb (c := inEnd_ok (s := SJ) (p := p) (tl := .shut) (by simp [F]) hq9) (k := ?_)
    refine gs 139 (fun g50_3 => ?_) (fun g50_3 => ?_)
    · try exact nope g50_3
      all_goals
       replace F := wf F g50_3; (iterate 3 refine no2 (k := ?_)); refine hJ13 _ _ ?_; refine ct ?_; refine sr fun _ hJ15 => ?_; refine hJ15 _ _ ?_; refine run_ret ?_; (try simp only [Then, InBlock, NoGoto]); refine acell2 (h := ?_)
       have hDf : D = false := by (rw [hD2]; have h := g50_3; simp at h; simp [h])
       rw [hMZ hDf, hDf]
       exact gcr (hA := WkL.tup (.cons (WkL.agg zero_wk) (.cons (Wk.refl _) .nil)))
    try exact nope g50_3
    all_goals
     replace F := wf F g50_3; refine go2 (k := ?_); refine cb (c := hmr _) (k := ?_); refine go2 (k := ?_); refine hJ13 _ _ ?_; refine cs (t := !R) (fun c143 => ?_) (fun c143 => ?_)
     · try exact nope c143
       all_goals
        replace F := wf F c143; refine sr fun _ hJ17 => ?_; refine hJ17 _ _ ?_; refine run_ret ?_; (try simp only [Then, InBlock, NoGoto]); refine acell2 (h := ?_)
        have hDf : D = false := by (rw [hD2]; have h := c143; simp at h; simp [h])
        rw [hMZ hDf, hDf]
        exact gcr (hA := WkL.tup (.cons (WkL.agg zero_wk) (.cons (Wk.refl _) .nil)))
     try exact nope c143
     all_goals
      replace F := wf F c143; refine run_skip ?_; refine hK11 _ _ ?_; refine sr fun _ hJ19 => ?_; refine hJ19 _ _ ?_; refine run_ret ?_; (try simp only [Then, InBlock, NoGoto]); refine acell2 (h := ?_)
      have hDt : D = true := by (rw [hD2]; have h1 := g50_3; have h2 := c143; simp at h1 h2; simp [h1, h2])
      rw [hMA hDt, hDt]
      exact gcr (hA := WkL.tup (.cons (WkL.agg hW) (.cons (Wk.refl _) .nil)))
   case cx10 =>
    intro K10 hK10
    refine sr fun _ hJ21 => ?_; refine hJ21 _ _ ?_; refine run_block_k ?_; refine sr fun _ hJ23 => ?_; refine hJ23 _ _ ?_; refine cs (fun c29 => ?_) (fun c29 => ?_)
    · try exact nope c29
      all_goals
       replace F := wf F c29
       have hk : x1 = 1 := (hkn 1).2 (by simpa using c29)
       have fb : bT = true ∧ bV = false ∧ bO = false ∧ bN = false ∧ bC = true ∧ bU = false ∧ bP = false ∧ bM = false ∧ bQ = false ∧ bJ = false := by (rw [hbT, hbV, hbO, hbN, hbC, hbU, hbP, hbM, hbQ, hbJ]; rw [hk]; decide)
       obtain ⟨fT, fV, fO, fN, fC, fU, fP, fM, fQ, fJ⟩ := fb
       refine sr fun _ hJ25 => ?_
       refine ca (c := inByte_ok (tl := .shut) (by simp [F]) hp hq1) (k := ?_)
       rintro _ _ ⟨rfl, k5, hk5, rfl⟩; (repeat (first | simp [F] | simp (disch := omega) only [wC, if_pos, if_neg])); refine hJ25 _ _ ?_; refine rg' (h := fun J26 hJ26 => ?_)
       refine ca (c := inCoins_ok (by simp [F]) hp hk5) (k := ?_)
       rintro _ _ ⟨rfl, k6, hk6, rfl⟩; (repeat (first | simp [F] | simp (disch := omega) only [wC, if_pos, if_neg])); refine hJ26 _ _ ?_
       first | refine hK10 (k6) _ _ ⟨kp, ?_, ?_⟩ | refine hK10 (y.k) _ _ ⟨kp, ?_, ?_⟩ | refine hK10 (k9) _ _ ⟨kp, ?_, ?_⟩ | refine hK10 (k12) _ _ ⟨kp, ?_, ?_⟩ | refine hK10 (k13) _ _ ⟨kp, ?_, ?_⟩ | refine hK10 (k14) _ _ ⟨kp, ?_, ?_⟩ | refine hK10 (k16) _ _ ⟨kp, ?_, ?_⟩ | refine hK10 (k17) _ _ ⟨kp, ?_, ?_⟩ | refine hK10 (k21) _ _ ⟨kp, ?_, ?_⟩ | refine hK10 (k23) _ _ ⟨kp, ?_, ?_⟩ | refine hK10 (q1) _ _ ⟨kp, ?_, ?_⟩
       · simp only [hST, hSV, hSO, hSN, hSC, hSU, hSP, hSM, hSQ, hSJ, fT, fV, fO, fN, fC, fU, fP, fM, fQ, fJ, cond_true, cond_false]
         exact hk6
       · simp [hST, hSV, hSO, hSN, hSC, hSU, hSP, hSM, hSQ, hSJ, fT, fV, fO, fN, fC, fU, fP, fM, fQ, fJ, hLU, hnA, F]
    try exact nope c29
    all_goals
     replace F := wf F c29; refine sr fun _ hJ28 => ?_; refine hJ28 _ _ ?_; refine cs (fun c37 => ?_) (fun c37 => ?_)
     · try exact nope c37
       all_goals
        replace F := wf F c37
        have hk : x1 = 2 := (hkn 2).2 (by simpa using c37)
        have fb : bT = false ∧ bV = false ∧ bO = false ∧ bN = false ∧ bC = false ∧ bU = true ∧ bP = false ∧ bM = false ∧ bQ = false ∧ bJ = false := by (rw [hbT, hbV, hbO, hbN, hbC, hbU, hbP, hbM, hbQ, hbJ]; rw [hk]; decide)
        obtain ⟨fT, fV, fO, fN, fC, fU, fP, fM, fQ, fJ⟩ := fb
        refine sq fun K29 hK29 => ?_
        have eSC : SC = SE := by (rw [hSC, hSN, hSO, hSV, hST, fC, fN, fO, fV, fT]; rfl)
        obtain ⟨c, hc⟩ : ∃ c, c = be (takeB 1 SE) := ⟨_, rfl⟩
        have hcm := be_lt1 (takeB_len 1 SE)
        rw [← hc] at hcm
        replace F := aF hc.symm F; refine rg' (h := fun J30 hJ30 => ?_)
        refine ca (c := inByte_ok (tl := .shut) (by simp [F]) hp hq1) (k := ?_)
        rintro _ _ ⟨rfl, k7, hk7, rfl⟩; (repeat (first | simp [F] | simp (disch := omega) only [wC, if_pos, if_neg])); refine hJ30 _ _ ?_; refine hK29 _ _ ?_; refine sr fun _ hJ32 => ?_; refine hJ32 _ _ ?_; refine run_block_k ?_; refine run_loopG (X := RSk) [2, 3, 4, 5, 6] (fun y ρ σ1 => (y.m ≤ c) ∧ (y.m + y.l.length ≤ 255) ∧ (outsGo y.m y.s y.l = outsR SC) ∧ (At p y.k y.s) ∧ (ρ 7 = .v (.int .i64 (c - y.m : Nat))) ∧ (σ1 = { σ with objs := σ.objs ++ [[.v (.int .u8 0), .v (.int .u8 0), .v (.int .u64 0), .sl 0 [] 0 .full, .v (.int .u8 0), .v (.int .u8 0), .v (.int .u8 0), .v (.int .u64 0), .v (.int .u64 0), .v (.int .u64 0), .v (.int .u64 0), .sl 0 [] 0 .full, .sl 0 [] 0 .full, .v (.int .u8 0), .v (.int .u64 0), .v (.int .u64 0), .sl 0 [] 0 .full, .sl 0 [] 0 .full, .v (.int .u64 0), .v (.int .u16 0), .v (.bool false)], inC p .shut y.k y.s.isNone, [.v (.int .u8 x1.toNat), .v (.int .u8 (bif bE then 0 else be (takeB 1 s) : Nat)), .v (.int .u64 (bif bE then 0 else be (takeB 8 (takeS 1 s)) : Nat)), allA (!bE) (coinsL (takeS 8 (takeS 1 s))), .v (.int .u8 0), .v (.int .u8 0), .v (.int .u8 0), .v (.int .u64 0), .v (.int .u64 0), .v (.int .u64 0), .v (.int .u64 0), .sl 0 [] 0 .full, grA σ.toks.length 2 (posB y.l.length) (outsC y.l) y.l.length, .v (.int .u8 0), .v (.int .u64 0), .v (.int .u64 0), .sl 0 [] 0 .full, .sl 0 [] 0 .full, .v (.int .u64 0), .v (.int .u16 0), .v (.bool false)]], toks := σ.toks ++ grT (posB y.l.length) y.l.length })) (fun y => y.m) (⟨c, takeS 1 SE, [], k7⟩) ?st1 ?rd1
        case st1 =>
         refine ⟨lp, ?_, ?_, ?_, lp, ?_⟩
         · simp
           omega
         · rw [eSC]
           unfold outsR
           rw [← hc]
         · exact hk7
         · simp [F]
        case rd1 =>
         rintro y ρ1 σ1 hF1 ⟨hmc, hml, hg, hyk, hi, hσ⟩; obtain rfl := hσ.symm
         have f1 := keepL hF1
         (try simp [KeepL, F] at f1); replace F := aF hi F; (try replace F := aF f1 F); refine sq fun K33 hK33 => ?_; refine sqc (X := Unit) [2, 3, 4, 5, 6, 7] (fun z ρ σ1 => (ρ 51 = .v (.bool (decide (0 < y.m) && !y.s.isNone))) ∧ (σ1 = { σ with objs := σ.objs ++ [[.v (.int .u8 0), .v (.int .u8 0), .v (.int .u64 0), .sl 0 [] 0 .full, .v (.int .u8 0), .v (.int .u8 0), .v (.int .u8 0), .v (.int .u64 0), .v (.int .u64 0), .v (.int .u64 0), .v (.int .u64 0), .sl 0 [] 0 .full, .sl 0 [] 0 .full, .v (.int .u8 0), .v (.int .u64 0), .v (.int .u64 0), .sl 0 [] 0 .full, .sl 0 [] 0 .full, .v (.int .u64 0), .v (.int .u16 0), .v (.bool false)], inC p .shut y.k y.s.isNone, [.v (.int .u8 x1.toNat), .v (.int .u8 (bif bE then 0 else be (takeB 1 s) : Nat)), .v (.int .u64 (bif bE then 0 else be (takeB 8 (takeS 1 s)) : Nat)), allA (!bE) (coinsL (takeS 8 (takeS 1 s))), .v (.int .u8 0), .v (.int .u8 0), .v (.int .u8 0), .v (.int .u64 0), .v (.int .u64 0), .v (.int .u64 0), .v (.int .u64 0), .sl 0 [] 0 .full, grA σ.toks.length 2 (posB y.l.length) (outsC y.l) y.l.length, .v (.int .u8 0), .v (.int .u64 0), .v (.int .u64 0), .sl 0 [] 0 .full, .sl 0 [] 0 .full, .v (.int .u64 0), .v (.int .u16 0), .v (.bool false)]], toks := σ.toks ++ grT (posB y.l.length) y.l.length })) ?cy34 ?cx34
         case cy34 =>
          rintro z ρCr15 σ1 hFCr15 ⟨h51, hσ⟩; obtain rfl := hσ.symm
          have fCr15 := keepL hFCr15
          (try simp [KeepL, F] at fCr15); replace F := aF h51 F; (try replace F := aF fCr15 F); refine cs (t := (decide (0 < y.m) && !y.s.isNone)) (fun c51 => ?_) (fun c51 => ?_)
          · try exact nope c51
            all_goals
             replace F := wf F c51; refine run_skip ?_; refine hK33 _ _ ?_; refine sq fun K35 hK35 => ?_; refine run_block_k ?_; refine sq fun K36 hK36 => ?_
             obtain ⟨m, S, L, j⟩ := y
             simp only at hmc hml hg hyk hi
             have hmS : 0 < m ∧ ¬ S = none := by have h := c51; simp at h; exact ⟨h.1, by intro e; rw [e] at h; simp at h⟩
             have hnx := outsGo_more (l := L) hmS.1 hmS.2
             have hPo : outsC (L ++ [outS S]) = outsC L ++ [.v (.int .u8 (be (takeB 1 S))), .sl 5 (coinsC (coinsL (takeS 1 S))) (coinsL (takeS 1 S)).length .shut] := by rw [← outsC_append, be_byteS]; rfl
             have hLl : L.length ≤ 254 := by omega
             have happ : ∀ objs, appendA Try.prog 70 (grA σ.toks.length 2 (posB L.length) (outsC L) L.length) (.sl 2 [.v (.int .u8 (be (takeB 1 S))), .sl 5 (coinsC (coinsL (takeS 1 S))) (coinsL (takeS 1 S)).length .shut] 1 .full) ⟨objs, σ.toks ++ grT (posB L.length) L.length, σ.gl, σ.rows⟩ = some (grA σ.toks.length 2 true (outsC L ++ [.v (.int .u8 (be (takeB 1 S))), .sl 5 (coinsC (coinsL (takeS 1 S))) (coinsL (takeS 1 S)).length .shut]) (L.length + 1), ⟨objs, σ.toks ++ grT true (L.length + 1), σ.gl, σ.rows⟩) := fun objs => append_gr elemT_70 ti_122 (by decide) rfl onil0 (.inl rfl) (by simp [roomA]; omega) (by simp [maxLen]; omega)
             replace F := aF hPo.symm F; refine rg' (h := fun J37 hJ37 => ?_); refine hJ37 _ _ ?_; refine hK36 _ _ ?_; refine sr fun _ hJ39 => ?_
             refine ca (c := inByte_ok (tl := .shut) (by simp [F]) hp hyk) (k := ?_)
             rintro _ _ ⟨rfl, ka, hka, rfl⟩; (repeat (first | simp [F] | simp (disch := omega) only [wC, if_pos, if_neg])); refine hJ39 _ _ ?_; refine sr fun _ hJ41 => ?_
             refine ca (c := inCoins_ok (by simp [F]) hp hka) (k := ?_)
             rintro _ _ ⟨rfl, kb, hkb, rfl⟩; (repeat (first | simp [F] | simp (disch := omega) only [wC, if_pos, if_neg])); refine hJ41 _ _ ?_; replace F := aF happ F; refine rg' (h := fun J42 hJ42 => ?_); refine hJ42 _ _ ?_; refine hK35 _ _ ?_; refine rg' (h := fun J43 hJ43 => ?_); refine hJ43 _ _ ?_; refine ⟨gk, (⟨m - 1, outT S, L ++ [outS S], kb⟩), ⟨kpG, ?_, ?_, ?_, ?_, ?_, ?_⟩, ?_⟩
             · simp
               omega
             · simp
               omega
             · rw [← hg]
               exact hnx.symm
             · exact hkb
             · simp [F, AV.gcO]
               omega
             · simp [F, outT, St.trimO]
             · simp
               omega
          try exact nope c51
          all_goals
           replace F := wf F c51
           have he : outsR SC = (y.l, y.s) := by rw [← hg]; exact outsGo_stop (by have h := c51; simp at h; by_cases h0 : y.m = 0; exact .inl h0; exact .inr (h (by omega)))
           have hLUe : LU = y.l := by rw [hLU, fU, he]; rfl
           have hSJe : SJ = y.s := by (rw [hSJ, hSQ, hSM, hSP, hSU, fJ, fQ, fM, fP, fU, he]; rfl)
           refine run_exit ?_
           first | refine hK10 (k6) _ _ ⟨kp, ?_, ?_⟩ | refine hK10 (y.k) _ _ ⟨kp, ?_, ?_⟩ | refine hK10 (k9) _ _ ⟨kp, ?_, ?_⟩ | refine hK10 (k12) _ _ ⟨kp, ?_, ?_⟩ | refine hK10 (k13) _ _ ⟨kp, ?_, ?_⟩ | refine hK10 (k14) _ _ ⟨kp, ?_, ?_⟩ | refine hK10 (k16) _ _ ⟨kp, ?_, ?_⟩ | refine hK10 (k17) _ _ ⟨kp, ?_, ?_⟩ | refine hK10 (k21) _ _ ⟨kp, ?_, ?_⟩ | refine hK10 (k23) _ _ ⟨kp, ?_, ?_⟩ | refine hK10 (q1) _ _ ⟨kp, ?_, ?_⟩
           · rw [hSJe]
             exact hyk
           · simp [hSJe, hLUe, fT, fV, fO, fN, fC, fU, fP, fM, fQ, fJ, F]
         case cx34 =>
          intro K34 hK34
          refine rg' (h := fun J44 hJ44 => ?_); refine gs 45 (fun g15_3 => ?_) (fun g15_3 => ?_)
          · try exact nope g15_3
            all_goals
             replace F := wf F g15_3; (iterate 5 refine go2 (k := ?_)); refine hJ44 _ _ ?_; refine hK34 (()) _ _ ⟨kp, ?_, lp⟩
             · have h := g15_3
               simp at h
               simp [F]
               try omega
          try exact nope g15_3
          all_goals
           replace F := wf F g15_3; (iterate 5 refine no2 (k := ?_)); refine hJ44 _ _ ?_; refine hK34 (()) _ _ ⟨kp, ?_, lp⟩
           · have h := g15_3
             simp at h
             simp [F]
             try omega
     try exact nope c37
     all_goals
      replace F := wf F c37; refine sqc (X := Unit) [2, 3, 4, 5, 28] (fun z ρ σ1 => (ρ 66 = .v (.bool B66)) ∧ (σ1 = { σ with objs := σ.objs ++ [[.v (.int .u8 0), .v (.int .u8 0), .v (.int .u64 0), .sl 0 [] 0 .full, .v (.int .u8 0), .v (.int .u8 0), .v (.int .u8 0), .v (.int .u64 0), .v (.int .u64 0), .v (.int .u64 0), .v (.int .u64 0), .sl 0 [] 0 .full, .sl 0 [] 0 .full, .v (.int .u8 0), .v (.int .u64 0), .v (.int .u64 0), .sl 0 [] 0 .full, .sl 0 [] 0 .full, .v (.int .u64 0), .v (.int .u16 0), .v (.bool false)], inC p .shut q1 (SE).isNone, [.v (.int .u8 x1.toNat), .v (.int .u8 (bif bE then 0 else be (takeB 1 s) : Nat)), .v (.int .u64 (bif bE then 0 else be (takeB 8 (takeS 1 s)) : Nat)), allA (!bE) (coinsL (takeS 8 (takeS 1 s))), .v (.int .u8 0), .v (.int .u8 0), .v (.int .u8 0), .v (.int .u64 0), .v (.int .u64 0), .v (.int .u64 0), .v (.int .u64 0), .sl 0 [] 0 .full, .sl 0 [] 0 .full, .v (.int .u8 0), .v (.int .u64 0), .v (.int .u64 0), .sl 0 [] 0 .full, .sl 0 [] 0 .full, .v (.int .u64 0), .v (.int .u16 0), .v (.bool false)]], toks := σ.toks })) ?cy45 ?cx45
      case cy45 =>
       rintro z ρCc66 σ1 hFCc66 ⟨h66, hσ⟩; obtain rfl := hσ.symm
       have fCc66 := keepL hFCc66
       (try simp [KeepL, F] at fCc66); replace F := aF h66 F; (try replace F := aF fCc66 F); refine cs (t := B66) (fun c66 => ?_) (fun c66 => ?_)
       · try exact nope c66
         all_goals
          replace F := wf F c66; refine sq fun K46 hK46 => ?_
          have hk : x1 = 3 ∨ x1 = 4 := by rw [hB66] at c66; simpa using c66
          have fb : bT = false ∧ bV = true ∧ bO = false ∧ bN = true ∧ bC = false ∧ bU = false ∧ bP = false ∧ bM = false ∧ bQ = false ∧ bJ = false := by (rw [hbT, hbV, hbO, hbN, hbC, hbU, hbP, hbM, hbQ, hbJ]; rcases hk with e | e <;> (rw [e]; decide))
          obtain ⟨fT, fV, fO, fN, fC, fU, fP, fM, fQ, fJ⟩ := fb
          refine rg' (h := fun J47 hJ47 => ?_)
          refine ca (c := inByte_ok (tl := .shut) (by simp [F]) hp hq1) (k := ?_)
          rintro _ _ ⟨rfl, k8, hk8, rfl⟩; (repeat (first | simp [F] | simp (disch := omega) only [wC, if_pos, if_neg])); refine hJ47 _ _ ?_; refine hK46 _ _ ?_; replace F := aF hnA F; refine rg' (h := fun J48 hJ48 => ?_)
          refine ca (c := inNum_ok (by simp [F]) hp hk8) (k := ?_)
          rintro _ _ ⟨rfl, k9, hk9, rfl⟩; (repeat (first | simp [F] | simp (disch := omega) only [wC, if_pos, if_neg])); refine hJ48 _ _ ?_
          first | refine hK10 (k6) _ _ ⟨kp, ?_, ?_⟩ | refine hK10 (y.k) _ _ ⟨kp, ?_, ?_⟩ | refine hK10 (k9) _ _ ⟨kp, ?_, ?_⟩ | refine hK10 (k12) _ _ ⟨kp, ?_, ?_⟩ | refine hK10 (k13) _ _ ⟨kp, ?_, ?_⟩ | refine hK10 (k14) _ _ ⟨kp, ?_, ?_⟩ | refine hK10 (k16) _ _ ⟨kp, ?_, ?_⟩ | refine hK10 (k17) _ _ ⟨kp, ?_, ?_⟩ | refine hK10 (k21) _ _ ⟨kp, ?_, ?_⟩ | refine hK10 (k23) _ _ ⟨kp, ?_, ?_⟩ | refine hK10 (q1) _ _ ⟨kp, ?_, ?_⟩
          · simp only [hST, hSV, hSO, hSN, hSC, hSU, hSP, hSM, hSQ, hSJ, fT, fV, fO, fN, fC, fU, fP, fM, fQ, fJ, cond_true, cond_false]
            exact hk9
          · simp [hST, hSV, hSO, hSN, hSC, hSU, hSP, hSM, hSQ, hSJ, fT, fV, fO, fN, fC, fU, fP, fM, fQ, fJ, hLU, hnA, F]
       try exact nope c66
       all_goals
        replace F := wf F c66; refine sr fun _ hJ50 => ?_; refine hJ50 _ _ ?_; refine cs (fun c75 => ?_) (fun c75 => ?_)
        · try exact nope c75
          all_goals
           replace F := wf F c75
           have hk : x1 = 5 := (hkn 5).2 (by simpa using c75)
           have fb : bT = false ∧ bV = true ∧ bO = true ∧ bN = true ∧ bC = false ∧ bU = false ∧ bP = false ∧ bM = false ∧ bQ = false ∧ bJ = false := by (rw [hbT, hbV, hbO, hbN, hbC, hbU, hbP, hbM, hbQ, hbJ]; rw [hk]; decide)
           obtain ⟨fT, fV, fO, fN, fC, fU, fP, fM, fQ, fJ⟩ := fb
           refine sr fun _ hJ52 => ?_
           refine ca (c := inByte_ok (tl := .shut) (by simp [F]) hp hq1) (k := ?_)
           rintro _ _ ⟨rfl, k10, hk10, rfl⟩; (repeat (first | simp [F] | simp (disch := omega) only [wC, if_pos, if_neg])); refine hJ52 _ _ ?_; refine sr fun _ hJ54 => ?_
           refine ca (c := inByte_ok (tl := .shut) (by simp [F]) hp hk10) (k := ?_)
           rintro _ _ ⟨rfl, k11, hk11, rfl⟩; (repeat (first | simp [F] | simp (disch := omega) only [wC, if_pos, if_neg])); refine hJ54 _ _ ?_; replace F := aF hnA F; refine rg' (h := fun J55 hJ55 => ?_)
           refine ca (c := inNum_ok (by simp [F]) hp hk11) (k := ?_)
           rintro _ _ ⟨rfl, k12, hk12, rfl⟩; (repeat (first | simp [F] | simp (disch := omega) only [wC, if_pos, if_neg])); refine hJ55 _ _ ?_
           first | refine hK10 (k6) _ _ ⟨kp, ?_, ?_⟩ | refine hK10 (y.k) _ _ ⟨kp, ?_, ?_⟩ | refine hK10 (k9) _ _ ⟨kp, ?_, ?_⟩ | refine hK10 (k12) _ _ ⟨kp, ?_, ?_⟩ | refine hK10 (k13) _ _ ⟨kp, ?_, ?_⟩ | refine hK10 (k14) _ _ ⟨kp, ?_, ?_⟩ | refine hK10 (k16) _ _ ⟨kp, ?_, ?_⟩ | refine hK10 (k17) _ _ ⟨kp, ?_, ?_⟩ | refine hK10 (k21) _ _ ⟨kp, ?_, ?_⟩ | refine hK10 (k23) _ _ ⟨kp, ?_, ?_⟩ | refine hK10 (q1) _ _ ⟨kp, ?_, ?_⟩
           · simp only [hST, hSV, hSO, hSN, hSC, hSU, hSP, hSM, hSQ, hSJ, fT, fV, fO, fN, fC, fU, fP, fM, fQ, fJ, cond_true, cond_false]
             exact hk12
           · simp [hST, hSV, hSO, hSN, hSC, hSU, hSP, hSM, hSQ, hSJ, fT, fV, fO, fN, fC, fU, fP, fM, fQ, fJ, hLU, hnA, F]
        try exact nope c75
        all_goals
         replace F := wf F c75; refine sqc (X := Unit) [2, 3, 4, 5, 28] (fun z ρ σ1 => (ρ 86 = .v (.bool B86)) ∧ (σ1 = { σ with objs := σ.objs ++ [[.v (.int .u8 0), .v (.int .u8 0), .v (.int .u64 0), .sl 0 [] 0 .full, .v (.int .u8 0), .v (.int .u8 0), .v (.int .u8 0), .v (.int .u64 0), .v (.int .u64 0), .v (.int .u64 0), .v (.int .u64 0), .sl 0 [] 0 .full, .sl 0 [] 0 .full, .v (.int .u8 0), .v (.int .u64 0), .v (.int .u64 0), .sl 0 [] 0 .full, .sl 0 [] 0 .full, .v (.int .u64 0), .v (.int .u16 0), .v (.bool false)], inC p .shut q1 (SE).isNone, [.v (.int .u8 x1.toNat), .v (.int .u8 (bif bE then 0 else be (takeB 1 s) : Nat)), .v (.int .u64 (bif bE then 0 else be (takeB 8 (takeS 1 s)) : Nat)), allA (!bE) (coinsL (takeS 8 (takeS 1 s))), .v (.int .u8 0), .v (.int .u8 0), .v (.int .u8 0), .v (.int .u64 0), .v (.int .u64 0), .v (.int .u64 0), .v (.int .u64 0), .sl 0 [] 0 .full, .sl 0 [] 0 .full, .v (.int .u8 0), .v (.int .u64 0), .v (.int .u64 0), .sl 0 [] 0 .full, .sl 0 [] 0 .full, .v (.int .u64 0), .v (.int .u16 0), .v (.bool false)]], toks := σ.toks })) ?cy56 ?cx56
         case cy56 =>
          rintro z ρCc86 σ1 hFCc86 ⟨h86, hσ⟩; obtain rfl := hσ.symm
          have fCc86 := keepL hFCc86
          (try simp [KeepL, F] at fCc86); replace F := aF h86 F; (try replace F := aF fCc86 F); refine cs (t := B86) (fun c86 => ?_) (fun c86 => ?_)
          · try exact nope c86
            all_goals
             replace F := wf F c86
             have hk : ((x1 = 6 ∨ x1 = 7) ∨ x1 = 11) ∨ x1 = 35 := by rw [hB86] at c86; simpa using c86
             have fb : bT = false ∧ bV = true ∧ bO = false ∧ bN = false ∧ bC = false ∧ bU = false ∧ bP = false ∧ bM = false ∧ bQ = false ∧ bJ = false := by (rw [hbT, hbV, hbO, hbN, hbC, hbU, hbP, hbM, hbQ, hbJ]; rcases hk with ((e | e) | e) | e <;> (rw [e]; decide))
             obtain ⟨fT, fV, fO, fN, fC, fU, fP, fM, fQ, fJ⟩ := fb
             refine rg' (h := fun J57 hJ57 => ?_)
             refine ca (c := inByte_ok (tl := .shut) (by simp [F]) hp hq1) (k := ?_)
             rintro _ _ ⟨rfl, k13, hk13, rfl⟩; (repeat (first | simp [F] | simp (disch := omega) only [wC, if_pos, if_neg])); refine hJ57 _ _ ?_
             first | refine hK10 (k6) _ _ ⟨kp, ?_, ?_⟩ | refine hK10 (y.k) _ _ ⟨kp, ?_, ?_⟩ | refine hK10 (k9) _ _ ⟨kp, ?_, ?_⟩ | refine hK10 (k12) _ _ ⟨kp, ?_, ?_⟩ | refine hK10 (k13) _ _ ⟨kp, ?_, ?_⟩ | refine hK10 (k14) _ _ ⟨kp, ?_, ?_⟩ | refine hK10 (k16) _ _ ⟨kp, ?_, ?_⟩ | refine hK10 (k17) _ _ ⟨kp, ?_, ?_⟩ | refine hK10 (k21) _ _ ⟨kp, ?_, ?_⟩ | refine hK10 (k23) _ _ ⟨kp, ?_, ?_⟩ | refine hK10 (q1) _ _ ⟨kp, ?_, ?_⟩
             · simp only [hST, hSV, hSO, hSN, hSC, hSU, hSP, hSM, hSQ, hSJ, fT, fV, fO, fN, fC, fU, fP, fM, fQ, fJ, cond_true, cond_false]
               exact hk13
             · simp [hST, hSV, hSO, hSN, hSC, hSU, hSP, hSM, hSQ, hSJ, fT, fV, fO, fN, fC, fU, fP, fM, fQ, fJ, hLU, hnA, F]
          try exact nope c86
          all_goals
           replace F := wf F c86; refine sqc (X := Unit) [2, 3, 4, 5, 28] (fun z ρ σ1 => (ρ 94 = .v (.bool B94)) ∧ (σ1 = { σ with objs := σ.objs ++ [[.v (.int .u8 0), .v (.int .u8 0), .v (.int .u64 0), .sl 0 [] 0 .full, .v (.int .u8 0), .v (.int .u8 0), .v (.int .u8 0), .v (.int .u64 0), .v (.int .u64 0), .v (.int .u64 0), .v (.int .u64 0), .sl 0 [] 0 .full, .sl 0 [] 0 .full, .v (.int .u8 0), .v (.int .u64 0), .v (.int .u64 0), .sl 0 [] 0 .full, .sl 0 [] 0 .full, .v (.int .u64 0), .v (.int .u16 0), .v (.bool false)], inC p .shut q1 (SE).isNone, [.v (.int .u8 x1.toNat), .v (.int .u8 (bif bE then 0 else be (takeB 1 s) : Nat)), .v (.int .u64 (bif bE then 0 else be (takeB 8 (takeS 1 s)) : Nat)), allA (!bE) (coinsL (takeS 8 (takeS 1 s))), .v (.int .u8 0), .v (.int .u8 0), .v (.int .u8 0), .v (.int .u64 0), .v (.int .u64 0), .v (.int .u64 0), .v (.int .u64 0), .sl 0 [] 0 .full, .sl 0 [] 0 .full, .v (.int .u8 0), .v (.int .u64 0), .v (.int .u64 0), .sl 0 [] 0 .full, .sl 0 [] 0 .full, .v (.int .u64 0), .v (.int .u16 0), .v (.bool false)]], toks := σ.toks })) ?cy58 ?cx58
           case cy58 =>
            rintro z ρCc94 σ1 hFCc94 ⟨h94, hσ⟩; obtain rfl := hσ.symm
            have fCc94 := keepL hFCc94
            (try simp [KeepL, F] at fCc94); replace F := aF h94 F; (try replace F := aF fCc94 F); refine cs (t := B94) (fun c94 => ?_) (fun c94 => ?_)
            · try exact nope c94
              all_goals
               replace F := wf F c94
               have hk : x1 = 8 ∨ x1 = 10 := by rw [hB94] at c94; simpa using c94
               have fb : bT = true ∧ bV = false ∧ bO = false ∧ bN = false ∧ bC = false ∧ bU = false ∧ bP = false ∧ bM = false ∧ bQ = false ∧ bJ = false := by (rw [hbT, hbV, hbO, hbN, hbC, hbU, hbP, hbM, hbQ, hbJ]; rcases hk with e | e <;> (rw [e]; decide))
               obtain ⟨fT, fV, fO, fN, fC, fU, fP, fM, fQ, fJ⟩ := fb
               refine rg' (h := fun J59 hJ59 => ?_)
               refine ca (c := inByte_ok (tl := .shut) (by simp [F]) hp hq1) (k := ?_)
               rintro _ _ ⟨rfl, k14, hk14, rfl⟩; (repeat (first | simp [F] | simp (disch := omega) only [wC, if_pos, if_neg])); refine hJ59 _ _ ?_
               first | refine hK10 (k6) _ _ ⟨kp, ?_, ?_⟩ | refine hK10 (y.k) _ _ ⟨kp, ?_, ?_⟩ | refine hK10 (k9) _ _ ⟨kp, ?_, ?_⟩ | refine hK10 (k12) _ _ ⟨kp, ?_, ?_⟩ | refine hK10 (k13) _ _ ⟨kp, ?_, ?_⟩ | refine hK10 (k14) _ _ ⟨kp, ?_, ?_⟩ | refine hK10 (k16) _ _ ⟨kp, ?_, ?_⟩ | refine hK10 (k17) _ _ ⟨kp, ?_, ?_⟩ | refine hK10 (k21) _ _ ⟨kp, ?_, ?_⟩ | refine hK10 (k23) _ _ ⟨kp, ?_, ?_⟩ | refine hK10 (q1) _ _ ⟨kp, ?_, ?_⟩
               · simp only [hST, hSV, hSO, hSN, hSC, hSU, hSP, hSM, hSQ, hSJ, fT, fV, fO, fN, fC, fU, fP, fM, fQ, fJ, cond_true, cond_false]
                 exact hk14
               · simp [hST, hSV, hSO, hSN, hSC, hSU, hSP, hSM, hSQ, hSJ, fT, fV, fO, fN, fC, fU, fP, fM, fQ, fJ, hLU, hnA, F]
            try exact nope c94
            all_goals
             replace F := wf F c94; refine sr fun _ hJ61 => ?_; refine hJ61 _ _ ?_; refine cs (fun c100 => ?_) (fun c100 => ?_)
             · try exact nope c100
               all_goals
                replace F := wf F c100
                have hk : x1 = 9 := (hkn 9).2 (by simpa using c100)
                have fb : bT = true ∧ bV = false ∧ bO = false ∧ bN = false ∧ bC = false ∧ bU = false ∧ bP = true ∧ bM = false ∧ bQ = false ∧ bJ = false := by (rw [hbT, hbV, hbO, hbN, hbC, hbU, hbP, hbM, hbQ, hbJ]; rw [hk]; decide)
                obtain ⟨fT, fV, fO, fN, fC, fU, fP, fM, fQ, fJ⟩ := fb
                refine sr fun _ hJ63 => ?_
                refine ca (c := inByte_ok (tl := .shut) (by simp [F]) hp hq1) (k := ?_)
                rintro _ _ ⟨rfl, k15, hk15, rfl⟩; (repeat (first | simp [F] | simp (disch := omega) only [wC, if_pos, if_neg])); refine hJ63 _ _ ?_
                have e9 : takeS 1 SE = SU := by (rw [hSU, hSC, hSN, hSO, hSV, hST, fU, fC, fN, fO, fV, fT]; rfl)
                rw [e9] at hk15
                replace F := aF e9 F; refine rg' (h := fun J64 hJ64 => ?_)
                refine ca (c := hptk (by simp [F]) hk15) (k := ?_)
                rintro _ _ ⟨rfl, k16, hk16, rfl⟩; (repeat (first | simp [F] | simp (disch := omega) only [wC, if_pos, if_neg])); refine hJ64 _ _ ?_
                first | refine hK10 (k6) _ _ ⟨kp, ?_, ?_⟩ | refine hK10 (y.k) _ _ ⟨kp, ?_, ?_⟩ | refine hK10 (k9) _ _ ⟨kp, ?_, ?_⟩ | refine hK10 (k12) _ _ ⟨kp, ?_, ?_⟩ | refine hK10 (k13) _ _ ⟨kp, ?_, ?_⟩ | refine hK10 (k14) _ _ ⟨kp, ?_, ?_⟩ | refine hK10 (k16) _ _ ⟨kp, ?_, ?_⟩ | refine hK10 (k17) _ _ ⟨kp, ?_, ?_⟩ | refine hK10 (k21) _ _ ⟨kp, ?_, ?_⟩ | refine hK10 (k23) _ _ ⟨kp, ?_, ?_⟩ | refine hK10 (q1) _ _ ⟨kp, ?_, ?_⟩
                · have e : SJ = takeT SU := by (rw [hSJ, hSQ, hSM, hSP, fJ, fQ, fM, fP]; rfl)
                  rw [e]
                  exact hk16
                · have e : SJ = takeT SU := by (rw [hSJ, hSQ, hSM, hSP, fJ, fQ, fM, fP]; rfl)
                  have eL : LU = [] := by (rw [hLU, fU]; rfl)
                  simp [e, eL, fT, fV, fO, fN, fC, fU, fP, fM, fQ, fJ, F]
             try exact nope c100
             all_goals
              replace F := wf F c100; refine sr fun _ hJ66 => ?_; refine hJ66 _ _ ?_; refine cs (fun c108 => ?_) (fun c108 => ?_)
              · try exact nope c108
                all_goals
                 replace F := wf F c108
                 have hk : x1 = 32 := (hkn 32).2 (by simpa using c108)
                 have fb : bT = false ∧ bV = false ∧ bO = false ∧ bN = false ∧ bC = false ∧ bU = false ∧ bP = false ∧ bM = true ∧ bQ = false ∧ bJ = false := by (rw [hbT, hbV, hbO, hbN, hbC, hbU, hbP, hbM, hbQ, hbJ]; rw [hk]; decide)
                 obtain ⟨fT, fV, fO, fN, fC, fU, fP, fM, fQ, fJ⟩ := fb
                 refine rg' (h := fun J67 hJ67 => ?_)
                 refine ca (c := inLong_ok (n := 8) (tl := .shut) (by simp [F]) hp hq1 (by omega)) (k := ?_)
                 rintro _ _ ⟨rfl, k17, hk17, rfl⟩; (repeat (first | simp [F] | simp (disch := omega) only [wC, if_pos, if_neg])); refine hJ67 _ _ ?_
                 first | refine hK10 (k6) _ _ ⟨kp, ?_, ?_⟩ | refine hK10 (y.k) _ _ ⟨kp, ?_, ?_⟩ | refine hK10 (k9) _ _ ⟨kp, ?_, ?_⟩ | refine hK10 (k12) _ _ ⟨kp, ?_, ?_⟩ | refine hK10 (k13) _ _ ⟨kp, ?_, ?_⟩ | refine hK10 (k14) _ _ ⟨kp, ?_, ?_⟩ | refine hK10 (k16) _ _ ⟨kp, ?_, ?_⟩ | refine hK10 (k17) _ _ ⟨kp, ?_, ?_⟩ | refine hK10 (k21) _ _ ⟨kp, ?_, ?_⟩ | refine hK10 (k23) _ _ ⟨kp, ?_, ?_⟩ | refine hK10 (q1) _ _ ⟨kp, ?_, ?_⟩
                 · simp only [hST, hSV, hSO, hSN, hSC, hSU, hSP, hSM, hSQ, hSJ, fT, fV, fO, fN, fC, fU, fP, fM, fQ, fJ, cond_true, cond_false]
                   exact hk17
                 · simp [hST, hSV, hSO, hSN, hSC, hSU, hSP, hSM, hSQ, hSJ, fT, fV, fO, fN, fC, fU, fP, fM, fQ, fJ, hLU, hnA, F]
              try exact nope c108
              all_goals
               replace F := wf F c108; refine sr fun _ hJ69 => ?_; refine hJ69 _ _ ?_; refine cs (fun c113 => ?_) (fun c113 => ?_)
               · try exact nope c113
                 all_goals
                  replace F := wf F c113
                  have hk : x1 = 33 := (hkn 33).2 (by simpa using c113)
                  have fb : bT = false ∧ bV = true ∧ bO = false ∧ bN = false ∧ bC = false ∧ bU = false ∧ bP = false ∧ bM = true ∧ bQ = true ∧ bJ = true := by (rw [hbT, hbV, hbO, hbN, hbC, hbU, hbP, hbM, hbQ, hbJ]; rw [hk]; decide)
                  obtain ⟨fT, fV, fO, fN, fC, fU, fP, fM, fQ, fJ⟩ := fb
                  refine sr fun _ hJ71 => ?_
                  refine ca (c := inByte_ok (tl := .shut) (by simp [F]) hp hq1) (k := ?_)
                  rintro _ _ ⟨rfl, k18, hk18, rfl⟩; (repeat (first | simp [F] | simp (disch := omega) only [wC, if_pos, if_neg])); refine hJ71 _ _ ?_; refine sr fun _ hJ73 => ?_
                  refine ca (c := inLong_ok (n := 8) (tl := .shut) (by simp [F]) hp hk18 (by omega)) (k := ?_)
                  rintro _ _ ⟨rfl, k19, hk19, rfl⟩; (repeat (first | simp [F] | simp (disch := omega) only [wC, if_pos, if_neg])); refine hJ73 _ _ ?_; refine sr fun _ hJ75 => ?_
                  refine ca (c := inLong_ok (n := 2) (tl := .shut) (by simp [F]) hp hk19 (by omega)) (k := ?_)
                  rintro _ _ ⟨rfl, k20, hk20, rfl⟩; (repeat (first | simp [F] | simp (disch := omega) only [wC, if_pos, if_neg])); refine hJ75 _ _ ?_; refine rg' (h := fun J76 hJ76 => ?_)
                  refine ca (c := inFlag_ok (tl := .shut) (by simp [F]) hp hk20) (k := ?_)
                  rintro _ _ ⟨rfl, k21, hk21, rfl⟩; (repeat (first | simp [F] | simp (disch := omega) only [wC, if_pos, if_neg])); refine hJ76 _ _ ?_
                  first | refine hK10 (k6) _ _ ⟨kp, ?_, ?_⟩ | refine hK10 (y.k) _ _ ⟨kp, ?_, ?_⟩ | refine hK10 (k9) _ _ ⟨kp, ?_, ?_⟩ | refine hK10 (k12) _ _ ⟨kp, ?_, ?_⟩ | refine hK10 (k13) _ _ ⟨kp, ?_, ?_⟩ | refine hK10 (k14) _ _ ⟨kp, ?_, ?_⟩ | refine hK10 (k16) _ _ ⟨kp, ?_, ?_⟩ | refine hK10 (k17) _ _ ⟨kp, ?_, ?_⟩ | refine hK10 (k21) _ _ ⟨kp, ?_, ?_⟩ | refine hK10 (k23) _ _ ⟨kp, ?_, ?_⟩ | refine hK10 (q1) _ _ ⟨kp, ?_, ?_⟩
                  · simp only [hST, hSV, hSO, hSN, hSC, hSU, hSP, hSM, hSQ, hSJ, fT, fV, fO, fN, fC, fU, fP, fM, fQ, fJ, cond_true, cond_false]
                    exact hk21
                  · simp [hST, hSV, hSO, hSN, hSC, hSU, hSP, hSM, hSQ, hSJ, fT, fV, fO, fN, fC, fU, fP, fM, fQ, fJ, hLU, hnA, F]
               try exact nope c113
               all_goals
                replace F := wf F c113; refine sr fun _ hJ78 => ?_; refine hJ78 _ _ ?_; refine cs (fun c128 => ?_) (fun c128 => ?_)
                · try exact nope c128
                  all_goals
                   replace F := wf F c128
                   have hk : x1 = 34 := (hkn 34).2 (by simpa using c128)
                   have fb : bT = false ∧ bV = true ∧ bO = false ∧ bN = false ∧ bC = true ∧ bU = false ∧ bP = false ∧ bM = false ∧ bQ = false ∧ bJ = false := by (rw [hbT, hbV, hbO, hbN, hbC, hbU, hbP, hbM, hbQ, hbJ]; rw [hk]; decide)
                   obtain ⟨fT, fV, fO, fN, fC, fU, fP, fM, fQ, fJ⟩ := fb
                   refine sr fun _ hJ80 => ?_
                   refine ca (c := inByte_ok (tl := .shut) (by simp [F]) hp hq1) (k := ?_)
                   rintro _ _ ⟨rfl, k22, hk22, rfl⟩; (repeat (first | simp [F] | simp (disch := omega) only [wC, if_pos, if_neg])); refine hJ80 _ _ ?_; refine rg' (h := fun J81 hJ81 => ?_)
                   refine ca (c := inCoins_ok (by simp [F]) hp hk22) (k := ?_)
                   rintro _ _ ⟨rfl, k23, hk23, rfl⟩; (repeat (first | simp [F] | simp (disch := omega) only [wC, if_pos, if_neg])); refine hJ81 _ _ ?_
                   first | refine hK10 (k6) _ _ ⟨kp, ?_, ?_⟩ | refine hK10 (y.k) _ _ ⟨kp, ?_, ?_⟩ | refine hK10 (k9) _ _ ⟨kp, ?_, ?_⟩ | refine hK10 (k12) _ _ ⟨kp, ?_, ?_⟩ | refine hK10 (k13) _ _ ⟨kp, ?_, ?_⟩ | refine hK10 (k14) _ _ ⟨kp, ?_, ?_⟩ | refine hK10 (k16) _ _ ⟨kp, ?_, ?_⟩ | refine hK10 (k17) _ _ ⟨kp, ?_, ?_⟩ | refine hK10 (k21) _ _ ⟨kp, ?_, ?_⟩ | refine hK10 (k23) _ _ ⟨kp, ?_, ?_⟩ | refine hK10 (q1) _ _ ⟨kp, ?_, ?_⟩
                   · simp only [hST, hSV, hSO, hSN, hSC, hSU, hSP, hSM, hSQ, hSJ, fT, fV, fO, fN, fC, fU, fP, fM, fQ, fJ, cond_true, cond_false]
                     exact hk23
                   · simp [hST, hSV, hSO, hSN, hSC, hSU, hSP, hSM, hSQ, hSJ, fT, fV, fO, fN, fC, fU, fP, fM, fQ, fJ, hLU, hnA, F]
                try exact nope c128
                all_goals
                 replace F := wf F c128
                 have fb : bT = false ∧ bV = false ∧ bO = false ∧ bN = false ∧ bC = false ∧ bU = false ∧ bP = false ∧ bM = false ∧ bQ = false ∧ bJ = false := by
                   have hv : hasN x1 = 0 ∨ hasN x1 = 1024 := by
                     rw [hB66] at c66; rw [hB86] at c86; rw [hB94] at c94; simp at c66 c86 c94
                     have a1 : ¬ x1 = 1 := by simpa [hkn] using c29
                     have a2 : ¬ x1 = 2 := by simpa [hkn] using c37
                     have a3 : ¬ x1 = 5 := by simpa [hkn] using c75
                     have a4 : ¬ x1 = 9 := by simpa [hkn] using c100
                     have a5 : ¬ x1 = 32 := by simpa [hkn] using c108
                     have a6 : ¬ x1 = 33 := by simpa [hkn] using c113
                     have a7 : ¬ x1 = 34 := by simpa [hkn] using c128
                     by_cases a8 : x1 = 36
                     · right; rw [a8]; decide
                     · left; simp [hasN, a1, a2, a3, a4, a5, a6, a7, a8, c66, c86, c94]
                   rw [hbT, hbV, hbO, hbN, hbC, hbU, hbP, hbM, hbQ, hbJ]; unfold hB; rcases hv with e | e <;> (rw [e]; decide)
                 obtain ⟨fT, fV, fO, fN, fC, fU, fP, fM, fQ, fJ⟩ := fb
                 refine run_skip ?_
                 first | refine hK10 (k6) _ _ ⟨kp, ?_, ?_⟩ | refine hK10 (y.k) _ _ ⟨kp, ?_, ?_⟩ | refine hK10 (k9) _ _ ⟨kp, ?_, ?_⟩ | refine hK10 (k12) _ _ ⟨kp, ?_, ?_⟩ | refine hK10 (k13) _ _ ⟨kp, ?_, ?_⟩ | refine hK10 (k14) _ _ ⟨kp, ?_, ?_⟩ | refine hK10 (k16) _ _ ⟨kp, ?_, ?_⟩ | refine hK10 (k17) _ _ ⟨kp, ?_, ?_⟩ | refine hK10 (k21) _ _ ⟨kp, ?_, ?_⟩ | refine hK10 (k23) _ _ ⟨kp, ?_, ?_⟩ | refine hK10 (q1) _ _ ⟨kp, ?_, ?_⟩
                 · simp only [hST, hSV, hSO, hSN, hSC, hSU, hSP, hSM, hSQ, hSJ, fT, fV, fO, fN, fC, fU, fP, fM, fQ, fJ, cond_true, cond_false]
                   exact hq1
                 · simp [hST, hSV, hSO, hSN, hSC, hSU, hSP, hSM, hSQ, hSJ, fT, fV, fO, fN, fC, fU, fP, fM, fQ, fJ, hLU, hnA, F]
           case cx58 =>
            intro K58 hK58
            refine sr fun _ hJ83 => ?_; refine hJ83 _ _ ?_; refine cs (fun c94 => ?_) (fun c94 => ?_)
            · try exact nope c94
              all_goals
               replace F := wf F c94; refine run_skip ?_; refine hK58 (()) _ _ ⟨kp, ?_, lp⟩
               · rw [hB94]
                 simp [hkn, F]
                 try rfl
            try exact nope c94
            all_goals
             replace F := wf F c94; refine rg' (h := fun J84 hJ84 => ?_); refine hJ84 _ _ ?_; refine hK58 (()) _ _ ⟨kp, ?_, lp⟩
             · rw [hB94]
               simp [hkn, F]
               try rfl
         case cx56 =>
          intro K56 hK56
          refine sr fun _ hJ86 => ?_; refine hJ86 _ _ ?_; refine cs (fun c86 => ?_) (fun c86 => ?_)
          · try exact nope c86
            all_goals
             replace F := wf F c86; refine run_skip ?_; refine hK56 (()) _ _ ⟨kp, ?_, lp⟩
             · rw [hB86]
               simp [hkn, F]
               try rfl
          try exact nope c86
          all_goals
           replace F := wf F c86; refine sr fun _ hJ88 => ?_; refine hJ88 _ _ ?_; refine cs (fun c86 => ?_) (fun c86 => ?_)
           · try exact nope c86
             all_goals
              replace F := wf F c86; refine run_skip ?_; refine hK56 (()) _ _ ⟨kp, ?_, lp⟩
              · rw [hB86]
                simp [hkn, F]
                try rfl
           try exact nope c86
           all_goals
            replace F := wf F c86; refine sr fun _ hJ90 => ?_; refine hJ90 _ _ ?_; refine cs (fun c86 => ?_) (fun c86 => ?_)
            · try exact nope c86
              all_goals
               replace F := wf F c86; refine run_skip ?_; refine hK56 (()) _ _ ⟨kp, ?_, lp⟩
               · rw [hB86]
                 simp [hkn, F]
                 try rfl
            try exact nope c86
            all_goals
             replace F := wf F c86; refine rg' (h := fun J91 hJ91 => ?_); refine hJ91 _ _ ?_; refine hK56 (()) _ _ ⟨kp, ?_, lp⟩
             · rw [hB86]
               simp [hkn, F]
               try rfl
      case cx45 =>
       intro K45 hK45
       refine sr fun _ hJ93 => ?_; refine hJ93 _ _ ?_; refine cs (fun c66 => ?_) (fun c66 => ?_)
       · try exact nope c66
         all_goals
          replace F := wf F c66; refine run_skip ?_; refine hK45 (()) _ _ ⟨kp, ?_, lp⟩
          · rw [hB66]
            simp [hkn, F]
            try rfl
       try exact nope c66
       all_goals
        replace F := wf F c66; refine rg' (h := fun J94 hJ94 => ?_); refine hJ94 _ _ ?_; refine hK45 (()) _ _ ⟨kp, ?_, lp⟩
        · rw [hB66]
          simp [hkn, F]
          try rfl
  case cx9 =>
   intro K9 hK9
   refine sq fun K95 hK95 => ?_
   have hb32s := hb32.symm
   replace F := aF hb32s F; refine rg' (h := fun J96 hJ96 => ?_); refine hJ96 _ _ ?_; refine hK95 _ _ ?_; refine cs (t := b32) (fun c17 => ?_) (fun c17 => ?_)
   · try exact nope c17
     all_goals
      replace F := wf F c17; refine sr fun _ hJ98 => ?_
      refine ca (c := inByte_ok (tl := .shut) (by simp [F]) hp hk0) (k := ?_)
      rintro _ _ ⟨rfl, k1, hk1, rfl⟩; (repeat (first | simp [F] | simp (disch := omega) only [wC, if_pos, if_neg])); refine hJ98 _ _ ?_; refine sr fun _ hJ100 => ?_
      refine ca (c := inLong_ok (n := 8) (tl := .shut) (by simp [F]) hp hk1 (by omega)) (k := ?_)
      rintro _ _ ⟨rfl, k2, hk2, rfl⟩; (repeat (first | simp [F] | simp (disch := omega) only [wC, if_pos, if_neg])); refine hJ100 _ _ ?_; refine rg' (h := fun J101 hJ101 => ?_)
      refine ca (c := inCoins_ok (by simp [F]) hp hk2) (k := ?_)
      rintro _ _ ⟨rfl, k3, hk3, rfl⟩; (repeat (first | simp [F] | simp (disch := omega) only [wC, if_pos, if_neg])); refine hJ101 _ _ ?_
      first | refine hK9 (k3) _ _ ⟨kp, ?_, ?_⟩ | refine hK9 (k0) _ _ ⟨kp, ?_, ?_⟩
      · rw [hSE, hbE, c17]
        exact hk3
      · have h := c17
        simp [hSE, hbE, h, F]
   try exact nope c17
   all_goals
    replace F := wf F c17; refine run_skip ?_
    first | refine hK9 (k3) _ _ ⟨kp, ?_, ?_⟩ | refine hK9 (k0) _ _ ⟨kp, ?_, ?_⟩
    · rw [hSE, hbE, c17]
      exact hk0
    · have h := c17
      simp [hSE, hbE, h, F]

end Go.Proofs.Ytdbaddholggkbaa

/-
  Messages that are made to be right: coins..
-/
namespace Go.Proofs.Ytdbaddholggkbaa
set_option linter.unnecessarySimpa false
set_option maxRecDepth 100000
open Go Go.Vm
set_option linter.unusedSimpArgs false
set_option linter.unusedVariables false
attribute [local simp] evalL wantedA isCall opA evalA evalAll evalsA evalOpt ofValue ofCell plain binA_eql_pn binA_neq_pn binA_gtr binA_lss binA_geq binA_leq binA_add binA_sub binA_eql binA_neq binA_orI binA_andI binA_shl binA_shr binA_mul binA_quo binA_rem binA_agg_eql binA_agg_neq convA_int unA_not fieldAddrA loadA partA pickA_true pickA_false pickA_bb lenA builtinA storeA splice AV.cells AV.isCell sliceA boundA intA callOf indexAddrA newObjA buildA fillA zeroA ofCells buildSliceA indexA fieldA numA_len4 numA_take4 numA_drop4 set_appN get_appN take_appN List.getElem?_cons_zero List.getElem?_cons_succ makeA zeros64

theorem num256 (n : Nat) : [AV.v (.int .u64 (limb n 0)), AV.v (.int .u64 (limb n 1)), AV.v (.int .u64 (limb n 2)), AV.v (.int .u64 (limb n 3))] = numA n := rfl
def puF : List Coin → Nat → Nat
  | [], _ => 0
  | c :: l, j => if ∃ b ∈ l, b.d.toNat % 8 = j then puF l j else if c.d.toNat % 8 = j then c.n.v else 0
theorem puF_lt : ∀ (l : List Coin) (j : Nat), puF l j < 2 ^ 256
  | [], _ => by simp [puF]
  | c :: l, j => by
    unfold puF
    split
    · exact puF_lt l j
    · split
      · exact c.n.h
      · decide
theorem puF_snoc : ∀ (l : List Coin) (c : Coin) (j : Nat), puF (l ++ [c]) j = if j = c.d.toNat % 8 then c.n.v else puF l j
  | [], c, j => by
    simp only [List.nil_append, puF]
    by_cases h : j = c.d.toNat % 8
    · rw [if_pos h, if_neg (by simp), if_pos h.symm]
    · rw [if_neg h, if_neg (by simp), if_neg (fun e => h e.symm)]
  | x :: l, c, j => by
    have ih := puF_snoc l c j
    rw [List.cons_append]
    unfold puF
    rw [ih]
    by_cases h : j = c.d.toNat % 8
    · rw [if_pos h, if_pos h, if_pos ⟨c, by simp, h.symm⟩]
    · rw [if_neg h, if_neg h]
      have : (∃ b ∈ l ++ [c], b.d.toNat % 8 = j) ↔ ∃ b ∈ l, b.d.toNat % 8 = j := by
        constructor
        · rintro ⟨b, hb, e⟩
          rcases List.mem_append.1 hb with hb | hb
          · exact ⟨b, hb, e⟩
          · simp at hb; subst hb; exact absurd e.symm h
        · rintro ⟨b, hb, e⟩; exact ⟨b, by simp [hb], e⟩
      by_cases h2 : ∃ b ∈ l, b.d.toNat % 8 = j
      · rw [if_pos (this.2 h2), if_pos h2]
      · rw [if_neg (fun h3 => h2 (this.1 h3)), if_neg h2]
def puL (l : List Coin) : List Coin := lstF (puF l) 8
theorem right_puL (l : List Coin) : Right (puL l) := right_lstF (fun d _ => puF_lt l d) 8 (by omega)

set_option maxHeartbeats 1600000 in
attribute [local simp] undefA List.getElem?_cons_zero List.getElem?_cons_succ in
theorem purse_ok {σ : St} {l : List Coin} {tl : Tail} (hl : l.length ≤ 1000000) :
    CallsA Try.prog 102 [.sl 5 (coinsC l) l.length tl] σ (fun av σ' => av = .sl 5 (coinsC (puL l)) (puL l).length .shut ∧ σ = σ') := by
  refine callsA_gcS ?_ (by simp [AV.under])
  have hPl := pur_len
  have hPt := pur_take
  have hPd := pur_drop
  have hPn : ∀ n g, noObjL n (purA (purF g)) = true := fun n g => purA_noObj n _
  have hPc := pur_all
  simp only [AV.isCell] at hPc
  have hlt8 : ∀ d, d < 8 → puF l d < 2 ^ 256 := fun d _ => puF_lt l d
  obtain ⟨R, hR⟩ : ∃ R, R = puL l := ⟨_, rfl⟩
  rw [← hR]
  have F := And.intro hPl (And.intro hPt (And.intro hPd (And.intro hPc (And.intro hPn (True.intro)))))
  refine callsA_body Try.func102 rfl rfl rfl ?_; refine sr fun _ hJ2 => ?_; refine hJ2 _ _ ?_; refine sr fun _ hJ4 => ?_; refine hJ4 _ _ ?_; refine sq fun K5 hK5 => ?_; refine sr fun _ hJ7 => ?_; refine hJ7 _ _ ?_; refine run_block_k ?_; refine run_loopF (X := Nat) [0, 2, 3] (fun i ρ σ1 => (i ≤ l.length) ∧ (ρ 4 = .v (.int .i64 i)) ∧ (σ1 = { σ with objs := σ.objs ++ [purA (purF (puF (l.take i)))] })) (fun i => l.length - i) (0) ?st1 ?rd1
  case st1 =>
   refine ⟨lp, lp, ?_⟩
   · simp only [List.take_zero, show puF [] = fun _ => 0 from rfl, purA_zero]
  case rd1 =>
   rintro i ρ1 σ1 hF1 ⟨hi, h4, hσ⟩; obtain rfl := hσ.symm
   have f1 := keepL hF1
   (try simp [KeepL, F] at f1); replace F := aF h4 F; (try replace F := aF f1 F); refine sq fun K8 hK8 => ?_; refine sr fun _ hJ10 => ?_; refine hJ10 _ _ ?_; refine cs (fun c8 => ?_) (fun c8 => ?_)
   · try exact nope c8
     all_goals
      replace F := wf F c8; refine run_skip ?_; refine hK8 _ _ ?_; refine sq fun K11 hK11 => ?_; refine run_block_k ?_
      have hlt : i < l.length := by simp at c8; omega
      have hat := coinsC_at hlt
      have hb1 : i * 5 + 5 ≤ l.length * 5 := by omega
      obtain ⟨c, hc⟩ : ∃ c, c = l[i] := ⟨_, rfl⟩
      rw [← hc] at hat
      simp only [coinC, numA, List.cons_append, List.nil_append] at hat
      have htk : l.take (i + 1) = l.take i ++ [c] := by rw [hc]; exact (List.take_append_getElem hlt).symm
      obtain ⟨D, hD⟩ : ∃ D, D = c.d.toNat := ⟨_, rfl⟩
      rw [← hD] at hat
      obtain ⟨e, he⟩ : ∃ e, e = D % 8 := ⟨_, rfl⟩
      have he8 : e < 8 := by omega
      have he5 : (e : Int) < 8 := by omega
      have hb2 : e * 4 + 4 ≤ 32 := by omega
      have hm1 : (D : Int) % 8 = (e : Int) := by omega
      have hm2 : (D : Int).tmod 8 = (e : Int) := by rw [Int.tmod_eq_emod_of_nonneg (by omega)]; exact hm1
      have hset := purA_set (P := purF (puF (l.take i))) (d := e) (by simpa using he8) c.n.v
      rw [purF_set] at hset
      have hnx : purF (fun j => if j = e then c.n.v else puF (l.take i) j) = purF (puF (l.take (i + 1))) := purF_congr (fun j _ => by rw [htk, puF_snoc, ← hD, ← he])
      rw [hnx, ← num256] at hset
      simp only [List.cons_append, List.nil_append] at hset
      replace F := aF hat F; replace F := aF hb1 F; replace F := aF hset F; replace F := aF he8 F; replace F := aF he5 F; replace F := aF hb2 F; replace F := aF hm1 F; replace F := aF hm2 F
      refine run_draw (by kernel_rfl) fun J12 hJ12 => ?_
      refine rp2 0 (k := ?_); refine rp2 1 (k := ?_); refine rp2 2 (k := ?_); refine rp2 3 (k := ?_); refine rp2 4 (k := ?_); refine rp2 5 (k := ?_); refine rp2 6 (k := ?_); refine rp2 7 (k := ?_); refine rp2 8 (k := ?_); refine rp2 9 (k := ?_); refine rp2 10 (k := ?_); refine rp2 11 (k := ?_); refine dop 12 rfl ?_; (repeat (first | simp [F] | simp (disch := omega) only [wC, if_pos, if_neg])); refine ⟨ln, ?_⟩; refine dd ?_; refine hJ12 _ _ ?_; refine hK11 _ _ ?_; refine rg' (h := fun J13 hJ13 => ?_); refine hJ13 _ _ ?_; refine ⟨(i + 1), ⟨kp, lp, lp, lp⟩, lp⟩
   try exact nope c8
   all_goals
    replace F := wf F c8
    have hend : l.take i = l := List.take_of_length_le (by simp at c8; omega)
    rw [hend]
    refine run_exit ?_; refine hK5 _ _ ?_; refine sr fun _ hJ15 => ?_; refine cb (c := (show R = lstF (puF l) 8 from hR) ▸ rlist_ok hlt8) (k := ?_); refine hJ15 _ _ ?_; refine ra ?_; exact gcr

end Go.Proofs.Ytdbaddholggkbaa

/-
  Messages that are made to be right..
-/
namespace Go.Proofs.Ytdbaddholggkbaa
set_option linter.unnecessarySimpa false
set_option maxRecDepth 100000
open Go Go.Vm
set_option linter.unusedSimpArgs false
set_option linter.unusedVariables false
attribute [local simp] evalL wantedA isCall opA evalA evalAll evalsA evalOpt ofValue ofCell plain binA_eql_pn binA_neq_pn binA_gtr binA_lss binA_geq binA_leq binA_add binA_sub binA_eql binA_neq binA_orI binA_andI binA_shl binA_shr binA_mul binA_quo binA_rem binA_agg_eql binA_agg_neq convA_int unA_not fieldAddrA loadA partA pickA_true pickA_false pickA_bb builtinA storeA splice AV.cells AV.isCell sliceA boundA intA callOf indexAddrA newObjA buildA fillA zeroA ofCells buildSliceA indexA fieldA numA_len4 numA_take4 numA_drop4 set_appN get_appN take_appN List.getElem?_cons_zero List.getElem?_cons_succ makeA zeros64

def kindF (k : UInt8) : UInt8 := [1, 2, 3, 4, 5, 6, 7, 8, 9, 10, 11, 32, 33, 34, 35, 36].getD (k.toNat % 16) 0
def outF (x : Out) : Out := ⟨x.t % 200, puL x.c⟩
def outsF (l : List Out) : List Out := if (l.take 16).map outF = [] then [⟨1, []⟩] else (l.take 16).map outF
def threeP : Pln := ⟨4, 0, 0, [⟨0, Num.of 3⟩], []⟩
def planF (p : Pln) : Pln := if rightB p = true ∧ ¬ p.k = 0 then p else threeP
def fit0 (m : Msg) : Msg := ⟨kindF m.k, m.f % 200, m.s, puL m.fee, m.t % 200, m.v % 16, m.o % 16, m.n, puL m.c, outsF m.outs, planF m.p, m.tm % 1099511627777, m.pt % 10001, m.j⟩
def fitM (m : Msg) : Msg := onlyM (fit0 m)
theorem kind_at (k : UInt8) : List.drop (k.toNat % 16) [.v (.int .u8 1), .v (.int .u8 2), .v (.int .u8 3), .v (.int .u8 4), .v (.int .u8 5), .v (.int .u8 6), .v (.int .u8 7), .v (.int .u8 8), .v (.int .u8 9), .v (.int .u8 10), .v (.int .u8 11), .v (.int .u8 32), .v (.int .u8 33), .v (.int .u8 34), .v (.int .u8 35), .v (.int .u8 36)] = .v (.int .u8 (kindF k).toNat) :: List.drop (k.toNat % 16 + 1) [AV.v (.int .u8 1), AV.v (.int .u8 2), AV.v (.int .u8 3), AV.v (.int .u8 4), AV.v (.int .u8 5), AV.v (.int .u8 6), AV.v (.int .u8 7), AV.v (.int .u8 8), AV.v (.int .u8 9), AV.v (.int .u8 10), AV.v (.int .u8 11), AV.v (.int .u8 32), AV.v (.int .u8 33), AV.v (.int .u8 34), AV.v (.int .u8 35), AV.v (.int .u8 36)] := by
  have h : k.toNat % 16 < 16 := Nat.mod_lt _ (by decide)
  unfold kindF
  generalize k.toNat % 16 = e at *
  rcases e with _ | _ | _ | _ | _ | _ | _ | _ | _ | _ | _ | _ | _ | _ | _ | _ | e
  all_goals first | rfl | omega

set_option maxHeartbeats 1600000 in
attribute [local simp] undefA List.getElem?_cons_zero List.getElem?_cons_succ msgC outC outsC_noObj persC_noObj plnC in
theorem fit_ok {σ : St} {m : Msg} (hm : m.Ok) (hsm : smallM m = true) :
    CallsA Try.prog 53 [.agg (msgC m)] σ (fun av σ' => av = .agg (msgC (fitM m)) ∧ σ = σ') := by
  refine callsA_gcS ?_ (by simp [AV.under, underL, msgC, persC_under, outsC_under])
  have hrp := fun σ => rpright_ok (σ := σ) hm.p
  obtain ⟨A, hA⟩ : ∃ A, A = fitM m := ⟨_, rfl⟩
  rw [← hA]
  obtain ⟨h1, h2, h3, h4, h5, h6, h7, h8⟩ := hm
  unfold smallM at hsm
  simp only [Bool.and_eq_true, decide_eq_true_eq, List.all_eq_true] at hsm
  obtain ⟨⟨⟨⟨⟨⟨s1, s2⟩, s3⟩, s4⟩, s5⟩, s6⟩, s7⟩ := hsm
  obtain ⟨RP, hRP⟩ : ∃ R, R = rightB m.p := ⟨_, rfl⟩
  rw [← hRP] at hrp
  have hPF : planF m.p = if RP = true ∧ ¬ m.p.k = 0 then m.p else threeP := by rw [hRP]; rfl
  obtain ⟨x1, x2, x3, x4, x5, x6, x7, x8, x9, x10, x11, x12, x13, x14⟩ := m
  simp only at s1 s2 s3 s6 h3 h7 h8 hPF
  obtain ⟨kf, hkf⟩ : ∃ k, k = kindF x1 := ⟨_, rfl⟩
  have hka := kind_at x1
  rw [← hkf] at hka
  obtain ⟨e, he⟩ : ∃ e, e = x1.toNat % 16 := ⟨_, rfl⟩
  have he16 : e < 16 := by omega
  have he16i : (e : Int) < 16 := by omega
  rw [← he] at hka
  have hm1 : (x1.toNat : Int) % 16 = (e : Int) := by omega
  have hm2 : (x1.toNat : Int).tmod 16 = (e : Int) := by rw [Int.tmod_eq_emod_of_nonneg (by omega)]; exact hm1
  obtain ⟨y2, hy2⟩ : ∃ y, y = x2 % 200 := ⟨_, rfl⟩
  have hy2a : (x2.toNat : Int) % 200 = (y2.toNat : Int) := by rw [hy2]; simp [UInt8.toNat_mod]
  have hy2b : (x2.toNat : Int).tmod 200 = (y2.toNat : Int) := by rw [Int.tmod_eq_emod_of_nonneg (by omega)]; exact hy2a
  obtain ⟨y5, hy5⟩ : ∃ y, y = x5 % 200 := ⟨_, rfl⟩
  have hy5a : (x5.toNat : Int) % 200 = (y5.toNat : Int) := by rw [hy5]; simp [UInt8.toNat_mod]
  have hy5b : (x5.toNat : Int).tmod 200 = (y5.toNat : Int) := by rw [Int.tmod_eq_emod_of_nonneg (by omega)]; exact hy5a
  obtain ⟨y6, hy6⟩ : ∃ y, y = x6 % 16 := ⟨_, rfl⟩
  have hy6a : (x6.toNat : Int) % 16 = (y6.toNat : Int) := by rw [hy6]; simp [UInt8.toNat_mod]
  have hy6b : (x6.toNat : Int).tmod 16 = (y6.toNat : Int) := by rw [Int.tmod_eq_emod_of_nonneg (by omega)]; exact hy6a
  obtain ⟨y7, hy7⟩ : ∃ y, y = x7 % 16 := ⟨_, rfl⟩
  have hy7a : (x7.toNat : Int) % 16 = (y7.toNat : Int) := by rw [hy7]; simp [UInt8.toNat_mod]
  have hy7b : (x7.toNat : Int).tmod 16 = (y7.toNat : Int) := by rw [Int.tmod_eq_emod_of_nonneg (by omega)]; exact hy7a
  obtain ⟨y12, hy12⟩ : ∃ y, y = x12 % 1099511627777 := ⟨_, rfl⟩
  have hy12a : (x12 : Int) % 1099511627777 = (y12 : Int) := by omega
  have hy12b : (x12 : Int).tmod 1099511627777 = (y12 : Int) := by rw [Int.tmod_eq_emod_of_nonneg (by omega)]; exact hy12a
  obtain ⟨y13, hy13⟩ : ∃ y, y = x13 % 10001 := ⟨_, rfl⟩
  have hy13a : (x13 : Int) % 10001 = (y13 : Int) := by omega
  have hy13b : (x13 : Int).tmod 10001 = (y13 : Int) := by rw [Int.tmod_eq_emod_of_nonneg (by omega)]; exact hy13a
  obtain ⟨y4, hy4⟩ : ∃ y, y = puL x4 := ⟨_, rfl⟩
  obtain ⟨y9, hy9⟩ : ∃ y, y = puL x9 := ⟨_, rfl⟩
  have hp4 := fun σ => purse_ok (σ := σ) (l := x4) (tl := .shut) (by omega)
  have hp9 := fun σ => purse_ok (σ := σ) (l := x9) (tl := .shut) (by omega)
  simp only [← hy4] at hp4
  simp only [← hy9] at hp9
  obtain ⟨N, hN⟩ : ∃ N, N = min x10.length 16 := ⟨_, rfl⟩
  obtain ⟨OT, hOT⟩ : ∃ L, L = (x10.take 16).map outF := ⟨_, rfl⟩
  have hOl : OT.length = N := by rw [hOT, hN]; simp; omega
  have hOat : ∀ i (h : i < N) (h2 : i < x10.length), OT.take (i + 1) = OT.take i ++ [outF x10[i]] := fun i h h2 => by
    rw [← List.take_append_getElem (by omega : i < OT.length)]
    congr 2
    subst hOT
    simp
  obtain ⟨OF, hOF⟩ : ∃ L, L = outsF x10 := ⟨_, rfl⟩
  have hOF1 : OT = [] → OF = [⟨1, []⟩] := fun e => by rw [hOF, outsF, if_pos (by rw [← hOT]; exact e)]
  have hOF2 : ¬ OT = [] → OF = OT := fun e => by rw [hOF, outsF, if_neg (by rw [← hOT]; exact e), hOT]
  obtain ⟨PF, hPFd⟩ : ∃ p, p = planF x11 := ⟨_, rfl⟩
  rw [← hPFd] at hPF
  obtain ⟨M, hM⟩ : ∃ M, M = fit0 ⟨x1, x2, x3, x4, x5, x6, x7, x8, x9, x10, x11, x12, x13, x14⟩ := ⟨_, rfl⟩
  have hM2 : M = ⟨kf, y2, x3, y4, y5, y6, y7, x8, y9, OF, PF, y12, y13, x14⟩ := by rw [hM, hkf, hy2, hy4, hy5, hy6, hy7, hy9, hOF, hPFd, hy12, hy13]; rfl
  have hAM : A = onlyM M := by rw [hA, fitM, hM]
  have hon : ∀ (X : List AV) (τ : St), WkL X (msgC M) → CallsA Try.prog 101 [.agg X] τ (fun av σ' => av = .agg (msgC A) ∧ τ = σ') := fun X τ hX => by
    rw [hAM]; exact callsA_wk (.cons (WkL.agg hX) .nil) rmonly_ok
  have three : [AV.v (.int .u8 0), .v (.int .u64 3), .v (.int .u64 0), .v (.int .u64 0), .v (.int .u64 0)] = coinsC [⟨0, Num.of 3⟩] := by simp [coinsC, coinC, numA, limb, Num.of]
  have hO1 : OF = [⟨1, []⟩] → Wk (.sl 2 [.v (.int .u8 1), .sl 0 [] 0 .full] 1 .full) (.sl 2 (outsC OF) OF.length .shut) := fun e => by
    rw [e]; exact Wk.trans (Wk.cells (m := outsC [⟨1, []⟩]) (.cons (Wk.refl _) (.cons (Wk.nil _ _ _) .nil))) (Wk.shut _ _ _ _)
  have hO2 : OF = OT → Wk (grA σ.toks.length 2 (posB N) (outsC OT) N) (.sl 2 (outsC OF) OF.length .shut) := fun e => by
    rw [e, hOl]; exact wk_grA (fun h => by have h0 := posB_no h; have : OT = [] := List.length_eq_zero_iff.1 (by omega); rw [this]; exact ⟨rfl, h0⟩)
  have hXT : PF = threeP → ∀ Oc, Wk Oc (.sl 2 (outsC OF) OF.length .shut) → WkL [.v (.int .u8 kf.toNat), .v (.int .u8 y2.toNat), .v (.int .u64 x3), .sl 5 (coinsC y4) y4.length .shut, .v (.int .u8 y5.toNat), .v (.int .u8 y6.toNat), .v (.int .u8 y7.toNat), .v (.int .u64 (limb x8.v 0)), .v (.int .u64 (limb x8.v 1)), .v (.int .u64 (limb x8.v 2)), .v (.int .u64 (limb x8.v 3)), .sl 5 (coinsC y9) y9.length .shut, Oc, .v (.int .u8 4), .v (.int .u64 0), .v (.int .u64 0), .sl 5 [.v (.int .u8 0), .v (.int .u64 3), .v (.int .u64 0), .v (.int .u64 0), .v (.int .u64 0)] 1 .full, .sl 0 [] 0 .full, .v (.int .u64 y12), .v (.int .u16 y13), .v (.bool x14)] (msgC M) := fun e Oc hO => by
    rw [hM2, e, three]
    simp only [msgC]
    exact .cons (Wk.refl _) (.cons (Wk.refl _) (.cons (Wk.refl _) (.cons (Wk.refl _) (.cons (Wk.refl _) (.cons (Wk.refl _) (.cons (Wk.refl _) (.cons (Wk.refl _) (.cons (Wk.refl _) (.cons (Wk.refl _) (.cons (Wk.refl _) (.cons (Wk.refl _) (.cons (hO) (.cons (Wk.refl _) (.cons (Wk.refl _) (.cons (Wk.refl _) (.cons (Wk.shut _ _ _ _) (.cons (Wk.nil _ _ _) (.cons (Wk.refl _) (.cons (Wk.refl _) (.cons (Wk.refl _) (.nil)))))))))))))))))))))
  have hXP : PF = x11 → ∀ Oc, Wk Oc (.sl 2 (outsC OF) OF.length .shut) → WkL [.v (.int .u8 kf.toNat), .v (.int .u8 y2.toNat), .v (.int .u64 x3), .sl 5 (coinsC y4) y4.length .shut, .v (.int .u8 y5.toNat), .v (.int .u8 y6.toNat), .v (.int .u8 y7.toNat), .v (.int .u64 (limb x8.v 0)), .v (.int .u64 (limb x8.v 1)), .v (.int .u64 (limb x8.v 2)), .v (.int .u64 (limb x8.v 3)), .sl 5 (coinsC y9) y9.length .shut, Oc, .v (.int .u8 x11.k.toNat), .v (.int .u64 x11.s), .v (.int .u64 x11.e), .sl 5 (coinsC x11.tot) x11.tot.length .shut, .sl 2 (persC x11.ps) x11.ps.length .shut, .v (.int .u64 y12), .v (.int .u16 y13), .v (.bool x14)] (msgC M) := fun e Oc hO => by
    rw [hM2, e]
    exact .cons (Wk.refl _) (.cons (Wk.refl _) (.cons (Wk.refl _) (.cons (Wk.refl _) (.cons (Wk.refl _) (.cons (Wk.refl _) (.cons (Wk.refl _) (.cons (Wk.refl _) (.cons (Wk.refl _) (.cons (Wk.refl _) (.cons (Wk.refl _) (.cons (Wk.refl _) (.cons (hO) (.cons (Wk.refl _) (.cons (Wk.refl _) (.cons (Wk.refl _) (.cons (Wk.refl _) (.cons (Wk.refl _) (.cons (Wk.refl _) (.cons (Wk.refl _) (.cons (Wk.refl _) (.nil)))))))))))))))))))))
  clear hAM hM hA hkf hOF hPFd hRP hOT
  obtain ⟨xpk, xps, xpe, xpt, xpq⟩ := x11
  simp only at hPF hXP
  have hkn : ∀ n : UInt8, xpk = n ↔ (xpk.toNat : Int) = (n.toNat : Int) := fun n => ⟨fun e => by rw [e], fun e => UInt8.toNat_inj.1 (Int.ofNat_inj.1 e)⟩
  obtain ⟨B, hB⟩ : ∃ B, B = !(RP && !decide (xpk = 0)) := ⟨_, rfl⟩
  have hd16 : ∀ f : Nat → AV, List.drop 16 (List.map f (List.range 16)) = [] := fun _ => rfl
  have hd2 : ∀ f : Nat → AV, List.drop 2 (List.map f (List.range 2)) = [] := fun _ => rfl
  have hd5 : ∀ f : Nat → AV, List.drop 5 (List.map f (List.range 5)) = [] := fun _ => rfl
  have hd4 : ∀ f : Nat → AV, List.drop 4 (List.map f (List.range 4)) = [] := fun _ => rfl
  have hgc : ∀ (k : Nat) (b : Bool) (cs : List AV) (n : Nat), (grA k 2 b cs n).isCell = true := fun k b cs n => by cases b <;> rfl
  simp only [AV.isCell] at hgc
  have hcl : ∀ (k : Nat) (b : Bool) (cs : List AV) (n : Nat), (grA k 2 b cs n).cells = [grA k 2 b cs n] := fun k b cs n => by cases b <;> rfl
  simp only [AV.cells] at hcl
  have hgl : ∀ (k : Nat) (cs : List AV) (n : Nat), lenA Try.prog 70 (grA k 2 (posB n) cs n) = some (.v (.int .i64 (n : Nat))) := fun k cs n => by cases n <;> rfl
  have hls : ∀ (sz : Nat) (cs : List AV) (n : Nat) (tl : Tail), lenA Try.prog 70 (.sl sz cs n tl) = some (.v (.int .i64 (n : Nat))) := fun _ _ _ _ => rfl
  have F := And.intro hd16 (And.intro hd2 (And.intro hd5 (And.intro hd4 (And.intro hgc (And.intro hcl (And.intro hgl (And.intro hls (True.intro))))))))
  refine callsA_body Try.func53 rfl rfl rfl ?_; refine sr fun _ hJ2 => ?_; refine hJ2 _ _ ?_; refine sq fun K3 hK3 => ?_; replace F := aF hm1 F; replace F := aF hm2 F; replace F := aF hka F; replace F := aF he16 F; replace F := aF he16i F; refine rg' (h := fun J4 hJ4 => ?_); refine hJ4 _ _ ?_; refine hK3 _ _ ?_; refine sq fun K5 hK5 => ?_
  refine run_draw (by kernel_rfl) fun J6 hJ6 => ?_
  refine rp2 0 (k := ?_); refine rp2 1 (k := ?_); refine rp2 3 (k := ?_); refine rp2 4 (k := ?_); refine dc 2 rfl (c := hp4 _) (k := ?_); rintro _ _ ⟨rfl, rfl⟩
  refine ⟨by first | exact fun _ _ h => h | (refine later_list [4, 3, 0] (by kernel_rfl) (fc2 ?_ <| fc2 ?_ <| fc2 ?_ <| fn0) <;> constructor <;> first | rfl | (simp [F]; done)), ?_⟩
  (repeat (first | simp [F] | simp (disch := omega) only [wC, if_pos, if_neg])); refine rp2 6 (k := ?_); refine dc 5 rfl (c := hp9 _) (k := ?_); rintro _ _ ⟨rfl, rfl⟩
  refine ⟨by first | exact fun _ _ h => h | (refine later_list [6, 3, 0] (by kernel_rfl) (fc2 ?_ <| fc2 ?_ <| fc2 ?_ <| fn0) <;> constructor <;> first | rfl | (simp [F]; done)), ?_⟩
  (repeat (first | simp [F] | simp (disch := omega) only [wC, if_pos, if_neg])); refine dop 7 rfl ?_; (repeat (first | simp [F] | simp (disch := omega) only [wC, if_pos, if_neg])); refine ⟨ln, ?_⟩; refine rp2 8 (k := ?_); refine dop 9 rfl ?_; (repeat (first | simp [F] | simp (disch := omega) only [wC, if_pos, if_neg])); refine ⟨ln, ?_⟩; refine dd ?_; refine hJ6 _ _ ?_; refine hK5 _ _ ?_; refine sq fun K7 hK7 => ?_; replace F := aF hy2a F; replace F := aF hy2b F; replace F := aF hy5a F; replace F := aF hy5b F; replace F := aF hy6a F; replace F := aF hy6b F; replace F := aF hy7a F; replace F := aF hy7b F; refine rg' (h := fun J8 hJ8 => ?_); refine hJ8 _ _ ?_; refine hK7 _ _ ?_; refine sq fun K9 hK9 => ?_; replace F := aF hy12a F; replace F := aF hy12b F; replace F := aF hy13a F; replace F := aF hy13b F; refine rg' (h := fun J10 hJ10 => ?_); refine hJ10 _ _ ?_; refine hK9 _ _ ?_; refine sr fun _ hJ12 => ?_; refine hJ12 _ _ ?_; refine sq fun K13 hK13 => ?_; refine sr fun _ hJ15 => ?_; refine hJ15 _ _ ?_; refine run_block_k ?_; refine run_loopF (X := Nat) [1, 2] (fun i ρ σ1 => (i ≤ N) ∧ (ρ 3 = grA σ.toks.length 2 (posB i) (outsC (OT.take i)) i) ∧ (ρ 4 = .v (.int .i64 i)) ∧ (σ1 = { σ with objs := σ.objs ++ [[.v (.int .u8 kf.toNat), .v (.int .u8 y2.toNat), .v (.int .u64 x3), .sl 5 (coinsC y4) y4.length .shut, .v (.int .u8 y5.toNat), .v (.int .u8 y6.toNat), .v (.int .u8 y7.toNat), .v (.int .u64 (limb x8.v 0)), .v (.int .u64 (limb x8.v 1)), .v (.int .u64 (limb x8.v 2)), .v (.int .u64 (limb x8.v 3)), .sl 5 (coinsC y9) y9.length .shut, .sl 2 (outsC x10) x10.length .shut, .v (.int .u8 xpk.toNat), .v (.int .u64 xps), .v (.int .u64 xpe), .sl 5 (coinsC xpt) xpt.length .shut, .sl 2 (persC xpq) xpq.length .shut, .v (.int .u64 y12), .v (.int .u16 y13), .v (.bool x14)], [.v (.int .u8 0), .v (.int .u8 0), .v (.int .u64 0), .sl 0 [] 0 .full, .v (.int .u8 0), .v (.int .u8 0), .v (.int .u8 0), .v (.int .u64 0), .v (.int .u64 0), .v (.int .u64 0), .v (.int .u64 0), .sl 0 [] 0 .full, .sl 0 [] 0 .full, .v (.int .u8 0), .v (.int .u64 0), .v (.int .u64 0), .sl 0 [] 0 .full, .sl 0 [] 0 .full, .v (.int .u64 0), .v (.int .u16 0), .v (.bool false)]], toks := σ.toks ++ grT (posB i) i })) (fun i => N - i) (0) ?st1 ?rd1
  case st1 =>
   refine ⟨lp, ?_, lp, ?_⟩
   · simp
   · simp [F]
  case rd1 =>
   rintro i ρ1 σ1 hF1 ⟨hi, h3o, h4i, hσ⟩; obtain rfl := hσ.symm
   have f1 := keepL hF1
   (try simp [KeepL, F] at f1); replace F := aF h3o F; replace F := aF h4i F; (try replace F := aF f1 F); refine sq fun K16 hK16 => ?_; refine sqc (X := Unit) [1, 2, 3, 4] (fun z ρ σ1 => (ρ 52 = .v (.bool (decide (i < N)))) ∧ (σ1 = { σ with objs := σ.objs ++ [[.v (.int .u8 kf.toNat), .v (.int .u8 y2.toNat), .v (.int .u64 x3), .sl 5 (coinsC y4) y4.length .shut, .v (.int .u8 y5.toNat), .v (.int .u8 y6.toNat), .v (.int .u8 y7.toNat), .v (.int .u64 (limb x8.v 0)), .v (.int .u64 (limb x8.v 1)), .v (.int .u64 (limb x8.v 2)), .v (.int .u64 (limb x8.v 3)), .sl 5 (coinsC y9) y9.length .shut, .sl 2 (outsC x10) x10.length .shut, .v (.int .u8 xpk.toNat), .v (.int .u64 xps), .v (.int .u64 xpe), .sl 5 (coinsC xpt) xpt.length .shut, .sl 2 (persC xpq) xpq.length .shut, .v (.int .u64 y12), .v (.int .u16 y13), .v (.bool x14)], [.v (.int .u8 0), .v (.int .u8 0), .v (.int .u64 0), .sl 0 [] 0 .full, .v (.int .u8 0), .v (.int .u8 0), .v (.int .u8 0), .v (.int .u64 0), .v (.int .u64 0), .v (.int .u64 0), .v (.int .u64 0), .sl 0 [] 0 .full, .sl 0 [] 0 .full, .v (.int .u8 0), .v (.int .u64 0), .v (.int .u64 0), .sl 0 [] 0 .full, .sl 0 [] 0 .full, .v (.int .u64 0), .v (.int .u16 0), .v (.bool false)]], toks := σ.toks ++ grT (posB i) i })) ?cy17 ?cx17
   case cy17 =>
    rintro z ρCr7 σ1 hFCr7 ⟨h52, hσ⟩; obtain rfl := hσ.symm
    have fCr7 := keepL hFCr7
    (try simp [KeepL, F] at fCr7); replace F := aF h52 F; (try replace F := aF fCr7 F); refine cs (t := (decide (i < N))) (fun c52 => ?_) (fun c52 => ?_)
    · try exact nope c52
      all_goals
       replace F := wf F c52; refine run_skip ?_; refine hK16 _ _ ?_; refine sq fun K18 hK18 => ?_; refine run_block_k ?_
       have hlt : i < N := by simpa using c52
       have hlt2 : i < x10.length := by omega
       have hat := outsC_at hlt2
       have hb1 : i * 2 + 2 ≤ x10.length * 2 := by omega
       have hx12 := s6 _ (List.getElem_mem hlt2)
       have htk := hOat i hlt hlt2
       obtain ⟨x, hx⟩ : ∃ x, x = x10[i] := ⟨_, rfl⟩
       rw [← hx] at hat hx12 htk
       obtain ⟨xl, xc⟩ := x
       simp only at hx12
       obtain ⟨yl, hyl⟩ : ∃ y, y = xl % 200 := ⟨_, rfl⟩
       have hyla : (xl.toNat : Int) % 200 = (yl.toNat : Int) := by rw [hyl]; simp [UInt8.toNat_mod]
       have hylb : (xl.toNat : Int).tmod 200 = (yl.toNat : Int) := by rw [Int.tmod_eq_emod_of_nonneg (by omega)]; exact hyla
       obtain ⟨yc, hyc⟩ : ∃ y, y = puL xc := ⟨_, rfl⟩
       have hpc := fun σ => purse_ok (σ := σ) (l := xc) (tl := .shut) (by omega)
       simp only [← hyc] at hpc
       have hP : outsC (OT.take (i + 1)) = outsC (OT.take i) ++ [.v (.int .u8 yl.toNat), .sl 5 (coinsC yc) yc.length .shut] := by rw [htk, ← outsC_append, outF, hyl, hyc]; rfl
       have hb0 : posB i = false → outsC (OT.take i) = [] ∧ i = 0 := fun h => by have h0 := posB_no h; subst h0; simp
       have happ : ∀ objs, appendA Try.prog 70 (grA σ.toks.length 2 (posB i) (outsC (OT.take i)) i) (.sl 2 [.v (.int .u8 yl.toNat), .sl 5 (coinsC yc) yc.length .shut] 1 .full) ⟨objs, σ.toks ++ grT (posB i) i, σ.gl, σ.rows⟩ = some (grA σ.toks.length 2 true (outsC (OT.take i) ++ [.v (.int .u8 yl.toNat), .sl 5 (coinsC yc) yc.length .shut]) (i + 1), ⟨objs, σ.toks ++ grT true (i + 1), σ.gl, σ.rows⟩) := fun objs => append_gr elemT_70 ti_122 (by decide) rfl hb0 (.inl rfl) (by simp [roomA]; omega) (by simp [maxLen]; omega)
       replace F := aF hP.symm F; replace F := aF hlt2 F; replace F := aF hat F; replace F := aF hb1 F; replace F := aF hyla F; replace F := aF hylb F; replace F := aF happ F
       refine run_draw (by kernel_rfl) fun J19 hJ19 => ?_
       refine rp2 0 (k := ?_); refine rp2 1 (k := ?_); refine rp2 2 (k := ?_); refine rp2 3 (k := ?_); refine rp2 4 (k := ?_); refine rp2 5 (k := ?_); refine rp2 6 (k := ?_); refine rp2 7 (k := ?_); refine rp2 8 (k := ?_); refine rp2 9 (k := ?_); refine rp2 10 (k := ?_); refine rp2 11 (k := ?_); refine rp2 12 (k := ?_); refine rp2 13 (k := ?_); refine dc 14 rfl (c := hpc _) (k := ?_); rintro _ _ ⟨rfl, rfl⟩
       refine ⟨by first | exact fun _ _ h => h | (refine later_list [12, 11, 10, 9, 8, 7, 6, 5, 4, 3, 2, 1, 0] (by kernel_rfl) (fc2 ?_ <| fc2 ?_ <| fc2 ?_ <| fc2 ?_ <| fc2 ?_ <| fc2 ?_ <| fc2 ?_ <| fc2 ?_ <| fc2 ?_ <| fc2 ?_ <| fc2 ?_ <| fc2 ?_ <| fc2 ?_ <| fn0) <;> constructor <;> first | rfl | (simp [F]; done)), ?_⟩
       (repeat (first | simp [F] | simp (disch := omega) only [wC, if_pos, if_neg])); refine rp2 15 (k := ?_); refine rp2 16 (k := ?_); refine dop 17 rfl ?_; repeat (first | simp [F] | simp (disch := omega) only [wC, if_pos, if_neg])
       refine ⟨by first | exact fun _ _ h => h | (refine later_list [15, 12, 11, 10, 9, 8, 7, 6, 5, 4, 3, 2, 1] (by kernel_rfl) (fc2 ?_ <| fc2 ?_ <| fc2 ?_ <| fc2 ?_ <| fc2 ?_ <| fc2 ?_ <| fc2 ?_ <| fc2 ?_ <| fc2 ?_ <| fc2 ?_ <| fc2 ?_ <| fc2 ?_ <| fc2 ?_ <| fn0) <;> constructor <;> first | rfl | (simp [F]; done)), ?_⟩
       refine dop 18 rfl ?_; (repeat (first | simp [F] | simp (disch := omega) only [wC, if_pos, if_neg])); (try refine ⟨ln, ?_⟩); refine dd ?_; refine hJ19 _ _ ?_; refine hK18 _ _ ?_; refine rg' (h := fun J20 hJ20 => ?_); refine hJ20 _ _ ?_; refine ⟨(i + 1), ⟨kp, lp, lp, lp, lp⟩, lp⟩
    try exact nope c52
    all_goals
     replace F := wf F c52
     have hii : i = N := by have h := c52; simp at h; omega
     subst hii
     have hTT : OT.take i = OT := List.take_of_length_le (by omega)
     replace F := aF hTT F; refine run_exit ?_; refine hK13 _ _ ?_; refine sr fun _ hJ22 => ?_; refine hJ22 _ _ ?_; refine sq fun K23 hK23 => ?_; refine sqc (X := Unit) [1, 2] (fun z ρ σ1 => (ρ 84 = .v (.bool B)) ∧ (σ1 = { σ with objs := σ.objs ++ [[.v (.int .u8 kf.toNat), .v (.int .u8 y2.toNat), .v (.int .u64 x3), .sl 5 (coinsC y4) y4.length .shut, .v (.int .u8 y5.toNat), .v (.int .u8 y6.toNat), .v (.int .u8 y7.toNat), .v (.int .u64 (limb x8.v 0)), .v (.int .u64 (limb x8.v 1)), .v (.int .u64 (limb x8.v 2)), .v (.int .u64 (limb x8.v 3)), .sl 5 (coinsC y9) y9.length .shut, grA σ.toks.length 2 (posB i) (outsC OT) i, .v (.int .u8 xpk.toNat), .v (.int .u64 xps), .v (.int .u64 xpe), .sl 5 (coinsC xpt) xpt.length .shut, .sl 2 (persC xpq) xpq.length .shut, .v (.int .u64 y12), .v (.int .u16 y13), .v (.bool x14)], [.v (.int .u8 0), .v (.int .u8 0), .v (.int .u64 0), .sl 0 [] 0 .full, .v (.int .u8 0), .v (.int .u8 0), .v (.int .u8 0), .v (.int .u64 0), .v (.int .u64 0), .v (.int .u64 0), .v (.int .u64 0), .sl 0 [] 0 .full, .sl 0 [] 0 .full, .v (.int .u8 0), .v (.int .u64 0), .v (.int .u64 0), .sl 0 [] 0 .full, .sl 0 [] 0 .full, .v (.int .u64 0), .v (.int .u16 0), .v (.bool false)]], toks := σ.toks ++ grT (posB i) i })) ?cy24 ?cx24
     case cy24 =>
      rintro z ρCr11 σ1 hFCr11 ⟨h84, hσ⟩; obtain rfl := hσ.symm
      have fCr11 := keepL hFCr11
      (try simp [KeepL, F] at fCr11); replace F := aF h84 F; (try replace F := aF fCr11 F); refine cs (t := B) (fun c84 => ?_) (fun c84 => ?_)
      · try exact nope c84
        all_goals
         replace F := wf F c84
         have hPF2 : PF = threeP := by (rw [hPF, if_neg]; rintro ⟨e1, e2⟩; rw [hB, e1] at c84; simp [e2] at c84)
         refine rg' (h := fun J25 hJ25 => ?_); refine hJ25 _ _ ?_; refine hK23 _ _ ?_; refine sq fun K26 hK26 => ?_; refine sr fun _ hJ28 => ?_; refine hJ28 _ _ ?_; refine cs (fun c93 => ?_) (fun c93 => ?_)
         · try exact nope c93
           all_goals
            replace F := wf F c93
            have hO0 : OT = [] := List.length_eq_zero_iff.1 (by have h := c93; simp at h; omega)
            have hOF3 := hOF1 hO0
            refine rg' (h := fun J29 hJ29 => ?_); refine hJ29 _ _ ?_; refine hK26 _ _ ?_; refine sr fun _ hJ31 => ?_; refine cb (c := hon _ _ (hXT hPF2 _ (hO1 hOF3))) (k := ?_); refine hJ31 _ _ ?_; refine run_ret ?_; (try simp only [Then, InBlock, NoGoto]); refine acell (h := ?_)
            show Wk _ _ ∧ _
            exact gcr
         try exact nope c93
         all_goals
          replace F := wf F c93
          have hOF3 := hOF2 (fun e => by have h := c93; simp at h; rw [e] at hOl; simp at hOl; omega)
          refine run_skip ?_; refine hK26 _ _ ?_; refine sr fun _ hJ33 => ?_; refine cb (c := hon _ _ (hXT hPF2 _ (hO2 hOF3))) (k := ?_); refine hJ33 _ _ ?_; refine run_ret ?_; (try simp only [Then, InBlock, NoGoto]); refine acell (h := ?_)
          show Wk _ _ ∧ _
          exact gcr
      try exact nope c84
      all_goals
       replace F := wf F c84
       have hPF2 : PF = ⟨xpk, xps, xpe, xpt, xpq⟩ := by (rw [hPF, if_pos]; rw [hB] at c84; simp at c84; exact ⟨c84.1, c84.2⟩)
       refine run_skip ?_; refine hK23 _ _ ?_; refine sq fun K34 hK34 => ?_; refine sr fun _ hJ36 => ?_; refine hJ36 _ _ ?_; refine cs (fun c93 => ?_) (fun c93 => ?_)
       · try exact nope c93
         all_goals
          replace F := wf F c93
          have hO0 : OT = [] := List.length_eq_zero_iff.1 (by have h := c93; simp at h; omega)
          have hOF3 := hOF1 hO0
          refine rg' (h := fun J37 hJ37 => ?_); refine hJ37 _ _ ?_; refine hK34 _ _ ?_; refine sr fun _ hJ39 => ?_; refine cb (c := hon _ _ (hXP hPF2 _ (hO1 hOF3))) (k := ?_); refine hJ39 _ _ ?_; refine run_ret ?_; (try simp only [Then, InBlock, NoGoto]); refine acell (h := ?_)
          show Wk _ _ ∧ _
          exact gcr
       try exact nope c93
       all_goals
        replace F := wf F c93
        have hOF3 := hOF2 (fun e => by have h := c93; simp at h; rw [e] at hOl; simp at hOl; omega)
        refine run_skip ?_; refine hK34 _ _ ?_; refine sr fun _ hJ41 => ?_; refine cb (c := hon _ _ (hXP hPF2 _ (hO2 hOF3))) (k := ?_); refine hJ41 _ _ ?_; refine run_ret ?_; (try simp only [Then, InBlock, NoGoto]); refine acell (h := ?_)
        show Wk _ _ ∧ _
        exact gcr
     case cx24 =>
      intro K24 hK24
      refine rg' (h := fun J42 hJ42 => ?_); refine cb (c := hrp _) (k := ?_); refine gs 79 (fun g11_4 => ?_) (fun g11_4 => ?_)
      · try exact nope g11_4
        all_goals
         replace F := wf F g11_4; (iterate 4 refine no2 (k := ?_)); refine hJ42 _ _ ?_; refine hK24 (()) _ _ ⟨kp, ?_, lp⟩
         · rw [hB]
           simp [hkn, F]
           try (rw [Bool.eq_iff_iff]; simp)
      try exact nope g11_4
      all_goals
       replace F := wf F g11_4; (iterate 4 refine go2 (k := ?_)); refine hJ42 _ _ ?_; refine hK24 (()) _ _ ⟨kp, ?_, lp⟩
       · rw [hB]
         simp [hkn, F]
         try (rw [Bool.eq_iff_iff]; simp)
   case cx17 =>
    intro K17 hK17
    refine rg' (h := fun J43 hJ43 => ?_); refine gs 49 (fun g7_5 => ?_) (fun g7_5 => ?_)
    · try exact nope g7_5
      all_goals
       replace F := wf F g7_5; (iterate 2 refine go2 (k := ?_)); refine hJ43 _ _ ?_; refine hK17 (()) _ _ ⟨kp, ?_, lp⟩
       · have h := g7_5
         simp at h
         simp [hN]
         (try rw [Bool.eq_iff_iff]); (try simp); try omega
    try exact nope g7_5
    all_goals
     replace F := wf F g7_5; (iterate 2 refine no2 (k := ?_)); refine hJ43 _ _ ?_; refine hK17 (()) _ _ ⟨kp, ?_, lp⟩
     · have h := g7_5
       simp at h
       simp [hN]
       (try rw [Bool.eq_iff_iff]); (try simp); try omega

end Go.Proofs.Ytdbaddholggkbaa

/-
  PlanBytes..
-/
namespace Go.Proofs.Ytdbaddholggkbaa
set_option linter.unnecessarySimpa false
set_option maxRecDepth 100000
open Go Go.Vm
set_option linter.unusedSimpArgs false
set_option linter.unusedVariables false
attribute [local simp] evalL wantedA isCall opA evalA evalAll evalsA evalOpt ofValue ofCell plain binA_eql_pn binA_neq_pn binA_gtr binA_lss binA_geq binA_leq binA_add binA_sub binA_eql binA_neq binA_orI binA_andI binA_shl binA_shr binA_mul binA_quo binA_rem binA_agg_eql binA_agg_neq convA_int unA_not fieldAddrA loadA partA pickA_true pickA_false pickA_bb lenA builtinA storeA splice AV.cells AV.isCell sliceA boundA intA callOf indexAddrA newObjA buildA fillA zeroA ofCells buildSliceA indexA fieldA numA_len4 numA_take4 numA_drop4 set_appN get_appN take_appN List.getElem?_cons_zero List.getElem?_cons_succ makeA zeros64

set_option maxHeartbeats 1600000 in
attribute [local simp] undefA List.getElem?_cons_zero List.getElem?_cons_succ in
theorem join_ok {σ : St} {a b A : List UInt8} {m n : Nat} {ta tb : Tail} (hA : A = a ++ b) (hm : a.length = m) (hn : b.length = n) (ha : a ≠ []) (h1 : m ≤ 100000) (h2 : n ≤ 100000) :
    CallsA Try.prog 43 [.sl 1 (bytesA a) m ta, .sl 1 (bytesA b) n tb] σ (fun av σ' => av = .sl 1 (bytesA A) A.length .shut ∧ σ = σ') := by
  refine callsA_gcS ?_ (by simp [AV.under])
  have q1 : ∀ objs, appendA Try.prog 47 (.sl 0 [] 0 .full) (.sl 1 (bytesA a) m ta) ⟨objs, σ.toks, σ.gl, σ.rows⟩ = some (.sl 1 (bytesA a) a.length (.own σ.toks.length), ⟨objs, σ.toks ++ [a.length], σ.gl, σ.rows⟩) := fun objs => by
    have : SmallB [] := ⟨by simp⟩
    have h := append_wrA (l := []) (q := a) (tq := ta) (objs := objs) (tk := σ.toks) (gl := σ.gl) (rows := σ.rows) ha (by omega)
    rw [hm] at h
    simpa [wrA, tkB, ha, hm] using h
  have q2 := fun objs => apO (tq := tb) (objs := objs) (tk := σ.toks) (gl := σ.gl) (rows := σ.rows) hA hn (by omega) h2
  have F := And.intro q1 (And.intro q2 (True.intro))
  refine callsA_body Try.func43 rfl rfl rfl ?_; refine sr fun _ hJ2 => ?_; refine hJ2 _ _ ?_; refine sr fun _ hJ4 => ?_; refine hJ4 _ _ ?_; refine sr fun _ hJ6 => ?_; refine hJ6 _ _ ?_; refine sr fun _ hJ8 => ?_; refine hJ8 _ _ ?_; refine ra ?_; exact gcr

end Go.Proofs.Ytdbaddholggkbaa

/-
  The law MsgReads..
-/
namespace Go.Proofs.Ytdbaddholggkbaa
set_option linter.unnecessarySimpa false
set_option maxRecDepth 100000
open Go Go.Vm
set_option linter.unusedSimpArgs false
set_option linter.unusedVariables false
attribute [local simp] evalL wantedA isCall opA evalA evalAll evalsA evalOpt ofValue ofCell plain binA_eql_pn binA_neq_pn binA_gtr binA_lss binA_geq binA_leq binA_add binA_sub binA_eql binA_neq binA_orI binA_shl binA_shr binA_mul binA_quo binA_rem binA_agg_eql binA_agg_neq convA_int unA_not fieldAddrA loadA partA pickA_true pickA_false pickA_bb lenA builtinA storeA splice AV.cells AV.isCell sliceA boundA intA callOf indexAddrA newObjA buildA fillA zeroA ofCells buildSliceA indexA fieldA numA_len4 numA_take4 numA_drop4 set_appN get_appN take_appN List.getElem?_cons_zero List.getElem?_cons_succ makeA zeros64

theorem zeroM_ok : zeroM.Ok := ⟨by simp [zeroM], by simp [zeroM], by simp [zeroM], by simp [zeroM], by simp [zeroM], by simp [zeroM, Pln.Ok], by simp [zeroM], by simp [zeroM]⟩
theorem decM_ok (p : List UInt8) : (decM p).Ok := by
  unfold decM
  cases decB p
  · exact zeroM_ok
  · exact msgR_ok _ _
end Go.Proofs.Ytdbaddholggkbaa

/-
  Messages that are made so may be: the plain law.
-/
namespace Go.Proofs.Ytdbaddholggkbaa
set_option linter.unnecessarySimpa false
set_option maxRecDepth 100000
open Go Go.Vm
set_option linter.unusedSimpArgs false
set_option linter.unusedVariables false

theorem onlyM_twice (m : Msg) : onlyM (onlyM m) = onlyM m := by
  simp only [onlyM, Msg.mk.injEq]
  refine ⟨trivial, ?_, ?_, ?_, ?_, ?_, ?_, ?_, ?_, ?_, ?_, ?_, ?_, ?_⟩
  · cases hB m.k 1024 <;> rfl
  · cases hB m.k 1024 <;> rfl
  · cases hB m.k 1024 <;> rfl
  · cases hB m.k 1 <;> rfl
  · cases hB m.k 2 <;> rfl
  · cases hB m.k 4 <;> rfl
  · cases hB m.k 8 <;> rfl
  · cases hB m.k 16 <;> rfl
  · cases hB m.k 32 <;> rfl
  · cases hB m.k 64 <;> rfl
  · cases hB m.k 128 <;> rfl
  · cases hB m.k 256 <;> rfl
  · cases hB m.k 512 <;> rfl
theorem kindF_has (k : UInt8) : hasK (kindF k) = true := u8_all (p := fun k => hasK (kindF k) = true) (by decide +kernel) k
theorem outF_all (l : List Out) : (outsF l).all outB = true := by
  rw [List.all_eq_true]
  intro x hx
  unfold outsF at hx
  split at hx
  · simp at hx; subst hx; decide
  · obtain ⟨y, _, rfl⟩ := List.mem_map.1 hx
    have h1 : (y.t % 200).toNat < 200 := by rw [UInt8.toNat_mod]; exact Nat.mod_lt _ (by decide)
    show (decide ((y.t % 200).toNat < 200) && decide (Right (puL y.c))) = true
    rw [decide_eq_true h1, decide_eq_true (right_puL _)]
    rfl
theorem outsF_len (l : List Out) : (outsF l).length ≠ 0 ∧ (outsF l).length ≤ 16 := by
  unfold outsF
  split
  · simp
  · rename_i h
    refine ⟨fun e => h (List.length_eq_zero_iff.1 e), ?_⟩; simp; omega
theorem planF_right (p : Pln) : rightB (planF p) = true ∧ ¬ (planF p).k = 0 := by
  unfold planF
  split
  · assumption
  · decide
theorem fit_right (m : Msg) : rightM (fitM m) = true := by
  have hk : (fitM m).k = kindF m.k := rfl
  have h1 := kindF_has m.k
  have h2 : fitM m = onlyM (fitM m) := (onlyM_twice _).symm
  have hp := planF_right m.p
  have ho := outsF_len m.outs
  have hm : ∀ (a b : UInt8), b.toNat ≠ 0 → (a % b).toNat < b.toNat := fun a b hb => by rw [UInt8.toNat_mod]; exact Nat.mod_lt _ (by omega)
  unfold rightM
  rw [hk, h1, decide_eq_true h2]
  simp only [Bool.and_eq_true, decide_eq_true_eq, Bool.not_eq_true']
  refine ⟨⟨⟨⟨⟨⟨⟨⟨⟨trivial, trivial⟩, ?_, ?_, ?_, ?_⟩, ?_, ?_⟩, ?_⟩, ?_⟩, ?_⟩, ?_⟩, ?_⟩, ?_⟩
  · simp only [fitM, onlyM, fit0]; cases hB (kindF m.k) 1024
    · exact hm m.f 200 (by decide)
    · show (0 : UInt8).toNat < 200; decide
  · simp only [fitM, onlyM, fit0]; cases hB (kindF m.k) 1
    · show (0 : UInt8).toNat < 200; decide
    · exact hm m.t 200 (by decide)
  · simp only [fitM, onlyM, fit0]; cases hB (kindF m.k) 2
    · show (0 : UInt8).toNat < 16; decide
    · exact hm m.v 16 (by decide)
  · simp only [fitM, onlyM, fit0]; cases hB (kindF m.k) 4
    · show (0 : UInt8).toNat < 16; decide
    · exact hm m.o 16 (by decide)
  · simp only [fitM, onlyM, fit0]; cases hB (kindF m.k) 1024
    · exact right_puL _
    · exact Go.Vm.right_nil
  · simp only [fitM, onlyM, fit0]; cases hB (kindF m.k) 16
    · exact Go.Vm.right_nil
    · exact right_puL _
  · cases hu : hB (kindF m.k) 32
    · rfl
    · simp only [fitM, onlyM, fit0, hu, cond_true, Bool.true_and, Bool.or_eq_false_iff, decide_eq_false_iff_not]
      exact ⟨ho.1, by omega⟩
  · cases hu : hB (kindF m.k) 64
    · rfl
    · simp only [fitM, onlyM, fit0, hu, cond_true, Bool.true_and, decide_eq_false_iff_not]
      exact hp.2
  · simp only [fitM, onlyM, fit0]; cases hB (kindF m.k) 32
    · rfl
    · exact outF_all _
  · simp only [fitM, onlyM, fit0]; cases hB (kindF m.k) 64
    · show rightB ⟨0, 0, 0, [], []⟩ = true; decide
    · exact hp.1
  · simp only [fitM, onlyM, fit0]; cases hB (kindF m.k) 128
    · show (0 : Nat) ≤ 2 ^ 40; decide
    · show m.tm % 1099511627777 ≤ 2 ^ 40; omega
  · simp only [fitM, onlyM, fit0]; cases hB (kindF m.k) 256
    · show (0 : Nat) ≤ 10000; decide
    · show m.pt % 10001 ≤ 10000; omega
theorem fitM_ok {m : Msg} (hm : m.Ok) : (fitM m).Ok := by
  refine onlyM_ok ⟨hm.s, ?_, ?_, ?_, fun x hx => ?_, ?_, ?_, ?_⟩
  · have := right_len (right_puL m.fee); simp only [fit0]; omega
  · have := right_len (right_puL m.c); simp only [fit0]; omega
  · have := (outsF_len m.outs).2; simp only [fit0]; omega
  · have := List.all_eq_true.1 (outF_all m.outs) x hx
    simp only [outB, Bool.and_eq_true, decide_eq_true_eq] at this
    have := right_len this.2; omega
  · show (planF m.p).Ok
    unfold planF
    split
    · exact hm.p
    · exact ⟨by decide, by decide, by decide, by decide, fun x hx => by simp [threeP] at hx⟩
  · show m.tm % 1099511627777 < 2 ^ 64; omega
  · show m.pt % 10001 < 2 ^ 16; omega

end Go.Proofs.Ytdbaddholggkbaa

/-
  A list that is built of parts, and that is a row from then on.
-/
namespace Go.Vm
set_option linter.unnecessarySimpa false
set_option linter.unusedSimpArgs false
set_option linter.unusedVariables false
open Go
section
variable {P : Program} {G : Gh} {w : World} {σ : St}

theorem buildRow_sound (hS : RelS G w σ) {t : TypeId} {len sz n : Nat} {cs : List AV} {tl : Tail} {vs : List (Nat × Value)} {ps : List (Nat × AV)} (hv : Fa2 (fun (p : Nat × Value) (q : Nat × AV) => p.1 = q.1 ∧ AVR G w p.2 q.2) vs ps) (h : buildSliceA P t len ps = some (.sl sz cs n tl)) :
    ∃ y w' G', (Instr.buildSlice t len vs.toArray).run P w = .ok y w' ∧ Ext G w G' w' ∧ RelS G' w' { σ with rows := σ.rows ++ [⟨0, cs, none⟩] } ∧ AVR G' w' y (.row σ.rows.length 0 0 sz n) := by
  unfold buildSliceA at h
  split at h
  case h_2 => cases h
  rename_i e he
  split at h
  case h_2 => cases h
  rename_i i z hi hz
  split at h
  case isFalse => cases h
  rename_i hcond
  obtain ⟨hpos, hzl, hlim⟩ := hcond
  split at h
  case h_2 => cases h
  rename_i cs hf
  split at h
  case isFalse => cases h
  rename_i hall
  cases h
  obtain ⟨zv, hzr, hzv⟩ := zeroA_sound (G := G) (w := w) hz
  obtain ⟨d, j, hd, hj, hzj, hag, hsz, hby⟩ := ti_some hi
  obtain ⟨hce, hcr⟩ := hzv.cells_eq
  have ht := elemT_some he
  have hlim' : ¬ (len * j.size > 2 ^ 24) := by rw [← hsz]; omega
  let z0 : Array Value := if len * j.size = 0 then #[] else zv.cells
  let cur : Array Value := (Array.range (len * j.size)).map (fun x => z0[x % z0.size]!)
  have hcur : cur.size = len * j.size := by simp [cur]
  have hcr2 : ∀ (k : Nat) x b, cur[k]? = some x → ((List.range (len * i.size)).map fun k => z.cells.getD (k % i.size) undefA)[k]? = some b → AVR G w x b := by
    intro k x b hx hb
    have hk : k < len * j.size := by have := (Array.getElem?_eq_some_iff.1 hx).1; omega
    have hk' : k < len * i.size := by rw [hsz]; exact hk
    have hne : ¬ (len * j.size = 0) := by omega
    have hz0e : z0 = zv.cells := by simp [z0, hne]
    have hmod : k % zv.cells.size < zv.cells.size := Nat.mod_lt _ (by rw [hce, hzl]; exact hpos)
    simp [cur, hk, hz0e] at hx
    simp [hk'] at hb
    subst hx
    have hcs : zv.cells.size = i.size := by rw [hce, hzl]
    rw [getElem!_pos zv.cells (k % zv.cells.size) hmod]
    refine hcr (k % zv.cells.size) _ _ (Array.getElem?_eq_getElem hmod) ?_
    rw [hcs]
    have := getD_mod z.cells k i.size hzl hpos
    rw [this, ← hb]
    simp [List.getD]
  obtain ⟨c, hc, hcl, hcr3⟩ := fill_sound (fun i' => some (i' * j.size, j.size)) _ (fun q x h => by
    simp only [List.getElem?_map] at h
    by_cases hq : q < len
    · simp [hq] at h; rw [← h, hsz]
    · simp [hq] at h) vs ps cur _ cs hv (by simp [hcur, hsz]) hcr2 hf
  have hcsz : c.size = len * i.size := by
    have : ∀ (zs : List (Nat × AV)) (x y : List AV), fillA ((List.range len).map fun k => (k * i.size, i.size)) x zs = some y → y.length = x.length := by
      intro zs
      induction zs with
      | nil => intro x y h; simp [fillA] at h; rw [h]
      | cons p zs ih =>
        intro x y h
        unfold fillA at h
        split at h
        · split at h
          · rename_i hc
            rw [ih _ _ h, splice_length _ _ _ (by rw [hc.1]; exact hc.2)]
          · cases h
        · cases h
    have := this ps _ _ hf
    simp at this
    omega
  have hrun : (Instr.buildSlice t len vs.toArray).run P w = .ok (.slice (some ⟨w.heap.size, 0, none⟩) len len) (w.alloc (.cells c e)) := by
    unfold Instr.buildSlice
    simp only [Sem.run_bind, run_underlying ht, Result.andThen_ok, run_sizeOf w hj, if_neg hlim']
    by_cases h0 : len * j.size = 0
    · have hz0e : z0 = #[] := by simp [z0, h0]
      have hc' := hc
      simp only [cur, hz0e] at hc'
      rw [if_pos h0]
      simp only [Sem.run_bind, Sem.run_pure, Result.andThen_ok]
      rw [hc']
      simp [newRow]
    · have hz0e : z0 = zv.cells := by simp [z0, h0]
      have hc' := hc
      simp only [cur, hz0e] at hc'
      rw [if_neg h0]
      simp only [Sem.run_bind, Sem.run_pure, Result.andThen_ok, hzr]
      rw [hc']
      simp [newRow]
  have hone : ∀ (q : Nat) x, c[q]? = some x → x.oneCell' = true := fun q x hq => by
    have hlt : q < cs.length := by have := (Array.getElem?_eq_some_iff.1 hq).1; omega
    exact (hcr3 q x _ hq (List.getElem?_eq_getElem hlt)).oneCell (List.all_eq_true.1 hall _ (List.getElem_mem hlt))
  obtain ⟨G', f1, f2, f3⟩ := row_push hS e c cs none (by omega) (fun s e => by cases e) hone hcr3
  exact ⟨_, _, G', hrun, f1, f2, .row f3 (Nat.le_refl _) (Nat.le_refl _) (fun _ => ⟨_, _, rfl⟩) (fun _ => ⟨by omega, fun _ => rfl⟩)⟩
end

section
variable {z : Zone} {P : Program} {N : Nat} {ρ : Nat → AV} {σ : St}

theorem runL_buildrow {ops : Array Oper} {rest : List Oper} {o : Oper} {Q : (Nat → AV) → St → Prop} {t : TypeId} {len sz n : Nat} {cs : List AV} {tl : Tail} {parts : Array (Nat × Operand)} {ps : List (Nat × AV)} (hw : wantedA ops o ρ = some true) (hd : inN N o.dst = true) (ho : o.op = .buildSlice t len parts)
    (hp : evalsA ρ σ parts.toList = some ps) (h : buildSliceA P t len ps = some (.sl sz cs n tl)) (k : RunL z P N ops rest (putA ρ o.dst (.row σ.rows.length 0 0 sz n)) { σ with rows := σ.rows ++ [⟨0, cs, none⟩] } Q) : RunL z P N ops (o :: rest) ρ σ Q := by
  intro G w ac R hR hK
  obtain ⟨v, w', G', hv, hE, hS, hav⟩ := buildRow_sound (P := P) hR.s (evalsA_sound hR.s hR.env hp) h
  unfold wpListIn
  rw [if_pos (wantedA_sound hR hw)]
  refine ⟨fun _ _ => trivial, ?_⟩
  rw [show Oper.semAt z.F.round ac.eval o = execOp ac.eval o from Oper.semAt_eq _ _ _ (fun c e => by rw [ho] at e; cases e)]
  have hrun : (execOp ac.eval o).run P w = .ok (.value v) w' := by
    have hm : (parts.map fun (p : Nat × Operand) => (p.1, ac.eval p.2)) = (List.map (fun p => (p.1, ac.eval p.2)) parts.toList).toArray := by
      apply Array.ext'; simp
    have : (fun (x : Nat × Operand) => match x with | (i, y) => (i, ac.eval y)) = fun p => (p.1, ac.eval p.2) := by funext ⟨_, _⟩; rfl
    unfold execOp
    rw [ho]
    simp only [this, hm, Sem.run_bind, hv, Result.andThen_ok, Sem.run_pure]
  rw [hrun]
  exact k G' w' (ac.put o.dst v) R (hR.put hE hS hd hav) (fun ρ' σ2 G2 a' w2 hq2 hE2 hR2 => hK ρ' σ2 G2 a' w2 hq2 (hE.trans hE2) hR2)
end

section
variable {z : Zone} {P : Program} {N : Nat} {ρ : Nat → AV} {σ : St} {Q : Exit → (Nat → AV) → St → Prop} {ops : Array Oper} {rest : List Oper} {o : Oper} {K : (Nat → AV) → St → Prop}

theorem rgB {id : Nat} {l : List Oper} (h : ∀ K : (Nat → AV) → St → Prop, (∀ ρ σ, Q .normal ρ σ → K ρ σ) → RunL z P N l.toArray l ρ σ K) : Run z P N (.region id l.toArray false) ρ σ Q := run_region (h _ (fun _ _ h => h))
theorem go0 {av : AV} {σ' : St} (h : opA P ρ σ o.op = some (av, σ') := by (try conv => lhs; simp [F]); try rfl) (k : RunL z P N ops rest (putA ρ o.dst av) σ' K) (hw : wantedA ops o ρ = some true := by first | rfl | (simp [F, wantedA]; done)) (hd : inN N o.dst = true := by rfl) : RunL z P N ops (o :: rest) ρ σ K := runL_op hw hd h k
theorem br {t : TypeId} {len sz n : Nat} {cs : List AV} {tl : Tail} {parts : Array (Nat × Operand)} {ps : List (Nat × AV)} {G : Prop} (ho : o.op = .buildSlice t len parts) (hp : evalsA ρ σ parts.toList = some ps := by (try conv => lhs; simp [F]); try rfl) (h : buildSliceA P t len ps = some (.sl sz cs n tl) := by (try conv => lhs; simp [F]); try rfl)
    (e : evalL z P N ops rest (putA ρ o.dst (.row σ.rows.length 0 0 sz n)) { σ with rows := σ.rows ++ [⟨0, cs, none⟩] } K = G := by (conv => lhs; (try simp [F]); (try simp (disch := omega) only [wC, if_pos, if_neg]); (try simp [F]); (try simp (disch := omega) only [wC, if_pos, if_neg]); (try simp [F])); try rfl) (k : G) (hw : wantedA ops o ρ = some true := by first | rfl | (simp [F, wantedA]; done)) (hN : ((o :: rest).all fun o => inN N o.dst) = true := by rfl) : RunL z P N ops (o :: rest) ρ σ K := by
  simp only [List.all_cons, Bool.and_eq_true] at hN
  exact runL_buildrow hw hN.1 ho hp h (runL_eval hN.2 (Eq.mpr e k))
end

theorem gcow {av : AV} {σ σ' : St} {A : List AV} {g n : Nat} (hA : av = .row σ.rows.length g 0 1 n := by first | rfl | (simp [F]; done) | (simp [F]; rfl)) (hg : GoneO σ σ' := by exact gk) (ht : σ.trimO σ' = { σ with rows := σ.rows ++ [⟨g, A, none⟩] } := by first | rfl | (simp [F, St.trimO]; done)) :
    av.noObj σ.objs.length = true ∧ GoneO σ σ' ∧ ∃ g, av = .row σ.rows.length g 0 1 n ∧ σ.trimO σ' = { σ with rows := σ.rows ++ [⟨g, A, none⟩] } := ⟨by rw [hA]; rfl, hg, g, hA, ht⟩

end Go.Vm

/-
  The bytes of a message that may be, by the document, as a row..
-/
namespace Go.Proofs.Ytdbaddholggkbaa
set_option linter.unnecessarySimpa false
set_option maxRecDepth 100000
open Go Go.Vm
set_option linter.unusedSimpArgs false
set_option linter.unusedVariables false
attribute [local simp] evalL wantedA isCall opA evalA evalAll evalsA evalOpt ofValue ofCell plain binA_eql_pn binA_neq_pn binA_gtr binA_lss binA_geq binA_leq binA_add binA_sub binA_eql binA_neq binA_orI binA_shl binA_shr binA_mul binA_quo binA_rem binA_agg_eql binA_agg_neq convA_int unA_not fieldAddrA loadA partA pickA_true pickA_false pickA_bb lenA builtinA storeA splice AV.cells AV.isCell sliceA boundA intA callOf indexAddrA newObjA buildA fillA zeroA ofCells buildSliceA indexA fieldA numA_len4 numA_take4 numA_drop4 set_appN get_appN take_appN List.getElem?_cons_zero List.getElem?_cons_succ makeA zeros64

theorem apR {l q A : List UInt8} {m : Nat} {tq : Tail} {objs : List (List AV)} {tk : List Nat} {gl : Nat → Option (List AV)} {rows : List RowSt} {g : Nat} (hA : A = l ++ q) (hm : q.length = m) (hl : l.length ≤ 400000) (hq : m ≤ 100000) :
    appendA Try.prog 47 (.row rows.length g 0 1 l.length) (.sl 1 (bytesA q) m tq) ⟨objs, tk, gl, rows ++ [⟨g, bytesA l, none⟩]⟩ = some (.row rows.length (g + 1) 0 1 A.length, ⟨objs, tk, gl, rows ++ [⟨g + 1, bytesA A, none⟩]⟩) := by
  subst hA hm
  have hv : (Value.int IntKind.u8 0).cells.size = 1 := rfl
  have h1 : l.length + q.length ≤ 140737488355328 := by omega
  have h2 : l.length + q.length ≤ 9223372036854775807 := by omega
  have hz : zeroCell ⟨false, 1, 1, .int .u8 0⟩ = true := by decide
  have hb : (bytesA l).length = l.length := by simp [bytesA]
  have hs : ∀ x y : RowSt, (rows ++ [x]).set rows.length y = rows ++ [y] := fun x y => by simp [List.set_append]
  have ht : (bytesA l).take l.length = bytesA l := by rw [← hb, List.take_length]
  simp [appendA, readA, rowAppA, roomA, maxLen, h1, h2, hv, hz, hb, hs, ht, bytesA_append]

set_option maxHeartbeats 1600000 in
attribute [local simp] undefA List.getElem?_cons_zero List.getElem?_cons_succ msgC outC outsC_noObj persC_noObj in
theorem rmbytesR_ok {σ : St} {m : Msg} (hm : m.Ok) (mb : MB m) (hk : hasK m.k = true) :
    CallsA Try.prog 56 [.agg (msgC m)] σ (fun av σ' => ∃ g, av = .row σ.rows.length g 0 1 (encM m).length ∧ σ' = { σ with rows := σ.rows ++ [⟨g, bytesA (encM m), none⟩] }) := by
  refine callsA_gcOx ?_
  obtain ⟨h1, h2, h3, h4, h5, h6, h7, h8⟩ := hm
  obtain ⟨A, hA⟩ : ∃ A, A = encM m := ⟨_, rfl⟩
  rw [← hA]
  rw [hasK_iff] at hk
  have hk := of_decide_eq_true hk
  have l4 := right_len mb.fee
  have l9 := right_len mb.c
  have l10 := mb.outs
  have lP := encPers_len m.p.ps (fun x hx => right_len (mb.p.2.2 x hx))
  have lP1 := encL_len (right_len mb.p.1)
  have lP2 := mb.p.2.1
  have hpl := fun σ => rbytesP_ok (σ := σ) h6.1 h6.2.1 (right_len mb.p.1) (by have := mb.p.2.1; omega) (fun x hx => ⟨(h6.2.2.2.2 x hx).1, right_len (mb.p.2.2 x hx)⟩)
  have hout := mb.out
  have nP : (encPl m.p).length ≤ 6000 := by simp only [encPl, List.length_cons, List.length_append, nBytes_len]; omega
  obtain ⟨EP, hEP⟩ : ∃ E, E = encPl m.p := ⟨_, rfl⟩
  rw [← hEP] at hpl nP
  obtain ⟨x1, x2, x3, x4, x5, x6, x7, x8, x9, x10, x11, x12, x13, x14⟩ := m
  simp only at h1 h2 h3 h4 h5 h6 h7 h8 hk l4 l9 l10 hout hEP
  have lE := encL_len l4
  have lC := encL_len l9
  have lN : (encN x8.v).length ≤ 33 := by have := natBytes_len x8.v 32 (by simpa using x8.h); simp [encN]; omega
  clear lP lP1 lP2 mb
  have hkn : ∀ n : UInt8, x1 = n ↔ (x1.toNat : Int) = (n.toNat : Int) := fun n => ⟨fun e => by rw [e], fun e => UInt8.toNat_inj.1 (Int.ofNat_inj.1 e)⟩
  obtain ⟨c, hc⟩ : ∃ c, c = UInt8.ofNat x10.length := ⟨_, rfl⟩
  have hcw : IntKind.u8.wrap (x10.length : Int) = (c.toNat : Int) := by rw [wrap_u8, hc, toNat_ofNat (by omega), Nat.mod_eq_of_lt (by omega)]
  have hwp : IntKind.u64.wrap (x13 : Int) = (x13 : Int) := wrap_u64c (by omega)
  obtain ⟨B74, hB74⟩ : ∃ b, b = (decide (x1 = 3) || decide (x1 = 4)) := ⟨_, rfl⟩
  obtain ⟨B101, hB101⟩ : ∃ b, b = (decide (x1 = 6) || decide (x1 = 7) || decide (x1 = 11) || decide (x1 = 35)) := ⟨_, rfl⟩
  obtain ⟨B111, hB111⟩ : ∃ b, b = (decide (x1 = 8) || decide (x1 = 10)) := ⟨_, rfl⟩
  have b1 : ∀ b : UInt8, bytesA [b] = [.v (.int .u8 b.toNat)] := fun _ => rfl
  have b2 : ∀ b d : UInt8, bytesA [b, d] = [.v (.int .u8 b.toNat), .v (.int .u8 d.toNat)] := fun _ _ => rfl
  obtain ⟨xpk, xps, xpe, xpt, xpq⟩ := x11
  simp only [plnC] at hpl
  have hdr2 : ∀ f : Nat → AV, List.drop 2 (List.map f (List.range 2)) = [] := fun _ => rfl
  have F := And.intro hcw (And.intro hwp (And.intro hdr2 (True.intro)))
  refine callsA_body Try.func56 rfl rfl rfl ?_; refine sr fun _ hJ2 => ?_; refine hJ2 _ _ ?_; refine sq fun K3 hK3 => ?_; refine rgB (h := fun J4 hJ4 => ?_); refine go0 (k := ?_); refine go0 (k := ?_); refine br rfl (k := ?_); refine hJ4 _ _ ?_; refine hK3 _ _ ?_; refine sq fun K5 hK5 => ?_; refine sr fun _ hJ7 => ?_; refine hJ7 _ _ ?_; refine cs (fun c10 => ?_) (fun c10 => ?_)
  · try exact nope c10
    all_goals
     replace F := wf F c10
     have hlt32 : x1.toNat < 32 := by have h := c10; simp at h; omega
     have z32 : ((x1.toNat : Int) == 32) = false := by simp; omega
     have z33 : ((x1.toNat : Int) == 33) = false := by simp; omega
     have z34 : ((x1.toNat : Int) == 34) = false := by simp; omega
     have z35 : ((x1.toNat : Int) == 35) = false := by simp; omega
     have z36 : ((x1.toNat : Int) == 36) = false := by simp; omega
     replace F := aF z32 (And.intro z33 (And.intro z34 (And.intro z35 (And.intro z36 F))))
     obtain ⟨C1, hC1⟩ : ∃ L, L = x1 :: [x2] := ⟨_, rfl⟩
     have nC1 : C1.length ≤ 2 := by rw [hC1]; simp only [List.length_append, List.length_cons, List.length_nil, nBytes_len]; omega
     obtain ⟨C2, hC2⟩ : ∃ L, L = C1 ++ nBytes 8 x3 := ⟨_, rfl⟩
     have nC2 : C2.length ≤ 10 := by rw [hC2]; simp only [List.length_append, List.length_cons, List.length_nil, nBytes_len]; omega
     obtain ⟨C3, hC3⟩ : ∃ L, L = C2 ++ encL x4 := ⟨_, rfl⟩
     have nC3 : C3.length ≤ 283 := by rw [hC3]; simp only [List.length_append, List.length_cons, List.length_nil, nBytes_len]; omega
     obtain ⟨D5, hD5⟩ : ∃ L, L = C3 ++ [x5] := ⟨_, rfl⟩
     have nD5 : D5.length ≤ 284 := by rw [hD5]; simp only [List.length_append, List.length_cons, List.length_nil, nBytes_len]; omega
     obtain ⟨D5c, hD5c⟩ : ∃ L, L = D5 ++ encL x9 := ⟨_, rfl⟩
     have nD5c : D5c.length ≤ 557 := by rw [hD5c]; simp only [List.length_append, List.length_cons, List.length_nil, nBytes_len]; omega
     obtain ⟨D5p, hD5p⟩ : ∃ L, L = D5 ++ EP := ⟨_, rfl⟩
     have nD5p : D5p.length ≤ 6284 := by rw [hD5p]; simp only [List.length_append, List.length_cons, List.length_nil, nBytes_len]; omega
     obtain ⟨D6, hD6⟩ : ∃ L, L = C3 ++ [x6] := ⟨_, rfl⟩
     have nD6 : D6.length ≤ 284 := by rw [hD6]; simp only [List.length_append, List.length_cons, List.length_nil, nBytes_len]; omega
     obtain ⟨D6n, hD6n⟩ : ∃ L, L = D6 ++ encN x8.v := ⟨_, rfl⟩
     have nD6n : D6n.length ≤ 317 := by rw [hD6n]; simp only [List.length_append, List.length_cons, List.length_nil, nBytes_len]; omega
     obtain ⟨D67, hD67⟩ : ∃ L, L = C3 ++ [x6, x7] := ⟨_, rfl⟩
     have nD67 : D67.length ≤ 285 := by rw [hD67]; simp only [List.length_append, List.length_cons, List.length_nil, nBytes_len]; omega
     obtain ⟨D67n, hD67n⟩ : ∃ L, L = D67 ++ encN x8.v := ⟨_, rfl⟩
     have nD67n : D67n.length ≤ 318 := by rw [hD67n]; simp only [List.length_append, List.length_cons, List.length_nil, nBytes_len]; omega
     obtain ⟨Dc, hDc⟩ : ∃ L, L = C3 ++ [c] := ⟨_, rfl⟩
     have nDc : Dc.length ≤ 284 := by rw [hDc]; simp only [List.length_append, List.length_cons, List.length_nil, nBytes_len]; omega
     have q3 := fun objs g => apR (l := [x1]) (m := 1) (tq := .full) (objs := objs) (tk := σ.toks) (gl := σ.gl) (rows := σ.rows) (g := g) hC1 rfl (by simp) (by omega)
     simp only [b1, List.length_singleton] at q3
     have q4 := fun objs g => apR (m := 8) (tq := .shut) (objs := objs) (tk := σ.toks) (gl := σ.gl) (rows := σ.rows) (g := g) hC2 (nBytes_len 8 x3) (by omega) (by omega)
     have q5 := fun objs g => apR (m := (encL x4).length) (tq := .shut) (objs := objs) (tk := σ.toks) (gl := σ.gl) (rows := σ.rows) (g := g) hC3 rfl (by omega) (by omega)
     have q8 := fun objs g => apR (m := 1) (tq := .full) (objs := objs) (tk := σ.toks) (gl := σ.gl) (rows := σ.rows) (g := g) hD5 rfl (by omega) (by omega)
     have q9 := fun objs g => apR (m := (encL x9).length) (tq := .shut) (objs := objs) (tk := σ.toks) (gl := σ.gl) (rows := σ.rows) (g := g) hD5c rfl (by omega) (by omega)
     have q34 := fun objs g => apR (m := EP.length) (tq := .shut) (objs := objs) (tk := σ.toks) (gl := σ.gl) (rows := σ.rows) (g := g) hD5p rfl (by omega) (by omega)
     have q28 := fun objs g => apR (m := 1) (tq := .full) (objs := objs) (tk := σ.toks) (gl := σ.gl) (rows := σ.rows) (g := g) hD6 rfl (by omega) (by omega)
     have q20 := fun objs g => apR (m := (encN x8.v).length) (tq := .shut) (objs := objs) (tk := σ.toks) (gl := σ.gl) (rows := σ.rows) (g := g) hD6n rfl (by omega) (by omega)
     have q22 := fun objs g => apR (m := 2) (tq := .full) (objs := objs) (tk := σ.toks) (gl := σ.gl) (rows := σ.rows) (g := g) hD67 rfl (by omega) (by omega)
     have q23 := fun objs g => apR (m := (encN x8.v).length) (tq := .shut) (objs := objs) (tk := σ.toks) (gl := σ.gl) (rows := σ.rows) (g := g) hD67n rfl (by omega) (by omega)
     have q11 := fun objs g => apR (m := 1) (tq := .full) (objs := objs) (tk := σ.toks) (gl := σ.gl) (rows := σ.rows) (g := g) hDc rfl (by omega) (by omega)
     simp only [b1] at q3 q8 q28 q11
     simp only [b2] at q22
     obtain ⟨rwX, hrwX⟩ : ∃ T : List RowSt, T = [⟨3, bytesA C3, none⟩] := ⟨_, rfl⟩
     refine sq fun K8 hK8 => ?_; replace F := aF q3 F; refine rg' (h := fun J9 hJ9 => ?_); refine hJ9 _ _ ?_; refine hK8 _ _ ?_; refine sq fun K10 hK10 => ?_; replace F := aF q4 F; refine rg' (h := fun J11 hJ11 => ?_)
     refine cb (c := rlong_ok (size := 8) h1 (by omega)) (k := ?_)
     refine hJ11 _ _ ?_; refine hK10 _ _ ?_; replace F := aF q5 F; refine rg' (h := fun J12 hJ12 => ?_)
     refine cb (c := rcoinsW_ok (L := x4) (by omega)) (k := ?_)
     refine hJ12 _ _ ?_; refine hK5 _ _ ?_; refine sq fun K13 hK13 => ?_; refine sr fun _ hJ15 => ?_; refine hJ15 _ _ ?_; refine run_block_k ?_; refine sr fun _ hJ17 => ?_; refine hJ17 _ _ ?_; refine cs (fun c28 => ?_) (fun c28 => ?_)
     · try exact nope c28
       all_goals
        replace F := wf F c28; refine sq fun K18 hK18 => ?_; replace F := aF hrwX F; replace F := aF q8 F; refine rg' (h := fun J19 hJ19 => ?_); refine hJ19 _ _ ?_; refine hK18 _ _ ?_; replace F := aF hrwX F; replace F := aF q9 F; refine rg' (h := fun J20 hJ20 => ?_)
        refine cb (c := rcoinsW_ok (L := x9) (by omega)) (k := ?_)
        refine hJ20 _ _ ?_; refine hK13 _ _ ?_; refine sr fun _ hJ22 => ?_; refine hJ22 _ _ ?_; refine ra ?_
        have hk2 : x1 = 1 := (hkn 1).2 (by simpa using c28)
        have hv : hasN x1 = 17 := by rw [hk2]; decide
        have hX : D5c = A := by (rw [hA]; simp [encM, ncE, ncT, ncV, ncO, ncN, ncC, ncU, ncP, ncM, ncQ, ncJ, hB, hv, hD5c, hD5, hC3, hC2, hC1])
        rw [← hX]
        exact gcow
     try exact nope c28
     all_goals
      replace F := wf F c28; refine sr fun _ hJ24 => ?_; refine hJ24 _ _ ?_; refine cs (fun c40 => ?_) (fun c40 => ?_)
      · try exact nope c40
        all_goals
         replace F := wf F c40
         obtain ⟨Bf, hBf⟩ : ∃ Bf : Nat → List UInt8, Bf = fun i => Dc ++ encOs (x10.take i) := ⟨_, rfl⟩
         obtain ⟨ag, hag0, hags⟩ : ∃ f : Nat → Nat, f 0 = 4 ∧ ∀ i, f (i + 1) = f i + 2 := ⟨fun i => 4 + 2 * i, rfl, fun i => by simp only; omega⟩
         have hB0 : Bf 0 = Dc := by rw [hBf]; simp [encOs]
         have hBl : ∀ i, i ≤ x10.length → (Bf i).length ≤ 20000 := fun i hi => by (have := encOs_len (x10.take i) (fun x hx => right_len (hout x (List.mem_of_mem_take hx))); have e : (x10.take i).length = i := (by simp; omega); rw [hBf]; simp only [List.length_append]; rw [e] at this; omega)
         have hBs : ∀ i (hi : i < x10.length), Bf (i + 1) = Bf i ++ [x10[i].t] ++ encL x10[i].c := fun i hi => by (rw [hBf]; simp only; rw [← List.take_append_getElem hi, encOs_snoc]; simp [encO])
         have hBA : Bf x10.length = Dc ++ encOs x10 := by (rw [hBf]; simp only; rw [List.take_length])
         refine sq fun K25 hK25 => ?_; replace F := aF hrwX F; replace F := aF q11 F; refine rg' (h := fun J26 hJ26 => ?_); refine hJ26 _ _ ?_; refine hK25 _ _ ?_; refine sr fun _ hJ28 => ?_; refine hJ28 _ _ ?_; refine run_block_k ?_; refine run_loopF (X := Nat) [1, 2] (fun i ρ σ1 => (i ≤ x10.length) ∧ (ρ 3 = .row σ.rows.length (ag i) 0 1 (Bf i).length) ∧ (ρ 4 = .v (.int .i64 i)) ∧ (σ1 = { σ with objs := σ.objs ++ [msgC ⟨x1, x2, x3, x4, x5, x6, x7, x8, x9, x10, ⟨xpk, xps, xpe, xpt, xpq⟩, x12, x13, x14⟩], rows := σ.rows ++ [⟨ag i, bytesA (Bf i), none⟩] })) (fun i => x10.length - i) (0) ?st1 ?rd1
         case st1 =>
          refine ⟨lp, ?_, lp, ?_⟩
          · simp [hB0, hag0]
          · simp [hB0, hag0, F]
         case rd1 =>
          rintro i ρ1 σ1 hF1 ⟨hj, h3p, h4i, hσ⟩; obtain rfl := hσ.symm
          have f1 := keepL hF1
          (try simp [KeepL, F] at f1); replace F := aF h3p F; replace F := aF h4i F; (try replace F := aF f1 F); refine sq fun K29 hK29 => ?_; refine sr fun _ hJ31 => ?_; refine hJ31 _ _ ?_; refine cs (fun c53 => ?_) (fun c53 => ?_)
          · try exact nope c53
            all_goals
             replace F := wf F c53; refine run_skip ?_; refine hK29 _ _ ?_; refine sq fun K32 hK32 => ?_; refine run_block_k ?_; refine sq fun K33 hK33 => ?_
             have hlt2 : i < x10.length := by have h := c53; simp at h; omega
             have hat := outsC_at hlt2
             have hq1 : i * 2 + 2 ≤ x10.length * 2 := by omega
             have hx5 := right_len (hout _ (List.getElem_mem hlt2))
             have hBs1 := hBs _ hlt2
             have hBl1 := hBl i hj
             obtain ⟨x, hx⟩ : ∃ x, x = x10[i] := ⟨_, rfl⟩
             rw [← hx] at hat hx5 hBs1
             obtain ⟨xl, xc⟩ := x
             simp only at hx5 hBs1
             obtain ⟨E1, hE1⟩ : ∃ C, C = Bf i ++ [xl] := ⟨_, rfl⟩
             rw [← hE1] at hBs1
             have nE : E1.length = (Bf i).length + 1 := by rw [hE1, List.length_append]; rfl
             have nx := encL_len hx5
             have hwi : IntKind.i64.wrap ((i : Int) + 1) = (i : Int) + 1 := wrap_i64 _ (by omega) (by omega)
             have q15 := fun objs g => apR (m := 1) (tq := .full) (objs := objs) (tk := σ.toks) (gl := σ.gl) (rows := σ.rows) (g := g) hE1 rfl (by omega) (by omega)
             simp only [b1] at q15
             have q16 := fun objs g => apR (m := (encL xc).length) (tq := .shut) (objs := objs) (tk := σ.toks) (gl := σ.gl) (rows := σ.rows) (g := g) hBs1 rfl (by omega) (by omega)
             replace F := aF hwi (And.intro hlt2 (And.intro hat (And.intro hq1 F))); replace F := aF q15 F; refine rg' (h := fun J34 hJ34 => ?_); refine hJ34 _ _ ?_; refine hK33 _ _ ?_; replace F := aF q16 F; refine rg' (h := fun J35 hJ35 => ?_)
             refine cb (c := rcoinsW_ok (L := xc) (by omega)) (k := ?_)
             refine hJ35 _ _ ?_; refine hK32 _ _ ?_; refine rg' (h := fun J36 hJ36 => ?_); refine hJ36 _ _ ?_; refine ⟨(i + 1), ⟨kp, lp, ?_, lp, ?_⟩, lp⟩
             · simp [hags]
             · simp [hags, F]
          try exact nope c53
          all_goals
           replace F := wf F c53; refine run_exit ?_; refine hK13 _ _ ?_; refine sr fun _ hJ38 => ?_; refine hJ38 _ _ ?_; refine ra ?_
           have hk2 : x1 = 2 := (hkn 2).2 (by simpa using c40)
           have hv : hasN x1 = 32 := by rw [hk2]; decide
           have hX : (Dc ++ encOs x10) = A := by (rw [hA]; simp [encM, ncE, ncT, ncV, ncO, ncN, ncC, ncU, ncP, ncM, ncQ, ncJ, hB, hv, hDc, ← hc, hC3, hC2, hC1])
           have hii : i = x10.length := (by have h := c53; simp at h; omega)
           rw [hii, hBA] at h3p ⊢
           rw [← hX]
           rw [hX] at h3p
           exact gcow (hA := by simp [h3p]; rfl)
      try exact nope c40
      all_goals
       replace F := wf F c40; refine sqc (X := Unit) [1, 2, 3, 27] (fun z ρ σ1 => (ρ 74 = .v (.bool B74)) ∧ (σ1 = { σ with objs := σ.objs ++ [msgC ⟨x1, x2, x3, x4, x5, x6, x7, x8, x9, x10, ⟨xpk, xps, xpe, xpt, xpq⟩, x12, x13, x14⟩], rows := σ.rows ++ rwX })) ?cy39 ?cx39
       case cy39 =>
        rintro z ρCc74 σ1 hFCc74 ⟨h74, hσ⟩; obtain rfl := hσ.symm
        have fCc74 := keepL hFCc74
        (try simp [KeepL, F] at fCc74); replace F := aF h74 F; (try replace F := aF fCc74 F); refine cs (t := B74) (fun c74 => ?_) (fun c74 => ?_)
        · try exact nope c74
          all_goals
           replace F := wf F c74; refine sq fun K40 hK40 => ?_; replace F := aF hrwX F; replace F := aF q28 F; refine rg' (h := fun J41 hJ41 => ?_); refine hJ41 _ _ ?_; refine hK40 _ _ ?_; replace F := aF hrwX F; replace F := aF q20 F; refine rg' (h := fun J42 hJ42 => ?_); refine cb (c := rnum_ok x8.h) (k := ?_); refine hJ42 _ _ ?_; refine hK13 _ _ ?_; refine sr fun _ hJ44 => ?_; refine hJ44 _ _ ?_; refine ra ?_
           have hk2 : x1 = 3 ∨ x1 = 4 := by rw [hB74] at c74; simpa using c74
           have hv : hasN x1 = 10 := by rcases hk2 with e | e <;> (rw [e]; decide)
           have hX : D6n = A := by (rw [hA]; simp [encM, ncE, ncT, ncV, ncO, ncN, ncC, ncU, ncP, ncM, ncQ, ncJ, hB, hv, hD6n, hD6, hC3, hC2, hC1])
           rw [← hX]
           exact gcow
        try exact nope c74
        all_goals
         replace F := wf F c74; refine sr fun _ hJ46 => ?_; refine hJ46 _ _ ?_; refine cs (fun c87 => ?_) (fun c87 => ?_)
         · try exact nope c87
           all_goals
            replace F := wf F c87; refine sq fun K47 hK47 => ?_; replace F := aF hrwX F; replace F := aF q22 F; refine rg' (h := fun J48 hJ48 => ?_); refine hJ48 _ _ ?_; refine hK47 _ _ ?_; replace F := aF hrwX F; replace F := aF q23 F; refine rg' (h := fun J49 hJ49 => ?_); refine cb (c := rnum_ok x8.h) (k := ?_); refine hJ49 _ _ ?_; refine hK13 _ _ ?_; refine sr fun _ hJ51 => ?_; refine hJ51 _ _ ?_; refine ra ?_
            have hk2 : x1 = 5 := (hkn 5).2 (by simpa using c87)
            have hv : hasN x1 = 14 := by rw [hk2]; decide
            have hX : D67n = A := by (rw [hA]; simp [encM, ncE, ncT, ncV, ncO, ncN, ncC, ncU, ncP, ncM, ncQ, ncJ, hB, hv, hD67n, hD67, hC3, hC2, hC1])
            rw [← hX]
            exact gcow
         try exact nope c87
         all_goals
          replace F := wf F c87; refine sqc (X := Unit) [1, 2, 3, 27] (fun z ρ σ1 => (ρ 101 = .v (.bool B101)) ∧ (σ1 = { σ with objs := σ.objs ++ [msgC ⟨x1, x2, x3, x4, x5, x6, x7, x8, x9, x10, ⟨xpk, xps, xpe, xpt, xpq⟩, x12, x13, x14⟩], rows := σ.rows ++ rwX })) ?cy52 ?cx52
          case cy52 =>
           rintro z ρCc101 σ1 hFCc101 ⟨h101, hσ⟩; obtain rfl := hσ.symm
           have fCc101 := keepL hFCc101
           (try simp [KeepL, F] at fCc101); replace F := aF h101 F; (try replace F := aF fCc101 F); refine cs (t := B101) (fun c101 => ?_) (fun c101 => ?_)
           · try exact nope c101
             all_goals
              replace F := wf F c101; replace F := aF hrwX F; replace F := aF q28 F; refine rg' (h := fun J53 hJ53 => ?_); refine hJ53 _ _ ?_; refine hK13 _ _ ?_; refine sr fun _ hJ55 => ?_; refine hJ55 _ _ ?_; refine ra ?_
              have hk2 : ((x1 = 6 ∨ x1 = 7) ∨ x1 = 11) ∨ x1 = 35 := by rw [hB101] at c101; simpa using c101
              have hv : hasN x1 = 2 := by rcases hk2 with ((e | e) | e) | e <;> first | (rw [e]; decide) | (exfalso; rw [e] at z35; simp at z35)
              have hX : D6 = A := by (rw [hA]; simp [encM, ncE, ncT, ncV, ncO, ncN, ncC, ncU, ncP, ncM, ncQ, ncJ, hB, hv, hD6, hC3, hC2, hC1])
              rw [← hX]
              exact gcow
           try exact nope c101
           all_goals
            replace F := wf F c101; refine sqc (X := Unit) [1, 2, 3, 27] (fun z ρ σ1 => (ρ 111 = .v (.bool B111)) ∧ (σ1 = { σ with objs := σ.objs ++ [msgC ⟨x1, x2, x3, x4, x5, x6, x7, x8, x9, x10, ⟨xpk, xps, xpe, xpt, xpq⟩, x12, x13, x14⟩], rows := σ.rows ++ rwX })) ?cy56 ?cx56
            case cy56 =>
             rintro z ρCc111 σ1 hFCc111 ⟨h111, hσ⟩; obtain rfl := hσ.symm
             have fCc111 := keepL hFCc111
             (try simp [KeepL, F] at fCc111); replace F := aF h111 F; (try replace F := aF fCc111 F); refine cs (t := B111) (fun c111 => ?_) (fun c111 => ?_)
             · try exact nope c111
               all_goals
                replace F := wf F c111; replace F := aF hrwX F; replace F := aF q8 F; refine rg' (h := fun J57 hJ57 => ?_); refine hJ57 _ _ ?_; refine hK13 _ _ ?_; refine sr fun _ hJ59 => ?_; refine hJ59 _ _ ?_; refine ra ?_
                have hk2 : x1 = 8 ∨ x1 = 10 := by rw [hB111] at c111; simpa using c111
                have hv : hasN x1 = 1 := by rcases hk2 with e | e <;> (rw [e]; decide)
                have hX : D5 = A := by (rw [hA]; simp [encM, ncE, ncT, ncV, ncO, ncN, ncC, ncU, ncP, ncM, ncQ, ncJ, hB, hv, hD5, hC3, hC2, hC1])
                rw [← hX]
                exact gcow
             try exact nope c111
             all_goals
              replace F := wf F c111; refine sr fun _ hJ61 => ?_; refine hJ61 _ _ ?_; refine cs (fun c119 => ?_) (fun c119 => ?_)
              · try exact nope c119
                all_goals
                 replace F := wf F c119; refine sq fun K62 hK62 => ?_; replace F := aF hrwX F; replace F := aF q8 F; refine rg' (h := fun J63 hJ63 => ?_); refine hJ63 _ _ ?_; refine hK62 _ _ ?_; replace F := aF hrwX F; replace F := aF q34 F; refine rg' (h := fun J64 hJ64 => ?_); refine cb (c := hpl _) (k := ?_); refine hJ64 _ _ ?_; refine hK13 _ _ ?_; refine sr fun _ hJ66 => ?_; refine hJ66 _ _ ?_; refine ra ?_
                 have hk2 : x1 = 9 := (hkn 9).2 (by simpa using c119)
                 have hv : hasN x1 = 65 := by rw [hk2]; decide
                 have hX : D5p = A := by (rw [hA]; simp [encM, ncE, ncT, ncV, ncO, ncN, ncC, ncU, ncP, ncM, ncQ, ncJ, hB, hv, hD5p, hD5, hEP, hC3, hC2, hC1])
                 rw [← hX]
                 exact gcow
              try exact nope c119
              all_goals
               replace F := wf F c119; refine sr fun _ hJ68 => ?_; refine hJ68 _ _ ?_; refine cf ?_; refine sr fun _ hJ70 => ?_; refine hJ70 _ _ ?_; refine cf ?_; refine sr fun _ hJ72 => ?_; refine hJ72 _ _ ?_; refine cf ?_; refine run_skip ?_; refine hK13 _ _ ?_; refine sr fun _ hJ74 => ?_; refine hJ74 _ _ ?_; refine ra ?_
               exfalso
               have a1 := c28
               have a2 := c40
               have a3 := c74
               have a4 := c87
               have a5 := c101
               have a6 := c111
               have a7 := c119
               rw [hB74] at a3
               rw [hB101] at a5
               rw [hB111] at a6
               simp [hkn] at a1 a2 a3 a4 a5 a6 a7
               omega
            case cx56 =>
             intro K56 hK56
             refine sr fun _ hJ76 => ?_; refine hJ76 _ _ ?_; refine cs (fun c111 => ?_) (fun c111 => ?_)
             · try exact nope c111
               all_goals
                replace F := wf F c111; refine run_skip ?_; refine hK56 (()) _ _ ⟨kp, ?_, ?_⟩
                · rw [hB111]
                  simp [hkn, F]
                  all_goals try (first | omega | rfl | (rw [Bool.eq_iff_iff]; simp; omega))
                · simp [hrwX]
             try exact nope c111
             all_goals
              replace F := wf F c111; refine rg' (h := fun J77 hJ77 => ?_); refine hJ77 _ _ ?_; refine hK56 (()) _ _ ⟨kp, ?_, ?_⟩
              · rw [hB111]
                simp [hkn, F]
                all_goals try (first | omega | rfl | (rw [Bool.eq_iff_iff]; simp; omega))
              · simp [hrwX]
          case cx52 =>
           intro K52 hK52
           refine sr fun _ hJ79 => ?_; refine hJ79 _ _ ?_; refine cs (fun c101 => ?_) (fun c101 => ?_)
           · try exact nope c101
             all_goals
              replace F := wf F c101; refine run_skip ?_; refine hK52 (()) _ _ ⟨kp, ?_, ?_⟩
              · rw [hB101]
                simp [hkn, F]
                all_goals try (first | omega | rfl | (rw [Bool.eq_iff_iff]; simp; omega))
              · simp [hrwX]
           try exact nope c101
           all_goals
            replace F := wf F c101; refine sr fun _ hJ81 => ?_; refine hJ81 _ _ ?_; refine cs (fun c101 => ?_) (fun c101 => ?_)
            · try exact nope c101
              all_goals
               replace F := wf F c101; refine run_skip ?_; refine hK52 (()) _ _ ⟨kp, ?_, ?_⟩
               · rw [hB101]
                 simp [hkn, F]
                 all_goals try (first | omega | rfl | (rw [Bool.eq_iff_iff]; simp; omega))
               · simp [hrwX]
            try exact nope c101
            all_goals
             replace F := wf F c101; refine sr fun _ hJ83 => ?_; refine hJ83 _ _ ?_; refine cs (fun c101 => ?_) (fun c101 => ?_)
             · try exact nope c101
               all_goals
                replace F := wf F c101; refine run_skip ?_; refine hK52 (()) _ _ ⟨kp, ?_, ?_⟩
                · rw [hB101]
                  simp [hkn, F]
                  all_goals try (first | omega | rfl | (rw [Bool.eq_iff_iff]; simp; omega))
                · simp [hrwX]
             try exact nope c101
             all_goals
              replace F := wf F c101; refine rg' (h := fun J84 hJ84 => ?_); refine hJ84 _ _ ?_; refine hK52 (()) _ _ ⟨kp, ?_, ?_⟩
              · rw [hB101]
                simp [hkn, F]
                all_goals try (first | omega | rfl | (rw [Bool.eq_iff_iff]; simp; omega))
              · simp [hrwX]
       case cx39 =>
        intro K39 hK39
        refine sr fun _ hJ86 => ?_; refine hJ86 _ _ ?_; refine cs (fun c74 => ?_) (fun c74 => ?_)
        · try exact nope c74
          all_goals
           replace F := wf F c74; refine run_skip ?_; refine hK39 (()) _ _ ⟨kp, ?_, ?_⟩
           · rw [hB74]
             simp [hkn, F]
             all_goals try (first | omega | rfl | (rw [Bool.eq_iff_iff]; simp; omega))
           · simp [hrwX]
        try exact nope c74
        all_goals
         replace F := wf F c74; refine rg' (h := fun J87 hJ87 => ?_); refine hJ87 _ _ ?_; refine hK39 (()) _ _ ⟨kp, ?_, ?_⟩
         · rw [hB74]
           simp [hkn, F]
           all_goals try (first | omega | rfl | (rw [Bool.eq_iff_iff]; simp; omega))
         · simp [hrwX]
  try exact nope c10
  all_goals
   replace F := wf F c10
   have hge32 : 32 ≤ x1.toNat := by have h := c10; simp at h; omega
   have z1 : ((x1.toNat : Int) == 1) = false := by simp; omega
   have z2 : ((x1.toNat : Int) == 2) = false := by simp; omega
   have z3 : ((x1.toNat : Int) == 3) = false := by simp; omega
   have z4 : ((x1.toNat : Int) == 4) = false := by simp; omega
   have z5 : ((x1.toNat : Int) == 5) = false := by simp; omega
   have z6 : ((x1.toNat : Int) == 6) = false := by simp; omega
   have z7 : ((x1.toNat : Int) == 7) = false := by simp; omega
   have z8 : ((x1.toNat : Int) == 8) = false := by simp; omega
   have z9 : ((x1.toNat : Int) == 9) = false := by simp; omega
   have z10 : ((x1.toNat : Int) == 10) = false := by simp; omega
   have z11 : ((x1.toNat : Int) == 11) = false := by simp; omega
   have f74 : B74 = false := by rw [hB74]; simp [hkn]; omega
   have f111 : B111 = false := by rw [hB111]; simp [hkn]; omega
   replace F := aF f74 (And.intro f111 F); replace F := aF z1 (And.intro z2 (And.intro z3 (And.intro z4 (And.intro z5 (And.intro z6 (And.intro z7 (And.intro z8 (And.intro z9 (And.intro z10 (And.intro z11 F))))))))))
   obtain ⟨G12, hG12⟩ : ∃ L, L = x1 :: nBytes 8 x12 := ⟨_, rfl⟩
   have nG12 : G12.length ≤ 9 := by rw [hG12]; simp only [List.length_append, List.length_cons, List.length_nil, nBytes_len]; omega
   obtain ⟨D6, hD6⟩ : ∃ L, L = x1 :: [x6] := ⟨_, rfl⟩
   have nD6 : D6.length ≤ 2 := by rw [hD6]; simp only [List.length_append, List.length_cons, List.length_nil, nBytes_len]; omega
   obtain ⟨G8, hG8⟩ : ∃ L, L = D6 ++ nBytes 8 x12 := ⟨_, rfl⟩
   have nG8 : G8.length ≤ 10 := by rw [hG8]; simp only [List.length_append, List.length_cons, List.length_nil, nBytes_len]; omega
   obtain ⟨G9, hG9⟩ : ∃ L, L = G8 ++ nBytes 2 x13 := ⟨_, rfl⟩
   have nG9 : G9.length ≤ 12 := by rw [hG9]; simp only [List.length_append, List.length_cons, List.length_nil, nBytes_len]; omega
   obtain ⟨G10, hG10⟩ : ∃ L, L = G9 ++ [if x14 then 1 else 0] := ⟨_, rfl⟩
   have nG10 : G10.length ≤ 13 := by rw [hG10]; simp only [List.length_append, List.length_cons, List.length_nil, nBytes_len]; omega
   obtain ⟨G4, hG4⟩ : ∃ L, L = D6 ++ encL x9 := ⟨_, rfl⟩
   have nG4 : G4.length ≤ 275 := by rw [hG4]; simp only [List.length_append, List.length_cons, List.length_nil, nBytes_len]; omega
   have q36 := fun objs g => apR (l := [x1]) (q := nBytes 8 x12) (m := 8) (tq := .shut) (objs := objs) (tk := σ.toks) (gl := σ.gl) (rows := σ.rows) (g := g) hG12 (nBytes_len 8 x12) (by simp) (by omega)
   simp only [b1, List.length_singleton] at q36
   have q28 := fun objs g => apR (l := [x1]) (m := 1) (tq := .full) (objs := objs) (tk := σ.toks) (gl := σ.gl) (rows := σ.rows) (g := g) hD6 rfl (by simp) (by omega)
   simp only [b1, List.length_singleton] at q28
   have q39 := fun objs g => apR (m := 8) (tq := .shut) (objs := objs) (tk := σ.toks) (gl := σ.gl) (rows := σ.rows) (g := g) hG8 (nBytes_len 8 x12) (by omega) (by omega)
   have q40 := fun objs g => apR (m := 2) (tq := .shut) (objs := objs) (tk := σ.toks) (gl := σ.gl) (rows := σ.rows) (g := g) hG9 (nBytes_len 2 x13) (by omega) (by omega)
   have q41 := fun objs g => apR (m := 1) (tq := .full) (objs := objs) (tk := σ.toks) (gl := σ.gl) (rows := σ.rows) (g := g) hG10 rfl (by omega) (by omega)
   have q44 := fun objs g => apR (m := (encL x9).length) (tq := .shut) (objs := objs) (tk := σ.toks) (gl := σ.gl) (rows := σ.rows) (g := g) hG4 rfl (by omega) (by omega)
   try simp only [b1] at q28
   obtain ⟨rwX, hrwX⟩ : ∃ T : List RowSt, T = [⟨0, [.v (.int .u8 x1.toNat)], none⟩] := ⟨_, rfl⟩
   refine run_skip ?_; refine hK5 _ _ ?_; refine sq fun K88 hK88 => ?_; refine sr fun _ hJ90 => ?_; refine hJ90 _ _ ?_; refine run_block_k ?_; refine sr fun _ hJ92 => ?_; refine hJ92 _ _ ?_; refine cf ?_; refine sr fun _ hJ94 => ?_; refine hJ94 _ _ ?_; refine cf ?_; refine sqc (X := Unit) [1, 2, 3, 27] (fun z ρ σ1 => (ρ 74 = .v (.bool B74)) ∧ (σ1 = { σ with objs := σ.objs ++ [msgC ⟨x1, x2, x3, x4, x5, x6, x7, x8, x9, x10, ⟨xpk, xps, xpe, xpt, xpq⟩, x12, x13, x14⟩], rows := σ.rows ++ rwX })) ?cy95 ?cx95
   case cy95 =>
    rintro z ρCc74 σ1 hFCc74 ⟨h74, hσ⟩; obtain rfl := hσ.symm
    have fCc74 := keepL hFCc74
    (try simp [KeepL, F] at fCc74); replace F := aF h74 F; (try replace F := aF fCc74 F); refine cf ?_; refine sr fun _ hJ97 => ?_; refine hJ97 _ _ ?_; refine cf ?_; refine sqc (X := Unit) [1, 2, 3, 27] (fun z ρ σ1 => (ρ 101 = .v (.bool B101)) ∧ (σ1 = { σ with objs := σ.objs ++ [msgC ⟨x1, x2, x3, x4, x5, x6, x7, x8, x9, x10, ⟨xpk, xps, xpe, xpt, xpq⟩, x12, x13, x14⟩], rows := σ.rows ++ rwX })) ?cy98 ?cx98
    case cy98 =>
     rintro z ρCc101 σ1 hFCc101 ⟨h101, hσ⟩; obtain rfl := hσ.symm
     have fCc101 := keepL hFCc101
     (try simp [KeepL, F] at fCc101); replace F := aF h101 F; (try replace F := aF fCc101 F); refine cs (t := B101) (fun c101 => ?_) (fun c101 => ?_)
     · try exact nope c101
       all_goals
        replace F := wf F c101; replace F := aF hrwX F; replace F := aF q28 F; refine rg' (h := fun J99 hJ99 => ?_); refine hJ99 _ _ ?_; refine hK88 _ _ ?_; refine sr fun _ hJ101 => ?_; refine hJ101 _ _ ?_; refine ra ?_
        have hk2 : ((x1 = 6 ∨ x1 = 7) ∨ x1 = 11) ∨ x1 = 35 := by rw [hB101] at c101; simpa using c101
        have hv : hasN x1 = 1026 := by rcases hk2 with ((e | e) | e) | e <;> first | (exfalso; rw [e] at hge32; simp at hge32; done) | (rw [e]; decide)
        have hX : D6 = A := by (rw [hA]; simp [encM, ncE, ncT, ncV, ncO, ncN, ncC, ncU, ncP, ncM, ncQ, ncJ, hB, hv, hD6])
        rw [← hX]
        exact gcow
     try exact nope c101
     all_goals
      replace F := wf F c101; refine sqc (X := Unit) [1, 2, 3, 27] (fun z ρ σ1 => (ρ 111 = .v (.bool B111)) ∧ (σ1 = { σ with objs := σ.objs ++ [msgC ⟨x1, x2, x3, x4, x5, x6, x7, x8, x9, x10, ⟨xpk, xps, xpe, xpt, xpq⟩, x12, x13, x14⟩], rows := σ.rows ++ rwX })) ?cy102 ?cx102
      case cy102 =>
       rintro z ρCc111 σ1 hFCc111 ⟨h111, hσ⟩; obtain rfl := hσ.symm
       have fCc111 := keepL hFCc111
       (try simp [KeepL, F] at fCc111); replace F := aF h111 F; (try replace F := aF fCc111 F); refine cf ?_; refine sr fun _ hJ104 => ?_; refine hJ104 _ _ ?_; refine cf ?_; refine sr fun _ hJ106 => ?_; refine hJ106 _ _ ?_; refine cs (fun c131 => ?_) (fun c131 => ?_)
       · try exact nope c131
         all_goals
          replace F := wf F c131
          have e32 : (x1.toNat : Int) = 32 := by simpa using c131
          simp only [e32] at q36
          replace F := aF hrwX F; replace F := aF q36 F; refine rg' (h := fun J107 hJ107 => ?_)
          refine cb (c := rlong_ok (size := 8) h7 (by omega)) (k := ?_)
          refine hJ107 _ _ ?_; refine hK88 _ _ ?_; refine sr fun _ hJ109 => ?_; refine hJ109 _ _ ?_; refine ra ?_
          have hk2 : x1 = 32 := (hkn 32).2 (by simpa using c131)
          have hv : hasN x1 = 1152 := by rw [hk2]; decide
          have hX : G12 = A := by (rw [hA]; simp [encM, ncE, ncT, ncV, ncO, ncN, ncC, ncU, ncP, ncM, ncQ, ncJ, hB, hv, hG12])
          rw [← hX]
          exact gcow
       try exact nope c131
       all_goals
        replace F := wf F c131; refine sr fun _ hJ111 => ?_; refine hJ111 _ _ ?_; refine cs (fun c138 => ?_) (fun c138 => ?_)
        · try exact nope c138
          all_goals
           replace F := wf F c138
           have e33 : (x1.toNat : Int) = 33 := by simpa using c138
           simp only [e33] at q28
           refine sq fun K112 hK112 => ?_; replace F := aF hrwX F; replace F := aF q28 F; refine rg' (h := fun J113 hJ113 => ?_); refine hJ113 _ _ ?_; refine hK112 _ _ ?_; refine sq fun K114 hK114 => ?_; replace F := aF hrwX F; replace F := aF q39 F; refine rg' (h := fun J115 hJ115 => ?_)
           refine cb (c := rlong_ok (size := 8) h7 (by omega)) (k := ?_)
           refine hJ115 _ _ ?_; refine hK114 _ _ ?_; refine sq fun K116 hK116 => ?_; replace F := aF hrwX F; replace F := aF q40 F; refine rg' (h := fun J117 hJ117 => ?_)
           refine cb (c := rlong_ok (n := x13) (size := 2) (by omega) (by omega)) (k := ?_)
           refine hJ117 _ _ ?_; refine hK116 _ _ ?_; replace F := aF hrwX F; replace F := aF q41 F; refine rg' (h := fun J118 hJ118 => ?_); refine cb (c := rflag_ok) (k := ?_); refine hJ118 _ _ ?_; refine hK88 _ _ ?_; refine sr fun _ hJ120 => ?_; refine hJ120 _ _ ?_; refine ra ?_
           have hk2 : x1 = 33 := (hkn 33).2 (by simpa using c138)
           have hv : hasN x1 = 1922 := by rw [hk2]; decide
           have hX : G10 = A := by (rw [hA]; simp [encM, ncE, ncT, ncV, ncO, ncN, ncC, ncU, ncP, ncM, ncQ, ncJ, hB, hv, hG10, hG9, hG8, hD6])
           rw [← hX]
           exact gcow
        try exact nope c138
        all_goals
         replace F := wf F c138; refine sr fun _ hJ122 => ?_; refine hJ122 _ _ ?_; refine cs (fun c161 => ?_) (fun c161 => ?_)
         · try exact nope c161
           all_goals
            replace F := wf F c161
            have e34 : (x1.toNat : Int) = 34 := by simpa using c161
            simp only [e34] at q28
            refine sq fun K123 hK123 => ?_; replace F := aF hrwX F; replace F := aF q28 F; refine rg' (h := fun J124 hJ124 => ?_); refine hJ124 _ _ ?_; refine hK123 _ _ ?_; replace F := aF hrwX F; replace F := aF q44 F; refine rg' (h := fun J125 hJ125 => ?_)
            refine cb (c := rcoinsW_ok (L := x9) (by omega)) (k := ?_)
            refine hJ125 _ _ ?_; refine hK88 _ _ ?_; refine sr fun _ hJ127 => ?_; refine hJ127 _ _ ?_; refine ra ?_
            have hk2 : x1 = 34 := (hkn 34).2 (by simpa using c161)
            have hv : hasN x1 = 1042 := by rw [hk2]; decide
            have hX : G4 = A := by (rw [hA]; simp [encM, ncE, ncT, ncV, ncO, ncN, ncC, ncU, ncP, ncM, ncQ, ncJ, hB, hv, hG4, hD6])
            rw [← hX]
            exact gcow
         try exact nope c161
         all_goals
          replace F := wf F c161; refine run_skip ?_; refine hK88 _ _ ?_; refine sr fun _ hJ129 => ?_; refine hJ129 _ _ ?_; refine ra ?_
          have hk2 : x1 = 36 := UInt8.toNat_inj.1 (by have a := c131; have b := c138; have d := c161; have e := c101; rw [hB101] at e; simp [hkn] at e; simp at a b d; simp; omega)
          have hv : hasN x1 = 1024 := by rw [hk2]; decide
          have hX : [x1] = A := by (rw [hA]; simp [encM, ncE, ncT, ncV, ncO, ncN, ncC, ncU, ncP, ncM, ncQ, ncJ, hB, hv])
          rw [← hX]
          rw [hrwX]
          exact gcow (ht := by simp [F, St.trimO, b1])
      case cx102 =>
       intro K102 hK102
       refine sr fun _ hJ131 => ?_; refine hJ131 _ _ ?_; refine cf ?_; refine rg' (h := fun J132 hJ132 => ?_); refine hJ132 _ _ ?_; refine hK102 (()) _ _ ⟨kp, ?_, ?_⟩
       · rw [hB111]
         simp [hkn, F]
         all_goals try (first | omega | rfl | (rw [Bool.eq_iff_iff]; simp; omega))
       · simp [hrwX]
    case cx98 =>
     intro K98 hK98
     refine sr fun _ hJ134 => ?_; refine hJ134 _ _ ?_; refine cs (fun c101 => ?_) (fun c101 => ?_)
     · try exact nope c101
       all_goals
        replace F := wf F c101; refine run_skip ?_; refine hK98 (()) _ _ ⟨kp, ?_, ?_⟩
        · rw [hB101]
          simp [hkn, F]
          all_goals try (first | omega | rfl | (rw [Bool.eq_iff_iff]; simp; omega))
        · simp [hrwX]
     try exact nope c101
     all_goals
      replace F := wf F c101; refine sr fun _ hJ136 => ?_; refine hJ136 _ _ ?_; refine cs (fun c101 => ?_) (fun c101 => ?_)
      · try exact nope c101
        all_goals
         replace F := wf F c101; refine run_skip ?_; refine hK98 (()) _ _ ⟨kp, ?_, ?_⟩
         · rw [hB101]
           simp [hkn, F]
           all_goals try (first | omega | rfl | (rw [Bool.eq_iff_iff]; simp; omega))
         · simp [hrwX]
      try exact nope c101
      all_goals
       replace F := wf F c101; refine sr fun _ hJ138 => ?_; refine hJ138 _ _ ?_; refine cs (fun c101 => ?_) (fun c101 => ?_)
       · try exact nope c101
         all_goals
          replace F := wf F c101; refine run_skip ?_; refine hK98 (()) _ _ ⟨kp, ?_, ?_⟩
          · rw [hB101]
            simp [hkn, F]
            all_goals try (first | omega | rfl | (rw [Bool.eq_iff_iff]; simp; omega))
          · simp [hrwX]
       try exact nope c101
       all_goals
        replace F := wf F c101; refine rg' (h := fun J139 hJ139 => ?_); refine hJ139 _ _ ?_; refine hK98 (()) _ _ ⟨kp, ?_, ?_⟩
        · rw [hB101]
          simp [hkn, F]
          all_goals try (first | omega | rfl | (rw [Bool.eq_iff_iff]; simp; omega))
        · simp [hrwX]
   case cx95 =>
    intro K95 hK95
    refine sr fun _ hJ141 => ?_; refine hJ141 _ _ ?_; refine cf ?_; refine rg' (h := fun J142 hJ142 => ?_); refine hJ142 _ _ ?_; refine hK95 (()) _ _ ⟨kp, ?_, ?_⟩
    · rw [hB74]
      simp [hkn, F]
      all_goals try (first | omega | rfl | (rw [Bool.eq_iff_iff]; simp; omega))
    · simp [hrwX]

theorem encM_len2 {m : Msg} (hG : rightM m = true) : (encM m).length ≤ 20000 := by
  have mb := right_mb hG
  have l4 := encL_len (right_len mb.fee)
  have l9 := encL_len (right_len mb.c)
  have l10 := encOs_len m.outs (fun x hx => right_len (mb.out x hx))
  have m10 := mb.outs
  have lN := natBytes_len m.n.v 32 (by simpa using m.n.h)
  have lP := encPers_len m.p.ps (fun x hx => right_len (mb.p.2.2 x hx))
  have lP1 := encL_len (right_len mb.p.1)
  have lP2 := mb.p.2.1
  have aE : (ncE m).length ≤ 300 := by unfold ncE; cases hB m.k 1024 <;> simp [nBytes_len] <;> omega
  have aT : (ncT m).length ≤ 1 := by unfold ncT; cases hB m.k 1 <;> simp
  have aV : (ncV m).length ≤ 1 := by unfold ncV; cases hB m.k 2 <;> simp
  have aO : (ncO m).length ≤ 1 := by unfold ncO; cases hB m.k 4 <;> simp
  have aN : (ncN m).length ≤ 33 := by unfold ncN; cases hB m.k 8 <;> simp [encN] <;> omega
  have aC : (ncC m).length ≤ 273 := by unfold ncC; cases hB m.k 16 <;> simp <;> omega
  have aU : (ncU m).length ≤ 5000 := by unfold ncU; cases hB m.k 32 <;> simp <;> omega
  have aP : (ncP m).length ≤ 6000 := by unfold ncP; cases hB m.k 64 <;> simp [encPl, nBytes_len] <;> omega
  have aM : (ncM m).length ≤ 8 := by unfold ncM; cases hB m.k 128 <;> simp [nBytes_len]
  have aQ : (ncQ m).length ≤ 2 := by unfold ncQ; cases hB m.k 256 <;> simp [nBytes_len]
  have aJ : (ncJ m).length ≤ 1 := by unfold ncJ; cases hB m.k 512 <;> simp
  simp only [encM, List.length_cons, List.length_append]
  omega
theorem xor_u8 (a b : Int) : ∃ y : UInt8, xorI .u8 a b = (y.toNat : Int) := by
  refine ⟨UInt8.ofNat (BitVec.ofInt IntKind.u8.bits a ^^^ BitVec.ofInt IntKind.u8.bits b).toNat, ?_⟩
  rw [xorI, wrap_u8]
  simp
  have := (BitVec.ofInt 8 a ^^^ BitVec.ofInt 8 b).isLt
  omega

set_option maxHeartbeats 1600000 in
attribute [local simp] undefA List.getElem?_cons_zero List.getElem?_cons_succ msgC outsC_noObj persC_noObj in
theorem msgTurned_ok {σ : St} {m : Msg} (ha : m.Ok) {a1 a3 : Nat} {a2 : UInt8} {p : List UInt8} (h1 : a1 < 2 ^ 16) (h3 : a3 < 2 ^ 16) (hp : p.length ≤ 9223372036854775807) :
    CallsA Try.prog 15 [.agg (msgC m), .v (.int .u16 a1), .v (.int .u8 a2.toNat), .v (.int .u16 a3), .sl 1 (bytesA p) p.length .shut] σ (fun av σ' => av = .v (.bool true) ∧ σ = σ') := by
  refine callsA_gcS ?_ rfl
  have s1 := fun σ => small_ok (σ := σ) ha
  have f1 : smallM m = true → ∀ σ, CallsA Try.prog 53 [.agg (msgC m)] σ (fun av σ' => av = .agg (msgC (fitM m)) ∧ σ = σ') := fun h σ => fit_ok ha h
  have hY := fitM_ok ha
  have hR := fit_right m
  obtain ⟨Y, hYd⟩ : ∃ Y, Y = fitM m := ⟨_, rfl⟩
  rw [← hYd] at f1 hY hR
  clear hYd
  have hl := encM_len2 hR
  have hl0 : 0 < (encM Y).length := by simp [encM]
  have hby := fun σ => rmbytesR_ok (σ := σ) hY (right_mb hR) (by have h := hR; unfold rightM at h; simp only [Bool.and_eq_true, decide_eq_true_eq] at h; exact h.1.1.1.1.1.1.1.1.1)
  obtain ⟨E, hE⟩ : ∃ E, E = encM Y := ⟨_, rfl⟩
  simp only [← hE] at hby hl hl0
  clear hE hR hY
  -- the byte that is turned
  obtain ⟨i, hi⟩ : ∃ i, i = a1 % E.length := ⟨_, rfl⟩
  have hil : i < E.length := hi ▸ Nat.mod_lt _ hl0
  have hE0 : ¬ (E.length : Int) = 0 := by omega
  have hwa : IntKind.i64.wrap (a1 : Int) = a1 := wrap_i64 _ (by omega) (by omega)
  have hwc : IntKind.i64.wrap (a3 : Int) = a3 := wrap_i64 _ (by omega) (by omega)
  have hr1 : ∀ xo yo, binA Try.prog .rem 3 xo yo (.v (.int .i64 (a1 : Nat))) (.v (.int .i64 (E.length : Nat))) = some (.v (.int .i64 (i : Nat))) := fun xo yo => by rw [binA_rem (h := hE0), hi]; rfl
  obtain ⟨c, hc⟩ : ∃ c, c = a3 % E.length := ⟨_, rfl⟩
  have hcl : c < E.length := hc ▸ Nat.mod_lt _ hl0
  have hr2 : ∀ xo yo, binA Try.prog .rem 3 xo yo (.v (.int .i64 (a3 : Nat))) (.v (.int .i64 (E.length : Nat))) = some (.v (.int .i64 (c : Nat))) := fun xo yo => by rw [binA_rem (h := hE0), hc]; rfl
  have hget : (bytesA E)[i]? = some (.v (.int .u8 E[i].toNat)) := bytesA_get hil
  obtain ⟨b, hb⟩ : ∃ b, b = E[i] := ⟨_, rfl⟩
  rw [← hb] at hget
  have hb2 := hb.symm
  obtain ⟨y, hy⟩ := xor_u8 (b.toNat : Int) (a2.toNat : Int)
  have hxo : ∀ xo yo, binA Try.prog .xor 5 xo yo (.v (.int .u8 b.toNat)) (.v (.int .u8 a2.toNat)) = some (.v (.int .u8 y.toNat)) := fun xo yo => by rw [binA_xorI, hy]
  obtain ⟨E2, hE2⟩ : ∃ E2, E2 = E.take i ++ y :: E.drop (i + 1) := ⟨_, rfl⟩
  have hl2 : E2.length = E.length := by rw [hE2]; simp; omega
  have hsp : List.take i (bytesA E) ++ AV.v (.int .u8 y.toNat) :: List.drop (i + 1) (bytesA E) = bytesA E2 := by rw [hE2, bytesA_take, bytesA_drop]; simp [bytesA]
  obtain ⟨h, hh⟩ : ∃ h, h = E.length - c := ⟨_, rfl⟩
  have hws : IntKind.i64.wrap ((E.length : Int) - (c : Int)) = ((h : Nat) : Int) := by rw [wrap_i64 _ (by omega) (by omega)]; omega
  have hhl : h ≤ E.length := by omega
  have hh0 : 0 < h := by omega
  obtain ⟨E3, hE3⟩ : ∃ E3, E3 = E2.take h := ⟨_, rfl⟩
  have hl3 : E3.length = h := by rw [hE3, List.length_take]; omega
  have htk : List.take h (bytesA E2) = bytesA E3 := by rw [hE3, bytesA_take]
  have hne3 : E3 ≠ [] := fun e => by rw [e] at hl3; simp at hl3; omega
  clear hE2 hE3 hb hi hc
  have hjn : p.length ≤ 100 → ∀ σ, CallsA Try.prog 43 [.sl 1 (bytesA E3) h .shut, .sl 1 (bytesA p) p.length .shut] σ (fun av σ' => av = .sl 1 (bytesA (E3 ++ p)) (E3 ++ p).length .shut ∧ σ = σ') := fun hp σ => join_ok rfl hl3 rfl hne3 (by omega) (by omega)
  have hlq : p.length ≤ 100 → (E3 ++ p).length ≤ 1000000 := fun hp => by rw [List.length_append]; omega
  obtain ⟨q, hq⟩ : ∃ q, q = E3 ++ p := ⟨_, rfl⟩
  rw [← hq] at hjn hlq
  have hde : p.length ≤ 100 → ∀ σ, CallsA Try.prog 55 [.sl 1 (bytesA q) q.length .shut] σ (fun av σ' => av = .tup [.agg (msgC (decM q)), .v (.int .i64 (bif decB q then 0 else 4))] ∧ σ = σ') := fun hp σ => decode_ok (hlq hp)
  have hre : p.length ≤ 100 → ∀ σ, CallsA Try.prog 59 [.sl 1 (bytesA q) q.length .shut] σ (fun av σ' => av = .tup [.agg (msgC (decM q)), .v (.bool (decB q))] ∧ σ = σ') := fun hp σ => rmread_ok (hlq hp)
  have m2 := fun σ => rmsame_ok (σ := σ) (decM_ok q) (decM_ok q)
  simp only [decide_true] at m2
  obtain ⟨X, hX⟩ : ∃ X, X = decM q := ⟨_, rfl⟩
  obtain ⟨D, hD⟩ : ∃ D, D = decB q := ⟨_, rfl⟩
  obtain ⟨G1, hG1⟩ : ∃ G, G = smallM m := ⟨_, rfl⟩
  simp only [← hX, ← hD] at hde hre m2
  simp only [← hG1] at s1 f1
  clear hX hD hG1 ha hlq hq
  have hd0 : ((bif D then (0 : Int) else 4) == 0) = D := by cases D <;> rfl
  have hDD : (D == D) = true := by cases D <;> rfl
  have hgt : decide (100 < (p.length : Int)) = decide (100 < p.length) := by rw [decide_eq_decide]; omega
  have hbb : ∀ (xo yo : Operand) (a b : Bool), binA Try.prog .eql 4 xo yo (.v (.bool a)) (.v (.bool b)) = some (.v (.bool (a == b))) := by intro xo yo a b; cases a <;> cases b <;> rfl
  have hd21 : ∀ f : Nat → AV, List.drop 21 (List.map f (List.range 21)) = [] := fun _ => rfl
  obtain ⟨x1, x2, x3, x4, x5, x6, x7, x8, x9, x10, x11, x12, x13, x14⟩ := m
  obtain ⟨xpk, xps, xpe, xpt, xpq⟩ := x11
  obtain ⟨y1, y2, y3, y4, y5, y6, y7, y8, y9, y10, y11, y12, y13, y14⟩ := Y
  obtain ⟨ypk, yps, ype, ypt, ypq⟩ := y11
  obtain ⟨z1, z2, z3, z4, z5, z6, z7, z8, z9, z10, z11, z12, z13, z14⟩ := X
  obtain ⟨zpk, zps, zpe, zpt, zpq⟩ := z11
  have F := And.intro hd21 (And.intro hbb (And.intro hwa (And.intro hwc (And.intro hr1 (And.intro hr2 (And.intro hb2 (And.intro hget (And.intro hxo (And.intro hsp (And.intro hws (And.intro htk (And.intro hil (And.intro hhl (And.intro hl2 (And.intro hd0 (True.intro))))))))))))))))
  refine callsA_body Try.func15 rfl rfl rfl ?_; refine sr fun _ hJ2 => ?_; refine hJ2 _ _ ?_; refine sq fun K3 hK3 => ?_; refine sr fun _ hJ5 => ?_; refine cb (c := ends_ok) (k := ?_); refine gs 19 (fun g1_2 => ?_) (fun g1_2 => ?_)
  · try exact nope g1_2
    all_goals
     replace F := wf F g1_2; (iterate 6 refine no2 (k := ?_)); refine hJ5 _ _ ?_; refine ct ?_; refine sr fun _ hJ7 => ?_; refine cb (c := ends_ok) (k := ?_); refine hJ7 _ _ ?_; refine ra ?_; exact gcr
  try exact nope g1_2
  all_goals
   replace F := wf F g1_2; refine go2 (k := ?_); refine cb (c := s1 _) (k := ?_); refine go2 (k := ?_); refine gs 24 (fun g1_7 => ?_) (fun g1_7 => ?_)
   · try exact nope g1_7
     all_goals
      replace F := wf F g1_7; (iterate 3 refine no2 (k := ?_)); refine hJ5 _ _ ?_; refine ct ?_; refine sr fun _ hJ9 => ?_; refine cb (c := ends_ok) (k := ?_); refine hJ9 _ _ ?_; refine ra ?_; exact gcr
   try exact nope g1_7
   all_goals
    replace F := wf F g1_7; (iterate 3 refine go2 (k := ?_)); refine hJ5 _ _ ?_; refine cs (fun c28 => ?_) (fun c28 => ?_)
    · try exact nope c28
      all_goals
       replace F := wf F c28; refine sr fun _ hJ11 => ?_; refine cb (c := ends_ok) (k := ?_); refine hJ11 _ _ ?_; refine ra ?_; exact gcr
    try exact nope c28
    all_goals
     replace F := wf F c28; refine run_skip ?_; refine hK3 _ _ ?_; refine sq fun K12 hK12 => ?_
     have hg1 : G1 = true := by have h := g1_7; simp at h; exact h
     have hp100 : p.length ≤ 100 := by have h := c28; simp at h; omega
     refine rg' (h := fun J13 hJ13 => ?_); refine cb (c := f1 hg1 _) (k := ?_); refine ca (c := hby _) (k := ?_); rintro _ _ ⟨g, rfl, rfl⟩; (repeat (first | simp [F] | simp (disch := omega) only [wC, if_pos, if_neg])); refine hJ13 _ _ ?_; refine hK12 _ _ ?_; refine sr fun _ hJ15 => ?_; refine hJ15 _ _ ?_; refine sq fun K16 hK16 => ?_; refine run_fz 11 1 (k := ?_); refine rg' (h := fun J17 hJ17 => ?_); refine cb (c := hjn hp100 _) (k := ?_); refine hJ17 _ _ ?_; refine hK16 _ _ ?_; refine sr fun _ hJ19 => ?_; refine cb (c := hde hp100 _) (k := ?_); refine hJ19 _ _ ?_; refine sr fun _ hJ21 => ?_; refine cb (c := hre hp100 _) (k := ?_); refine hJ21 _ _ ?_; refine sr fun _ hJ23 => ?_; refine gs 70 (fun g8_4 => ?_) (fun g8_4 => ?_)
     · try exact nope g8_4
       all_goals
        replace F := wf F g8_4; (iterate 2 refine go2 (k := ?_)); refine cb (c := m2 _) (k := ?_); refine hJ23 _ _ ?_; refine ra ?_; exact gcr
     try exact nope g8_4
     all_goals
      replace F := wf F g8_4; (iterate 3 refine no2 (k := ?_)); refine hJ23 _ _ ?_; refine ra ?_; exact gcr
end Go.Proofs.Ytdbaddholggkbaa

/-
  Arguments: numbers, lists of coins, plans.
-/
namespace Go.Vm
set_option linter.unnecessarySimpa false
set_option linter.unusedVariables false
open Go

theorem leavesF_mono {go go' : TypeId → Option (List TypeId)} (h : ∀ t l, go t = some l → go' t = some l) : ∀ (fs : List Field) (acc ls : List TypeId), leavesF go fs acc = some ls → leavesF go' fs acc = some ls
  | [], acc, ls, e => e
  | f :: fs, acc, ls, e => by
    simp only [leavesF] at e ⊢
    split at e
    · rename_i hf
      rw [if_pos hf]
      cases hg : go f.type with
      | none => rw [hg] at e; cases e
      | some l =>
        rw [hg] at e
        rw [h _ _ hg]
        exact leavesF_mono h fs _ ls e
    · cases e

theorem leaves_succ {P : Program} : ∀ (n : Nat) (t : TypeId) (l : List TypeId), leaves P n t = some l → leaves P (n + 1) t = some l
  | 0, t, l, h => by simp [leaves] at h
  | n + 1, t, l, h => by
    have ih := leaves_succ (P := P) n
    rw [leaves] at h ⊢
    split at h
    · exact h
    · exact h
    · exact h
    · rename_i e hu
      cases hg : leaves P n e with
      | none => rw [hg] at h; cases h
      | some l' => rw [hg] at h; simp only [ih _ _ hg]; exact h
    · rename_i fs hu
      cases hg : leavesF (leaves P n) fs.toList [] with
      | none => rw [hg] at h; cases h
      | some l' => rw [hg] at h; simp only [leavesF_mono ih _ _ _ hg]; exact h
    · rename_i k e hu
      cases hg : leaves P n e with
      | none => rw [hg] at h; cases h
      | some l' => rw [hg] at h; simp only [ih _ _ hg]; exact h
    · cases h

theorem leaves_add {P : Program} {n : Nat} {t : TypeId} {l : List TypeId} (h : leaves P n t = some l) : ∀ k, leaves P (n + k) t = some l
  | 0 => h
  | k + 1 => leaves_succ _ _ _ (leaves_add h k)
theorem leaves_one {P : Program} {n m : Nat} {t : TypeId} {l l' : List TypeId} (h : leaves P n t = some l) (h' : leaves P m t = some l') : l = l' := by
  have h1 := leaves_add h m
  have h2 := leaves_add h' n
  rw [Nat.add_comm] at h2
  rw [h1] at h2
  exact Option.some.inj h2

theorem join4' {a b c d : Nat} (ha : a < 2 ^ 64) (hb : b < 2 ^ 64) (hc : c < 2 ^ 64) (hd : d < 2 ^ 64) : ∃ x, x < 2 ^ 256 ∧ limb x 0 = a ∧ limb x 1 = b ∧ limb x 2 = c ∧ limb x 3 = d := by
  refine ⟨a + 2 ^ 64 * (b + 2 ^ 64 * (c + 2 ^ 64 * d)), ?_, ?_, ?_, ?_, ?_⟩ <;> (try simp only [limb, Nat.reduceMul, Nat.reducePow]) <;> omega

theorem u64_of' {P : Program} {u : TypeId} {a : AV} (hu : P.underlying u = some (.int .u64)) (w : WC P u a) : ∃ n : Nat, n < 2 ^ 64 ∧ a = .v (.int .u64 n) := by
  cases w with
  | bool h => rw [hu] at h; cases h
  | string h _ => rw [hu] at h; cases h
  | slice h _ _ _ _ => rw [hu] at h; cases h
  | int h hw =>
    rename_i k n
    rw [hu] at h
    cases h
    have m1 : IntKind.u64.min = 0 := rfl
    have m2 : IntKind.u64.max = 18446744073709551615 := rfl
    simp [Lit.wf, m1, m2] at hw
    exact ⟨n.toNat, by omega, by congr 2; omega⟩
theorem u8_of {P : Program} {u : TypeId} {a : AV} (hu : P.underlying u = some (.int .u8)) (w : WC P u a) : ∃ b : UInt8, a = .v (.int .u8 b.toNat) := by
  cases w with
  | bool h => rw [hu] at h; cases h
  | string h _ => rw [hu] at h; cases h
  | slice h _ _ _ _ => rw [hu] at h; cases h
  | int h hw =>
    rename_i k n
    rw [hu] at h
    cases h
    have m1 : IntKind.u8.min = 0 := rfl
    have m2 : IntKind.u8.max = 255 := rfl
    simp [Lit.wf, m1, m2] at hw
    refine ⟨UInt8.ofNat n.toNat, ?_⟩
    have e : (UInt8.ofNat n.toNat).toNat = n.toNat := toNat_u8 (by omega)
    rw [e]
    congr 2; omega

theorem num_of {P : Program} {u : TypeId} {a b c d : AV} (hu : P.underlying u = some (.int .u64)) (ha : WC P u a) (hb : WC P u b) (hc : WC P u c) (hd : WC P u d) : ∃ x : Num, [a, b, c, d] = numA x.v := by
  obtain ⟨na, ga, rfl⟩ := u64_of' hu ha
  obtain ⟨nb, gb, rfl⟩ := u64_of' hu hb
  obtain ⟨nc, gc, rfl⟩ := u64_of' hu hc
  obtain ⟨nd, gd, rfl⟩ := u64_of' hu hd
  obtain ⟨x, hx, x0, x1, x2, x3⟩ := join4' ga gb gc gd
  exact ⟨⟨x, hx⟩, by simp [numA, x0, x1, x2, x3]⟩

theorem groups {P : Program} {α : Type} {f : α → List AV} {ls : List TypeId} (hl : 0 < ls.length) (hf : ∀ a, (f a).length = ls.length)
    (one : ∀ cs : List AV, cs.length = ls.length → (∀ (j : Nat) a u, cs[j]? = some a → ls[j]? = some u → WC P u a) → ∃ x, cs = f x) :
    ∀ (n : Nat) (cs : List AV), cs.length = n * ls.length → (∀ (j : Nat) a u, cs[j]? = some a → ls[j % ls.length]? = some u → WC P u a) → ∃ l : List α, l.length = n ∧ cs = l.flatMap f
  | 0, cs, h, _ => ⟨[], rfl, by simpa using h⟩
  | n + 1, cs, h, hc => by
    have hle : ls.length ≤ cs.length := by rw [h, Nat.add_mul]; omega
    obtain ⟨x, hx⟩ := one (cs.take ls.length) (by simp; omega) (fun j a u ha hu => by
      have hj : j < ls.length := (List.getElem?_eq_some_iff.1 hu).1
      rw [List.getElem?_take, if_pos hj] at ha
      exact hc j a u ha (by rw [Nat.mod_eq_of_lt hj]; exact hu))
    obtain ⟨l, hln, hl2⟩ := groups hl hf one n (cs.drop ls.length) (by rw [List.length_drop, h, Nat.add_mul]; omega) (fun j a u ha hu => by
      rw [List.getElem?_drop] at ha
      exact hc (ls.length + j) a u ha (by rw [Nat.add_mod_left]; exact hu))
    exact ⟨x :: l, by simp [hln], by rw [List.flatMap_cons, ← hx, ← hl2, List.take_append_drop]⟩

theorem coins_of {P : Program} {t e tb u : TypeId} {k : Nat} {a : AV} (ht : P.underlying t = some (.slice e)) (hle : leaves P k e = some [tb, u, u, u, u]) (hb : P.underlying tb = some (.int .u8)) (hu : P.underlying u = some (.int .u64)) (w : WC P t a) : ∃ L : List Coin, a = .sl 5 (coinsC L) L.length .shut := by
  cases w with
  | bool h => rw [ht] at h; cases h
  | string h _ => rw [ht] at h; cases h
  | int h _ => rw [ht] at h; cases h
  | slice h hls hl hn hc =>
    rw [ht] at h
    cases h
    rename_i fuel ls cs n
    obtain rfl := leaves_one hle hls
    obtain ⟨L, hL, rfl⟩ := groups (f := coinC) (ls := [tb, u, u, u, u]) (by simp) (fun _ => rfl) (fun cs h1 h2 => by
      obtain ⟨a0, a1, a2, a3, a4, rfl⟩ : ∃ a0 a1 a2 a3 a4, cs = [a0, a1, a2, a3, a4] := by
        match cs, h1 with
        | [a0, a1, a2, a3, a4], _ => exact ⟨a0, a1, a2, a3, a4, rfl⟩
      obtain ⟨b, hb⟩ := u8_of hb (h2 0 a0 tb rfl rfl)
      obtain ⟨x, hx⟩ := num_of hu (h2 1 a1 u rfl rfl) (h2 2 a2 u rfl rfl) (h2 3 a3 u rfl rfl) (h2 4 a4 u rfl rfl)
      exact ⟨⟨b, x⟩, by rw [hb, hx]; rfl⟩) n cs hl hc
    exact ⟨L, by rw [← hL]; rfl⟩

theorem wc_len {P : Program} {t : TypeId} {sz n : Nat} {cs : List AV} {tl : Tail} (w : WC P t (.sl sz cs n tl)) : n ≤ 9223372036854775807 := by
  generalize hx : AV.sl sz cs n tl = x at w
  cases w with
  | bool h => cases hx
  | string h _ => cases hx
  | int h _ => cases hx
  | slice h hls hl hn hc => cases hx; exact hn

theorem pers_of {P : Program} {t e u tc ec tb : TypeId} {k k2 : Nat} {a : AV} (ht : P.underlying t = some (.slice e)) (hle : leaves P k e = some [u, tc]) (hu : P.underlying u = some (.int .u64)) (hb : P.underlying tb = some (.int .u8)) {un : TypeId} (hun : P.underlying un = some (.int .u64))
    (htc : P.underlying tc = some (.slice ec)) (hlc : leaves P k2 ec = some [tb, un, un, un, un]) (w : WC P t a) : ∃ L : List Per, a = .sl 2 (persC L) L.length .shut ∧ L.length ≤ 9223372036854775807 ∧ ∀ x ∈ L, x.l < 2 ^ 64 ∧ x.c.length ≤ 9223372036854775807 := by
  have w0 := w
  cases w with
  | bool h => rw [ht] at h; cases h
  | string h _ => rw [ht] at h; cases h
  | int h _ => rw [ht] at h; cases h
  | slice h hls hl hn hc =>
    rw [ht] at h
    cases h
    rename_i fuel ls cs n
    obtain rfl := leaves_one hle hls
    obtain ⟨L, hL, rfl⟩ := groups (α := { x : Per // x.l < 2 ^ 64 ∧ x.c.length ≤ 9223372036854775807 }) (f := fun x => perC x.1) (ls := [u, tc]) (by simp) (fun _ => rfl) (fun cs h1 h2 => by
      obtain ⟨a0, a1, rfl⟩ : ∃ a0 a1, cs = [a0, a1] := by
        match cs, h1 with
        | [a0, a1], _ => exact ⟨a0, a1, rfl⟩
      obtain ⟨m, hm, e0⟩ := u64_of' hu (h2 0 a0 u rfl rfl)
      have w1 := h2 1 a1 tc rfl rfl
      obtain ⟨M, hM⟩ := coins_of htc hlc hb hun w1
      subst hM
      exact ⟨⟨⟨m, M⟩, hm, wc_len w1⟩, by rw [e0]; rfl⟩) n cs hl hc
    refine ⟨L.map Subtype.val, ?_, by rw [List.length_map, hL]; exact hn, fun x hx => ?_⟩
    · rw [List.length_map, hL]
      show AV.sl 2 _ n .shut = _
      congr 1
      simp [persC]
    · obtain ⟨y, _, rfl⟩ := List.mem_map.1 hx
      exact y.2

theorem u16_of {P : Program} {u : TypeId} {a : AV} (hu : P.underlying u = some (.int .u16)) (w : WC P u a) : ∃ n : Nat, n < 2 ^ 16 ∧ a = .v (.int .u16 n) := by
  cases w with
  | bool h => rw [hu] at h; cases h
  | string h _ => rw [hu] at h; cases h
  | slice h _ _ _ _ => rw [hu] at h; cases h
  | int h hw =>
    rename_i k n
    rw [hu] at h
    cases h
    have m1 : IntKind.u16.min = 0 := rfl
    have m2 : IntKind.u16.max = 65535 := rfl
    simp [Lit.wf, m1, m2] at hw
    exact ⟨n.toNat, by omega, by congr 2; omega⟩
theorem bool_of {P : Program} {u : TypeId} {a : AV} (hu : P.underlying u = some .bool) (w : WC P u a) : ∃ b : Bool, a = .v (.bool b) := by
  cases w with
  | int h _ => rw [hu] at h; cases h
  | string h _ => rw [hu] at h; cases h
  | slice h _ _ _ _ => rw [hu] at h; cases h
  | bool h => exact ⟨_, rfl⟩
theorem outs_of {P : Program} {t e u tc ec tb : TypeId} {k k2 : Nat} {a : AV} (ht : P.underlying t = some (.slice e)) (hle : leaves P k e = some [u, tc]) (hu : P.underlying u = some (.int .u8)) (hb : P.underlying tb = some (.int .u8)) {un : TypeId} (hun : P.underlying un = some (.int .u64))
    (htc : P.underlying tc = some (.slice ec)) (hlc : leaves P k2 ec = some [tb, un, un, un, un]) (w : WC P t a) : ∃ L : List Out, a = .sl 2 (outsC L) L.length .shut ∧ L.length ≤ 9223372036854775807 ∧ ∀ x ∈ L, x.c.length ≤ 9223372036854775807 := by
  have w0 := w
  cases w with
  | bool h => rw [ht] at h; cases h
  | string h _ => rw [ht] at h; cases h
  | int h _ => rw [ht] at h; cases h
  | slice h hls hl hn hc =>
    rw [ht] at h
    cases h
    rename_i fuel ls cs n
    obtain rfl := leaves_one hle hls
    obtain ⟨L, hL, rfl⟩ := groups (α := { x : Out // x.c.length ≤ 9223372036854775807 }) (f := fun x => outC x.1) (ls := [u, tc]) (by simp) (fun _ => rfl) (fun cs h1 h2 => by
      obtain ⟨a0, a1, rfl⟩ : ∃ a0 a1, cs = [a0, a1] := by
        match cs, h1 with
        | [a0, a1], _ => exact ⟨a0, a1, rfl⟩
      obtain ⟨m, e0⟩ := u8_of hu (h2 0 a0 u rfl rfl)
      have w1 := h2 1 a1 tc rfl rfl
      obtain ⟨M, hM⟩ := coins_of htc hlc hb hun w1
      subst hM
      exact ⟨⟨⟨m, M⟩, wc_len w1⟩, by rw [e0]; rfl⟩) n cs hl hc
    refine ⟨L.map Subtype.val, ?_, by rw [List.length_map, hL]; exact hn, fun x hx => ?_⟩
    · rw [List.length_map, hL]
      show AV.sl 2 _ n .shut = _
      congr 1
      simp [outsC]
    · obtain ⟨y, _, rfl⟩ := List.mem_map.1 hx
      exact y.2

set_option maxHeartbeats 1000000 in
theorem msg_of {P : Program} {tk u tc to tp eo e ec tb un u16 tbo : TypeId} {k k2 k3 : Nat} {l : List AV} (h1 : l.length = [tk, tk, u, tc, tk, tk, tk, un, un, un, un, tc, to, tk, u, u, tc, tp, u, u16, tbo].length) (h2 : ∀ (j : Nat) a v, l[j]? = some a → [tk, tk, u, tc, tk, tk, tk, un, un, un, un, tc, to, tk, u, u, tc, tp, u, u16, tbo][j]? = some v → WC P v a)
    (hk : P.underlying tk = some (.int .u8)) (hu : P.underlying u = some (.int .u64)) (h16 : P.underlying u16 = some (.int .u16)) (hbo : P.underlying tbo = some .bool) (hb : P.underlying tb = some (.int .u8)) (hun : P.underlying un = some (.int .u64))
    (htc : P.underlying tc = some (.slice ec)) (hlc : leaves P k2 ec = some [tb, un, un, un, un]) (htp : P.underlying tp = some (.slice e)) (hle : leaves P k e = some [u, tc]) (hto : P.underlying to = some (.slice eo)) (hlo : leaves P k3 eo = some [tk, tc]) : ∃ m : Msg, l = msgC m ∧ m.Ok := by
  match l, h1, h2 with
  | [a0, a1, a2, a3, a4, a5, a6, a7, a8, a9, a10, a11, a12, a13, a14, a15, a16, a17, a18, a19, a20], _, h2 =>
    obtain ⟨b0, rfl⟩ := u8_of hk (h2 0 a0 _ rfl rfl)
    obtain ⟨b1, rfl⟩ := u8_of hk (h2 1 a1 _ rfl rfl)
    obtain ⟨n2, q2, rfl⟩ := u64_of' hu (h2 2 a2 _ rfl rfl)
    have w3 := h2 3 a3 _ rfl rfl
    obtain ⟨M3, rfl⟩ := coins_of htc hlc hb hun w3
    obtain ⟨b4, rfl⟩ := u8_of hk (h2 4 a4 _ rfl rfl)
    obtain ⟨b5, rfl⟩ := u8_of hk (h2 5 a5 _ rfl rfl)
    obtain ⟨b6, rfl⟩ := u8_of hk (h2 6 a6 _ rfl rfl)
    obtain ⟨x7, hx⟩ := num_of hun (h2 7 a7 _ rfl rfl) (h2 8 a8 _ rfl rfl) (h2 9 a9 _ rfl rfl) (h2 10 a10 _ rfl rfl)
    have w11 := h2 11 a11 _ rfl rfl
    obtain ⟨M11, rfl⟩ := coins_of htc hlc hb hun w11
    obtain ⟨O12, rfl, q12, r12⟩ := outs_of hto hlo hk hb hun htc hlc (h2 12 a12 _ rfl rfl)
    obtain ⟨b13, rfl⟩ := u8_of hk (h2 13 a13 _ rfl rfl)
    obtain ⟨n14, q14, rfl⟩ := u64_of' hu (h2 14 a14 _ rfl rfl)
    obtain ⟨n15, q15, rfl⟩ := u64_of' hu (h2 15 a15 _ rfl rfl)
    have w16 := h2 16 a16 _ rfl rfl
    obtain ⟨M16, rfl⟩ := coins_of htc hlc hb hun w16
    obtain ⟨P17, rfl, q17, r17⟩ := pers_of htp hle hu hb hun htc hlc (h2 17 a17 _ rfl rfl)
    obtain ⟨n18, q18, rfl⟩ := u64_of' hu (h2 18 a18 _ rfl rfl)
    obtain ⟨n19, q19, rfl⟩ := u16_of h16 (h2 19 a19 _ rfl rfl)
    obtain ⟨b20, rfl⟩ := bool_of hbo (h2 20 a20 _ rfl rfl)
    simp only [numA, List.cons.injEq, and_true] at hx
    obtain ⟨rfl, rfl, rfl, rfl⟩ := hx
    exact ⟨⟨b0, b1, n2, M3, b4, b5, b6, x7, M11, O12, ⟨b13, n14, n15, M16, P17⟩, n18, n19, b20⟩, rfl, q2, wc_len w3, wc_len w11, q12, r12, ⟨q14, q15, wc_len w16, q17, r17⟩, q18, q19⟩

theorem msg_arg {P : Program} {n k k2 k3 : Nat} {t tk u tc to tp eo e ec tb un u16 tbo : TypeId} {H : Type} {enc : TypeId × Value → H} {W : World} {spare : Nat → Bool} {cs : Array Value} {d : DataW H} {ps : List MemPlace} (hl : leaves P n t = some [tk, tk, u, tc, tk, tk, tk, un, un, un, un, tc, to, tk, u, u, tc, tp, u, u16, tbo])
    (hk : P.underlying tk = some (.int .u8)) (hu : P.underlying u = some (.int .u64)) (h16 : P.underlying u16 = some (.int .u16)) (hbo : P.underlying tbo = some .bool) (hb : P.underlying tb = some (.int .u8)) (hun : P.underlying un = some (.int .u64))
    (htc : P.underlying tc = some (.slice ec)) (hlc : leaves P k2 ec = some [tb, un, un, un, un]) (htp : P.underlying tp = some (.slice e)) (hle : leaves P k e = some [u, tc]) (hto : P.underlying to = some (.slice eo)) (hlo : leaves P k3 eo = some [tk, tc])
    (h : DataW.Trod enc P W 0 spare true t (.agg cs) d ps) : ∃ m : Msg, m.Ok ∧ AVR (atFirst W) W (.agg cs) (.agg (msgC m)) := by
  obtain ⟨l, h1, h2, h3, h4⟩ := open_arg hl h
  have hc : Value.cells (.agg cs) = cs := rfl
  rw [hc] at h2 h3
  obtain ⟨m, rfl, hm⟩ := msg_of h1 h4 hk hu h16 hbo hb hun htc hlc htp hle hto hlo
  exact ⟨m, hm, .agg h2 h3⟩
end Go.Vm
