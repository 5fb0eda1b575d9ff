import Derived.Test.YtdbaddholggkbaaZ7
import Derived.Test.YtdbaddholggkbaaZ15
import Derived.Test.YtdbaddholggkbaaZ12
import Derived.Test.YtdbaddholggkbaaZ13
import Derived.Test.YtdbaddholggkbaaZ14
/-
  A message is read..
-/
namespace Go.Proofs.Ytdbaddholggkbaa
set_option linter.unnecessarySimpa false
set_option maxRecDepth 100000
open Go Go.Vm
set_option linter.unusedSimpArgs false
set_option linter.unusedVariables false
attribute [local simp] evalL wantedA isCall opA evalA evalAll evalsA evalOpt ofValue ofCell plain binA_eql_pn binA_neq_pn binA_gtr binA_lss binA_geq binA_leq binA_add binA_sub binA_eql binA_neq binA_orI binA_shl binA_shr binA_mul binA_quo binA_rem binA_agg_eql binA_agg_neq convA_int unA_not fieldAddrA loadA partA pickA_true pickA_false pickA_bb lenA builtinA storeA splice AV.cells AV.isCell sliceA boundA intA callOf indexAddrA newObjA buildA fillA zeroA ofCells buildSliceA indexA fieldA numA_len4 numA_take4 numA_drop4 set_appN get_appN take_appN List.getElem?_cons_zero List.getElem?_cons_succ makeA zeros64

def outS (s : Option (List UInt8)) : Out := ⟨byteS s, coinsL (takeS 1 s)⟩
def outT (s : Option (List UInt8)) : Option (List UInt8) := coinsS (takeS 1 s)
def outsGo : Nat → Option (List UInt8) → List Out → List Out × Option (List UInt8)
  | 0, s, l => (l, s)
  | _ + 1, none, l => (l, none)
  | m + 1, some p, l => outsGo m (outT (some p)) (l ++ [outS (some p)])
theorem outsGo_more {m : Nat} {s : Option (List UInt8)} {l : List Out} (hm : 0 < m) (hs : ¬ s = none) : outsGo m s l = outsGo (m - 1) (outT s) (l ++ [outS s]) := by
  match m, s, hm, hs with
  | m + 1, some p, _, _ => rfl
theorem outsGo_stop {m : Nat} {s : Option (List UInt8)} {l : List Out} (h : m = 0 ∨ s = none) : outsGo m s l = (l, s) := by
  match m, s, h with
  | 0, _, _ => rfl
  | m + 1, none, _ => rfl
def outsR (s : Option (List UInt8)) : List Out × Option (List UInt8) := outsGo (be (takeB 1 s)) (takeS 1 s) []
def stE (k : UInt8) (s : Option (List UInt8)) : Option (List UInt8) := bif hB k 1024 then s else coinsS (takeS 8 (takeS 1 s))
def stT (k : UInt8) (s : Option (List UInt8)) : Option (List UInt8) := bif hB k 1 then takeS 1 (stE k s) else stE k s
def stV (k : UInt8) (s : Option (List UInt8)) : Option (List UInt8) := bif hB k 2 then takeS 1 (stT k s) else stT k s
def stO (k : UInt8) (s : Option (List UInt8)) : Option (List UInt8) := bif hB k 4 then takeS 1 (stV k s) else stV k s
def stN (k : UInt8) (s : Option (List UInt8)) : Option (List UInt8) := bif hB k 8 then numS (stO k s) else stO k s
def stC (k : UInt8) (s : Option (List UInt8)) : Option (List UInt8) := bif hB k 16 then coinsS (stN k s) else stN k s
def stU (k : UInt8) (s : Option (List UInt8)) : Option (List UInt8) := bif hB k 32 then (outsR (stC k s)).2 else stC k s
def stP (k : UInt8) (s : Option (List UInt8)) : Option (List UInt8) := bif hB k 64 then takeT (stU k s) else stU k s
def stM (k : UInt8) (s : Option (List UInt8)) : Option (List UInt8) := bif hB k 128 then takeS 8 (stP k s) else stP k s
def stQ (k : UInt8) (s : Option (List UInt8)) : Option (List UInt8) := bif hB k 256 then takeS 2 (stM k s) else stM k s
def stJ (k : UInt8) (s : Option (List UInt8)) : Option (List UInt8) := bif hB k 512 then flagS (stQ k s) else stQ k s
def msgR (k : UInt8) (s : Option (List UInt8)) : Msg := ⟨k, bif hB k 1024 then 0 else byteS s, bif hB k 1024 then 0 else be (takeB 8 (takeS 1 s)), bif hB k 1024 then [] else coinsL (takeS 8 (takeS 1 s)),
  bif hB k 1 then byteS (stE k s) else 0, bif hB k 2 then byteS (stT k s) else 0, bif hB k 4 then byteS (stV k s) else 0, bif hB k 8 then numN (stO k s) else ⟨0, by decide⟩,
  bif hB k 16 then coinsL (stN k s) else [], bif hB k 32 then (outsR (stC k s)).1 else [], bif hB k 64 then takeP (stU k s) else ⟨0, 0, 0, [], []⟩,
  bif hB k 128 then be (takeB 8 (stP k s)) else 0, bif hB k 256 then be (takeB 2 (stM k s)) else 0, hB k 512 && (be (takeB 1 (stQ k s)) == 1)⟩

theorem onil0 {L : List Out} (h : posB L.length = false) : outsC L = [] ∧ L.length = 0 := by
  have h0 := posB_no h
  have : L = [] := List.length_eq_zero_iff.1 h0
  subst this
  exact ⟨rfl, rfl⟩

structure RSt where
  m : Nat
  s : Option (List UInt8)
  l : List Out

set_option maxHeartbeats 1600000 in
attribute [local simp] undefA List.getElem?_cons_zero List.getElem?_cons_succ outsC_noObj persC_noObj plnC in
theorem read_raw {O : List (List AV)} {tk : List Nat} {gl : Nat → Option (List AV)} {rows : List RowSt} {id1 id2 : Nat} {x1 : UInt8} {s : Option (List UInt8)} (i1 : id1 < O.length) (i2 : id2 < O.length) (hne : id1 ≠ id2) :
    CallsA Try.prog 106 [.ptr id1 0, .ptr id2 0, .v (.int .i64 (hasN x1 : Nat))] { objs := (O.set id1 (rd s)).set id2 [.v (.int .u8 x1.toNat), .v (.int .u8 0), .v (.int .u64 0), .sl 0 [] 0 .full, .v (.int .u8 0), .v (.int .u8 0), .v (.int .u8 0), .v (.int .u64 0), .v (.int .u64 0), .v (.int .u64 0), .v (.int .u64 0), .sl 0 [] 0 .full, .sl 0 [] 0 .full, .v (.int .u8 0), .v (.int .u64 0), .v (.int .u64 0), .sl 0 [] 0 .full, .sl 0 [] 0 .full, .v (.int .u64 0), .v (.int .u16 0), .v (.bool false)], toks := tk, gl := gl, rows := rows }
      (fun av σ' => av = .tup [] ∧ ∃ X T, WkL X (msgC (msgR x1 s)) ∧ X.all AV.isCell = true ∧ σ' = { objs := (O.set id1 (rd (stJ x1 s))).set id2 X, toks := tk ++ T, gl := gl, rows := rows }) := by
  obtain ⟨h, hh⟩ : ∃ h, h = hasN x1 := ⟨_, rfl⟩
  have hlt : h < 4096 := by rw [hh]; exact hasN_lt _
  obtain ⟨eE, heE⟩ : ∃ e, e = h &&& 1024 := ⟨_, rfl⟩
  have handE : ∀ xo yo, binA Try.prog .and 3 xo yo (.v (.int .i64 (h : Nat))) (.v (.int .i64 1024)) = some (.v (.int .i64 (eE : Nat))) := fun xo yo => by rw [heE]; exact binA_andN _ xo yo hlt (by decide)
  obtain ⟨bE, hbE⟩ : ∃ b, b = hB x1 1024 := ⟨_, rfl⟩
  have hneE : (((eE : Nat) : Int) != 0) = bE := by rw [hbE, hB, ← hh, ← heE]; simp [bne, Int.natCast_eq_zero]; rw [Bool.eq_iff_iff]; simp
  obtain ⟨eT, heT⟩ : ∃ e, e = h &&& 1 := ⟨_, rfl⟩
  have handT : ∀ xo yo, binA Try.prog .and 3 xo yo (.v (.int .i64 (h : Nat))) (.v (.int .i64 1)) = some (.v (.int .i64 (eT : Nat))) := fun xo yo => by rw [heT]; exact binA_andN _ xo yo hlt (by decide)
  obtain ⟨bT, hbT⟩ : ∃ b, b = hB x1 1 := ⟨_, rfl⟩
  have hneT : (((eT : Nat) : Int) != 0) = bT := by rw [hbT, hB, ← hh, ← heT]; simp [bne, Int.natCast_eq_zero]; rw [Bool.eq_iff_iff]; simp
  obtain ⟨eV, heV⟩ : ∃ e, e = h &&& 2 := ⟨_, rfl⟩
  have handV : ∀ xo yo, binA Try.prog .and 3 xo yo (.v (.int .i64 (h : Nat))) (.v (.int .i64 2)) = some (.v (.int .i64 (eV : Nat))) := fun xo yo => by rw [heV]; exact binA_andN _ xo yo hlt (by decide)
  obtain ⟨bV, hbV⟩ : ∃ b, b = hB x1 2 := ⟨_, rfl⟩
  have hneV : (((eV : Nat) : Int) != 0) = bV := by rw [hbV, hB, ← hh, ← heV]; simp [bne, Int.natCast_eq_zero]; rw [Bool.eq_iff_iff]; simp
  obtain ⟨eO, heO⟩ : ∃ e, e = h &&& 4 := ⟨_, rfl⟩
  have handO : ∀ xo yo, binA Try.prog .and 3 xo yo (.v (.int .i64 (h : Nat))) (.v (.int .i64 4)) = some (.v (.int .i64 (eO : Nat))) := fun xo yo => by rw [heO]; exact binA_andN _ xo yo hlt (by decide)
  obtain ⟨bO, hbO⟩ : ∃ b, b = hB x1 4 := ⟨_, rfl⟩
  have hneO : (((eO : Nat) : Int) != 0) = bO := by rw [hbO, hB, ← hh, ← heO]; simp [bne, Int.natCast_eq_zero]; rw [Bool.eq_iff_iff]; simp
  obtain ⟨eN, heN⟩ : ∃ e, e = h &&& 8 := ⟨_, rfl⟩
  have handN : ∀ xo yo, binA Try.prog .and 3 xo yo (.v (.int .i64 (h : Nat))) (.v (.int .i64 8)) = some (.v (.int .i64 (eN : Nat))) := fun xo yo => by rw [heN]; exact binA_andN _ xo yo hlt (by decide)
  obtain ⟨bN, hbN⟩ : ∃ b, b = hB x1 8 := ⟨_, rfl⟩
  have hneN : (((eN : Nat) : Int) != 0) = bN := by rw [hbN, hB, ← hh, ← heN]; simp [bne, Int.natCast_eq_zero]; rw [Bool.eq_iff_iff]; simp
  obtain ⟨eC, heC⟩ : ∃ e, e = h &&& 16 := ⟨_, rfl⟩
  have handC : ∀ xo yo, binA Try.prog .and 3 xo yo (.v (.int .i64 (h : Nat))) (.v (.int .i64 16)) = some (.v (.int .i64 (eC : Nat))) := fun xo yo => by rw [heC]; exact binA_andN _ xo yo hlt (by decide)
  obtain ⟨bC, hbC⟩ : ∃ b, b = hB x1 16 := ⟨_, rfl⟩
  have hneC : (((eC : Nat) : Int) != 0) = bC := by rw [hbC, hB, ← hh, ← heC]; simp [bne, Int.natCast_eq_zero]; rw [Bool.eq_iff_iff]; simp
  obtain ⟨eU, heU⟩ : ∃ e, e = h &&& 32 := ⟨_, rfl⟩
  have handU : ∀ xo yo, binA Try.prog .and 3 xo yo (.v (.int .i64 (h : Nat))) (.v (.int .i64 32)) = some (.v (.int .i64 (eU : Nat))) := fun xo yo => by rw [heU]; exact binA_andN _ xo yo hlt (by decide)
  obtain ⟨bU, hbU⟩ : ∃ b, b = hB x1 32 := ⟨_, rfl⟩
  have hneU : (((eU : Nat) : Int) != 0) = bU := by rw [hbU, hB, ← hh, ← heU]; simp [bne, Int.natCast_eq_zero]; rw [Bool.eq_iff_iff]; simp
  obtain ⟨eP, heP⟩ : ∃ e, e = h &&& 64 := ⟨_, rfl⟩
  have handP : ∀ xo yo, binA Try.prog .and 3 xo yo (.v (.int .i64 (h : Nat))) (.v (.int .i64 64)) = some (.v (.int .i64 (eP : Nat))) := fun xo yo => by rw [heP]; exact binA_andN _ xo yo hlt (by decide)
  obtain ⟨bP, hbP⟩ : ∃ b, b = hB x1 64 := ⟨_, rfl⟩
  have hneP : (((eP : Nat) : Int) != 0) = bP := by rw [hbP, hB, ← hh, ← heP]; simp [bne, Int.natCast_eq_zero]; rw [Bool.eq_iff_iff]; simp
  obtain ⟨eM, heM⟩ : ∃ e, e = h &&& 128 := ⟨_, rfl⟩
  have handM : ∀ xo yo, binA Try.prog .and 3 xo yo (.v (.int .i64 (h : Nat))) (.v (.int .i64 128)) = some (.v (.int .i64 (eM : Nat))) := fun xo yo => by rw [heM]; exact binA_andN _ xo yo hlt (by decide)
  obtain ⟨bM, hbM⟩ : ∃ b, b = hB x1 128 := ⟨_, rfl⟩
  have hneM : (((eM : Nat) : Int) != 0) = bM := by rw [hbM, hB, ← hh, ← heM]; simp [bne, Int.natCast_eq_zero]; rw [Bool.eq_iff_iff]; simp
  obtain ⟨eQ, heQ⟩ : ∃ e, e = h &&& 256 := ⟨_, rfl⟩
  have handQ : ∀ xo yo, binA Try.prog .and 3 xo yo (.v (.int .i64 (h : Nat))) (.v (.int .i64 256)) = some (.v (.int .i64 (eQ : Nat))) := fun xo yo => by rw [heQ]; exact binA_andN _ xo yo hlt (by decide)
  obtain ⟨bQ, hbQ⟩ : ∃ b, b = hB x1 256 := ⟨_, rfl⟩
  have hneQ : (((eQ : Nat) : Int) != 0) = bQ := by rw [hbQ, hB, ← hh, ← heQ]; simp [bne, Int.natCast_eq_zero]; rw [Bool.eq_iff_iff]; simp
  obtain ⟨eJ, heJ⟩ : ∃ e, e = h &&& 512 := ⟨_, rfl⟩
  have handJ : ∀ xo yo, binA Try.prog .and 3 xo yo (.v (.int .i64 (h : Nat))) (.v (.int .i64 512)) = some (.v (.int .i64 (eJ : Nat))) := fun xo yo => by rw [heJ]; exact binA_andN _ xo yo hlt (by decide)
  obtain ⟨bJ, hbJ⟩ : ∃ b, b = hB x1 512 := ⟨_, rfl⟩
  have hneJ : (((eJ : Nat) : Int) != 0) = bJ := by rw [hbJ, hB, ← hh, ← heJ]; simp [bne, Int.natCast_eq_zero]; rw [Bool.eq_iff_iff]; simp
  have heqE : (((eE : Nat) : Int) == 0) = !bE := by rw [← hneE]; simp [bne]
  rw [← hh]
  obtain ⟨SE, hSE⟩ : ∃ S, S = bif bE then s else coinsS (takeS 8 (takeS 1 s)) := ⟨_, rfl⟩
  obtain ⟨ST, hST⟩ : ∃ S, S = bif bT then takeS 1 SE else SE := ⟨_, rfl⟩
  obtain ⟨SV, hSV⟩ : ∃ S, S = bif bV then takeS 1 ST else ST := ⟨_, rfl⟩
  obtain ⟨SO, hSO⟩ : ∃ S, S = bif bO then takeS 1 SV else SV := ⟨_, rfl⟩
  obtain ⟨SN, hSN⟩ : ∃ S, S = bif bN then numS SO else SO := ⟨_, rfl⟩
  obtain ⟨SC, hSC⟩ : ∃ S, S = bif bC then coinsS SN else SN := ⟨_, rfl⟩
  obtain ⟨SU, hSU⟩ : ∃ S, S = bif bU then (outsR SC).2 else SC := ⟨_, rfl⟩
  obtain ⟨SP, hSP⟩ : ∃ S, S = bif bP then takeT SU else SU := ⟨_, rfl⟩
  obtain ⟨SM, hSM⟩ : ∃ S, S = bif bM then takeS 8 SP else SP := ⟨_, rfl⟩
  obtain ⟨SQ, hSQ⟩ : ∃ S, S = bif bQ then takeS 2 SM else SM := ⟨_, rfl⟩
  obtain ⟨SJ, hSJ⟩ : ∃ S, S = bif bJ then flagS SQ else SQ := ⟨_, rfl⟩
  obtain ⟨LU, hLU⟩ : ∃ L, L = bif bU then (outsR SC).1 else [] := ⟨_, rfl⟩
  obtain ⟨P, hP⟩ : ∃ P, P = takeP SU := ⟨_, rfl⟩
  have hptk : ∀ {τ : St} {id : Nat}, τ.objs[id]? = some (rd SU) → CallsA Try.prog 34 [.ptr id 0] τ (fun av σ' => av = .agg (plnC P) ∧ σ' = { τ with objs := τ.objs.set id (rd (takeT SU)) }) := fun h => by rw [hP]; exact ptake_ok h
  have hfin : stJ x1 s = SJ := by rw [hSJ, hSQ, hSM, hSP, hSU, hSC, hSN, hSO, hSV, hST, hSE]; simp only [stJ, stQ, stM, stP, stU, stC, stN, stO, stV, stT, stE, ← hbE, ← hbT, ← hbV, ← hbO, ← hbN, ← hbC, ← hbU, ← hbP, ← hbM, ← hbQ, ← hbJ]
  have eE : stE x1 s = SE := by rw [hSE]; simp only [stE, ← hbE]
  have eT : stT x1 s = ST := by rw [hST]; simp only [stT, eE, ← hbT]
  have eV : stV x1 s = SV := by rw [hSV]; simp only [stV, eT, ← hbV]
  have eO : stO x1 s = SO := by rw [hSO]; simp only [stO, eV, ← hbO]
  have eN : stN x1 s = SN := by rw [hSN]; simp only [stN, eO, ← hbN]
  have eC : stC x1 s = SC := by rw [hSC]; simp only [stC, eN, ← hbC]
  have eU : stU x1 s = SU := by rw [hSU]; simp only [stU, eC, ← hbU]
  have eP : stP x1 s = SP := by rw [hSP]; simp only [stP, eU, ← hbP]
  have eM : stM x1 s = SM := by rw [hSM]; simp only [stM, eP, ← hbM]
  have eQ : stQ x1 s = SQ := by rw [hSQ]; simp only [stQ, eM, ← hbQ]
  rw [hfin]
  obtain ⟨Pk, Ps, Pe, Pt, Pq⟩ := P
  have hW : WkL [.v (.int .u8 x1.toNat), .v (.int .u8 (bif bE then 0 else be (takeB 1 s) : Nat)), .v (.int .u64 (bif bE then 0 else be (takeB 8 (takeS 1 s)) : Nat)), allA (!bE) (coinsL (takeS 8 (takeS 1 s))), .v (.int .u8 (bif bT then be (takeB 1 SE) else 0 : Nat)), .v (.int .u8 (bif bV then be (takeB 1 ST) else 0 : Nat)), .v (.int .u8 (bif bO then be (takeB 1 SV) else 0 : Nat)), .v (.int .u64 (limb (bif bN then numOf (numB SO) else 0 : Nat) 0)), .v (.int .u64 (limb (bif bN then numOf (numB SO) else 0 : Nat) 1)), .v (.int .u64 (limb (bif bN then numOf (numB SO) else 0 : Nat) 2)), .v (.int .u64 (limb (bif bN then numOf (numB SO) else 0 : Nat) 3)), allA bC (coinsL SN), grA tk.length 2 (posB LU.length) (outsC LU) LU.length, .v (.int .u8 (bif bP then Pk else 0 : UInt8).toNat), .v (.int .u64 (bif bP then Ps else 0 : Nat)), .v (.int .u64 (bif bP then Pe else 0 : Nat)), allA bP Pt, perA bP Pq, .v (.int .u64 (bif bM then be (takeB 8 SP) else 0 : Nat)), .v (.int .u16 (bif bQ then be (takeB 2 SM) else 0 : Nat)), .v (.bool (bJ && (be (takeB 1 SQ) == 1)))] (msgC (msgR x1 s)) := by
    simp only [msgC, msgR, eE, eT, eV, eO, eN, eC, eU, eP, eM, eQ, ← hbE, ← hbT, ← hbV, ← hbO, ← hbN, ← hbC, ← hbU, ← hbP, ← hbM, ← hbQ, ← hbJ, ← hLU, ← hP]
    refine .cons (Wk.refl _) (.cons (wk_eq ?_) (.cons (wk_eq ?_) (.cons (wk_all ?_) (.cons (wk_eq ?_) (.cons (wk_eq ?_) (.cons (wk_eq ?_) (.cons (wk_eq ?_) (.cons (wk_eq ?_) (.cons (wk_eq ?_) (.cons (wk_eq ?_) (.cons (wk_all ?_) (.cons (wk_grA onil0) (.cons (wk_eq ?_) (.cons (wk_eq ?_) (.cons (wk_eq ?_) (.cons (wk_all ?_) (.cons (wk_per ?_) (.cons (wk_eq ?_) (.cons (wk_eq ?_) (.cons (wk_eq ?_) .nil))))))))))))))))))))
    all_goals first | rfl | (cases bE <;> simp [be_byteS]; done) | (cases bE <;> rfl) | (cases bT <;> simp [be_byteS]; done) | (cases bV <;> simp [be_byteS]; done) | (cases bO <;> simp [be_byteS]; done) | (cases bN <;> rfl) | (cases bP <;> rfl) | (cases bM <;> rfl) | (cases bQ <;> rfl)
  clear hfin hP eE eT eV eO eN eC eU eP eM eQ hh hbE hbT hbV hbO hbN hbC hbU hbP hbM hbQ hbJ heE heT heV heO heN heC heU heP heM heQ heJ
  have ic1 : ∀ (b : Bool) (l : List Coin), (allA b l).isCell = true := fun b l => by cases b <;> rfl
  have ic3 : ∀ (b : Bool) (l : List Per), (perA b l).isCell = true := fun b l => by cases b <;> rfl
  have ic4 : ∀ (k : Nat) (b : Bool) (cs : List AV) (n : Nat), (grA k 2 b cs n).isCell = true := fun k b cs n => by cases b <;> rfl
  have hcell : ([.v (.int .u8 x1.toNat), .v (.int .u8 (bif bE then 0 else be (takeB 1 s) : Nat)), .v (.int .u64 (bif bE then 0 else be (takeB 8 (takeS 1 s)) : Nat)), allA (!bE) (coinsL (takeS 8 (takeS 1 s))), .v (.int .u8 (bif bT then be (takeB 1 SE) else 0 : Nat)), .v (.int .u8 (bif bV then be (takeB 1 ST) else 0 : Nat)), .v (.int .u8 (bif bO then be (takeB 1 SV) else 0 : Nat)), .v (.int .u64 (limb (bif bN then numOf (numB SO) else 0 : Nat) 0)), .v (.int .u64 (limb (bif bN then numOf (numB SO) else 0 : Nat) 1)), .v (.int .u64 (limb (bif bN then numOf (numB SO) else 0 : Nat) 2)), .v (.int .u64 (limb (bif bN then numOf (numB SO) else 0 : Nat) 3)), allA bC (coinsL SN), grA tk.length 2 (posB LU.length) (outsC LU) LU.length, .v (.int .u8 (bif bP then Pk else 0 : UInt8).toNat), .v (.int .u64 (bif bP then Ps else 0 : Nat)), .v (.int .u64 (bif bP then Pe else 0 : Nat)), allA bP Pt, perA bP Pq, .v (.int .u64 (bif bM then be (takeB 8 SP) else 0 : Nat)), .v (.int .u16 (bif bQ then be (takeB 2 SM) else 0 : Nat)), .v (.bool (bJ && (be (takeB 1 SQ) == 1)))]).all AV.isCell = true := by simp only [List.all_cons, List.all_nil, ic1, ic3, ic4, Bool.and_true, Bool.true_and]; rfl
  simp only [AV.isCell] at ic1 ic3 ic4
  have hl0 : ∀ i, limb 0 i = 0 := by intro i; simp [limb]
  have g1 : ∀ a b, ((O.set id1 a).set id2 b)[id1]? = some a := fun a b => by rw [List.getElem?_set_ne (Ne.symm hne)]; simp [i1]
  have g2 : ∀ a b, ((O.set id1 a).set id2 b)[id2]? = some b := fun a b => by simp [i2]
  have s1 : ∀ a b a', ((O.set id1 a).set id2 b).set id1 a' = (O.set id1 a').set id2 b := fun a b a' => by rw [List.set_comm _ _ (Ne.symm hne), List.set_set]
  have s2 : ∀ a b b', ((O.set id1 a).set id2 b).set id2 b' = (O.set id1 a).set id2 b' := fun a b b' => by rw [List.set_set]
  have hdr : ∀ f : Nat → AV, List.drop 2 (List.map f (List.range 2)) = [] := fun _ => rfl
  have hm1 := be_lt1 (takeB_len 1 SC)
  have hnA : numA (numOf (numB SO)) = [.v (.int .u64 (limb (numOf (numB SO)) 0)), .v (.int .u64 (limb (numOf (numB SO)) 1)), .v (.int .u64 (limb (numOf (numB SO)) 2)), .v (.int .u64 (limb (numOf (numB SO)) 3))] := rfl
  have F := And.intro g1 (And.intro g2 (And.intro s1 (And.intro s2 (And.intro hl0 (And.intro ic1 (And.intro ic3 (And.intro ic4 (And.intro hdr (And.intro handE (And.intro handT (And.intro handV (And.intro handO (And.intro handN (And.intro handC (And.intro handU (And.intro handP (And.intro handM (And.intro handQ (And.intro handJ (And.intro hneE (And.intro hneT (And.intro hneV (And.intro hneO (And.intro hneN (And.intro hneC (And.intro hneU (And.intro hneP (And.intro hneM (And.intro hneQ (And.intro hneJ (And.intro heqE (True.intro))))))))))))))))))))))))))))))))
  refine callsA_body Try.func106 rfl rfl rfl ?_; refine sqc (X := Unit) [0, 1, 2] (fun z ρ σ1 => (σ1 = { objs := (O.set id1 (rd SE)).set id2 [.v (.int .u8 x1.toNat), .v (.int .u8 (bif bE then 0 else be (takeB 1 s) : Nat)), .v (.int .u64 (bif bE then 0 else be (takeB 8 (takeS 1 s)) : Nat)), allA (!bE) (coinsL (takeS 8 (takeS 1 s))), .v (.int .u8 0), .v (.int .u8 0), .v (.int .u8 0), .v (.int .u64 0), .v (.int .u64 0), .v (.int .u64 0), .v (.int .u64 0), .sl 0 [] 0 .full, .sl 0 [] 0 .full, .v (.int .u8 0), .v (.int .u64 0), .v (.int .u64 0), .sl 0 [] 0 .full, .sl 0 [] 0 .full, .v (.int .u64 0), .v (.int .u16 0), .v (.bool false)], toks := tk, gl := gl, rows := rows })) ?cy1 ?cx1
  case cy1 =>
   rintro z ρCc9 σ1 hFCc9 hσ; obtain rfl := hσ.symm
   have fCc9 := keepL hFCc9
   (try simp [KeepL, F] at fCc9); (try replace F := aF fCc9 F); refine sqc (X := Unit) [0, 1, 2] (fun z ρ σ1 => (σ1 = { objs := (O.set id1 (rd ST)).set id2 [.v (.int .u8 x1.toNat), .v (.int .u8 (bif bE then 0 else be (takeB 1 s) : Nat)), .v (.int .u64 (bif bE then 0 else be (takeB 8 (takeS 1 s)) : Nat)), allA (!bE) (coinsL (takeS 8 (takeS 1 s))), .v (.int .u8 (bif bT then be (takeB 1 SE) else 0 : Nat)), .v (.int .u8 0), .v (.int .u8 0), .v (.int .u64 0), .v (.int .u64 0), .v (.int .u64 0), .v (.int .u64 0), .sl 0 [] 0 .full, .sl 0 [] 0 .full, .v (.int .u8 0), .v (.int .u64 0), .v (.int .u64 0), .sl 0 [] 0 .full, .sl 0 [] 0 .full, .v (.int .u64 0), .v (.int .u16 0), .v (.bool false)], toks := tk, gl := gl, rows := rows })) ?cy2 ?cx2
   case cy2 =>
    rintro z ρCc27 σ1 hFCc27 hσ; obtain rfl := hσ.symm
    have fCc27 := keepL hFCc27
    (try simp [KeepL, F] at fCc27); (try replace F := aF fCc27 F); refine sqc (X := Unit) [0, 1, 2] (fun z ρ σ1 => (σ1 = { objs := (O.set id1 (rd SV)).set id2 [.v (.int .u8 x1.toNat), .v (.int .u8 (bif bE then 0 else be (takeB 1 s) : Nat)), .v (.int .u64 (bif bE then 0 else be (takeB 8 (takeS 1 s)) : Nat)), allA (!bE) (coinsL (takeS 8 (takeS 1 s))), .v (.int .u8 (bif bT then be (takeB 1 SE) else 0 : Nat)), .v (.int .u8 (bif bV then be (takeB 1 ST) else 0 : Nat)), .v (.int .u8 0), .v (.int .u64 0), .v (.int .u64 0), .v (.int .u64 0), .v (.int .u64 0), .sl 0 [] 0 .full, .sl 0 [] 0 .full, .v (.int .u8 0), .v (.int .u64 0), .v (.int .u64 0), .sl 0 [] 0 .full, .sl 0 [] 0 .full, .v (.int .u64 0), .v (.int .u16 0), .v (.bool false)], toks := tk, gl := gl, rows := rows })) ?cy3 ?cx3
    case cy3 =>
     rintro z ρCc35 σ1 hFCc35 hσ; obtain rfl := hσ.symm
     have fCc35 := keepL hFCc35
     (try simp [KeepL, F] at fCc35); (try replace F := aF fCc35 F); refine sqc (X := Unit) [0, 1, 2] (fun z ρ σ1 => (σ1 = { objs := (O.set id1 (rd SO)).set id2 [.v (.int .u8 x1.toNat), .v (.int .u8 (bif bE then 0 else be (takeB 1 s) : Nat)), .v (.int .u64 (bif bE then 0 else be (takeB 8 (takeS 1 s)) : Nat)), allA (!bE) (coinsL (takeS 8 (takeS 1 s))), .v (.int .u8 (bif bT then be (takeB 1 SE) else 0 : Nat)), .v (.int .u8 (bif bV then be (takeB 1 ST) else 0 : Nat)), .v (.int .u8 (bif bO then be (takeB 1 SV) else 0 : Nat)), .v (.int .u64 0), .v (.int .u64 0), .v (.int .u64 0), .v (.int .u64 0), .sl 0 [] 0 .full, .sl 0 [] 0 .full, .v (.int .u8 0), .v (.int .u64 0), .v (.int .u64 0), .sl 0 [] 0 .full, .sl 0 [] 0 .full, .v (.int .u64 0), .v (.int .u16 0), .v (.bool false)], toks := tk, gl := gl, rows := rows })) ?cy4 ?cx4
     case cy4 =>
      rintro z ρCc43 σ1 hFCc43 hσ; obtain rfl := hσ.symm
      have fCc43 := keepL hFCc43
      (try simp [KeepL, F] at fCc43); (try replace F := aF fCc43 F); refine sqc (X := Unit) [0, 1, 2] (fun z ρ σ1 => (σ1 = { objs := (O.set id1 (rd SN)).set id2 [.v (.int .u8 x1.toNat), .v (.int .u8 (bif bE then 0 else be (takeB 1 s) : Nat)), .v (.int .u64 (bif bE then 0 else be (takeB 8 (takeS 1 s)) : Nat)), allA (!bE) (coinsL (takeS 8 (takeS 1 s))), .v (.int .u8 (bif bT then be (takeB 1 SE) else 0 : Nat)), .v (.int .u8 (bif bV then be (takeB 1 ST) else 0 : Nat)), .v (.int .u8 (bif bO then be (takeB 1 SV) else 0 : Nat)), .v (.int .u64 (limb (bif bN then numOf (numB SO) else 0 : Nat) 0)), .v (.int .u64 (limb (bif bN then numOf (numB SO) else 0 : Nat) 1)), .v (.int .u64 (limb (bif bN then numOf (numB SO) else 0 : Nat) 2)), .v (.int .u64 (limb (bif bN then numOf (numB SO) else 0 : Nat) 3)), .sl 0 [] 0 .full, .sl 0 [] 0 .full, .v (.int .u8 0), .v (.int .u64 0), .v (.int .u64 0), .sl 0 [] 0 .full, .sl 0 [] 0 .full, .v (.int .u64 0), .v (.int .u16 0), .v (.bool false)], toks := tk, gl := gl, rows := rows })) ?cy5 ?cx5
      case cy5 =>
       rintro z ρCc51 σ1 hFCc51 hσ; obtain rfl := hσ.symm
       have fCc51 := keepL hFCc51
       (try simp [KeepL, F] at fCc51); (try replace F := aF fCc51 F); refine sqc (X := Unit) [0, 1, 2] (fun z ρ σ1 => (σ1 = { objs := (O.set id1 (rd SC)).set id2 [.v (.int .u8 x1.toNat), .v (.int .u8 (bif bE then 0 else be (takeB 1 s) : Nat)), .v (.int .u64 (bif bE then 0 else be (takeB 8 (takeS 1 s)) : Nat)), allA (!bE) (coinsL (takeS 8 (takeS 1 s))), .v (.int .u8 (bif bT then be (takeB 1 SE) else 0 : Nat)), .v (.int .u8 (bif bV then be (takeB 1 ST) else 0 : Nat)), .v (.int .u8 (bif bO then be (takeB 1 SV) else 0 : Nat)), .v (.int .u64 (limb (bif bN then numOf (numB SO) else 0 : Nat) 0)), .v (.int .u64 (limb (bif bN then numOf (numB SO) else 0 : Nat) 1)), .v (.int .u64 (limb (bif bN then numOf (numB SO) else 0 : Nat) 2)), .v (.int .u64 (limb (bif bN then numOf (numB SO) else 0 : Nat) 3)), allA bC (coinsL SN), .sl 0 [] 0 .full, .v (.int .u8 0), .v (.int .u64 0), .v (.int .u64 0), .sl 0 [] 0 .full, .sl 0 [] 0 .full, .v (.int .u64 0), .v (.int .u16 0), .v (.bool false)], toks := tk, gl := gl, rows := rows })) ?cy6 ?cx6
       case cy6 =>
        rintro z ρCc59 σ1 hFCc59 hσ; obtain rfl := hσ.symm
        have fCc59 := keepL hFCc59
        (try simp [KeepL, F] at fCc59); (try replace F := aF fCc59 F); refine sqc (X := Unit) [0, 1, 2] (fun z ρ σ1 => (σ1 = { objs := (O.set id1 (rd SU)).set id2 [.v (.int .u8 x1.toNat), .v (.int .u8 (bif bE then 0 else be (takeB 1 s) : Nat)), .v (.int .u64 (bif bE then 0 else be (takeB 8 (takeS 1 s)) : Nat)), allA (!bE) (coinsL (takeS 8 (takeS 1 s))), .v (.int .u8 (bif bT then be (takeB 1 SE) else 0 : Nat)), .v (.int .u8 (bif bV then be (takeB 1 ST) else 0 : Nat)), .v (.int .u8 (bif bO then be (takeB 1 SV) else 0 : Nat)), .v (.int .u64 (limb (bif bN then numOf (numB SO) else 0 : Nat) 0)), .v (.int .u64 (limb (bif bN then numOf (numB SO) else 0 : Nat) 1)), .v (.int .u64 (limb (bif bN then numOf (numB SO) else 0 : Nat) 2)), .v (.int .u64 (limb (bif bN then numOf (numB SO) else 0 : Nat) 3)), allA bC (coinsL SN), grA tk.length 2 (posB LU.length) (outsC LU) LU.length, .v (.int .u8 0), .v (.int .u64 0), .v (.int .u64 0), .sl 0 [] 0 .full, .sl 0 [] 0 .full, .v (.int .u64 0), .v (.int .u16 0), .v (.bool false)], toks := tk ++ grT (posB LU.length) LU.length, gl := gl, rows := rows })) ?cy7 ?cx7
        case cy7 =>
         rintro z ρCc67 σ1 hFCc67 hσ; obtain rfl := hσ.symm
         have fCc67 := keepL hFCc67
         (try simp [KeepL, F] at fCc67); (try replace F := aF fCc67 F); refine sqc (X := Unit) [0, 1, 2] (fun z ρ σ1 => (σ1 = { objs := (O.set id1 (rd SP)).set id2 [.v (.int .u8 x1.toNat), .v (.int .u8 (bif bE then 0 else be (takeB 1 s) : Nat)), .v (.int .u64 (bif bE then 0 else be (takeB 8 (takeS 1 s)) : Nat)), allA (!bE) (coinsL (takeS 8 (takeS 1 s))), .v (.int .u8 (bif bT then be (takeB 1 SE) else 0 : Nat)), .v (.int .u8 (bif bV then be (takeB 1 ST) else 0 : Nat)), .v (.int .u8 (bif bO then be (takeB 1 SV) else 0 : Nat)), .v (.int .u64 (limb (bif bN then numOf (numB SO) else 0 : Nat) 0)), .v (.int .u64 (limb (bif bN then numOf (numB SO) else 0 : Nat) 1)), .v (.int .u64 (limb (bif bN then numOf (numB SO) else 0 : Nat) 2)), .v (.int .u64 (limb (bif bN then numOf (numB SO) else 0 : Nat) 3)), allA bC (coinsL SN), grA tk.length 2 (posB LU.length) (outsC LU) LU.length, .v (.int .u8 (bif bP then Pk else 0 : UInt8).toNat), .v (.int .u64 (bif bP then Ps else 0 : Nat)), .v (.int .u64 (bif bP then Pe else 0 : Nat)), allA bP Pt, perA bP Pq, .v (.int .u64 0), .v (.int .u16 0), .v (.bool false)], toks := tk ++ grT (posB LU.length) LU.length, gl := gl, rows := rows })) ?cy8 ?cx8
         case cy8 =>
          rintro z ρCc95 σ1 hFCc95 hσ; obtain rfl := hσ.symm
          have fCc95 := keepL hFCc95
          (try simp [KeepL, F] at fCc95); (try replace F := aF fCc95 F); refine sqc (X := Unit) [0, 1, 2] (fun z ρ σ1 => (σ1 = { objs := (O.set id1 (rd SM)).set id2 [.v (.int .u8 x1.toNat), .v (.int .u8 (bif bE then 0 else be (takeB 1 s) : Nat)), .v (.int .u64 (bif bE then 0 else be (takeB 8 (takeS 1 s)) : Nat)), allA (!bE) (coinsL (takeS 8 (takeS 1 s))), .v (.int .u8 (bif bT then be (takeB 1 SE) else 0 : Nat)), .v (.int .u8 (bif bV then be (takeB 1 ST) else 0 : Nat)), .v (.int .u8 (bif bO then be (takeB 1 SV) else 0 : Nat)), .v (.int .u64 (limb (bif bN then numOf (numB SO) else 0 : Nat) 0)), .v (.int .u64 (limb (bif bN then numOf (numB SO) else 0 : Nat) 1)), .v (.int .u64 (limb (bif bN then numOf (numB SO) else 0 : Nat) 2)), .v (.int .u64 (limb (bif bN then numOf (numB SO) else 0 : Nat) 3)), allA bC (coinsL SN), grA tk.length 2 (posB LU.length) (outsC LU) LU.length, .v (.int .u8 (bif bP then Pk else 0 : UInt8).toNat), .v (.int .u64 (bif bP then Ps else 0 : Nat)), .v (.int .u64 (bif bP then Pe else 0 : Nat)), allA bP Pt, perA bP Pq, .v (.int .u64 (bif bM then be (takeB 8 SP) else 0 : Nat)), .v (.int .u16 0), .v (.bool false)], toks := tk ++ grT (posB LU.length) LU.length, gl := gl, rows := rows })) ?cy9 ?cx9
          case cy9 =>
           rintro z ρCc103 σ1 hFCc103 hσ; obtain rfl := hσ.symm
           have fCc103 := keepL hFCc103
           (try simp [KeepL, F] at fCc103); (try replace F := aF fCc103 F); refine sqc (X := Unit) [0, 1, 2] (fun z ρ σ1 => (σ1 = { objs := (O.set id1 (rd SQ)).set id2 [.v (.int .u8 x1.toNat), .v (.int .u8 (bif bE then 0 else be (takeB 1 s) : Nat)), .v (.int .u64 (bif bE then 0 else be (takeB 8 (takeS 1 s)) : Nat)), allA (!bE) (coinsL (takeS 8 (takeS 1 s))), .v (.int .u8 (bif bT then be (takeB 1 SE) else 0 : Nat)), .v (.int .u8 (bif bV then be (takeB 1 ST) else 0 : Nat)), .v (.int .u8 (bif bO then be (takeB 1 SV) else 0 : Nat)), .v (.int .u64 (limb (bif bN then numOf (numB SO) else 0 : Nat) 0)), .v (.int .u64 (limb (bif bN then numOf (numB SO) else 0 : Nat) 1)), .v (.int .u64 (limb (bif bN then numOf (numB SO) else 0 : Nat) 2)), .v (.int .u64 (limb (bif bN then numOf (numB SO) else 0 : Nat) 3)), allA bC (coinsL SN), grA tk.length 2 (posB LU.length) (outsC LU) LU.length, .v (.int .u8 (bif bP then Pk else 0 : UInt8).toNat), .v (.int .u64 (bif bP then Ps else 0 : Nat)), .v (.int .u64 (bif bP then Pe else 0 : Nat)), allA bP Pt, perA bP Pq, .v (.int .u64 (bif bM then be (takeB 8 SP) else 0 : Nat)), .v (.int .u16 (bif bQ then be (takeB 2 SM) else 0 : Nat)), .v (.bool false)], toks := tk ++ grT (posB LU.length) LU.length, gl := gl, rows := rows })) ?cy10 ?cx10
           case cy10 =>
            rintro z ρCc111 σ1 hFCc111 hσ; obtain rfl := hσ.symm
            have fCc111 := keepL hFCc111
            (try simp [KeepL, F] at fCc111); (try replace F := aF fCc111 F); refine sr fun _ hJ12 => ?_; refine hJ12 _ _ ?_; refine cs (t := bJ) (fun c119 => ?_) (fun c119 => ?_)
            · (try exact nope c119); all_goals have c119p := c119; try simp [F] at c119p
              all_goals
               replace F := aF c119 F; (try replace F := aF c119p F); refine rg' (h := fun J13 hJ13 => ?_); refine ca (c := flag_ok (g1 _ _)) (k := ?_); rintro _ _ ⟨rfl, rfl⟩; (repeat (first | simp [F] | simp (disch := omega) only [wC, if_pos, if_neg])); refine hJ13 _ _ ?_; (try simp only [Then, InBlock, NoGoto, if_true]); refine answer_none rfl (.inl rfl) ?_
               have hJs : True := trivial
               have h := c119
               exact ⟨rfl, _, grT (posB LU.length) LU.length, hW, hcell, by simp [hSJ, h]⟩
            (try exact nope c119); all_goals have c119p := c119; try simp [F] at c119p
            all_goals
             replace F := aF c119 F; (try replace F := aF c119p F); refine run_skip ?_; (try simp only [Then, InBlock, NoGoto, if_true]); refine answer_none rfl (.inl rfl) ?_
             have hJs : True := trivial
             have h := c119
             exact ⟨rfl, _, grT (posB LU.length) LU.length, hW, hcell, by simp [hSJ, h]⟩
           case cx10 =>
            intro K10 hK10
            refine sr fun _ hJ15 => ?_; refine hJ15 _ _ ?_; refine cs (t := bQ) (fun c111 => ?_) (fun c111 => ?_)
            · (try exact nope c111); all_goals have c111p := c111; try simp [F] at c111p
              all_goals
               replace F := aF c111 F; (try replace F := aF c111p F); refine rg' (h := fun J16 hJ16 => ?_); refine ca (c := short_ok (g1 _ _)) (k := ?_); rintro _ _ ⟨rfl, rfl⟩; (repeat (first | simp [F] | simp (disch := omega) only [wC, if_pos, if_neg])); refine hJ16 _ _ ?_; refine hK10 (()) _ _ ⟨kp, ?_⟩
               · have h := c111
                 (try simp at h); simp [hSQ, F, h]
            (try exact nope c111); all_goals have c111p := c111; try simp [F] at c111p
            all_goals
             replace F := aF c111 F; (try replace F := aF c111p F); refine run_skip ?_; refine hK10 (()) _ _ ⟨kp, ?_⟩
             · have h := c111
               (try simp at h); simp [hSQ, F, h]
          case cx9 =>
           intro K9 hK9
           refine sr fun _ hJ18 => ?_; refine hJ18 _ _ ?_; refine cs (t := bM) (fun c103 => ?_) (fun c103 => ?_)
           · (try exact nope c103); all_goals have c103p := c103; try simp [F] at c103p
             all_goals
              replace F := aF c103 F; (try replace F := aF c103p F); refine rg' (h := fun J19 hJ19 => ?_); refine ca (c := long_ok (g1 _ _)) (k := ?_); rintro _ _ ⟨rfl, rfl⟩; (repeat (first | simp [F] | simp (disch := omega) only [wC, if_pos, if_neg])); refine hJ19 _ _ ?_; refine hK9 (()) _ _ ⟨kp, ?_⟩
              · have h := c103
                (try simp at h); simp [hSM, F, h]
           (try exact nope c103); all_goals have c103p := c103; try simp [F] at c103p
           all_goals
            replace F := aF c103 F; (try replace F := aF c103p F); refine run_skip ?_; refine hK9 (()) _ _ ⟨kp, ?_⟩
            · have h := c103
              (try simp at h); simp [hSM, F, h]
         case cx8 =>
          intro K8 hK8
          refine sr fun _ hJ21 => ?_; refine hJ21 _ _ ?_; refine cs (t := bP) (fun c95 => ?_) (fun c95 => ?_)
          · (try exact nope c95); all_goals have c95p := c95; try simp [F] at c95p
            all_goals
             replace F := aF c95 F; (try replace F := aF c95p F); refine rg' (h := fun J22 hJ22 => ?_); refine ca (c := hptk (g1 _ _)) (k := ?_); rintro _ _ ⟨rfl, rfl⟩; (repeat (first | simp [F] | simp (disch := omega) only [wC, if_pos, if_neg])); refine hJ22 _ _ ?_; refine hK8 (()) _ _ ⟨kp, ?_⟩
             · have h := c95
               (try simp at h); simp [hSP, F, h]
          (try exact nope c95); all_goals have c95p := c95; try simp [F] at c95p
          all_goals
           replace F := aF c95 F; (try replace F := aF c95p F); refine run_skip ?_; refine hK8 (()) _ _ ⟨kp, ?_⟩
           · have h := c95
             (try simp at h); simp [hSP, F, h]
        case cx7 =>
         intro K7 hK7
         refine sr fun _ hJ24 => ?_; refine hJ24 _ _ ?_; refine cs (t := bU) (fun c67 => ?_) (fun c67 => ?_)
         · (try exact nope c67); all_goals have c67p := c67; try simp [F] at c67p
           all_goals
            replace F := aF c67 F; (try replace F := aF c67p F); refine sr fun _ hJ26 => ?_; refine ca (c := byte_ok (g1 _ _)) (k := ?_); rintro _ _ ⟨rfl, rfl⟩; (repeat (first | simp [F] | simp (disch := omega) only [wC, if_pos, if_neg])); refine hJ26 _ _ ?_; refine run_block_k ?_; refine run_loopF (X := RSt) [0, 1, 2] (fun y ρ σ1 => (y.m + y.l.length ≤ 255) ∧ (outsGo y.m y.s y.l = outsR SC) ∧ (ρ 6 = .v (.int .u8 y.m)) ∧ (σ1 = { objs := (O.set id1 (rd y.s)).set id2 [.v (.int .u8 x1.toNat), .v (.int .u8 (bif bE then 0 else be (takeB 1 s) : Nat)), .v (.int .u64 (bif bE then 0 else be (takeB 8 (takeS 1 s)) : Nat)), allA (!bE) (coinsL (takeS 8 (takeS 1 s))), .v (.int .u8 (bif bT then be (takeB 1 SE) else 0 : Nat)), .v (.int .u8 (bif bV then be (takeB 1 ST) else 0 : Nat)), .v (.int .u8 (bif bO then be (takeB 1 SV) else 0 : Nat)), .v (.int .u64 (limb (bif bN then numOf (numB SO) else 0 : Nat) 0)), .v (.int .u64 (limb (bif bN then numOf (numB SO) else 0 : Nat) 1)), .v (.int .u64 (limb (bif bN then numOf (numB SO) else 0 : Nat) 2)), .v (.int .u64 (limb (bif bN then numOf (numB SO) else 0 : Nat) 3)), allA bC (coinsL SN), grA tk.length 2 (posB y.l.length) (outsC y.l) y.l.length, .v (.int .u8 0), .v (.int .u64 0), .v (.int .u64 0), .sl 0 [] 0 .full, .sl 0 [] 0 .full, .v (.int .u64 0), .v (.int .u16 0), .v (.bool false)], toks := tk ++ grT (posB y.l.length) y.l.length, gl := gl, rows := rows })) (fun y => y.m) (⟨be (takeB 1 SC), takeS 1 SC, []⟩) ?st1 ?rd1
            case st1 =>
             refine ⟨?_, ?_, lp, ?_⟩
             · simp
               omega
             · rfl
             · simp [F]
            case rd1 =>
             rintro y ρ1 σ1 hF1 ⟨hm, hg, h6, hσ⟩; obtain rfl := hσ.symm
             have f1 := keepL hF1
             (try simp [KeepL, F] at f1); replace F := aF h6 F; (try replace F := aF f1 F); refine sq fun K27 hK27 => ?_; refine sqc (X := Unit) [0, 1, 2, 6] (fun z ρ σ1 => (ρ 76 = .v (.bool (decide (0 < y.m) && !y.s.isNone))) ∧ (σ1 = { objs := (O.set id1 (rd y.s)).set id2 [.v (.int .u8 x1.toNat), .v (.int .u8 (bif bE then 0 else be (takeB 1 s) : Nat)), .v (.int .u64 (bif bE then 0 else be (takeB 8 (takeS 1 s)) : Nat)), allA (!bE) (coinsL (takeS 8 (takeS 1 s))), .v (.int .u8 (bif bT then be (takeB 1 SE) else 0 : Nat)), .v (.int .u8 (bif bV then be (takeB 1 ST) else 0 : Nat)), .v (.int .u8 (bif bO then be (takeB 1 SV) else 0 : Nat)), .v (.int .u64 (limb (bif bN then numOf (numB SO) else 0 : Nat) 0)), .v (.int .u64 (limb (bif bN then numOf (numB SO) else 0 : Nat) 1)), .v (.int .u64 (limb (bif bN then numOf (numB SO) else 0 : Nat) 2)), .v (.int .u64 (limb (bif bN then numOf (numB SO) else 0 : Nat) 3)), allA bC (coinsL SN), grA tk.length 2 (posB y.l.length) (outsC y.l) y.l.length, .v (.int .u8 0), .v (.int .u64 0), .v (.int .u64 0), .sl 0 [] 0 .full, .sl 0 [] 0 .full, .v (.int .u64 0), .v (.int .u16 0), .v (.bool false)], toks := tk ++ grT (posB y.l.length) y.l.length, gl := gl, rows := rows })) ?cy28 ?cx28
             case cy28 =>
              rintro z ρCr14 σ1 hFCr14 ⟨h76, hσ⟩; obtain rfl := hσ.symm
              have fCr14 := keepL hFCr14
              (try simp [KeepL, F] at fCr14); replace F := aF h76 F; (try replace F := aF fCr14 F); refine cs (t := (decide (0 < y.m) && !y.s.isNone)) (fun c76 => ?_) (fun c76 => ?_)
              · (try exact nope c76); all_goals have c76p := c76; try simp [F] at c76p
                all_goals
                 replace F := aF c76 F; (try replace F := aF c76p F); refine run_skip ?_; refine hK27 _ _ ?_; refine sq fun K29 hK29 => ?_; refine run_block_k ?_
                 obtain ⟨m, S, L⟩ := y
                 simp only at hm hg h6
                 have hmS : 0 < m ∧ ¬ S = none := by have h := c76; simp at h; exact ⟨h.1, by intro e; rw [e] at h; simp at h⟩
                 have hnx := outsGo_more (l := L) hmS.1 hmS.2
                 have hPo : outsC (L ++ [outS S]) = outsC L ++ [.v (.int .u8 (be (takeB 1 S))), .sl 5 (coinsC (coinsL (takeS 1 S))) (coinsL (takeS 1 S)).length .shut] := by rw [← outsC_append, be_byteS]; rfl
                 have hLl : L.length ≤ 254 := by omega
                 have happ : ∀ objs, appendA Try.prog 70 (grA tk.length 2 (posB L.length) (outsC L) L.length) (.sl 2 [.v (.int .u8 (be (takeB 1 S))), .sl 5 (coinsC (coinsL (takeS 1 S))) (coinsL (takeS 1 S)).length .shut] 1 .full) ⟨objs, tk ++ grT (posB L.length) L.length, gl, rows⟩ = some (grA tk.length 2 true (outsC L ++ [.v (.int .u8 (be (takeB 1 S))), .sl 5 (coinsC (coinsL (takeS 1 S))) (coinsL (takeS 1 S)).length .shut]) (L.length + 1), ⟨objs, tk ++ grT true (L.length + 1), gl, rows⟩) := fun objs => append_gr elemT_70 ti_122 (by decide) rfl onil0 (.inl rfl) (by simp [roomA]; omega) (by simp [maxLen]; omega)
                 have hwm : IntKind.u8.wrap ((m : Int) - 1) = ((m - 1 : Nat) : Int) := by rw [wrap_u8c (by omega)]; omega
                 replace F := aF happ F
                 refine run_draw (by kernel_rfl) fun J30 hJ30 => ?_
                 refine rp2 0 (k := ?_); refine rp2 1 (k := ?_); refine rp2 2 (k := ?_); refine rp2 3 (k := ?_); refine rp2 4 (k := ?_); refine rp2 5 (k := ?_); refine rp2 7 (k := ?_); refine dc 6 rfl (c := byte_ok (g1 _ _)) (k := ?_); rintro _ _ ⟨rfl, rfl⟩
                 refine ⟨by first | exact fun _ _ h => h | (refine later_list [7, 4, 3, 2, 1, 0] (by kernel_rfl) (List.forall_mem_cons.2 ⟨fun _ => fact2 rfl rfl ?_, List.forall_mem_cons.2 ⟨fun _ => fact2 rfl rfl ?_, List.forall_mem_cons.2 ⟨fun _ => fact2 rfl rfl ?_, List.forall_mem_cons.2 ⟨fun _ => fact2 rfl rfl ?_, List.forall_mem_cons.2 ⟨fun _ => fact2 rfl rfl ?_, List.forall_mem_cons.2 ⟨fun _ => fact2 rfl rfl ?_, fun _ h => absurd h List.not_mem_nil⟩⟩⟩⟩⟩⟩) <;> constructor <;> first | rfl | (simp [F]; done)), ?_⟩
                 (repeat (first | simp [F] | simp (disch := omega) only [wC, if_pos, if_neg])); refine dc 8 rfl (c := rcoins_raw (g1 _ _)) (k := ?_); rintro _ _ ⟨rfl, rfl⟩
                 refine ⟨by first | exact fun _ _ h => h | (refine later_list [4, 3, 2, 1, 0] (by kernel_rfl) (List.forall_mem_cons.2 ⟨fun _ => fact2 rfl rfl ?_, List.forall_mem_cons.2 ⟨fun _ => fact2 rfl rfl ?_, List.forall_mem_cons.2 ⟨fun _ => fact2 rfl rfl ?_, List.forall_mem_cons.2 ⟨fun _ => fact2 rfl rfl ?_, List.forall_mem_cons.2 ⟨fun _ => fact2 rfl rfl ?_, fun _ h => absurd h List.not_mem_nil⟩⟩⟩⟩⟩) <;> constructor <;> first | rfl | (simp [F]; done)), ?_⟩
                 (repeat (first | simp [F] | simp (disch := omega) only [wC, if_pos, if_neg])); refine rp2 9 (k := ?_); refine rp2 10 (k := ?_); refine dop 11 rfl ?_; repeat (first | simp [F] | simp (disch := omega) only [wC, if_pos, if_neg])
                 refine ⟨by first | exact fun _ _ h => h | (refine later_list [9, 3, 2, 1, 0] (by kernel_rfl) (List.forall_mem_cons.2 ⟨fun _ => fact2 rfl rfl ?_, List.forall_mem_cons.2 ⟨fun _ => fact2 rfl rfl ?_, List.forall_mem_cons.2 ⟨fun _ => fact2 rfl rfl ?_, List.forall_mem_cons.2 ⟨fun _ => fact2 rfl rfl ?_, List.forall_mem_cons.2 ⟨fun _ => fact2 rfl rfl ?_, fun _ h => absurd h List.not_mem_nil⟩⟩⟩⟩⟩) <;> constructor <;> first | rfl | (simp [F]; done)), ?_⟩
                 refine rp2 12 (k := ?_); refine rp2 13 (k := ?_); refine dop 14 rfl ?_; repeat (first | simp [F] | simp (disch := omega) only [wC, if_pos, if_neg])
                 refine ⟨by first | exact fun _ _ h => h | (refine later_list [12] (by kernel_rfl) (List.forall_mem_cons.2 ⟨fun _ => fact2 rfl rfl ?_, fun _ h => absurd h List.not_mem_nil⟩) <;> constructor <;> first | rfl | (simp [F]; done)), ?_⟩
                 refine dd ?_; refine hJ30 _ _ ?_; refine hK29 _ _ ?_; replace F := aF hwm F; refine rg' (h := fun J31 hJ31 => ?_); refine hJ31 _ _ ?_; refine ⟨(⟨m - 1, outT S, L ++ [outS S]⟩), ⟨kp, ?_, ?_, lp, ?_⟩, ?_⟩
                 · simp
                   omega
                 · rw [← hg]
                   exact hnx.symm
                 · simp [F, hPo, outT]
                 · simp
                   omega
              (try exact nope c76); all_goals have c76p := c76; try simp [F] at c76p
              all_goals
               replace F := aF c76 F; try replace F := aF c76p F
               have he : outsR SC = (y.l, y.s) := by rw [← hg]; exact outsGo_stop (by have h := c76; simp at h; by_cases h0 : y.m = 0; exact .inl h0; exact .inr (h (by omega)))
               have hy1 : SU = y.s := by rw [hSU, c67, he]; rfl
               have hy2 : LU = y.l := by rw [hLU, c67, he]; rfl
               refine run_exit ?_; refine hK7 (()) _ _ ⟨kp, ?_⟩
               · simp [hy1, hy2]
             case cx28 =>
              intro K28 hK28
              refine rg' (h := fun J32 hJ32 => ?_); refine gs 72 (fun g14_2 => ?_) (fun g14_2 => ?_)
              · (try exact nope g14_2); all_goals have g14_2p := g14_2; try simp [F] at g14_2p
                all_goals
                 replace F := aF g14_2 F; (try replace F := aF g14_2p F); refine go2 (k := ?_); refine ca (c := bad_ok (g1 _ _)) (k := ?_); rintro _ _ ⟨rfl, rfl⟩; (repeat (first | simp [F] | simp (disch := omega) only [wC, if_pos, if_neg])); refine go2 (k := ?_); refine hJ32 _ _ ?_; refine hK28 (()) _ _ ⟨kp, ?_, lp⟩
                 · have h := g14_2
                   simp at h
                   simp [F, h]
              (try exact nope g14_2); all_goals have g14_2p := g14_2; try simp [F] at g14_2p
              all_goals
               replace F := aF g14_2 F; (try replace F := aF g14_2p F); (iterate 3 refine no2 (k := ?_)); refine hJ32 _ _ ?_; refine hK28 (()) _ _ ⟨kp, ?_, lp⟩
               · have h := g14_2
                 simp at h
                 simp [F, h]
         (try exact nope c67); all_goals have c67p := c67; try simp [F] at c67p
         all_goals
          replace F := aF c67 F; (try replace F := aF c67p F); refine run_skip ?_; refine hK7 (()) _ _ ⟨kp, ?_⟩
          · have e1 : SU = SC := by (rw [hSU, c67]; rfl)
            have e2 : LU = [] := by (rw [hLU, c67]; rfl)
            simp [e1, e2]
       case cx6 =>
        intro K6 hK6
        refine sr fun _ hJ34 => ?_; refine hJ34 _ _ ?_; refine cs (t := bC) (fun c59 => ?_) (fun c59 => ?_)
        · (try exact nope c59); all_goals have c59p := c59; try simp [F] at c59p
          all_goals
           replace F := aF c59 F; (try replace F := aF c59p F); refine rg' (h := fun J35 hJ35 => ?_); refine ca (c := rcoins_raw (g1 _ _)) (k := ?_); rintro _ _ ⟨rfl, rfl⟩; (repeat (first | simp [F] | simp (disch := omega) only [wC, if_pos, if_neg])); refine hJ35 _ _ ?_; refine hK6 (()) _ _ ⟨kp, ?_⟩
           · have h := c59
             (try simp at h); simp [hSC, F, h]
        (try exact nope c59); all_goals have c59p := c59; try simp [F] at c59p
        all_goals
         replace F := aF c59 F; (try replace F := aF c59p F); refine run_skip ?_; refine hK6 (()) _ _ ⟨kp, ?_⟩
         · have h := c59
           (try simp at h); simp [hSC, F, h]
      case cx5 =>
       intro K5 hK5
       refine sr fun _ hJ37 => ?_; refine hJ37 _ _ ?_; refine cs (t := bN) (fun c51 => ?_) (fun c51 => ?_)
       · (try exact nope c51); all_goals have c51p := c51; try simp [F] at c51p
         all_goals
          replace F := aF c51 F; (try replace F := aF c51p F); replace F := aF hnA F; refine rg' (h := fun J38 hJ38 => ?_); refine ca (c := num_ok (g1 _ _)) (k := ?_); rintro _ _ ⟨rfl, rfl⟩; (repeat (first | simp [F] | simp (disch := omega) only [wC, if_pos, if_neg])); refine hJ38 _ _ ?_; refine hK5 (()) _ _ ⟨kp, ?_⟩
          · have h := c51
            (try simp at h); simp [hSN, F, h]
       (try exact nope c51); all_goals have c51p := c51; try simp [F] at c51p
       all_goals
        replace F := aF c51 F; (try replace F := aF c51p F); refine run_skip ?_; refine hK5 (()) _ _ ⟨kp, ?_⟩
        · have h := c51
          (try simp at h); simp [hSN, F, h]
     case cx4 =>
      intro K4 hK4
      refine sr fun _ hJ40 => ?_; refine hJ40 _ _ ?_; refine cs (t := bO) (fun c43 => ?_) (fun c43 => ?_)
      · (try exact nope c43); all_goals have c43p := c43; try simp [F] at c43p
        all_goals
         replace F := aF c43 F; (try replace F := aF c43p F); refine rg' (h := fun J41 hJ41 => ?_); refine ca (c := byte_ok (g1 _ _)) (k := ?_); rintro _ _ ⟨rfl, rfl⟩; (repeat (first | simp [F] | simp (disch := omega) only [wC, if_pos, if_neg])); refine hJ41 _ _ ?_; refine hK4 (()) _ _ ⟨kp, ?_⟩
         · have h := c43
           (try simp at h); simp [hSO, F, h]
      (try exact nope c43); all_goals have c43p := c43; try simp [F] at c43p
      all_goals
       replace F := aF c43 F; (try replace F := aF c43p F); refine run_skip ?_; refine hK4 (()) _ _ ⟨kp, ?_⟩
       · have h := c43
         (try simp at h); simp [hSO, F, h]
    case cx3 =>
     intro K3 hK3
     refine sr fun _ hJ43 => ?_; refine hJ43 _ _ ?_; refine cs (t := bV) (fun c35 => ?_) (fun c35 => ?_)
     · (try exact nope c35); all_goals have c35p := c35; try simp [F] at c35p
       all_goals
        replace F := aF c35 F; (try replace F := aF c35p F); refine rg' (h := fun J44 hJ44 => ?_); refine ca (c := byte_ok (g1 _ _)) (k := ?_); rintro _ _ ⟨rfl, rfl⟩; (repeat (first | simp [F] | simp (disch := omega) only [wC, if_pos, if_neg])); refine hJ44 _ _ ?_; refine hK3 (()) _ _ ⟨kp, ?_⟩
        · have h := c35
          (try simp at h); simp [hSV, F, h]
     (try exact nope c35); all_goals have c35p := c35; try simp [F] at c35p
     all_goals
      replace F := aF c35 F; (try replace F := aF c35p F); refine run_skip ?_; refine hK3 (()) _ _ ⟨kp, ?_⟩
      · have h := c35
        (try simp at h); simp [hSV, F, h]
   case cx2 =>
    intro K2 hK2
    refine sr fun _ hJ46 => ?_; refine hJ46 _ _ ?_; refine cs (t := bT) (fun c27 => ?_) (fun c27 => ?_)
    · (try exact nope c27); all_goals have c27p := c27; try simp [F] at c27p
      all_goals
       replace F := aF c27 F; (try replace F := aF c27p F); refine rg' (h := fun J47 hJ47 => ?_); refine ca (c := byte_ok (g1 _ _)) (k := ?_); rintro _ _ ⟨rfl, rfl⟩; (repeat (first | simp [F] | simp (disch := omega) only [wC, if_pos, if_neg])); refine hJ47 _ _ ?_; refine hK2 (()) _ _ ⟨kp, ?_⟩
       · have h := c27
         (try simp at h); simp [hST, F, h]
    (try exact nope c27); all_goals have c27p := c27; try simp [F] at c27p
    all_goals
     replace F := aF c27 F; (try replace F := aF c27p F); refine run_skip ?_; refine hK2 (()) _ _ ⟨kp, ?_⟩
     · have h := c27
       (try simp at h); simp [hST, F, h]
  case cx1 =>
   intro K1 hK1
   refine sr fun _ hJ49 => ?_; refine hJ49 _ _ ?_; refine cs (t := !bE) (fun c9 => ?_) (fun c9 => ?_)
   · (try exact nope c9); all_goals have c9p := c9; try simp [F] at c9p
     all_goals
      replace F := aF c9 F; (try replace F := aF c9p F); refine rg' (h := fun J50 hJ50 => ?_); refine ca (c := byte_ok (g1 _ _)) (k := ?_); rintro _ _ ⟨rfl, rfl⟩; (repeat (first | simp [F] | simp (disch := omega) only [wC, if_pos, if_neg])); refine ca (c := long_ok (g1 _ _)) (k := ?_); rintro _ _ ⟨rfl, rfl⟩; (repeat (first | simp [F] | simp (disch := omega) only [wC, if_pos, if_neg])); refine ca (c := rcoins_raw (g1 _ _)) (k := ?_); rintro _ _ ⟨rfl, rfl⟩; (repeat (first | simp [F] | simp (disch := omega) only [wC, if_pos, if_neg])); refine hJ50 _ _ ?_; refine hK1 (()) _ _ ⟨kp, ?_⟩
      · have h := c9
        (try simp at h); simp [hSE, F, h]
   (try exact nope c9); all_goals have c9p := c9; try simp [F] at c9p
   all_goals
    replace F := aF c9 F; (try replace F := aF c9p F); refine run_skip ?_; refine hK1 (()) _ _ ⟨kp, ?_⟩
    · have h := c9
      (try simp at h); simp [hSE, F, h]

end Go.Proofs.Ytdbaddholggkbaa

/-
  A plan, read of any bytes by the document..
-/
namespace Go.Proofs.Ytdbaddholggkbaa
set_option linter.unnecessarySimpa false
set_option maxRecDepth 100000
open Go Go.Vm
set_option linter.unusedSimpArgs false
set_option linter.unusedVariables false
attribute [local simp] evalL wantedA isCall opA evalA evalAll evalsA evalOpt ofValue ofCell plain binA_eql_pn binA_neq_pn binA_gtr binA_lss binA_geq binA_leq binA_add binA_sub binA_eql binA_neq binA_orI binA_andI binA_shl binA_shr binA_mul binA_quo binA_rem binA_agg_eql binA_agg_neq convA_int unA_not fieldAddrA loadA partA pickA_true pickA_false pickA_bb lenA builtinA storeA splice AV.cells AV.isCell sliceA boundA intA callOf indexAddrA newObjA buildA fillA zeroA ofCells buildSliceA indexA fieldA numA_len4 numA_take4 numA_drop4 set_appN get_appN take_appN List.getElem?_cons_zero List.getElem?_cons_succ makeA zeros64

structure TSk where
  m : Nat
  s : Option (List UInt8)
  l : List Per
  k : Nat

theorem persGo_all : ∀ (m : Nat) (s : Option (List UInt8)) (l : List Per), (∀ x ∈ l, x.l < 2 ^ 64 ∧ x.c.length ≤ 255) → m + l.length ≤ 255 → (persGo m s l).1.length ≤ 255 ∧ ∀ x ∈ (persGo m s l).1, x.l < 2 ^ 64 ∧ x.c.length ≤ 255
  | 0, s, l, hx, hl => ⟨by simp only [persGo]; omega, hx⟩
  | m + 1, none, l, hx, hl => ⟨by simp only [persGo]; omega, hx⟩
  | m + 1, some p, l, hx, hl => by
    rw [persGo]
    refine persGo_all m _ _ (fun x h => ?_) (by simp; omega)
    rcases List.mem_append.1 h with h | h
    · exact hx x h
    · simp at h; subst h; exact perS_ok _
theorem takeP_ok (s : Option (List UInt8)) : (takeP s).Ok := by
  unfold takeP
  split
  · simp [Pln.Ok]
  · have hm := be_lt1 (takeB_len 1 (s4S s))
    have h := persGo_all (be (takeB 1 (s4S s))) (takeS 1 (s4S s)) [] (by simp) (by simp; omega)
    exact planP_ok h.1 h.2
end Go.Proofs.Ytdbaddholggkbaa

/-
  A message is read of any bytes..
-/
namespace Go.Proofs.Ytdbaddholggkbaa
set_option linter.unnecessarySimpa false
set_option maxRecDepth 100000
open Go Go.Vm
set_option linter.unusedSimpArgs false
set_option linter.unusedVariables false
attribute [local simp] evalL wantedA isCall opA evalA evalAll evalsA evalOpt ofValue ofCell plain binA_eql_pn binA_neq_pn binA_gtr binA_lss binA_geq binA_leq binA_add binA_sub binA_eql binA_neq binA_orI binA_shl binA_shr binA_mul binA_quo binA_rem binA_agg_eql binA_agg_neq convA_int unA_not fieldAddrA loadA partA pickA_true pickA_false pickA_bb lenA builtinA storeA splice AV.cells AV.isCell sliceA boundA intA callOf indexAddrA newObjA buildA fillA zeroA ofCells buildSliceA indexA fieldA numA_len4 numA_take4 numA_drop4 set_appN get_appN take_appN List.getElem?_cons_zero List.getElem?_cons_succ makeA zeros64

def zeroM : Msg := ⟨0, 0, 0, [], 0, 0, 0, ⟨0, by decide⟩, [], [], ⟨0, 0, 0, [], []⟩, 0, 0, false⟩
theorem outsGo_all : ∀ (m : Nat) (s : Option (List UInt8)) (l : List Out), (∀ x ∈ l, x.c.length ≤ 255) → m + l.length ≤ 255 → (outsGo m s l).1.length ≤ 255 ∧ ∀ x ∈ (outsGo m s l).1, x.c.length ≤ 255
  | 0, s, l, hx, hl => ⟨by simp only [outsGo]; omega, hx⟩
  | m + 1, none, l, hx, hl => ⟨by simp only [outsGo]; omega, hx⟩
  | m + 1, some p, l, hx, hl => by
    rw [outsGo]
    refine outsGo_all m _ _ (fun x h => ?_) (by simp; omega)
    rcases List.mem_append.1 h with h | h
    · exact hx x h
    · simp at h; subst h; exact coinsL_le _
theorem msgR_ok (k : UInt8) (s : Option (List UInt8)) : (msgR k s).Ok := by
  have ho := outsGo_all (be (takeB 1 (stC k s))) (takeS 1 (stC k s)) [] (by simp) (by have := be_lt1 (takeB_len 1 (stC k s)); simp; omega)
  have e1 : (outsR (stC k s)).1.length ≤ 255 := ho.1
  refine ⟨?_, ?_, ?_, ?_, fun x hx => ?_, ?_, ?_, ?_⟩
  · simp only [msgR]; cases hB k 1024
    · exact be_lt8 _ (takeB_len 8 _)
    · show (0 : Nat) < _; decide
  · simp only [msgR]; cases hB k 1024
    · have := coinsL_le (takeS 8 (takeS 1 s)); simp only [cond_false]; omega
    · simp
  · simp only [msgR]; cases hB k 16
    · simp
    · have := coinsL_le (stN k s); simp only [cond_true]; omega
  · simp only [msgR]; cases hB k 32
    · simp
    · simp only [cond_true]; omega
  · simp only [msgR] at hx
    cases hq : hB k 32 <;> rw [hq] at hx
    · simp at hx
    · have := ho.2 x hx; omega
  · simp only [msgR]; cases hB k 64
    · simp [Pln.Ok]
    · exact takeP_ok _
  · simp only [msgR]; cases hB k 128
    · show (0 : Nat) < _; decide
    · exact be_lt8 _ (takeB_len 8 _)
  · simp only [msgR]; cases hB k 256
    · show (0 : Nat) < _; decide
    · exact be_lt2 (takeB_len 2 _)

def decB (p : List UInt8) : Bool := hasK (byteS (some p)) && endB (stJ (byteS (some p)) (takeS 1 (some p))) && rightM (msgR (byteS (some p)) (takeS 1 (some p)))
def decM (p : List UInt8) : Msg := bif decB p then msgR (byteS (some p)) (takeS 1 (some p)) else zeroM
theorem zero_wk : WkL [.v (.int .u8 0), .v (.int .u8 0), .v (.int .u64 0), .sl 0 [] 0 .full, .v (.int .u8 0), .v (.int .u8 0), .v (.int .u8 0), .v (.int .u64 0), .v (.int .u64 0), .v (.int .u64 0), .v (.int .u64 0), .sl 0 [] 0 .full, .sl 0 [] 0 .full, .v (.int .u8 0), .v (.int .u64 0), .v (.int .u64 0), .sl 0 [] 0 .full, .sl 0 [] 0 .full, .v (.int .u64 0), .v (.int .u16 0), .v (.bool false)] (msgC zeroM) := by
  have hl : ∀ i, limb 0 i = 0 := by intro i; simp [limb]
  simp only [msgC, zeroM, hl]
  repeat (first | exact WkL.nil | refine WkL.cons (Wk.nil _ _ _) ?_ | refine WkL.cons (Wk.refl _) ?_)

theorem wk21 {X : List AV} {M : Msg} (h : WkL X (msgC M)) (hc : X.all AV.isCell = true) : ∃ a0 a1 a2 a3 a4 a5 a6 a7 a8 a9 a10 a11 a12 a13 a14 a15 a16 a17 a18 a19 a20, X = [a0, a1, a2, a3, a4, a5, a6, a7, a8, a9, a10, a11, a12, a13, a14, a15, a16, a17, a18, a19, a20] ∧ a0.isCell = true ∧ a1.isCell = true ∧ a2.isCell = true ∧ a3.isCell = true ∧ a4.isCell = true ∧ a5.isCell = true ∧ a6.isCell = true ∧ a7.isCell = true ∧ a8.isCell = true ∧ a9.isCell = true ∧ a10.isCell = true ∧ a11.isCell = true ∧ a12.isCell = true ∧ a13.isCell = true ∧ a14.isCell = true ∧ a15.isCell = true ∧ a16.isCell = true ∧ a17.isCell = true ∧ a18.isCell = true ∧ a19.isCell = true ∧ a20.isCell = true := by
  have hl : X.length = 21 := h.get.1
  match X, hl, hc with
  | [a0, a1, a2, a3, a4, a5, a6, a7, a8, a9, a10, a11, a12, a13, a14, a15, a16, a17, a18, a19, a20], _, hc =>
    simp only [List.all_cons, List.all_nil, Bool.and_true, Bool.and_eq_true] at hc
    exact ⟨a0, a1, a2, a3, a4, a5, a6, a7, a8, a9, a10, a11, a12, a13, a14, a15, a16, a17, a18, a19, a20, rfl, hc⟩

set_option maxHeartbeats 1600000 in
attribute [local simp] undefA List.getElem?_cons_zero List.getElem?_cons_succ in
theorem decode_ok {σ : St} {p : List UInt8} {tl : Tail} (hp : p.length ≤ 1000000) :
    CallsA Try.prog 55 [.sl 1 (bytesA p) p.length tl] σ (fun av σ' => av = .tup [.agg (msgC (decM p)), .v (.int .i64 (bif decB p then 0 else 4))] ∧ σ = σ') := by
  refine callsA_gcS ?_ (by simp [AV.under, underL, msgC, persC_under, outsC_under])
  have hmo := msgR_ok (byteS (some p)) (takeS 1 (some p))
  have hM : decM p = bif decB p then msgR (byteS (some p)) (takeS 1 (some p)) else zeroM := rfl
  obtain ⟨A, hA⟩ : ∃ A, A = decM p := ⟨_, rfl⟩
  obtain ⟨D, hD⟩ : ∃ D, D = decB p := ⟨_, rfl⟩
  rw [← hA, ← hD] at hM ⊢
  unfold decB at hD
  have hby : ∀ {τ : St} {id : Nat}, τ.objs[id]? = some (rd (some p)) → CallsA Try.prog 81 [.ptr id 0] τ (fun av σ' => av = .v (.int .u8 ((byteS (some p)).toNat : Nat)) ∧ σ' = { τ with objs := τ.objs.set id (rd (takeS 1 (some p))) }) := fun h => by
    have := byte_ok h
    rw [be_byteS] at this
    exact this
  obtain ⟨K, hK⟩ : ∃ K, K = byteS (some p) := ⟨_, rfl⟩
  obtain ⟨s, hs⟩ : ∃ s, s = takeS 1 (some p) := ⟨_, rfl⟩
  simp only [← hK, ← hs] at hby hD hM hmo
  obtain ⟨M, hMd⟩ : ∃ M, M = msgR K s := ⟨_, rfl⟩
  obtain ⟨J, hJ⟩ : ∃ J, J = stJ K s := ⟨_, rfl⟩
  have hread : CallsA Try.prog 106 [.ptr (σ.objs.length + 1) 0, .ptr (σ.objs.length + 2) 0, .v (.int .i64 (hasN K : Nat))] { σ with objs := σ.objs ++ [[.v (.int .u8 0), .v (.int .u8 0), .v (.int .u64 0), .sl 0 [] 0 .full, .v (.int .u8 0), .v (.int .u8 0), .v (.int .u8 0), .v (.int .u64 0), .v (.int .u64 0), .v (.int .u64 0), .v (.int .u64 0), .sl 0 [] 0 .full, .sl 0 [] 0 .full, .v (.int .u8 0), .v (.int .u64 0), .v (.int .u64 0), .sl 0 [] 0 .full, .sl 0 [] 0 .full, .v (.int .u64 0), .v (.int .u16 0), .v (.bool false)], rd s, [.v (.int .u8 K.toNat), .v (.int .u8 0), .v (.int .u64 0), .sl 0 [] 0 .full, .v (.int .u8 0), .v (.int .u8 0), .v (.int .u8 0), .v (.int .u64 0), .v (.int .u64 0), .v (.int .u64 0), .v (.int .u64 0), .sl 0 [] 0 .full, .sl 0 [] 0 .full, .v (.int .u8 0), .v (.int .u64 0), .v (.int .u64 0), .sl 0 [] 0 .full, .sl 0 [] 0 .full, .v (.int .u64 0), .v (.int .u16 0), .v (.bool false)]] }
      (fun av σ' => av = .tup [] ∧ ∃ X T, WkL X (msgC M) ∧ X.all AV.isCell = true ∧ σ' = { σ with objs := σ.objs ++ [[.v (.int .u8 0), .v (.int .u8 0), .v (.int .u64 0), .sl 0 [] 0 .full, .v (.int .u8 0), .v (.int .u8 0), .v (.int .u8 0), .v (.int .u64 0), .v (.int .u64 0), .v (.int .u64 0), .v (.int .u64 0), .sl 0 [] 0 .full, .sl 0 [] 0 .full, .v (.int .u8 0), .v (.int .u64 0), .v (.int .u64 0), .sl 0 [] 0 .full, .sl 0 [] 0 .full, .v (.int .u64 0), .v (.int .u16 0), .v (.bool false)], rd J, X], toks := σ.toks ++ T }) := by
    have h := read_raw (O := σ.objs ++ [[.v (.int .u8 0), .v (.int .u8 0), .v (.int .u64 0), .sl 0 [] 0 .full, .v (.int .u8 0), .v (.int .u8 0), .v (.int .u8 0), .v (.int .u64 0), .v (.int .u64 0), .v (.int .u64 0), .v (.int .u64 0), .sl 0 [] 0 .full, .sl 0 [] 0 .full, .v (.int .u8 0), .v (.int .u64 0), .v (.int .u64 0), .sl 0 [] 0 .full, .sl 0 [] 0 .full, .v (.int .u64 0), .v (.int .u16 0), .v (.bool false)], rd s, [.v (.int .u8 K.toNat), .v (.int .u8 0), .v (.int .u64 0), .sl 0 [] 0 .full, .v (.int .u8 0), .v (.int .u8 0), .v (.int .u8 0), .v (.int .u64 0), .v (.int .u64 0), .v (.int .u64 0), .v (.int .u64 0), .sl 0 [] 0 .full, .sl 0 [] 0 .full, .v (.int .u8 0), .v (.int .u64 0), .v (.int .u64 0), .sl 0 [] 0 .full, .sl 0 [] 0 .full, .v (.int .u64 0), .v (.int .u16 0), .v (.bool false)]]) (tk := σ.toks) (gl := σ.gl) (rows := σ.rows) (id1 := σ.objs.length + 1) (id2 := σ.objs.length + 2) (x1 := K) (s := s) (by simp) (by simp) (by omega)
    rw [← hMd, ← hJ] at h
    simpa using h
  have hmr : ∀ (X : List AV) (τ : St), WkL X (msgC M) → CallsA Try.prog 51 [.agg X] τ (fun av σ' => av = .v (.bool (rightM M)) ∧ τ = σ') := fun X τ hX => callsA_wk (.cons (WkL.agg hX) .nil) (mright_ok (by rw [hMd]; exact hmo))
  rw [← hMd, ← hJ] at hD
  rw [← hMd] at hM
  have hhas := fun σ => has_ok (σ := σ) (k := K)
  obtain ⟨k0, hk0⟩ : ∃ k, k = hasK K := ⟨_, rfl⟩
  obtain ⟨h, hh⟩ : ∃ h, h = hasN K := ⟨_, rfl⟩
  obtain ⟨R, hR⟩ : ∃ R, R = rightM M := ⟨_, rfl⟩
  obtain ⟨e, he⟩ : ∃ e, e = endB J := ⟨_, rfl⟩
  rw [← hk0, ← he, ← hR] at hD
  simp only [← hh] at hread hhas
  simp only [← hk0] at hhas
  simp only [← hR] at hmr
  have hend : ∀ {τ : St} {id : Nat}, τ.objs[id]? = some (rd J) → CallsA Try.prog 48 [.ptr id 0] τ (fun av σ' => av = .v (.bool e) ∧ τ = σ') := fun h => by rw [he]; exact end_ok h
  clear hMd hJ hK hs hk0 hh hR he hmo hA
  have hd21 : ∀ f : Nat → AV, List.drop 21 (List.map f (List.range 21)) = [] := fun _ => rfl
  have F := And.intro hd21 (True.intro)
  refine callsA_body Try.func55 rfl rfl rfl ?_; refine sr fun _ hJ2 => ?_; refine hJ2 _ _ ?_; refine sr fun _ hJ4 => ?_; refine ca (c := new_ok hp) (k := ?_); rintro _ _ ⟨rfl, rfl⟩; (repeat (first | simp [F] | simp (disch := omega) only [wC, if_pos, if_neg])); refine hJ4 _ _ ?_; refine sr fun _ hJ6 => ?_
  refine ca (c := hby (by simp [F])) (k := ?_)
  rintro _ _ ⟨rfl, rfl⟩; (repeat (first | simp [F] | simp (disch := omega) only [wC, if_pos, if_neg])); refine hJ6 _ _ ?_; refine sr fun _ hJ8 => ?_; refine ca (c := hhas _) (k := ?_); rintro _ _ ⟨rfl, rfl⟩; (repeat (first | simp [F] | simp (disch := omega) only [wC, if_pos, if_neg])); refine hJ8 _ _ ?_; refine sq fun K9 hK9 => ?_; refine sr fun _ hJ11 => ?_; refine hJ11 _ _ ?_; refine cs (t := k0) (fun c19 => ?_) (fun c19 => ?_)
  · (try exact nope c19); all_goals have c19p := c19; try simp [F] at c19p
    all_goals
     replace F := aF c19 F; try replace F := aF c19p F
     have hk1 : k0 = true := c19
     refine rg' (h := fun J12 hJ12 => ?_); refine ca (c := hread) (k := ?_); rintro _ _ ⟨rfl, X, T, hX, hXc, rfl⟩; (repeat (first | simp [F] | simp (disch := omega) only [wC, if_pos, if_neg])); refine hJ12 _ _ ?_; refine hK9 _ _ ?_; refine sq fun K13 hK13 => ?_; refine sq fun K14 hK14 => ?_
     first | (obtain ⟨a0, a1, a2, a3, a4, a5, a6, a7, a8, a9, a10, a11, a12, a13, a14, a15, a16, a17, a18, a19, a20, rfl, -⟩ := wk21 hX hXc; have hXe := List.all_eq_true.1 hXc; simp [AV.isCell] at hXe; replace F := aF hXe F) | skip
     refine rg' (h := fun J15 hJ15 => ?_); refine gs 25 (fun g6_2 => ?_) (fun g6_2 => ?_)
     · (try exact nope g6_2); all_goals have g6_2p := g6_2; try simp [F] at g6_2p
       all_goals
        replace F := aF g6_2 F; (try replace F := aF g6_2p F); (iterate 6 refine no2 (k := ?_)); refine hJ15 _ _ ?_; refine hK14 _ _ ?_; refine ct ?_; refine sr fun _ hJ17 => ?_; refine hJ17 _ _ ?_; refine run_ret ?_; (try simp only [Then, InBlock, NoGoto]); refine acell2 (h := ?_); exact gcr
     (try exact nope g6_2); all_goals have g6_2p := g6_2; try simp [F] at g6_2p
     all_goals
      replace F := aF g6_2 F; (try replace F := aF g6_2p F); refine go2 (k := ?_)
      refine ca (c := hend (by simp [F])) (k := ?_)
      rintro _ _ ⟨rfl, rfl⟩; (repeat (first | simp [F] | simp (disch := omega) only [wC, if_pos, if_neg])); refine go2 (k := ?_); refine gs 30 (fun g6_7 => ?_) (fun g6_7 => ?_)
      · (try exact nope g6_7); all_goals have g6_7p := g6_7; try simp [F] at g6_7p
        all_goals
         replace F := aF g6_7 F; (try replace F := aF g6_7p F); (iterate 3 refine no2 (k := ?_)); refine hJ15 _ _ ?_; refine hK14 _ _ ?_; refine ct ?_; refine sr fun _ hJ19 => ?_; refine hJ19 _ _ ?_; refine run_ret ?_; (try simp only [Then, InBlock, NoGoto]); refine acell2 (h := ?_)
         have hDf : D = false := by (rw [hD]; have h := g6_7; simp at h; simp [h])
         rw [hM, hDf]
         exact gcr (hA := WkL.tup (.cons (WkL.agg zero_wk) (.cons (Wk.refl _) .nil)))
      (try exact nope g6_7); all_goals have g6_7p := g6_7; try simp [F] at g6_7p
      all_goals
       replace F := aF g6_7 F; (try replace F := aF g6_7p F); refine go2 (k := ?_); refine ca (c := hmr _ _ hX) (k := ?_); rintro _ _ ⟨rfl, rfl⟩; (repeat (first | simp [F] | simp (disch := omega) only [wC, if_pos, if_neg])); refine go2 (k := ?_); refine hJ15 _ _ ?_; refine hK14 _ _ ?_; refine cs (t := !R) (fun c34 => ?_) (fun c34 => ?_)
       · (try exact nope c34); all_goals have c34p := c34; try simp [F] at c34p
         all_goals
          replace F := aF c34 F; (try replace F := aF c34p F); refine sr fun _ hJ21 => ?_; refine hJ21 _ _ ?_; refine run_ret ?_; (try simp only [Then, InBlock, NoGoto]); refine acell2 (h := ?_)
          have hDf : D = false := by (rw [hD]; have h := c34; simp at h; simp [h])
          rw [hM, hDf]
          exact gcr (hA := WkL.tup (.cons (WkL.agg zero_wk) (.cons (Wk.refl _) .nil)))
       (try exact nope c34); all_goals have c34p := c34; try simp [F] at c34p
       all_goals
        replace F := aF c34 F; (try replace F := aF c34p F); refine run_skip ?_; refine hK13 _ _ ?_; refine sr fun _ hJ23 => ?_; refine hJ23 _ _ ?_; refine run_ret ?_; (try simp only [Then, InBlock, NoGoto]); refine acell2 (h := ?_)
        have hDt : D = true := by (rw [hD, hk1]; have h1 := g6_7; have h2 := c34; simp at h1 h2; simp [h1, h2])
        rw [hM, hDt]
        exact gcr (hA := WkL.tup (.cons (WkL.agg hX) (.cons (Wk.refl _) .nil)))
  (try exact nope c19); all_goals have c19p := c19; try simp [F] at c19p
  all_goals
   replace F := aF c19 F; try replace F := aF c19p F
   have hk1 : k0 = false := c19
   refine run_skip ?_; refine hK9 _ _ ?_; refine sq fun K24 hK24 => ?_; refine sq fun K25 hK25 => ?_
   first | (obtain ⟨a0, a1, a2, a3, a4, a5, a6, a7, a8, a9, a10, a11, a12, a13, a14, a15, a16, a17, a18, a19, a20, rfl, -⟩ := wk21 hX hXc; have hXe := List.all_eq_true.1 hXc; simp [AV.isCell] at hXe; replace F := aF hXe F) | skip
   refine rg' (h := fun J26 hJ26 => ?_); refine gs 25 (fun g6_2 => ?_) (fun g6_2 => ?_)
   · (try exact nope g6_2); all_goals have g6_2p := g6_2; try simp [F] at g6_2p
     all_goals
      replace F := aF g6_2 F; (try replace F := aF g6_2p F); (iterate 6 refine no2 (k := ?_)); refine hJ26 _ _ ?_; refine hK25 _ _ ?_; refine ct ?_; refine sr fun _ hJ28 => ?_; refine hJ28 _ _ ?_; refine run_ret ?_; (try simp only [Then, InBlock, NoGoto]); refine acell2 (h := ?_)
      have hDf : D = false := by (rw [hD, hk1]; rfl)
      rw [hM, hDf]
      exact gcr (hA := WkL.tup (.cons (WkL.agg zero_wk) (.cons (Wk.refl _) .nil)))
   (try exact nope g6_2); all_goals have g6_2p := g6_2; try simp [F] at g6_2p
   all_goals
    replace F := aF g6_2 F; (try replace F := aF g6_2p F); refine go2 (k := ?_)
    refine ca (c := hend (by simp [F])) (k := ?_)
    rintro _ _ ⟨rfl, rfl⟩; (repeat (first | simp [F] | simp (disch := omega) only [wC, if_pos, if_neg])); refine go2 (k := ?_); refine gs 30 (fun g6_7 => ?_) (fun g6_7 => ?_)
    · (try exact nope g6_7); all_goals have g6_7p := g6_7; try simp [F] at g6_7p
      all_goals
       replace F := aF g6_7 F; (try replace F := aF g6_7p F); (iterate 3 refine no2 (k := ?_)); refine hJ26 _ _ ?_; refine hK25 _ _ ?_; refine ct ?_; refine sr fun _ hJ30 => ?_; refine hJ30 _ _ ?_; refine run_ret ?_; (try simp only [Then, InBlock, NoGoto]); refine acell2 (h := ?_)
       have hDf : D = false := by (rw [hD, hk1]; rfl)
       rw [hM, hDf]
       exact gcr (hA := WkL.tup (.cons (WkL.agg zero_wk) (.cons (Wk.refl _) .nil)))
    (try exact nope g6_7); all_goals have g6_7p := g6_7; try simp [F] at g6_7p
    all_goals
     replace F := aF g6_7 F; (try replace F := aF g6_7p F); refine go2 (k := ?_); refine ca (c := hmr _ _ hX) (k := ?_); rintro _ _ ⟨rfl, rfl⟩; (repeat (first | simp [F] | simp (disch := omega) only [wC, if_pos, if_neg])); refine go2 (k := ?_); refine hJ26 _ _ ?_; refine hK25 _ _ ?_; refine cs (t := !R) (fun c34 => ?_) (fun c34 => ?_)
     · (try exact nope c34); all_goals have c34p := c34; try simp [F] at c34p
       all_goals
        replace F := aF c34 F; (try replace F := aF c34p F); refine sr fun _ hJ32 => ?_; refine hJ32 _ _ ?_; refine run_ret ?_; (try simp only [Then, InBlock, NoGoto]); refine acell2 (h := ?_)
        have hDf : D = false := by (rw [hD, hk1]; rfl)
        rw [hM, hDf]
        exact gcr (hA := WkL.tup (.cons (WkL.agg zero_wk) (.cons (Wk.refl _) .nil)))
     (try exact nope c34); all_goals have c34p := c34; try simp [F] at c34p
     all_goals
      replace F := aF c34 F; (try replace F := aF c34p F); refine run_skip ?_; refine hK24 _ _ ?_; refine sr fun _ hJ34 => ?_; refine hJ34 _ _ ?_; refine run_ret ?_; (try simp only [Then, InBlock, NoGoto]); refine acell2 (h := ?_)
      have hDf : D = false := by (rw [hD, hk1]; rfl)
      rw [hM, hDf]
      exact gcr (hA := WkL.tup (.cons (WkL.agg zero_wk) (.cons (Wk.refl _) .nil)))

def endM (v : UInt8) : Msg := ⟨36, 0, 0, [], 0, v, 0, ⟨0, by decide⟩, [], [], ⟨0, 0, 0, [], []⟩, 0, 0, false⟩
theorem endM_ok (v : UInt8) : (endM v).Ok := ⟨by simp [endM], by simp [endM], by simp [endM], by simp [endM], by simp [endM], by simp [endM, Pln.Ok], by simp [endM], by simp [endM]⟩
theorem end_wk0 : WkL [.v (.int .u8 36), .v (.int .u8 0), .v (.int .u64 0), .sl 0 [] 0 .full, .v (.int .u8 0), .v (.int .u8 0), .v (.int .u8 0), .v (.int .u64 0), .v (.int .u64 0), .v (.int .u64 0), .v (.int .u64 0), .sl 0 [] 0 .full, .sl 0 [] 0 .full, .v (.int .u8 0), .v (.int .u64 0), .v (.int .u64 0), .sl 0 [] 0 .full, .sl 0 [] 0 .full, .v (.int .u64 0), .v (.int .u16 0), .v (.bool false)] (msgC (endM 0)) := by
  have hl : ∀ i, limb 0 i = 0 := by intro i; simp [limb]
  simp only [msgC, endM, hl]
  repeat (first | exact WkL.nil | refine WkL.cons (Wk.nil _ _ _) ?_ | refine WkL.cons (Wk.refl _) ?_)
theorem end_wk1 : WkL [.v (.int .u8 36), .v (.int .u8 0), .v (.int .u64 0), .sl 0 [] 0 .full, .v (.int .u8 0), .v (.int .u8 1), .v (.int .u8 0), .v (.int .u64 0), .v (.int .u64 0), .v (.int .u64 0), .v (.int .u64 0), .sl 0 [] 0 .full, .sl 0 [] 0 .full, .v (.int .u8 0), .v (.int .u64 0), .v (.int .u64 0), .sl 0 [] 0 .full, .sl 0 [] 0 .full, .v (.int .u64 0), .v (.int .u16 0), .v (.bool false)] (msgC (endM 1)) := by
  have hl : ∀ i, limb 0 i = 0 := by intro i; simp [limb]
  simp only [msgC, endM, hl]
  repeat (first | exact WkL.nil | refine WkL.cons (Wk.nil _ _ _) ?_ | refine WkL.cons (Wk.refl _) ?_)
set_option maxHeartbeats 1600000 in
attribute [local simp] undefA List.getElem?_cons_zero List.getElem?_cons_succ in
theorem ends_ok {σ : St} : CallsA Try.prog 49 [] σ (fun av σ' => av = .v (.bool true) ∧ σ = σ') := by
  refine callsA_gcS ?_ rfl
  have c1 : ∀ τ, CallsA Try.prog 54 [.agg [.v (.int .u8 36), .v (.int .u8 0), .v (.int .u64 0), .sl 0 [] 0 .full, .v (.int .u8 0), .v (.int .u8 0), .v (.int .u8 0), .v (.int .u64 0), .v (.int .u64 0), .v (.int .u64 0), .v (.int .u64 0), .sl 0 [] 0 .full, .sl 0 [] 0 .full, .v (.int .u8 0), .v (.int .u64 0), .v (.int .u64 0), .sl 0 [] 0 .full, .sl 0 [] 0 .full, .v (.int .u64 0), .v (.int .u16 0), .v (.bool false)]] τ (fun av σ' => av = .tup [.sl 1 [.v (.int .u8 36)] 1 .shut, .v (.int .i64 0)] ∧ τ = σ') := fun τ => by
    have h := callsA_wk (σ := τ) (.cons (WkL.agg end_wk0) .nil) (encode_ok (endM_ok 0))
    rw [show rightM (endM 0) = true by decide +kernel, show encM (endM 0) = [36] by decide +kernel] at h
    exact h
  have c2 : ∀ τ, CallsA Try.prog 54 [.agg [.v (.int .u8 36), .v (.int .u8 0), .v (.int .u64 0), .sl 0 [] 0 .full, .v (.int .u8 0), .v (.int .u8 1), .v (.int .u8 0), .v (.int .u64 0), .v (.int .u64 0), .v (.int .u64 0), .v (.int .u64 0), .sl 0 [] 0 .full, .sl 0 [] 0 .full, .v (.int .u8 0), .v (.int .u64 0), .v (.int .u64 0), .sl 0 [] 0 .full, .sl 0 [] 0 .full, .v (.int .u64 0), .v (.int .u16 0), .v (.bool false)]] τ (fun av σ' => av = .tup [.sl 1 [] 0 .shut, .v (.int .i64 4)] ∧ τ = σ') := fun τ => by
    have h := callsA_wk (σ := τ) (.cons (WkL.agg end_wk1) .nil) (encode_ok (endM_ok 1))
    rw [show rightM (endM 1) = false by decide +kernel] at h
    exact h
  have c3 : ∀ τ, CallsA Try.prog 55 [.sl 1 [.v (.int .u8 36), .v (.int .u8 0)] 2 .full] τ (fun av σ' => av = .tup [.agg (msgC zeroM), .v (.int .i64 4)] ∧ τ = σ') := fun τ => by
    have h := decode_ok (σ := τ) (p := [36, 0]) (tl := .full) (by decide)
    have hb : decB [36, 0] = false := by decide +kernel
    rw [show decM [36, 0] = zeroM by (unfold decM; rw [hb]; rfl), hb] at h
    exact h
  have hdr2 : ∀ f : Nat → AV, List.drop 2 (List.map f (List.range 2)) = [] := fun _ => rfl
  have hd21 : ∀ f : Nat → AV, List.drop 21 (List.map f (List.range 21)) = [] := fun _ => rfl
  simp only [msgC, zeroM] at c3
  have F := And.intro hdr2 (And.intro hd21 (True.intro))
  refine callsA_body Try.func49 rfl rfl rfl ?_; refine sr fun _ hJ2 => ?_; refine hJ2 _ _ ?_; refine sr fun _ hJ4 => ?_; refine ca (c := c1 _) (k := ?_); rintro _ _ ⟨rfl, rfl⟩; (repeat (first | simp [F] | simp (disch := omega) only [wC, if_pos, if_neg])); refine hJ4 _ _ ?_; refine sr fun _ hJ6 => ?_; refine ca (c := c3 _) (k := ?_); rintro _ _ ⟨rfl, rfl⟩; (repeat (first | simp [F] | simp (disch := omega) only [wC, if_pos, if_neg])); refine hJ6 _ _ ?_; refine sr fun _ hJ8 => ?_; refine ca (c := c2 _) (k := ?_); rintro _ _ ⟨rfl, rfl⟩; (repeat (first | simp [F] | simp (disch := omega) only [wC, if_pos, if_neg])); refine hJ8 _ _ ?_; refine sr fun _ hJ10 => ?_; refine gs 25 (fun g4_3 => ?_) (fun g4_3 => ?_)
  · (try exact nope g4_3); all_goals have g4_3p := g4_3; try simp [F] at g4_3p
    all_goals
     replace F := aF g4_3 F; (try replace F := aF g4_3p F); (iterate 4 refine go2 (k := ?_)); refine gs 31 (fun g4_9 => ?_) (fun g4_9 => ?_)
     · (try exact nope g4_9); all_goals have g4_9p := g4_9; try simp [F] at g4_9p
       all_goals
        replace F := aF g4_9 F; (try replace F := aF g4_9p F); (iterate 2 refine go2 (k := ?_)); refine gs 35 (fun g4_13 => ?_) (fun g4_13 => ?_)
        · (try exact nope g4_13); all_goals have g4_13p := g4_13; try simp [F] at g4_13p
          all_goals
           replace F := aF g4_13 F; (try replace F := aF g4_13p F); (iterate 2 refine go2 (k := ?_)); refine gs 39 (fun g4_17 => ?_) (fun g4_17 => ?_)
           · (try exact nope g4_17); all_goals have g4_17p := g4_17; try simp [F] at g4_17p
             all_goals
              replace F := aF g4_17 F; (try replace F := aF g4_17p F); (iterate 2 refine go2 (k := ?_)); refine hJ10 _ _ ?_; refine ra ?_; exact gcr
           (try exact nope g4_17); all_goals have g4_17p := g4_17; try simp [F] at g4_17p
           all_goals
            replace F := aF g4_17 F; (try replace F := aF g4_17p F); (iterate 2 refine no2 (k := ?_)); refine hJ10 _ _ ?_; refine ra ?_; exact gcr
        (try exact nope g4_13); all_goals have g4_13p := g4_13; try simp [F] at g4_13p
        all_goals
         replace F := aF g4_13 F; (try replace F := aF g4_13p F); (iterate 4 refine no2 (k := ?_)); refine hJ10 _ _ ?_; refine ra ?_; exact gcr
     (try exact nope g4_9); all_goals have g4_9p := g4_9; try simp [F] at g4_9p
     all_goals
      replace F := aF g4_9 F; (try replace F := aF g4_9p F); (iterate 6 refine no2 (k := ?_)); refine hJ10 _ _ ?_; refine ra ?_; exact gcr
  (try exact nope g4_3); all_goals have g4_3p := g4_3; try simp [F] at g4_3p
  all_goals
   replace F := aF g4_3 F; (try replace F := aF g4_3p F); (iterate 10 refine no2 (k := ?_)); refine hJ10 _ _ ?_; refine ra ?_; exact gcr

def smallM (m : Msg) : Bool := decide (m.fee.length ≤ 12) && decide (m.c.length ≤ 12) && decide (m.outs.length ≤ 20) && decide (m.p.tot.length ≤ 12) && decide (m.p.ps.length ≤ 20) && m.outs.all (fun x => decide (x.c.length ≤ 12)) && m.p.ps.all (fun x => decide (x.c.length ≤ 12))
set_option maxHeartbeats 1600000 in
attribute [local simp] undefA List.getElem?_cons_zero List.getElem?_cons_succ msgC outC perC outsC_noObj persC_noObj in
theorem small_ok {σ : St} {m : Msg} (hm : m.Ok) :
    CallsA Try.prog 50 [.agg (msgC m)] σ (fun av σ' => av = .v (.bool (smallM m)) ∧ σ = σ') := by
  refine callsA_gcS ?_ rfl
  obtain ⟨h1, h2, h3, h4, h5, h6, h7, h8⟩ := hm
  obtain ⟨G, hG⟩ : ∃ G, G = smallM m := ⟨_, rfl⟩
  rw [← hG]
  unfold smallM at hG
  obtain ⟨x1, x2, x3, x4, x5, x6, x7, x8, x9, x10, x11, x12, x13, x14⟩ := m
  obtain ⟨xpk, xps, xpe, xpt, xpq⟩ := x11
  obtain ⟨p1, p2, p3, p4, p5⟩ := h6
  simp only at hG h2 h3 h4 p3 p4
  obtain ⟨B, hB⟩ : ∃ B, B = !(decide (x4.length ≤ 12) && decide (x9.length ≤ 12) && decide (x10.length ≤ 20) && decide (xpt.length ≤ 12) && decide (xpq.length ≤ 20)) := ⟨_, rfl⟩
  have hG2 : G = (!B && x10.all (fun x => decide (x.c.length ≤ 12)) && xpq.all (fun x => decide (x.c.length ≤ 12))) := by rw [hG, hB]; simp only [Bool.not_not]
  clear hG
  have F := True.intro
  refine callsA_body Try.func50 rfl rfl rfl ?_; refine sr fun _ hJ2 => ?_; refine hJ2 _ _ ?_; refine sq fun K3 hK3 => ?_; refine sqc (X := Unit) [1, 2] (fun z ρ σ1 => (ρ 34 = .v (.bool B)) ∧ (σ1 = { σ with objs := σ.objs ++ [[.v (.int .u8 x1.toNat), .v (.int .u8 x2.toNat), .v (.int .u64 x3), .sl 5 (coinsC x4) x4.length .shut, .v (.int .u8 x5.toNat), .v (.int .u8 x6.toNat), .v (.int .u8 x7.toNat), .v (.int .u64 (limb x8.v 0)), .v (.int .u64 (limb x8.v 1)), .v (.int .u64 (limb x8.v 2)), .v (.int .u64 (limb x8.v 3)), .sl 5 (coinsC x9) x9.length .shut, .sl 2 (outsC x10) x10.length .shut, .v (.int .u8 xpk.toNat), .v (.int .u64 xps), .v (.int .u64 xpe), .sl 5 (coinsC xpt) xpt.length .shut, .sl 2 (persC xpq) xpq.length .shut, .v (.int .u64 x12), .v (.int .u16 x13), .v (.bool x14)]] })) ?cy4 ?cx4
  case cy4 =>
   rintro z ρCr1 σ1 hFCr1 ⟨h34, hσ⟩; obtain rfl := hσ.symm
   have fCr1 := keepL hFCr1
   (try simp [KeepL, F] at fCr1); replace F := aF h34 F; (try replace F := aF fCr1 F); refine cs (t := B) (fun c34 => ?_) (fun c34 => ?_)
   · (try exact nope c34); all_goals have c34p := c34; try simp [F] at c34p
     all_goals
      replace F := aF c34 F; try replace F := aF c34p F
      have h0 : G = false := by rw [hG2, c34]; rfl
      replace F := aF h0 F; refine sr fun _ hJ6 => ?_; refine hJ6 _ _ ?_; refine ra ?_; exact gcr
   (try exact nope c34); all_goals have c34p := c34; try simp [F] at c34p
   all_goals
    replace F := aF c34 F; (try replace F := aF c34p F); refine run_skip ?_; refine hK3 _ _ ?_; refine sq fun K7 hK7 => ?_; refine sr fun _ hJ9 => ?_; refine hJ9 _ _ ?_; refine run_block_k ?_; refine run_loopF (X := Nat) [1] (fun i ρ σ1 => (i ≤ x10.length) ∧ (x10.all (fun x ↦ decide (x.c.length ≤ 12)) = (x10.drop i).all (fun x ↦ decide (x.c.length ≤ 12))) ∧ (ρ 3 = .v (.int .i64 i)) ∧ (σ1 = { σ with objs := σ.objs ++ [[.v (.int .u8 x1.toNat), .v (.int .u8 x2.toNat), .v (.int .u64 x3), .sl 5 (coinsC x4) x4.length .shut, .v (.int .u8 x5.toNat), .v (.int .u8 x6.toNat), .v (.int .u8 x7.toNat), .v (.int .u64 (limb x8.v 0)), .v (.int .u64 (limb x8.v 1)), .v (.int .u64 (limb x8.v 2)), .v (.int .u64 (limb x8.v 3)), .sl 5 (coinsC x9) x9.length .shut, .sl 2 (outsC x10) x10.length .shut, .v (.int .u8 xpk.toNat), .v (.int .u64 xps), .v (.int .u64 xpe), .sl 5 (coinsC xpt) xpt.length .shut, .sl 2 (persC xpq) xpq.length .shut, .v (.int .u64 x12), .v (.int .u16 x13), .v (.bool x14)]] })) (fun i => x10.length - i) (0) ?st1 ?rd1
    case st1 =>
     refine ⟨lp, ?_, lp, ?_⟩
     · rfl
     · rfl
    case rd1 =>
     rintro i ρ1 σ1 hF1 ⟨hi, hE, h3, hσ⟩; obtain rfl := hσ.symm
     have f1 := keepL hF1
     (try simp [KeepL, F] at f1); replace F := aF h3 F; (try replace F := aF f1 F); refine sq fun K10 hK10 => ?_; refine sr fun _ hJ12 => ?_; refine hJ12 _ _ ?_; refine cs (fun c39 => ?_) (fun c39 => ?_)
     · (try exact nope c39); all_goals have c39p := c39; try simp [F] at c39p
       all_goals
        replace F := aF c39 F; (try replace F := aF c39p F); refine run_skip ?_; refine hK10 _ _ ?_; refine sq fun K13 hK13 => ?_; refine run_block_k ?_; refine sq fun K14 hK14 => ?_
        have hlt : i < x10.length := by have h := c39; simp at h; omega
        have hat := outsC_at hlt
        have hq1 : i * 2 + 2 ≤ x10.length * 2 := by omega
        have hcons : x10.drop i = x10[i] :: x10.drop (i + 1) := List.drop_eq_getElem_cons hlt
        obtain ⟨x, hx⟩ : ∃ x, x = x10[i] := ⟨_, rfl⟩
        rw [← hx] at hat hcons
        rw [hcons, List.all_cons] at hE
        obtain ⟨xl, xc⟩ := x
        simp only at hE
        replace F := aF hlt F; replace F := aF hat F; replace F := aF hq1 F; refine rg' (h := fun J15 hJ15 => ?_); refine hJ15 _ _ ?_; refine hK14 _ _ ?_; refine cs (fun c49 => ?_) (fun c49 => ?_)
        · (try exact nope c49); all_goals have c49p := c49; try simp [F] at c49p
          all_goals
           replace F := aF c49 F; try replace F := aF c49p F
           have h0 : G = false := by (have h := c49; simp at h; rw [hG2, hE, decide_eq_false (by omega)]; simp)
           replace F := aF h0 F; refine sr fun _ hJ17 => ?_; refine hJ17 _ _ ?_; refine ra ?_; exact gcr
        (try exact nope c49); all_goals have c49p := c49; try simp [F] at c49p
        all_goals
         replace F := aF c49 F; (try replace F := aF c49p F); refine run_skip ?_; refine hK13 _ _ ?_; refine rg' (h := fun J18 hJ18 => ?_); refine hJ18 _ _ ?_; refine ⟨(i + 1), ⟨kp, lp, ?_, lp, lp⟩, lp⟩
         · have h := c49
           simp at h
           rw [hE, decide_eq_true (by omega)]
           rfl
     (try exact nope c39); all_goals have c39p := c39; try simp [F] at c39p
     all_goals
      replace F := aF c39 F; try replace F := aF c39p F
      have hA1 : x10.all (fun x ↦ decide (x.c.length ≤ 12)) = true := by rw [hE, List.drop_of_length_le (by have h := c39; simp at h; omega)]; rfl
      refine run_exit ?_; refine hK7 _ _ ?_; refine sq fun K19 hK19 => ?_; refine sr fun _ hJ21 => ?_; refine hJ21 _ _ ?_; refine run_block_k ?_; refine run_loopF (X := Nat) [1] (fun i ρ σ1 => (i ≤ xpq.length) ∧ (xpq.all (fun x ↦ decide (x.c.length ≤ 12)) = (xpq.drop i).all (fun x ↦ decide (x.c.length ≤ 12))) ∧ (ρ 4 = .v (.int .i64 i)) ∧ (σ1 = { σ with objs := σ.objs ++ [[.v (.int .u8 x1.toNat), .v (.int .u8 x2.toNat), .v (.int .u64 x3), .sl 5 (coinsC x4) x4.length .shut, .v (.int .u8 x5.toNat), .v (.int .u8 x6.toNat), .v (.int .u8 x7.toNat), .v (.int .u64 (limb x8.v 0)), .v (.int .u64 (limb x8.v 1)), .v (.int .u64 (limb x8.v 2)), .v (.int .u64 (limb x8.v 3)), .sl 5 (coinsC x9) x9.length .shut, .sl 2 (outsC x10) x10.length .shut, .v (.int .u8 xpk.toNat), .v (.int .u64 xps), .v (.int .u64 xpe), .sl 5 (coinsC xpt) xpt.length .shut, .sl 2 (persC xpq) xpq.length .shut, .v (.int .u64 x12), .v (.int .u16 x13), .v (.bool x14)]] })) (fun i => xpq.length - i) (0) ?st2 ?rd2
      case st2 =>
       refine ⟨lp, ?_, lp, ?_⟩
       · rfl
       · rfl
      case rd2 =>
       rintro i ρ2 σ1 hF2 ⟨hi, hE, h4, hσ⟩; obtain rfl := hσ.symm
       have f2 := keepL hF2
       (try simp [KeepL, F] at f2); replace F := aF h4 F; (try replace F := aF f2 F); refine sq fun K22 hK22 => ?_; refine sr fun _ hJ24 => ?_; refine hJ24 _ _ ?_; refine cs (fun c55 => ?_) (fun c55 => ?_)
       · (try exact nope c55); all_goals have c55p := c55; try simp [F] at c55p
         all_goals
          replace F := aF c55 F; (try replace F := aF c55p F); refine run_skip ?_; refine hK22 _ _ ?_; refine sq fun K25 hK25 => ?_; refine run_block_k ?_; refine sq fun K26 hK26 => ?_
          have hlt : i < xpq.length := by have h := c55; simp at h; omega
          have hat := persC_at hlt
          have hq1 : i * 2 + 2 ≤ xpq.length * 2 := by omega
          have hcons : xpq.drop i = xpq[i] :: xpq.drop (i + 1) := List.drop_eq_getElem_cons hlt
          obtain ⟨x, hx⟩ : ∃ x, x = xpq[i] := ⟨_, rfl⟩
          rw [← hx] at hat hcons
          rw [hcons, List.all_cons] at hE
          obtain ⟨xl, xc⟩ := x
          simp only at hE
          replace F := aF hlt F; replace F := aF hat F; replace F := aF hq1 F; refine rg' (h := fun J27 hJ27 => ?_); refine hJ27 _ _ ?_; refine hK26 _ _ ?_; refine cs (fun c66 => ?_) (fun c66 => ?_)
          · (try exact nope c66); all_goals have c66p := c66; try simp [F] at c66p
            all_goals
             replace F := aF c66 F; try replace F := aF c66p F
             have h0 : G = false := by (have h := c66; simp at h; rw [hG2, hE, decide_eq_false (by omega)]; simp)
             replace F := aF h0 F; refine sr fun _ hJ29 => ?_; refine hJ29 _ _ ?_; refine ra ?_; exact gcr
          (try exact nope c66); all_goals have c66p := c66; try simp [F] at c66p
          all_goals
           replace F := aF c66 F; (try replace F := aF c66p F); refine run_skip ?_; refine hK25 _ _ ?_; refine rg' (h := fun J30 hJ30 => ?_); refine hJ30 _ _ ?_; refine ⟨(i + 1), ⟨kp, lp, ?_, lp, lp⟩, lp⟩
           · have h := c66
             simp at h
             rw [hE, decide_eq_true (by omega)]
             rfl
       (try exact nope c55); all_goals have c55p := c55; try simp [F] at c55p
       all_goals
        replace F := aF c55 F; try replace F := aF c55p F
        have h0 : G = true := by rw [hG2, c34, hA1, hE, List.drop_of_length_le (by have h := c55; simp at h; omega)]; rfl
        replace F := aF h0 F; refine run_exit ?_; refine hK19 _ _ ?_; refine sr fun _ hJ32 => ?_; refine hJ32 _ _ ?_; refine ra ?_; exact gcr
  case cx4 =>
   intro K4 hK4
   refine rg' (h := fun J33 hJ33 => ?_); refine gs 9 (fun g1_4 => ?_) (fun g1_4 => ?_)
   · (try exact nope g1_4); all_goals have g1_4p := g1_4; try simp [F] at g1_4p
     all_goals
      replace F := aF g1_4 F; try replace F := aF g1_4p F
      have hq4 : ¬ x4.length ≤ 12 := by have h := g1_4; simp at h; omega
      replace F := aF hq4 F; (iterate 18 refine no2 (k := ?_)); refine hJ33 _ _ ?_; refine hK4 (()) _ _ ⟨kp, ?_, lp⟩
      · rw [hB]
        simp [F]
        (try (rw [Bool.eq_iff_iff]; simp)); all_goals try omega
   (try exact nope g1_4); all_goals have g1_4p := g1_4; try simp [F] at g1_4p
   all_goals
    replace F := aF g1_4 F; try replace F := aF g1_4p F
    have hq4 : x4.length ≤ 12 := by have h := g1_4; simp at h; omega
    replace F := aF hq4 F; (iterate 4 refine go2 (k := ?_)); refine gs 15 (fun g1_10 => ?_) (fun g1_10 => ?_)
    · (try exact nope g1_10); all_goals have g1_10p := g1_10; try simp [F] at g1_10p
      all_goals
       replace F := aF g1_10 F; try replace F := aF g1_10p F
       have hq10 : ¬ x9.length ≤ 12 := by have h := g1_10; simp at h; omega
       replace F := aF hq10 F; (iterate 14 refine no2 (k := ?_)); refine hJ33 _ _ ?_; refine hK4 (()) _ _ ⟨kp, ?_, lp⟩
       · rw [hB]
         simp [F]
         (try (rw [Bool.eq_iff_iff]; simp)); all_goals try omega
    (try exact nope g1_10); all_goals have g1_10p := g1_10; try simp [F] at g1_10p
    all_goals
     replace F := aF g1_10 F; try replace F := aF g1_10p F
     have hq10 : x9.length ≤ 12 := by have h := g1_10; simp at h; omega
     replace F := aF hq10 F; (iterate 4 refine go2 (k := ?_)); refine gs 21 (fun g1_16 => ?_) (fun g1_16 => ?_)
     · (try exact nope g1_16); all_goals have g1_16p := g1_16; try simp [F] at g1_16p
       all_goals
        replace F := aF g1_16 F; try replace F := aF g1_16p F
        have hq16 : ¬ x10.length ≤ 20 := by have h := g1_16; simp at h; omega
        replace F := aF hq16 F; (iterate 10 refine no2 (k := ?_)); refine hJ33 _ _ ?_; refine hK4 (()) _ _ ⟨kp, ?_, lp⟩
        · rw [hB]
          simp [F]
          (try (rw [Bool.eq_iff_iff]; simp)); all_goals try omega
     (try exact nope g1_16); all_goals have g1_16p := g1_16; try simp [F] at g1_16p
     all_goals
      replace F := aF g1_16 F; try replace F := aF g1_16p F
      have hq16 : x10.length ≤ 20 := by have h := g1_16; simp at h; omega
      replace F := aF hq16 F; (iterate 5 refine go2 (k := ?_)); refine gs 28 (fun g1_23 => ?_) (fun g1_23 => ?_)
      · (try exact nope g1_23); all_goals have g1_23p := g1_23; try simp [F] at g1_23p
        all_goals
         replace F := aF g1_23 F; try replace F := aF g1_23p F
         have hq23 : ¬ xpt.length ≤ 12 := by have h := g1_23; simp at h; omega
         replace F := aF hq23 F; (iterate 5 refine no2 (k := ?_)); refine hJ33 _ _ ?_; refine hK4 (()) _ _ ⟨kp, ?_, lp⟩
         · rw [hB]
           simp [F]
           (try (rw [Bool.eq_iff_iff]; simp)); all_goals try omega
      (try exact nope g1_23); all_goals have g1_23p := g1_23; try simp [F] at g1_23p
      all_goals
       replace F := aF g1_23 F; try replace F := aF g1_23p F
       have hq23 : xpt.length ≤ 12 := by have h := g1_23; simp at h; omega
       replace F := aF hq23 F; (iterate 5 refine go2 (k := ?_)); refine hJ33 _ _ ?_; refine hK4 (()) _ _ ⟨kp, ?_, lp⟩
       · rw [hB]
         simp [F]
         (try (rw [Bool.eq_iff_iff]; simp)); all_goals try omega
structure RSk where
  m : Nat
  s : Option (List UInt8)
  l : List Out
  k : Nat
end Go.Proofs.Ytdbaddholggkbaa

/-
  Messages that are made to be right: coins..
-/
namespace Go.Proofs.Ytdbaddholggkbaa
set_option linter.unnecessarySimpa false
set_option maxRecDepth 100000
open Go Go.Vm
set_option linter.unusedSimpArgs false
set_option linter.unusedVariables false
attribute [local simp] evalL wantedA isCall opA evalA evalAll evalsA evalOpt ofValue ofCell plain binA_eql_pn binA_neq_pn binA_gtr binA_lss binA_geq binA_leq binA_add binA_sub binA_eql binA_neq binA_orI binA_andI binA_shl binA_shr binA_mul binA_quo binA_rem binA_agg_eql binA_agg_neq convA_int unA_not fieldAddrA loadA partA pickA_true pickA_false pickA_bb lenA builtinA storeA splice AV.cells AV.isCell sliceA boundA intA callOf indexAddrA newObjA buildA fillA zeroA ofCells buildSliceA indexA fieldA numA_len4 numA_take4 numA_drop4 set_appN get_appN take_appN List.getElem?_cons_zero List.getElem?_cons_succ makeA zeros64

theorem num256 (n : Nat) : [AV.v (.int .u64 (limb n 0)), AV.v (.int .u64 (limb n 1)), AV.v (.int .u64 (limb n 2)), AV.v (.int .u64 (limb n 3))] = numA n := rfl
def puF : List Coin → Nat → Nat
  | [], _ => 0
  | c :: l, j => if ∃ b ∈ l, b.d.toNat % 8 = j then puF l j else if c.d.toNat % 8 = j then c.n.v else 0
theorem puF_lt : ∀ (l : List Coin) (j : Nat), puF l j < 2 ^ 256
  | [], _ => by simp [puF]
  | c :: l, j => by
    unfold puF
    split
    · exact puF_lt l j
    · split
      · exact c.n.h
      · decide
theorem puF_snoc : ∀ (l : List Coin) (c : Coin) (j : Nat), puF (l ++ [c]) j = if j = c.d.toNat % 8 then c.n.v else puF l j
  | [], c, j => by
    simp only [List.nil_append, puF]
    by_cases h : j = c.d.toNat % 8
    · rw [if_pos h, if_neg (by simp), if_pos h.symm]
    · rw [if_neg h, if_neg (by simp), if_neg (fun e => h e.symm)]
  | x :: l, c, j => by
    have ih := puF_snoc l c j
    rw [List.cons_append]
    unfold puF
    rw [ih]
    by_cases h : j = c.d.toNat % 8
    · rw [if_pos h, if_pos h, if_pos ⟨c, by simp, h.symm⟩]
    · rw [if_neg h, if_neg h]
      have : (∃ b ∈ l ++ [c], b.d.toNat % 8 = j) ↔ ∃ b ∈ l, b.d.toNat % 8 = j := by
        constructor
        · rintro ⟨b, hb, e⟩
          rcases List.mem_append.1 hb with hb | hb
          · exact ⟨b, hb, e⟩
          · simp at hb; subst hb; exact absurd e.symm h
        · rintro ⟨b, hb, e⟩; exact ⟨b, by simp [hb], e⟩
      by_cases h2 : ∃ b ∈ l, b.d.toNat % 8 = j
      · rw [if_pos (this.2 h2), if_pos h2]
      · rw [if_neg (fun h3 => h2 (this.1 h3)), if_neg h2]
def puL (l : List Coin) : List Coin := lstF (puF l) 8
theorem right_puL (l : List Coin) : Right (puL l) := right_lstF (fun d _ => puF_lt l d) 8 (by omega)

set_option maxHeartbeats 1600000 in
attribute [local simp] undefA List.getElem?_cons_zero List.getElem?_cons_succ in
theorem purse_ok {σ : St} {l : List Coin} {tl : Tail} (hl : l.length ≤ 1000000) :
    CallsA Try.prog 102 [.sl 5 (coinsC l) l.length tl] σ (fun av σ' => av = .sl 5 (coinsC (puL l)) (puL l).length .shut ∧ σ = σ') := by
  refine callsA_gcS ?_ (by simp [AV.under])
  have hPl := pur_len
  have hPt := pur_take
  have hPd := pur_drop
  have hPn : ∀ n g, noObjL n (purA (purF g)) = true := fun n g => purA_noObj n _
  have hPc := pur_all
  simp only [AV.isCell] at hPc
  have hlt8 : ∀ d, d < 8 → puF l d < 2 ^ 256 := fun d _ => puF_lt l d
  obtain ⟨R, hR⟩ : ∃ R, R = puL l := ⟨_, rfl⟩
  rw [← hR]
  have F := And.intro hPl (And.intro hPt (And.intro hPd (And.intro hPc (And.intro hPn (True.intro)))))
  refine callsA_body Try.func102 rfl rfl rfl ?_; refine sr fun _ hJ2 => ?_; refine hJ2 _ _ ?_; refine sr fun _ hJ4 => ?_; refine hJ4 _ _ ?_; refine sq fun K5 hK5 => ?_; refine sr fun _ hJ7 => ?_; refine hJ7 _ _ ?_; refine run_block_k ?_; refine run_loopF (X := Nat) [0, 2, 3] (fun i ρ σ1 => (i ≤ l.length) ∧ (ρ 4 = .v (.int .i64 i)) ∧ (σ1 = { σ with objs := σ.objs ++ [purA (purF (puF (l.take i)))] })) (fun i => l.length - i) (0) ?st1 ?rd1
  case st1 =>
   refine ⟨lp, lp, ?_⟩
   · simp only [List.take_zero, show puF [] = fun _ => 0 from rfl, purA_zero]
  case rd1 =>
   rintro i ρ1 σ1 hF1 ⟨hi, h4, hσ⟩; obtain rfl := hσ.symm
   have f1 := keepL hF1
   (try simp [KeepL, F] at f1); replace F := aF h4 F; (try replace F := aF f1 F); refine sq fun K8 hK8 => ?_; refine sr fun _ hJ10 => ?_; refine hJ10 _ _ ?_; refine cs (fun c8 => ?_) (fun c8 => ?_)
   · (try exact nope c8); all_goals have c8p := c8; try simp [F] at c8p
     all_goals
      replace F := aF c8 F; (try replace F := aF c8p F); refine run_skip ?_; refine hK8 _ _ ?_; refine sq fun K11 hK11 => ?_; refine run_block_k ?_
      have hlt : i < l.length := by simp at c8; omega
      have hat := coinsC_at hlt
      have hb1 : i * 5 + 5 ≤ l.length * 5 := by omega
      obtain ⟨c, hc⟩ : ∃ c, c = l[i] := ⟨_, rfl⟩
      rw [← hc] at hat
      simp only [coinC, numA, List.cons_append, List.nil_append] at hat
      have htk : l.take (i + 1) = l.take i ++ [c] := by rw [hc]; exact (List.take_append_getElem hlt).symm
      obtain ⟨D, hD⟩ : ∃ D, D = c.d.toNat := ⟨_, rfl⟩
      rw [← hD] at hat
      obtain ⟨e, he⟩ : ∃ e, e = D % 8 := ⟨_, rfl⟩
      have he8 : e < 8 := by omega
      have he5 : (e : Int) < 8 := by omega
      have hb2 : e * 4 + 4 ≤ 32 := by omega
      have hm1 : (D : Int) % 8 = (e : Int) := by omega
      have hm2 : (D : Int).tmod 8 = (e : Int) := by rw [Int.tmod_eq_emod_of_nonneg (by omega)]; exact hm1
      have hset := purA_set (P := purF (puF (l.take i))) (d := e) (by simpa using he8) c.n.v
      rw [purF_set] at hset
      have hnx : purF (fun j => if j = e then c.n.v else puF (l.take i) j) = purF (puF (l.take (i + 1))) := purF_congr (fun j _ => by rw [htk, puF_snoc, ← hD, ← he])
      rw [hnx, ← num256] at hset
      simp only [List.cons_append, List.nil_append] at hset
      replace F := aF hat F; replace F := aF hb1 F; replace F := aF hset F; replace F := aF he8 F; replace F := aF he5 F; replace F := aF hb2 F; replace F := aF hm1 F; replace F := aF hm2 F
      refine run_draw (by kernel_rfl) fun J12 hJ12 => ?_
      refine rp2 0 (k := ?_); refine rp2 1 (k := ?_); refine rp2 2 (k := ?_); refine rp2 3 (k := ?_); refine rp2 4 (k := ?_); refine rp2 5 (k := ?_); refine rp2 6 (k := ?_); refine rp2 7 (k := ?_); refine rp2 8 (k := ?_); refine rp2 9 (k := ?_); refine rp2 10 (k := ?_); refine rp2 11 (k := ?_); refine dop 12 rfl ?_; (repeat (first | simp [F] | simp (disch := omega) only [wC, if_pos, if_neg])); refine ⟨ln, ?_⟩; refine dd ?_; refine hJ12 _ _ ?_; refine hK11 _ _ ?_; refine rg' (h := fun J13 hJ13 => ?_); refine hJ13 _ _ ?_; refine ⟨(i + 1), ⟨kp, lp, lp, lp⟩, lp⟩
   (try exact nope c8); all_goals have c8p := c8; try simp [F] at c8p
   all_goals
    replace F := aF c8 F; try replace F := aF c8p F
    have hend : l.take i = l := List.take_of_length_le (by simp at c8; omega)
    rw [hend]
    refine run_exit ?_; refine hK5 _ _ ?_; refine sr fun _ hJ15 => ?_; refine ca (c := (show R = lstF (puF l) 8 from hR) ▸ rlist_ok hlt8) (k := ?_); rintro _ _ ⟨rfl, rfl⟩; (repeat (first | simp [F] | simp (disch := omega) only [wC, if_pos, if_neg])); refine hJ15 _ _ ?_; refine ra ?_; exact gcr

end Go.Proofs.Ytdbaddholggkbaa

/-
  Messages that are made to be right..
-/
namespace Go.Proofs.Ytdbaddholggkbaa
set_option linter.unnecessarySimpa false
set_option maxRecDepth 100000
open Go Go.Vm
set_option linter.unusedSimpArgs false
set_option linter.unusedVariables false
attribute [local simp] evalL wantedA isCall opA evalA evalAll evalsA evalOpt ofValue ofCell plain binA_eql_pn binA_neq_pn binA_gtr binA_lss binA_geq binA_leq binA_add binA_sub binA_eql binA_neq binA_orI binA_andI binA_shl binA_shr binA_mul binA_quo binA_rem binA_agg_eql binA_agg_neq convA_int unA_not fieldAddrA loadA partA pickA_true pickA_false pickA_bb builtinA storeA splice AV.cells AV.isCell sliceA boundA intA callOf indexAddrA newObjA buildA fillA zeroA ofCells buildSliceA indexA fieldA numA_len4 numA_take4 numA_drop4 set_appN get_appN take_appN List.getElem?_cons_zero List.getElem?_cons_succ makeA zeros64

def kindF (k : UInt8) : UInt8 := [1, 2, 3, 4, 5, 6, 7, 8, 9, 10, 11, 32, 33, 34, 35, 36].getD (k.toNat % 16) 0
def outF (x : Out) : Out := ⟨x.t % 200, puL x.c⟩
def outsF (l : List Out) : List Out := if (l.take 16).map outF = [] then [⟨1, []⟩] else (l.take 16).map outF
def threeP : Pln := ⟨4, 0, 0, [⟨0, Num.of 3⟩], []⟩
def planF (p : Pln) : Pln := if rightB p = true ∧ ¬ p.k = 0 then p else threeP
def fit0 (m : Msg) : Msg := ⟨kindF m.k, m.f % 200, m.s, puL m.fee, m.t % 200, m.v % 16, m.o % 16, m.n, puL m.c, outsF m.outs, planF m.p, m.tm % 1099511627777, m.pt % 10001, m.j⟩
def fitM (m : Msg) : Msg := onlyM (fit0 m)
theorem kind_at (k : UInt8) : List.drop (k.toNat % 16) [.v (.int .u8 1), .v (.int .u8 2), .v (.int .u8 3), .v (.int .u8 4), .v (.int .u8 5), .v (.int .u8 6), .v (.int .u8 7), .v (.int .u8 8), .v (.int .u8 9), .v (.int .u8 10), .v (.int .u8 11), .v (.int .u8 32), .v (.int .u8 33), .v (.int .u8 34), .v (.int .u8 35), .v (.int .u8 36)] = .v (.int .u8 (kindF k).toNat) :: List.drop (k.toNat % 16 + 1) [AV.v (.int .u8 1), AV.v (.int .u8 2), AV.v (.int .u8 3), AV.v (.int .u8 4), AV.v (.int .u8 5), AV.v (.int .u8 6), AV.v (.int .u8 7), AV.v (.int .u8 8), AV.v (.int .u8 9), AV.v (.int .u8 10), AV.v (.int .u8 11), AV.v (.int .u8 32), AV.v (.int .u8 33), AV.v (.int .u8 34), AV.v (.int .u8 35), AV.v (.int .u8 36)] := by
  have h : k.toNat % 16 < 16 := Nat.mod_lt _ (by decide)
  unfold kindF
  generalize k.toNat % 16 = e at *
  rcases e with _ | _ | _ | _ | _ | _ | _ | _ | _ | _ | _ | _ | _ | _ | _ | _ | e
  all_goals first | rfl | omega

set_option maxHeartbeats 1600000 in
attribute [local simp] undefA List.getElem?_cons_zero List.getElem?_cons_succ msgC outC outsC_noObj persC_noObj plnC in
theorem fit_ok {σ : St} {m : Msg} (hm : m.Ok) (hsm : smallM m = true) :
    CallsA Try.prog 53 [.agg (msgC m)] σ (fun av σ' => av = .agg (msgC (fitM m)) ∧ σ = σ') := by
  refine callsA_gcS ?_ (by simp [AV.under, underL, msgC, persC_under, outsC_under])
  have hrp := fun σ => rpright_ok (σ := σ) hm.p
  obtain ⟨A, hA⟩ : ∃ A, A = fitM m := ⟨_, rfl⟩
  rw [← hA]
  obtain ⟨h1, h2, h3, h4, h5, h6, h7, h8⟩ := hm
  unfold smallM at hsm
  simp only [Bool.and_eq_true, decide_eq_true_eq, List.all_eq_true] at hsm
  obtain ⟨⟨⟨⟨⟨⟨s1, s2⟩, s3⟩, s4⟩, s5⟩, s6⟩, s7⟩ := hsm
  obtain ⟨RP, hRP⟩ : ∃ R, R = rightB m.p := ⟨_, rfl⟩
  rw [← hRP] at hrp
  have hPF : planF m.p = if RP = true ∧ ¬ m.p.k = 0 then m.p else threeP := by rw [hRP]; rfl
  obtain ⟨x1, x2, x3, x4, x5, x6, x7, x8, x9, x10, x11, x12, x13, x14⟩ := m
  simp only at s1 s2 s3 s6 h3 h7 h8 hPF
  obtain ⟨kf, hkf⟩ : ∃ k, k = kindF x1 := ⟨_, rfl⟩
  have hka := kind_at x1
  rw [← hkf] at hka
  obtain ⟨e, he⟩ : ∃ e, e = x1.toNat % 16 := ⟨_, rfl⟩
  have he16 : e < 16 := by omega
  have he16i : (e : Int) < 16 := by omega
  rw [← he] at hka
  have hm1 : (x1.toNat : Int) % 16 = (e : Int) := by omega
  have hm2 : (x1.toNat : Int).tmod 16 = (e : Int) := by rw [Int.tmod_eq_emod_of_nonneg (by omega)]; exact hm1
  obtain ⟨y2, hy2⟩ : ∃ y, y = x2 % 200 := ⟨_, rfl⟩
  have hy2a : (x2.toNat : Int) % 200 = (y2.toNat : Int) := by rw [hy2]; simp [UInt8.toNat_mod]
  have hy2b : (x2.toNat : Int).tmod 200 = (y2.toNat : Int) := by rw [Int.tmod_eq_emod_of_nonneg (by omega)]; exact hy2a
  obtain ⟨y5, hy5⟩ : ∃ y, y = x5 % 200 := ⟨_, rfl⟩
  have hy5a : (x5.toNat : Int) % 200 = (y5.toNat : Int) := by rw [hy5]; simp [UInt8.toNat_mod]
  have hy5b : (x5.toNat : Int).tmod 200 = (y5.toNat : Int) := by rw [Int.tmod_eq_emod_of_nonneg (by omega)]; exact hy5a
  obtain ⟨y6, hy6⟩ : ∃ y, y = x6 % 16 := ⟨_, rfl⟩
  have hy6a : (x6.toNat : Int) % 16 = (y6.toNat : Int) := by rw [hy6]; simp [UInt8.toNat_mod]
  have hy6b : (x6.toNat : Int).tmod 16 = (y6.toNat : Int) := by rw [Int.tmod_eq_emod_of_nonneg (by omega)]; exact hy6a
  obtain ⟨y7, hy7⟩ : ∃ y, y = x7 % 16 := ⟨_, rfl⟩
  have hy7a : (x7.toNat : Int) % 16 = (y7.toNat : Int) := by rw [hy7]; simp [UInt8.toNat_mod]
  have hy7b : (x7.toNat : Int).tmod 16 = (y7.toNat : Int) := by rw [Int.tmod_eq_emod_of_nonneg (by omega)]; exact hy7a
  obtain ⟨y12, hy12⟩ : ∃ y, y = x12 % 1099511627777 := ⟨_, rfl⟩
  have hy12a : (x12 : Int) % 1099511627777 = (y12 : Int) := by omega
  have hy12b : (x12 : Int).tmod 1099511627777 = (y12 : Int) := by rw [Int.tmod_eq_emod_of_nonneg (by omega)]; exact hy12a
  obtain ⟨y13, hy13⟩ : ∃ y, y = x13 % 10001 := ⟨_, rfl⟩
  have hy13a : (x13 : Int) % 10001 = (y13 : Int) := by omega
  have hy13b : (x13 : Int).tmod 10001 = (y13 : Int) := by rw [Int.tmod_eq_emod_of_nonneg (by omega)]; exact hy13a
  obtain ⟨y4, hy4⟩ : ∃ y, y = puL x4 := ⟨_, rfl⟩
  obtain ⟨y9, hy9⟩ : ∃ y, y = puL x9 := ⟨_, rfl⟩
  have hp4 := fun σ => purse_ok (σ := σ) (l := x4) (tl := .shut) (by omega)
  have hp9 := fun σ => purse_ok (σ := σ) (l := x9) (tl := .shut) (by omega)
  simp only [← hy4] at hp4
  simp only [← hy9] at hp9
  obtain ⟨N, hN⟩ : ∃ N, N = min x10.length 16 := ⟨_, rfl⟩
  obtain ⟨OT, hOT⟩ : ∃ L, L = (x10.take 16).map outF := ⟨_, rfl⟩
  have hOl : OT.length = N := by rw [hOT, hN]; simp; omega
  have hOat : ∀ i (h : i < N) (h2 : i < x10.length), OT.take (i + 1) = OT.take i ++ [outF x10[i]] := fun i h h2 => by
    rw [← List.take_append_getElem (by omega : i < OT.length)]
    congr 2
    subst hOT
    simp
  obtain ⟨OF, hOF⟩ : ∃ L, L = outsF x10 := ⟨_, rfl⟩
  have hOF1 : OT = [] → OF = [⟨1, []⟩] := fun e => by rw [hOF, outsF, if_pos (by rw [← hOT]; exact e)]
  have hOF2 : ¬ OT = [] → OF = OT := fun e => by rw [hOF, outsF, if_neg (by rw [← hOT]; exact e), hOT]
  obtain ⟨PF, hPFd⟩ : ∃ p, p = planF x11 := ⟨_, rfl⟩
  rw [← hPFd] at hPF
  obtain ⟨M, hM⟩ : ∃ M, M = fit0 ⟨x1, x2, x3, x4, x5, x6, x7, x8, x9, x10, x11, x12, x13, x14⟩ := ⟨_, rfl⟩
  have hM2 : M = ⟨kf, y2, x3, y4, y5, y6, y7, x8, y9, OF, PF, y12, y13, x14⟩ := by rw [hM, hkf, hy2, hy4, hy5, hy6, hy7, hy9, hOF, hPFd, hy12, hy13]; rfl
  have hAM : A = onlyM M := by rw [hA, fitM, hM]
  have hon : ∀ (X : List AV) (τ : St), WkL X (msgC M) → CallsA Try.prog 101 [.agg X] τ (fun av σ' => av = .agg (msgC A) ∧ τ = σ') := fun X τ hX => by
    rw [hAM]; exact callsA_wk (.cons (WkL.agg hX) .nil) rmonly_ok
  have three : [AV.v (.int .u8 0), .v (.int .u64 3), .v (.int .u64 0), .v (.int .u64 0), .v (.int .u64 0)] = coinsC [⟨0, Num.of 3⟩] := by simp [coinsC, coinC, numA, limb, Num.of]
  have hO1 : OF = [⟨1, []⟩] → Wk (.sl 2 [.v (.int .u8 1), .sl 0 [] 0 .full] 1 .full) (.sl 2 (outsC OF) OF.length .shut) := fun e => by
    rw [e]; exact Wk.trans (Wk.cells (m := outsC [⟨1, []⟩]) (.cons (Wk.refl _) (.cons (Wk.nil _ _ _) .nil))) (Wk.shut _ _ _ _)
  have hO2 : OF = OT → Wk (grA σ.toks.length 2 (posB N) (outsC OT) N) (.sl 2 (outsC OF) OF.length .shut) := fun e => by
    rw [e, hOl]; exact wk_grA (fun h => by have h0 := posB_no h; have : OT = [] := List.length_eq_zero_iff.1 (by omega); rw [this]; exact ⟨rfl, h0⟩)
  have hXT : PF = threeP → ∀ Oc, Wk Oc (.sl 2 (outsC OF) OF.length .shut) → WkL [.v (.int .u8 kf.toNat), .v (.int .u8 y2.toNat), .v (.int .u64 x3), .sl 5 (coinsC y4) y4.length .shut, .v (.int .u8 y5.toNat), .v (.int .u8 y6.toNat), .v (.int .u8 y7.toNat), .v (.int .u64 (limb x8.v 0)), .v (.int .u64 (limb x8.v 1)), .v (.int .u64 (limb x8.v 2)), .v (.int .u64 (limb x8.v 3)), .sl 5 (coinsC y9) y9.length .shut, Oc, .v (.int .u8 4), .v (.int .u64 0), .v (.int .u64 0), .sl 5 [.v (.int .u8 0), .v (.int .u64 3), .v (.int .u64 0), .v (.int .u64 0), .v (.int .u64 0)] 1 .full, .sl 0 [] 0 .full, .v (.int .u64 y12), .v (.int .u16 y13), .v (.bool x14)] (msgC M) := fun e Oc hO => by
    rw [hM2, e, three]
    simp only [msgC]
    exact .cons (Wk.refl _) (.cons (Wk.refl _) (.cons (Wk.refl _) (.cons (Wk.refl _) (.cons (Wk.refl _) (.cons (Wk.refl _) (.cons (Wk.refl _) (.cons (Wk.refl _) (.cons (Wk.refl _) (.cons (Wk.refl _) (.cons (Wk.refl _) (.cons (Wk.refl _) (.cons (hO) (.cons (Wk.refl _) (.cons (Wk.refl _) (.cons (Wk.refl _) (.cons (Wk.shut _ _ _ _) (.cons (Wk.nil _ _ _) (.cons (Wk.refl _) (.cons (Wk.refl _) (.cons (Wk.refl _) (.nil)))))))))))))))))))))
  have hXP : PF = x11 → ∀ Oc, Wk Oc (.sl 2 (outsC OF) OF.length .shut) → WkL [.v (.int .u8 kf.toNat), .v (.int .u8 y2.toNat), .v (.int .u64 x3), .sl 5 (coinsC y4) y4.length .shut, .v (.int .u8 y5.toNat), .v (.int .u8 y6.toNat), .v (.int .u8 y7.toNat), .v (.int .u64 (limb x8.v 0)), .v (.int .u64 (limb x8.v 1)), .v (.int .u64 (limb x8.v 2)), .v (.int .u64 (limb x8.v 3)), .sl 5 (coinsC y9) y9.length .shut, Oc, .v (.int .u8 x11.k.toNat), .v (.int .u64 x11.s), .v (.int .u64 x11.e), .sl 5 (coinsC x11.tot) x11.tot.length .shut, .sl 2 (persC x11.ps) x11.ps.length .shut, .v (.int .u64 y12), .v (.int .u16 y13), .v (.bool x14)] (msgC M) := fun e Oc hO => by
    rw [hM2, e]
    exact .cons (Wk.refl _) (.cons (Wk.refl _) (.cons (Wk.refl _) (.cons (Wk.refl _) (.cons (Wk.refl _) (.cons (Wk.refl _) (.cons (Wk.refl _) (.cons (Wk.refl _) (.cons (Wk.refl _) (.cons (Wk.refl _) (.cons (Wk.refl _) (.cons (Wk.refl _) (.cons (hO) (.cons (Wk.refl _) (.cons (Wk.refl _) (.cons (Wk.refl _) (.cons (Wk.refl _) (.cons (Wk.refl _) (.cons (Wk.refl _) (.cons (Wk.refl _) (.cons (Wk.refl _) (.nil)))))))))))))))))))))
  clear hAM hM hA hkf hOF hPFd hRP hOT
  obtain ⟨xpk, xps, xpe, xpt, xpq⟩ := x11
  simp only at hPF hXP
  have hkn : ∀ n : UInt8, xpk = n ↔ (xpk.toNat : Int) = (n.toNat : Int) := fun n => ⟨fun e => by rw [e], fun e => UInt8.toNat_inj.1 (Int.ofNat_inj.1 e)⟩
  obtain ⟨B, hB⟩ : ∃ B, B = !(RP && !decide (xpk = 0)) := ⟨_, rfl⟩
  have hd16 : ∀ f : Nat → AV, List.drop 16 (List.map f (List.range 16)) = [] := fun _ => rfl
  have hd2 : ∀ f : Nat → AV, List.drop 2 (List.map f (List.range 2)) = [] := fun _ => rfl
  have hd5 : ∀ f : Nat → AV, List.drop 5 (List.map f (List.range 5)) = [] := fun _ => rfl
  have hd4 : ∀ f : Nat → AV, List.drop 4 (List.map f (List.range 4)) = [] := fun _ => rfl
  have hgc : ∀ (k : Nat) (b : Bool) (cs : List AV) (n : Nat), (grA k 2 b cs n).isCell = true := fun k b cs n => by cases b <;> rfl
  simp only [AV.isCell] at hgc
  have hcl : ∀ (k : Nat) (b : Bool) (cs : List AV) (n : Nat), (grA k 2 b cs n).cells = [grA k 2 b cs n] := fun k b cs n => by cases b <;> rfl
  simp only [AV.cells] at hcl
  have hgl : ∀ (k : Nat) (cs : List AV) (n : Nat), lenA Try.prog 70 (grA k 2 (posB n) cs n) = some (.v (.int .i64 (n : Nat))) := fun k cs n => by cases n <;> rfl
  have hls : ∀ (sz : Nat) (cs : List AV) (n : Nat) (tl : Tail), lenA Try.prog 70 (.sl sz cs n tl) = some (.v (.int .i64 (n : Nat))) := fun _ _ _ _ => rfl
  have F := And.intro hd16 (And.intro hd2 (And.intro hd5 (And.intro hd4 (And.intro hgc (And.intro hcl (And.intro hgl (And.intro hls (True.intro))))))))
  refine callsA_body Try.func53 rfl rfl rfl ?_; refine sr fun _ hJ2 => ?_; refine hJ2 _ _ ?_; refine sq fun K3 hK3 => ?_; replace F := aF hm1 F; replace F := aF hm2 F; replace F := aF hka F; replace F := aF he16 F; replace F := aF he16i F; refine rg' (h := fun J4 hJ4 => ?_); refine hJ4 _ _ ?_; refine hK3 _ _ ?_; refine sq fun K5 hK5 => ?_
  refine run_draw (by kernel_rfl) fun J6 hJ6 => ?_
  refine rp2 0 (k := ?_); refine rp2 1 (k := ?_); refine rp2 3 (k := ?_); refine rp2 4 (k := ?_); refine dc 2 rfl (c := hp4 _) (k := ?_); rintro _ _ ⟨rfl, rfl⟩
  refine ⟨by first | exact fun _ _ h => h | (refine later_list [4, 3, 0] (by kernel_rfl) (List.forall_mem_cons.2 ⟨fun _ => fact2 rfl rfl ?_, List.forall_mem_cons.2 ⟨fun _ => fact2 rfl rfl ?_, List.forall_mem_cons.2 ⟨fun _ => fact2 rfl rfl ?_, fun _ h => absurd h List.not_mem_nil⟩⟩⟩) <;> constructor <;> first | rfl | (simp [F]; done)), ?_⟩
  (repeat (first | simp [F] | simp (disch := omega) only [wC, if_pos, if_neg])); refine rp2 6 (k := ?_); refine dc 5 rfl (c := hp9 _) (k := ?_); rintro _ _ ⟨rfl, rfl⟩
  refine ⟨by first | exact fun _ _ h => h | (refine later_list [6, 3, 0] (by kernel_rfl) (List.forall_mem_cons.2 ⟨fun _ => fact2 rfl rfl ?_, List.forall_mem_cons.2 ⟨fun _ => fact2 rfl rfl ?_, List.forall_mem_cons.2 ⟨fun _ => fact2 rfl rfl ?_, fun _ h => absurd h List.not_mem_nil⟩⟩⟩) <;> constructor <;> first | rfl | (simp [F]; done)), ?_⟩
  (repeat (first | simp [F] | simp (disch := omega) only [wC, if_pos, if_neg])); refine dop 7 rfl ?_; (repeat (first | simp [F] | simp (disch := omega) only [wC, if_pos, if_neg])); refine ⟨ln, ?_⟩; refine rp2 8 (k := ?_); refine dop 9 rfl ?_; (repeat (first | simp [F] | simp (disch := omega) only [wC, if_pos, if_neg])); refine ⟨ln, ?_⟩; refine dd ?_; refine hJ6 _ _ ?_; refine hK5 _ _ ?_; refine sq fun K7 hK7 => ?_; replace F := aF hy2a F; replace F := aF hy2b F; replace F := aF hy5a F; replace F := aF hy5b F; replace F := aF hy6a F; replace F := aF hy6b F; replace F := aF hy7a F; replace F := aF hy7b F; refine rg' (h := fun J8 hJ8 => ?_); refine hJ8 _ _ ?_; refine hK7 _ _ ?_; refine sq fun K9 hK9 => ?_; replace F := aF hy12a F; replace F := aF hy12b F; replace F := aF hy13a F; replace F := aF hy13b F; refine rg' (h := fun J10 hJ10 => ?_); refine hJ10 _ _ ?_; refine hK9 _ _ ?_; refine sr fun _ hJ12 => ?_; refine hJ12 _ _ ?_; refine sq fun K13 hK13 => ?_; refine sr fun _ hJ15 => ?_; refine hJ15 _ _ ?_; refine run_block_k ?_; refine run_loopF (X := Nat) [1, 2] (fun i ρ σ1 => (i ≤ N) ∧ (ρ 3 = grA σ.toks.length 2 (posB i) (outsC (OT.take i)) i) ∧ (ρ 4 = .v (.int .i64 i)) ∧ (σ1 = { σ with objs := σ.objs ++ [[.v (.int .u8 kf.toNat), .v (.int .u8 y2.toNat), .v (.int .u64 x3), .sl 5 (coinsC y4) y4.length .shut, .v (.int .u8 y5.toNat), .v (.int .u8 y6.toNat), .v (.int .u8 y7.toNat), .v (.int .u64 (limb x8.v 0)), .v (.int .u64 (limb x8.v 1)), .v (.int .u64 (limb x8.v 2)), .v (.int .u64 (limb x8.v 3)), .sl 5 (coinsC y9) y9.length .shut, .sl 2 (outsC x10) x10.length .shut, .v (.int .u8 xpk.toNat), .v (.int .u64 xps), .v (.int .u64 xpe), .sl 5 (coinsC xpt) xpt.length .shut, .sl 2 (persC xpq) xpq.length .shut, .v (.int .u64 y12), .v (.int .u16 y13), .v (.bool x14)], [.v (.int .u8 0), .v (.int .u8 0), .v (.int .u64 0), .sl 0 [] 0 .full, .v (.int .u8 0), .v (.int .u8 0), .v (.int .u8 0), .v (.int .u64 0), .v (.int .u64 0), .v (.int .u64 0), .v (.int .u64 0), .sl 0 [] 0 .full, .sl 0 [] 0 .full, .v (.int .u8 0), .v (.int .u64 0), .v (.int .u64 0), .sl 0 [] 0 .full, .sl 0 [] 0 .full, .v (.int .u64 0), .v (.int .u16 0), .v (.bool false)]], toks := σ.toks ++ grT (posB i) i })) (fun i => N - i) (0) ?st1 ?rd1
  case st1 =>
   refine ⟨lp, ?_, lp, ?_⟩
   · simp
   · simp [F]
  case rd1 =>
   rintro i ρ1 σ1 hF1 ⟨hi, h3o, h4i, hσ⟩; obtain rfl := hσ.symm
   have f1 := keepL hF1
   (try simp [KeepL, F] at f1); replace F := aF h3o F; replace F := aF h4i F; (try replace F := aF f1 F); refine sq fun K16 hK16 => ?_; refine sqc (X := Unit) [1, 2, 3, 4] (fun z ρ σ1 => (ρ 52 = .v (.bool (decide (i < N)))) ∧ (σ1 = { σ with objs := σ.objs ++ [[.v (.int .u8 kf.toNat), .v (.int .u8 y2.toNat), .v (.int .u64 x3), .sl 5 (coinsC y4) y4.length .shut, .v (.int .u8 y5.toNat), .v (.int .u8 y6.toNat), .v (.int .u8 y7.toNat), .v (.int .u64 (limb x8.v 0)), .v (.int .u64 (limb x8.v 1)), .v (.int .u64 (limb x8.v 2)), .v (.int .u64 (limb x8.v 3)), .sl 5 (coinsC y9) y9.length .shut, .sl 2 (outsC x10) x10.length .shut, .v (.int .u8 xpk.toNat), .v (.int .u64 xps), .v (.int .u64 xpe), .sl 5 (coinsC xpt) xpt.length .shut, .sl 2 (persC xpq) xpq.length .shut, .v (.int .u64 y12), .v (.int .u16 y13), .v (.bool x14)], [.v (.int .u8 0), .v (.int .u8 0), .v (.int .u64 0), .sl 0 [] 0 .full, .v (.int .u8 0), .v (.int .u8 0), .v (.int .u8 0), .v (.int .u64 0), .v (.int .u64 0), .v (.int .u64 0), .v (.int .u64 0), .sl 0 [] 0 .full, .sl 0 [] 0 .full, .v (.int .u8 0), .v (.int .u64 0), .v (.int .u64 0), .sl 0 [] 0 .full, .sl 0 [] 0 .full, .v (.int .u64 0), .v (.int .u16 0), .v (.bool false)]], toks := σ.toks ++ grT (posB i) i })) ?cy17 ?cx17
   case cy17 =>
    rintro z ρCr7 σ1 hFCr7 ⟨h52, hσ⟩; obtain rfl := hσ.symm
    have fCr7 := keepL hFCr7
    (try simp [KeepL, F] at fCr7); replace F := aF h52 F; (try replace F := aF fCr7 F); refine cs (t := (decide (i < N))) (fun c52 => ?_) (fun c52 => ?_)
    · (try exact nope c52); all_goals have c52p := c52; try simp [F] at c52p
      all_goals
       replace F := aF c52 F; (try replace F := aF c52p F); refine run_skip ?_; refine hK16 _ _ ?_; refine sq fun K18 hK18 => ?_; refine run_block_k ?_
       have hlt : i < N := by simpa using c52
       have hlt2 : i < x10.length := by omega
       have hat := outsC_at hlt2
       have hb1 : i * 2 + 2 ≤ x10.length * 2 := by omega
       have hx12 := s6 _ (List.getElem_mem hlt2)
       have htk := hOat i hlt hlt2
       obtain ⟨x, hx⟩ : ∃ x, x = x10[i] := ⟨_, rfl⟩
       rw [← hx] at hat hx12 htk
       obtain ⟨xl, xc⟩ := x
       simp only at hx12
       obtain ⟨yl, hyl⟩ : ∃ y, y = xl % 200 := ⟨_, rfl⟩
       have hyla : (xl.toNat : Int) % 200 = (yl.toNat : Int) := by rw [hyl]; simp [UInt8.toNat_mod]
       have hylb : (xl.toNat : Int).tmod 200 = (yl.toNat : Int) := by rw [Int.tmod_eq_emod_of_nonneg (by omega)]; exact hyla
       obtain ⟨yc, hyc⟩ : ∃ y, y = puL xc := ⟨_, rfl⟩
       have hpc := fun σ => purse_ok (σ := σ) (l := xc) (tl := .shut) (by omega)
       simp only [← hyc] at hpc
       have hP : outsC (OT.take (i + 1)) = outsC (OT.take i) ++ [.v (.int .u8 yl.toNat), .sl 5 (coinsC yc) yc.length .shut] := by rw [htk, ← outsC_append, outF, hyl, hyc]; rfl
       have hb0 : posB i = false → outsC (OT.take i) = [] ∧ i = 0 := fun h => by have h0 := posB_no h; subst h0; simp
       have happ : ∀ objs, appendA Try.prog 70 (grA σ.toks.length 2 (posB i) (outsC (OT.take i)) i) (.sl 2 [.v (.int .u8 yl.toNat), .sl 5 (coinsC yc) yc.length .shut] 1 .full) ⟨objs, σ.toks ++ grT (posB i) i, σ.gl, σ.rows⟩ = some (grA σ.toks.length 2 true (outsC (OT.take i) ++ [.v (.int .u8 yl.toNat), .sl 5 (coinsC yc) yc.length .shut]) (i + 1), ⟨objs, σ.toks ++ grT true (i + 1), σ.gl, σ.rows⟩) := fun objs => append_gr elemT_70 ti_122 (by decide) rfl hb0 (.inl rfl) (by simp [roomA]; omega) (by simp [maxLen]; omega)
       replace F := aF hP.symm F; replace F := aF hlt2 F; replace F := aF hat F; replace F := aF hb1 F; replace F := aF hyla F; replace F := aF hylb F; replace F := aF happ F
       refine run_draw (by kernel_rfl) fun J19 hJ19 => ?_
       refine rp2 0 (k := ?_); refine rp2 1 (k := ?_); refine rp2 2 (k := ?_); refine rp2 3 (k := ?_); refine rp2 4 (k := ?_); refine rp2 5 (k := ?_); refine rp2 6 (k := ?_); refine rp2 7 (k := ?_); refine rp2 8 (k := ?_); refine rp2 9 (k := ?_); refine rp2 10 (k := ?_); refine rp2 11 (k := ?_); refine rp2 12 (k := ?_); refine rp2 13 (k := ?_); refine dc 14 rfl (c := hpc _) (k := ?_); rintro _ _ ⟨rfl, rfl⟩
       refine ⟨by first | exact fun _ _ h => h | (refine later_list [12, 11, 10, 9, 8, 7, 6, 5, 4, 3, 2, 1, 0] (by kernel_rfl) (List.forall_mem_cons.2 ⟨fun _ => fact2 rfl rfl ?_, List.forall_mem_cons.2 ⟨fun _ => fact2 rfl rfl ?_, List.forall_mem_cons.2 ⟨fun _ => fact2 rfl rfl ?_, List.forall_mem_cons.2 ⟨fun _ => fact2 rfl rfl ?_, List.forall_mem_cons.2 ⟨fun _ => fact2 rfl rfl ?_, List.forall_mem_cons.2 ⟨fun _ => fact2 rfl rfl ?_, List.forall_mem_cons.2 ⟨fun _ => fact2 rfl rfl ?_, List.forall_mem_cons.2 ⟨fun _ => fact2 rfl rfl ?_, List.forall_mem_cons.2 ⟨fun _ => fact2 rfl rfl ?_, List.forall_mem_cons.2 ⟨fun _ => fact2 rfl rfl ?_, List.forall_mem_cons.2 ⟨fun _ => fact2 rfl rfl ?_, List.forall_mem_cons.2 ⟨fun _ => fact2 rfl rfl ?_, List.forall_mem_cons.2 ⟨fun _ => fact2 rfl rfl ?_, fun _ h => absurd h List.not_mem_nil⟩⟩⟩⟩⟩⟩⟩⟩⟩⟩⟩⟩⟩) <;> constructor <;> first | rfl | (simp [F]; done)), ?_⟩
       (repeat (first | simp [F] | simp (disch := omega) only [wC, if_pos, if_neg])); refine rp2 15 (k := ?_); refine rp2 16 (k := ?_); refine dop 17 rfl ?_; repeat (first | simp [F] | simp (disch := omega) only [wC, if_pos, if_neg])
       refine ⟨by first | exact fun _ _ h => h | (refine later_list [15, 12, 11, 10, 9, 8, 7, 6, 5, 4, 3, 2, 1] (by kernel_rfl) (List.forall_mem_cons.2 ⟨fun _ => fact2 rfl rfl ?_, List.forall_mem_cons.2 ⟨fun _ => fact2 rfl rfl ?_, List.forall_mem_cons.2 ⟨fun _ => fact2 rfl rfl ?_, List.forall_mem_cons.2 ⟨fun _ => fact2 rfl rfl ?_, List.forall_mem_cons.2 ⟨fun _ => fact2 rfl rfl ?_, List.forall_mem_cons.2 ⟨fun _ => fact2 rfl rfl ?_, List.forall_mem_cons.2 ⟨fun _ => fact2 rfl rfl ?_, List.forall_mem_cons.2 ⟨fun _ => fact2 rfl rfl ?_, List.forall_mem_cons.2 ⟨fun _ => fact2 rfl rfl ?_, List.forall_mem_cons.2 ⟨fun _ => fact2 rfl rfl ?_, List.forall_mem_cons.2 ⟨fun _ => fact2 rfl rfl ?_, List.forall_mem_cons.2 ⟨fun _ => fact2 rfl rfl ?_, List.forall_mem_cons.2 ⟨fun _ => fact2 rfl rfl ?_, fun _ h => absurd h List.not_mem_nil⟩⟩⟩⟩⟩⟩⟩⟩⟩⟩⟩⟩⟩) <;> constructor <;> first | rfl | (simp [F]; done)), ?_⟩
       refine dop 18 rfl ?_; (repeat (first | simp [F] | simp (disch := omega) only [wC, if_pos, if_neg])); (try refine ⟨ln, ?_⟩); refine dd ?_; refine hJ19 _ _ ?_; refine hK18 _ _ ?_; refine rg' (h := fun J20 hJ20 => ?_); refine hJ20 _ _ ?_; refine ⟨(i + 1), ⟨kp, lp, lp, lp, lp⟩, lp⟩
    (try exact nope c52); all_goals have c52p := c52; try simp [F] at c52p
    all_goals
     replace F := aF c52 F; try replace F := aF c52p F
     have hii : i = N := by have h := c52; simp at h; omega
     subst hii
     have hTT : OT.take i = OT := List.take_of_length_le (by omega)
     replace F := aF hTT F; refine run_exit ?_; refine hK13 _ _ ?_; refine sr fun _ hJ22 => ?_; refine hJ22 _ _ ?_; refine sq fun K23 hK23 => ?_; refine sqc (X := Unit) [1, 2] (fun z ρ σ1 => (ρ 84 = .v (.bool B)) ∧ (σ1 = { σ with objs := σ.objs ++ [[.v (.int .u8 kf.toNat), .v (.int .u8 y2.toNat), .v (.int .u64 x3), .sl 5 (coinsC y4) y4.length .shut, .v (.int .u8 y5.toNat), .v (.int .u8 y6.toNat), .v (.int .u8 y7.toNat), .v (.int .u64 (limb x8.v 0)), .v (.int .u64 (limb x8.v 1)), .v (.int .u64 (limb x8.v 2)), .v (.int .u64 (limb x8.v 3)), .sl 5 (coinsC y9) y9.length .shut, grA σ.toks.length 2 (posB i) (outsC OT) i, .v (.int .u8 xpk.toNat), .v (.int .u64 xps), .v (.int .u64 xpe), .sl 5 (coinsC xpt) xpt.length .shut, .sl 2 (persC xpq) xpq.length .shut, .v (.int .u64 y12), .v (.int .u16 y13), .v (.bool x14)], [.v (.int .u8 0), .v (.int .u8 0), .v (.int .u64 0), .sl 0 [] 0 .full, .v (.int .u8 0), .v (.int .u8 0), .v (.int .u8 0), .v (.int .u64 0), .v (.int .u64 0), .v (.int .u64 0), .v (.int .u64 0), .sl 0 [] 0 .full, .sl 0 [] 0 .full, .v (.int .u8 0), .v (.int .u64 0), .v (.int .u64 0), .sl 0 [] 0 .full, .sl 0 [] 0 .full, .v (.int .u64 0), .v (.int .u16 0), .v (.bool false)]], toks := σ.toks ++ grT (posB i) i })) ?cy24 ?cx24
     case cy24 =>
      rintro z ρCr11 σ1 hFCr11 ⟨h84, hσ⟩; obtain rfl := hσ.symm
      have fCr11 := keepL hFCr11
      (try simp [KeepL, F] at fCr11); replace F := aF h84 F; (try replace F := aF fCr11 F); refine cs (t := B) (fun c84 => ?_) (fun c84 => ?_)
      · (try exact nope c84); all_goals have c84p := c84; try simp [F] at c84p
        all_goals
         replace F := aF c84 F; try replace F := aF c84p F
         have hPF2 : PF = threeP := by (rw [hPF, if_neg]; rintro ⟨e1, e2⟩; rw [hB, e1] at c84; simp [e2] at c84)
         refine rg' (h := fun J25 hJ25 => ?_); refine hJ25 _ _ ?_; refine hK23 _ _ ?_; refine sq fun K26 hK26 => ?_; refine sr fun _ hJ28 => ?_; refine hJ28 _ _ ?_; refine cs (fun c93 => ?_) (fun c93 => ?_)
         · (try exact nope c93); all_goals have c93p := c93; try simp [F] at c93p
           all_goals
            replace F := aF c93 F; try replace F := aF c93p F
            have hO0 : OT = [] := List.length_eq_zero_iff.1 (by have h := c93; simp at h; omega)
            have hOF3 := hOF1 hO0
            refine rg' (h := fun J29 hJ29 => ?_); refine hJ29 _ _ ?_; refine hK26 _ _ ?_; refine sr fun _ hJ31 => ?_; refine ca (c := hon _ _ (hXT hPF2 _ (hO1 hOF3))) (k := ?_); rintro _ _ ⟨rfl, rfl⟩; (repeat (first | simp [F] | simp (disch := omega) only [wC, if_pos, if_neg])); refine hJ31 _ _ ?_; refine run_ret ?_; (try simp only [Then, InBlock, NoGoto]); refine acell (h := ?_)
            show Wk _ _ ∧ _
            exact gcr
         (try exact nope c93); all_goals have c93p := c93; try simp [F] at c93p
         all_goals
          replace F := aF c93 F; try replace F := aF c93p F
          have hOF3 := hOF2 (fun e => by have h := c93; simp at h; rw [e] at hOl; simp at hOl; omega)
          refine run_skip ?_; refine hK26 _ _ ?_; refine sr fun _ hJ33 => ?_; refine ca (c := hon _ _ (hXT hPF2 _ (hO2 hOF3))) (k := ?_); rintro _ _ ⟨rfl, rfl⟩; (repeat (first | simp [F] | simp (disch := omega) only [wC, if_pos, if_neg])); refine hJ33 _ _ ?_; refine run_ret ?_; (try simp only [Then, InBlock, NoGoto]); refine acell (h := ?_)
          show Wk _ _ ∧ _
          exact gcr
      (try exact nope c84); all_goals have c84p := c84; try simp [F] at c84p
      all_goals
       replace F := aF c84 F; try replace F := aF c84p F
       have hPF2 : PF = ⟨xpk, xps, xpe, xpt, xpq⟩ := by (rw [hPF, if_pos]; rw [hB] at c84; simp at c84; exact ⟨c84.1, c84.2⟩)
       refine run_skip ?_; refine hK23 _ _ ?_; refine sq fun K34 hK34 => ?_; refine sr fun _ hJ36 => ?_; refine hJ36 _ _ ?_; refine cs (fun c93 => ?_) (fun c93 => ?_)
       · (try exact nope c93); all_goals have c93p := c93; try simp [F] at c93p
         all_goals
          replace F := aF c93 F; try replace F := aF c93p F
          have hO0 : OT = [] := List.length_eq_zero_iff.1 (by have h := c93; simp at h; omega)
          have hOF3 := hOF1 hO0
          refine rg' (h := fun J37 hJ37 => ?_); refine hJ37 _ _ ?_; refine hK34 _ _ ?_; refine sr fun _ hJ39 => ?_; refine ca (c := hon _ _ (hXP hPF2 _ (hO1 hOF3))) (k := ?_); rintro _ _ ⟨rfl, rfl⟩; (repeat (first | simp [F] | simp (disch := omega) only [wC, if_pos, if_neg])); refine hJ39 _ _ ?_; refine run_ret ?_; (try simp only [Then, InBlock, NoGoto]); refine acell (h := ?_)
          show Wk _ _ ∧ _
          exact gcr
       (try exact nope c93); all_goals have c93p := c93; try simp [F] at c93p
       all_goals
        replace F := aF c93 F; try replace F := aF c93p F
        have hOF3 := hOF2 (fun e => by have h := c93; simp at h; rw [e] at hOl; simp at hOl; omega)
        refine run_skip ?_; refine hK34 _ _ ?_; refine sr fun _ hJ41 => ?_; refine ca (c := hon _ _ (hXP hPF2 _ (hO2 hOF3))) (k := ?_); rintro _ _ ⟨rfl, rfl⟩; (repeat (first | simp [F] | simp (disch := omega) only [wC, if_pos, if_neg])); refine hJ41 _ _ ?_; refine run_ret ?_; (try simp only [Then, InBlock, NoGoto]); refine acell (h := ?_)
        show Wk _ _ ∧ _
        exact gcr
     case cx24 =>
      intro K24 hK24
      refine rg' (h := fun J42 hJ42 => ?_); refine ca (c := hrp _) (k := ?_); rintro _ _ ⟨rfl, rfl⟩; (repeat (first | simp [F] | simp (disch := omega) only [wC, if_pos, if_neg])); refine gs 79 (fun g11_4 => ?_) (fun g11_4 => ?_)
      · (try exact nope g11_4); all_goals have g11_4p := g11_4; try simp [F] at g11_4p
        all_goals
         replace F := aF g11_4 F; (try replace F := aF g11_4p F); (iterate 4 refine no2 (k := ?_)); refine hJ42 _ _ ?_; refine hK24 (()) _ _ ⟨kp, ?_, lp⟩
         · rw [hB]
           simp [hkn, F]
           try (rw [Bool.eq_iff_iff]; simp)
      (try exact nope g11_4); all_goals have g11_4p := g11_4; try simp [F] at g11_4p
      all_goals
       replace F := aF g11_4 F; (try replace F := aF g11_4p F); (iterate 4 refine go2 (k := ?_)); refine hJ42 _ _ ?_; refine hK24 (()) _ _ ⟨kp, ?_, lp⟩
       · rw [hB]
         simp [hkn, F]
         try (rw [Bool.eq_iff_iff]; simp)
   case cx17 =>
    intro K17 hK17
    refine rg' (h := fun J43 hJ43 => ?_); refine gs 49 (fun g7_5 => ?_) (fun g7_5 => ?_)
    · (try exact nope g7_5); all_goals have g7_5p := g7_5; try simp [F] at g7_5p
      all_goals
       replace F := aF g7_5 F; (try replace F := aF g7_5p F); (iterate 2 refine go2 (k := ?_)); refine hJ43 _ _ ?_; refine hK17 (()) _ _ ⟨kp, ?_, lp⟩
       · have h := g7_5
         simp at h
         simp [hN]
         (try rw [Bool.eq_iff_iff]); (try simp); try omega
    (try exact nope g7_5); all_goals have g7_5p := g7_5; try simp [F] at g7_5p
    all_goals
     replace F := aF g7_5 F; (try replace F := aF g7_5p F); (iterate 2 refine no2 (k := ?_)); refine hJ43 _ _ ?_; refine hK17 (()) _ _ ⟨kp, ?_, lp⟩
     · have h := g7_5
       simp at h
       simp [hN]
       (try rw [Bool.eq_iff_iff]); (try simp); try omega

end Go.Proofs.Ytdbaddholggkbaa

/-
  The laws MsgRights and MsgNone..
-/
namespace Go.Proofs.Ytdbaddholggkbaa
set_option linter.unnecessarySimpa false
set_option maxRecDepth 100000
open Go Go.Vm
set_option linter.unusedSimpArgs false
set_option linter.unusedVariables false
attribute [local simp] evalL wantedA isCall opA evalA evalAll evalsA evalOpt ofValue ofCell plain binA_eql_pn binA_neq_pn binA_gtr binA_lss binA_geq binA_leq binA_add binA_sub binA_eql binA_neq binA_orI binA_shl binA_shr binA_mul binA_quo binA_rem binA_agg_eql binA_agg_neq convA_int unA_not fieldAddrA loadA partA pickA_true pickA_false pickA_bb lenA builtinA storeA splice AV.cells AV.isCell sliceA boundA intA callOf indexAddrA newObjA buildA fillA zeroA ofCells buildSliceA indexA fieldA numA_len4 numA_take4 numA_drop4 set_appN get_appN take_appN List.getElem?_cons_zero List.getElem?_cons_succ makeA zeros64

theorem encM_len {m : Msg} (hG : rightM m = true) : (encM m).length ≤ 1000000 := by
  have mb := right_mb hG
  have l4 := encL_len (right_len mb.fee)
  have l9 := encL_len (right_len mb.c)
  have l10 := encOs_len m.outs (fun x hx => right_len (mb.out x hx))
  have m10 := mb.outs
  have lN := natBytes_len m.n.v 32 (by simpa using m.n.h)
  have lP := encPers_len m.p.ps (fun x hx => right_len (mb.p.2.2 x hx))
  have lP1 := encL_len (right_len mb.p.1)
  have lP2 := mb.p.2.1
  have aE : (ncE m).length ≤ 300 := by unfold ncE; cases hB m.k 1024 <;> simp [nBytes_len] <;> omega
  have aT : (ncT m).length ≤ 1 := by unfold ncT; cases hB m.k 1 <;> simp
  have aV : (ncV m).length ≤ 1 := by unfold ncV; cases hB m.k 2 <;> simp
  have aO : (ncO m).length ≤ 1 := by unfold ncO; cases hB m.k 4 <;> simp
  have aN : (ncN m).length ≤ 33 := by unfold ncN; cases hB m.k 8 <;> simp [encN] <;> omega
  have aC : (ncC m).length ≤ 273 := by unfold ncC; cases hB m.k 16 <;> simp <;> omega
  have aU : (ncU m).length ≤ 5000 := by unfold ncU; cases hB m.k 32 <;> simp <;> omega
  have aP : (ncP m).length ≤ 6000 := by unfold ncP; cases hB m.k 64 <;> simp [encPl, nBytes_len] <;> omega
  have aM : (ncM m).length ≤ 8 := by unfold ncM; cases hB m.k 128 <;> simp [nBytes_len]
  have aQ : (ncQ m).length ≤ 2 := by unfold ncQ; cases hB m.k 256 <;> simp [nBytes_len]
  have aJ : (ncJ m).length ≤ 1 := by unfold ncJ; cases hB m.k 512 <;> simp
  simp only [encM, List.length_cons, List.length_append]
  omega

end Go.Proofs.Ytdbaddholggkbaa

/-
  Messages that are made so may be: the plain law.
-/
namespace Go.Proofs.Ytdbaddholggkbaa
set_option linter.unnecessarySimpa false
set_option maxRecDepth 100000
open Go Go.Vm
set_option linter.unusedSimpArgs false
set_option linter.unusedVariables false

theorem onlyM_twice (m : Msg) : onlyM (onlyM m) = onlyM m := by
  simp only [onlyM, Msg.mk.injEq]
  refine ⟨trivial, ?_, ?_, ?_, ?_, ?_, ?_, ?_, ?_, ?_, ?_, ?_, ?_, ?_⟩
  · cases hB m.k 1024 <;> rfl
  · cases hB m.k 1024 <;> rfl
  · cases hB m.k 1024 <;> rfl
  · cases hB m.k 1 <;> rfl
  · cases hB m.k 2 <;> rfl
  · cases hB m.k 4 <;> rfl
  · cases hB m.k 8 <;> rfl
  · cases hB m.k 16 <;> rfl
  · cases hB m.k 32 <;> rfl
  · cases hB m.k 64 <;> rfl
  · cases hB m.k 128 <;> rfl
  · cases hB m.k 256 <;> rfl
  · cases hB m.k 512 <;> rfl
theorem kindF_has (k : UInt8) : hasK (kindF k) = true := u8_all (p := fun k => hasK (kindF k) = true) (by decide +kernel) k
theorem outF_all (l : List Out) : (outsF l).all outB = true := by
  rw [List.all_eq_true]
  intro x hx
  unfold outsF at hx
  split at hx
  · simp at hx; subst hx; decide
  · obtain ⟨y, _, rfl⟩ := List.mem_map.1 hx
    have h1 : (y.t % 200).toNat < 200 := by rw [UInt8.toNat_mod]; exact Nat.mod_lt _ (by decide)
    show (decide ((y.t % 200).toNat < 200) && decide (Right (puL y.c))) = true
    rw [decide_eq_true h1, decide_eq_true (right_puL _)]
    rfl
theorem outsF_len (l : List Out) : (outsF l).length ≠ 0 ∧ (outsF l).length ≤ 16 := by
  unfold outsF
  split
  · simp
  · rename_i h
    refine ⟨fun e => h (List.length_eq_zero_iff.1 e), ?_⟩; simp; omega
theorem planF_right (p : Pln) : rightB (planF p) = true ∧ ¬ (planF p).k = 0 := by
  unfold planF
  split
  · assumption
  · decide
theorem fit_right (m : Msg) : rightM (fitM m) = true := by
  have hk : (fitM m).k = kindF m.k := rfl
  have h1 := kindF_has m.k
  have h2 : fitM m = onlyM (fitM m) := (onlyM_twice _).symm
  have hp := planF_right m.p
  have ho := outsF_len m.outs
  have hm : ∀ (a b : UInt8), b.toNat ≠ 0 → (a % b).toNat < b.toNat := fun a b hb => by rw [UInt8.toNat_mod]; exact Nat.mod_lt _ (by omega)
  unfold rightM
  rw [hk, h1, decide_eq_true h2]
  simp only [Bool.and_eq_true, decide_eq_true_eq, Bool.not_eq_true']
  refine ⟨⟨⟨⟨⟨⟨⟨⟨⟨trivial, trivial⟩, ?_, ?_, ?_, ?_⟩, ?_, ?_⟩, ?_⟩, ?_⟩, ?_⟩, ?_⟩, ?_⟩, ?_⟩
  · simp only [fitM, onlyM, fit0]; cases hB (kindF m.k) 1024
    · exact hm m.f 200 (by decide)
    · show (0 : UInt8).toNat < 200; decide
  · simp only [fitM, onlyM, fit0]; cases hB (kindF m.k) 1
    · show (0 : UInt8).toNat < 200; decide
    · exact hm m.t 200 (by decide)
  · simp only [fitM, onlyM, fit0]; cases hB (kindF m.k) 2
    · show (0 : UInt8).toNat < 16; decide
    · exact hm m.v 16 (by decide)
  · simp only [fitM, onlyM, fit0]; cases hB (kindF m.k) 4
    · show (0 : UInt8).toNat < 16; decide
    · exact hm m.o 16 (by decide)
  · simp only [fitM, onlyM, fit0]; cases hB (kindF m.k) 1024
    · exact right_puL _
    · exact Go.Vm.right_nil
  · simp only [fitM, onlyM, fit0]; cases hB (kindF m.k) 16
    · exact Go.Vm.right_nil
    · exact right_puL _
  · cases hu : hB (kindF m.k) 32
    · rfl
    · simp only [fitM, onlyM, fit0, hu, cond_true, Bool.true_and, Bool.or_eq_false_iff, decide_eq_false_iff_not]
      exact ⟨ho.1, by omega⟩
  · cases hu : hB (kindF m.k) 64
    · rfl
    · simp only [fitM, onlyM, fit0, hu, cond_true, Bool.true_and, decide_eq_false_iff_not]
      exact hp.2
  · simp only [fitM, onlyM, fit0]; cases hB (kindF m.k) 32
    · rfl
    · exact outF_all _
  · simp only [fitM, onlyM, fit0]; cases hB (kindF m.k) 64
    · show rightB ⟨0, 0, 0, [], []⟩ = true; decide
    · exact hp.1
  · simp only [fitM, onlyM, fit0]; cases hB (kindF m.k) 128
    · show (0 : Nat) ≤ 2 ^ 40; decide
    · show m.tm % 1099511627777 ≤ 2 ^ 40; omega
  · simp only [fitM, onlyM, fit0]; cases hB (kindF m.k) 256
    · show (0 : Nat) ≤ 10000; decide
    · show m.pt % 10001 ≤ 10000; omega
theorem fitM_ok {m : Msg} (hm : m.Ok) : (fitM m).Ok := by
  refine onlyM_ok ⟨hm.s, ?_, ?_, ?_, fun x hx => ?_, ?_, ?_, ?_⟩
  · have := right_len (right_puL m.fee); simp only [fit0]; omega
  · have := right_len (right_puL m.c); simp only [fit0]; omega
  · have := (outsF_len m.outs).2; simp only [fit0]; omega
  · have := List.all_eq_true.1 (outF_all m.outs) x hx
    simp only [outB, Bool.and_eq_true, decide_eq_true_eq] at this
    have := right_len this.2; omega
  · show (planF m.p).Ok
    unfold planF
    split
    · exact hm.p
    · exact ⟨by decide, by decide, by decide, by decide, fun x hx => by simp [threeP] at hx⟩
  · show m.tm % 1099511627777 < 2 ^ 64; omega
  · show m.pt % 10001 < 2 ^ 16; omega

theorem byteS_cons (b : UInt8) (q : List UInt8) : byteS (some (b :: q)) = b := by
  unfold byteS
  rw [(byte_app b q).2]
  rfl
theorem outsGo_app : ∀ (L : List Out) (q : List UInt8) (l : List Out), (∀ x ∈ L, Right x.c) → outsGo L.length (some (encOs L ++ q)) l = (l ++ L, some q)
  | [], q, l, _ => by simp [outsGo, encOs]
  | x :: L, q, l, h => by
    have h2 := h x (by simp)
    have hl := right_len h2
    have e : encOs (x :: L) ++ q = x.t :: (encL x.c ++ (encOs L ++ q)) := by simp [encOs, encO]
    rw [e, List.length_cons, outsGo, outT, outS, byteS_cons, (byte_app _ _).1, coinsL_app (by omega) h2, coins_app (by omega) h2]
    rw [outsGo_app L q _ (fun y hy => h y (by simp [hy]))]
    simp
theorem outsR_app {L : List Out} (hl : L.length ≤ 255) (h : ∀ x ∈ L, Right x.c) (q : List UInt8) : outsR (some (UInt8.ofNat L.length :: (encOs L ++ q))) = (L, some q) := by
  unfold outsR
  obtain ⟨e1, e2⟩ := byte_app (UInt8.ofNat L.length) (encOs L ++ q)
  have hc : be [UInt8.ofNat L.length] = L.length := by
    have : (UInt8.ofNat L.length).toNat = L.length := toNat_ofNat (by omega)
    simp [be, this]
  rw [e1, e2, hc, outsGo_app L q [] h]
  rfl
theorem be_nBytes2 {n : Nat} (h : n < 2 ^ 16) : be (nBytes 2 n) = n := by
  have e : nBytes 2 n = [UInt8.ofNat (n / 2 ^ 8 % 256), UInt8.ofNat (n / 2 ^ 0 % 256)] := rfl
  rw [e]
  have hb : ∀ x, (UInt8.ofNat (x % 256)).toNat = x % 256 := fun x => by rw [toNat_ofNat (by omega)]
  simp only [be, List.foldl_cons, List.foldl_nil, hb]
  omega
theorem flag_app (b : Bool) (q : List UInt8) : flagS (some ((if b = true then 1 else 0) :: q)) = some q ∧ (be (takeB 1 (some ((if b = true then 1 else 0) :: q))) == 1) = b := by
  obtain ⟨e1, e2⟩ := byte_app (if b = true then 1 else 0) q
  unfold flagS
  rw [e1, e2]
  cases b <;> exact ⟨rfl, rfl⟩

theorem bif_app {b : Bool} {F : Option (List UInt8) → Option (List UInt8)} {e q : List UInt8} (h : F (some (e ++ q)) = some q) : (bif b then F (some ((bif b then e else []) ++ q)) else some ((bif b then e else []) ++ q)) = some q := by
  cases b
  · rfl
  · exact h

set_option maxHeartbeats 2000000 in
theorem dec_app {m : Msg} (hm : m.Ok) (hr : rightM m = true) : decB (encM m) = true ∧ decM (encM m) = m := by
  have mb := right_mb hr
  have hr0 := hr
  unfold rightM at hr0
  simp only [Bool.and_eq_true, decide_eq_true_eq] at hr0
  have hK := hr0.1.1.1.1.1.1.1.1.1
  have hO := hr0.1.1.1.1.1.1.1.1.2
  have hP := hr0.1.1.2
  have l4 := right_len mb.fee
  have l9 := right_len mb.c
  have l10 := mb.outs
  have lp := mb.p.2.1
  obtain ⟨h1, h2⟩ := byte_app m.k (ncE m ++ (ncT m ++ (ncV m ++ (ncO m ++ (ncN m ++ (ncC m ++ (ncU m ++ (ncP m ++ (ncM m ++ (ncQ m ++ ncJ m))))))))))
  have hk : byteS (some (encM m)) = m.k := byteS_cons _ _
  have hs : takeS 1 (some (encM m)) = some (ncE m ++ (ncT m ++ (ncV m ++ (ncO m ++ (ncN m ++ (ncC m ++ (ncU m ++ (ncP m ++ (ncM m ++ (ncQ m ++ ncJ m)))))))))) := h1
  obtain ⟨s, hsd⟩ : ∃ s, s = takeS 1 (some (encM m)) := ⟨_, rfl⟩
  rw [← hsd] at hs
  have t8 : ∀ (n : Nat) (q : List UInt8), takeS 8 (some (nBytes 8 n ++ q)) = some q ∧ takeB 8 (some (nBytes 8 n ++ q)) = nBytes 8 n := fun n q => takeS_app (nBytes_len 8 n)
  have t2 : ∀ (n : Nat) (q : List UInt8), takeS 2 (some (nBytes 2 n ++ q)) = some q ∧ takeB 2 (some (nBytes 2 n ++ q)) = nBytes 2 n := fun n q => takeS_app (nBytes_len 2 n)
  have eE : stE m.k s = some (ncT m ++ (ncV m ++ (ncO m ++ (ncN m ++ (ncC m ++ (ncU m ++ (ncP m ++ (ncM m ++ (ncQ m ++ ncJ m))))))))) := by
    unfold stE; rw [hs]; unfold ncE
    cases hB m.k 1024
    · simp only [cond_false, List.cons_append, List.append_assoc]
      rw [(byte_app _ _).1, (t8 _ _).1, coins_app (by omega) mb.fee]
    · rfl
  have eT : stT m.k s = some (ncV m ++ (ncO m ++ (ncN m ++ (ncC m ++ (ncU m ++ (ncP m ++ (ncM m ++ (ncQ m ++ ncJ m)))))))) := by
    unfold stT; rw [eE]; exact bif_app (F := takeS 1) (byte_app _ _).1
  have eV : stV m.k s = some (ncO m ++ (ncN m ++ (ncC m ++ (ncU m ++ (ncP m ++ (ncM m ++ (ncQ m ++ ncJ m))))))) := by
    unfold stV; rw [eT]; exact bif_app (F := takeS 1) (byte_app _ _).1
  have eO : stO m.k s = some (ncN m ++ (ncC m ++ (ncU m ++ (ncP m ++ (ncM m ++ (ncQ m ++ ncJ m)))))) := by
    unfold stO; rw [eV]; exact bif_app (F := takeS 1) (byte_app _ _).1
  have eN : stN m.k s = some (ncC m ++ (ncU m ++ (ncP m ++ (ncM m ++ (ncQ m ++ ncJ m))))) := by
    unfold stN; rw [eO]; exact bif_app (F := numS) (num_app m.n.h _).1
  have eC : stC m.k s = some (ncU m ++ (ncP m ++ (ncM m ++ (ncQ m ++ ncJ m)))) := by
    unfold stC; rw [eN]; exact bif_app (F := coinsS) (coins_app (by omega) mb.c _)
  have aU : ∀ q, outsR (some ((UInt8.ofNat m.outs.length :: encOs m.outs) ++ q)) = (m.outs, some q) := fun q => outsR_app (by omega) mb.out q
  have eU : stU m.k s = some (ncP m ++ (ncM m ++ (ncQ m ++ ncJ m))) := by
    unfold stU; rw [eC]; exact bif_app (F := fun s => (outsR s).2) (by simp only [aU])
  have aP : ∀ q, takeP (some (encPl m.p ++ q)) = m.p ∧ takeT (some (encPl m.p ++ q)) = some q := fun q => take_app hm.p.1 hm.p.2.1 mb.p.1 (by omega) (fun x hx => ⟨(hm.p.2.2.2.2 x hx).1, mb.p.2.2 x hx⟩) hP q
  have eP : stP m.k s = some (ncM m ++ (ncQ m ++ ncJ m)) := by
    unfold stP; rw [eU]; exact bif_app (F := takeT) (aP _).2
  have eM : stM m.k s = some (ncQ m ++ ncJ m) := by
    unfold stM; rw [eP]; exact bif_app (F := takeS 8) (t8 _ _).1
  have eQ : stQ m.k s = some (ncJ m ++ []) := by
    unfold stQ; rw [eM, List.append_nil]; exact bif_app (F := takeS 2) (t2 _ _).1
  have eJ : stJ m.k s = some [] := by
    unfold stJ; rw [eQ]; exact bif_app (F := flagS) (flag_app _ _).1
  have hR : msgR m.k s = m := by
    conv => rhs; rw [hO]
    unfold msgR onlyM
    simp only [Msg.mk.injEq]
    refine ⟨trivial, ?_, ?_, ?_, ?_, ?_, ?_, ?_, ?_, ?_, ?_, ?_, ?_, ?_⟩
    · rw [hs]; unfold ncE; cases hB m.k 1024
      · exact byteS_cons _ _
      · rfl
    · rw [hs]; unfold ncE; cases hB m.k 1024
      · simp only [cond_false, List.cons_append, List.append_assoc]; rw [(byte_app _ _).1, (t8 _ _).2, be_nBytes8 hm.s]
      · rfl
    · rw [hs]; unfold ncE; cases hB m.k 1024
      · simp only [cond_false, List.cons_append, List.append_assoc]; rw [(byte_app _ _).1, (t8 _ _).1, coinsL_app (by omega) mb.fee]
      · rfl
    · rw [eE]; unfold ncT; cases hB m.k 1
      · rfl
      · exact byteS_cons _ _
    · rw [eT]; unfold ncV; cases hB m.k 2
      · rfl
      · exact byteS_cons _ _
    · rw [eV]; unfold ncO; cases hB m.k 4
      · rfl
      · exact byteS_cons _ _
    · rw [eO]; unfold ncN; cases hB m.k 8
      · rfl
      · exact Num.ext (num_app m.n.h _).2
    · rw [eN]; unfold ncC; cases hB m.k 16
      · rfl
      · exact coinsL_app (by omega) mb.c _
    · rw [eC]; unfold ncU; cases hB m.k 32
      · rfl
      · exact congrArg Prod.fst (aU _)
    · rw [eU]; unfold ncP; cases hB m.k 64
      · rfl
      · exact (aP _).1
    · rw [eP]; unfold ncM; cases hB m.k 128
      · rfl
      · simp only [cond_true]; rw [(t8 _ _).2, be_nBytes8 hm.tm]
    · rw [eM]; unfold ncQ; cases hB m.k 256
      · rfl
      · simp only [cond_true]; rw [(t2 _ _).2, be_nBytes2 hm.pt]
    · rw [eQ]; unfold ncJ; cases hB m.k 512
      · rfl
      · simp only [cond_true]; exact (flag_app _ _).2
  have hD : decB (encM m) = true := by
    unfold decB
    rw [hk, ← hsd, hK, eJ, hR, hr]; rfl
  refine ⟨hD, ?_⟩
  unfold decM
  rw [hD, hk, ← hsd]
  exact hR
end Go.Proofs.Ytdbaddholggkbaa

/-
  The law MsgThere..
-/
namespace Go.Proofs.Ytdbaddholggkbaa
set_option linter.unnecessarySimpa false
set_option maxRecDepth 100000
open Go Go.Vm
set_option linter.unusedSimpArgs false
set_option linter.unusedVariables false
attribute [local simp] evalL wantedA isCall opA evalA evalAll evalsA evalOpt ofValue ofCell plain binA_eql_pn binA_neq_pn binA_gtr binA_lss binA_geq binA_leq binA_add binA_sub binA_eql binA_neq binA_orI binA_shl binA_shr binA_mul binA_quo binA_rem binA_agg_eql binA_agg_neq convA_int unA_not fieldAddrA loadA partA pickA_true pickA_false pickA_bb lenA builtinA storeA splice AV.cells AV.isCell sliceA boundA intA callOf indexAddrA newObjA buildA fillA zeroA ofCells buildSliceA indexA fieldA numA_len4 numA_take4 numA_drop4 set_appN get_appN take_appN List.getElem?_cons_zero List.getElem?_cons_succ makeA zeros64

theorem right_hasK {m : Msg} (h : rightM m = true) : hasK m.k = true := by
  unfold rightM at h
  simp only [Bool.and_eq_true, decide_eq_true_eq] at h
  exact h.1.1.1.1.1.1.1.1.1

set_option maxHeartbeats 1600000 in
attribute [local simp] undefA List.getElem?_cons_zero List.getElem?_cons_succ msgC outsC_noObj persC_noObj in
theorem msgThere_ok {σ : St} {m : Msg} (ha : m.Ok) :
    CallsA Try.prog 12 [.agg (msgC m)] σ (fun av σ' => av = .v (.bool true) ∧ σ = σ') := by
  refine callsA_gcS ?_ rfl
  have s1 := fun σ => small_ok (σ := σ) ha
  have f1 : smallM m = true → ∀ σ, CallsA Try.prog 53 [.agg (msgC m)] σ (fun av σ' => av = .agg (msgC (fitM m)) ∧ σ = σ') := fun h σ => fit_ok ha h
  have hY := fitM_ok ha
  have hR := fit_right m
  obtain ⟨Y, hYd⟩ : ∃ Y, Y = fitM m := ⟨_, rfl⟩
  rw [← hYd] at f1 hY hR
  clear hYd
  have hl := encM_len hR
  obtain ⟨hD, hM⟩ := dec_app hY hR
  have hen := fun σ => encode_ok (σ := σ) hY
  have hde := fun σ => decode_ok (σ := σ) (tl := .shut) hl
  have hby := fun σ => rmbytes_ok (σ := σ) hY (right_mb hR) (right_hasK hR)
  have hsa := fun σ => same_ok (σ := σ) (p := encM Y) (q := encM Y) (t1 := .shut) (t2 := .shut) hl
  have m2 := fun σ => rmsame_ok (σ := σ) hY hY
  have m3 := fun σ => msame_ok (σ := σ) hY hY
  have m4 := fun σ => mright_ok (σ := σ) hY
  rw [hD, hM] at hde
  rw [hR] at hen m4
  simp only [cond_true] at hen hde
  simp only [decide_true] at m2 m3
  simp only [beq_self_eq_true] at hsa
  obtain ⟨E, hE⟩ : ∃ E, E = encM Y := ⟨_, rfl⟩
  obtain ⟨G1, hG1⟩ : ∃ G, G = smallM m := ⟨_, rfl⟩
  simp only [← hE] at hen hde hby hsa
  simp only [← hG1] at s1 f1
  clear hE hG1 hD hM hl hR hY ha
  have hd21 : ∀ f : Nat → AV, List.drop 21 (List.map f (List.range 21)) = [] := fun _ => rfl
  obtain ⟨x1, x2, x3, x4, x5, x6, x7, x8, x9, x10, x11, x12, x13, x14⟩ := m
  obtain ⟨xpk, xps, xpe, xpt, xpq⟩ := x11
  obtain ⟨y1, y2, y3, y4, y5, y6, y7, y8, y9, y10, y11, y12, y13, y14⟩ := Y
  obtain ⟨ypk, yps, ype, ypt, ypq⟩ := y11
  have F := And.intro hd21 (True.intro)
  refine callsA_body Try.func12 rfl rfl rfl ?_; refine sr fun _ hJ2 => ?_; refine hJ2 _ _ ?_; refine sq fun K3 hK3 => ?_; refine sr fun _ hJ5 => ?_; refine ca (c := ends_ok) (k := ?_); rintro _ _ ⟨rfl, rfl⟩; (repeat (first | simp [F] | simp (disch := omega) only [wC, if_pos, if_neg])); refine gs 9 (fun g1_2 => ?_) (fun g1_2 => ?_)
  · (try exact nope g1_2); all_goals have g1_2p := g1_2; try simp [F] at g1_2p
    all_goals
     replace F := aF g1_2 F; (try replace F := aF g1_2p F); (iterate 3 refine no2 (k := ?_)); refine hJ5 _ _ ?_; refine ct ?_; refine sr fun _ hJ7 => ?_; refine ca (c := ends_ok) (k := ?_); rintro _ _ ⟨rfl, rfl⟩; (repeat (first | simp [F] | simp (disch := omega) only [wC, if_pos, if_neg])); refine hJ7 _ _ ?_; refine ra ?_; exact gcr
  (try exact nope g1_2); all_goals have g1_2p := g1_2; try simp [F] at g1_2p
  all_goals
   replace F := aF g1_2 F; (try replace F := aF g1_2p F); refine go2 (k := ?_); refine ca (c := s1 _) (k := ?_); rintro _ _ ⟨rfl, rfl⟩; (repeat (first | simp [F] | simp (disch := omega) only [wC, if_pos, if_neg])); refine go2 (k := ?_); refine hJ5 _ _ ?_; refine cs (fun c13 => ?_) (fun c13 => ?_)
   · (try exact nope c13); all_goals have c13p := c13; try simp [F] at c13p
     all_goals
      replace F := aF c13 F; (try replace F := aF c13p F); refine sr fun _ hJ9 => ?_; refine ca (c := ends_ok) (k := ?_); rintro _ _ ⟨rfl, rfl⟩; (repeat (first | simp [F] | simp (disch := omega) only [wC, if_pos, if_neg])); refine hJ9 _ _ ?_; refine ra ?_; exact gcr
   (try exact nope c13); all_goals have c13p := c13; try simp [F] at c13p
   all_goals
    replace F := aF c13 F; (try replace F := aF c13p F); refine run_skip ?_; refine hK3 _ _ ?_; refine sq fun K10 hK10 => ?_
    have hg1 : G1 = true := by have h := c13; simp at h; exact h
    refine rg' (h := fun J11 hJ11 => ?_); refine ca (c := f1 hg1 _) (k := ?_); rintro _ _ ⟨rfl, rfl⟩; (repeat (first | simp [F] | simp (disch := omega) only [wC, if_pos, if_neg])); refine hJ11 _ _ ?_; refine hK10 _ _ ?_; refine sr fun _ hJ13 => ?_; refine ca (c := hen _) (k := ?_); rintro _ _ ⟨rfl, rfl⟩; (repeat (first | simp [F] | simp (disch := omega) only [wC, if_pos, if_neg])); refine hJ13 _ _ ?_; refine sr fun _ hJ15 => ?_; refine ca (c := hde _) (k := ?_); rintro _ _ ⟨rfl, rfl⟩; (repeat (first | simp [F] | simp (disch := omega) only [wC, if_pos, if_neg])); refine hJ15 _ _ ?_; refine sr fun _ hJ17 => ?_; refine gs 29 (fun g6_2 => ?_) (fun g6_2 => ?_)
    · (try exact nope g6_2); all_goals have g6_2p := g6_2; try simp [F] at g6_2p
      all_goals
       replace F := aF g6_2 F; (try replace F := aF g6_2p F); (iterate 2 refine go2 (k := ?_)); refine gs 33 (fun g6_6 => ?_) (fun g6_6 => ?_)
       · (try exact nope g6_6); all_goals have g6_6p := g6_6; try simp [F] at g6_6p
         all_goals
          replace F := aF g6_6 F; (try replace F := aF g6_6p F); (iterate 2 refine go2 (k := ?_)); refine ca (c := hby _) (k := ?_); rintro _ _ ⟨rfl, rfl⟩; (repeat (first | simp [F] | simp (disch := omega) only [wC, if_pos, if_neg])); refine ca (c := hsa _) (k := ?_); rintro _ _ ⟨rfl, rfl⟩; (repeat (first | simp [F] | simp (disch := omega) only [wC, if_pos, if_neg])); refine gs 39 (fun g6_12 => ?_) (fun g6_12 => ?_)
          · (try exact nope g6_12); all_goals have g6_12p := g6_12; try simp [F] at g6_12p
            all_goals
             replace F := aF g6_12 F; (try replace F := aF g6_12p F); (iterate 2 refine go2 (k := ?_)); refine ca (c := m2 _) (k := ?_); rintro _ _ ⟨rfl, rfl⟩; (repeat (first | simp [F] | simp (disch := omega) only [wC, if_pos, if_neg])); refine gs 44 (fun g6_17 => ?_) (fun g6_17 => ?_)
             · (try exact nope g6_17); all_goals have g6_17p := g6_17; try simp [F] at g6_17p
               all_goals
                replace F := aF g6_17 F; (try replace F := aF g6_17p F); (iterate 2 refine go2 (k := ?_)); refine ca (c := m3 _) (k := ?_); rintro _ _ ⟨rfl, rfl⟩; (repeat (first | simp [F] | simp (disch := omega) only [wC, if_pos, if_neg])); refine gs 49 (fun g6_22 => ?_) (fun g6_22 => ?_)
                · (try exact nope g6_22); all_goals have g6_22p := g6_22; try simp [F] at g6_22p
                  all_goals
                   replace F := aF g6_22 F; (try replace F := aF g6_22p F); refine go2 (k := ?_); refine ca (c := m4 _) (k := ?_); rintro _ _ ⟨rfl, rfl⟩; (repeat (first | simp [F] | simp (disch := omega) only [wC, if_pos, if_neg])); refine hJ17 _ _ ?_; refine ra ?_; exact gcr
                (try exact nope g6_22); all_goals have g6_22p := g6_22; try simp [F] at g6_22p
                all_goals
                 replace F := aF g6_22 F; (try replace F := aF g6_22p F); (iterate 2 refine no2 (k := ?_)); refine hJ17 _ _ ?_; refine ra ?_; exact gcr
             (try exact nope g6_17); all_goals have g6_17p := g6_17; try simp [F] at g6_17p
             all_goals
              replace F := aF g6_17 F; (try replace F := aF g6_17p F); (iterate 5 refine no2 (k := ?_)); refine hJ17 _ _ ?_; refine ra ?_; exact gcr
          (try exact nope g6_12); all_goals have g6_12p := g6_12; try simp [F] at g6_12p
          all_goals
           replace F := aF g6_12 F; (try replace F := aF g6_12p F); (iterate 8 refine no2 (k := ?_)); refine hJ17 _ _ ?_; refine ra ?_; exact gcr
       (try exact nope g6_6); all_goals have g6_6p := g6_6; try simp [F] at g6_6p
       all_goals
        replace F := aF g6_6 F; (try replace F := aF g6_6p F); (iterate 12 refine no2 (k := ?_)); refine hJ17 _ _ ?_; refine ra ?_; exact gcr
    (try exact nope g6_2); all_goals have g6_2p := g6_2; try simp [F] at g6_2p
    all_goals
     replace F := aF g6_2 F; (try replace F := aF g6_2p F); (iterate 14 refine no2 (k := ?_)); refine hJ17 _ _ ?_; refine ra ?_; exact gcr

end Go.Proofs.Ytdbaddholggkbaa

/-
  Arguments: numbers, lists of coins, plans.
-/
namespace Go.Vm
set_option linter.unnecessarySimpa false
set_option linter.unusedVariables false
open Go

theorem leavesF_mono {go go' : TypeId → Option (List TypeId)} (h : ∀ t l, go t = some l → go' t = some l) : ∀ (fs : List Field) (acc ls : List TypeId), leavesF go fs acc = some ls → leavesF go' fs acc = some ls
  | [], acc, ls, e => e
  | f :: fs, acc, ls, e => by
    simp only [leavesF] at e ⊢
    split at e
    · rename_i hf
      rw [if_pos hf]
      cases hg : go f.type with
      | none => rw [hg] at e; cases e
      | some l =>
        rw [hg] at e
        rw [h _ _ hg]
        exact leavesF_mono h fs _ ls e
    · cases e

theorem leaves_succ {P : Program} : ∀ (n : Nat) (t : TypeId) (l : List TypeId), leaves P n t = some l → leaves P (n + 1) t = some l
  | 0, t, l, h => by simp [leaves] at h
  | n + 1, t, l, h => by
    have ih := leaves_succ (P := P) n
    rw [leaves] at h ⊢
    split at h
    · exact h
    · exact h
    · exact h
    · rename_i e hu
      cases hg : leaves P n e with
      | none => rw [hg] at h; cases h
      | some l' => rw [hg] at h; simp only [ih _ _ hg]; exact h
    · rename_i fs hu
      cases hg : leavesF (leaves P n) fs.toList [] with
      | none => rw [hg] at h; cases h
      | some l' => rw [hg] at h; simp only [leavesF_mono ih _ _ _ hg]; exact h
    · rename_i k e hu
      cases hg : leaves P n e with
      | none => rw [hg] at h; cases h
      | some l' => rw [hg] at h; simp only [ih _ _ hg]; exact h
    · cases h

theorem leaves_add {P : Program} {n : Nat} {t : TypeId} {l : List TypeId} (h : leaves P n t = some l) : ∀ k, leaves P (n + k) t = some l
  | 0 => h
  | k + 1 => leaves_succ _ _ _ (leaves_add h k)
theorem leaves_one {P : Program} {n m : Nat} {t : TypeId} {l l' : List TypeId} (h : leaves P n t = some l) (h' : leaves P m t = some l') : l = l' := by
  have h1 := leaves_add h m
  have h2 := leaves_add h' n
  rw [Nat.add_comm] at h2
  rw [h1] at h2
  exact Option.some.inj h2

theorem join4' {a b c d : Nat} (ha : a < 2 ^ 64) (hb : b < 2 ^ 64) (hc : c < 2 ^ 64) (hd : d < 2 ^ 64) : ∃ x, x < 2 ^ 256 ∧ limb x 0 = a ∧ limb x 1 = b ∧ limb x 2 = c ∧ limb x 3 = d := by
  refine ⟨a + 2 ^ 64 * (b + 2 ^ 64 * (c + 2 ^ 64 * d)), ?_, ?_, ?_, ?_, ?_⟩ <;> (try simp only [limb, Nat.reduceMul, Nat.reducePow]) <;> omega

theorem u64_of' {P : Program} {u : TypeId} {a : AV} (hu : P.underlying u = some (.int .u64)) (w : WC P u a) : ∃ n : Nat, n < 2 ^ 64 ∧ a = .v (.int .u64 n) := by
  cases w with
  | bool h => rw [hu] at h; cases h
  | string h _ => rw [hu] at h; cases h
  | slice h _ _ _ _ => rw [hu] at h; cases h
  | int h hw =>
    rename_i k n
    rw [hu] at h
    cases h
    have m1 : IntKind.u64.min = 0 := rfl
    have m2 : IntKind.u64.max = 18446744073709551615 := rfl
    simp [Lit.wf, m1, m2] at hw
    exact ⟨n.toNat, by omega, by congr 2; omega⟩
theorem u8_of {P : Program} {u : TypeId} {a : AV} (hu : P.underlying u = some (.int .u8)) (w : WC P u a) : ∃ b : UInt8, a = .v (.int .u8 b.toNat) := by
  cases w with
  | bool h => rw [hu] at h; cases h
  | string h _ => rw [hu] at h; cases h
  | slice h _ _ _ _ => rw [hu] at h; cases h
  | int h hw =>
    rename_i k n
    rw [hu] at h
    cases h
    have m1 : IntKind.u8.min = 0 := rfl
    have m2 : IntKind.u8.max = 255 := rfl
    simp [Lit.wf, m1, m2] at hw
    refine ⟨UInt8.ofNat n.toNat, ?_⟩
    have e : (UInt8.ofNat n.toNat).toNat = n.toNat := toNat_u8 (by omega)
    rw [e]
    congr 2; omega

theorem num_of {P : Program} {u : TypeId} {a b c d : AV} (hu : P.underlying u = some (.int .u64)) (ha : WC P u a) (hb : WC P u b) (hc : WC P u c) (hd : WC P u d) : ∃ x : Num, [a, b, c, d] = numA x.v := by
  obtain ⟨na, ga, rfl⟩ := u64_of' hu ha
  obtain ⟨nb, gb, rfl⟩ := u64_of' hu hb
  obtain ⟨nc, gc, rfl⟩ := u64_of' hu hc
  obtain ⟨nd, gd, rfl⟩ := u64_of' hu hd
  obtain ⟨x, hx, x0, x1, x2, x3⟩ := join4' ga gb gc gd
  exact ⟨⟨x, hx⟩, by simp [numA, x0, x1, x2, x3]⟩

theorem groups {P : Program} {α : Type} {f : α → List AV} {ls : List TypeId} (hl : 0 < ls.length) (hf : ∀ a, (f a).length = ls.length)
    (one : ∀ cs : List AV, cs.length = ls.length → (∀ (j : Nat) a u, cs[j]? = some a → ls[j]? = some u → WC P u a) → ∃ x, cs = f x) :
    ∀ (n : Nat) (cs : List AV), cs.length = n * ls.length → (∀ (j : Nat) a u, cs[j]? = some a → ls[j % ls.length]? = some u → WC P u a) → ∃ l : List α, l.length = n ∧ cs = l.flatMap f
  | 0, cs, h, _ => ⟨[], rfl, by simpa using h⟩
  | n + 1, cs, h, hc => by
    have hle : ls.length ≤ cs.length := by rw [h, Nat.add_mul]; omega
    obtain ⟨x, hx⟩ := one (cs.take ls.length) (by simp; omega) (fun j a u ha hu => by
      have hj : j < ls.length := (List.getElem?_eq_some_iff.1 hu).1
      rw [List.getElem?_take, if_pos hj] at ha
      exact hc j a u ha (by rw [Nat.mod_eq_of_lt hj]; exact hu))
    obtain ⟨l, hln, hl2⟩ := groups hl hf one n (cs.drop ls.length) (by rw [List.length_drop, h, Nat.add_mul]; omega) (fun j a u ha hu => by
      rw [List.getElem?_drop] at ha
      exact hc (ls.length + j) a u ha (by rw [Nat.add_mod_left]; exact hu))
    exact ⟨x :: l, by simp [hln], by rw [List.flatMap_cons, ← hx, ← hl2, List.take_append_drop]⟩

theorem coins_of {P : Program} {t e tb u : TypeId} {k : Nat} {a : AV} (ht : P.underlying t = some (.slice e)) (hle : leaves P k e = some [tb, u, u, u, u]) (hb : P.underlying tb = some (.int .u8)) (hu : P.underlying u = some (.int .u64)) (w : WC P t a) : ∃ L : List Coin, a = .sl 5 (coinsC L) L.length .shut := by
  cases w with
  | bool h => rw [ht] at h; cases h
  | string h _ => rw [ht] at h; cases h
  | int h _ => rw [ht] at h; cases h
  | slice h hls hl hn hc =>
    rw [ht] at h
    cases h
    rename_i fuel ls cs n
    obtain rfl := leaves_one hle hls
    obtain ⟨L, hL, rfl⟩ := groups (f := coinC) (ls := [tb, u, u, u, u]) (by simp) (fun _ => rfl) (fun cs h1 h2 => by
      obtain ⟨a0, a1, a2, a3, a4, rfl⟩ : ∃ a0 a1 a2 a3 a4, cs = [a0, a1, a2, a3, a4] := by
        match cs, h1 with
        | [a0, a1, a2, a3, a4], _ => exact ⟨a0, a1, a2, a3, a4, rfl⟩
      obtain ⟨b, hb⟩ := u8_of hb (h2 0 a0 tb rfl rfl)
      obtain ⟨x, hx⟩ := num_of hu (h2 1 a1 u rfl rfl) (h2 2 a2 u rfl rfl) (h2 3 a3 u rfl rfl) (h2 4 a4 u rfl rfl)
      exact ⟨⟨b, x⟩, by rw [hb, hx]; rfl⟩) n cs hl hc
    exact ⟨L, by rw [← hL]; rfl⟩

theorem wc_len {P : Program} {t : TypeId} {sz n : Nat} {cs : List AV} {tl : Tail} (w : WC P t (.sl sz cs n tl)) : n ≤ 9223372036854775807 := by
  generalize hx : AV.sl sz cs n tl = x at w
  cases w with
  | bool h => cases hx
  | string h _ => cases hx
  | int h _ => cases hx
  | slice h hls hl hn hc => cases hx; exact hn

theorem pers_of {P : Program} {t e u tc ec tb : TypeId} {k k2 : Nat} {a : AV} (ht : P.underlying t = some (.slice e)) (hle : leaves P k e = some [u, tc]) (hu : P.underlying u = some (.int .u64)) (hb : P.underlying tb = some (.int .u8)) {un : TypeId} (hun : P.underlying un = some (.int .u64))
    (htc : P.underlying tc = some (.slice ec)) (hlc : leaves P k2 ec = some [tb, un, un, un, un]) (w : WC P t a) : ∃ L : List Per, a = .sl 2 (persC L) L.length .shut ∧ L.length ≤ 9223372036854775807 ∧ ∀ x ∈ L, x.l < 2 ^ 64 ∧ x.c.length ≤ 9223372036854775807 := by
  have w0 := w
  cases w with
  | bool h => rw [ht] at h; cases h
  | string h _ => rw [ht] at h; cases h
  | int h _ => rw [ht] at h; cases h
  | slice h hls hl hn hc =>
    rw [ht] at h
    cases h
    rename_i fuel ls cs n
    obtain rfl := leaves_one hle hls
    obtain ⟨L, hL, rfl⟩ := groups (α := { x : Per // x.l < 2 ^ 64 ∧ x.c.length ≤ 9223372036854775807 }) (f := fun x => perC x.1) (ls := [u, tc]) (by simp) (fun _ => rfl) (fun cs h1 h2 => by
      obtain ⟨a0, a1, rfl⟩ : ∃ a0 a1, cs = [a0, a1] := by
        match cs, h1 with
        | [a0, a1], _ => exact ⟨a0, a1, rfl⟩
      obtain ⟨m, hm, e0⟩ := u64_of' hu (h2 0 a0 u rfl rfl)
      have w1 := h2 1 a1 tc rfl rfl
      obtain ⟨M, hM⟩ := coins_of htc hlc hb hun w1
      subst hM
      exact ⟨⟨⟨m, M⟩, hm, wc_len w1⟩, by rw [e0]; rfl⟩) n cs hl hc
    refine ⟨L.map Subtype.val, ?_, by rw [List.length_map, hL]; exact hn, fun x hx => ?_⟩
    · rw [List.length_map, hL]
      show AV.sl 2 _ n .shut = _
      congr 1
      simp [persC]
    · obtain ⟨y, _, rfl⟩ := List.mem_map.1 hx
      exact y.2

theorem u16_of {P : Program} {u : TypeId} {a : AV} (hu : P.underlying u = some (.int .u16)) (w : WC P u a) : ∃ n : Nat, n < 2 ^ 16 ∧ a = .v (.int .u16 n) := by
  cases w with
  | bool h => rw [hu] at h; cases h
  | string h _ => rw [hu] at h; cases h
  | slice h _ _ _ _ => rw [hu] at h; cases h
  | int h hw =>
    rename_i k n
    rw [hu] at h
    cases h
    have m1 : IntKind.u16.min = 0 := rfl
    have m2 : IntKind.u16.max = 65535 := rfl
    simp [Lit.wf, m1, m2] at hw
    exact ⟨n.toNat, by omega, by congr 2; omega⟩
theorem bool_of {P : Program} {u : TypeId} {a : AV} (hu : P.underlying u = some .bool) (w : WC P u a) : ∃ b : Bool, a = .v (.bool b) := by
  cases w with
  | int h _ => rw [hu] at h; cases h
  | string h _ => rw [hu] at h; cases h
  | slice h _ _ _ _ => rw [hu] at h; cases h
  | bool h => exact ⟨_, rfl⟩
theorem outs_of {P : Program} {t e u tc ec tb : TypeId} {k k2 : Nat} {a : AV} (ht : P.underlying t = some (.slice e)) (hle : leaves P k e = some [u, tc]) (hu : P.underlying u = some (.int .u8)) (hb : P.underlying tb = some (.int .u8)) {un : TypeId} (hun : P.underlying un = some (.int .u64))
    (htc : P.underlying tc = some (.slice ec)) (hlc : leaves P k2 ec = some [tb, un, un, un, un]) (w : WC P t a) : ∃ L : List Out, a = .sl 2 (outsC L) L.length .shut ∧ L.length ≤ 9223372036854775807 ∧ ∀ x ∈ L, x.c.length ≤ 9223372036854775807 := by
  have w0 := w
  cases w with
  | bool h => rw [ht] at h; cases h
  | string h _ => rw [ht] at h; cases h
  | int h _ => rw [ht] at h; cases h
  | slice h hls hl hn hc =>
    rw [ht] at h
    cases h
    rename_i fuel ls cs n
    obtain rfl := leaves_one hle hls
    obtain ⟨L, hL, rfl⟩ := groups (α := { x : Out // x.c.length ≤ 9223372036854775807 }) (f := fun x => outC x.1) (ls := [u, tc]) (by simp) (fun _ => rfl) (fun cs h1 h2 => by
      obtain ⟨a0, a1, rfl⟩ : ∃ a0 a1, cs = [a0, a1] := by
        match cs, h1 with
        | [a0, a1], _ => exact ⟨a0, a1, rfl⟩
      obtain ⟨m, e0⟩ := u8_of hu (h2 0 a0 u rfl rfl)
      have w1 := h2 1 a1 tc rfl rfl
      obtain ⟨M, hM⟩ := coins_of htc hlc hb hun w1
      subst hM
      exact ⟨⟨⟨m, M⟩, wc_len w1⟩, by rw [e0]; rfl⟩) n cs hl hc
    refine ⟨L.map Subtype.val, ?_, by rw [List.length_map, hL]; exact hn, fun x hx => ?_⟩
    · rw [List.length_map, hL]
      show AV.sl 2 _ n .shut = _
      congr 1
      simp [outsC]
    · obtain ⟨y, _, rfl⟩ := List.mem_map.1 hx
      exact y.2

set_option maxHeartbeats 1000000 in
theorem msg_of {P : Program} {tk u tc to tp eo e ec tb un u16 tbo : TypeId} {k k2 k3 : Nat} {l : List AV} (h1 : l.length = [tk, tk, u, tc, tk, tk, tk, un, un, un, un, tc, to, tk, u, u, tc, tp, u, u16, tbo].length) (h2 : ∀ (j : Nat) a v, l[j]? = some a → [tk, tk, u, tc, tk, tk, tk, un, un, un, un, tc, to, tk, u, u, tc, tp, u, u16, tbo][j]? = some v → WC P v a)
    (hk : P.underlying tk = some (.int .u8)) (hu : P.underlying u = some (.int .u64)) (h16 : P.underlying u16 = some (.int .u16)) (hbo : P.underlying tbo = some .bool) (hb : P.underlying tb = some (.int .u8)) (hun : P.underlying un = some (.int .u64))
    (htc : P.underlying tc = some (.slice ec)) (hlc : leaves P k2 ec = some [tb, un, un, un, un]) (htp : P.underlying tp = some (.slice e)) (hle : leaves P k e = some [u, tc]) (hto : P.underlying to = some (.slice eo)) (hlo : leaves P k3 eo = some [tk, tc]) : ∃ m : Msg, l = msgC m ∧ m.Ok := by
  match l, h1, h2 with
  | [a0, a1, a2, a3, a4, a5, a6, a7, a8, a9, a10, a11, a12, a13, a14, a15, a16, a17, a18, a19, a20], _, h2 =>
    obtain ⟨b0, rfl⟩ := u8_of hk (h2 0 a0 _ rfl rfl)
    obtain ⟨b1, rfl⟩ := u8_of hk (h2 1 a1 _ rfl rfl)
    obtain ⟨n2, q2, rfl⟩ := u64_of' hu (h2 2 a2 _ rfl rfl)
    have w3 := h2 3 a3 _ rfl rfl
    obtain ⟨M3, rfl⟩ := coins_of htc hlc hb hun w3
    obtain ⟨b4, rfl⟩ := u8_of hk (h2 4 a4 _ rfl rfl)
    obtain ⟨b5, rfl⟩ := u8_of hk (h2 5 a5 _ rfl rfl)
    obtain ⟨b6, rfl⟩ := u8_of hk (h2 6 a6 _ rfl rfl)
    obtain ⟨x7, hx⟩ := num_of hun (h2 7 a7 _ rfl rfl) (h2 8 a8 _ rfl rfl) (h2 9 a9 _ rfl rfl) (h2 10 a10 _ rfl rfl)
    have w11 := h2 11 a11 _ rfl rfl
    obtain ⟨M11, rfl⟩ := coins_of htc hlc hb hun w11
    obtain ⟨O12, rfl, q12, r12⟩ := outs_of hto hlo hk hb hun htc hlc (h2 12 a12 _ rfl rfl)
    obtain ⟨b13, rfl⟩ := u8_of hk (h2 13 a13 _ rfl rfl)
    obtain ⟨n14, q14, rfl⟩ := u64_of' hu (h2 14 a14 _ rfl rfl)
    obtain ⟨n15, q15, rfl⟩ := u64_of' hu (h2 15 a15 _ rfl rfl)
    have w16 := h2 16 a16 _ rfl rfl
    obtain ⟨M16, rfl⟩ := coins_of htc hlc hb hun w16
    obtain ⟨P17, rfl, q17, r17⟩ := pers_of htp hle hu hb hun htc hlc (h2 17 a17 _ rfl rfl)
    obtain ⟨n18, q18, rfl⟩ := u64_of' hu (h2 18 a18 _ rfl rfl)
    obtain ⟨n19, q19, rfl⟩ := u16_of h16 (h2 19 a19 _ rfl rfl)
    obtain ⟨b20, rfl⟩ := bool_of hbo (h2 20 a20 _ rfl rfl)
    simp only [numA, List.cons.injEq, and_true] at hx
    obtain ⟨rfl, rfl, rfl, rfl⟩ := hx
    exact ⟨⟨b0, b1, n2, M3, b4, b5, b6, x7, M11, O12, ⟨b13, n14, n15, M16, P17⟩, n18, n19, b20⟩, rfl, q2, wc_len w3, wc_len w11, q12, r12, ⟨q14, q15, wc_len w16, q17, r17⟩, q18, q19⟩

theorem msg_arg {P : Program} {n k k2 k3 : Nat} {t tk u tc to tp eo e ec tb un u16 tbo : TypeId} {H : Type} {enc : TypeId × Value → H} {W : World} {spare : Nat → Bool} {cs : Array Value} {d : DataW H} {ps : List MemPlace} (hl : leaves P n t = some [tk, tk, u, tc, tk, tk, tk, un, un, un, un, tc, to, tk, u, u, tc, tp, u, u16, tbo])
    (hk : P.underlying tk = some (.int .u8)) (hu : P.underlying u = some (.int .u64)) (h16 : P.underlying u16 = some (.int .u16)) (hbo : P.underlying tbo = some .bool) (hb : P.underlying tb = some (.int .u8)) (hun : P.underlying un = some (.int .u64))
    (htc : P.underlying tc = some (.slice ec)) (hlc : leaves P k2 ec = some [tb, un, un, un, un]) (htp : P.underlying tp = some (.slice e)) (hle : leaves P k e = some [u, tc]) (hto : P.underlying to = some (.slice eo)) (hlo : leaves P k3 eo = some [tk, tc])
    (h : DataW.Trod enc P W 0 spare true t (.agg cs) d ps) : ∃ m : Msg, m.Ok ∧ AVR (atFirst W) W (.agg cs) (.agg (msgC m)) := by
  obtain ⟨l, h1, h2, h3, h4⟩ := open_arg hl h
  have hc : Value.cells (.agg cs) = cs := rfl
  rw [hc] at h2 h3
  obtain ⟨m, rfl, hm⟩ := msg_of h1 h4 hk hu h16 hbo hb hun htc hlc htp hle hto hlo
  exact ⟨m, hm, .agg h2 h3⟩
end Go.Vm
